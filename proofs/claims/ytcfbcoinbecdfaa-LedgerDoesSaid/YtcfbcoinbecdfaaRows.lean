/-
  No cell of these rows narrows 'for every input' (looked for: loops, veiled, ifaces, maps, wideKeys, modest, calm, conditions, laid).
  DERIVED. THE GIVEN ROWS OF THIS SEAT. 18 by the template 'for every input the law returns true; each argument reads behind the call as it read before'; 0 by the template 'total and deterministic' (their statements: YtcfbcoinbecdfaaTotals.lean).
  GIVEN WITH THE SEED: the statements are not yours to turn. If you find one false, say at which input.
  Laid BY PROGRAM, IN A SANDBOX (cutbox-rows.mjs): the forced cells as the released guide's own fill.sh prints them over the translation c64f4f2ae08423f7… (all of the seat's roots in one cut). By AI agents, Wed Nov 11 2026. No macro, syntax, notation, axiom, sorry.
-/
import Derived.Test.YtcfbcoinbecdfaaChecked
import GoSem.Claim
import GoSem.ClaimJoined
import GoSem.ClaimMapViews
import Derived.JoinedTies
import Derived.KernelRfl
namespace Go.Proofs.Ytcfbcoinbecdfaa
/- THE CELL 'sum', in the pinned program and in every row, IS THE sha256 OF THE DUMP (.gsa) THAT YtcfbcoinbecdfaaProg.lean LOADS. Nothing in Lean hashes anything: it is a label: what it is worth is what the hold of that sum in a sandbox is worth. -/
noncomputable def Try.pinned : Pinned := { name := "ytcfbcoinbecdfaa", sum := "c64f4f2ae08423f73a9cf266aeac8ad05760f1c2b09f65c62d8cab85279911fc", checked := Try.checked }
namespace Rows
def none {H : Type} : Left H := { results := [], args := [] }

/-- 'damsonlaw09.ChannelRoom': WHATEVER THE INPUT: true; the input reads as it did. -/
def channelRoomSpec : ChangeSpec := { name := "channelRoom", fn := fun _ => fun
  | [d1, d2, d3] => { results := [.lit (.bool true)], args := [d1, d2, d3] }
  | _ => none }
def channelRoomRow : OpenClaim := { program := "ytcfbcoinbecdfaa", sum := "c64f4f2ae08423f73a9cf266aeac8ad05760f1c2b09f65c62d8cab85279911fc", func := "damson/damsonlaw09.ChannelRoom", spec := "channelRoom", inPlace := ["slices.overlaps[damson/api.Hold]", "math/bits.Sub64"], unfollowed := true, recurses := true, plainKeys := false, apart := false }
def ChannelRoomSaid : Prop := channelRoomRow.holds Try.pinned (OpenSpec.ofChange channelRoomSpec)

/-- ITS FALSE NEIGHBOUR: 'it returns false'. Refute it at one input. -/
def channelRoomWrong : ChangeSpec := { name := "channelRoom", fn := fun _ => fun
  | [d1, d2, d3] => { results := [.lit (.bool false)], args := [d1, d2, d3] }
  | _ => none }
def ChannelRoomWrongFalsely : Prop := channelRoomRow.holds Try.pinned (OpenSpec.ofChange channelRoomWrong)

/-- 'damsonlaw09.ChannelBack': WHATEVER THE INPUT: true; the input reads as it did. -/
def channelBackSpec : ChangeSpec := { name := "channelBack", fn := fun _ => fun
  | [d1, d2, d3] => { results := [.lit (.bool true)], args := [d1, d2, d3] }
  | _ => none }
def channelBackRow : OpenClaim := { program := "ytcfbcoinbecdfaa", sum := "c64f4f2ae08423f73a9cf266aeac8ad05760f1c2b09f65c62d8cab85279911fc", func := "damson/damsonlaw09.ChannelBack", spec := "channelBack", inPlace := ["slices.overlaps[damson/api.Hold]"], unfollowed := true, recurses := true, plainKeys := false, apart := false }
def ChannelBackSaid : Prop := channelBackRow.holds Try.pinned (OpenSpec.ofChange channelBackSpec)

/-- ITS FALSE NEIGHBOUR: 'it returns false'. Refute it at one input. -/
def channelBackWrong : ChangeSpec := { name := "channelBack", fn := fun _ => fun
  | [d1, d2, d3] => { results := [.lit (.bool false)], args := [d1, d2, d3] }
  | _ => none }
def ChannelBackWrongFalsely : Prop := channelBackRow.holds Try.pinned (OpenSpec.ofChange channelBackWrong)

/-- 'damsonlaw09.ChannelApart': WHATEVER THE INPUT: true; the input reads as it did. -/
def channelApartSpec : ChangeSpec := { name := "channelApart", fn := fun _ => fun
  | [d1, d2, d3, d4, d5] => { results := [.lit (.bool true)], args := [d1, d2, d3, d4, d5] }
  | _ => none }
def channelApartRow : OpenClaim := { program := "ytcfbcoinbecdfaa", sum := "c64f4f2ae08423f73a9cf266aeac8ad05760f1c2b09f65c62d8cab85279911fc", func := "damson/damsonlaw09.ChannelApart", spec := "channelApart", inPlace := ["slices.overlaps[damson/api.Hold]"], unfollowed := true, recurses := true, plainKeys := false, apart := false }
def ChannelApartSaid : Prop := channelApartRow.holds Try.pinned (OpenSpec.ofChange channelApartSpec)

/-- ITS FALSE NEIGHBOUR: 'it returns false'. Refute it at one input. -/
def channelApartWrong : ChangeSpec := { name := "channelApart", fn := fun _ => fun
  | [d1, d2, d3, d4, d5] => { results := [.lit (.bool false)], args := [d1, d2, d3, d4, d5] }
  | _ => none }
def ChannelApartWrongFalsely : Prop := channelApartRow.holds Try.pinned (OpenSpec.ofChange channelApartWrong)

/-- 'damsonlaw09.ChannelTells': WHATEVER THE INPUT: true; the input reads as it did. -/
def channelTellsSpec : ChangeSpec := { name := "channelTells", fn := fun _ => fun
  | [d1, d2] => { results := [.lit (.bool true)], args := [d1, d2] }
  | _ => none }
def channelTellsRow : OpenClaim := { program := "ytcfbcoinbecdfaa", sum := "c64f4f2ae08423f73a9cf266aeac8ad05760f1c2b09f65c62d8cab85279911fc", func := "damson/damsonlaw09.ChannelTells", spec := "channelTells", inPlace := ["slices.overlaps[damson/api.Hold]", "math/bits.Sub64"], unfollowed := true, recurses := true, plainKeys := false, apart := false }
def ChannelTellsSaid : Prop := channelTellsRow.holds Try.pinned (OpenSpec.ofChange channelTellsSpec)

/-- ITS FALSE NEIGHBOUR: 'it returns false'. Refute it at one input. -/
def channelTellsWrong : ChangeSpec := { name := "channelTells", fn := fun _ => fun
  | [d1, d2] => { results := [.lit (.bool false)], args := [d1, d2] }
  | _ => none }
def ChannelTellsWrongFalsely : Prop := channelTellsRow.holds Try.pinned (OpenSpec.ofChange channelTellsWrong)

/-- 'damsonlaw09.ChannelShut': WHATEVER THE INPUT: true; the input reads as it did. -/
def channelShutSpec : ChangeSpec := { name := "channelShut", fn := fun _ => fun
  | [d1, d2, d3] => { results := [.lit (.bool true)], args := [d1, d2, d3] }
  | _ => none }
def channelShutRow : OpenClaim := { program := "ytcfbcoinbecdfaa", sum := "c64f4f2ae08423f73a9cf266aeac8ad05760f1c2b09f65c62d8cab85279911fc", func := "damson/damsonlaw09.ChannelShut", spec := "channelShut", inPlace := ["slices.overlaps[damson/api.Hold]", "math/bits.Sub64"], unfollowed := true, recurses := true, plainKeys := false, apart := false }
def ChannelShutSaid : Prop := channelShutRow.holds Try.pinned (OpenSpec.ofChange channelShutSpec)

/-- ITS FALSE NEIGHBOUR: 'it returns false'. Refute it at one input. -/
def channelShutWrong : ChangeSpec := { name := "channelShut", fn := fun _ => fun
  | [d1, d2, d3] => { results := [.lit (.bool false)], args := [d1, d2, d3] }
  | _ => none }
def ChannelShutWrongFalsely : Prop := channelShutRow.holds Try.pinned (OpenSpec.ofChange channelShutWrong)

/-- 'damsonlaw09.ChannelKeeps': WHATEVER THE INPUT: true; the input reads as it did. -/
def channelKeepsSpec : ChangeSpec := { name := "channelKeeps", fn := fun _ => fun
  | [d1, d2, d3, d4] => { results := [.lit (.bool true)], args := [d1, d2, d3, d4] }
  | _ => none }
def channelKeepsRow : OpenClaim := { program := "ytcfbcoinbecdfaa", sum := "c64f4f2ae08423f73a9cf266aeac8ad05760f1c2b09f65c62d8cab85279911fc", func := "damson/damsonlaw09.ChannelKeeps", spec := "channelKeeps", inPlace := ["slices.overlaps[damson/api.Hold]", "math/bits.Sub64"], unfollowed := true, recurses := true, plainKeys := false, apart := false }
def ChannelKeepsSaid : Prop := channelKeepsRow.holds Try.pinned (OpenSpec.ofChange channelKeepsSpec)

/-- ITS FALSE NEIGHBOUR: 'it returns false'. Refute it at one input. -/
def channelKeepsWrong : ChangeSpec := { name := "channelKeeps", fn := fun _ => fun
  | [d1, d2, d3, d4] => { results := [.lit (.bool false)], args := [d1, d2, d3, d4] }
  | _ => none }
def ChannelKeepsWrongFalsely : Prop := channelKeepsRow.holds Try.pinned (OpenSpec.ofChange channelKeepsWrong)

/-- 'damsonlaw09.ChannelDoes': WHATEVER THE INPUT: true; the input reads as it did. -/
def channelDoesSpec : ChangeSpec := { name := "channelDoes", fn := fun _ => fun
  | [d1, d2, d3] => { results := [.lit (.bool true)], args := [d1, d2, d3] }
  | _ => none }
def channelDoesRow : OpenClaim := { program := "ytcfbcoinbecdfaa", sum := "c64f4f2ae08423f73a9cf266aeac8ad05760f1c2b09f65c62d8cab85279911fc", func := "damson/damsonlaw09.ChannelDoes", spec := "channelDoes", inPlace := ["slices.overlaps[damson/api.Hold]", "math/bits.Sub64"], unfollowed := true, recurses := true, plainKeys := false, apart := false }
def ChannelDoesSaid : Prop := channelDoesRow.holds Try.pinned (OpenSpec.ofChange channelDoesSpec)

/-- ITS FALSE NEIGHBOUR: 'it returns false'. Refute it at one input. -/
def channelDoesWrong : ChangeSpec := { name := "channelDoes", fn := fun _ => fun
  | [d1, d2, d3] => { results := [.lit (.bool false)], args := [d1, d2, d3] }
  | _ => none }
def ChannelDoesWrongFalsely : Prop := channelDoesRow.holds Try.pinned (OpenSpec.ofChange channelDoesWrong)

/-- 'damsonlaw10.LedgerOpens': WHATEVER THE INPUT: true; the input reads as it did. -/
def ledgerOpensSpec : ChangeSpec := { name := "ledgerOpens", fn := fun _ => fun
  | [d1, d2, d3] => { results := [.lit (.bool true)], args := [d1, d2, d3] }
  | _ => none }
def ledgerOpensRow : OpenClaim := { program := "ytcfbcoinbecdfaa", sum := "c64f4f2ae08423f73a9cf266aeac8ad05760f1c2b09f65c62d8cab85279911fc", func := "damson/damsonlaw10.LedgerOpens", spec := "ledgerOpens", inPlace := ["slices.overlaps[damson/api.Channel]", "slices.overlaps[damson/api.Hold]"], unfollowed := true, recurses := true, plainKeys := false, apart := false }
def LedgerOpensSaid : Prop := ledgerOpensRow.holds Try.pinned (OpenSpec.ofChange ledgerOpensSpec)

/-- ITS FALSE NEIGHBOUR: 'it returns false'. Refute it at one input. -/
def ledgerOpensWrong : ChangeSpec := { name := "ledgerOpens", fn := fun _ => fun
  | [d1, d2, d3] => { results := [.lit (.bool false)], args := [d1, d2, d3] }
  | _ => none }
def LedgerOpensWrongFalsely : Prop := ledgerOpensRow.holds Try.pinned (OpenSpec.ofChange ledgerOpensWrong)

/-- 'damsonlaw10.LedgerTells': WHATEVER THE INPUT: true; the input reads as it did. -/
def ledgerTellsSpec : ChangeSpec := { name := "ledgerTells", fn := fun _ => fun
  | [d1, d2, d3, d4] => { results := [.lit (.bool true)], args := [d1, d2, d3, d4] }
  | _ => none }
def ledgerTellsRow : OpenClaim := { program := "ytcfbcoinbecdfaa", sum := "c64f4f2ae08423f73a9cf266aeac8ad05760f1c2b09f65c62d8cab85279911fc", func := "damson/damsonlaw10.LedgerTells", spec := "ledgerTells", inPlace := ["slices.overlaps[damson/api.Channel]", "slices.overlaps[damson/api.Hold]"], unfollowed := true, recurses := true, plainKeys := false, apart := false }
def LedgerTellsSaid : Prop := ledgerTellsRow.holds Try.pinned (OpenSpec.ofChange ledgerTellsSpec)

/-- ITS FALSE NEIGHBOUR: 'it returns false'. Refute it at one input. -/
def ledgerTellsWrong : ChangeSpec := { name := "ledgerTells", fn := fun _ => fun
  | [d1, d2, d3, d4] => { results := [.lit (.bool false)], args := [d1, d2, d3, d4] }
  | _ => none }
def LedgerTellsWrongFalsely : Prop := ledgerTellsRow.holds Try.pinned (OpenSpec.ofChange ledgerTellsWrong)

/-- 'damsonlaw10.LedgerOurs': WHATEVER THE INPUT: true; the input reads as it did. -/
def ledgerOursSpec : ChangeSpec := { name := "ledgerOurs", fn := fun _ => fun
  | [d1, d2, d3, d4] => { results := [.lit (.bool true)], args := [d1, d2, d3, d4] }
  | _ => none }
def ledgerOursRow : OpenClaim := { program := "ytcfbcoinbecdfaa", sum := "c64f4f2ae08423f73a9cf266aeac8ad05760f1c2b09f65c62d8cab85279911fc", func := "damson/damsonlaw10.LedgerOurs", spec := "ledgerOurs", inPlace := ["slices.overlaps[damson/api.Channel]", "slices.overlaps[damson/api.Hold]"], unfollowed := true, recurses := true, plainKeys := false, apart := false }
def LedgerOursSaid : Prop := ledgerOursRow.holds Try.pinned (OpenSpec.ofChange ledgerOursSpec)

/-- ITS FALSE NEIGHBOUR: 'it returns false'. Refute it at one input. -/
def ledgerOursWrong : ChangeSpec := { name := "ledgerOurs", fn := fun _ => fun
  | [d1, d2, d3, d4] => { results := [.lit (.bool false)], args := [d1, d2, d3, d4] }
  | _ => none }
def LedgerOursWrongFalsely : Prop := ledgerOursRow.holds Try.pinned (OpenSpec.ofChange ledgerOursWrong)

/-- 'damsonlaw10.LedgerOne': WHATEVER THE INPUT: true; the input reads as it did. -/
def ledgerOneSpec : ChangeSpec := { name := "ledgerOne", fn := fun _ => fun
  | [d1, d2, d3, d4, d5] => { results := [.lit (.bool true)], args := [d1, d2, d3, d4, d5] }
  | _ => none }
def ledgerOneRow : OpenClaim := { program := "ytcfbcoinbecdfaa", sum := "c64f4f2ae08423f73a9cf266aeac8ad05760f1c2b09f65c62d8cab85279911fc", func := "damson/damsonlaw10.LedgerOne", spec := "ledgerOne", inPlace := ["slices.overlaps[damson/api.Channel]", "slices.overlaps[damson/api.Hold]"], unfollowed := true, recurses := true, plainKeys := false, apart := false }
def LedgerOneSaid : Prop := ledgerOneRow.holds Try.pinned (OpenSpec.ofChange ledgerOneSpec)

/-- ITS FALSE NEIGHBOUR: 'it returns false'. Refute it at one input. -/
def ledgerOneWrong : ChangeSpec := { name := "ledgerOne", fn := fun _ => fun
  | [d1, d2, d3, d4, d5] => { results := [.lit (.bool false)], args := [d1, d2, d3, d4, d5] }
  | _ => none }
def LedgerOneWrongFalsely : Prop := ledgerOneRow.holds Try.pinned (OpenSpec.ofChange ledgerOneWrong)

/-- 'damsonlaw10.LedgerDoes': WHATEVER THE INPUT: true; the input reads as it did. -/
def ledgerDoesSpec : ChangeSpec := { name := "ledgerDoes", fn := fun _ => fun
  | [d1, d2, d3, d4, d5, d6] => { results := [.lit (.bool true)], args := [d1, d2, d3, d4, d5, d6] }
  | _ => none }
def ledgerDoesRow : OpenClaim := { program := "ytcfbcoinbecdfaa", sum := "c64f4f2ae08423f73a9cf266aeac8ad05760f1c2b09f65c62d8cab85279911fc", func := "damson/damsonlaw10.LedgerDoes", spec := "ledgerDoes", inPlace := ["slices.overlaps[damson/api.Channel]", "slices.overlaps[damson/api.Hold]", "math/bits.Sub64"], unfollowed := true, recurses := true, plainKeys := false, apart := false }
def LedgerDoesSaid : Prop := ledgerDoesRow.holds Try.pinned (OpenSpec.ofChange ledgerDoesSpec)

/-- ITS FALSE NEIGHBOUR: 'it returns false'. Refute it at one input. -/
def ledgerDoesWrong : ChangeSpec := { name := "ledgerDoes", fn := fun _ => fun
  | [d1, d2, d3, d4, d5, d6] => { results := [.lit (.bool false)], args := [d1, d2, d3, d4, d5, d6] }
  | _ => none }
def LedgerDoesWrongFalsely : Prop := ledgerDoesRow.holds Try.pinned (OpenSpec.ofChange ledgerDoesWrong)

/-- 'damsonlaw10.LedgerKeeps': WHATEVER THE INPUT: true; the input reads as it did. -/
def ledgerKeepsSpec : ChangeSpec := { name := "ledgerKeeps", fn := fun _ => fun
  | [d1, d2, d3, d4, d5] => { results := [.lit (.bool true)], args := [d1, d2, d3, d4, d5] }
  | _ => none }
def ledgerKeepsRow : OpenClaim := { program := "ytcfbcoinbecdfaa", sum := "c64f4f2ae08423f73a9cf266aeac8ad05760f1c2b09f65c62d8cab85279911fc", func := "damson/damsonlaw10.LedgerKeeps", spec := "ledgerKeeps", inPlace := ["slices.overlaps[damson/api.Channel]", "slices.overlaps[damson/api.Hold]", "math/bits.Sub64"], unfollowed := true, recurses := true, plainKeys := false, apart := false }
def LedgerKeepsSaid : Prop := ledgerKeepsRow.holds Try.pinned (OpenSpec.ofChange ledgerKeepsSpec)

/-- ITS FALSE NEIGHBOUR: 'it returns false'. Refute it at one input. -/
def ledgerKeepsWrong : ChangeSpec := { name := "ledgerKeeps", fn := fun _ => fun
  | [d1, d2, d3, d4, d5] => { results := [.lit (.bool false)], args := [d1, d2, d3, d4, d5] }
  | _ => none }
def LedgerKeepsWrongFalsely : Prop := ledgerKeepsRow.holds Try.pinned (OpenSpec.ofChange ledgerKeepsWrong)

/-- 'damsonlaw13.PaymentOnce': WHATEVER THE INPUT: true; the input reads as it did. -/
def paymentOnceSpec : ChangeSpec := { name := "paymentOnce", fn := fun _ => fun
  | [d1, d2, d3, d4, d5] => { results := [.lit (.bool true)], args := [d1, d2, d3, d4, d5] }
  | _ => none }
def paymentOnceRow : OpenClaim := { program := "ytcfbcoinbecdfaa", sum := "c64f4f2ae08423f73a9cf266aeac8ad05760f1c2b09f65c62d8cab85279911fc", func := "damson/damsonlaw13.PaymentOnce", spec := "paymentOnce", inPlace := ["slices.overlaps[damson/api.Payment]"], unfollowed := true, recurses := true, plainKeys := false, apart := false }
def PaymentOnceSaid : Prop := paymentOnceRow.holds Try.pinned (OpenSpec.ofChange paymentOnceSpec)

/-- ITS FALSE NEIGHBOUR: 'it returns false'. Refute it at one input. -/
def paymentOnceWrong : ChangeSpec := { name := "paymentOnce", fn := fun _ => fun
  | [d1, d2, d3, d4, d5] => { results := [.lit (.bool false)], args := [d1, d2, d3, d4, d5] }
  | _ => none }
def PaymentOnceWrongFalsely : Prop := paymentOnceRow.holds Try.pinned (OpenSpec.ofChange paymentOnceWrong)

/-- 'damsonlaw13.PaymentOthers': WHATEVER THE INPUT: true; the input reads as it did. -/
def paymentOthersSpec : ChangeSpec := { name := "paymentOthers", fn := fun _ => fun
  | [d1, d2, d3, d4, d5] => { results := [.lit (.bool true)], args := [d1, d2, d3, d4, d5] }
  | _ => none }
def paymentOthersRow : OpenClaim := { program := "ytcfbcoinbecdfaa", sum := "c64f4f2ae08423f73a9cf266aeac8ad05760f1c2b09f65c62d8cab85279911fc", func := "damson/damsonlaw13.PaymentOthers", spec := "paymentOthers", inPlace := ["slices.overlaps[damson/api.Payment]"], unfollowed := true, recurses := true, plainKeys := false, apart := false }
def PaymentOthersSaid : Prop := paymentOthersRow.holds Try.pinned (OpenSpec.ofChange paymentOthersSpec)

/-- ITS FALSE NEIGHBOUR: 'it returns false'. Refute it at one input. -/
def paymentOthersWrong : ChangeSpec := { name := "paymentOthers", fn := fun _ => fun
  | [d1, d2, d3, d4, d5] => { results := [.lit (.bool false)], args := [d1, d2, d3, d4, d5] }
  | _ => none }
def PaymentOthersWrongFalsely : Prop := paymentOthersRow.holds Try.pinned (OpenSpec.ofChange paymentOthersWrong)

/-- 'damsonlaw13.PaymentHeld': WHATEVER THE INPUT: true; the input reads as it did. -/
def paymentHeldSpec : ChangeSpec := { name := "paymentHeld", fn := fun _ => fun
  | [d1, d2, d3, d4] => { results := [.lit (.bool true)], args := [d1, d2, d3, d4] }
  | _ => none }
def paymentHeldRow : OpenClaim := { program := "ytcfbcoinbecdfaa", sum := "c64f4f2ae08423f73a9cf266aeac8ad05760f1c2b09f65c62d8cab85279911fc", func := "damson/damsonlaw13.PaymentHeld", spec := "paymentHeld", inPlace := ["slices.overlaps[damson/api.Payment]"], unfollowed := true, recurses := true, plainKeys := false, apart := false }
def PaymentHeldSaid : Prop := paymentHeldRow.holds Try.pinned (OpenSpec.ofChange paymentHeldSpec)

/-- ITS FALSE NEIGHBOUR: 'it returns false'. Refute it at one input. -/
def paymentHeldWrong : ChangeSpec := { name := "paymentHeld", fn := fun _ => fun
  | [d1, d2, d3, d4] => { results := [.lit (.bool false)], args := [d1, d2, d3, d4] }
  | _ => none }
def PaymentHeldWrongFalsely : Prop := paymentHeldRow.holds Try.pinned (OpenSpec.ofChange paymentHeldWrong)

/-- 'damsonlaw13.PaymentDoes': WHATEVER THE INPUT: true; the input reads as it did. -/
def paymentDoesSpec : ChangeSpec := { name := "paymentDoes", fn := fun _ => fun
  | [d1, d2, d3, d4, d5] => { results := [.lit (.bool true)], args := [d1, d2, d3, d4, d5] }
  | _ => none }
def paymentDoesRow : OpenClaim := { program := "ytcfbcoinbecdfaa", sum := "c64f4f2ae08423f73a9cf266aeac8ad05760f1c2b09f65c62d8cab85279911fc", func := "damson/damsonlaw13.PaymentDoes", spec := "paymentDoes", inPlace := ["slices.overlaps[damson/api.Payment]"], unfollowed := true, recurses := true, plainKeys := false, apart := false }
def PaymentDoesSaid : Prop := paymentDoesRow.holds Try.pinned (OpenSpec.ofChange paymentDoesSpec)

/-- ITS FALSE NEIGHBOUR: 'it returns false'. Refute it at one input. -/
def paymentDoesWrong : ChangeSpec := { name := "paymentDoes", fn := fun _ => fun
  | [d1, d2, d3, d4, d5] => { results := [.lit (.bool false)], args := [d1, d2, d3, d4, d5] }
  | _ => none }
def PaymentDoesWrongFalsely : Prop := paymentDoesRow.holds Try.pinned (OpenSpec.ofChange paymentDoesWrong)

/-- 'damsonlaw13.PaymentHolds': WHATEVER THE INPUT: true; the input reads as it did. -/
def paymentHoldsSpec : ChangeSpec := { name := "paymentHolds", fn := fun _ => fun
  | [d1, d2, d3, d4] => { results := [.lit (.bool true)], args := [d1, d2, d3, d4] }
  | _ => none }
def paymentHoldsRow : OpenClaim := { program := "ytcfbcoinbecdfaa", sum := "c64f4f2ae08423f73a9cf266aeac8ad05760f1c2b09f65c62d8cab85279911fc", func := "damson/damsonlaw13.PaymentHolds", spec := "paymentHolds", inPlace := ["slices.overlaps[damson/api.Payment]", "slices.overlaps[damson/api.Hold]"], unfollowed := true, recurses := true, plainKeys := false, apart := false }
def PaymentHoldsSaid : Prop := paymentHoldsRow.holds Try.pinned (OpenSpec.ofChange paymentHoldsSpec)

/-- ITS FALSE NEIGHBOUR: 'it returns false'. Refute it at one input. -/
def paymentHoldsWrong : ChangeSpec := { name := "paymentHolds", fn := fun _ => fun
  | [d1, d2, d3, d4] => { results := [.lit (.bool false)], args := [d1, d2, d3, d4] }
  | _ => none }
def PaymentHoldsWrongFalsely : Prop := paymentHoldsRow.holds Try.pinned (OpenSpec.ofChange paymentHoldsWrong)

/- THE SECOND FORM. 'bulk': how many values and letters a reading holds, each counted each time it is reached (what is shared counts as often as it is met; a slice's spare places count too). A statement '..UptoSaid' is the law's where the arguments, and the package variables that the reading takes, are together of bulk at most 1048576: NARROWER than '..Said'. Prove '..Said' where nothing that the law and all that it calls make is longer than what came in: it says more and counts as full. Else prove '..UptoSaid'. A law counts once. -/
mutual
def uptoBulk {H : Type} : DataW H → Nat
  | .lit (.string bytes) => bytes.length + 1
  | .lit _ => 1
  | .nil => 1
  | .ptr d => uptoBulk d + 1
  | .slice elems spare => uptoBulkAll elems + uptoBulkAll spare + 1
  | .agg parts => uptoBulkAll parts + 1
  | .iface _ d => uptoBulk d + 1
  | .map entries => uptoBulkEntries entries + 1
  | .held _ => 1
def uptoBulkAll {H : Type} : List (DataW H) → Nat
  | [] => 0
  | d :: r => uptoBulk d + uptoBulkAll r
def uptoBulkEntries {H : Type} : List (Lit × DataW H) → Nat
  | [] => 0
  | x :: r => uptoBulkEntry x + uptoBulkEntries r
def uptoBulkEntry {H : Type} : Lit × DataW H → Nat
  | (.string bytes, d) => bytes.length + uptoBulk d + 1
  | (_, d) => uptoBulk d + 1
 end
def uptoSmall : (H : Type) → List (DataW H) → Bool := fun _ ds => decide (uptoBulkAll ds ≤ 1048576)
def OpenSpec.upto (s : _root_.Go.ChangeSpec) : _root_.Go.OpenSpec := { _root_.Go.OpenSpec.ofChange s with cond := some uptoSmall }

/-- 'damsonlaw09.ChannelRoom', WHERE WHAT IT READS IS OF BULK AT MOST 1048576: true; the input reads as it did. -/
def channelRoomUptoRow : OpenClaim := { program := "ytcfbcoinbecdfaa", sum := "c64f4f2ae08423f73a9cf266aeac8ad05760f1c2b09f65c62d8cab85279911fc", func := "damson/damsonlaw09.ChannelRoom", spec := "channelRoom", inPlace := ["slices.overlaps[damson/api.Hold]", "math/bits.Sub64"], unfollowed := true, recurses := true, plainKeys := false, apart := false, narrowed := true }
def ChannelRoomUptoSaid : Prop := channelRoomUptoRow.holds Try.pinned (OpenSpec.upto channelRoomSpec)

/-- 'damsonlaw09.ChannelBack', WHERE WHAT IT READS IS OF BULK AT MOST 1048576: true; the input reads as it did. -/
def channelBackUptoRow : OpenClaim := { program := "ytcfbcoinbecdfaa", sum := "c64f4f2ae08423f73a9cf266aeac8ad05760f1c2b09f65c62d8cab85279911fc", func := "damson/damsonlaw09.ChannelBack", spec := "channelBack", inPlace := ["slices.overlaps[damson/api.Hold]"], unfollowed := true, recurses := true, plainKeys := false, apart := false, narrowed := true }
def ChannelBackUptoSaid : Prop := channelBackUptoRow.holds Try.pinned (OpenSpec.upto channelBackSpec)

/-- 'damsonlaw09.ChannelApart', WHERE WHAT IT READS IS OF BULK AT MOST 1048576: true; the input reads as it did. -/
def channelApartUptoRow : OpenClaim := { program := "ytcfbcoinbecdfaa", sum := "c64f4f2ae08423f73a9cf266aeac8ad05760f1c2b09f65c62d8cab85279911fc", func := "damson/damsonlaw09.ChannelApart", spec := "channelApart", inPlace := ["slices.overlaps[damson/api.Hold]"], unfollowed := true, recurses := true, plainKeys := false, apart := false, narrowed := true }
def ChannelApartUptoSaid : Prop := channelApartUptoRow.holds Try.pinned (OpenSpec.upto channelApartSpec)

/-- 'damsonlaw09.ChannelTells', WHERE WHAT IT READS IS OF BULK AT MOST 1048576: true; the input reads as it did. -/
def channelTellsUptoRow : OpenClaim := { program := "ytcfbcoinbecdfaa", sum := "c64f4f2ae08423f73a9cf266aeac8ad05760f1c2b09f65c62d8cab85279911fc", func := "damson/damsonlaw09.ChannelTells", spec := "channelTells", inPlace := ["slices.overlaps[damson/api.Hold]", "math/bits.Sub64"], unfollowed := true, recurses := true, plainKeys := false, apart := false, narrowed := true }
def ChannelTellsUptoSaid : Prop := channelTellsUptoRow.holds Try.pinned (OpenSpec.upto channelTellsSpec)

/-- 'damsonlaw09.ChannelShut', WHERE WHAT IT READS IS OF BULK AT MOST 1048576: true; the input reads as it did. -/
def channelShutUptoRow : OpenClaim := { program := "ytcfbcoinbecdfaa", sum := "c64f4f2ae08423f73a9cf266aeac8ad05760f1c2b09f65c62d8cab85279911fc", func := "damson/damsonlaw09.ChannelShut", spec := "channelShut", inPlace := ["slices.overlaps[damson/api.Hold]", "math/bits.Sub64"], unfollowed := true, recurses := true, plainKeys := false, apart := false, narrowed := true }
def ChannelShutUptoSaid : Prop := channelShutUptoRow.holds Try.pinned (OpenSpec.upto channelShutSpec)

/-- 'damsonlaw09.ChannelKeeps', WHERE WHAT IT READS IS OF BULK AT MOST 1048576: true; the input reads as it did. -/
def channelKeepsUptoRow : OpenClaim := { program := "ytcfbcoinbecdfaa", sum := "c64f4f2ae08423f73a9cf266aeac8ad05760f1c2b09f65c62d8cab85279911fc", func := "damson/damsonlaw09.ChannelKeeps", spec := "channelKeeps", inPlace := ["slices.overlaps[damson/api.Hold]", "math/bits.Sub64"], unfollowed := true, recurses := true, plainKeys := false, apart := false, narrowed := true }
def ChannelKeepsUptoSaid : Prop := channelKeepsUptoRow.holds Try.pinned (OpenSpec.upto channelKeepsSpec)

/-- 'damsonlaw09.ChannelDoes', WHERE WHAT IT READS IS OF BULK AT MOST 1048576: true; the input reads as it did. -/
def channelDoesUptoRow : OpenClaim := { program := "ytcfbcoinbecdfaa", sum := "c64f4f2ae08423f73a9cf266aeac8ad05760f1c2b09f65c62d8cab85279911fc", func := "damson/damsonlaw09.ChannelDoes", spec := "channelDoes", inPlace := ["slices.overlaps[damson/api.Hold]", "math/bits.Sub64"], unfollowed := true, recurses := true, plainKeys := false, apart := false, narrowed := true }
def ChannelDoesUptoSaid : Prop := channelDoesUptoRow.holds Try.pinned (OpenSpec.upto channelDoesSpec)

/-- 'damsonlaw10.LedgerOpens', WHERE WHAT IT READS IS OF BULK AT MOST 1048576: true; the input reads as it did. -/
def ledgerOpensUptoRow : OpenClaim := { program := "ytcfbcoinbecdfaa", sum := "c64f4f2ae08423f73a9cf266aeac8ad05760f1c2b09f65c62d8cab85279911fc", func := "damson/damsonlaw10.LedgerOpens", spec := "ledgerOpens", inPlace := ["slices.overlaps[damson/api.Channel]", "slices.overlaps[damson/api.Hold]"], unfollowed := true, recurses := true, plainKeys := false, apart := false, narrowed := true }
def LedgerOpensUptoSaid : Prop := ledgerOpensUptoRow.holds Try.pinned (OpenSpec.upto ledgerOpensSpec)

/-- 'damsonlaw10.LedgerTells', WHERE WHAT IT READS IS OF BULK AT MOST 1048576: true; the input reads as it did. -/
def ledgerTellsUptoRow : OpenClaim := { program := "ytcfbcoinbecdfaa", sum := "c64f4f2ae08423f73a9cf266aeac8ad05760f1c2b09f65c62d8cab85279911fc", func := "damson/damsonlaw10.LedgerTells", spec := "ledgerTells", inPlace := ["slices.overlaps[damson/api.Channel]", "slices.overlaps[damson/api.Hold]"], unfollowed := true, recurses := true, plainKeys := false, apart := false, narrowed := true }
def LedgerTellsUptoSaid : Prop := ledgerTellsUptoRow.holds Try.pinned (OpenSpec.upto ledgerTellsSpec)

/-- 'damsonlaw10.LedgerOurs', WHERE WHAT IT READS IS OF BULK AT MOST 1048576: true; the input reads as it did. -/
def ledgerOursUptoRow : OpenClaim := { program := "ytcfbcoinbecdfaa", sum := "c64f4f2ae08423f73a9cf266aeac8ad05760f1c2b09f65c62d8cab85279911fc", func := "damson/damsonlaw10.LedgerOurs", spec := "ledgerOurs", inPlace := ["slices.overlaps[damson/api.Channel]", "slices.overlaps[damson/api.Hold]"], unfollowed := true, recurses := true, plainKeys := false, apart := false, narrowed := true }
def LedgerOursUptoSaid : Prop := ledgerOursUptoRow.holds Try.pinned (OpenSpec.upto ledgerOursSpec)

/-- 'damsonlaw10.LedgerOne', WHERE WHAT IT READS IS OF BULK AT MOST 1048576: true; the input reads as it did. -/
def ledgerOneUptoRow : OpenClaim := { program := "ytcfbcoinbecdfaa", sum := "c64f4f2ae08423f73a9cf266aeac8ad05760f1c2b09f65c62d8cab85279911fc", func := "damson/damsonlaw10.LedgerOne", spec := "ledgerOne", inPlace := ["slices.overlaps[damson/api.Channel]", "slices.overlaps[damson/api.Hold]"], unfollowed := true, recurses := true, plainKeys := false, apart := false, narrowed := true }
def LedgerOneUptoSaid : Prop := ledgerOneUptoRow.holds Try.pinned (OpenSpec.upto ledgerOneSpec)

/-- 'damsonlaw10.LedgerDoes', WHERE WHAT IT READS IS OF BULK AT MOST 1048576: true; the input reads as it did. -/
def ledgerDoesUptoRow : OpenClaim := { program := "ytcfbcoinbecdfaa", sum := "c64f4f2ae08423f73a9cf266aeac8ad05760f1c2b09f65c62d8cab85279911fc", func := "damson/damsonlaw10.LedgerDoes", spec := "ledgerDoes", inPlace := ["slices.overlaps[damson/api.Channel]", "slices.overlaps[damson/api.Hold]", "math/bits.Sub64"], unfollowed := true, recurses := true, plainKeys := false, apart := false, narrowed := true }
def LedgerDoesUptoSaid : Prop := ledgerDoesUptoRow.holds Try.pinned (OpenSpec.upto ledgerDoesSpec)

/-- 'damsonlaw10.LedgerKeeps', WHERE WHAT IT READS IS OF BULK AT MOST 1048576: true; the input reads as it did. -/
def ledgerKeepsUptoRow : OpenClaim := { program := "ytcfbcoinbecdfaa", sum := "c64f4f2ae08423f73a9cf266aeac8ad05760f1c2b09f65c62d8cab85279911fc", func := "damson/damsonlaw10.LedgerKeeps", spec := "ledgerKeeps", inPlace := ["slices.overlaps[damson/api.Channel]", "slices.overlaps[damson/api.Hold]", "math/bits.Sub64"], unfollowed := true, recurses := true, plainKeys := false, apart := false, narrowed := true }
def LedgerKeepsUptoSaid : Prop := ledgerKeepsUptoRow.holds Try.pinned (OpenSpec.upto ledgerKeepsSpec)

/-- 'damsonlaw13.PaymentOnce', WHERE WHAT IT READS IS OF BULK AT MOST 1048576: true; the input reads as it did. -/
def paymentOnceUptoRow : OpenClaim := { program := "ytcfbcoinbecdfaa", sum := "c64f4f2ae08423f73a9cf266aeac8ad05760f1c2b09f65c62d8cab85279911fc", func := "damson/damsonlaw13.PaymentOnce", spec := "paymentOnce", inPlace := ["slices.overlaps[damson/api.Payment]"], unfollowed := true, recurses := true, plainKeys := false, apart := false, narrowed := true }
def PaymentOnceUptoSaid : Prop := paymentOnceUptoRow.holds Try.pinned (OpenSpec.upto paymentOnceSpec)

/-- 'damsonlaw13.PaymentOthers', WHERE WHAT IT READS IS OF BULK AT MOST 1048576: true; the input reads as it did. -/
def paymentOthersUptoRow : OpenClaim := { program := "ytcfbcoinbecdfaa", sum := "c64f4f2ae08423f73a9cf266aeac8ad05760f1c2b09f65c62d8cab85279911fc", func := "damson/damsonlaw13.PaymentOthers", spec := "paymentOthers", inPlace := ["slices.overlaps[damson/api.Payment]"], unfollowed := true, recurses := true, plainKeys := false, apart := false, narrowed := true }
def PaymentOthersUptoSaid : Prop := paymentOthersUptoRow.holds Try.pinned (OpenSpec.upto paymentOthersSpec)

/-- 'damsonlaw13.PaymentHeld', WHERE WHAT IT READS IS OF BULK AT MOST 1048576: true; the input reads as it did. -/
def paymentHeldUptoRow : OpenClaim := { program := "ytcfbcoinbecdfaa", sum := "c64f4f2ae08423f73a9cf266aeac8ad05760f1c2b09f65c62d8cab85279911fc", func := "damson/damsonlaw13.PaymentHeld", spec := "paymentHeld", inPlace := ["slices.overlaps[damson/api.Payment]"], unfollowed := true, recurses := true, plainKeys := false, apart := false, narrowed := true }
def PaymentHeldUptoSaid : Prop := paymentHeldUptoRow.holds Try.pinned (OpenSpec.upto paymentHeldSpec)

/-- 'damsonlaw13.PaymentDoes', WHERE WHAT IT READS IS OF BULK AT MOST 1048576: true; the input reads as it did. -/
def paymentDoesUptoRow : OpenClaim := { program := "ytcfbcoinbecdfaa", sum := "c64f4f2ae08423f73a9cf266aeac8ad05760f1c2b09f65c62d8cab85279911fc", func := "damson/damsonlaw13.PaymentDoes", spec := "paymentDoes", inPlace := ["slices.overlaps[damson/api.Payment]"], unfollowed := true, recurses := true, plainKeys := false, apart := false, narrowed := true }
def PaymentDoesUptoSaid : Prop := paymentDoesUptoRow.holds Try.pinned (OpenSpec.upto paymentDoesSpec)

/-- 'damsonlaw13.PaymentHolds', WHERE WHAT IT READS IS OF BULK AT MOST 1048576: true; the input reads as it did. -/
def paymentHoldsUptoRow : OpenClaim := { program := "ytcfbcoinbecdfaa", sum := "c64f4f2ae08423f73a9cf266aeac8ad05760f1c2b09f65c62d8cab85279911fc", func := "damson/damsonlaw13.PaymentHolds", spec := "paymentHolds", inPlace := ["slices.overlaps[damson/api.Payment]", "slices.overlaps[damson/api.Hold]"], unfollowed := true, recurses := true, plainKeys := false, apart := false, narrowed := true }
def PaymentHoldsUptoSaid : Prop := paymentHoldsUptoRow.holds Try.pinned (OpenSpec.upto paymentHoldsSpec)

end Rows
end Go.Proofs.Ytcfbcoinbecdfaa
