/-
  No cell of these rows narrows 'for every input' (looked for: loops, veiled, ifaces, maps, wideKeys, modest, calm, conditions, laid).
  DERIVED. THE GIVEN ROWS OF THIS SEAT. 6 by the template 'for every input the law returns true; each argument reads behind the call as it read before'; 0 by the template 'total and deterministic' (their statements: YtcolmgbmpmmeaaaTotals.lean).
  GIVEN WITH THE SEED: the statements are not yours to turn. If you find one false, say at which input.
  Laid BY PROGRAM, IN A SANDBOX (cutbox-rows.mjs): the forced cells as the released guide's own fill.sh prints them over the translation 13a75a6139e01c40… (all of the seat's roots in one cut). By AI agents, Wed Nov 11 2026. No macro, syntax, notation, axiom, sorry.
-/
import Derived.Test.YtcolmgbmpmmeaaaChecked
import GoSem.Claim
import GoSem.ClaimJoined
import GoSem.ClaimMapViews
import Derived.JoinedTies
import Derived.KernelRfl
namespace Go.Proofs.Ytcolmgbmpmmeaaa
/- THE CELL 'sum', in the pinned program and in every row, IS THE sha256 OF THE DUMP (.gsa) THAT YtcolmgbmpmmeaaaProg.lean LOADS. Nothing in Lean hashes anything: it is a label: what it is worth is what the hold of that sum in a sandbox is worth. -/
noncomputable def Try.pinned : Pinned := { name := "ytcolmgbmpmmeaaa", sum := "13a75a6139e01c4082273bd96e792187c03f1bb2ff83e3e742707b2bd53f6926", checked := Try.checked }
namespace Rows
def none {H : Type} : Left H := { results := [], args := [] }

/-- 'damsonlaw04.MoneyMore': WHATEVER THE INPUT: true; the input reads as it did. -/
def moneyMoreSpec : ChangeSpec := { name := "moneyMore", fn := fun _ => fun
  | [d1, d2] => { results := [.lit (.bool true)], args := [d1, d2] }
  | _ => none }
def moneyMoreRow : OpenClaim := { program := "ytcolmgbmpmmeaaa", sum := "13a75a6139e01c4082273bd96e792187c03f1bb2ff83e3e742707b2bd53f6926", func := "damson/damsonlaw04.MoneyMore", spec := "moneyMore", unfollowed := true, recurses := true, named := ["math/bits.divideError", "math/bits.overflowError"], apart := false }
def MoneyMoreSaid : Prop := moneyMoreRow.holds Try.pinned (OpenSpec.ofChange moneyMoreSpec)

/-- ITS FALSE NEIGHBOUR: 'it returns false'. Refute it at one input. -/
def moneyMoreWrong : ChangeSpec := { name := "moneyMore", fn := fun _ => fun
  | [d1, d2] => { results := [.lit (.bool false)], args := [d1, d2] }
  | _ => none }
def MoneyMoreWrongFalsely : Prop := moneyMoreRow.holds Try.pinned (OpenSpec.ofChange moneyMoreWrong)

/-- 'damsonlaw04.MoneySplit': WHATEVER THE INPUT: true; the input reads as it did. -/
def moneySplitSpec : ChangeSpec := { name := "moneySplit", fn := fun _ => fun
  | [d1, d2] => { results := [.lit (.bool true)], args := [d1, d2] }
  | _ => none }
def moneySplitRow : OpenClaim := { program := "ytcolmgbmpmmeaaa", sum := "13a75a6139e01c4082273bd96e792187c03f1bb2ff83e3e742707b2bd53f6926", func := "damson/damsonlaw04.MoneySplit", spec := "moneySplit", unfollowed := true, recurses := true, named := ["math/bits.divideError", "math/bits.overflowError"], apart := false }
def MoneySplitSaid : Prop := moneySplitRow.holds Try.pinned (OpenSpec.ofChange moneySplitSpec)

/-- ITS FALSE NEIGHBOUR: 'it returns false'. Refute it at one input. -/
def moneySplitWrong : ChangeSpec := { name := "moneySplit", fn := fun _ => fun
  | [d1, d2] => { results := [.lit (.bool false)], args := [d1, d2] }
  | _ => none }
def MoneySplitWrongFalsely : Prop := moneySplitRow.holds Try.pinned (OpenSpec.ofChange moneySplitWrong)

/-- 'damsonlaw04.MoneyShares': WHATEVER THE INPUT: true; the input reads as it did. -/
def moneySharesSpec : ChangeSpec := { name := "moneyShares", fn := fun _ => fun
  | [d1, d2, d3, d4] => { results := [.lit (.bool true)], args := [d1, d2, d3, d4] }
  | _ => none }
def moneySharesRow : OpenClaim := { program := "ytcolmgbmpmmeaaa", sum := "13a75a6139e01c4082273bd96e792187c03f1bb2ff83e3e742707b2bd53f6926", func := "damson/damsonlaw04.MoneyShares", spec := "moneyShares", unfollowed := true, recurses := true, named := ["math/bits.divideError", "math/bits.overflowError"], apart := false }
def MoneySharesSaid : Prop := moneySharesRow.holds Try.pinned (OpenSpec.ofChange moneySharesSpec)

/-- ITS FALSE NEIGHBOUR: 'it returns false'. Refute it at one input. -/
def moneySharesWrong : ChangeSpec := { name := "moneyShares", fn := fun _ => fun
  | [d1, d2, d3, d4] => { results := [.lit (.bool false)], args := [d1, d2, d3, d4] }
  | _ => none }
def MoneySharesWrongFalsely : Prop := moneySharesRow.holds Try.pinned (OpenSpec.ofChange moneySharesWrong)

/-- 'damsonlaw04.MoneyFee': WHATEVER THE INPUT: true; the input reads as it did. -/
def moneyFeeSpec : ChangeSpec := { name := "moneyFee", fn := fun _ => fun
  | [d1, d2, d3, d4] => { results := [.lit (.bool true)], args := [d1, d2, d3, d4] }
  | _ => none }
def moneyFeeRow : OpenClaim := { program := "ytcolmgbmpmmeaaa", sum := "13a75a6139e01c4082273bd96e792187c03f1bb2ff83e3e742707b2bd53f6926", func := "damson/damsonlaw04.MoneyFee", spec := "moneyFee", unfollowed := true, recurses := true, named := ["math/bits.divideError", "math/bits.overflowError"], apart := false }
def MoneyFeeSaid : Prop := moneyFeeRow.holds Try.pinned (OpenSpec.ofChange moneyFeeSpec)

/-- ITS FALSE NEIGHBOUR: 'it returns false'. Refute it at one input. -/
def moneyFeeWrong : ChangeSpec := { name := "moneyFee", fn := fun _ => fun
  | [d1, d2, d3, d4] => { results := [.lit (.bool false)], args := [d1, d2, d3, d4] }
  | _ => none }
def MoneyFeeWrongFalsely : Prop := moneyFeeRow.holds Try.pinned (OpenSpec.ofChange moneyFeeWrong)

/-- 'damsonlaw04.MoneyBack': WHATEVER THE INPUT: true; the input reads as it did. -/
def moneyBackSpec : ChangeSpec := { name := "moneyBack", fn := fun _ => fun
  | [d1, d2] => { results := [.lit (.bool true)], args := [d1, d2] }
  | _ => none }
def moneyBackRow : OpenClaim := { program := "ytcolmgbmpmmeaaa", sum := "13a75a6139e01c4082273bd96e792187c03f1bb2ff83e3e742707b2bd53f6926", func := "damson/damsonlaw04.MoneyBack", spec := "moneyBack", inPlace := ["math/bits.Sub64"], unfollowed := true, recurses := true, named := ["math/bits.divideError", "math/bits.overflowError"], apart := false }
def MoneyBackSaid : Prop := moneyBackRow.holds Try.pinned (OpenSpec.ofChange moneyBackSpec)

/-- ITS FALSE NEIGHBOUR: 'it returns false'. Refute it at one input. -/
def moneyBackWrong : ChangeSpec := { name := "moneyBack", fn := fun _ => fun
  | [d1, d2] => { results := [.lit (.bool false)], args := [d1, d2] }
  | _ => none }
def MoneyBackWrongFalsely : Prop := moneyBackRow.holds Try.pinned (OpenSpec.ofChange moneyBackWrong)

/-- 'damsonlaw04.MoneyDoes': WHATEVER THE INPUT: true; the input reads as it did. -/
def moneyDoesSpec : ChangeSpec := { name := "moneyDoes", fn := fun _ => fun
  | [d1, d2, d3, d4] => { results := [.lit (.bool true)], args := [d1, d2, d3, d4] }
  | _ => none }
def moneyDoesRow : OpenClaim := { program := "ytcolmgbmpmmeaaa", sum := "13a75a6139e01c4082273bd96e792187c03f1bb2ff83e3e742707b2bd53f6926", func := "damson/damsonlaw04.MoneyDoes", spec := "moneyDoes", inPlace := ["math/bits.Sub64"], unfollowed := true, recurses := true, named := ["math/bits.divideError", "math/bits.overflowError"], apart := false }
def MoneyDoesSaid : Prop := moneyDoesRow.holds Try.pinned (OpenSpec.ofChange moneyDoesSpec)

/-- ITS FALSE NEIGHBOUR: 'it returns false'. Refute it at one input. -/
def moneyDoesWrong : ChangeSpec := { name := "moneyDoes", fn := fun _ => fun
  | [d1, d2, d3, d4] => { results := [.lit (.bool false)], args := [d1, d2, d3, d4] }
  | _ => none }
def MoneyDoesWrongFalsely : Prop := moneyDoesRow.holds Try.pinned (OpenSpec.ofChange moneyDoesWrong)

/- THE SECOND FORM. 'bulk': how many values and letters a reading holds, each counted each time it is reached (what is shared counts as often as it is met; a slice's spare places count too). A statement '..UptoSaid' is the law's where the arguments, and the package variables that the reading takes, are together of bulk at most 1048576: NARROWER than '..Said'. Prove '..Said' where nothing that the law and all that it calls make is longer than what came in: it says more and counts as full. Else prove '..UptoSaid'. A law counts once. -/
mutual
def uptoBulk {H : Type} : DataW H → Nat
  | .lit (.string bytes) => bytes.length + 1
  | .lit _ => 1
  | .nil => 1
  | .ptr d => uptoBulk d + 1
  | .slice elems spare => uptoBulkAll elems + uptoBulkAll spare + 1
  | .agg parts => uptoBulkAll parts + 1
  | .iface _ d => uptoBulk d + 1
  | .map entries => uptoBulkEntries entries + 1
  | .held _ => 1
def uptoBulkAll {H : Type} : List (DataW H) → Nat
  | [] => 0
  | d :: r => uptoBulk d + uptoBulkAll r
def uptoBulkEntries {H : Type} : List (Lit × DataW H) → Nat
  | [] => 0
  | x :: r => uptoBulkEntry x + uptoBulkEntries r
def uptoBulkEntry {H : Type} : Lit × DataW H → Nat
  | (.string bytes, d) => bytes.length + uptoBulk d + 1
  | (_, d) => uptoBulk d + 1
 end
def uptoSmall : (H : Type) → List (DataW H) → Bool := fun _ ds => decide (uptoBulkAll ds ≤ 1048576)
def OpenSpec.upto (s : _root_.Go.ChangeSpec) : _root_.Go.OpenSpec := { _root_.Go.OpenSpec.ofChange s with cond := some uptoSmall }

/-- 'damsonlaw04.MoneyMore', WHERE WHAT IT READS IS OF BULK AT MOST 1048576: true; the input reads as it did. -/
def moneyMoreUptoRow : OpenClaim := { program := "ytcolmgbmpmmeaaa", sum := "13a75a6139e01c4082273bd96e792187c03f1bb2ff83e3e742707b2bd53f6926", func := "damson/damsonlaw04.MoneyMore", spec := "moneyMore", unfollowed := true, recurses := true, named := ["math/bits.divideError", "math/bits.overflowError"], apart := false, narrowed := true }
def MoneyMoreUptoSaid : Prop := moneyMoreUptoRow.holds Try.pinned (OpenSpec.upto moneyMoreSpec)

/-- 'damsonlaw04.MoneySplit', WHERE WHAT IT READS IS OF BULK AT MOST 1048576: true; the input reads as it did. -/
def moneySplitUptoRow : OpenClaim := { program := "ytcolmgbmpmmeaaa", sum := "13a75a6139e01c4082273bd96e792187c03f1bb2ff83e3e742707b2bd53f6926", func := "damson/damsonlaw04.MoneySplit", spec := "moneySplit", unfollowed := true, recurses := true, named := ["math/bits.divideError", "math/bits.overflowError"], apart := false, narrowed := true }
def MoneySplitUptoSaid : Prop := moneySplitUptoRow.holds Try.pinned (OpenSpec.upto moneySplitSpec)

/-- 'damsonlaw04.MoneyShares', WHERE WHAT IT READS IS OF BULK AT MOST 1048576: true; the input reads as it did. -/
def moneySharesUptoRow : OpenClaim := { program := "ytcolmgbmpmmeaaa", sum := "13a75a6139e01c4082273bd96e792187c03f1bb2ff83e3e742707b2bd53f6926", func := "damson/damsonlaw04.MoneyShares", spec := "moneyShares", unfollowed := true, recurses := true, named := ["math/bits.divideError", "math/bits.overflowError"], apart := false, narrowed := true }
def MoneySharesUptoSaid : Prop := moneySharesUptoRow.holds Try.pinned (OpenSpec.upto moneySharesSpec)

/-- 'damsonlaw04.MoneyFee', WHERE WHAT IT READS IS OF BULK AT MOST 1048576: true; the input reads as it did. -/
def moneyFeeUptoRow : OpenClaim := { program := "ytcolmgbmpmmeaaa", sum := "13a75a6139e01c4082273bd96e792187c03f1bb2ff83e3e742707b2bd53f6926", func := "damson/damsonlaw04.MoneyFee", spec := "moneyFee", unfollowed := true, recurses := true, named := ["math/bits.divideError", "math/bits.overflowError"], apart := false, narrowed := true }
def MoneyFeeUptoSaid : Prop := moneyFeeUptoRow.holds Try.pinned (OpenSpec.upto moneyFeeSpec)

/-- 'damsonlaw04.MoneyBack', WHERE WHAT IT READS IS OF BULK AT MOST 1048576: true; the input reads as it did. -/
def moneyBackUptoRow : OpenClaim := { program := "ytcolmgbmpmmeaaa", sum := "13a75a6139e01c4082273bd96e792187c03f1bb2ff83e3e742707b2bd53f6926", func := "damson/damsonlaw04.MoneyBack", spec := "moneyBack", inPlace := ["math/bits.Sub64"], unfollowed := true, recurses := true, named := ["math/bits.divideError", "math/bits.overflowError"], apart := false, narrowed := true }
def MoneyBackUptoSaid : Prop := moneyBackUptoRow.holds Try.pinned (OpenSpec.upto moneyBackSpec)

/-- 'damsonlaw04.MoneyDoes', WHERE WHAT IT READS IS OF BULK AT MOST 1048576: true; the input reads as it did. -/
def moneyDoesUptoRow : OpenClaim := { program := "ytcolmgbmpmmeaaa", sum := "13a75a6139e01c4082273bd96e792187c03f1bb2ff83e3e742707b2bd53f6926", func := "damson/damsonlaw04.MoneyDoes", spec := "moneyDoes", inPlace := ["math/bits.Sub64"], unfollowed := true, recurses := true, named := ["math/bits.divideError", "math/bits.overflowError"], apart := false, narrowed := true }
def MoneyDoesUptoSaid : Prop := moneyDoesUptoRow.holds Try.pinned (OpenSpec.upto moneyDoesSpec)

end Rows
end Go.Proofs.Ytcolmgbmpmmeaaa
