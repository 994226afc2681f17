/-
  No cell of these rows narrows 'for every input' (looked for: loops, veiled, ifaces, maps, wideKeys, modest, calm, conditions, laid).
  DERIVED. THE GIVEN ROWS OF THIS SEAT. 5 by the template 'for every input the law returns true; each argument reads behind the call as it read before'; 0 by the template 'total and deterministic' (their statements: YtmoncgfffdddeaaTotals.lean).
  GIVEN WITH THE SEED: the statements are not yours to turn. If you find one false, say at which input.
  Laid BY PROGRAM, IN A SANDBOX (cutbox-rows.mjs): the forced cells as the released guide's own fill.sh prints them over the translation 04a762762884d169… (all of the seat's roots in one cut). By AI agents, Wed Nov 11 2026. No macro, syntax, notation, axiom, sorry.
-/
import Derived.Test.YtmoncgfffdddeaaChecked
import GoSem.Claim
import GoSem.ClaimJoined
import GoSem.ClaimMapViews
import Derived.JoinedTies
import Derived.KernelRfl
namespace Go.Proofs.Ytmoncgfffdddeaa
/- THE CELL 'sum', in the pinned program and in every row, IS THE sha256 OF THE DUMP (.gsa) THAT YtmoncgfffdddeaaProg.lean LOADS. Nothing in Lean hashes anything: it is a label: what it is worth is what the hold of that sum in a sandbox is worth. -/
noncomputable def Try.pinned : Pinned := { name := "ytmoncgfffdddeaa", sum := "04a762762884d169ffe1c9aa69499b152c8729894269f1480bc22a1027db948b", checked := Try.checked }
namespace Rows
def none {H : Type} : Left H := { results := [], args := [] }

/-- 'damsonlaw14.IdemFirst': WHATEVER THE INPUT: true; the input reads as it did. -/
def idemFirstSpec : ChangeSpec := { name := "idemFirst", fn := fun _ => fun
  | [d1, d2, d3, d4, d5, d6] => { results := [.lit (.bool true)], args := [d1, d2, d3, d4, d5, d6] }
  | _ => none }
def idemFirstRow : OpenClaim := { program := "ytmoncgfffdddeaa", sum := "04a762762884d169ffe1c9aa69499b152c8729894269f1480bc22a1027db948b", func := "damson/damsonlaw14.IdemFirst", spec := "idemFirst", inPlace := ["slices.overlaps[damson/api.Key]"], unfollowed := true, recurses := true, apart := false }
def IdemFirstSaid : Prop := idemFirstRow.holds Try.pinned (OpenSpec.ofChange idemFirstSpec)

/-- ITS FALSE NEIGHBOUR: 'it returns false'. Refute it at one input. -/
def idemFirstWrong : ChangeSpec := { name := "idemFirst", fn := fun _ => fun
  | [d1, d2, d3, d4, d5, d6] => { results := [.lit (.bool false)], args := [d1, d2, d3, d4, d5, d6] }
  | _ => none }
def IdemFirstWrongFalsely : Prop := idemFirstRow.holds Try.pinned (OpenSpec.ofChange idemFirstWrong)

/-- 'damsonlaw14.IdemOld': WHATEVER THE INPUT: true; the input reads as it did. -/
def idemOldSpec : ChangeSpec := { name := "idemOld", fn := fun _ => fun
  | [d1, d2, d3, d4, d5] => { results := [.lit (.bool true)], args := [d1, d2, d3, d4, d5] }
  | _ => none }
def idemOldRow : OpenClaim := { program := "ytmoncgfffdddeaa", sum := "04a762762884d169ffe1c9aa69499b152c8729894269f1480bc22a1027db948b", func := "damson/damsonlaw14.IdemOld", spec := "idemOld", inPlace := ["slices.overlaps[damson/api.Key]"], unfollowed := true, recurses := true, apart := false }
def IdemOldSaid : Prop := idemOldRow.holds Try.pinned (OpenSpec.ofChange idemOldSpec)

/-- ITS FALSE NEIGHBOUR: 'it returns false'. Refute it at one input. -/
def idemOldWrong : ChangeSpec := { name := "idemOld", fn := fun _ => fun
  | [d1, d2, d3, d4, d5] => { results := [.lit (.bool false)], args := [d1, d2, d3, d4, d5] }
  | _ => none }
def IdemOldWrongFalsely : Prop := idemOldRow.holds Try.pinned (OpenSpec.ofChange idemOldWrong)

/-- 'damsonlaw14.IdemDoes': WHATEVER THE INPUT: true; the input reads as it did. -/
def idemDoesSpec : ChangeSpec := { name := "idemDoes", fn := fun _ => fun
  | [d1, d2, d3, d4, d5, d6] => { results := [.lit (.bool true)], args := [d1, d2, d3, d4, d5, d6] }
  | _ => none }
def idemDoesRow : OpenClaim := { program := "ytmoncgfffdddeaa", sum := "04a762762884d169ffe1c9aa69499b152c8729894269f1480bc22a1027db948b", func := "damson/damsonlaw14.IdemDoes", spec := "idemDoes", inPlace := ["slices.overlaps[damson/api.Key]"], unfollowed := true, recurses := true, apart := false }
def IdemDoesSaid : Prop := idemDoesRow.holds Try.pinned (OpenSpec.ofChange idemDoesSpec)

/-- ITS FALSE NEIGHBOUR: 'it returns false'. Refute it at one input. -/
def idemDoesWrong : ChangeSpec := { name := "idemDoes", fn := fun _ => fun
  | [d1, d2, d3, d4, d5, d6] => { results := [.lit (.bool false)], args := [d1, d2, d3, d4, d5, d6] }
  | _ => none }
def IdemDoesWrongFalsely : Prop := idemDoesRow.holds Try.pinned (OpenSpec.ofChange idemDoesWrong)

/-- 'damsonlaw14.IdemSweeps': WHATEVER THE INPUT: true; the input reads as it did. -/
def idemSweepsSpec : ChangeSpec := { name := "idemSweeps", fn := fun _ => fun
  | [d1, d2, d3, d4, d5] => { results := [.lit (.bool true)], args := [d1, d2, d3, d4, d5] }
  | _ => none }
def idemSweepsRow : OpenClaim := { program := "ytmoncgfffdddeaa", sum := "04a762762884d169ffe1c9aa69499b152c8729894269f1480bc22a1027db948b", func := "damson/damsonlaw14.IdemSweeps", spec := "idemSweeps", inPlace := ["slices.overlaps[damson/api.Key]"], unfollowed := true, recurses := true, apart := false }
def IdemSweepsSaid : Prop := idemSweepsRow.holds Try.pinned (OpenSpec.ofChange idemSweepsSpec)

/-- ITS FALSE NEIGHBOUR: 'it returns false'. Refute it at one input. -/
def idemSweepsWrong : ChangeSpec := { name := "idemSweeps", fn := fun _ => fun
  | [d1, d2, d3, d4, d5] => { results := [.lit (.bool false)], args := [d1, d2, d3, d4, d5] }
  | _ => none }
def IdemSweepsWrongFalsely : Prop := idemSweepsRow.holds Try.pinned (OpenSpec.ofChange idemSweepsWrong)

/-- 'damsonlaw14.IdemOthers': WHATEVER THE INPUT: true; the input reads as it did. -/
def idemOthersSpec : ChangeSpec := { name := "idemOthers", fn := fun _ => fun
  | [d1, d2, d3, d4, d5] => { results := [.lit (.bool true)], args := [d1, d2, d3, d4, d5] }
  | _ => none }
def idemOthersRow : OpenClaim := { program := "ytmoncgfffdddeaa", sum := "04a762762884d169ffe1c9aa69499b152c8729894269f1480bc22a1027db948b", func := "damson/damsonlaw14.IdemOthers", spec := "idemOthers", inPlace := ["slices.overlaps[damson/api.Key]"], unfollowed := true, recurses := true, apart := false }
def IdemOthersSaid : Prop := idemOthersRow.holds Try.pinned (OpenSpec.ofChange idemOthersSpec)

/-- ITS FALSE NEIGHBOUR: 'it returns false'. Refute it at one input. -/
def idemOthersWrong : ChangeSpec := { name := "idemOthers", fn := fun _ => fun
  | [d1, d2, d3, d4, d5] => { results := [.lit (.bool false)], args := [d1, d2, d3, d4, d5] }
  | _ => none }
def IdemOthersWrongFalsely : Prop := idemOthersRow.holds Try.pinned (OpenSpec.ofChange idemOthersWrong)

/- THE SECOND FORM. 'bulk': how many values and letters a reading holds, each counted each time it is reached (what is shared counts as often as it is met; a slice's spare places count too). A statement '..UptoSaid' is the law's where the arguments, and the package variables that the reading takes, are together of bulk at most 1048576: NARROWER than '..Said'. Prove '..Said' where nothing that the law and all that it calls make is longer than what came in: it says more and counts as full. Else prove '..UptoSaid'. A law counts once. -/
mutual
def uptoBulk {H : Type} : DataW H → Nat
  | .lit (.string bytes) => bytes.length + 1
  | .lit _ => 1
  | .nil => 1
  | .ptr d => uptoBulk d + 1
  | .slice elems spare => uptoBulkAll elems + uptoBulkAll spare + 1
  | .agg parts => uptoBulkAll parts + 1
  | .iface _ d => uptoBulk d + 1
  | .map entries => uptoBulkEntries entries + 1
  | .held _ => 1
def uptoBulkAll {H : Type} : List (DataW H) → Nat
  | [] => 0
  | d :: r => uptoBulk d + uptoBulkAll r
def uptoBulkEntries {H : Type} : List (Lit × DataW H) → Nat
  | [] => 0
  | x :: r => uptoBulkEntry x + uptoBulkEntries r
def uptoBulkEntry {H : Type} : Lit × DataW H → Nat
  | (.string bytes, d) => bytes.length + uptoBulk d + 1
  | (_, d) => uptoBulk d + 1
 end
def uptoSmall : (H : Type) → List (DataW H) → Bool := fun _ ds => decide (uptoBulkAll ds ≤ 1048576)
def OpenSpec.upto (s : _root_.Go.ChangeSpec) : _root_.Go.OpenSpec := { _root_.Go.OpenSpec.ofChange s with cond := some uptoSmall }

/-- 'damsonlaw14.IdemFirst', WHERE WHAT IT READS IS OF BULK AT MOST 1048576: true; the input reads as it did. -/
def idemFirstUptoRow : OpenClaim := { program := "ytmoncgfffdddeaa", sum := "04a762762884d169ffe1c9aa69499b152c8729894269f1480bc22a1027db948b", func := "damson/damsonlaw14.IdemFirst", spec := "idemFirst", inPlace := ["slices.overlaps[damson/api.Key]"], unfollowed := true, recurses := true, apart := false, narrowed := true }
def IdemFirstUptoSaid : Prop := idemFirstUptoRow.holds Try.pinned (OpenSpec.upto idemFirstSpec)

/-- 'damsonlaw14.IdemOld', WHERE WHAT IT READS IS OF BULK AT MOST 1048576: true; the input reads as it did. -/
def idemOldUptoRow : OpenClaim := { program := "ytmoncgfffdddeaa", sum := "04a762762884d169ffe1c9aa69499b152c8729894269f1480bc22a1027db948b", func := "damson/damsonlaw14.IdemOld", spec := "idemOld", inPlace := ["slices.overlaps[damson/api.Key]"], unfollowed := true, recurses := true, apart := false, narrowed := true }
def IdemOldUptoSaid : Prop := idemOldUptoRow.holds Try.pinned (OpenSpec.upto idemOldSpec)

/-- 'damsonlaw14.IdemDoes', WHERE WHAT IT READS IS OF BULK AT MOST 1048576: true; the input reads as it did. -/
def idemDoesUptoRow : OpenClaim := { program := "ytmoncgfffdddeaa", sum := "04a762762884d169ffe1c9aa69499b152c8729894269f1480bc22a1027db948b", func := "damson/damsonlaw14.IdemDoes", spec := "idemDoes", inPlace := ["slices.overlaps[damson/api.Key]"], unfollowed := true, recurses := true, apart := false, narrowed := true }
def IdemDoesUptoSaid : Prop := idemDoesUptoRow.holds Try.pinned (OpenSpec.upto idemDoesSpec)

/-- 'damsonlaw14.IdemSweeps', WHERE WHAT IT READS IS OF BULK AT MOST 1048576: true; the input reads as it did. -/
def idemSweepsUptoRow : OpenClaim := { program := "ytmoncgfffdddeaa", sum := "04a762762884d169ffe1c9aa69499b152c8729894269f1480bc22a1027db948b", func := "damson/damsonlaw14.IdemSweeps", spec := "idemSweeps", inPlace := ["slices.overlaps[damson/api.Key]"], unfollowed := true, recurses := true, apart := false, narrowed := true }
def IdemSweepsUptoSaid : Prop := idemSweepsUptoRow.holds Try.pinned (OpenSpec.upto idemSweepsSpec)

/-- 'damsonlaw14.IdemOthers', WHERE WHAT IT READS IS OF BULK AT MOST 1048576: true; the input reads as it did. -/
def idemOthersUptoRow : OpenClaim := { program := "ytmoncgfffdddeaa", sum := "04a762762884d169ffe1c9aa69499b152c8729894269f1480bc22a1027db948b", func := "damson/damsonlaw14.IdemOthers", spec := "idemOthers", inPlace := ["slices.overlaps[damson/api.Key]"], unfollowed := true, recurses := true, apart := false, narrowed := true }
def IdemOthersUptoSaid : Prop := idemOthersUptoRow.holds Try.pinned (OpenSpec.upto idemOthersSpec)

end Rows
end Go.Proofs.Ytmoncgfffdddeaa
