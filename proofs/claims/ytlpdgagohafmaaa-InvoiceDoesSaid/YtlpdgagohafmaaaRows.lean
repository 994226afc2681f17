/-
  No cell of these rows narrows 'for every input' (looked for: loops, veiled, ifaces, maps, wideKeys, modest, calm, conditions, laid).
  DERIVED. THE GIVEN ROWS OF THIS SEAT. 6 by the template 'for every input the law returns true; each argument reads behind the call as it read before'; 0 by the template 'total and deterministic' (their statements: YtlpdgagohafmaaaTotals.lean).
  GIVEN WITH THE SEED: the statements are not yours to turn. If you find one false, say at which input.
  Laid BY PROGRAM, IN A SANDBOX (cutbox-rows.mjs): the forced cells as the released guide's own fill.sh prints them over the translation 3cd1782984a2eda5… (all of the seat's roots in one cut). By AI agents, Wed Nov 11 2026. No macro, syntax, notation, axiom, sorry.
-/
import Derived.Test.YtlpdgagohafmaaaChecked
import GoSem.Claim
import GoSem.ClaimJoined
import GoSem.ClaimMapViews
import Derived.JoinedTies
import Derived.KernelRfl
namespace Go.Proofs.Ytlpdgagohafmaaa
/- THE CELL 'sum', in the pinned program and in every row, IS THE sha256 OF THE DUMP (.gsa) THAT YtlpdgagohafmaaaProg.lean LOADS. Nothing in Lean hashes anything: it is a label: what it is worth is what the hold of that sum in a sandbox is worth. -/
noncomputable def Try.pinned : Pinned := { name := "ytlpdgagohafmaaa", sum := "3cd1782984a2eda5509daacf82955dc97b9a0e4b24b9a3848b1ebe7c5d8c49b1", checked := Try.checked }
namespace Rows
def none {H : Type} : Left H := { results := [], args := [] }

/-- 'damsonlaw12.InvoiceOthers': WHATEVER THE INPUT: true; the input reads as it did. -/
def invoiceOthersSpec : ChangeSpec := { name := "invoiceOthers", fn := fun _ => fun
  | [d1, d2, d3, d4, d5, d6] => { results := [.lit (.bool true)], args := [d1, d2, d3, d4, d5, d6] }
  | _ => none }
def invoiceOthersRow : OpenClaim := { program := "ytlpdgagohafmaaa", sum := "3cd1782984a2eda5509daacf82955dc97b9a0e4b24b9a3848b1ebe7c5d8c49b1", func := "damson/damsonlaw12.InvoiceOthers", spec := "invoiceOthers", inPlace := ["slices.overlaps[damson/api.Invoice]"], unfollowed := true, recurses := true, apart := false }
def InvoiceOthersSaid : Prop := invoiceOthersRow.holds Try.pinned (OpenSpec.ofChange invoiceOthersSpec)

/-- ITS FALSE NEIGHBOUR: 'it returns false'. Refute it at one input. -/
def invoiceOthersWrong : ChangeSpec := { name := "invoiceOthers", fn := fun _ => fun
  | [d1, d2, d3, d4, d5, d6] => { results := [.lit (.bool false)], args := [d1, d2, d3, d4, d5, d6] }
  | _ => none }
def InvoiceOthersWrongFalsely : Prop := invoiceOthersRow.holds Try.pinned (OpenSpec.ofChange invoiceOthersWrong)

/-- 'damsonlaw12.InvoiceLate': WHATEVER THE INPUT: true; the input reads as it did. -/
def invoiceLateSpec : ChangeSpec := { name := "invoiceLate", fn := fun _ => fun
  | [d1, d2, d3, d4] => { results := [.lit (.bool true)], args := [d1, d2, d3, d4] }
  | _ => none }
def invoiceLateRow : OpenClaim := { program := "ytlpdgagohafmaaa", sum := "3cd1782984a2eda5509daacf82955dc97b9a0e4b24b9a3848b1ebe7c5d8c49b1", func := "damson/damsonlaw12.InvoiceLate", spec := "invoiceLate", inPlace := ["slices.overlaps[damson/api.Invoice]"], unfollowed := true, recurses := true, apart := false }
def InvoiceLateSaid : Prop := invoiceLateRow.holds Try.pinned (OpenSpec.ofChange invoiceLateSpec)

/-- ITS FALSE NEIGHBOUR: 'it returns false'. Refute it at one input. -/
def invoiceLateWrong : ChangeSpec := { name := "invoiceLate", fn := fun _ => fun
  | [d1, d2, d3, d4] => { results := [.lit (.bool false)], args := [d1, d2, d3, d4] }
  | _ => none }
def InvoiceLateWrongFalsely : Prop := invoiceLateRow.holds Try.pinned (OpenSpec.ofChange invoiceLateWrong)

/-- 'damsonlaw12.InvoiceOrder': WHATEVER THE INPUT: true; the input reads as it did. -/
def invoiceOrderSpec : ChangeSpec := { name := "invoiceOrder", fn := fun _ => fun
  | [d1, d2, d3] => { results := [.lit (.bool true)], args := [d1, d2, d3] }
  | _ => none }
def invoiceOrderRow : OpenClaim := { program := "ytlpdgagohafmaaa", sum := "3cd1782984a2eda5509daacf82955dc97b9a0e4b24b9a3848b1ebe7c5d8c49b1", func := "damson/damsonlaw12.InvoiceOrder", spec := "invoiceOrder", inPlace := ["slices.overlaps[damson/api.Invoice]"], unfollowed := true, recurses := true, apart := false }
def InvoiceOrderSaid : Prop := invoiceOrderRow.holds Try.pinned (OpenSpec.ofChange invoiceOrderSpec)

/-- ITS FALSE NEIGHBOUR: 'it returns false'. Refute it at one input. -/
def invoiceOrderWrong : ChangeSpec := { name := "invoiceOrder", fn := fun _ => fun
  | [d1, d2, d3] => { results := [.lit (.bool false)], args := [d1, d2, d3] }
  | _ => none }
def InvoiceOrderWrongFalsely : Prop := invoiceOrderRow.holds Try.pinned (OpenSpec.ofChange invoiceOrderWrong)

/-- 'damsonlaw12.InvoiceOnce': WHATEVER THE INPUT: true; the input reads as it did. -/
def invoiceOnceSpec : ChangeSpec := { name := "invoiceOnce", fn := fun _ => fun
  | [d1, d2, d3, d4, d5] => { results := [.lit (.bool true)], args := [d1, d2, d3, d4, d5] }
  | _ => none }
def invoiceOnceRow : OpenClaim := { program := "ytlpdgagohafmaaa", sum := "3cd1782984a2eda5509daacf82955dc97b9a0e4b24b9a3848b1ebe7c5d8c49b1", func := "damson/damsonlaw12.InvoiceOnce", spec := "invoiceOnce", inPlace := ["slices.overlaps[damson/api.Invoice]"], unfollowed := true, recurses := true, apart := false }
def InvoiceOnceSaid : Prop := invoiceOnceRow.holds Try.pinned (OpenSpec.ofChange invoiceOnceSpec)

/-- ITS FALSE NEIGHBOUR: 'it returns false'. Refute it at one input. -/
def invoiceOnceWrong : ChangeSpec := { name := "invoiceOnce", fn := fun _ => fun
  | [d1, d2, d3, d4, d5] => { results := [.lit (.bool false)], args := [d1, d2, d3, d4, d5] }
  | _ => none }
def InvoiceOnceWrongFalsely : Prop := invoiceOnceRow.holds Try.pinned (OpenSpec.ofChange invoiceOnceWrong)

/-- 'damsonlaw12.InvoiceSweeps': WHATEVER THE INPUT: true; the input reads as it did. -/
def invoiceSweepsSpec : ChangeSpec := { name := "invoiceSweeps", fn := fun _ => fun
  | [d1, d2, d3] => { results := [.lit (.bool true)], args := [d1, d2, d3] }
  | _ => none }
def invoiceSweepsRow : OpenClaim := { program := "ytlpdgagohafmaaa", sum := "3cd1782984a2eda5509daacf82955dc97b9a0e4b24b9a3848b1ebe7c5d8c49b1", func := "damson/damsonlaw12.InvoiceSweeps", spec := "invoiceSweeps", inPlace := ["slices.overlaps[damson/api.Invoice]"], unfollowed := true, recurses := true, apart := false }
def InvoiceSweepsSaid : Prop := invoiceSweepsRow.holds Try.pinned (OpenSpec.ofChange invoiceSweepsSpec)

/-- ITS FALSE NEIGHBOUR: 'it returns false'. Refute it at one input. -/
def invoiceSweepsWrong : ChangeSpec := { name := "invoiceSweeps", fn := fun _ => fun
  | [d1, d2, d3] => { results := [.lit (.bool false)], args := [d1, d2, d3] }
  | _ => none }
def InvoiceSweepsWrongFalsely : Prop := invoiceSweepsRow.holds Try.pinned (OpenSpec.ofChange invoiceSweepsWrong)

/-- 'damsonlaw12.InvoiceDoes': WHATEVER THE INPUT: true; the input reads as it did. -/
def invoiceDoesSpec : ChangeSpec := { name := "invoiceDoes", fn := fun _ => fun
  | [d1, d2, d3, d4, d5, d6] => { results := [.lit (.bool true)], args := [d1, d2, d3, d4, d5, d6] }
  | _ => none }
def invoiceDoesRow : OpenClaim := { program := "ytlpdgagohafmaaa", sum := "3cd1782984a2eda5509daacf82955dc97b9a0e4b24b9a3848b1ebe7c5d8c49b1", func := "damson/damsonlaw12.InvoiceDoes", spec := "invoiceDoes", inPlace := ["slices.overlaps[damson/api.Invoice]"], unfollowed := true, recurses := true, apart := false }
def InvoiceDoesSaid : Prop := invoiceDoesRow.holds Try.pinned (OpenSpec.ofChange invoiceDoesSpec)

/-- ITS FALSE NEIGHBOUR: 'it returns false'. Refute it at one input. -/
def invoiceDoesWrong : ChangeSpec := { name := "invoiceDoes", fn := fun _ => fun
  | [d1, d2, d3, d4, d5, d6] => { results := [.lit (.bool false)], args := [d1, d2, d3, d4, d5, d6] }
  | _ => none }
def InvoiceDoesWrongFalsely : Prop := invoiceDoesRow.holds Try.pinned (OpenSpec.ofChange invoiceDoesWrong)

/- THE SECOND FORM. 'bulk': how many values and letters a reading holds, each counted each time it is reached (what is shared counts as often as it is met; a slice's spare places count too). A statement '..UptoSaid' is the law's where the arguments, and the package variables that the reading takes, are together of bulk at most 1048576: NARROWER than '..Said'. Prove '..Said' where nothing that the law and all that it calls make is longer than what came in: it says more and counts as full. Else prove '..UptoSaid'. A law counts once. -/
mutual
def uptoBulk {H : Type} : DataW H → Nat
  | .lit (.string bytes) => bytes.length + 1
  | .lit _ => 1
  | .nil => 1
  | .ptr d => uptoBulk d + 1
  | .slice elems spare => uptoBulkAll elems + uptoBulkAll spare + 1
  | .agg parts => uptoBulkAll parts + 1
  | .iface _ d => uptoBulk d + 1
  | .map entries => uptoBulkEntries entries + 1
  | .held _ => 1
def uptoBulkAll {H : Type} : List (DataW H) → Nat
  | [] => 0
  | d :: r => uptoBulk d + uptoBulkAll r
def uptoBulkEntries {H : Type} : List (Lit × DataW H) → Nat
  | [] => 0
  | x :: r => uptoBulkEntry x + uptoBulkEntries r
def uptoBulkEntry {H : Type} : Lit × DataW H → Nat
  | (.string bytes, d) => bytes.length + uptoBulk d + 1
  | (_, d) => uptoBulk d + 1
 end
def uptoSmall : (H : Type) → List (DataW H) → Bool := fun _ ds => decide (uptoBulkAll ds ≤ 1048576)
def OpenSpec.upto (s : _root_.Go.ChangeSpec) : _root_.Go.OpenSpec := { _root_.Go.OpenSpec.ofChange s with cond := some uptoSmall }

/-- 'damsonlaw12.InvoiceOthers', WHERE WHAT IT READS IS OF BULK AT MOST 1048576: true; the input reads as it did. -/
def invoiceOthersUptoRow : OpenClaim := { program := "ytlpdgagohafmaaa", sum := "3cd1782984a2eda5509daacf82955dc97b9a0e4b24b9a3848b1ebe7c5d8c49b1", func := "damson/damsonlaw12.InvoiceOthers", spec := "invoiceOthers", inPlace := ["slices.overlaps[damson/api.Invoice]"], unfollowed := true, recurses := true, apart := false, narrowed := true }
def InvoiceOthersUptoSaid : Prop := invoiceOthersUptoRow.holds Try.pinned (OpenSpec.upto invoiceOthersSpec)

/-- 'damsonlaw12.InvoiceLate', WHERE WHAT IT READS IS OF BULK AT MOST 1048576: true; the input reads as it did. -/
def invoiceLateUptoRow : OpenClaim := { program := "ytlpdgagohafmaaa", sum := "3cd1782984a2eda5509daacf82955dc97b9a0e4b24b9a3848b1ebe7c5d8c49b1", func := "damson/damsonlaw12.InvoiceLate", spec := "invoiceLate", inPlace := ["slices.overlaps[damson/api.Invoice]"], unfollowed := true, recurses := true, apart := false, narrowed := true }
def InvoiceLateUptoSaid : Prop := invoiceLateUptoRow.holds Try.pinned (OpenSpec.upto invoiceLateSpec)

/-- 'damsonlaw12.InvoiceOrder', WHERE WHAT IT READS IS OF BULK AT MOST 1048576: true; the input reads as it did. -/
def invoiceOrderUptoRow : OpenClaim := { program := "ytlpdgagohafmaaa", sum := "3cd1782984a2eda5509daacf82955dc97b9a0e4b24b9a3848b1ebe7c5d8c49b1", func := "damson/damsonlaw12.InvoiceOrder", spec := "invoiceOrder", inPlace := ["slices.overlaps[damson/api.Invoice]"], unfollowed := true, recurses := true, apart := false, narrowed := true }
def InvoiceOrderUptoSaid : Prop := invoiceOrderUptoRow.holds Try.pinned (OpenSpec.upto invoiceOrderSpec)

/-- 'damsonlaw12.InvoiceOnce', WHERE WHAT IT READS IS OF BULK AT MOST 1048576: true; the input reads as it did. -/
def invoiceOnceUptoRow : OpenClaim := { program := "ytlpdgagohafmaaa", sum := "3cd1782984a2eda5509daacf82955dc97b9a0e4b24b9a3848b1ebe7c5d8c49b1", func := "damson/damsonlaw12.InvoiceOnce", spec := "invoiceOnce", inPlace := ["slices.overlaps[damson/api.Invoice]"], unfollowed := true, recurses := true, apart := false, narrowed := true }
def InvoiceOnceUptoSaid : Prop := invoiceOnceUptoRow.holds Try.pinned (OpenSpec.upto invoiceOnceSpec)

/-- 'damsonlaw12.InvoiceSweeps', WHERE WHAT IT READS IS OF BULK AT MOST 1048576: true; the input reads as it did. -/
def invoiceSweepsUptoRow : OpenClaim := { program := "ytlpdgagohafmaaa", sum := "3cd1782984a2eda5509daacf82955dc97b9a0e4b24b9a3848b1ebe7c5d8c49b1", func := "damson/damsonlaw12.InvoiceSweeps", spec := "invoiceSweeps", inPlace := ["slices.overlaps[damson/api.Invoice]"], unfollowed := true, recurses := true, apart := false, narrowed := true }
def InvoiceSweepsUptoSaid : Prop := invoiceSweepsUptoRow.holds Try.pinned (OpenSpec.upto invoiceSweepsSpec)

/-- 'damsonlaw12.InvoiceDoes', WHERE WHAT IT READS IS OF BULK AT MOST 1048576: true; the input reads as it did. -/
def invoiceDoesUptoRow : OpenClaim := { program := "ytlpdgagohafmaaa", sum := "3cd1782984a2eda5509daacf82955dc97b9a0e4b24b9a3848b1ebe7c5d8c49b1", func := "damson/damsonlaw12.InvoiceDoes", spec := "invoiceDoes", inPlace := ["slices.overlaps[damson/api.Invoice]"], unfollowed := true, recurses := true, apart := false, narrowed := true }
def InvoiceDoesUptoSaid : Prop := invoiceDoesUptoRow.holds Try.pinned (OpenSpec.upto invoiceDoesSpec)

end Rows
end Go.Proofs.Ytlpdgagohafmaaa
