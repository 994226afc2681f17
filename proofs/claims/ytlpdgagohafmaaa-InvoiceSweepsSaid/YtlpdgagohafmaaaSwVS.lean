/- Plain laws of the package invoice: a row is the same as itself. -/
import Derived.Test.YtlpdgagohafmaaaSwV
import Derived.Test.YtlpdgagohafmaaaQSwx5
set_option linter.unusedVariables false
namespace Go.Proofs.Ytlpdgagohafmaaa.B
open Go.RowKit Go.Proofs.Ytlpdgagohafmaaa.P Go.Proofs.YtlpdgagohafmaaaW.PrintWords
theorem isame_loop (l : List S34) (hl : l.length ≤ 140737488351232) : ∀ (ys : List S34) (i : Nat), l.drop i = ys → Ev (fun k => slices_EqualFunc_Invoice_at_invoice_Same_1.l0 k l l (l.length : Int) (i : Int)) true
  | [], i, h => by
    have hi := drop_nil h
    exact Ev.step (f := fun _ => some true) (fun k => by rw [slices_EqualFunc_Invoice_at_invoice_Same_1.l0, if_neg (by omega)]) (ev_some rfl)
  | y :: ys, i, h => by
    have hi := drop_lt h
    have ih := isame_loop l hl ys (i + 1) (drop_next h)
    refine Ev.step (f := fun k => slices_EqualFunc_Invoice_at_invoice_Same_1.l0 k l l (l.length : Int) ((i + 1 : Nat) : Int)) (fun k => ?_) ih
    rw [slices_EqualFunc_Invoice_at_invoice_Same_1.l0, if_pos (by omega), if_pos (by omega), if_pos (by omega), if_pos (by omega), next_i hi hl]
    simp [invoice_Same_1.f]
theorem isame_ev (l : List S34) (hl : l.length ≤ 140737488351232) : Ev (fun k => invoice_Same.f k l l) true := by
  unfold invoice_Same.f slices_EqualFunc_Invoice_at_invoice_Same_1.f
  exact Ev.bind (ev_pos rfl (isame_loop l hl l 0 rfl)) (Ev.now _)
end Go.Proofs.Ytlpdgagohafmaaa.B
