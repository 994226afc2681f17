/- Plain laws of the package invoice: what sweeping leaves. -/
import Derived.Test.YtlpdgagohafmaaaIDoV
import Derived.Test.YtlpdgagohafmaaaQIDoesx5
set_option linter.unusedVariables false
namespace Go.Proofs.Ytlpdgagohafmaaa.B
open Go.RowKit Go.Proofs.Ytlpdgagohafmaaa.P Go.Proofs.YtlpdgagohafmaaaW.PrintWords
/-- Whether one stays. -/
def istay (tick : Int) (x : S34) : Bool := !(inow x tick == 4 || x.f3 == 3)
theorem istay_eq (tick : Int) (x : S34) : (!overv tick x) = istay tick x := rfl
def isweep (l : List S34) (tick : Int) : List S34 × Int := if iok l then (l.filter (istay tick), 0) else ([], 1)
theorem isweep_ev (l : List S34) (tick : Int) : Ev (fun k => invoice_Sweep.f k l tick) (isweep l tick) := by
  unfold invoice_Sweep.f isweep
  refine Ev.bind (icheck_ev l) ?_
  by_cases c : iok l = true
  · rw [if_pos c, if_pos c]
    have h1 := (iok_iff.1 c).1
    have e1 : slices_Clone_Invoice.f l = some l := by unfold slices_Clone_Invoice.f; rw [if_pos (by omega)]
    refine ev_pos rfl ?_
    simp only [e1, Option.bind_some]
    exact ev_some rfl
  · rw [if_neg c, if_neg c]
    exact ev_neg (by decide) (ev_some rfl)
theorem iok_filter {l : List S34} (h : iok l = true) (p : S34 → Bool) : iok (l.filter p) = true := by
  obtain ⟨h1, h2, h3⟩ := iok_iff.1 h
  exact iok_iff.2 ⟨Nat.le_trans (List.length_filter_le _ _) h1, srt_filter h2, fun x hx => h3 x (List.mem_filter.1 hx).1⟩
end Go.Proofs.Ytlpdgagohafmaaa.B
