/- Plain laws of the package invoice: what ending leaves. -/
import Derived.Test.YtlpdgagohafmaaaIDoV
import Derived.Test.YtlpdgagohafmaaaQIDoesx5
set_option linter.unusedVariables false
namespace Go.Proofs.Ytlpdgagohafmaaa.B
open Go.RowKit Go.Proofs.Ytlpdgagohafmaaa.P Go.Proofs.YtlpdgagohafmaaaW.PrintWords
def iset (st : Int) (x : S34) : S34 := ⟨x.f0, x.f1, x.f2, st⟩
def iend (l : List S34) (h tick n st : Int) : List S34 × Int :=
  if iok l then (match look ik h l with
    | none => ([], 5)
    | some x => if inow x tick = 4 then ([], 13) else if inow x tick = 1 then (if n < x.f1 then ([], 9) else (upd ik h (iset st) l, 0)) else ([], 10)) else ([], 1)
theorem iend_ev (l : List S34) (h tick n st : Int) : Ev (fun k => invoice_end.f k l h tick n st) (iend l h tick n st) := by
  unfold invoice_end.f iend
  refine Ev.bind (ifind_ev l h) ?_
  unfold ifind
  by_cases c : iok l = true
  · obtain ⟨h1, h2, h3⟩ := iok_iff.1 c
    rw [if_pos c, if_pos c]
    cases hk : look ik h l with
    | none => exact ev_neg (by simp) (ev_some rfl)
    | some x =>
      have hat := look_at h (z := z34) h2 hk
      have hrd : rd_T34 l (pos ik h l : Int) = x := by rw [rd34, hat.2]
      refine ev_pos rfl (ev_pos (by show (0 : Int) ≤ (pos ik h l : Int); omega) (ev_pos (by show (pos ik h l : Int) < _; omega) ?_))
      simp only [hrd, now_eq, Option.bind_some]
      refine ev_ite (fun _ => ev_some rfl) (fun c1 => ev_ite (fun c2 => ev_ite (fun _ => ev_some rfl) (fun c3 => ?_)) (fun _ => ev_some rfl))
      have e1 : slices_Clone_Invoice.f l = some l := by unfold slices_Clone_Invoice.f; rw [if_pos (by omega)]
      simp only [e1, Option.bind_some, hrd]
      refine ev_pos (by show (pos ik h l : Int) < _; omega) (ev_some ?_)
      rw [Int.toNat_natCast]
      exact congrArg (fun z => (z, (0 : Int))) (set_eq h (z := z34) (iset st) h2 hk)
  · rw [if_neg c, if_neg c]
    exact ev_neg (by simp) (ev_some rfl)
theorem ipay_ev (l : List S34) (h n tick : Int) : Ev (fun k => invoice_Pay.f k l h n tick) (iend l h tick n 2) := by
  unfold invoice_Pay.f
  exact Ev.bind (iend_ev l h tick n 2) (Ev.now _)
theorem icancel_ev (l : List S34) (h tick : Int) : Ev (fun k => invoice_Cancel.f k l h tick) (iend l h tick 4611686018427387904 3) := by
  unfold invoice_Cancel.f
  exact Ev.bind (iend_ev l h tick 4611686018427387904 3) (Ev.now _)
end Go.Proofs.Ytlpdgagohafmaaa.B
