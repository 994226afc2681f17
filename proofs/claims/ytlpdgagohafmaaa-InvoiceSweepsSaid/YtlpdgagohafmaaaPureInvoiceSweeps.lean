/- What is swept is late, or cancelled, and nothing else is; swept again nothing more is. -/
import Derived.Test.YtlpdgagohafmaaaSwVW
import Derived.Test.YtlpdgagohafmaaaSwVS
import Derived.Test.YtlpdgagohafmaaaQSwx6
set_option linter.unusedVariables false
namespace Go.Proofs.Ytlpdgagohafmaaa.B
open Go.RowKit Go.Proofs.Ytlpdgagohafmaaa.P Go.Proofs.YtlpdgagohafmaaaW.PrintWords
theorem sweeps_row (x11 x12 x13 x14 : Int) (h : (x12 ≠ 0 ∧ x14 = 5) ∨ (x12 = 0 ∧ (x11 = 4 ∨ x11 = 3) ∧ x14 = 5) ∨ (x12 = 0 ∧ x11 ≠ 4 ∧ x11 ≠ 3 ∧ x14 = 0 ∧ x11 = x13)) :
    (if x12 = 0 then (if x11 = 4 then (some (x14 == 5)) else (if x11 = 3 then (some (x14 == 5)) else (if x14 = 0 then (some (x11 == x13)) else (some false)))) else (some (x14 == 5))) = some true := by
  rcases h with ⟨h1, rfl⟩ | ⟨rfl, h2 | h2, rfl⟩ | ⟨rfl, h1, h2, rfl, rfl⟩
  · rw [if_neg h1]; rfl
  · rw [if_pos rfl, if_pos h2]; rfl
  · rw [if_pos rfl, if_neg (by omega), if_pos h2]; rfl
  · rw [if_pos rfl, if_neg h1, if_neg h2, if_pos rfl]; simp
theorem invoiceSweeps : damsonlaw12_InvoiceSweeps.Pure := by
  intro l t h hl w1 w2
  apply Ev.rounds
  unfold damsonlaw12_InvoiceSweeps.f
  simp only [few_eq, Option.bind_some]
  refine Ev.bind live12 (ev_pos rfl (ev_if (fun hf => ?_) (fun _ => ev_some rfl)))
  refine Ev.bind (isweep_ev l t) ?_
  by_cases c : iok l = true
  · have c2 := iok_filter c (istay t)
    have e1 : isweep l t = (l.filter (istay t), 0) := by unfold isweep; rw [if_pos c]
    have e2 : isweep (l.filter (istay t)) t = (l.filter (istay t), 0) := by unfold isweep; rw [if_pos c2, List.filter_filter]; simp
    have hlen := (iok_iff.1 c2).1
    rw [e1]
    refine ev_pos rfl ?_
    refine Ev.bind (e2 ▸ isweep_ev (l.filter (istay t)) t) (Ev.bind (istate_ev l h t) (Ev.bind (istate_ev (l.filter (istay t)) h t) (ev_pos rfl ?_)))
    refine Ev.bind (isame_ev (l.filter (istay t)) (by omega)) (ev_pos rfl ?_)
    refine Ev.bind (icheck_ev (l.filter (istay t))) ?_
    rw [if_pos c2]
    refine Ev.step (fun k => by rw [damsonlaw12_InvoiceSweeps.j0]) (ev_neg (by decide) (ev_const (sweeps_row _ _ _ _ ?_)))
    unfold istate
    rw [if_pos c, if_pos c2, look_filter _ _ (iok_iff.1 c).2.1]
    cases hk : look ik h l with
    | none => exact .inl ⟨by show (5 : Int) ≠ 0; omega, rfl⟩
    | some x =>
      have a1 : inow x t = 3 → x.f3 = 3 := by unfold inow; split <;> omega
      have a2 : inow x t ≠ 3 → inow x t ≠ 4 → x.f3 ≠ 3 := by unfold inow; split <;> omega
      by_cases s : inow x t = 4 ∨ inow x t = 3
      · have hs : istay t x = false := by
          unfold istay
          rcases s with s | s
          · rw [s]; rfl
          · rw [a1 s]; simp
        refine .inr (.inl ⟨rfl, s, ?_⟩)
        simp [Option.filter, hs]
      · have hs : istay t x = true := by
          unfold istay
          have b1 : inow x t ≠ 4 := fun e => s (.inl e)
          have b2 := a2 (fun e => s (.inr e)) b1
          rw [beq_eq_false_iff_ne.2 b1, beq_eq_false_iff_ne.2 b2]; rfl
        refine .inr (.inr ⟨rfl, fun e => s (.inl e), fun e => s (.inr e), ?_, ?_⟩)
        · simp [Option.filter, hs]
        · simp [Option.filter, hs]
  · have e1 : isweep l t = ([], 1) := by unfold isweep; rw [if_neg c]
    rw [e1]
    exact ev_neg (by decide) (ev_some rfl)
end Go.Proofs.Ytlpdgagohafmaaa.B
theorem Go.Proofs.Ytlpdgagohafmaaa.Pure.InvoiceSweeps : Go.Proofs.Ytlpdgagohafmaaa.P.damsonlaw12_InvoiceSweeps.Pure := Go.Proofs.Ytlpdgagohafmaaa.B.invoiceSweeps
