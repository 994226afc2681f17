/- Late stays late; paid and cancelled stay so. -/
import Derived.Test.YtlpdgagohafmaaaV
set_option linter.unusedVariables false
namespace Go.Proofs.Ytlpdgagohafmaaa.B
open Go.RowKit Go.Proofs.Ytlpdgagohafmaaa.P Go.Proofs.YtlpdgagohafmaaaW.PrintWords
theorem late_row (l : List S34) (h t t2 : Int) (ht : t ≤ t2) : (if (istate l h t).2 = (istate l h t2).2 then (if (istate l h t).2 = 0 then (if (istate l h t).1 = 1 then (if (istate l h t2).1 = 1 then (some true) else (some ((istate l h t2).1 == 4))) else (if (istate l h t).1 = (istate l h t2).1 then (if (istate l h t).1 ≥ 2 then (some (decide ((istate l h t).1 ≤ 4))) else (some false)) else (some false))) else (if (istate l h t).1 = 0 then (some ((istate l h t2).1 == 0)) else (some false))) else (some false)) = some true := by
  unfold istate
  by_cases c : iok l = true
  · rw [if_pos c, if_pos c]
    cases hk : look ik h l with
    | none => rfl
    | some x =>
      have hg := (iok_iff.1 c).2.2 x (look_some hk).1
      unfold igood at hg
      rw [Bool.and_eq_true, Bool.and_eq_true, decide_eq_true_eq, decide_eq_true_eq] at hg
      obtain ⟨_, g1, g2⟩ := hg
      have a1 : inow x t = 1 → inow x t2 = 1 ∨ inow x t2 = 4 := by unfold inow; split <;> split <;> omega
      have a2 : inow x t ≠ 1 → inow x t = inow x t2 ∧ inow x t ≥ 2 ∧ inow x t ≤ 4 := by unfold inow; split <;> split <;> omega
      show (if (0 : Int) = 0 then (if (0 : Int) = 0 then (if inow x t = 1 then (if inow x t2 = 1 then (some true) else (some (inow x t2 == 4))) else (if inow x t = inow x t2 then (if inow x t ≥ 2 then (some (decide (inow x t ≤ 4))) else (some false)) else (some false))) else (if inow x t = 0 then (some (inow x t2 == 0)) else (some false))) else (some false)) = some true
      rw [if_pos rfl, if_pos rfl]
      by_cases e : inow x t = 1
      · rw [if_pos e]
        rcases a1 e with b | b
        · rw [if_pos b]
        · rw [if_neg (by omega), b]; rfl
      · obtain ⟨b1, b2, b3⟩ := a2 e
        rw [if_neg e, if_pos b1, if_pos b2, decide_eq_true b3]
  · rw [if_neg c, if_neg c]; rfl
theorem invoiceLate : damsonlaw12_InvoiceLate.Pure := by
  intro l h t t2 hl w1 w2 w3
  apply Ev.rounds
  unfold damsonlaw12_InvoiceLate.f
  simp only [few_eq, Option.bind_some]
  have core : ∀ b, (b = false → t ≤ t2) → Ev (fun k => damsonlaw12_InvoiceLate.j0 k l h t t2 b) true := by
    intro b hb
    refine Ev.step (fun k => by rw [damsonlaw12_InvoiceLate.j0]) ?_
    refine ev_if (fun _ => ev_some rfl) (fun hb0 => Ev.bind (istate_ev l h t) (Ev.bind (istate_ev l h t2) (ev_const (late_row l h t t2 (hb (by simpa using hb0))))))
  refine Ev.bind live12 (ev_pos rfl (ev_if (fun _ => core _ (fun hd => ?_)) (fun _ => core true (fun hd => by simp at hd))))
  have := of_decide_eq_false hd
  omega
end Go.Proofs.Ytlpdgagohafmaaa.B
theorem Go.Proofs.Ytlpdgagohafmaaa.Pure.InvoiceLate : Go.Proofs.Ytlpdgagohafmaaa.P.damsonlaw12_InvoiceLate.Pure := Go.Proofs.Ytlpdgagohafmaaa.B.invoiceLate
