/- What was added is taken away again, in whatever order; nothing is more than may be. No conditions. -/
import Derived.Test.YtcolmgbmpmmeaaaD
set_option linter.unusedVariables false
namespace Go.Proofs.Ytcolmgbmpmmeaaa.B
open Go.RowKit Go.Proofs.Ytcolmgbmpmmeaaa.P Go.Proofs.YtcolmgbmpmmeaaaW.PrintWords
theorem live04 : Ev (fun k => damsonlaw04_live.f k) true := Ev.of damsonlaw04_live.mono (k := 20) (by decide +kernel)
theorem madd2_comm (a b : Int) : madd2 b a = madd2 a b := by
  unfold madd2
  by_cases h1 : a ≤ 4611686018427387904 <;> by_cases h2 : b ≤ 4611686018427387904 <;> simp [h1, h2, Int.add_comm b a]
end Go.Proofs.Ytcolmgbmpmmeaaa.B
namespace Go.Proofs.Ytcolmgbmpmmeaaa.Pure
open Go.RowKit Go.Proofs.Ytcolmgbmpmmeaaa.P Go.Proofs.YtcolmgbmpmmeaaaW.PrintWords Go.Proofs.Ytcolmgbmpmmeaaa.B
theorem MoneyBack : damsonlaw04_MoneyBack.Pure := by
  intro a b wa wb
  obtain ⟨a0, a1⟩ := wf_u64 wa
  obtain ⟨b0, b1⟩ := wf_u64 wb
  apply Ev.rounds
  unfold damsonlaw04_MoneyBack.f
  refine Ev.bind live04 (ev_pos rfl (Ev.bind (add2_ev a b a0 b0) (Ev.bind (add2_ev b a b0 a0) ?_)))
  rw [madd2_comm a b]
  refine ev_pos rfl ?_
  have hb : ((madd2 a b).2 != (madd2 a b).2) = false := by simp
  simp only [hb]
  by_cases h : a ≤ 4611686018427387904 ∧ b ≤ 4611686018427387904
  · by_cases h2 : a + b > 4611686018427387904
    · have e : madd2 a b = (0, 8) := by unfold madd2; rw [if_pos h, if_pos h2]
      rw [e]
      refine Ev.step (fun k => by rw [damsonlaw04_MoneyBack.j0]) (ev_neg (by simp) (ev_neg (by simp) (ev_pos rfl ?_)))
      refine Ev.bind (check_ev [a, b] (by simp)) (ev_some ?_)
      rw [mchk_cons, mchk_one, if_pos h.1, if_pos h.2]
      rfl
    · have e : madd2 a b = (a + b, 0) := by unfold madd2; rw [if_pos h, if_neg h2]
      rw [e]
      refine Ev.step (fun k => by rw [damsonlaw04_MoneyBack.j0]) (ev_neg (by simp) (ev_pos rfl ?_))
      have e1 : msub (a + b) b = (a, 0) := by
        unfold msub
        rw [if_pos ⟨by omega, h.2⟩, if_neg (by omega)]
        congr 1; omega
      have e2 : msub a (a + b) = if b = 0 then (0, 0) else (0, 9) := by
        unfold msub
        rw [if_pos ⟨by omega, by omega⟩]
        by_cases hb0 : b = 0
        · rw [if_pos hb0, if_neg (by omega)]; congr 1; omega
        · rw [if_neg hb0, if_pos (by omega)]
      refine Ev.bind (sub_ev (a + b) b (by omega) b0) (Ev.bind (sub_ev a (a + b) a0 (by omega)) ?_)
      rw [e1, e2]
      refine ev_pos rfl (ev_pos rfl (Ev.bind (check_ev [a + b] (by simp)) ?_))
      refine ev_pos (mchk_ok1 (by omega)) (ev_pos (by show a ≤ a + b; omega) ?_)
      by_cases hb0 : b = 0
      · rw [if_pos hb0]; subst hb0; exact ev_pos (by decide) (ev_some rfl)
      · rw [if_neg hb0]; exact ev_pos (by simp [hb0]) (ev_some rfl)
  · have e : madd2 a b = (0, 1) := by unfold madd2; rw [if_neg h]
    rw [e]
    refine Ev.step (fun k => by rw [damsonlaw04_MoneyBack.j0]) (ev_neg (by simp) (ev_neg (by simp) (ev_pos rfl ?_)))
    refine Ev.bind (check_ev [a, b] (by simp)) (ev_some ?_)
    rw [mchk_cons, mchk_one]
    by_cases h1 : a ≤ 4611686018427387904
    · rw [if_pos h1, if_neg (fun h' => h ⟨h1, h'⟩)]; rfl
    · rw [if_neg h1]; rfl
end Go.Proofs.Ytcolmgbmpmmeaaa.Pure
