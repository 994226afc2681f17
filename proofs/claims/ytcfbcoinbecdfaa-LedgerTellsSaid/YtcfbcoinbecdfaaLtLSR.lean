/- Plain laws of the document's answer for ledgers: whether two rows are the same, whether they are few. -/
import Derived.Test.YtcfbcoinbecdfaaLtLS
import Derived.Test.YtcfbcoinbecdfaaQLtellsx2
import Derived.Test.YtcfbcoinbecdfaaQLtellsx15
set_option linter.unusedVariables false
namespace Go.Proofs.Ytcfbcoinbecdfaa.B
open Go.RowKit Go.Proofs.Ytcfbcoinbecdfaa.P Go.Proofs.YtcfbcoinbecdfaaW.PrintWords
theorem rsm_loop (c o : S25) (e : c.f5.length = o.f5.length) (hl : c.f5.length ≤ 140737488351232) : ∀ (xs : List S44) (i : Nat), c.f5.drop i = xs → Ev (fun k => damsonref09_Same.l0 k (c.f5.length : Int) (i : Int) c.f0 c.f1 c.f2 c.f3 c.f4 c.f5 c.f6 o.f0 o.f1 o.f2 o.f3 o.f4 o.f5 o.f6) (hsame xs (o.f5.drop i))
  | [], i, h => by
    have hi := drop_nil h
    rw [List.drop_eq_nil_of_le (show o.f5.length ≤ i by omega)]
    refine Ev.step (fun k => by rw [damsonref09_Same.l0]) ?_
    exact ev_neg (by omega) (ev_some rfl)
  | x :: xs, i, h => by
    have hi := drop_lt h
    obtain ⟨y, ys, hy⟩ := drop_two h e
    have ih := rsm_loop c o e hl xs (i + 1) (drop_next h)
    rw [drop_next hy] at ih
    rw [hy]
    refine Ev.step (fun k => by rw [damsonref09_Same.l0]) ?_
    rw [drop_rd44 h, drop_rd44 hy, next_i hi hl]
    refine ev_pos (by omega) (ev_pos (by omega) (ev_pos (by omega) (ev_pos (by omega) ?_)))
    show Ev _ ((x.f0 == y.f0 && x.f1 == y.f1) && hsame xs ys)
    by_cases c0 : x.f0 = y.f0
    · by_cases c1 : x.f1 = y.f1
      · rw [show (x.f0 == y.f0 && x.f1 == y.f1) = true by simp [c0, c1], Bool.true_and]
        exact ev_neg (by simp [c0, c1]) ih
      · rw [show (x.f0 == y.f0 && x.f1 == y.f1) = false by simp [c1], Bool.false_and]
        exact ev_pos (by simp [c1]) (ev_some rfl)
    · rw [show (x.f0 == y.f0 && x.f1 == y.f1) = false by simp [c0], Bool.false_and]
      exact ev_pos (by simp [c0]) (ev_some rfl)
theorem rsm_ev (c o : S25) (hl : c.f5.length ≤ 140737488351232) : Ev (fun k => damsonref09_Same.f k c.f0 c.f1 c.f2 c.f3 c.f4 c.f5 c.f6 o.f0 o.f1 o.f2 o.f3 o.f4 o.f5 o.f6) (csm c o) := by
  unfold damsonref09_Same.f
  have bad : csm c o = false → Ev (fun k => damsonref09_Same.j0 k true c.f0 c.f1 c.f2 c.f3 c.f4 c.f5 c.f6 o.f0 o.f1 o.f2 o.f3 o.f4 o.f5 o.f6) (csm c o) := by
    intro h
    rw [h]
    refine Ev.step (fun k => by rw [damsonref09_Same.j0]) ?_
    exact ev_pos rfl (ev_some rfl)
  have no : ¬ (c.f0 = o.f0 ∧ c.f1 = o.f1 ∧ c.f2 = o.f2 ∧ c.f3 = o.f3 ∧ c.f4 = o.f4 ∧ c.f6 = o.f6) → csm c o = false := fun h => by
    unfold csm; rw [decide_eq_false h, Bool.false_and]
  refine ev_if (fun h0 => ev_if (fun h1 => ev_if (fun h2 => ev_if (fun h3 => ev_if (fun h4 => ev_if (fun h6 => bad (no (fun q => ?_))) (fun h6 => ?_)) (fun h => bad (no (fun q => h q.2.2.2.2.1)))) (fun h => bad (no (fun q => h q.2.2.2.1)))) (fun h => bad (no (fun q => h q.2.2.1)))) (fun h => bad (no (fun q => h q.2.1)))) (fun h => bad (no (fun q => h q.1)))
  · rw [q.2.2.2.2.2] at h6; simp at h6
  · have h6' : c.f6 = o.f6 := by simpa using h6
    have hc : csm c o = hsame c.f5 o.f5 := by unfold csm; rw [decide_eq_true ⟨h0, h1, h2, h3, h4, h6'⟩, Bool.true_and]
    by_cases e : c.f5.length = o.f5.length
    · rw [show ((c.f5.length : Int) != (o.f5.length : Int)) = false by simp [e], hc]
      refine Ev.step (fun k => by rw [damsonref09_Same.j0]) (ev_neg (by decide) ?_)
      exact rsm_loop c o e hl c.f5 0 rfl
    · rw [show ((c.f5.length : Int) != (o.f5.length : Int)) = true by simp; omega]
      exact bad (by rw [hc, hsame_len e])
theorem rls_loop (l m : List S25) (e : l.length = m.length) (hl : l.length ≤ 1000) (h5 : ∀ c ∈ l, c.f5.length ≤ 1000) : ∀ (xs : List S25) (i : Nat), l.drop i = xs → Ev (fun k => damsonref10_Same.l0 k l m (l.length : Int) (i : Int)) (lsame xs (m.drop i))
  | [], i, h => by
    have hi := drop_nil h
    rw [List.drop_eq_nil_of_le (show m.length ≤ i by omega)]
    refine Ev.step (fun k => by rw [damsonref10_Same.l0]) ?_
    exact ev_neg (by omega) (ev_some rfl)
  | x :: xs, i, h => by
    have hi := drop_lt h
    obtain ⟨y, ys, hy⟩ := drop_two25 h e
    have ih := rls_loop l m e hl h5 xs (i + 1) (drop_next h)
    rw [drop_next hy] at ih
    rw [hy]
    refine Ev.step (fun k => by rw [damsonref10_Same.l0]) ?_
    rw [drop_rd25 h, drop_rd25 hy, next_i hi (by omega)]
    refine ev_pos (by omega) (ev_pos (by omega) (ev_pos (by omega) (ev_pos (by omega) (Ev.bind (rsm_ev x y (by have := h5 x (drop_mem h); omega)) ?_))))
    show Ev _ (csm x y && lsame xs ys)
    by_cases q : csm x y = true
    · rw [q, Bool.true_and]; exact ev_pos rfl ih
    · rw [Bool.not_eq_true] at q
      rw [q, Bool.false_and]; exact ev_neg (by decide) (ev_some rfl)
theorem rlsame_ev (l m : List S25) (hl : l.length ≤ 1000) (h5 : ∀ c ∈ l, c.f5.length ≤ 1000) : Ev (fun k => damsonref10_Same.f k l m) (lsame l m) := by
  unfold damsonref10_Same.f
  by_cases e : l.length = m.length
  · exact ev_pos (by omega) (rls_loop l m e hl h5 l 0 rfl)
  · rw [lsame_len e]; exact ev_neg (by omega) (ev_some rfl)
end Go.Proofs.Ytcfbcoinbecdfaa.B
