/- Plain laws of the document's answer for channels: whether two are the same. -/
import Derived.Test.YtcfbcoinbecdfaaLdC
import Derived.Test.YtcfbcoinbecdfaaQLdoesx9
set_option linter.unusedVariables false
namespace Go.Proofs.Ytcfbcoinbecdfaa.B
open Go.RowKit Go.Proofs.Ytcfbcoinbecdfaa.P Go.Proofs.YtcfbcoinbecdfaaW.PrintWords
def hsame : List S44 → List S44 → Bool
  | [], [] => true
  | x :: xs, y :: ys => (x.f0 == y.f0 && x.f1 == y.f1) && hsame xs ys
  | _, _ => false
theorem hsame_len : ∀ {l m : List S44}, l.length ≠ m.length → hsame l m = false
  | [], [], h => absurd rfl h
  | [], _ :: _, _ => rfl
  | _ :: _, [], _ => rfl
  | x :: xs, y :: ys, h => by
    show ((x.f0 == y.f0 && x.f1 == y.f1) && hsame xs ys) = false
    rw [hsame_len (l := xs) (m := ys) (by simpa using h), Bool.and_false]
theorem drop_two {l m xs : List S44} {i : Nat} {x : S44} (h : l.drop i = x :: xs) (e : l.length = m.length) : ∃ y ys, m.drop i = y :: ys := by
  have := drop_lt h
  exact ⟨m[i]'(by omega), m.drop (i + 1), List.drop_eq_getElem_cons (by omega)⟩
def csm (c o : S25) : Bool := decide (c.f0 = o.f0 ∧ c.f1 = o.f1 ∧ c.f2 = o.f2 ∧ c.f3 = o.f3 ∧ c.f4 = o.f4 ∧ c.f6 = o.f6) && hsame c.f5 o.f5
theorem rsm_loop (c o : S25) (e : c.f5.length = o.f5.length) (hl : c.f5.length ≤ 140737488351232) : ∀ (xs : List S44) (i : Nat), c.f5.drop i = xs → Ev (fun k => damsonref09_Same.l0 k (c.f5.length : Int) (i : Int) c.f0 c.f1 c.f2 c.f3 c.f4 c.f5 c.f6 o.f0 o.f1 o.f2 o.f3 o.f4 o.f5 o.f6) (hsame xs (o.f5.drop i))
  | [], i, h => by
    have hi := drop_nil h
    rw [List.drop_eq_nil_of_le (show o.f5.length ≤ i by omega)]
    refine Ev.step (fun k => by rw [damsonref09_Same.l0]) ?_
    exact ev_neg (by omega) (ev_some rfl)
  | x :: xs, i, h => by
    have hi := drop_lt h
    obtain ⟨y, ys, hy⟩ := drop_two h e
    have ih := rsm_loop c o e hl xs (i + 1) (drop_next h)
    rw [drop_next hy] at ih
    rw [hy]
    refine Ev.step (fun k => by rw [damsonref09_Same.l0]) ?_
    rw [drop_rd44 h, drop_rd44 hy, next_i hi hl]
    refine ev_pos (by omega) (ev_pos (by omega) (ev_pos (by omega) (ev_pos (by omega) ?_)))
    show Ev _ ((x.f0 == y.f0 && x.f1 == y.f1) && hsame xs ys)
    by_cases c0 : x.f0 = y.f0
    · by_cases c1 : x.f1 = y.f1
      · rw [show (x.f0 == y.f0 && x.f1 == y.f1) = true by simp [c0, c1], Bool.true_and]
        exact ev_neg (by simp [c0, c1]) ih
      · rw [show (x.f0 == y.f0 && x.f1 == y.f1) = false by simp [c1], Bool.false_and]
        exact ev_pos (by simp [c1]) (ev_some rfl)
    · rw [show (x.f0 == y.f0 && x.f1 == y.f1) = false by simp [c0], Bool.false_and]
      exact ev_pos (by simp [c0]) (ev_some rfl)
theorem rsm_ev (c o : S25) (hl : c.f5.length ≤ 140737488351232) : Ev (fun k => damsonref09_Same.f k c.f0 c.f1 c.f2 c.f3 c.f4 c.f5 c.f6 o.f0 o.f1 o.f2 o.f3 o.f4 o.f5 o.f6) (csm c o) := by
  unfold damsonref09_Same.f
  have bad : csm c o = false → Ev (fun k => damsonref09_Same.j0 k true c.f0 c.f1 c.f2 c.f3 c.f4 c.f5 c.f6 o.f0 o.f1 o.f2 o.f3 o.f4 o.f5 o.f6) (csm c o) := by
    intro h
    rw [h]
    refine Ev.step (fun k => by rw [damsonref09_Same.j0]) ?_
    exact ev_pos rfl (ev_some rfl)
  have no : ¬ (c.f0 = o.f0 ∧ c.f1 = o.f1 ∧ c.f2 = o.f2 ∧ c.f3 = o.f3 ∧ c.f4 = o.f4 ∧ c.f6 = o.f6) → csm c o = false := fun h => by
    unfold csm; rw [decide_eq_false h, Bool.false_and]
  refine ev_if (fun h0 => ev_if (fun h1 => ev_if (fun h2 => ev_if (fun h3 => ev_if (fun h4 => ev_if (fun h6 => bad (no (fun q => ?_))) (fun h6 => ?_)) (fun h => bad (no (fun q => h q.2.2.2.2.1)))) (fun h => bad (no (fun q => h q.2.2.2.1)))) (fun h => bad (no (fun q => h q.2.2.1)))) (fun h => bad (no (fun q => h q.2.1)))) (fun h => bad (no (fun q => h q.1)))
  · rw [q.2.2.2.2.2] at h6; simp at h6
  · have h6' : c.f6 = o.f6 := by simpa using h6
    have hc : csm c o = hsame c.f5 o.f5 := by unfold csm; rw [decide_eq_true ⟨h0, h1, h2, h3, h4, h6'⟩, Bool.true_and]
    by_cases e : c.f5.length = o.f5.length
    · rw [show ((c.f5.length : Int) != (o.f5.length : Int)) = false by simp [e], hc]
      refine Ev.step (fun k => by rw [damsonref09_Same.j0]) (ev_neg (by decide) ?_)
      exact rsm_loop c o e hl c.f5 0 rfl
    · rw [show ((c.f5.length : Int) != (o.f5.length : Int)) = true by simp; omega]
      exact bad (by rw [hc, hsame_len e])
theorem hsame_refl : ∀ l : List S44, hsame l l = true
  | [] => rfl
  | x :: xs => by
    unfold hsame
    rw [hsame_refl xs]
    simp
theorem csm_refl (c : S25) : csm c c = true := by
  unfold csm
  rw [hsame_refl, decide_eq_true (⟨rfl, rfl, rfl, rfl, rfl, rfl⟩)]
  rfl
theorem rsame_refl (c : S25) (hl : c.f5.length ≤ 140737488351232) : Ev (fun k => damsonref09_Same.f k c.f0 c.f1 c.f2 c.f3 c.f4 c.f5 c.f6 c.f0 c.f1 c.f2 c.f3 c.f4 c.f5 c.f6) true := ev_eq (rsm_ev c c hl) (csm_refl c)
end Go.Proofs.Ytcfbcoinbecdfaa.B
