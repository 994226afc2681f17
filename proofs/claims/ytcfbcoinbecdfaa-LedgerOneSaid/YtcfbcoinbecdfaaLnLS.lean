/- Plain laws of the package ledger: whether two channels, and two rows of them, are the same. -/
import Derived.Test.YtcfbcoinbecdfaaLnLP
import Derived.Test.YtcfbcoinbecdfaaQLonex2
import Derived.Test.YtcfbcoinbecdfaaQLonex8
set_option linter.unusedVariables false
namespace Go.Proofs.Ytcfbcoinbecdfaa.B
open Go.RowKit Go.Proofs.Ytcfbcoinbecdfaa.P Go.Proofs.YtcfbcoinbecdfaaW.PrintWords
/-- Whether holds are the same. -/
def hsame : List S44 → List S44 → Bool
  | [], [] => true
  | x :: xs, y :: ys => (x.f0 == y.f0 && x.f1 == y.f1) && hsame xs ys
  | _, _ => false
theorem hsame_len : ∀ {l m : List S44}, l.length ≠ m.length → hsame l m = false
  | [], [], h => absurd rfl h
  | [], _ :: _, _ => rfl
  | _ :: _, [], _ => rfl
  | x :: xs, y :: ys, h => by
    show ((x.f0 == y.f0 && x.f1 == y.f1) && hsame xs ys) = false
    rw [hsame_len (l := xs) (m := ys) (by simpa using h), Bool.and_false]
theorem drop_two {l m xs : List S44} {i : Nat} {x : S44} (h : l.drop i = x :: xs) (e : l.length = m.length) : ∃ y ys, m.drop i = y :: ys := by
  have := drop_lt h
  exact ⟨m[i]'(by omega), m.drop (i + 1), List.drop_eq_getElem_cons (by omega)⟩
theorem hs_loop (l m : List S44) (e : l.length = m.length) (hl : l.length ≤ 140737488351232) : ∀ (xs : List S44) (i : Nat), l.drop i = xs → Ev (fun k => slices_Equal_Hold.l0 k l m (l.length : Int) (i : Int)) (hsame xs (m.drop i))
  | [], i, h => by
    have hi := drop_nil h
    rw [List.drop_eq_nil_of_le (show m.length ≤ i by omega)]
    refine Ev.step (fun k => by rw [slices_Equal_Hold.l0]) ?_
    exact ev_neg (by omega) (ev_some rfl)
  | x :: xs, i, h => by
    have hi := drop_lt h
    obtain ⟨y, ys, hy⟩ := drop_two h e
    have ih := hs_loop l m e hl xs (i + 1) (drop_next h)
    rw [drop_next hy] at ih
    rw [hy]
    refine Ev.step (fun k => by rw [slices_Equal_Hold.l0]) ?_
    rw [drop_rd44 h, drop_rd44 hy, next_i hi hl]
    refine ev_pos (by omega) (ev_pos (by omega) (ev_pos (by omega) (ev_pos (by omega) ?_)))
    show Ev _ ((x.f0 == y.f0 && x.f1 == y.f1) && hsame xs ys)
    by_cases c0 : x.f0 = y.f0
    · by_cases c1 : x.f1 = y.f1
      · rw [show (x.f0 == y.f0 && x.f1 == y.f1) = true by simp [c0, c1], Bool.true_and]
        exact ev_neg (by simp [c0, c1]) ih
      · rw [show (x.f0 == y.f0 && x.f1 == y.f1) = false by simp [c1], Bool.false_and]
        exact ev_pos (by simp [c1]) (ev_some rfl)
    · rw [show (x.f0 == y.f0 && x.f1 == y.f1) = false by simp [c0], Bool.false_and]
      exact ev_pos (by simp [c0]) (ev_some rfl)
/-- Whether two channels are the same. -/
def csm (c o : S25) : Bool := decide (c.f0 = o.f0 ∧ c.f1 = o.f1 ∧ c.f2 = o.f2 ∧ c.f3 = o.f3 ∧ c.f4 = o.f4 ∧ c.f6 = o.f6) && hsame c.f5 o.f5
theorem csm_ev (c o : S25) (hl : c.f5.length ≤ 140737488351232) : Ev (fun k => channel_Same.f k c.f0 c.f1 c.f2 c.f3 c.f4 c.f5 c.f6 o.f0 o.f1 o.f2 o.f3 o.f4 o.f5 o.f6) (csm c o) := by
  unfold channel_Same.f
  have he : Ev (fun k => slices_Equal_Hold.f k c.f5 o.f5) (hsame c.f5 o.f5) := by
    unfold slices_Equal_Hold.f
    by_cases e : c.f5.length = o.f5.length
    · exact ev_pos (by omega) (hs_loop c.f5 o.f5 e hl c.f5 0 rfl)
    · rw [hsame_len e]; exact ev_neg (by omega) (ev_some rfl)
  refine Ev.bind he (ev_const ?_)
  unfold csm
  by_cases h : hsame c.f5 o.f5 = true
  · rw [h, if_pos rfl, Bool.and_true]
    by_cases h0 : c.f0 = o.f0 <;> by_cases h1 : c.f1 = o.f1 <;> by_cases h2 : c.f2 = o.f2 <;> by_cases h3 : c.f3 = o.f3 <;> by_cases h4 : c.f4 = o.f4 <;> simp [h0, h1, h2, h3, h4]
    by_cases h6 : c.f6 = o.f6 <;> simp [h6]
  · rw [Bool.not_eq_true] at h
    rw [h, if_neg (by decide), Bool.and_false]
theorem hsame_refl : ∀ l : List S44, hsame l l = true
  | [] => rfl
  | x :: xs => by
    unfold hsame
    rw [hsame_refl xs]
    simp
theorem csm_refl (c : S25) : csm c c = true := by
  unfold csm
  rw [hsame_refl, decide_eq_true (⟨rfl, rfl, rfl, rfl, rfl, rfl⟩)]
  rfl
/-- Whether two rows are the same. -/
def lsame : List S25 → List S25 → Bool
  | [], [] => true
  | x :: xs, y :: ys => csm x y && lsame xs ys
  | _, _ => false
theorem lsame_len : ∀ {l m : List S25}, l.length ≠ m.length → lsame l m = false
  | [], [], h => absurd rfl h
  | [], _ :: _, _ => rfl
  | _ :: _, [], _ => rfl
  | x :: xs, y :: ys, h => by
    show (csm x y && lsame xs ys) = false
    rw [lsame_len (l := xs) (m := ys) (by simpa using h), Bool.and_false]
theorem lsame_refl : ∀ l : List S25, lsame l l = true
  | [] => rfl
  | x :: xs => by
    show (csm x x && lsame xs xs) = true
    rw [csm_refl, lsame_refl xs]; rfl
theorem drop_two25 {l m xs : List S25} {i : Nat} {x : S25} (h : l.drop i = x :: xs) (e : l.length = m.length) : ∃ y ys, m.drop i = y :: ys := by
  have := drop_lt h
  exact ⟨m[i]'(by omega), m.drop (i + 1), List.drop_eq_getElem_cons (by omega)⟩
theorem ls_loop (l m : List S25) (e : l.length = m.length) (hl : l.length ≤ 1000) (h5 : ∀ c ∈ l, c.f5.length ≤ 1000) : ∀ (xs : List S25) (i : Nat), l.drop i = xs → Ev (fun k => slices_EqualFunc_Channel_at_channel_Same.l0 k m l (l.length : Int) (i : Int)) (lsame xs (m.drop i))
  | [], i, h => by
    have hi := drop_nil h
    rw [List.drop_eq_nil_of_le (show m.length ≤ i by omega)]
    refine Ev.step (fun k => by rw [slices_EqualFunc_Channel_at_channel_Same.l0]) ?_
    exact ev_neg (by omega) (ev_some rfl)
  | x :: xs, i, h => by
    have hi := drop_lt h
    obtain ⟨y, ys, hy⟩ := drop_two25 h e
    have ih := ls_loop l m e hl h5 xs (i + 1) (drop_next h)
    rw [drop_next hy] at ih
    rw [hy]
    refine Ev.step (fun k => by rw [slices_EqualFunc_Channel_at_channel_Same.l0]) ?_
    rw [drop_rd25 h, drop_rd25 hy, next_i hi (by omega)]
    refine ev_pos (by omega) (ev_pos (by omega) (ev_pos (by omega) (ev_pos (by omega) (Ev.bind (csm_ev x y (by have := h5 x (drop_mem h); omega)) ?_))))
    show Ev _ (csm x y && lsame xs ys)
    by_cases q : csm x y = true
    · rw [q, Bool.true_and]; exact ev_pos rfl ih
    · rw [Bool.not_eq_true] at q
      rw [q, Bool.false_and]; exact ev_neg (by decide) (ev_some rfl)
theorem lsame_ev (l m : List S25) (hl : l.length ≤ 1000) (h5 : ∀ c ∈ l, c.f5.length ≤ 1000) : Ev (fun k => ledger_Same.f k l m) (lsame l m) := by
  unfold ledger_Same.f slices_EqualFunc_Channel_at_channel_Same.f
  refine Ev.bind (r := lsame l m) ?_ (ev_some rfl)
  by_cases e : l.length = m.length
  · exact ev_pos (by omega) (ls_loop l m e hl h5 l 0 rfl)
  · rw [lsame_len e]; exact ev_neg (by omega) (ev_some rfl)
end Go.Proofs.Ytcfbcoinbecdfaa.B
