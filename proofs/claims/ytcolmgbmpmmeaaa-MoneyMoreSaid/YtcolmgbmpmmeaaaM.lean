/- Plain laws of the package money: whether amounts may be, what they are together, what one is without another. -/
import Derived.Test.YtcolmgbmpmmeaaaB
set_option linter.unusedVariables false
namespace Go.Proofs.Ytcolmgbmpmmeaaa.B
open Go.RowKit Go.Proofs.Ytcolmgbmpmmeaaa.P Go.Proofs.YtcolmgbmpmmeaaaW.PrintWords

/-- Whether all of them may be. -/
def mchk (l : List Int) : Int := if l.all (fun x => decide (x ≤ 4611686018427387904)) then 0 else 1
theorem mchk_cons (x : Int) (l : List Int) : mchk (x :: l) = if x ≤ 4611686018427387904 then mchk l else 1 := by
  unfold mchk; by_cases h : x ≤ 4611686018427387904 <;> simp [h]
theorem mchk_nil : mchk [] = 0 := rfl
theorem mchk_one (x : Int) : mchk [x] = if x ≤ 4611686018427387904 then 0 else 1 := by rw [mchk_cons, mchk_nil]
theorem mchk_ok1 {x : Int} (h : x ≤ 4611686018427387904) : mchk [x] = 0 := by rw [mchk_one, if_pos h]
theorem mchk_no1 {x : Int} (h : ¬ x ≤ 4611686018427387904) : mchk [x] = 1 := by rw [mchk_one, if_neg h]
theorem mchk_01 (l : List Int) : mchk l = 0 ∨ mchk l = 1 := by unfold mchk; split <;> simp
theorem mchk_zero {l : List Int} : mchk l = 0 ↔ ∀ x ∈ l, x ≤ 4611686018427387904 := by
  unfold mchk; split <;> rename_i h <;> simpa using h

theorem max_loop (l : List Int) (hl : l.length ≤ 140737488351232) : ∀ (ys : List Int) (i : Nat) (m : Int), l.drop i = ys →
    Ev (fun k => slices_Max_uint64_uint64.l0 k l m (i : Int)) (ys.foldl mx m)
  | [], i, m, h => by
    have hi := drop_nil h
    refine Ev.step (f := fun _ => some m) (fun k => ?_) (ev_some rfl)
    rw [slices_Max_uint64_uint64.l0, if_neg (by omega)]
  | y :: ys, i, m, h => by
    have hi := drop_lt h
    have ih := max_loop l hl ys (i + 1) (mx m y) (drop_next h)
    refine Ev.step (f := fun k => slices_Max_uint64_uint64.l0 k l (mx m y) ((i + 1 : Nat) : Int)) (fun k => ?_) ih
    rw [slices_Max_uint64_uint64.l0, if_pos (by omega), if_pos (by omega), drop_rd h, next_i hi hl]
theorem foldl_mx (ys : List Int) : ∀ m : Int, (ys.foldl mx m > 4611686018427387904) ↔ (m > 4611686018427387904 ∨ ∃ y ∈ ys, y > 4611686018427387904) := by
  induction ys with
  | nil => simp
  | cons y ys ih =>
    intro m
    rw [List.foldl_cons, ih]
    have : mx m y > 4611686018427387904 ↔ (m > 4611686018427387904 ∨ y > 4611686018427387904) := by unfold mx; split <;> omega
    rw [this]
    simp only [List.mem_cons]
    constructor
    · rintro ((h | h) | ⟨z, hz, h⟩)
      · exact .inl h
      · exact .inr ⟨y, .inl rfl, h⟩
      · exact .inr ⟨z, .inr hz, h⟩
    · rintro (h | ⟨z, rfl | hz, h⟩)
      · exact .inl (.inl h)
      · exact .inl (.inr h)
      · exact .inr ⟨z, hz, h⟩
theorem check_ev (l : List Int) (hl : l.length ≤ 140737488351232) : Ev (fun k => money_Check.f k l) (mchk l) := by
  unfold money_Check.f
  cases l with
  | nil => exact ev_neg (by simp) (ev_some rfl)
  | cons x xs =>
    refine ev_pos (by simp only [List.length_cons]; omega) ?_
    have e : Ev (fun k => slices_Max_uint64_uint64.f k (x :: xs)) (xs.foldl mx x) := by
      unfold slices_Max_uint64_uint64.f
      refine ev_neg (by simp only [List.length_cons]; omega) (ev_pos (by simp only [List.length_cons]; omega) ?_)
      exact max_loop (x :: xs) hl xs 1 x rfl
    refine Ev.bind e ?_
    have hf := foldl_mx xs x
    by_cases h : xs.foldl mx x > 4611686018427387904
    · refine ev_pos h (ev_some ?_)
      have := hf.mp h
      unfold mchk
      rw [if_neg]
      simp only [List.all_cons, Bool.and_eq_true, decide_eq_true_eq, List.all_eq_true, not_and]
      intro hx hall
      rcases this with h1 | ⟨y, hy, h1⟩
      · omega
      · have := hall y hy; omega
    · refine ev_neg h (ev_some ?_)
      unfold mchk
      rw [if_pos]
      simp only [List.all_cons, Bool.and_eq_true, decide_eq_true_eq, List.all_eq_true]
      refine ⟨?_, fun y hy => ?_⟩
      · exact Int.not_lt.mp fun h1 => h (hf.mpr (.inl h1))
      · exact Int.not_lt.mp fun h1 => h (hf.mpr (.inr ⟨y, hy, h1⟩))

/-- What amounts are together, out of what they are so far. -/
def maddFrom : Int → List Int → Int × Int
  | s, [] => (s, 0)
  | s, x :: xs => if s + x > 4611686018427387904 then (0, 8) else maddFrom (s + x) xs
def madd (l : List Int) : Int × Int := if mchk l = 0 then maddFrom 0 l else (0, mchk l)

theorem add_loop (l : List Int) (hl : l.length ≤ 140737488351232) (hm : ∀ x ∈ l, 0 ≤ x ∧ x ≤ 4611686018427387904) : ∀ (ys : List Int) (i : Nat) (s : Int), l.drop i = ys → 0 ≤ s → s ≤ 4611686018427387904 →
    Ev (fun k => money_Add.l0 k s l (l.length : Int) (i : Int)) (maddFrom s ys)
  | [], i, s, h, h0, h1 => by
    have hi := drop_nil h
    refine Ev.step (f := fun _ => some (s, 0)) (fun k => ?_) (ev_some rfl)
    rw [money_Add.l0, if_neg (by omega)]
  | y :: ys, i, s, h, h0, h1 => by
    have hi := drop_lt h
    have hy := hm y (drop_mem h)
    have hw : IntKind.u64.wrap (s + y) = s + y := u64w (by omega) (by omega)
    unfold maddFrom
    by_cases hc : s + y > 4611686018427387904
    · rw [if_pos hc]
      refine Ev.step (f := fun _ => some (0, 8)) (fun k => ?_) (ev_some rfl)
      rw [money_Add.l0, if_pos (by omega), if_pos (by omega), if_pos (by omega), drop_rd h, hw, if_pos hc]
    · rw [if_neg hc]
      have ih := add_loop l hl hm ys (i + 1) (s + y) (drop_next h) (by omega) (by omega)
      refine Ev.step (f := fun k => money_Add.l0 k (s + y) l (l.length : Int) ((i + 1 : Nat) : Int)) (fun k => ?_) ih
      rw [money_Add.l0, if_pos (by omega), if_pos (by omega), if_pos (by omega), drop_rd h, hw, if_neg hc, next_i hi hl]
theorem add_ev (l : List Int) (hl : l.length ≤ 140737488351232) (hm : ∀ x ∈ l, 0 ≤ x) : Ev (fun k => money_Add.f k l) (madd l) := by
  unfold money_Add.f madd
  refine Ev.bind (check_ev l hl) ?_
  by_cases h : mchk l = 0
  · rw [if_pos h]
    exact ev_pos h (add_loop l hl (fun x hx => ⟨hm x hx, mchk_zero.mp h x hx⟩) l 0 0 rfl (by omega) (by omega))
  · rw [if_neg h]
    exact ev_neg h (ev_some rfl)
/-- Two amounts together. -/
def madd2 (a b : Int) : Int × Int := if a ≤ 4611686018427387904 ∧ b ≤ 4611686018427387904 then (if a + b > 4611686018427387904 then (0, 8) else (a + b, 0)) else (0, 1)
theorem madd_two (a b : Int) (ha : 0 ≤ a) (hb : 0 ≤ b) : madd [a, b] = madd2 a b := by
  unfold madd madd2
  rw [mchk_cons, mchk_one]
  by_cases h1 : a ≤ 4611686018427387904 <;> by_cases h2 : b ≤ 4611686018427387904 <;> simp [h1, h2, maddFrom]
  omega
theorem add2_ev (a b : Int) (ha : 0 ≤ a) (hb : 0 ≤ b) : Ev (fun k => money_Add.f k [a, b]) (madd2 a b) := by
  rw [← madd_two a b ha hb]
  exact add_ev _ (by simp) (by simp; omega)
end Go.Proofs.Ytcolmgbmpmmeaaa.B
