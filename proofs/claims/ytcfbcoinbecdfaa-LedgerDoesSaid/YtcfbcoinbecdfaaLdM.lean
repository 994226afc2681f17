/- Plain laws of the package money: whether amounts may be, what they are together, what one is without another. -/
import Derived.Test.YtcfbcoinbecdfaaLdB
import Derived.Test.YtcfbcoinbecdfaaQLdoesx2
set_option linter.unusedVariables false
namespace Go.Proofs.Ytcfbcoinbecdfaa.B
open Go.RowKit Go.Proofs.Ytcfbcoinbecdfaa.P Go.Proofs.YtcfbcoinbecdfaaW.PrintWords

/-- Whether all of them may be. -/
def mchk (l : List Int) : Int := if l.all (fun x => decide (x ≤ 4611686018427387904)) then 0 else 1
theorem mchk_cons (x : Int) (l : List Int) : mchk (x :: l) = if x ≤ 4611686018427387904 then mchk l else 1 := by
  unfold mchk; by_cases h : x ≤ 4611686018427387904 <;> simp [h]
theorem mchk_nil : mchk [] = 0 := rfl
theorem mchk_one (x : Int) : mchk [x] = if x ≤ 4611686018427387904 then 0 else 1 := by rw [mchk_cons, mchk_nil]
theorem mchk_01 (l : List Int) : mchk l = 0 ∨ mchk l = 1 := by unfold mchk; split <;> simp
theorem mchk_zero {l : List Int} : mchk l = 0 ↔ ∀ x ∈ l, x ≤ 4611686018427387904 := by
  unfold mchk; split <;> rename_i h <;> simpa using h

theorem max_loop (l : List Int) (hl : l.length ≤ 140737488351232) : ∀ (ys : List Int) (i : Nat) (m : Int), l.drop i = ys →
    Ev (fun k => slices_Max_uint64.l0 k l m (i : Int)) (ys.foldl mx m)
  | [], i, m, h => by
    have hi := drop_nil h
    refine Ev.step (f := fun _ => some m) (fun k => ?_) (ev_some rfl)
    rw [slices_Max_uint64.l0, if_neg (by omega)]
  | y :: ys, i, m, h => by
    have hi := drop_lt h
    have ih := max_loop l hl ys (i + 1) (mx m y) (drop_next h)
    refine Ev.step (f := fun k => slices_Max_uint64.l0 k l (mx m y) ((i + 1 : Nat) : Int)) (fun k => ?_) ih
    rw [slices_Max_uint64.l0, if_pos (by omega), if_pos (by omega), drop_rd h, next_i hi hl]
theorem foldl_mx (ys : List Int) : ∀ m : Int, (ys.foldl mx m > 4611686018427387904) ↔ (m > 4611686018427387904 ∨ ∃ y ∈ ys, y > 4611686018427387904) := by
  induction ys with
  | nil => simp
  | cons y ys ih =>
    intro m
    rw [List.foldl_cons, ih]
    have : mx m y > 4611686018427387904 ↔ (m > 4611686018427387904 ∨ y > 4611686018427387904) := by unfold mx; split <;> omega
    rw [this]
    simp only [List.mem_cons]
    constructor
    · rintro ((h | h) | ⟨z, hz, h⟩)
      · exact .inl h
      · exact .inr ⟨y, .inl rfl, h⟩
      · exact .inr ⟨z, .inr hz, h⟩
    · rintro (h | ⟨z, rfl | hz, h⟩)
      · exact .inl (.inl h)
      · exact .inl (.inr h)
      · exact .inr ⟨z, hz, h⟩
theorem check_ev (l : List Int) (hl : l.length ≤ 140737488351232) : Ev (fun k => money_Check.f k l) (mchk l) := by
  unfold money_Check.f
  cases l with
  | nil => exact ev_neg (by simp) (ev_some rfl)
  | cons x xs =>
    refine ev_pos (by simp only [List.length_cons]; omega) ?_
    have e : Ev (fun k => slices_Max_uint64.f k (x :: xs)) (xs.foldl mx x) := by
      unfold slices_Max_uint64.f
      refine ev_neg (by simp only [List.length_cons]; omega) (ev_pos (by simp only [List.length_cons]; omega) ?_)
      exact max_loop (x :: xs) hl xs 1 x rfl
    refine Ev.bind e ?_
    have hf := foldl_mx xs x
    by_cases h : xs.foldl mx x > 4611686018427387904
    · refine ev_pos h (ev_some ?_)
      have := hf.mp h
      unfold mchk
      rw [if_neg]
      simp only [List.all_cons, Bool.and_eq_true, decide_eq_true_eq, List.all_eq_true, not_and]
      intro hx hall
      rcases this with h1 | ⟨y, hy, h1⟩
      · omega
      · have := hall y hy; omega
    · refine ev_neg h (ev_some ?_)
      unfold mchk
      rw [if_pos]
      simp only [List.all_cons, Bool.and_eq_true, decide_eq_true_eq, List.all_eq_true]
      refine ⟨?_, fun y hy => ?_⟩
      · exact Int.not_lt.mp fun h1 => h (hf.mpr (.inl h1))
      · exact Int.not_lt.mp fun h1 => h (hf.mpr (.inr ⟨y, hy, h1⟩))

end Go.Proofs.Ytcfbcoinbecdfaa.B
