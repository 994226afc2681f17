/- Plain laws of the package money: what amounts are together. -/
import Derived.Test.YtcfbcoinbecdfaaLdM
import Derived.Test.YtcfbcoinbecdfaaQLdoesx2
set_option linter.unusedVariables false
namespace Go.Proofs.Ytcfbcoinbecdfaa.B
open Go.RowKit Go.Proofs.Ytcfbcoinbecdfaa.P Go.Proofs.YtcfbcoinbecdfaaW.PrintWords

/-- What amounts are together, out of what they are so far. -/
def maddFrom : Int → List Int → Int × Int
  | s, [] => (s, 0)
  | s, x :: xs => if s + x > 4611686018427387904 then (0, 8) else maddFrom (s + x) xs
def madd (l : List Int) : Int × Int := if mchk l = 0 then maddFrom 0 l else (0, mchk l)

theorem add_loop (l : List Int) (hl : l.length ≤ 140737488351232) (hm : ∀ x ∈ l, 0 ≤ x ∧ x ≤ 4611686018427387904) : ∀ (ys : List Int) (i : Nat) (s : Int), l.drop i = ys → 0 ≤ s → s ≤ 4611686018427387904 →
    Ev (fun k => money_Add.l0 k s l (l.length : Int) (i : Int)) (maddFrom s ys)
  | [], i, s, h, h0, h1 => by
    have hi := drop_nil h
    refine Ev.step (f := fun _ => some (s, 0)) (fun k => ?_) (ev_some rfl)
    rw [money_Add.l0, if_neg (by omega)]
  | y :: ys, i, s, h, h0, h1 => by
    have hi := drop_lt h
    have hy := hm y (drop_mem h)
    have hw : IntKind.u64.wrap (s + y) = s + y := u64w (by omega) (by omega)
    unfold maddFrom
    by_cases hc : s + y > 4611686018427387904
    · rw [if_pos hc]
      refine Ev.step (f := fun _ => some (0, 8)) (fun k => ?_) (ev_some rfl)
      rw [money_Add.l0, if_pos (by omega), if_pos (by omega), if_pos (by omega), drop_rd h, hw, if_pos hc]
    · rw [if_neg hc]
      have ih := add_loop l hl hm ys (i + 1) (s + y) (drop_next h) (by omega) (by omega)
      refine Ev.step (f := fun k => money_Add.l0 k (s + y) l (l.length : Int) ((i + 1 : Nat) : Int)) (fun k => ?_) ih
      rw [money_Add.l0, if_pos (by omega), if_pos (by omega), if_pos (by omega), drop_rd h, hw, if_neg hc, next_i hi hl]
theorem add_ev (l : List Int) (hl : l.length ≤ 140737488351232) (hm : ∀ x ∈ l, 0 ≤ x) : Ev (fun k => money_Add.f k l) (madd l) := by
  unfold money_Add.f madd
  refine Ev.bind (check_ev l hl) ?_
  by_cases h : mchk l = 0
  · rw [if_pos h]
    exact ev_pos h (add_loop l hl (fun x hx => ⟨hm x hx, mchk_zero.mp h x hx⟩) l 0 0 rfl (by omega) (by omega))
  · rw [if_neg h]
    exact ev_neg h (ev_some rfl)
/-- Two amounts together. -/
def madd2 (a b : Int) : Int × Int := if a ≤ 4611686018427387904 ∧ b ≤ 4611686018427387904 then (if a + b > 4611686018427387904 then (0, 8) else (a + b, 0)) else (0, 1)
theorem madd_two (a b : Int) (ha : 0 ≤ a) (hb : 0 ≤ b) : madd [a, b] = madd2 a b := by
  unfold madd madd2
  rw [mchk_cons, mchk_one]
  by_cases h1 : a ≤ 4611686018427387904 <;> by_cases h2 : b ≤ 4611686018427387904 <;> simp [h1, h2, maddFrom]
  omega
theorem add2_ev (a b : Int) (ha : 0 ≤ a) (hb : 0 ≤ b) : Ev (fun k => money_Add.f k [a, b]) (madd2 a b) := by
  rw [← madd_two a b ha hb]
  exact add_ev _ (by simp) (by simp; omega)
end Go.Proofs.Ytcfbcoinbecdfaa.B
