/- Plain laws of the document's answer for money: whether amounts may be, what they are together. -/
import Derived.Test.YtcfbcoinbecdfaaLdA
import Derived.Test.YtcfbcoinbecdfaaQLdoesx11
set_option linter.unusedVariables false
namespace Go.Proofs.Ytcfbcoinbecdfaa.B
open Go.RowKit Go.Proofs.Ytcfbcoinbecdfaa.P Go.Proofs.YtcfbcoinbecdfaaW.PrintWords
theorem rcheck04_loop (l : List Int) (hl : l.length ≤ 140737488351232) : ∀ (ys : List Int) (i : Nat), l.drop i = ys → Ev (fun k => damsonref04_Check.l0 k l (l.length : Int) (i : Int)) (mchk ys)
  | [], i, h => by
    have hi := drop_nil h
    refine Ev.step (fun k => by rw [damsonref04_Check.l0]) ?_
    exact ev_neg (by omega) (ev_some rfl)
  | y :: ys, i, h => by
    have hi := drop_lt h
    have ih := rcheck04_loop l hl ys (i + 1) (drop_next h)
    refine Ev.step (fun k => by rw [damsonref04_Check.l0]) ?_
    rw [drop_rd h, next_i hi hl, mchk_cons]
    refine ev_pos (by omega) (ev_pos (by omega) (ev_pos (by omega) ?_))
    by_cases c : y ≤ 4611686018427387904
    · rw [if_pos c]; exact ev_neg (by omega) ih
    · rw [if_neg c]; exact ev_pos (by omega) (ev_some rfl)
theorem rcheck04_ev (l : List Int) (hl : l.length ≤ 140737488351232) : Ev (fun k => damsonref04_Check.f k l) (mchk l) := rcheck04_loop l hl l 0 rfl
theorem radd_loop (l : List Int) (hl : l.length ≤ 140737488351232) (hm : ∀ x ∈ l, 0 ≤ x) : ∀ (ys : List Int) (i : Nat) (s : Int), l.drop i = ys → 0 ≤ s → s ≤ 4611686018427387904 →
    Ev (fun k => damsonref04_Add.l0 k s l (l.length : Int) (i : Int)) (maddFrom s ys)
  | [], i, s, h, h0, h1 => by
    have hi := drop_nil h
    refine Ev.step (fun k => by rw [damsonref04_Add.l0]) ?_
    exact ev_neg (by omega) (ev_some rfl)
  | y :: ys, i, s, h, h0, h1 => by
    have hi := drop_lt h
    have hy := hm y (drop_mem h)
    refine Ev.step (fun k => by rw [damsonref04_Add.l0]) ?_
    rw [drop_rd h, next_i hi hl, u64w (n := 4611686018427387904 - s) (by omega) (by omega)]
    refine ev_pos (by omega) (ev_pos (by omega) (ev_pos (by omega) ?_))
    unfold maddFrom
    by_cases hc : s + y > 4611686018427387904
    · rw [if_pos hc]; exact ev_pos (by omega) (ev_some rfl)
    · rw [if_neg hc, u64w (n := s + y) (by omega) (by omega)]
      exact ev_neg (by omega) (radd_loop l hl hm ys (i + 1) (s + y) (drop_next h) (by omega) (by omega))
theorem radd_ev (l : List Int) (hl : l.length ≤ 140737488351232) (hm : ∀ x ∈ l, 0 ≤ x) : Ev (fun k => damsonref04_Add.f k l) (madd l) := by
  unfold damsonref04_Add.f madd
  refine Ev.bind (rcheck04_ev l hl) ?_
  by_cases h : mchk l = 0
  · rw [if_pos h]; exact ev_pos h (radd_loop l hl hm l 0 0 rfl (by omega) (by omega))
  · rw [if_neg h]
    have : mchk l = 1 := (mchk_01 l).resolve_left h
    rw [this]; exact ev_neg (by decide) (ev_some rfl)
end Go.Proofs.Ytcfbcoinbecdfaa.B
