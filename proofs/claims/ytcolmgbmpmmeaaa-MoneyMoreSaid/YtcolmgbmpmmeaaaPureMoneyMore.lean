/- Split by the same weights, twice as much gives each part twice its share, but for one; nothing is split into nothings. No conditions. -/
import Derived.Test.YtcolmgbmpmmeaaaSplit
set_option linter.unusedVariables false
namespace Go.Proofs.Ytcolmgbmpmmeaaa.B
open Go.RowKit Go.Proofs.Ytcolmgbmpmmeaaa.P Go.Proofs.YtcolmgbmpmmeaaaW.PrintWords
theorem twice_div (n all : Int) (h : 0 < all) : 2 * n / all = 2 * (n / all) ∨ 2 * n / all = 2 * (n / all) + 1 := by
  have e := Int.mul_ediv_add_emod n all
  have m0 := Int.emod_nonneg n (Int.ne_of_gt h)
  have m1 := Int.emod_lt_of_pos n h
  generalize n / all = q at *
  generalize n % all = r at *
  by_cases c : 2 * r < all
  · left
    refine ((Int.ediv_emod_unique (r := 2 * r) h).mpr ⟨?_, by omega, by omega⟩).1
    rw [← e]; grind
  · right
    refine ((Int.ediv_emod_unique (r := 2 * r - all) h).mpr ⟨?_, by omega, by omega⟩).1
    rw [← e]; grind
theorem more_loop (a all : Int) (ha0 : 0 ≤ a) (ha1 : a ≤ 2305843009213693952) (hall0 : 0 < all) (X Y Z : List Int) (hX : X.length ≤ 64) (hXY : X.length = Y.length) (hXZ : X.length = Z.length) :
    ∀ (ys : List Int) (i : Nat) (ahead : Int), (∀ y ∈ ys, 0 ≤ y) → 0 ≤ ahead → ahead + ys.sum = all → X.drop i = outs a all ahead ys → Y.drop i = outs (2 * a) all ahead ys → Z.drop i = outs 0 all ahead ys →
    Ev (fun k => damsonlaw04_MoneyMore.l0 k X Y Z (X.length : Int) (i : Int)) true
  | [], i, ahead, hn, h0, hs, hx, hy, hz => by
    have hi := drop_nil (hx.trans (by rfl))
    refine Ev.step (fun k => by rw [damsonlaw04_MoneyMore.l0, if_neg (by omega)]) (ev_pos (by omega) (ev_some ?_))
    simp; omega
  | w :: ws, i, ahead, hn, h0, hs, hx, hy, hz => by
    have hi := drop_lt (hx.trans (by rfl))
    have gx := drop_rd (hx.trans (by rfl))
    have gy := drop_rd (hy.trans (by rfl))
    have gz := drop_rd (hz.trans (by rfl))
    have hw := hn w (by simp)
    have hws := sum_nn ws (fun y h => hn y (by simp [h]))
    rw [List.sum_cons] at hs
    have ih := more_loop a all ha0 ha1 hall0 X Y Z hX hXY hXZ ws (i + 1) (ahead + w) (fun y h => hn y (by simp [h])) (by omega) (by omega) (drop_next hx) (drop_next hy) (drop_next hz)
    have t1 := twice_div (a * (ahead + w)) all hall0
    have t0 := twice_div (a * ahead) all hall0
    have m1 := part_mono a all ahead (ahead + w) ha0 hall0 (by omega)
    have m2 := part_le a all (ahead + w) ha0 hall0 (by omega)
    have m3 := part_nn a all ahead ha0 hall0 h0
    have n1 := part_mono (2 * a) all ahead (ahead + w) (by omega) hall0 (by omega)
    rw [Int.mul_assoc, Int.mul_assoc] at n1 gy
    rw [Int.zero_mul, Int.zero_mul, Int.zero_ediv, Int.sub_zero] at gz
    refine Ev.step (f := fun k => damsonlaw04_MoneyMore.l0 k X Y Z (X.length : Int) ((i + 1 : Nat) : Int)) (fun k => ?_) ih
    rw [damsonlaw04_MoneyMore.l0, gx, gy, gz]
    generalize a * (ahead + w) / all = p1 at *
    generalize a * ahead / all = p0 at *
    generalize 2 * (a * (ahead + w)) / all = q1 at *
    generalize 2 * (a * ahead) / all = q0 at *
    rw [u64w (n := q1 - q0 + 2) (by omega) (by omega), u64w (n := 2 * (p1 - p0)) (by omega) (by omega), u64w (n := 2 * (p1 - p0) + 2) (by omega) (by omega)]
    rw [if_pos (by omega), if_neg (by omega), if_neg (by omega), if_pos (by omega), if_pos (by omega), if_pos rfl, if_pos (by omega), if_pos (by omega), if_neg (by omega), if_neg (by omega), next_i hi (by omega)]
theorem good_any {a b : Int} {ws : List Int} (h : good a ws) (hb : b ≤ 4611686018427387904) : good b ws := ⟨hb, h.2⟩
end Go.Proofs.Ytcolmgbmpmmeaaa.B
namespace Go.Proofs.Ytcolmgbmpmmeaaa.Pure
open Go.RowKit Go.Proofs.Ytcolmgbmpmmeaaa.P Go.Proofs.YtcolmgbmpmmeaaaW.PrintWords Go.Proofs.Ytcolmgbmpmmeaaa.B
theorem MoneyMore : damsonlaw04_MoneyMore.Pure := by
  intro a ws wa hl _ hws
  obtain ⟨a0, a1⟩ := wf_u64 wa
  have hm : ∀ x ∈ ws, 0 ≤ x := fun x hx => (wf_u64 (hws x hx)).1
  have hl' : ws.length ≤ 140737488351232 := by omega
  apply Ev.rounds
  unfold damsonlaw04_MoneyMore.f
  refine Ev.bind live04 (ev_pos rfl ?_)
  by_cases hbig : a > 2305843009213693952
  · exact ev_pos hbig (ev_some rfl)
  · refine ev_neg hbig ?_
    rw [u64w (n := 2 * a) (by omega) (by omega)]
    refine Ev.bind (split_ev a ws a0 hl' hm) (Ev.bind (split_ev (2 * a) ws (by omega) hl' hm) (Ev.bind (split_ev 0 ws (by omega) hl' hm) ?_))
    by_cases hg : good a ws
    · have e1 : msplit a ws = (outs a ws.sum 0 ws, 0) := if_pos hg
      have e2 : msplit (2 * a) ws = (outs (2 * a) ws.sum 0 ws, 0) := if_pos (good_any hg (by omega))
      have e3 : msplit 0 ws = (outs 0 ws.sum 0 ws, 0) := if_pos (good_any hg (by omega))
      rw [e1, e2, e3]
      refine ev_pos rfl (Ev.step (fun k => by rw [damsonlaw04_MoneyMore.j0]) (ev_neg (by simp) (ev_pos rfl ?_)))
      have hn := sum_nn ws hm
      have hne := hg.2.2.2.2
      have := more_loop a ws.sum a0 (by omega) (by omega) (outs a ws.sum 0 ws) (outs (2 * a) ws.sum 0 ws) (outs 0 ws.sum 0 ws) (by rw [outs_length]; exact hg.2.2.1) (by simp [outs_length]) (by simp [outs_length]) ws 0 0 hm (by omega) (by omega) rfl rfl rfl
      exact this
    · have ng : ∀ b, b ≤ 4611686018427387904 → msplit b ws = ([], 1) := fun b hb => if_neg (fun h => hg (good_any h (by omega)))
      rw [ng a (by omega), ng (2 * a) (by omega), ng 0 (by omega)]
      refine ev_pos rfl (Ev.step (fun k => by rw [damsonlaw04_MoneyMore.j0]) ?_)
      refine ev_neg (by simp) (ev_neg (by simp) ?_)
      exact ev_some (by decide +kernel)
end Go.Proofs.Ytcolmgbmpmmeaaa.Pure
