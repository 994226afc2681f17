/- What is split is, together, what it was; each part is less than one away from its share; who has no weight gets nothing. No conditions. -/
import Derived.Test.YtcolmgbmpmmeaaaPureMoneyMore
set_option linter.unusedVariables false
namespace Go.Proofs.Ytcolmgbmpmmeaaa.B
open Go.RowKit Go.Proofs.Ytcolmgbmpmmeaaa.P Go.Proofs.YtcolmgbmpmmeaaaW.PrintWords
theorem outs_nn (a all : Int) (ha0 : 0 ≤ a) (hall0 : 0 < all) : ∀ (ys : List Int) (ahead : Int), (∀ y ∈ ys, 0 ≤ y) → ∀ x ∈ outs a all ahead ys, 0 ≤ x
  | [], _, _, x, hx => by simp [outs] at hx
  | w :: ws, ahead, hn, x, hx => by
    simp only [outs, List.mem_cons] at hx
    rcases hx with rfl | hx
    · have := part_mono a all ahead (ahead + w) ha0 hall0 (by have := hn w (by simp); omega)
      omega
    · exact outs_nn a all ha0 hall0 ws (ahead + w) (fun y h => hn y (by simp [h])) x hx
theorem outs_le (a all : Int) (ha0 : 0 ≤ a) (hall0 : 0 < all) : ∀ (ys : List Int) (ahead : Int), (∀ y ∈ ys, 0 ≤ y) → 0 ≤ ahead → ahead + ys.sum = all → ∀ x ∈ outs a all ahead ys, x ≤ a
  | [], _, _, _, _, x, hx => by simp [outs] at hx
  | w :: ws, ahead, hn, h0, hs, x, hx => by
    simp only [outs, List.mem_cons] at hx
    rw [List.sum_cons] at hs
    have hw := hn w (by simp)
    have hws := sum_nn ws (fun y h => hn y (by simp [h]))
    rcases hx with rfl | hx
    · have := part_le a all (ahead + w) ha0 hall0 (by omega)
      have := part_nn a all ahead ha0 hall0 h0
      omega
    · exact outs_le a all ha0 hall0 ws (ahead + w) (fun y h => hn y (by simp [h])) (by omega) (by omega) x hx
theorem outs_sum (a all : Int) (ha0 : 0 ≤ a) (ha1 : a ≤ 4611686018427387904) (hall0 : 0 < all) : ∀ (ys : List Int) (ahead s : Int), (∀ y ∈ ys, 0 ≤ y) → 0 ≤ ahead → ahead + ys.sum = all → s = a * ahead / all → maddFrom s (outs a all ahead ys) = (a, 0)
  | [], ahead, s, hn, h0, hs, h => by
    have : ahead = all := by simpa using hs
    subst this
    rw [Int.mul_ediv_cancel _ (by omega)] at h
    rw [h]; rfl
  | w :: ws, ahead, s, hn, h0, hs, h => by
    rw [List.sum_cons] at hs
    have hw := hn w (by simp)
    have hws := sum_nn ws (fun y h => hn y (by simp [h]))
    have l1 := part_le a all (ahead + w) ha0 hall0 (by omega)
    have ih := outs_sum a all ha0 ha1 hall0 ws (ahead + w) (a * (ahead + w) / all) (fun y h => hn y (by simp [h])) (by omega) (by omega) rfl
    rw [outs, maddFrom, h, if_neg (by omega), show a * ahead / all + (a * (ahead + w) / all - a * ahead / all) = a * (ahead + w) / all from by omega]
    exact ih
/-- Two floors' difference is the floor of the difference, or one more. -/
theorem div_diff (x y all : Int) (h : 0 < all) : (x + y) / all - x / all = y / all ∨ (x + y) / all - x / all = y / all + 1 := by
  have e1 := Int.mul_ediv_add_emod x all
  have e2 := Int.mul_ediv_add_emod y all
  have a0 := Int.emod_nonneg x (Int.ne_of_gt h)
  have a1 := Int.emod_lt_of_pos x h
  have b0 := Int.emod_nonneg y (Int.ne_of_gt h)
  have b1 := Int.emod_lt_of_pos y h
  generalize x / all = q at *
  generalize y / all = p at *
  generalize x % all = r at *
  generalize y % all = s at *
  by_cases c : r + s < all
  · left
    have : (x + y) / all = q + p := ((Int.ediv_emod_unique (r := r + s) h).mpr ⟨by rw [← e1, ← e2]; grind, by omega, by omega⟩).1
    omega
  · right
    have : (x + y) / all = q + p + 1 := ((Int.ediv_emod_unique (r := r + s - all) h).mpr ⟨by rw [← e1, ← e2]; grind, by omega, by omega⟩).1
    omega
/-- The share, of whole wholes first, then of the rest. -/
theorem of_eq (a w all : Int) (h : 0 < all) : a / all * w + a % all * w / all = a * w / all := by
  have e := Int.mul_ediv_add_emod a all
  have e2 : a * w = a % all * w + a / all * w * all := by
    conv => lhs; rw [← e]
    grind
  rw [e2, Int.add_mul_ediv_right _ _ (by omega), Int.add_comm]
theorem of_wrap (a w all : Int) (ha0 : 0 ≤ a) (ha1 : a ≤ 4611686018427387904) (hw0 : 0 ≤ w) (hw : w ≤ all) (hall0 : 0 < all) (hall1 : all ≤ 64000000) :
    IntKind.u64.wrap (IntKind.u64.wrap (IntKind.u64.wrap (Int.tdiv a all) * w) + IntKind.u64.wrap (Int.tdiv (IntKind.u64.wrap (Int.tmod a all * w)) all)) = a * w / all := by
  have q0 : 0 ≤ a / all := Int.ediv_nonneg ha0 (by omega)
  have q1 : a / all ≤ a := Int.ediv_le_self _ ha0
  have r0 : 0 ≤ a % all := Int.emod_nonneg a (by omega)
  have r1 : a % all < all := Int.emod_lt_of_pos a hall0
  have s0 : 0 ≤ a % all * w := Int.mul_nonneg r0 hw0
  have s1 : a % all * w ≤ 64000000 * 64000000 := Int.mul_le_mul (by omega) (by omega) hw0 (by omega)
  have t0 : 0 ≤ a / all * w := Int.mul_nonneg q0 hw0
  have e := of_eq a w all hall0
  have u0 : 0 ≤ a % all * w / all := Int.ediv_nonneg s0 (by omega)
  have u1 : a * w / all ≤ a := part_le a all w ha0 hall0 hw
  rw [tdiv_pos ha0, Int.tmod_eq_emod_of_nonneg ha0, u64w q0 (by omega), u64w s0 (by omega), tdiv_pos s0, u64w t0 (by omega), u64w u0 (by omega), e]
  exact u64w (by omega) (by omega)
theorem split_sum (a : Int) (l out : List Int) (hl : l.length ≤ 64) (hm : ∀ x ∈ l, 0 ≤ x ∧ x ≤ 1000000) (hr : Ev (fun k => damsonlaw04_MoneySplit.l1 k a out l.sum l (l.length : Int) 0) true) :
    ∀ (ys : List Int) (i : Nat) (s : Int), l.drop i = ys → 0 ≤ s → s + ys.sum = l.sum → s ≤ 1000000 * i →
    Ev (fun k => damsonlaw04_MoneySplit.l0 k a l out s l (l.length : Int) (i : Int)) true
  | [], i, s, h, h0, hs, hb => by
    have hi := drop_nil h
    refine Ev.step (fun k => by rw [damsonlaw04_MoneySplit.l0, if_neg (by omega)]) ?_
    rw [show s = l.sum by simpa using hs]
    exact hr
  | y :: ys, i, s, h, h0, hs, hb => by
    have hi := drop_lt h
    have hy := hm y (drop_mem h)
    have hw : IntKind.u64.wrap (s + y) = s + y := u64w (by omega) (by omega)
    have ih := split_sum a l out hl hm hr ys (i + 1) (s + y) (drop_next h) (by omega) (by rw [List.sum_cons] at hs; omega) (by omega)
    refine Ev.step (f := fun k => damsonlaw04_MoneySplit.l0 k a l out (s + y) l (l.length : Int) ((i + 1 : Nat) : Int)) (fun k => ?_) ih
    rw [damsonlaw04_MoneySplit.l0, if_pos (by omega), if_pos (by omega), if_pos (by omega), drop_rd h, hw, next_i hi (by omega)]
theorem split_parts (a all : Int) (l out : List Int) (ha0 : 0 ≤ a) (ha1 : a ≤ 4611686018427387904) (hl : l.length ≤ 64) (hlen : out.length = l.length) (hall0 : 0 < all) (hall1 : all ≤ 64000000) :
    ∀ (ys : List Int) (i : Nat) (ahead : Int), (∀ y ∈ ys, 0 ≤ y) → 0 ≤ ahead → ahead + ys.sum = all → l.drop i = ys → out.drop i = outs a all ahead ys →
    Ev (fun k => damsonlaw04_MoneySplit.l1 k a out all l (l.length : Int) (i : Int)) true
  | [], i, ahead, hn, h0, hs, h, ho => by
    have hi := drop_nil h
    exact Ev.step (fun k => by rw [damsonlaw04_MoneySplit.l1, if_neg (by omega)]) (ev_some rfl)
  | w :: ws, i, ahead, hn, h0, hs, h, ho => by
    have hi := drop_lt h
    have go := drop_rd (ho.trans (by rfl))
    rw [List.sum_cons] at hs
    have hw := hn w (by simp)
    have hws := sum_nn ws (fun y h => hn y (by simp [h]))
    have ih := split_parts a all l out ha0 ha1 hl hlen hall0 hall1 ws (i + 1) (ahead + w) (fun y h => hn y (by simp [h])) (by omega) (by omega) (drop_next h) (drop_next ho)
    have d := div_diff (a * ahead) (a * w) all hall0
    rw [← Int.mul_add] at d
    have l1 := part_le a all w ha0 hall0 (by omega)
    have l0 := part_nn a all w ha0 hall0 hw
    refine Ev.step (f := fun k => damsonlaw04_MoneySplit.l1 k a out all l (l.length : Int) ((i + 1 : Nat) : Int)) (fun k => ?_) ih
    rw [damsonlaw04_MoneySplit.l1, if_pos (by omega), if_pos (by omega), if_pos (by omega), if_neg (by omega), drop_rd h, go, of_wrap a w all ha0 ha1 hw (by omega) hall0 hall1, next_i hi (by omega)]
    rw [u64w (n := a * w / all + 1) (by omega) (by omega)]
    by_cases c : w = 0
    · have z : a * w / all = 0 := by rw [c, Int.mul_zero, Int.zero_ediv]
      have z2 : a * (ahead + w) / all - a * ahead / all = 0 := by rw [c, Int.add_zero]; omega
      rw [if_pos c, if_pos (by omega), if_pos z2, if_pos (by omega)]
    · rw [if_neg c, if_pos (by omega)]
      rcases d with d | d
      · rw [if_pos d]
      · rw [if_neg (by omega), if_pos d]
end Go.Proofs.Ytcolmgbmpmmeaaa.B
namespace Go.Proofs.Ytcolmgbmpmmeaaa.Pure
open Go.RowKit Go.Proofs.Ytcolmgbmpmmeaaa.P Go.Proofs.YtcolmgbmpmmeaaaW.PrintWords Go.Proofs.Ytcolmgbmpmmeaaa.B
theorem MoneySplit : damsonlaw04_MoneySplit.Pure := by
  intro a ws wa hl _ hws
  obtain ⟨a0, a1⟩ := wf_u64 wa
  have hm : ∀ x ∈ ws, 0 ≤ x := fun x hx => (wf_u64 (hws x hx)).1
  have hl' : ws.length ≤ 140737488351232 := by omega
  apply Ev.rounds
  unfold damsonlaw04_MoneySplit.f
  refine Ev.bind live04 (ev_pos rfl (Ev.bind (split_ev a ws a0 hl' hm) ?_))
  by_cases hg : good a ws
  · have e1 : msplit a ws = (outs a ws.sum 0 ws, 0) := if_pos hg
    rw [e1]
    obtain ⟨g1, g2, g3, g4, g5⟩ := hg
    have hn := sum_nn ws hm
    have hb := sum_le ws g4
    have nn := outs_nn a ws.sum a0 (by omega) ws 0 hm
    have le := outs_le a ws.sum a0 (by omega) ws 0 hm (by omega) (by omega)
    have ol := outs_length a ws.sum ws 0
    have ea : madd (outs a ws.sum 0 ws) = (a, 0) := by
      unfold madd
      rw [if_pos (mchk_zero.mpr fun x hx => Int.le_trans (le x hx) g1)]
      exact outs_sum a ws.sum a0 g1 (by omega) ws 0 0 hm (by omega) (by omega) (by rw [Int.mul_zero, Int.zero_ediv])
    have had := add_ev (outs a ws.sum 0 ws) (by rw [ol]; omega) nn
    rw [ea] at had
    refine ev_pos rfl (Ev.bind had (ev_pos rfl (ev_pos rfl (ev_pos ?_ ?_))))
    · show ((outs a ws.sum 0 ws).length : Int) = _
      rw [ol]
    · have : decide (((outs a ws.sum 0 ws).length : Int) > 64) = false := by rw [ol]; exact decide_eq_false (by omega)
      rw [this]
      refine Ev.step (fun k => by rw [damsonlaw04_MoneySplit.j0]) (ev_neg (by simp) ?_)
      refine split_sum a ws _ g3 (fun x hx => ⟨hm x hx, g4 x hx⟩) ?_ ws 0 0 rfl (by omega) (by omega) (by omega)
      exact split_parts a ws.sum ws _ a0 g1 g3 ol (by omega) (by omega) ws 0 0 hm (by omega) (by omega) rfl rfl
  · have e1 : msplit a ws = ([], 1) := if_neg hg
    rw [e1]
    exact ev_neg (by simp) (ev_some rfl)
end Go.Proofs.Ytcolmgbmpmmeaaa.Pure
