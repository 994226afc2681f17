/- What money.Split answers, as a plain list. -/
import Derived.Test.YtcolmgbmpmmeaaaPureMoneyFee
set_option linter.unusedVariables false
namespace Go.Proofs.Ytcolmgbmpmmeaaa.B
open Go.RowKit Go.Proofs.Ytcolmgbmpmmeaaa.P Go.Proofs.YtcolmgbmpmmeaaaW.PrintWords

theorem split_index (l : List Int) (hl : l.length ≤ 140737488351232) : ∀ (ys : List Int) (i : Nat), l.drop i = ys →
    ∃ r, Ev (fun k => slices_IndexFunc_uint64_uint64_at_money_Split_1.l0 k l (l.length : Int) (i : Int)) r ∧ decide (r ≥ 0) = ys.any (fun x => decide (x > 1000000))
  | [], i, h => by
    have hi := drop_nil h
    refine ⟨-1, Ev.step (f := fun _ => some (-1)) (fun k => ?_) (ev_some rfl), by simp⟩
    rw [slices_IndexFunc_uint64_uint64_at_money_Split_1.l0, if_neg (by omega)]
  | y :: ys, i, h => by
    have hi := drop_lt h
    by_cases hy : y > 1000000
    · refine ⟨(i : Int), Ev.step (f := fun _ => some (i : Int)) (fun k => ?_) (ev_some rfl), by simp [hy]⟩
      rw [slices_IndexFunc_uint64_uint64_at_money_Split_1.l0, if_pos (by omega), if_pos (by omega), if_pos (by omega), drop_rd h]
      simp [money_Split_1.f, hy]
    · obtain ⟨r, hr, e⟩ := split_index l hl ys (i + 1) (drop_next h)
      refine ⟨r, Ev.step (f := fun k => slices_IndexFunc_uint64_uint64_at_money_Split_1.l0 k l (l.length : Int) ((i + 1 : Nat) : Int)) (fun k => ?_) hr, ?_⟩
      · rw [slices_IndexFunc_uint64_uint64_at_money_Split_1.l0, if_pos (by omega), if_pos (by omega), if_pos (by omega), drop_rd h, next_i hi hl]
        simp [money_Split_1.f, hy]
      · rw [e, List.any_cons, decide_eq_false hy, Bool.false_or]
theorem odd_ev (l : List Int) (hl : l.length ≤ 140737488351232) : Ev (fun k => slices_ContainsFunc_uint64_uint64_at_money_Split_1.f k l) (l.any (fun x => decide (x > 1000000))) := by
  obtain ⟨r, hr, e⟩ := split_index l hl l 0 rfl
  unfold slices_ContainsFunc_uint64_uint64_at_money_Split_1.f slices_IndexFunc_uint64_uint64_at_money_Split_1.f
  exact Ev.bind hr (ev_some e)

/-- The parts from a weight on, when so much lies ahead and so much was had. -/
def outs (a all : Int) : Int → List Int → List Int
  | _, [] => []
  | ahead, w :: ws => (a * (ahead + w) / all - a * ahead / all) :: outs a all (ahead + w) ws
theorem outs_length (a all : Int) : ∀ (ws : List Int) (ahead : Int), (outs a all ahead ws).length = ws.length
  | [], _ => rfl
  | w :: ws, ahead => by simp [outs, outs_length a all ws]
def good (a : Int) (ws : List Int) : Prop := a ≤ 4611686018427387904 ∧ 0 < ws.length ∧ ws.length ≤ 64 ∧ (∀ w ∈ ws, w ≤ 1000000) ∧ ws.sum ≠ 0
instance (a : Int) (ws : List Int) : Decidable (good a ws) := by unfold good; infer_instance
def msplit (a : Int) (ws : List Int) : List Int × Int := if good a ws then (outs a ws.sum 0 ws, 0) else ([], 1)

theorem sum_le (ws : List Int) (h : ∀ w ∈ ws, w ≤ 1000000) : ws.sum ≤ 1000000 * ws.length := by
  induction ws with
  | nil => simp
  | cons w ws ih =>
    have h1 := h w (by simp)
    have h2 := ih (fun x hx => h x (by simp [hx]))
    simp only [List.sum_cons, List.length_cons]
    omega
theorem sum_nn (ws : List Int) (h : ∀ w ∈ ws, 0 ≤ w) : 0 ≤ ws.sum := by
  induction ws with
  | nil => simp
  | cons w ws ih =>
    have h1 := h w (by simp)
    have h2 := ih (fun x hx => h x (by simp [hx]))
    simp only [List.sum_cons]
    omega
theorem sum_loop (a : Int) (l : List Int) (hl : l.length ≤ 64) (hm : ∀ x ∈ l, 0 ≤ x ∧ x ≤ 1000000) (r : List Int × Int)
    (hr : ∀ s, s = l.sum → Ev (fun k => if s = 0 then (some (([] : List Int), 1)) else (if 0 ≤ (l.length : Int) then (if ((l.length : Int) : Int).toNat ≤ 35184372088832 then (money_Split.l1 k a s 0 0 (List.replicate ((l.length : Int) : Int).toNat 0) l (l.length : Int) 0) else (none)) else (none))) r) :
    ∀ (ys : List Int) (i : Nat) (s : Int), l.drop i = ys → 0 ≤ s → s + ys.sum = l.sum → s ≤ 1000000 * i →
    Ev (fun k => money_Split.l0 k a l s 0 0 l (l.length : Int) (i : Int)) r
  | [], i, s, h, h0, hs, hb => by
    have hi := drop_nil h
    refine Ev.step (fun k => by rw [money_Split.l0, if_neg (by omega)]) (hr s ?_)
    simpa using hs
  | y :: ys, i, s, h, h0, hs, hb => by
    have hi := drop_lt h
    have hy := hm y (drop_mem h)
    have hw : IntKind.u64.wrap (s + y) = s + y := u64w (by omega) (by omega)
    have ih := sum_loop a l hl hm r hr ys (i + 1) (s + y) (drop_next h) (by omega) (by rw [List.sum_cons] at hs; omega) (by omega)
    refine Ev.step (f := fun k => money_Split.l0 k a l (s + y) 0 0 l (l.length : Int) ((i + 1 : Nat) : Int)) (fun k => ?_) ih
    rw [money_Split.l0, if_pos (by omega), if_pos (by omega), if_pos (by omega), drop_rd h, hw, next_i hi (by omega)]
theorem take_set_next (out : List Int) (i : Nat) (v : Int) (h : i < out.length) : (out.set i v).take (i + 1) = out.take i ++ [v] := by
  rw [List.take_succ_eq_append_getElem (by simpa using h), List.getElem_set_self, List.take_set_of_le (Nat.le_refl i)]
theorem part_mono (a all x y : Int) (ha : 0 ≤ a) (hall : 0 < all) (h : x ≤ y) : a * x / all ≤ a * y / all := Int.ediv_le_ediv hall (Int.mul_le_mul_of_nonneg_left h ha)
theorem part_le (a all x : Int) (ha : 0 ≤ a) (hall : 0 < all) (h : x ≤ all) : a * x / all ≤ a := by
  have := part_mono a all x all ha hall h
  rwa [Int.mul_ediv_cancel _ (by omega)] at this
theorem part_nn (a all x : Int) (ha : 0 ≤ a) (hall : 0 < all) (h : 0 ≤ x) : 0 ≤ a * x / all := Int.ediv_nonneg (Int.mul_nonneg ha h) (by omega)
theorem out_loop (a all : Int) (l : List Int) (ha0 : 0 ≤ a) (ha1 : a ≤ 4611686018427387904) (hl : l.length ≤ 64) (hm : ∀ x ∈ l, 0 ≤ x) (hall0 : 0 < all) (hall1 : all ≤ 64000000) :
    ∀ (ys : List Int) (i : Nat) (ahead : Int) (out : List Int), l.drop i = ys → 0 ≤ ahead → ahead + ys.sum = all → out.length = l.length →
    Ev (fun k => money_Split.l1 k a all ahead (a * ahead / all) out l (l.length : Int) (i : Int)) (out.take i ++ outs a all ahead ys, 0)
  | [], i, ahead, out, h, h0, hs, ho => by
    have hi := drop_nil h
    refine Ev.step (f := fun _ => some (out, 0)) (fun k => by rw [money_Split.l1, if_neg (by omega)]) (ev_some ?_)
    rw [List.take_of_length_le (by omega)]; simp [outs]
  | y :: ys, i, ahead, out, h, h0, hs, ho => by
    have hi := drop_lt h
    have hy := hm y (drop_mem h)
    have hys := sum_nn ys (fun x hx => hm x (List.mem_of_mem_drop (i := i) (by rw [h]; simp [hx])))
    rw [List.sum_cons] at hs
    have hw : IntKind.u64.wrap (ahead + y) = ahead + y := u64w (by omega) (by omega)
    have m1 := part_mono a all ahead (ahead + y) ha0 hall0 (by omega)
    have m2 := part_le a all (ahead + y) ha0 hall0 (by omega)
    have m3 := part_nn a all ahead ha0 hall0 h0
    have hv : IntKind.u64.wrap (a * (ahead + y) / all - a * ahead / all) = a * (ahead + y) / all - a * ahead / all := u64w (by omega) (by omega)
    have ih := out_loop a all l ha0 ha1 hl hm hall0 hall1 ys (i + 1) (ahead + y) (out.set i (a * (ahead + y) / all - a * ahead / all)) (drop_next h) (by omega) (by omega) (by simpa using ho)
    rw [take_set_next _ _ _ (by omega), List.append_assoc] at ih
    have hp := part_ev a (ahead + y) all ha0 ha1 (by omega) (by omega) hall0 (by omega)
    refine Ev.step (f := fun k => (money_part.f k a (ahead + y) all).bind fun t => (if (i : Int) < (out.length : Int) then money_Split.l1 k a all (ahead + y) t (out.set i (IntKind.u64.wrap (t - a * ahead / all))) l (l.length : Int) ((i + 1 : Nat) : Int) else none)) (fun k => ?_) ?_
    · rw [money_Split.l1, if_pos (by omega), if_pos (by omega), if_pos (by omega), drop_rd h, hw, next_i hi (by omega), Int.toNat_natCast]
    · refine Ev.bind hp (ev_pos (by omega) ?_)
      rw [hv]
      exact ih
theorem split_ev (a : Int) (ws : List Int) (ha : 0 ≤ a) (hl : ws.length ≤ 140737488351232) (hm : ∀ x ∈ ws, 0 ≤ x) : Ev (fun k => money_Split.f k a ws) (msplit a ws) := by
  unfold money_Split.f
  have no : ¬ good a ws → Ev (fun k => money_Split.j0 k a ws true) (msplit a ws) := by
    intro hg
    refine Ev.step (fun k => by rw [money_Split.j0]) (ev_pos rfl (ev_some ?_))
    unfold msplit; rw [if_neg hg]
  refine Ev.bind (check_ev [a] (by simp)) ?_
  by_cases h1 : a ≤ 4611686018427387904
  · refine ev_pos (mchk_ok1 h1) ?_
    by_cases h2 : (ws.length : Int) = 0
    · exact ev_pos h2 (no (fun h => by have := h.2.1; omega))
    · refine ev_neg h2 ?_
      by_cases h3 : (ws.length : Int) > 64
      · exact ev_pos h3 (no (fun h => by have := h.2.2.1; omega))
      · refine ev_neg h3 (Ev.bind (odd_ev ws hl) ?_)
        by_cases h4 : ws.any (fun x => decide (x > 1000000)) = true
        · rw [h4]
          refine no (fun h => ?_)
          obtain ⟨x, hx, hx2⟩ := List.any_eq_true.mp h4
          have := h.2.2.2.1 x hx
          simp at hx2
          omega
        · rw [Bool.not_eq_true] at h4
          rw [h4]
          have h5 : ∀ x ∈ ws, x ≤ 1000000 := fun x hx => by
            have := List.any_eq_false.mp h4 x hx
            simpa using this
          refine Ev.step (fun k => by rw [money_Split.j0]) (ev_neg (by simp) ?_)
          refine sum_loop a ws (by omega) (fun x hx => ⟨hm x hx, h5 x hx⟩) _ ?_ ws 0 0 rfl (by omega) (by omega) (by omega)
          intro s hs
          by_cases h6 : s = 0
          · refine ev_pos h6 (ev_some ?_)
            unfold msplit; rw [if_neg (fun h => h.2.2.2.2 (by omega))]
          · have hb := sum_le ws h5
            have hn := sum_nn ws hm
            refine ev_neg h6 (ev_pos (by omega) (ev_pos (by rw [Int.toNat_natCast]; omega) ?_))
            have hg : good a ws := ⟨h1, by omega, by omega, h5, by omega⟩
            have := out_loop a s ws ha h1 (by omega) hm (by omega) (by omega) ws 0 0 (List.replicate ws.length 0) rfl (by omega) (by omega) (by simp)
            rw [Int.mul_zero, Int.zero_ediv] at this
            unfold msplit
            rw [if_pos hg, ← hs]
            simpa using this
  · exact ev_neg (by rw [mchk_no1 h1]; omega) (no (fun h => h1 h.1))
end Go.Proofs.Ytcolmgbmpmmeaaa.B
