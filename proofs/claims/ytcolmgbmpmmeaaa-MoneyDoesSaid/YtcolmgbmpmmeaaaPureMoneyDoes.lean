/- Any amounts added, taken away, shared, with a fee, and split: as the document's answer tells it. No conditions. -/
import Derived.Test.YtcolmgbmpmmeaaaPureMoneySplit
set_option linter.unusedVariables false
namespace Go.Proofs.Ytcolmgbmpmmeaaa.B
open Go.RowKit Go.Proofs.Ytcolmgbmpmmeaaa.P Go.Proofs.YtcolmgbmpmmeaaaW.PrintWords
theorem ref_check_loop (l : List Int) (hl : l.length ≤ 140737488351232) : ∀ (ys : List Int) (i : Nat), l.drop i = ys → Ev (fun k => damsonref04_Check.l0 k l (l.length : Int) (i : Int)) (mchk ys)
  | [], i, h => by
    have hi := drop_nil h
    exact Ev.step (f := fun _ => some 0) (fun k => by rw [damsonref04_Check.l0, if_neg (by omega)]) (ev_some rfl)
  | y :: ys, i, h => by
    have hi := drop_lt h
    rw [mchk_cons]
    by_cases hy : y ≤ 4611686018427387904
    · rw [if_pos hy]
      have ih := ref_check_loop l hl ys (i + 1) (drop_next h)
      refine Ev.step (f := fun k => damsonref04_Check.l0 k l (l.length : Int) ((i + 1 : Nat) : Int)) (fun k => ?_) ih
      rw [damsonref04_Check.l0, if_pos (by omega), if_pos (by omega), if_pos (by omega), drop_rd h, if_neg (by omega), next_i hi hl]
    · rw [if_neg hy]
      refine Ev.step (f := fun _ => some 1) (fun k => ?_) (ev_some rfl)
      rw [damsonref04_Check.l0, if_pos (by omega), if_pos (by omega), if_pos (by omega), drop_rd h, if_pos (by omega)]
theorem ref_check_ev (l : List Int) (hl : l.length ≤ 140737488351232) : Ev (fun k => damsonref04_Check.f k l) (mchk l) := by
  unfold damsonref04_Check.f
  exact ref_check_loop l hl l 0 rfl
theorem ref_add_loop (l : List Int) (hl : l.length ≤ 140737488351232) (hm : ∀ x ∈ l, 0 ≤ x ∧ x ≤ 4611686018427387904) : ∀ (ys : List Int) (i : Nat) (s : Int), l.drop i = ys → 0 ≤ s → s ≤ 4611686018427387904 →
    Ev (fun k => damsonref04_Add.l0 k s l (l.length : Int) (i : Int)) (maddFrom s ys)
  | [], i, s, h, h0, h1 => by
    have hi := drop_nil h
    exact Ev.step (f := fun _ => some (s, 0)) (fun k => by rw [damsonref04_Add.l0, if_neg (by omega)]) (ev_some rfl)
  | y :: ys, i, s, h, h0, h1 => by
    have hi := drop_lt h
    have hy := hm y (drop_mem h)
    have hw : IntKind.u64.wrap (s + y) = s + y := u64w (by omega) (by omega)
    have hw2 : IntKind.u64.wrap (4611686018427387904 - s) = 4611686018427387904 - s := u64w (by omega) (by omega)
    unfold maddFrom
    by_cases hc : s + y > 4611686018427387904
    · rw [if_pos hc]
      refine Ev.step (f := fun _ => some (0, 8)) (fun k => ?_) (ev_some rfl)
      rw [damsonref04_Add.l0, if_pos (by omega), if_pos (by omega), if_pos (by omega), drop_rd h, hw2, if_pos (by omega)]
    · rw [if_neg hc]
      have ih := ref_add_loop l hl hm ys (i + 1) (s + y) (drop_next h) (by omega) (by omega)
      refine Ev.step (f := fun k => damsonref04_Add.l0 k (s + y) l (l.length : Int) ((i + 1 : Nat) : Int)) (fun k => ?_) ih
      rw [damsonref04_Add.l0, if_pos (by omega), if_pos (by omega), if_pos (by omega), drop_rd h, hw2, if_neg (by omega), hw, next_i hi hl]
theorem ref_add_ev (l : List Int) (hl : l.length ≤ 140737488351232) (hm : ∀ x ∈ l, 0 ≤ x) : Ev (fun k => damsonref04_Add.f k l) (madd l) := by
  unfold damsonref04_Add.f madd
  refine Ev.bind (ref_check_ev l hl) ?_
  by_cases h : mchk l = 0
  · rw [if_pos h]
    exact ev_pos h (ref_add_loop l hl (fun x hx => ⟨hm x hx, mchk_zero.mp h x hx⟩) l 0 0 rfl (by omega) (by omega))
  · rw [if_neg h]
    have : mchk l = 1 := (mchk_01 l).resolve_left h
    exact ev_neg h (ev_some (by rw [this]))
theorem ref_sub_ev (a b : Int) (ha : 0 ≤ a) (hb : 0 ≤ b) : Ev (fun k => damsonref04_Sub.f k a b) (msub a b) := by
  unfold damsonref04_Sub.f msub
  refine Ev.bind (ref_check_ev [a, b] (by simp)) ?_
  rw [mchk_cons, mchk_one]
  by_cases h12 : a ≤ 4611686018427387904 ∧ b ≤ 4611686018427387904
  · rw [if_pos h12.1, if_pos h12.2, if_pos h12]
    refine ev_pos rfl ?_
    by_cases h3 : a < b
    · exact ev_pos h3 (ev_some (by rw [if_pos h3]))
    · exact ev_neg h3 (ev_some (by rw [if_neg h3, u64w (by omega) (by omega)]))
  · rw [if_neg h12]
    refine ev_neg ?_ (Ev.now _)
    by_cases h1 : a ≤ 4611686018427387904
    · rw [if_pos h1, if_neg (fun h => h12 ⟨h1, h⟩)]; omega
    · rw [if_neg h1]; omega
theorem ref_of (a n all : Int) (ha0 : 0 ≤ a) (ha1 : a ≤ 4611686018427387904) (hn0 : 0 ≤ n) (hn : n ≤ all) (hall0 : 0 < all) (hall1 : all ≤ 64000000) : damsonref04_of.f a n all = some (a * n / all) := by
  unfold damsonref04_of.f
  rw [if_neg (by omega), of_wrap a n all ha0 ha1 hn0 hn hall0 hall1]
theorem ref_share_ev (a n : Int) (ha0 : 0 ≤ a) (hn0 : 0 ≤ n) : Ev (fun k => damsonref04_Share.f k a n) (mshare a n) := by
  unfold damsonref04_Share.f
  refine Ev.bind (ref_check_ev [a] (by simp)) ?_
  by_cases h : a ≤ 4611686018427387904
  · refine ev_pos (mchk_ok1 h) ?_
    by_cases h2 : n > 1000000
    · refine ev_pos h2 (ev_some ?_)
      unfold mshare; rw [if_pos h2]
    · refine ev_neg h2 ?_
      rw [ref_of a n 1000000 ha0 h hn0 (by omega) (by omega) (by omega)]
      simp only [Option.bind_some]
      refine ev_some ?_
      unfold mshare; rw [if_neg h2, if_pos h]
  · exact ev_neg (by rw [mchk_no1 h]; omega) (ev_some (mshare_much h n).symm)
theorem ref_fee_ev (b n a : Int) (hb : 0 ≤ b) (hn0 : 0 ≤ n) (ha : 0 ≤ a) : Ev (fun k => damsonref04_Fee.f k b n a) (mfee b n a) := by
  unfold damsonref04_Fee.f mfee
  refine Ev.bind (ref_share_ev a n ha hn0) ?_
  by_cases h : (mshare a n).2 = 0
  · rw [if_pos h]
    refine ev_pos h (Ev.bind (ref_check_ev [b] (by simp)) ?_)
    have hs := mshare_nn a n ha hn0
    by_cases h2 : b ≤ 4611686018427387904
    · refine ev_pos (mchk_ok1 h2) ?_
      have := ref_add_ev [b, (mshare a n).1] (by simp) (by simp; omega)
      rw [madd_two _ _ hb hs] at this
      exact Ev.bind this (Ev.now _)
    · refine ev_neg (by rw [mchk_no1 h2]; omega) (ev_some ?_)
      unfold madd2; rw [if_neg (fun h => h2 h.1)]
  · rw [if_neg h]
    exact ev_neg h (ev_some (by rw [mshare_no h]))
theorem ref_split_out (a all : Int) (l : List Int) (ha0 : 0 ≤ a) (ha1 : a ≤ 4611686018427387904) (hl : l.length ≤ 64) (hm : ∀ x ∈ l, 0 ≤ x) (hall0 : 0 < all) (hall1 : all ≤ 64000000) :
    ∀ (ys : List Int) (i : Nat) (ahead : Int) (out : List Int), l.drop i = ys → 0 ≤ ahead → ahead + ys.sum = all → out.length = i →
    Ev (fun k => damsonref04_Split.l1 k a all out ahead l (l.length : Int) (i : Int)) (out ++ outs a all ahead ys, 0)
  | [], i, ahead, out, h, h0, hs, ho => by
    have hi := drop_nil h
    refine Ev.step (f := fun _ => some (out, 0)) (fun k => by rw [damsonref04_Split.l1, if_neg (by omega)]) (ev_some ?_)
    simp [outs]
  | y :: ys, i, ahead, out, h, h0, hs, ho => by
    have hi := drop_lt h
    have hy := hm y (drop_mem h)
    have hys := sum_nn ys (fun x hx => hm x (List.mem_of_mem_drop (i := i) (by rw [h]; simp [hx])))
    rw [List.sum_cons] at hs
    have hw : IntKind.u64.wrap (ahead + y) = ahead + y := u64w (by omega) (by omega)
    have m1 := part_mono a all ahead (ahead + y) ha0 hall0 (by omega)
    have m2 := part_le a all (ahead + y) ha0 hall0 (by omega)
    have m3 := part_nn a all ahead ha0 hall0 h0
    have hv : IntKind.u64.wrap (a * (ahead + y) / all - a * ahead / all) = a * (ahead + y) / all - a * ahead / all := u64w (by omega) (by omega)
    have ih := ref_split_out a all l ha0 ha1 hl hm hall0 hall1 ys (i + 1) (ahead + y) (out ++ [a * (ahead + y) / all - a * ahead / all]) (drop_next h) (by omega) (by omega) (by simp; omega)
    rw [List.append_assoc] at ih
    refine Ev.step (f := fun k => damsonref04_Split.l1 k a all (out ++ [a * (ahead + y) / all - a * ahead / all]) (ahead + y) l (l.length : Int) ((i + 1 : Nat) : Int)) (fun k => ?_) ih
    rw [damsonref04_Split.l1, if_pos (by omega), if_pos (by omega), if_pos (by omega), drop_rd h, hw, ref_of a (ahead + y) all ha0 ha1 (by omega) (by omega) hall0 hall1, ref_of a ahead all ha0 ha1 (by omega) (by omega) hall0 hall1]
    simp only [Option.bind_some]
    rw [if_pos (by omega), hv, next_i hi (by omega)]
theorem ref_split_sum (a : Int) (l : List Int) (ha0 : 0 ≤ a) (ha1 : a ≤ 4611686018427387904) (hl0 : 0 < l.length) (hl : l.length ≤ 64) (hm : ∀ x ∈ l, 0 ≤ x) :
    ∀ (ys : List Int) (i : Nat) (s : Int), l.drop i = ys → 0 ≤ s → s + ys.sum = l.sum → s ≤ 1000000 * i → (∀ x ∈ l.take i, x ≤ 1000000) →
    Ev (fun k => damsonref04_Split.l0 k a l s l (l.length : Int) (i : Int)) (msplit a l)
  | [], i, s, h, h0, hs, hb, ht => by
    have hi := drop_nil h
    rw [List.take_of_length_le hi] at ht
    refine Ev.step (fun k => by rw [damsonref04_Split.l0, if_neg (by omega)]) ?_
    have he : s = l.sum := by simpa using hs
    have hb := sum_le l ht
    have hn := sum_nn l hm
    by_cases h6 : s = 0
    · refine ev_pos h6 (ev_some ?_)
      unfold msplit; rw [if_neg (fun h => h.2.2.2.2 (by omega))]
    · have hg : good a l := ⟨ha1, hl0, hl, ht, by omega⟩
      refine ev_neg h6 ?_
      have := ref_split_out a s l ha0 ha1 hl hm (by omega) (by omega) l 0 0 [] rfl (by omega) (by omega) rfl
      unfold msplit
      rw [if_pos hg, ← he]
      simpa using this
  | y :: ys, i, s, h, h0, hs, hb, ht => by
    have hi := drop_lt h
    have hy := hm y (drop_mem h)
    by_cases hc : y > 1000000
    · refine Ev.step (f := fun _ => some (([] : List Int), 1)) (fun k => ?_) (ev_some ?_)
      · rw [damsonref04_Split.l0, if_pos (by omega), if_pos (by omega), if_pos (by omega), drop_rd h, if_pos hc]
      · unfold msplit; rw [if_neg (fun h' => by have := h'.2.2.2.1 y (drop_mem h); omega)]
    · have hw : IntKind.u64.wrap (s + y) = s + y := u64w (by omega) (by omega)
      have ih := ref_split_sum a l ha0 ha1 hl0 hl hm ys (i + 1) (s + y) (drop_next h) (by omega) (by rw [List.sum_cons] at hs; omega) (by omega) (by
        rw [List.take_succ_eq_append_getElem hi]
        intro x hx
        rcases List.mem_append.mp hx with hx | hx
        · exact ht x hx
        · have := drop_get 0 h
          rw [List.getD_eq_getElem?_getD, List.getElem?_eq_getElem hi] at this
          simp at hx this
          omega)
      refine Ev.step (f := fun k => damsonref04_Split.l0 k a l (s + y) l (l.length : Int) ((i + 1 : Nat) : Int)) (fun k => ?_) ih
      rw [damsonref04_Split.l0, if_pos (by omega), if_pos (by omega), if_pos (by omega), drop_rd h, if_neg hc, hw, next_i hi (by omega)]
theorem ref_split_ev (a : Int) (ws : List Int) (ha : 0 ≤ a) (hm : ∀ x ∈ ws, 0 ≤ x) : Ev (fun k => damsonref04_Split.f k a ws) (msplit a ws) := by
  unfold damsonref04_Split.f
  have no : ¬ good a ws → Ev (fun k => damsonref04_Split.j0 k a ws true) (msplit a ws) := by
    intro hg
    refine Ev.step (fun k => by rw [damsonref04_Split.j0]) (ev_pos rfl (ev_some ?_))
    unfold msplit; rw [if_neg hg]
  refine Ev.bind (ref_check_ev [a] (by simp)) ?_
  by_cases h1 : a ≤ 4611686018427387904
  · refine ev_pos (mchk_ok1 h1) ?_
    by_cases h2 : (ws.length : Int) = 0
    · exact ev_pos h2 (no (fun h => by have := h.2.1; omega))
    · refine ev_neg h2 ?_
      by_cases h3 : (ws.length : Int) > 64
      · rw [decide_eq_true h3]; exact no (fun h => by have := h.2.2.1; omega)
      · rw [decide_eq_false h3]
        refine Ev.step (fun k => by rw [damsonref04_Split.j0]) (ev_neg (by simp) ?_)
        exact ref_split_sum a ws ha h1 (by omega) (by omega) hm ws 0 0 rfl (by omega) (by omega) (by omega) (by simp)
  · exact ev_neg (by rw [mchk_no1 h1]; omega) (no (fun h => h1 h.1))
theorem same_loop (l : List Int) (hl : l.length ≤ 140737488351232) : ∀ (ys : List Int) (i : Nat), l.drop i = ys → Ev (fun k => damsonref01_SameNumbers.l0 k l l (l.length : Int) (i : Int)) true
  | [], i, h => by
    have hi := drop_nil h
    exact Ev.step (fun k => by rw [damsonref01_SameNumbers.l0, if_neg (by omega)]) (ev_some rfl)
  | y :: ys, i, h => by
    have hi := drop_lt h
    have ih := same_loop l hl ys (i + 1) (drop_next h)
    refine Ev.step (f := fun k => damsonref01_SameNumbers.l0 k l l (l.length : Int) ((i + 1 : Nat) : Int)) (fun k => ?_) ih
    rw [damsonref01_SameNumbers.l0, if_pos (by omega), if_pos (by omega), if_pos (by omega), if_pos (by omega), if_pos rfl, next_i hi hl]
theorem same_ev (l : List Int) (hl : l.length ≤ 140737488351232) : Ev (fun k => damsonref01_SameNumbers.f k l l) true := by
  unfold damsonref01_SameNumbers.f
  exact ev_pos rfl (same_loop l hl l 0 rfl)
end Go.Proofs.Ytcolmgbmpmmeaaa.B
namespace Go.Proofs.Ytcolmgbmpmmeaaa.Pure
open Go.RowKit Go.Proofs.Ytcolmgbmpmmeaaa.P Go.Proofs.YtcolmgbmpmmeaaaW.PrintWords Go.Proofs.Ytcolmgbmpmmeaaa.B
theorem MoneyDoes : damsonlaw04_MoneyDoes.Pure := by
  intro l a b n _ hl hws wa wb wn
  obtain ⟨a0, a1⟩ := wf_u64 wa
  obtain ⟨b0, b1⟩ := wf_u64 wb
  obtain ⟨n0, n1⟩ := wf_u64 wn
  have hm : ∀ x ∈ l, 0 ≤ x := fun x hx => (wf_u64 (hws x hx)).1
  have hl' : l.length ≤ 140737488351232 := by omega
  apply Ev.rounds
  unfold damsonlaw04_MoneyDoes.f
  refine Ev.bind live04 (ev_pos rfl ?_)
  by_cases hbig : (l.length : Int) > 200
  · exact ev_pos hbig (ev_some rfl)
  · refine ev_neg hbig ?_
    refine Ev.bind (add_ev l hl' hm) (Ev.bind (ref_add_ev l hl' hm) (Ev.bind (sub_ev a b a0 b0) (Ev.bind (ref_sub_ev a b a0 b0) (Ev.bind (share_ev a n a0 n0) (Ev.bind (ref_share_ev a n a0 n0) (Ev.bind (fee_ev b n a b0 n0 a0) (Ev.bind (ref_fee_ev b n a b0 n0 a0) (Ev.bind (split_ev a l a0 hl' hm) (Ev.bind (ref_split_ev a l a0 hm) ?_)))))))))
    have hs : (msplit a l).1.length ≤ 140737488351232 := by
      unfold msplit
      split
      · rw [outs_length]; exact hl'
      · simp
    refine ev_pos rfl (ev_pos rfl (ev_pos rfl (ev_pos rfl (ev_pos rfl (ev_pos rfl (ev_pos rfl (ev_pos rfl (Ev.bind (same_ev _ hs) (ev_pos rfl (ev_pos rfl (Ev.bind (check_ev l hl') (Ev.bind (ref_check_ev l hl') ?_))))))))))))
    exact ev_some (by simp)
end Go.Proofs.Ytcolmgbmpmmeaaa.Pure
