-- written by a program of this session (wip/print)
import Derived.Test.YtcfbcoinbecdfaaQPdoesx0
namespace Go.Proofs.Ytcfbcoinbecdfaa.P
open Go.RowKit Go.Proofs.YtcfbcoinbecdfaaW.PrintWords Go.Proofs.YtcfbcoinbecdfaaW.PrintLast Go.Proofs.YtcfbcoinbecdfaaW.PrintMore
attribute [local go_sem] max2_int min2_int max_two min_two max_three min_three max_four min_four run_sub64_   -- for this text's walks alone
set_option linter.unusedVariables false
set_option linter.unusedSimpArgs false

/-! ### damsonref13_forget: function 126 -/
def damsonref13_forget.l0 : Nat → List (S74) → List (S74) → Int → Int → Option ((List (S74)))
  | 0, _, _, _, _ => none
  | k + 1, x0, x5, x6, x7 => if x7 < x6 then (if 0 ≤ x7 then (if x7 < (x5.length : Int) then (if ((rd_T74 x5 x7).f4) = 1 then (damsonref13_forget.l0 k x0 x5 x6 (wrap64 (x7 + 1))) else (if x7 ≤ (x0.length : Int) then ((some (x0.take (x7 : Int).toNat : List (S74))).bind fun y211 => (if ([] : List (S74)).length + y211.length < 3518437208883 then ((some (([] : List (S74)) ++ y211 : List (S74))).bind fun y216 => (if 0 ≤ (wrap64 (x7 + 1)) then (if (wrap64 (x7 + 1)) ≤ (x0.length : Int) then ((some (x0.drop ((wrap64 (x7 + 1)) : Int).toNat : List (S74))).bind fun y219 => (if y216.length + y219.length < 3518437208883 then (some (y216 ++ y219)) else (none))) else (none)) else (none))) else (none))) else (none))) else (none)) else (none)) else (some x0)
def damsonref13_forget.f (k : Nat) (l0 : List (S74)) : Option ((List (S74))) := damsonref13_forget.l0 k l0 l0 (l0.length : Int) 0
theorem damsonref13_forget.mono_l : ∀ k, (∀ y0 y1 y2 y3, LeO (damsonref13_forget.l0 k y0 y1 y2 y3) (damsonref13_forget.l0 (k + 1) y0 y1 y2 y3))
  | 0 => fun _ _ _ _ r h => by simp [damsonref13_forget.l0] at h
  | k + 1 => by
    have ih0 := damsonref13_forget.mono_l k
    · intro y0 y1 y2 y3
      unfold damsonref13_forget.l0
      repeat' first
      | (with_reducible exact ih0 _ _ _ _)
      | (with_reducible exact LeO.refl _)
      | (with_reducible exact LeO.none _)
      | (with_reducible refine LeO.ite ?_ ?_)
      | (with_reducible refine LeO.bind ?_ (fun _ => ?_))
      | exact ih0 _ _ _ _
      | exact LeO.none _
      | refine LeO.ite ?_ ?_
      | refine LeO.bind ?_ (fun _ => ?_)
theorem damsonref13_forget.mono : ∀ a0 k, LeO (damsonref13_forget.f k a0) (damsonref13_forget.f (k + 1) a0) := by
  intro a0 k
  have ih0 := damsonref13_forget.mono_l k
  unfold damsonref13_forget.f
  repeat' first
      | (with_reducible exact ih0 _ _ _ _)
      | (with_reducible exact LeO.refl _)
      | (with_reducible exact LeO.none _)
      | (with_reducible refine LeO.ite ?_ ?_)
      | (with_reducible refine LeO.bind ?_ (fun _ => ?_))
      | exact ih0 _ _ _ _
      | exact LeO.none _
      | refine LeO.ite ?_ ?_
      | refine LeO.bind ?_ (fun _ => ?_)
def damsonref13_forget.T5 : Bool × List (List Nat × List Nat) := (true, [([], []), ([], []), ([0, 1], [0, 1]), ([2], [2]), ([], []), ([], []), ([5], [5]), ([4, 6], [4, 6]), ([3, 7, 3], [3, 7]), ([8, 8, 0, 1, 2, 3, 4, 5, 6, 7, 8], [8])])
def damsonref13_forget.B5 : List Nat := [0, 0, 3, 7, 0, 0, 32, 112, 255, 511]
theorem damsonref13_forget.tab5 : rtab .any (opsOf Try.f126 5) = damsonref13_forget.T5 := by kernel_rfl
theorem damsonref13_forget.bits5 : waitsOk damsonref13_forget.T5.2 damsonref13_forget.B5 = true := by kernel_rfl
set_option maxHeartbeats 8000000 in
set_option maxRecDepth 100000 in
theorem damsonref13_forget.calls (k : Nat) (P0_ : Nat → Prop) (A0 : Option Addr) (c0 : Nat) (l0 : List (S74)) (r : List (S74)) (w : World) (hs0 : Kd.V k74 74 w w.heap.size (fun k_ => P0_ k_) (.slice A0 l0.length c0) l0) (h : damsonref13_forget.f k l0 = some r) :
    Calls Try.prog 126 #[.slice A0 l0.length c0] w fun e w' => ∃ v0_ : Value, e = .returned (v0_) ∧ Kd.V k74 74 w' w.heap.size (fun k_ => (P0_ k_ ∨ w.heap.size ≤ k_)) v0_ r ∧ Below w.heap.size w w' := by
  have hu74 := Try.underlying74
  have HO0 := Aside0.mk (show Kd.V k74 74 w w.heap.size (fun k_ => (P0_ k_ ∨ w.heap.size ≤ k_)) (.slice A0 l0.length c0) l0 from Kd.V_mono hs0 (fun k_ hk => .inl hk))
  have HB := Aside0.mk (Below.refl w.heap.size w)
  have H : (damsonref13_forget.l0 k l0 l0 (l0.length : Int) 0) = some r := h
  clear h
  have H' := Aside0.mk H
  clear H
  go_enter Try.func126, Try.ntmps126
  go_wp2
  go_loopg [7] k (fun kq v7 w' => ∃ (x7_1 : Int), v7 = .int .i64 x7_1 ∧ Aside0 (damsonref13_forget.l0 kq l0 l0 (l0.length : Int) x7_1 = some r) ∧ Aside0 (kq ≤ k) ∧ Aside0 (Kd.V k74 74 w' w.heap.size (fun k_ => (P0_ k_ ∨ w.heap.size ≤ k_)) (.slice A0 l0.length c0) l0) ∧ Aside0 (Kd.V k74 74 w' w.heap.size (fun k_ => (P0_ k_ ∨ w.heap.size ≤ k_)) (.slice A0 l0.length c0) l0) ∧ Aside0 (Below w.heap.size w w'))
  case atStart => exact ⟨(0), (by first | rfl | (simp; done) | (simp [*]; done)), H', ⟨Nat.le_refl _⟩, ⟨by (with_reducible repeat (first | apply Kd.V_alloc | apply Kd.V_drewN | apply Kd.V_drew)); exact HO0.out⟩, ⟨by (with_reducible repeat (first | apply Kd.V_alloc | apply Kd.V_drewN | apply Kd.V_drew)); exact HO0.out⟩, ⟨by repeat (first | (with_reducible first | exact HB.out | apply below_alloc | apply pw_below_drewN | apply below_drew1) | exact HB.out)⟩⟩
  case round =>
    clear H'
    try clear c1
    obtain ⟨x7_1, rfl, HA, HK1, HO_0, HO_5, HB⟩ := hrel
    cases gk with
    | zero => exact absurd HA.out (by simp [damsonref13_forget.l0])
    | succ k1 =>
      have H := HA.out
      clear HA
      simp only [damsonref13_forget.l0] at H
      by_cases c2 : x7_1 < (l0.length : Int)
      · rw [if_pos c2] at H
        have c2b0 : decide (x7_1 < (l0.length : Int)) = true := decide_eq_true c2
        clear c2
        by_cases c3 : 0 ≤ x7_1
        · rw [if_pos c3] at H
          have c3b0 : decide (0 ≤ x7_1) = true := decide_eq_true c3
          clear c3
          by_cases c4 : x7_1 < (l0.length : Int)
          · rw [if_pos c4] at H
            have c4b0 : decide (x7_1 < (l0.length : Int)) = true := decide_eq_true c4
            clear c4
            by_cases c5 : ((rd_T74 l0 x7_1).f4) = 1
            · rw [if_pos c5] at H
              have c5b0 : (((rd_T74 l0 x7_1).f4) == 1) = true := beq_iff_eq.mpr c5
              have c5b1 : (((rd_T74 l0 x7_1).f4) != 1) = false := bne_eq_false_iff_eq.mpr c5
              clear c5
              have H' := Aside0.mk H
              clear H
              have p209 : 0 ≤ (x7_1 : Int) := of_decide_eq_true (by first | (with_reducible assumption) | assumption)
              have q209 : x7_1 < (l0.length : Int) := of_decide_eq_true (by first | (with_reducible assumption) | assumption)
              obtain ⟨ad209, e209, hx209_0, hx209_1, hx209_2, hx209_3, hx209_4⟩ := at_T74 (Kd.V_reads' HO_5.out).2.2 x7_1 p209 q209
              cases e209
              replace p209 := eq_true p209
              replace q209 := eq_true q209
              go_wp2_with (first | ((with_reducible refine gate_dst (N := 4) rfl ?_); refine box_event ?hg (N := 4) ?hd (cs := #[.int .u64 0, .int .u64 0, .int .u64 0, .int .u64 0, .int .i64 0]) (t := 74) ?hr ?_; (case hd => rfl); (case hg => rfl); (case hr => first | (go_simp; done) | (go_simp; rfl)); intro gb210 hg w6 hbox hb; have n0_ := Aside0.mk (Kd.V_below (Kd.V_elderB (Kd.VN HO_0) gb210 (Nat.le_of_eq hg.symm)) hb); have n1_ := Aside0.mk (Kd.V_below (Kd.V_elderB (Kd.VN HO_5) gb210 (Nat.le_of_eq hg.symm)) hb); have n2_ := Aside0.mk (below_step (belN HB) hb); have n3_ := Aside0.mk (hbox); have n4_ := Aside0.mk ((by rw [hg]; exact (below_size (belN HB)) : w.heap.size ≤ gb210)); have n5_ := Aside0.mk ((by rw [hg]; exact (below_size (belN HB)) : w.heap.size ≤ gb210)); clear HO_0; clear HO_5; clear HB; have HO_0 := n0_; have HO_5 := n1_; have HB := n2_; have BK210 := n3_; have GW210 := n4_; have GE210 := n5_; clear n0_ n1_ n2_ n3_ n4_ n5_; clear hb hbox hg; obtain ⟨hcz7_0, hcz7_1, hcz7_2, hcz7_3, hcz7_4, hfz7_0, hfz7_1, hfz7_2, hfz7_3, hfz7_4⟩ := cz5_ (w := w6) BK210.out) | ((with_reducible refine gate_store (t := 74) (p := 4) rfl ?_); refine store_event (t := 74) (p := 4) (v := ?vo_w8) (w1 := (((((w6.setCell ⟨gb210, 0, none⟩ (.int .u64 ((rd_T74 l0 x7_1).f0))).setCell ⟨gb210, 1, none⟩ (.int .u64 ((rd_T74 l0 x7_1).f1))).setCell ⟨gb210, 2, none⟩ (.int .u64 ((rd_T74 l0 x7_1).f2))).setCell ⟨gb210, 3, none⟩ (.int .u64 ((rd_T74 l0 x7_1).f3))).setCell ⟨gb210, 4, none⟩ (.int .i64 ((rd_T74 l0 x7_1).f4)))) ?hg ?ho ?hn ?hr ?_; (case ho => rfl); (case hg => rfl); (case hn => rfl); (case hr => first | (go_simp; done) | (go_simp; rfl)); intro w8 hw; have n0_ : Aside0 (Kd.V k74 74 w8 w.heap.size (fun k_ => (P0_ k_ ∨ w.heap.size ≤ k_) ∧ k_ ≠ gb210) (.slice (some ad209) l0.length c0) l0) := ⟨(by rw [hw]; exact (by (with_reducible repeat (first | apply Kd.V_alloc | apply Kd.V_drewN | apply Kd.V_drew)); exact Kd.V_mono (Kd.V_far (p := ⟨gb210, 4, none⟩) (Kd.V_far (p := ⟨gb210, 3, none⟩) (Kd.V_far (p := ⟨gb210, 2, none⟩) (Kd.V_far (p := ⟨gb210, 1, none⟩) (Kd.V_far (p := ⟨gb210, 0, none⟩) (Kd.V_mono HO_0.out (fun k_ hk => (⟨hk, hk.2⟩ : _ ∧ k_ ≠ gb210))) (fun _ hk => hk.2) (.int .u64 ((rd_T74 l0 x7_1).f0))) (fun _ hk => hk.2) (.int .u64 ((rd_T74 l0 x7_1).f1))) (fun _ hk => hk.2) (.int .u64 ((rd_T74 l0 x7_1).f2))) (fun _ hk => hk.2) (.int .u64 ((rd_T74 l0 x7_1).f3))) (fun _ hk => hk.2) (.int .i64 ((rd_T74 l0 x7_1).f4))) (fun _ hk => ⟨hk.1.1, hk.1.2⟩)))⟩; have n1_ : Aside0 (Kd.V k74 74 w8 w.heap.size (fun k_ => (P0_ k_ ∨ w.heap.size ≤ k_) ∧ k_ ≠ gb210) (.slice (some ad209) l0.length c0) l0) := ⟨(by rw [hw]; exact (by (with_reducible repeat (first | apply Kd.V_alloc | apply Kd.V_drewN | apply Kd.V_drew)); exact Kd.V_mono (Kd.V_far (p := ⟨gb210, 4, none⟩) (Kd.V_far (p := ⟨gb210, 3, none⟩) (Kd.V_far (p := ⟨gb210, 2, none⟩) (Kd.V_far (p := ⟨gb210, 1, none⟩) (Kd.V_far (p := ⟨gb210, 0, none⟩) (Kd.V_mono HO_5.out (fun k_ hk => (⟨hk, hk.2⟩ : _ ∧ k_ ≠ gb210))) (fun _ hk => hk.2) (.int .u64 ((rd_T74 l0 x7_1).f0))) (fun _ hk => hk.2) (.int .u64 ((rd_T74 l0 x7_1).f1))) (fun _ hk => hk.2) (.int .u64 ((rd_T74 l0 x7_1).f2))) (fun _ hk => hk.2) (.int .u64 ((rd_T74 l0 x7_1).f3))) (fun _ hk => hk.2) (.int .i64 ((rd_T74 l0 x7_1).f4))) (fun _ hk => ⟨hk.1.1, hk.1.2⟩)))⟩; have n2_ : Aside0 (w8.heap[gb210]? = some (.cells #[.int .u64 ((rd_T74 l0 x7_1).f0), .int .u64 ((rd_T74 l0 x7_1).f1), .int .u64 ((rd_T74 l0 x7_1).f2), .int .u64 ((rd_T74 l0 x7_1).f3), .int .i64 ((rd_T74 l0 x7_1).f4)] 74 (0, 0))) := ⟨(by rw [hw]; exact (by (with_reducible repeat (first | refine blk_drewN ?_ _ | refine blk_drew ?_ | refine blk_alloc ?_ _)); refine blk_put (cs := #[.int .u64 ((rd_T74 l0 x7_1).f0), .int .u64 ((rd_T74 l0 x7_1).f1), .int .u64 ((rd_T74 l0 x7_1).f2), .int .u64 ((rd_T74 l0 x7_1).f3), .int .i64 0]) ?_ 4 _ rfl; refine blk_put (cs := #[.int .u64 ((rd_T74 l0 x7_1).f0), .int .u64 ((rd_T74 l0 x7_1).f1), .int .u64 ((rd_T74 l0 x7_1).f2), .int .u64 0, .int .i64 0]) ?_ 3 _ rfl; refine blk_put (cs := #[.int .u64 ((rd_T74 l0 x7_1).f0), .int .u64 ((rd_T74 l0 x7_1).f1), .int .u64 0, .int .u64 0, .int .i64 0]) ?_ 2 _ rfl; refine blk_put (cs := #[.int .u64 ((rd_T74 l0 x7_1).f0), .int .u64 0, .int .u64 0, .int .u64 0, .int .i64 0]) ?_ 1 _ rfl; refine blk_put (cs := #[.int .u64 0, .int .u64 0, .int .u64 0, .int .u64 0, .int .i64 0]) ?_ 0 _ rfl; (with_reducible repeat (first | refine blk_drewN ?_ _ | refine blk_drew ?_ | refine blk_alloc ?_ _)); exact BK210.out))⟩; have n3_ : Aside0 (Below w.heap.size w w8) := ⟨(by rw [hw]; exact (belN HB))⟩; clear hw; clear HO_0; clear HO_5; clear BK210; clear HB; have HO_0 := n0_; have HO_5 := n1_; have BK210 := n2_; have HB := n3_; clear n0_ n1_ n2_ n3_; obtain ⟨hcz9_0, hcz9_1, hcz9_2, hcz9_3, hcz9_4, hfz9_0, hfz9_1, hfz9_2, hfz9_3, hfz9_4⟩ := cz5_ (w := w8) BK210.out))
              go_roundg k1
              case measure => have := HK1.out; omega
              case rel => exact ⟨(wrap64 (x7_1 + 1)), (by first | rfl | (simp; done) | (simp [*]; done)), H', ⟨by have := HK1.out; omega⟩, ⟨by (with_reducible repeat (first | apply Kd.V_alloc | apply Kd.V_drewN | apply Kd.V_drew)); exact Kd.V_mono HO_0.out (fun _ hk => hk.1)⟩, ⟨by (with_reducible repeat (first | apply Kd.V_alloc | apply Kd.V_drewN | apply Kd.V_drew)); exact Kd.V_mono HO_5.out (fun _ hk => hk.1)⟩, ⟨by repeat (first | (with_reducible first | exact HB.out | apply below_alloc | apply pw_below_drewN | apply below_drew1 | refine below_set ?_ GE210.out) | exact HB.out)⟩⟩
            · rw [if_neg c5] at H
              have c5b0 : (((rd_T74 l0 x7_1).f4) == 1) = false := beq_eq_false_iff_ne.mpr c5
              have c5b1 : (((rd_T74 l0 x7_1).f4) != 1) = true := bne_iff_ne.mpr c5
              have c10b0 := eq_true (of_decide_eq_true (by first | (with_reducible assumption) | assumption) : 0 ≤ x7_1)
              by_cases c11 : x7_1 ≤ (l0.length : Int)
              · rw [if_pos c11] at H
                have c11b0 := eq_true c11
                have c11b1 : decide (x7_1 ≤ (l0.length : Int)) = true := decide_eq_true c11
                clear c11
                obtain ⟨y211, hy211⟩ : ∃ y_ : List (S74), y_ = (l0.take (x7_1 : Int).toNat) := ⟨_, rfl⟩
                replace H : (if ([] : List (S74)).length + y211.length < 3518437208883 then ((some (([] : List (S74)) ++ y211 : List (S74))).bind fun y216 => (if 0 ≤ (wrap64 (x7_1 + 1)) then (if (wrap64 (x7_1 + 1)) ≤ (l0.length : Int) then ((some (l0.drop ((wrap64 (x7_1 + 1)) : Int).toNat : List (S74))).bind fun y219 => (if y216.length + y219.length < 3518437208883 then (some (y216 ++ y219)) else (none))) else (none)) else (none))) else (none)) = some r := by first | (rw [hy211]; with_reducible exact H) | (have H2_ := (Option.bind_some _ _).symm.trans H; rw [hy211]; with_reducible exact H2_) | (have H2_ := (Option.bind_some _ _).symm.trans H; with_reducible exact H2_) | with_reducible exact H | (rw [hy211]; exact H) | exact H
                have Ny211 := Aside0.mk hy211
                clear hy211
                by_cases c12 : ([] : List (S74)).length + y211.length < 3518437208883
                · rw [if_pos c12] at H
                  have LMc12 := Aside0.mk c12
                  clear c12
                  obtain ⟨y216, hy216⟩ : ∃ y_ : List (S74), y_ = (([] : List (S74)) ++ y211) := ⟨_, rfl⟩
                  replace H : (if 0 ≤ (wrap64 (x7_1 + 1)) then (if (wrap64 (x7_1 + 1)) ≤ (l0.length : Int) then ((some (l0.drop ((wrap64 (x7_1 + 1)) : Int).toNat : List (S74))).bind fun y219 => (if y216.length + y219.length < 3518437208883 then (some (y216 ++ y219)) else (none))) else (none)) else (none)) = some r := by first | (rw [hy216]; with_reducible exact H) | (have H2_ := (Option.bind_some _ _).symm.trans H; rw [hy216]; with_reducible exact H2_) | (have H2_ := (Option.bind_some _ _).symm.trans H; with_reducible exact H2_) | with_reducible exact H | (rw [hy216]; exact H) | exact H
                  have Ny216 := Aside0.mk hy216
                  clear hy216
                  obtain ⟨ji13, hji13⟩ : ∃ j_ : Int, (wrap64 (x7_1 + 1)) = j_ := ⟨_, rfl⟩
                  replace H : (if 0 ≤ (ji13) then (if (ji13) ≤ (l0.length : Int) then ((some (l0.drop ((ji13) : Int).toNat : List (S74))).bind fun y219 => (if y216.length + y219.length < 3518437208883 then (some (y216 ++ y219)) else (none))) else (none)) else (none)) = some r := by first | (rw [hji13] at H; exact H) | (simp only [hji13] at H ⊢; exact H)
                  have hji13w : (IntKind.i64.wrap (x7_1 + 1)) = ji13 := (i64_w _).trans hji13
                  by_cases c14 : 0 ≤ (ji13)
                  · rw [if_pos c14] at H
                    have c14b0 := eq_true c14
                    have c14b1 : decide (0 ≤ (ji13)) = true := decide_eq_true c14
                    clear c14
                    by_cases c15 : (ji13) ≤ (l0.length : Int)
                    · rw [if_pos c15] at H
                      have c15b0 := eq_true c15
                      have c15b1 : decide ((ji13) ≤ (l0.length : Int)) = true := decide_eq_true c15
                      clear c15
                      obtain ⟨y219, hy219⟩ : ∃ y_ : List (S74), y_ = (l0.drop ((ji13) : Int).toNat) := ⟨_, rfl⟩
                      replace H : (if y216.length + y219.length < 3518437208883 then (some (y216 ++ y219)) else (none)) = some r := by first | (rw [hy219]; with_reducible exact H) | (have H2_ := (Option.bind_some _ _).symm.trans H; rw [hy219]; with_reducible exact H2_) | (have H2_ := (Option.bind_some _ _).symm.trans H; with_reducible exact H2_) | with_reducible exact H | (rw [hy219]; exact H) | exact H
                      have Ny219 := Aside0.mk hy219
                      clear hy219
                      by_cases c16 : y216.length + y219.length < 3518437208883
                      · rw [if_pos c16] at H
                        have LMc16 := Aside0.mk c16
                        clear c16
                        obtain ⟨y224, hy224⟩ : ∃ y_ : List (S74), y_ = (y216 ++ y219) := ⟨_, rfl⟩
                        replace H : (some y224) = some r := by first | (rw [hy224]; with_reducible exact H) | (have H2_ := (Option.bind_some _ _).symm.trans H; rw [hy224]; with_reducible exact H2_) | (have H2_ := (Option.bind_some _ _).symm.trans H; with_reducible exact H2_) | with_reducible exact H | (rw [hy224]; exact H) | exact H
                        have Ny224 := Aside0.mk hy224
                        clear hy224
                        obtain rfl := Option.some.inj H
                        have p209 : 0 ≤ (x7_1 : Int) := of_decide_eq_true (by first | (with_reducible assumption) | assumption)
                        have q209 : x7_1 < (l0.length : Int) := of_decide_eq_true (by first | (with_reducible assumption) | assumption)
                        obtain ⟨ad209, e209, hx209_0, hx209_1, hx209_2, hx209_3, hx209_4⟩ := at_T74 (Kd.V_reads' HO_5.out).2.2 x7_1 p209 q209
                        cases e209
                        replace p209 := eq_true p209
                        replace q209 := eq_true q209
                        try go_wp2_with (first | ((with_reducible refine gate_dst (N := 4) rfl ?_); refine box_event ?hg (N := 4) ?hd (cs := #[.int .u64 0, .int .u64 0, .int .u64 0, .int .u64 0, .int .i64 0]) (t := 74) ?hr ?_; (case hd => rfl); (case hg => rfl); (case hr => first | (go_simp; done) | (go_simp; rfl)); intro gb210 hg w17 hbox hb; have n0_ := Aside0.mk (Kd.V_below (Kd.V_elderB (Kd.VN HO_0) gb210 (Nat.le_of_eq hg.symm)) hb); have n1_ := Aside0.mk (Kd.V_below (Kd.V_elderB (Kd.VN HO_5) gb210 (Nat.le_of_eq hg.symm)) hb); have n2_ := Aside0.mk (below_step (belN HB) hb); have n3_ := Aside0.mk (hbox); have n4_ := Aside0.mk ((by rw [hg]; exact (below_size (belN HB)) : w.heap.size ≤ gb210)); have n5_ := Aside0.mk ((by rw [hg]; exact (below_size (belN HB)) : w.heap.size ≤ gb210)); clear HO_0; clear HO_5; clear HB; have HO_0 := n0_; have HO_5 := n1_; have HB := n2_; have BK210 := n3_; have GW210 := n4_; have GE210 := n5_; clear n0_ n1_ n2_ n3_ n4_ n5_; clear hb hbox hg; obtain ⟨hcz18_0, hcz18_1, hcz18_2, hcz18_3, hcz18_4, hfz18_0, hfz18_1, hfz18_2, hfz18_3, hfz18_4⟩ := cz5_ (w := w17) BK210.out) | ((with_reducible refine gate_store (t := 74) (p := 4) rfl ?_); refine store_event (t := 74) (p := 4) (v := ?vo_w19) (w1 := (((((w17.setCell ⟨gb210, 0, none⟩ (.int .u64 ((rd_T74 l0 x7_1).f0))).setCell ⟨gb210, 1, none⟩ (.int .u64 ((rd_T74 l0 x7_1).f1))).setCell ⟨gb210, 2, none⟩ (.int .u64 ((rd_T74 l0 x7_1).f2))).setCell ⟨gb210, 3, none⟩ (.int .u64 ((rd_T74 l0 x7_1).f3))).setCell ⟨gb210, 4, none⟩ (.int .i64 ((rd_T74 l0 x7_1).f4)))) ?hg ?ho ?hn ?hr ?_; (case ho => rfl); (case hg => rfl); (case hn => rfl); (case hr => first | (go_simp; done) | (go_simp; rfl)); intro w19 hw; have n0_ : Aside0 (Kd.V k74 74 w19 w.heap.size (fun k_ => (P0_ k_ ∨ w.heap.size ≤ k_) ∧ k_ ≠ gb210) (.slice (some ad209) l0.length c0) l0) := ⟨(by rw [hw]; exact (by (with_reducible repeat (first | apply Kd.V_alloc | apply Kd.V_drewN | apply Kd.V_drew)); exact Kd.V_mono (Kd.V_far (p := ⟨gb210, 4, none⟩) (Kd.V_far (p := ⟨gb210, 3, none⟩) (Kd.V_far (p := ⟨gb210, 2, none⟩) (Kd.V_far (p := ⟨gb210, 1, none⟩) (Kd.V_far (p := ⟨gb210, 0, none⟩) (Kd.V_mono HO_0.out (fun k_ hk => (⟨hk, hk.2⟩ : _ ∧ k_ ≠ gb210))) (fun _ hk => hk.2) (.int .u64 ((rd_T74 l0 x7_1).f0))) (fun _ hk => hk.2) (.int .u64 ((rd_T74 l0 x7_1).f1))) (fun _ hk => hk.2) (.int .u64 ((rd_T74 l0 x7_1).f2))) (fun _ hk => hk.2) (.int .u64 ((rd_T74 l0 x7_1).f3))) (fun _ hk => hk.2) (.int .i64 ((rd_T74 l0 x7_1).f4))) (fun _ hk => ⟨hk.1.1, hk.1.2⟩)))⟩; have n1_ : Aside0 (Kd.V k74 74 w19 w.heap.size (fun k_ => (P0_ k_ ∨ w.heap.size ≤ k_) ∧ k_ ≠ gb210) (.slice (some ad209) l0.length c0) l0) := ⟨(by rw [hw]; exact (by (with_reducible repeat (first | apply Kd.V_alloc | apply Kd.V_drewN | apply Kd.V_drew)); exact Kd.V_mono (Kd.V_far (p := ⟨gb210, 4, none⟩) (Kd.V_far (p := ⟨gb210, 3, none⟩) (Kd.V_far (p := ⟨gb210, 2, none⟩) (Kd.V_far (p := ⟨gb210, 1, none⟩) (Kd.V_far (p := ⟨gb210, 0, none⟩) (Kd.V_mono HO_5.out (fun k_ hk => (⟨hk, hk.2⟩ : _ ∧ k_ ≠ gb210))) (fun _ hk => hk.2) (.int .u64 ((rd_T74 l0 x7_1).f0))) (fun _ hk => hk.2) (.int .u64 ((rd_T74 l0 x7_1).f1))) (fun _ hk => hk.2) (.int .u64 ((rd_T74 l0 x7_1).f2))) (fun _ hk => hk.2) (.int .u64 ((rd_T74 l0 x7_1).f3))) (fun _ hk => hk.2) (.int .i64 ((rd_T74 l0 x7_1).f4))) (fun _ hk => ⟨hk.1.1, hk.1.2⟩)))⟩; have n2_ : Aside0 (w19.heap[gb210]? = some (.cells #[.int .u64 ((rd_T74 l0 x7_1).f0), .int .u64 ((rd_T74 l0 x7_1).f1), .int .u64 ((rd_T74 l0 x7_1).f2), .int .u64 ((rd_T74 l0 x7_1).f3), .int .i64 ((rd_T74 l0 x7_1).f4)] 74 (0, 0))) := ⟨(by rw [hw]; exact (by (with_reducible repeat (first | refine blk_drewN ?_ _ | refine blk_drew ?_ | refine blk_alloc ?_ _)); refine blk_put (cs := #[.int .u64 ((rd_T74 l0 x7_1).f0), .int .u64 ((rd_T74 l0 x7_1).f1), .int .u64 ((rd_T74 l0 x7_1).f2), .int .u64 ((rd_T74 l0 x7_1).f3), .int .i64 0]) ?_ 4 _ rfl; refine blk_put (cs := #[.int .u64 ((rd_T74 l0 x7_1).f0), .int .u64 ((rd_T74 l0 x7_1).f1), .int .u64 ((rd_T74 l0 x7_1).f2), .int .u64 0, .int .i64 0]) ?_ 3 _ rfl; refine blk_put (cs := #[.int .u64 ((rd_T74 l0 x7_1).f0), .int .u64 ((rd_T74 l0 x7_1).f1), .int .u64 0, .int .u64 0, .int .i64 0]) ?_ 2 _ rfl; refine blk_put (cs := #[.int .u64 ((rd_T74 l0 x7_1).f0), .int .u64 0, .int .u64 0, .int .u64 0, .int .i64 0]) ?_ 1 _ rfl; refine blk_put (cs := #[.int .u64 0, .int .u64 0, .int .u64 0, .int .u64 0, .int .i64 0]) ?_ 0 _ rfl; (with_reducible repeat (first | refine blk_drewN ?_ _ | refine blk_drew ?_ | refine blk_alloc ?_ _)); exact BK210.out))⟩; have n3_ : Aside0 (Below w.heap.size w w19) := ⟨(by rw [hw]; exact (belN HB))⟩; clear hw; clear HO_0; clear HO_5; clear BK210; clear HB; have HO_0 := n0_; have HO_5 := n1_; have BK210 := n2_; have HB := n3_; clear n0_ n1_ n2_ n3_; obtain ⟨hcz20_0, hcz20_1, hcz20_2, hcz20_3, hcz20_4, hfz20_0, hfz20_1, hfz20_2, hfz20_3, hfz20_4⟩ := cz5_ (w := w19) BK210.out))
                        have n0_ := Aside0.mk (Kd.V_drew HO_0.out)
                        have n1_ := Aside0.mk (Kd.V_drew HO_5.out)
                        have n2_ := Aside0.mk (blk_drew BK210.out)
                        have n3_ := Aside0.mk (below_drew1 HB.out)
                        clear HO_0
                        clear HO_5
                        clear BK210
                        clear HB
                        have HO_0 := n0_
                        have HO_5 := n1_
                        have BK210 := n2_
                        have HB := n3_
                        clear n0_ n1_ n2_ n3_
                        have q22 : (x7_1 : Int) ≤ ((l0.length : Int) : Int) := of_decide_eq_true (by first | (with_reducible assumption) | assumption)
                        obtain ⟨i022, hi022, _, hsz22, _⟩ := info_parts info74
                        have hroom22 : l0.length ≤ c0 := (Kd.V_reads' HO_0.out).2.1
                        have hC22 : Kd.F k74 _ _ (some ad209) l0.length l0 := (Kd.V_at (base := w.heap.size) HO_0.out).2.2
                        have hcut22 := cut_to (P := Try.prog) 71 74 .i64 Try.underlying71 hi022 (some ad209) l0.length c0 x7_1 (of_decide_eq_true (by first | (with_reducible assumption) | assumption)) q22 hroom22
                        have hr22 := Kd.F_take (m := (x7_1 : Int).toNat) hC22 (by omega)
                        have hy22 : y211.length = (x7_1 : Int).toNat := (by rw [Ny211.out, List.length_take]; omega)
                        rw [← Ny211.out] at hr22
                        rw [← hy22] at hcut22
                        have HO215 := Aside0.mk (show Kd.V k74 74 _ w.heap.size _ (.slice (some ad209) y211.length c0) y211 from Kd.V_mk (by omega) hr22)
                        have HC215 := Aside0.mk (show y211.length ≤ c0 from by omega)
                        clear hr22 hC22 hroom22 hi022 hsz22
                        have KY22 := Aside0.mk hy22
                        clear hy22
                        replace q22 := eq_true q22
                        have q23 : ((ji13) : Int) ≤ ((l0.length : Int) : Int) := of_decide_eq_true (by first | (with_reducible assumption) | assumption)
                        obtain ⟨i023, hi023, _, hsz23, _⟩ := info_parts info74
                        have hroom23 : l0.length ≤ c0 := (Kd.V_reads' HO_0.out).2.1
                        have hC23 : Kd.F k74 _ _ (some ad209) l0.length l0 := (Kd.V_at (base := w.heap.size) HO_0.out).2.2
                        have q023 : (0 : Int) ≤ ((ji13) : Int) := of_decide_eq_true (by first | (with_reducible assumption) | assumption)
                        have hcut23 := cut_from (P := Try.prog) 71 74 .i64 Try.underlying71 hi023 5 hsz23 (some ad209) l0.length c0 (ji13) q023 q23
                        have hr23 := Kd.F_cut (m := ((ji13) : Int).toNat) (c := c0) hC23 (by omega) hroom23
                        obtain ⟨A23, hA23⟩ : ∃ A1, A1 = (if c0 = ((ji13) : Int).toNat then (some ad209) else ((some ad209) : Option Addr).map (·.add (((ji13) : Int).toNat * 5))) := ⟨_, rfl⟩
                        obtain ⟨c23, hc23⟩ : ∃ c1, c1 = c0 - ((ji13) : Int).toNat := ⟨_, rfl⟩
                        have hy23 : y219.length = l0.length - ((ji13) : Int).toNat := (by rw [Ny219.out, List.length_drop] <;> omega)
                        rw [show (l0).drop ((ji13) : Int).toNat = y219 from Ny219.out.symm] at hr23
                        replace hr23 : Kd.F k74 _ _ A23 y219.length y219 := (by rw [hA23]; exact hr23)
                        rw [← hy23, ← hA23, ← hc23] at hcut23
                        have HO223 := Aside0.mk (show Kd.V k74 74 _ w.heap.size _ (.slice A23 y219.length c23) y219 from Kd.V_mk (by rw [hy23, hc23]; exact Nat.sub_le_sub_right hroom23 _) hr23)
                        have HC223 := Aside0.mk (show y219.length ≤ c23 from by rw [hy23, hc23]; exact Nat.sub_le_sub_right hroom23 _)
                        clear hr23 hC23 hroom23 hi023 hsz23 hc23
                        have KY23 := Aside0.mk hy23
                        have KA23 := Aside0.mk hA23
                        clear hy23 hA23
                        replace q23 := eq_true q23
                        refine start_ (n := 10) (S := fun w' => True) (ds := []) #[false, false, false, false, false, false, false, false, false, false] (by kernel_rfl) rfl rfl trivial (fun hHeld => ?_); refine with_tabW damsonref13_forget.tab5 damsonref13_forget.bits5 (fun HT_ HW_ => ?_)
                        generalize w19.drew = w21 at HO_0 HO_5 BK210 HB HO215 HO223 hHeld ⊢
                        refine pureA_ 0 15 (bm 10 1) ?_
                        refine pureA_ 1 16 (bm 10 3) ?_
                        refine pureA_ 2 17 (bm 10 7) ?_
                        refine pureA_ 4 19 (bm 10 23) ?_
                        refine pureA_ 5 20 (bm 10 55) ?_
                        refine pureA_ 6 21 (bm 10 119) ?_
                        refine pureA_ 7 22 (bm 10 247) ?_
                        refine one_ (i := 3) (N := some 18) #[true, true, true, true, true, true, true, true, false, false] rfl rfl (one_of HT_.out (by kernel_rfl)) (by decide) (fun K hK => ?_)
                        refine Kd.R_append_rows_step k74 (w0 := w) w.heap.size rfl (.const (.slice none 0 0)) (.tmp 17) 71 74 (.agg #[(.int .u64 0), (.int .u64 0), (.int .u64 0), (.int .u64 0), (.int .i64 0)]) 40 rfl Try.underlying71 info74 rfl (by decide) (by omega) (.slice none 0 0) ([] : List (S74)) y211 _ _ _ (fun k_ => (w.heap.size ≤ k_) ∧ k_ ≠ gb210) (fun _ => False) rfl rfl ?aO ?aR (fun _ _ h => h) (fun _ h => h.elim) ?aF ?aB ?aS ?aL ?_
                        (case aR => exact Kd.CN (Kd.V_reads' HO215.out).2.2)
                        (case aB => exact (belN HB))
                        (case aF => exact (fun k_ hk => ⟨(Nat.le_trans (below_size (belN HB)) hk), Kd.freshB (g := gb210) (blkN BK210) k_ hk⟩))
                        (case aO => exact ((Kd.R_nil _ _ _ _ (fun k_ => (w.heap.size ≤ k_) ∧ k_ ≠ gb210))))
                        (case aS => exact (below_size (belN HB)))
                        (case aL => have := LMc12.out; omega)
                        intro v217 w24 ho hb hg hat
                        rw [← Ny216.out] at ho
                        have n0_ := Aside0.mk (Kd.V_afterv (Kd.V_apart_nil (Kd.VN HO_0)) hg hat)
                        have n1_ := Aside0.mk (Kd.V_afterv (Kd.V_apart_nil (Kd.VN HO_5)) hg hat)
                        have n2_ := Aside0.mk (blk_grown (g := gb210) (blkN BK210) hg (by simp [Value.ownBlock]))
                        have n3_ := Aside0.mk (Kd.V_afterv (Kd.V_apart_nil (Kd.VN HO215)) hg hat)
                        have n4_ := Aside0.mk (Kd.V_afterv (Kd.V_apart_nil (Kd.VN HO223)) hg hat)
                        have n5_ := Aside0.mk (hb)
                        have n6_ := Aside0.mk (ho)
                        clear HO_0
                        clear HO_5
                        clear BK210
                        clear HO215
                        clear HO223
                        clear HB
                        have HO_0 := n0_
                        have HO_5 := n1_
                        have BK210 := n2_
                        have HO215 := n3_
                        have HO223 := n4_
                        have HB := n5_
                        have HO218 := n6_
                        clear n0_ n1_ n2_ n3_ n4_ n5_ n6_
                        clear ho hb hg hat
                        refine hK.out _ _ trivial (fun hHeld => ?_)
                        clear hK K
                        refine norm_ (a' := ?_) ?_ ?_
                        rotate_left
                        · show Act.put _ (some 18) _ = _
                          simp only [Act.put, List.setIfInBounds_toArray, List.set_cons_zero, List.set_cons_succ, i64_w, i32_w]
                          rfl
                        refine one_ (i := 8) (N := some 23) #[true, true, true, true, true, true, true, true, true, false] rfl rfl (one_of HT_.out (by kernel_rfl)) (by decide) (fun K hK => ?_)
                        refine Kd.R_append_rows_step k74 (w0 := w) w.heap.size (by rfl) (.tmp 18) (.tmp 22) 71 74 (.agg #[(.int .u64 0), (.int .u64 0), (.int .u64 0), (.int .u64 0), (.int .i64 0)]) 40 rfl Try.underlying71 info74 rfl (by decide) (by omega) v217 y216 y219 _ _ _ (fun k_ => (w.heap.size ≤ k_) ∧ k_ ≠ gb210) (fun _ => False) rfl rfl ?aO ?aR (fun _ _ h => h) (fun _ h => h.elim) ?aF ?aB ?aS ?aL ?_
                        (case aR => exact Kd.CN (Kd.V_reads' HO223.out).2.2)
                        (case aB => exact (belN HB))
                        (case aF => exact (fun k_ hk => ⟨(Nat.le_trans (below_size (belN HB)) hk), Kd.freshB (g := gb210) (blkN BK210) k_ hk⟩))
                        (case aO => exact (Kd.RN HO218))
                        (case aS => exact (below_size (belN HB)))
                        (case aL => have := LMc16.out; omega)
                        intro v225 w25 ho hb hg hat
                        rw [← Ny224.out] at ho
                        have n0_ := Aside0.mk (Kd.V_afterv (ok := (fun k_ => (P0_ k_ ∨ w.heap.size ≤ k_) ∧ k_ ≠ gb210)) (Kd.VN HO_0) hg hat)
                        have n1_ := Aside0.mk (Kd.V_afterv (ok := (fun k_ => (P0_ k_ ∨ w.heap.size ≤ k_) ∧ k_ ≠ gb210)) (Kd.VN HO_5) hg hat)
                        have n2_ := Aside0.mk (blk_grown (g := gb210) (blkN BK210) hg (Kd.R_away HO218.out (fun _ hk => hk.2)))
                        have n3_ := Aside0.mk (Kd.V_afterv (ok := (fun k_ => (P0_ k_ ∨ w.heap.size ≤ k_) ∧ k_ ≠ gb210)) (Kd.VN HO215) hg hat)
                        have n4_ := Aside0.mk (Kd.V_afterv (ok := (fun k_ => (P0_ k_ ∨ w.heap.size ≤ k_) ∧ k_ ≠ gb210)) (Kd.VN HO223) hg hat)
                        have n5_ := Aside0.mk (hb)
                        have n6_ := Aside0.mk (ho)
                        clear HO_0
                        clear HO_5
                        clear BK210
                        clear HO215
                        clear HO223
                        clear HB
                        clear HO218
                        have HO_0 := n0_
                        have HO_5 := n1_
                        have BK210 := n2_
                        have HO215 := n3_
                        have HO223 := n4_
                        have HB := n5_
                        have HO226 := n6_
                        clear n0_ n1_ n2_ n3_ n4_ n5_ n6_
                        clear ho hb hg hat
                        refine hK.out _ _ trivial (fun hHeld => ?_)
                        clear hK K
                        refine norm_ (a' := ?_) ?_ ?_
                        rotate_left
                        · show Act.put _ (some 23) _ = _
                          simp only [Act.put, List.setIfInBounds_toArray, List.set_cons_zero, List.set_cons_succ, i64_w, i32_w]
                          rfl
                        refine pureA_ 9 2 (bm 10 1023) ?_
                        refine done_ (done_of HT_.out (by kernel_rfl)) ?_
                        try go_wp2
                        go_ret
                        exact ⟨_, by first | rfl | (simp [errW_none, errW_some] <;> rfl) | (simp only [← hji13]; first | rfl | (simp [errW_none, errW_some] <;> rfl)) | (simp [*, errW_none, errW_some] <;> rfl), Kd.V_mono (Kd.R_V (by (with_reducible repeat (first | apply Kd.R_alloc | apply Kd.R_drewN | apply Kd.R_drew)); exact Kd.R_mono HO226.out (fun _ hk => hk.1))) (fun k_ hk => by first | exact ⟨(.inr (hk.1)), hk.2⟩ | exact (.inr (hk))), by repeat (first | (with_reducible first | exact HB.out | apply below_alloc | apply pw_below_drewN | apply below_drew1 | refine below_set ?_ GE210.out) | exact HB.out)⟩
                      · rw [if_neg c16] at H
                        exact absurd H (by simp)
                    · rw [if_neg c15] at H
                      exact absurd H (by simp)
                  · rw [if_neg c14] at H
                    exact absurd H (by simp)
                · rw [if_neg c12] at H
                  exact absurd H (by simp)
              · rw [if_neg c11] at H
                exact absurd H (by simp)
          · rw [if_neg c4] at H
            exact absurd H (by simp)
        · rw [if_neg c3] at H
          exact absurd H (by simp)
      · rw [if_neg c2] at H
        have c2b0 : decide (x7_1 < (l0.length : Int)) = false := decide_eq_false c2
        clear c2
        obtain rfl := Option.some.inj H
        go_wp2
        go_ret
        exact ⟨_, by first | rfl | (simp [errW_none, errW_some] <;> rfl) | (simp [*, errW_none, errW_some] <;> rfl), by (with_reducible repeat (first | apply Kd.V_alloc | apply Kd.V_drewN | apply Kd.V_drew)); exact HO_0.out, by repeat (first | (with_reducible first | exact HB.out | apply below_alloc | apply pw_below_drewN | apply below_drew1) | exact HB.out)⟩

/-! ### damsonref13_with: function 127 -/
mutual
def damsonref13_with.l0 : Nat → List (S74) → List (S74) → List (S74) → Int → Int → Int → Int → Int → Int → Int → Option ((List (S74)))
  | 0, _, _, _, _, _, _, _, _, _, _ => none
  | k + 1, x0, x5, x10, x11, x12, x228000, x228001, x228002, x228003, x228004 => if x12 < x11 then (if 0 ≤ x12 then (if x12 < (x10.length : Int) then (if ((rd_T74 x10 x12).f0) < x228000 then (if x5.length < 3518437208883 then (damsonref13_with.l0 k x0 (x5 ++ [(⟨(rd_T74 x10 x12).f0, (rd_T74 x10 x12).f1, (rd_T74 x10 x12).f2, (rd_T74 x10 x12).f3, (rd_T74 x10 x12).f4⟩ : S74)]) x10 x11 (wrap64 (x12 + 1)) x228000 x228001 x228002 x228003 x228004) else (none)) else (damsonref13_with.l0 k x0 x5 x10 x11 (wrap64 (x12 + 1)) x228000 x228001 x228002 x228003 x228004)) else (none)) else (none)) else (if x5.length < 3518437208883 then (damsonref13_with.l1 k (x5 ++ [(⟨x228000, x228001, x228002, x228003, x228004⟩ : S74)]) x0 (x0.length : Int) 0 x228000 x228001 x228002 x228003 x228004) else (none))
def damsonref13_with.l1 : Nat → List (S74) → List (S74) → Int → Int → Int → Int → Int → Int → Int → Option ((List (S74)))
  | 0, _, _, _, _, _, _, _, _, _ => none
  | k + 1, x5, x30, x31, x32, x228000, x228001, x228002, x228003, x228004 => if x32 < x31 then (if 0 ≤ x32 then (if x32 < (x30.length : Int) then (if ((rd_T74 x30 x32).f0) > x228000 then (if x5.length < 3518437208883 then (damsonref13_with.l1 k (x5 ++ [(⟨(rd_T74 x30 x32).f0, (rd_T74 x30 x32).f1, (rd_T74 x30 x32).f2, (rd_T74 x30 x32).f3, (rd_T74 x30 x32).f4⟩ : S74)]) x30 x31 (wrap64 (x32 + 1)) x228000 x228001 x228002 x228003 x228004) else (none)) else (damsonref13_with.l1 k x5 x30 x31 (wrap64 (x32 + 1)) x228000 x228001 x228002 x228003 x228004)) else (none)) else (none)) else (some x5)
end
def damsonref13_with.f (k : Nat) (l0 : List (S74)) (a1_0 : Int) (a1_1 : Int) (a1_2 : Int) (a1_3 : Int) (a1_4 : Int) : Option ((List (S74))) := damsonref13_with.l0 k l0 ([] : List (S74)) l0 (l0.length : Int) 0 a1_0 a1_1 a1_2 a1_3 a1_4
theorem damsonref13_with.mono_l : ∀ k, (∀ y0 y1 y2 y3 y4 y5 y6 y7 y8 y9, LeO (damsonref13_with.l0 k y0 y1 y2 y3 y4 y5 y6 y7 y8 y9) (damsonref13_with.l0 (k + 1) y0 y1 y2 y3 y4 y5 y6 y7 y8 y9)) ∧ (∀ y0 y1 y2 y3 y4 y5 y6 y7 y8, LeO (damsonref13_with.l1 k y0 y1 y2 y3 y4 y5 y6 y7 y8) (damsonref13_with.l1 (k + 1) y0 y1 y2 y3 y4 y5 y6 y7 y8))
  | 0 => ⟨fun _ _ _ _ _ _ _ _ _ _ r h => by simp [damsonref13_with.l0] at h, fun _ _ _ _ _ _ _ _ _ r h => by simp [damsonref13_with.l1] at h⟩
  | k + 1 => by
    obtain ⟨ih0, ih1⟩ := damsonref13_with.mono_l k
    refine ⟨?_, ?_⟩
    · intro y0 y1 y2 y3 y4 y5 y6 y7 y8 y9
      unfold damsonref13_with.l0
      repeat' first
      | (with_reducible exact ih0 _ _ _ _ _ _ _ _ _ _)
      | (with_reducible exact ih1 _ _ _ _ _ _ _ _ _)
      | (with_reducible exact LeO.refl _)
      | (with_reducible exact LeO.none _)
      | (with_reducible refine LeO.ite ?_ ?_)
      | (with_reducible refine LeO.bind ?_ (fun _ => ?_))
      | exact ih0 _ _ _ _ _ _ _ _ _ _
      | exact ih1 _ _ _ _ _ _ _ _ _
      | exact LeO.none _
      | refine LeO.ite ?_ ?_
      | refine LeO.bind ?_ (fun _ => ?_)
    · intro y0 y1 y2 y3 y4 y5 y6 y7 y8
      unfold damsonref13_with.l1
      repeat' first
      | (with_reducible exact ih0 _ _ _ _ _ _ _ _ _ _)
      | (with_reducible exact ih1 _ _ _ _ _ _ _ _ _)
      | (with_reducible exact LeO.refl _)
      | (with_reducible exact LeO.none _)
      | (with_reducible refine LeO.ite ?_ ?_)
      | (with_reducible refine LeO.bind ?_ (fun _ => ?_))
      | exact ih0 _ _ _ _ _ _ _ _ _ _
      | exact ih1 _ _ _ _ _ _ _ _ _
      | exact LeO.none _
      | refine LeO.ite ?_ ?_
      | refine LeO.bind ?_ (fun _ => ?_)
theorem damsonref13_with.mono : ∀ a0 a1 a2 a3 a4 a5 k, LeO (damsonref13_with.f k a0 a1 a2 a3 a4 a5) (damsonref13_with.f (k + 1) a0 a1 a2 a3 a4 a5) := by
  intro a0 a1 a2 a3 a4 a5 k
  obtain ⟨ih0, ih1⟩ := damsonref13_with.mono_l k
  unfold damsonref13_with.f
  repeat' first
      | (with_reducible exact ih0 _ _ _ _ _ _ _ _ _ _)
      | (with_reducible exact ih1 _ _ _ _ _ _ _ _ _)
      | (with_reducible exact LeO.refl _)
      | (with_reducible exact LeO.none _)
      | (with_reducible refine LeO.ite ?_ ?_)
      | (with_reducible refine LeO.bind ?_ (fun _ => ?_))
      | exact ih0 _ _ _ _ _ _ _ _ _ _
      | exact ih1 _ _ _ _ _ _ _ _ _
      | exact LeO.none _
      | refine LeO.ite ?_ ?_
      | refine LeO.bind ?_ (fun _ => ?_)
set_option maxHeartbeats 8000000 in
set_option maxRecDepth 100000 in
theorem damsonref13_with.calls (k : Nat) (A0 : Option Addr) (c0 : Nat) (l0 : List (S74)) (a1_0 : Int) (a1_1 : Int) (a1_2 : Int) (a1_3 : Int) (a1_4 : Int) (r : List (S74)) (w : World) (hr0 : Kd.C k74 w A0 l0.length l0) (hc0 : l0.length ≤ c0) (h : damsonref13_with.f k l0 a1_0 a1_1 a1_2 a1_3 a1_4 = some r) :
    Calls Try.prog 127 #[.slice A0 l0.length c0, .agg #[.int .u64 a1_0, .int .u64 a1_1, .int .u64 a1_2, .int .u64 a1_3, .int .i64 a1_4]] w fun e w' => ∃ v0_ : Value, e = .returned (v0_) ∧ Kd.R k74 74 w' w.heap.size (fun _ => True) v0_ r ∧ Below w.heap.size w w' := by
  have hu74 := Try.underlying74
  have HR0 := Aside0.mk hr0
  have HC0 := Aside0.mk hc0
  clear hr0 hc0
  have HB := Aside0.mk (Below.refl w.heap.size w)
  have H : (damsonref13_with.l0 k l0 ([] : List (S74)) l0 (l0.length : Int) 0 a1_0 a1_1 a1_2 a1_3 a1_4) = some r := h
  clear h
  have H' := Aside0.mk H
  clear H
  go_enter Try.func127, Try.ntmps127
  go_wp2_with (first | ((with_reducible refine gate_dst (N := 3) rfl ?_); refine box_event ?hg (N := 3) ?hd (cs := #[.int .u64 a1_0, .int .u64 a1_1, .int .u64 a1_2, .int .u64 a1_3, .int .i64 a1_4]) (t := 74) ?hr ?_; (case hd => rfl); (case hg => rfl); (case hr => first | (go_simp; done) | (go_simp; rfl)); intro gb227 hg w3 hbox hb; have n0_ := Aside0.mk (below_step (belN HB) hb); have n1_ := Aside0.mk (hbox); have n2_ := Aside0.mk ((by rw [hg]; exact (below_size (belN HB)) : w.heap.size ≤ gb227)); have n3_ := Aside0.mk ((by rw [hg]; exact (below_size (belN HB)) : w.heap.size ≤ gb227)); clear HB; have HB := n0_; have BK227 := n1_; have GW227 := n2_; have GE227 := n3_; clear n0_ n1_ n2_ n3_; clear hb hbox hg))
  go_loopg [5, 12] k (fun kq v5 v12 w' => ∃ (x5_1 : List (S74)) (x12_1 : Int), v12 = .int .i64 x12_1 ∧ Aside0 (damsonref13_with.l0 kq l0 x5_1 l0 (l0.length : Int) x12_1 a1_0 a1_1 a1_2 a1_3 a1_4 = some r) ∧ Aside0 (kq ≤ k) ∧ Aside0 (Kd.R k74 74 w' w.heap.size (fun k_ => k_ ≠ gb227) v5 x5_1) ∧ Aside0 (w'.heap[gb227]? = some (.cells #[.int .u64 a1_0, .int .u64 a1_1, .int .u64 a1_2, .int .u64 a1_3, .int .i64 a1_4] 74 (0, 0))) ∧ Aside0 (Below w.heap.size w w'))
  case atStart => exact ⟨(([] : List (S74))), (0), (by first | rfl | (simp; done) | (simp [*]; done)), H', ⟨Nat.le_refl _⟩, ⟨by first | exact Kd.R_nil _ _ _ _ _ | exact Kd.N_nil _ _ _ _ _ | exact Kd.V_nil _ _ _ _ _ | exact Kd.Q_nil _ _ _ _ _ | exact Kd.S_nil _ _ _ _ _⟩, ⟨by (with_reducible repeat (first | refine blk_drewN ?_ _ | refine blk_drew ?_ | refine blk_alloc ?_ _)); exact BK227.out⟩, ⟨by repeat (first | (with_reducible first | exact HB.out | apply below_alloc | apply pw_below_drewN | apply below_drew1 | refine below_set ?_ GE227.out) | exact HB.out)⟩⟩
  case round =>
    clear H'
    try clear c1
    try clear p2
    obtain ⟨x5_1, x12_1, rfl, HA, HK1, HO_5, BK227, HB⟩ := hrel
    cases gk with
    | zero => exact absurd HA.out (by simp [damsonref13_with.l0])
    | succ k1 =>
      have H := HA.out
      clear HA
      simp only [damsonref13_with.l0] at H
      by_cases c4 : x12_1 < (l0.length : Int)
      · rw [if_pos c4] at H
        have c4b0 : decide (x12_1 < (l0.length : Int)) = true := decide_eq_true c4
        clear c4
        by_cases c5 : 0 ≤ x12_1
        · rw [if_pos c5] at H
          have c5b0 : decide (0 ≤ x12_1) = true := decide_eq_true c5
          clear c5
          by_cases c6 : x12_1 < (l0.length : Int)
          · rw [if_pos c6] at H
            have c6b0 : decide (x12_1 < (l0.length : Int)) = true := decide_eq_true c6
            clear c6
            by_cases c7 : ((rd_T74 l0 x12_1).f0) < a1_0
            · rw [if_pos c7] at H
              have c7b0 : decide (((rd_T74 l0 x12_1).f0) < a1_0) = true := decide_eq_true c7
              clear c7
              by_cases c8 : x5_1.length < 3518437208883
              · rw [if_pos c8] at H
                have LMc8 := Aside0.mk c8
                clear c8
                obtain ⟨y230, hy230⟩ : ∃ y_ : List (S74), y_ = (x5_1 ++ [(⟨(rd_T74 l0 x12_1).f0, (rd_T74 l0 x12_1).f1, (rd_T74 l0 x12_1).f2, (rd_T74 l0 x12_1).f3, (rd_T74 l0 x12_1).f4⟩ : S74)]) := ⟨_, rfl⟩
                replace H : (damsonref13_with.l0 k1 l0 y230 l0 (l0.length : Int) (wrap64 (x12_1 + 1)) a1_0 a1_1 a1_2 a1_3 a1_4) = some r := by first | (rw [hy230]; with_reducible exact H) | (have H2_ := (Option.bind_some _ _).symm.trans H; rw [hy230]; with_reducible exact H2_) | (have H2_ := (Option.bind_some _ _).symm.trans H; with_reducible exact H2_) | with_reducible exact H | (rw [hy230]; exact H) | exact H
                have Ny230 := Aside0.mk hy230
                clear hy230
                have H' := Aside0.mk H
                clear H
                have p228 : 0 ≤ (x12_1 : Int) := of_decide_eq_true (by first | (with_reducible assumption) | assumption)
                have q228 : x12_1 < (l0.length : Int) := of_decide_eq_true (by first | (with_reducible assumption) | assumption)
                obtain ⟨ad228, e228, hx228_0, hx228_1, hx228_2, hx228_3, hx228_4⟩ := at_T74 HR0.out x12_1 p228 q228
                cases e228
                replace hx228_0 := (HB.out.cell (World.block_lt_of_cell? w _ hx228_0)).trans hx228_0
                replace hx228_1 := (HB.out.cell (World.block_lt_of_cell? w _ hx228_1)).trans hx228_1
                replace hx228_2 := (HB.out.cell (World.block_lt_of_cell? w _ hx228_2)).trans hx228_2
                replace hx228_3 := (HB.out.cell (World.block_lt_of_cell? w _ hx228_3)).trans hx228_3
                replace hx228_4 := (HB.out.cell (World.block_lt_of_cell? w _ hx228_4)).trans hx228_4
                replace p228 := eq_true p228
                replace q228 := eq_true q228
                go_wp2_with (first | ((with_reducible refine gate_dst (N := 7) rfl ?_); refine box_event ?hg (N := 7) ?hd (cs := #[.int .u64 0, .int .u64 0, .int .u64 0, .int .u64 0, .int .i64 0]) (t := 74) ?hr ?_; (case hd => rfl); (case hg => rfl); (case hr => first | (go_simp; done) | (go_simp; rfl)); intro gb229 hg w9 hbox hb; have n0_ := Aside0.mk (Kd.R_below (Kd.R_elderB (Kd.RN HO_5) gb229 (Nat.le_of_eq hg.symm)) hb); have n1_ := Aside0.mk (blk_below (g := gb227) (blkN BK227) hb); have n2_ := Aside0.mk (below_step (belN HB) hb); have n3_ := Aside0.mk (hbox); have n4_ := Aside0.mk ((by rw [hg]; exact (below_size (belN HB)) : w.heap.size ≤ gb229)); have n5_ := Aside0.mk ((by rw [hg]; exact (below_size (belN HB)) : w.heap.size ≤ gb229)); have n6_ := Aside0.mk ((by rw [hg]; exact Nat.ne_of_lt (blk_lt (g := gb227) (blkN BK227)) : gb227 ≠ gb229)); have n7_ := Aside0.mk ((by rw [hg]; exact Nat.ne_of_gt (blk_lt (g := gb227) (blkN BK227)) : gb229 ≠ gb227)); clear HO_5; clear BK227; clear HB; have HO_5 := n0_; have BK227 := n1_; have HB := n2_; have BK229 := n3_; have GW229 := n4_; have GE229 := n5_; have NB227_229 := n6_; have NB229_227 := n7_; clear n0_ n1_ n2_ n3_ n4_ n5_ n6_ n7_; clear hb hbox hg; have hnb10 := NB229_227.out; have hnc10 := NB227_229.out; obtain ⟨hcz11_0, hcz11_1, hcz11_2, hcz11_3, hcz11_4, hfz11_0, hfz11_1, hfz11_2, hfz11_3, hfz11_4⟩ := cz5_ (w := w9) BK229.out) | ((with_reducible refine gate_store (t := 74) (p := 7) rfl ?_); refine store_event (t := 74) (p := 7) (v := ?vo_w12) (w1 := (((((w9.setCell ⟨gb229, 0, none⟩ (.int .u64 ((rd_T74 l0 x12_1).f0))).setCell ⟨gb229, 1, none⟩ (.int .u64 ((rd_T74 l0 x12_1).f1))).setCell ⟨gb229, 2, none⟩ (.int .u64 ((rd_T74 l0 x12_1).f2))).setCell ⟨gb229, 3, none⟩ (.int .u64 ((rd_T74 l0 x12_1).f3))).setCell ⟨gb229, 4, none⟩ (.int .i64 ((rd_T74 l0 x12_1).f4)))) ?hg ?ho ?hn ?hr ?_; (case ho => rfl); (case hg => rfl); (case hn => rfl); (case hr => first | (go_simp; done) | (go_simp; rfl)); intro w12 hw; have n0_ : Aside0 (Kd.R k74 74 w12 w.heap.size (fun k_ => k_ ≠ gb227 ∧ k_ ≠ gb229) u5 x5_1) := ⟨(by rw [hw]; exact (by (with_reducible repeat (first | apply Kd.R_alloc | apply Kd.R_drewN | apply Kd.R_drew)); exact Kd.R_mono (Kd.R_far (p := ⟨gb229, 4, none⟩) (Kd.R_far (p := ⟨gb229, 3, none⟩) (Kd.R_far (p := ⟨gb229, 2, none⟩) (Kd.R_far (p := ⟨gb229, 1, none⟩) (Kd.R_far (p := ⟨gb229, 0, none⟩) (Kd.R_mono HO_5.out (fun k_ hk => (⟨hk, hk.2⟩ : _ ∧ k_ ≠ gb229))) (fun _ hk => hk.2) (.int .u64 ((rd_T74 l0 x12_1).f0))) (fun _ hk => hk.2) (.int .u64 ((rd_T74 l0 x12_1).f1))) (fun _ hk => hk.2) (.int .u64 ((rd_T74 l0 x12_1).f2))) (fun _ hk => hk.2) (.int .u64 ((rd_T74 l0 x12_1).f3))) (fun _ hk => hk.2) (.int .i64 ((rd_T74 l0 x12_1).f4))) (fun _ hk => ⟨hk.1.1, hk.1.2⟩)))⟩; have n1_ : Aside0 (w12.heap[gb227]? = some (.cells #[.int .u64 a1_0, .int .u64 a1_1, .int .u64 a1_2, .int .u64 a1_3, .int .i64 a1_4] 74 (0, 0))) := ⟨(by rw [hw]; exact (blkF BK227))⟩; have n2_ : Aside0 (w12.heap[gb229]? = some (.cells #[.int .u64 ((rd_T74 l0 x12_1).f0), .int .u64 ((rd_T74 l0 x12_1).f1), .int .u64 ((rd_T74 l0 x12_1).f2), .int .u64 ((rd_T74 l0 x12_1).f3), .int .i64 ((rd_T74 l0 x12_1).f4)] 74 (0, 0))) := ⟨(by rw [hw]; exact (by (with_reducible repeat (first | refine blk_drewN ?_ _ | refine blk_drew ?_ | refine blk_alloc ?_ _)); refine blk_put (cs := #[.int .u64 ((rd_T74 l0 x12_1).f0), .int .u64 ((rd_T74 l0 x12_1).f1), .int .u64 ((rd_T74 l0 x12_1).f2), .int .u64 ((rd_T74 l0 x12_1).f3), .int .i64 0]) ?_ 4 _ rfl; refine blk_put (cs := #[.int .u64 ((rd_T74 l0 x12_1).f0), .int .u64 ((rd_T74 l0 x12_1).f1), .int .u64 ((rd_T74 l0 x12_1).f2), .int .u64 0, .int .i64 0]) ?_ 3 _ rfl; refine blk_put (cs := #[.int .u64 ((rd_T74 l0 x12_1).f0), .int .u64 ((rd_T74 l0 x12_1).f1), .int .u64 0, .int .u64 0, .int .i64 0]) ?_ 2 _ rfl; refine blk_put (cs := #[.int .u64 ((rd_T74 l0 x12_1).f0), .int .u64 0, .int .u64 0, .int .u64 0, .int .i64 0]) ?_ 1 _ rfl; refine blk_put (cs := #[.int .u64 0, .int .u64 0, .int .u64 0, .int .u64 0, .int .i64 0]) ?_ 0 _ rfl; (with_reducible repeat (first | refine blk_drewN ?_ _ | refine blk_drew ?_ | refine blk_alloc ?_ _)); exact BK229.out))⟩; have n3_ : Aside0 (Below w.heap.size w w12) := ⟨(by rw [hw]; exact (belN HB))⟩; clear hw; clear HO_5; clear BK227; clear BK229; clear HB; have HO_5 := n0_; have BK227 := n1_; have BK229 := n2_; have HB := n3_; clear n0_ n1_ n2_ n3_; obtain ⟨hcz13_0, hcz13_1, hcz13_2, hcz13_3, hcz13_4, hfz13_0, hfz13_1, hfz13_2, hfz13_3, hfz13_4⟩ := cz5_ (w := w12) BK229.out; obtain ⟨hcz14_0, hcz14_1, hcz14_2, hcz14_3, hcz14_4, hfz14_0, hfz14_1, hfz14_2, hfz14_3, hfz14_4⟩ := cz5_ (w := w12) BK227.out) | ((with_reducible refine gate_builtin (b := .append) (xs := #[.tmp 21, .tmp 23]) rfl ?_); at_builtin; refine Kd.R_append k74 (w0 := w) w.heap.size rfl (.tmp 21) (.tmp 23) 71 74 (.agg #[(.int .u64 0), (.int .u64 0), (.int .u64 0), (.int .u64 0), (.int .i64 0)]) 40 rfl Try.underlying71 info74 rfl (by decide) (by omega) u5 x5_1 (⟨(rd_T74 l0 x12_1).f0, (rd_T74 l0 x12_1).f1, (rd_T74 l0 x12_1).f2, (rd_T74 l0 x12_1).f3, (rd_T74 l0 x12_1).f4⟩ : S74) [.int .u64 ((rd_T74 l0 x12_1).f0), .int .u64 ((rd_T74 l0 x12_1).f1), .int .u64 ((rd_T74 l0 x12_1).f2), .int .u64 ((rd_T74 l0 x12_1).f3), .int .i64 ((rd_T74 l0 x12_1).f4)] (fun k_ => k_ ≠ gb227 ∧ k_ ≠ gb229) (fun _ => False) rfl rfl ?aP (fun _ hk => hk.elim) ?aF ?aO ?aB ?aS ?aL ?_; (case aP => exact k74_mkM _ _ _ (⟨(rd_T74 l0 x12_1).f0, (rd_T74 l0 x12_1).f1, (rd_T74 l0 x12_1).f2, (rd_T74 l0 x12_1).f3, (rd_T74 l0 x12_1).f4⟩ : S74)); (case aB => exact (belN HB)); (case aF => exact (fun k_ hk => ⟨Kd.freshB (g := gb227) (blkN BK227) k_ hk, Kd.freshB (g := gb229) (blkN BK229) k_ hk⟩)); (case aO => exact (Kd.RN HO_5)); (case aS => exact (below_size (belN HB))); (case aL => have := LMc8.out; omega); intro v231 w15 ho hb hg hat; rw [← Ny230.out] at ho; have n0_ := Aside0.mk (blk_grown (g := gb227) (blkN BK227) hg (Kd.R_away HO_5.out (fun _ hk => hk.1))); have n1_ := Aside0.mk (blk_grown (g := gb229) (blkN BK229) hg (Kd.R_away HO_5.out (fun _ hk => hk.2))); have n2_ := Aside0.mk (hb); have n3_ := Aside0.mk (ho); clear BK227; clear BK229; clear HB; clear HO_5; have BK227 := n0_; have BK229 := n1_; have HB := n2_; have HO232 := n3_; clear n0_ n1_ n2_ n3_; clear ho hb hg hat))
                go_roundg k1
                case measure => have := HK1.out; omega
                case rel => exact ⟨(y230), (wrap64 (x12_1 + 1)), (by first | rfl | (simp; done) | (simp [*]; done)), H', ⟨by have := HK1.out; omega⟩, ⟨by (with_reducible repeat (first | apply Kd.R_alloc | apply Kd.R_drewN | apply Kd.R_drew)); exact Kd.R_mono HO232.out (fun _ hk => hk.1)⟩, ⟨by (with_reducible repeat (first | refine blk_drewN ?_ _ | refine blk_drew ?_ | refine blk_alloc ?_ _)); exact BK227.out⟩, ⟨by repeat (first | (with_reducible first | exact HB.out | apply below_alloc | apply pw_below_drewN | apply below_drew1 | refine below_set ?_ GE227.out | refine below_set ?_ GE229.out) | exact HB.out)⟩⟩
              · rw [if_neg c8] at H
                exact absurd H (by simp)
            · rw [if_neg c7] at H
              have c7b0 : decide (((rd_T74 l0 x12_1).f0) < a1_0) = false := decide_eq_false c7
              clear c7
              have H' := Aside0.mk H
              clear H
              have p228 : 0 ≤ (x12_1 : Int) := of_decide_eq_true (by first | (with_reducible assumption) | assumption)
              have q228 : x12_1 < (l0.length : Int) := of_decide_eq_true (by first | (with_reducible assumption) | assumption)
              obtain ⟨ad228, e228, hx228_0, hx228_1, hx228_2, hx228_3, hx228_4⟩ := at_T74 HR0.out x12_1 p228 q228
              cases e228
              replace hx228_0 := (HB.out.cell (World.block_lt_of_cell? w _ hx228_0)).trans hx228_0
              replace hx228_1 := (HB.out.cell (World.block_lt_of_cell? w _ hx228_1)).trans hx228_1
              replace hx228_2 := (HB.out.cell (World.block_lt_of_cell? w _ hx228_2)).trans hx228_2
              replace hx228_3 := (HB.out.cell (World.block_lt_of_cell? w _ hx228_3)).trans hx228_3
              replace hx228_4 := (HB.out.cell (World.block_lt_of_cell? w _ hx228_4)).trans hx228_4
              replace p228 := eq_true p228
              replace q228 := eq_true q228
              go_wp2_with (first | ((with_reducible refine gate_dst (N := 7) rfl ?_); refine box_event ?hg (N := 7) ?hd (cs := #[.int .u64 0, .int .u64 0, .int .u64 0, .int .u64 0, .int .i64 0]) (t := 74) ?hr ?_; (case hd => rfl); (case hg => rfl); (case hr => first | (go_simp; done) | (go_simp; rfl)); intro gb229 hg w16 hbox hb; have n0_ := Aside0.mk (Kd.R_below (Kd.R_elderB (Kd.RN HO_5) gb229 (Nat.le_of_eq hg.symm)) hb); have n1_ := Aside0.mk (blk_below (g := gb227) (blkN BK227) hb); have n2_ := Aside0.mk (below_step (belN HB) hb); have n3_ := Aside0.mk (hbox); have n4_ := Aside0.mk ((by rw [hg]; exact (below_size (belN HB)) : w.heap.size ≤ gb229)); have n5_ := Aside0.mk ((by rw [hg]; exact (below_size (belN HB)) : w.heap.size ≤ gb229)); have n6_ := Aside0.mk ((by rw [hg]; exact Nat.ne_of_lt (blk_lt (g := gb227) (blkN BK227)) : gb227 ≠ gb229)); have n7_ := Aside0.mk ((by rw [hg]; exact Nat.ne_of_gt (blk_lt (g := gb227) (blkN BK227)) : gb229 ≠ gb227)); clear HO_5; clear BK227; clear HB; have HO_5 := n0_; have BK227 := n1_; have HB := n2_; have BK229 := n3_; have GW229 := n4_; have GE229 := n5_; have NB227_229 := n6_; have NB229_227 := n7_; clear n0_ n1_ n2_ n3_ n4_ n5_ n6_ n7_; clear hb hbox hg; have hnb17 := NB229_227.out; have hnc17 := NB227_229.out; obtain ⟨hcz18_0, hcz18_1, hcz18_2, hcz18_3, hcz18_4, hfz18_0, hfz18_1, hfz18_2, hfz18_3, hfz18_4⟩ := cz5_ (w := w16) BK229.out) | ((with_reducible refine gate_store (t := 74) (p := 7) rfl ?_); refine store_event (t := 74) (p := 7) (v := ?vo_w19) (w1 := (((((w16.setCell ⟨gb229, 0, none⟩ (.int .u64 ((rd_T74 l0 x12_1).f0))).setCell ⟨gb229, 1, none⟩ (.int .u64 ((rd_T74 l0 x12_1).f1))).setCell ⟨gb229, 2, none⟩ (.int .u64 ((rd_T74 l0 x12_1).f2))).setCell ⟨gb229, 3, none⟩ (.int .u64 ((rd_T74 l0 x12_1).f3))).setCell ⟨gb229, 4, none⟩ (.int .i64 ((rd_T74 l0 x12_1).f4)))) ?hg ?ho ?hn ?hr ?_; (case ho => rfl); (case hg => rfl); (case hn => rfl); (case hr => first | (go_simp; done) | (go_simp; rfl)); intro w19 hw; have n0_ : Aside0 (Kd.R k74 74 w19 w.heap.size (fun k_ => k_ ≠ gb227 ∧ k_ ≠ gb229) u5 x5_1) := ⟨(by rw [hw]; exact (by (with_reducible repeat (first | apply Kd.R_alloc | apply Kd.R_drewN | apply Kd.R_drew)); exact Kd.R_mono (Kd.R_far (p := ⟨gb229, 4, none⟩) (Kd.R_far (p := ⟨gb229, 3, none⟩) (Kd.R_far (p := ⟨gb229, 2, none⟩) (Kd.R_far (p := ⟨gb229, 1, none⟩) (Kd.R_far (p := ⟨gb229, 0, none⟩) (Kd.R_mono HO_5.out (fun k_ hk => (⟨hk, hk.2⟩ : _ ∧ k_ ≠ gb229))) (fun _ hk => hk.2) (.int .u64 ((rd_T74 l0 x12_1).f0))) (fun _ hk => hk.2) (.int .u64 ((rd_T74 l0 x12_1).f1))) (fun _ hk => hk.2) (.int .u64 ((rd_T74 l0 x12_1).f2))) (fun _ hk => hk.2) (.int .u64 ((rd_T74 l0 x12_1).f3))) (fun _ hk => hk.2) (.int .i64 ((rd_T74 l0 x12_1).f4))) (fun _ hk => ⟨hk.1.1, hk.1.2⟩)))⟩; have n1_ : Aside0 (w19.heap[gb227]? = some (.cells #[.int .u64 a1_0, .int .u64 a1_1, .int .u64 a1_2, .int .u64 a1_3, .int .i64 a1_4] 74 (0, 0))) := ⟨(by rw [hw]; exact (blkF BK227))⟩; have n2_ : Aside0 (w19.heap[gb229]? = some (.cells #[.int .u64 ((rd_T74 l0 x12_1).f0), .int .u64 ((rd_T74 l0 x12_1).f1), .int .u64 ((rd_T74 l0 x12_1).f2), .int .u64 ((rd_T74 l0 x12_1).f3), .int .i64 ((rd_T74 l0 x12_1).f4)] 74 (0, 0))) := ⟨(by rw [hw]; exact (by (with_reducible repeat (first | refine blk_drewN ?_ _ | refine blk_drew ?_ | refine blk_alloc ?_ _)); refine blk_put (cs := #[.int .u64 ((rd_T74 l0 x12_1).f0), .int .u64 ((rd_T74 l0 x12_1).f1), .int .u64 ((rd_T74 l0 x12_1).f2), .int .u64 ((rd_T74 l0 x12_1).f3), .int .i64 0]) ?_ 4 _ rfl; refine blk_put (cs := #[.int .u64 ((rd_T74 l0 x12_1).f0), .int .u64 ((rd_T74 l0 x12_1).f1), .int .u64 ((rd_T74 l0 x12_1).f2), .int .u64 0, .int .i64 0]) ?_ 3 _ rfl; refine blk_put (cs := #[.int .u64 ((rd_T74 l0 x12_1).f0), .int .u64 ((rd_T74 l0 x12_1).f1), .int .u64 0, .int .u64 0, .int .i64 0]) ?_ 2 _ rfl; refine blk_put (cs := #[.int .u64 ((rd_T74 l0 x12_1).f0), .int .u64 0, .int .u64 0, .int .u64 0, .int .i64 0]) ?_ 1 _ rfl; refine blk_put (cs := #[.int .u64 0, .int .u64 0, .int .u64 0, .int .u64 0, .int .i64 0]) ?_ 0 _ rfl; (with_reducible repeat (first | refine blk_drewN ?_ _ | refine blk_drew ?_ | refine blk_alloc ?_ _)); exact BK229.out))⟩; have n3_ : Aside0 (Below w.heap.size w w19) := ⟨(by rw [hw]; exact (belN HB))⟩; clear hw; clear HO_5; clear BK227; clear BK229; clear HB; have HO_5 := n0_; have BK227 := n1_; have BK229 := n2_; have HB := n3_; clear n0_ n1_ n2_ n3_; obtain ⟨hcz20_0, hcz20_1, hcz20_2, hcz20_3, hcz20_4, hfz20_0, hfz20_1, hfz20_2, hfz20_3, hfz20_4⟩ := cz5_ (w := w19) BK229.out; obtain ⟨hcz21_0, hcz21_1, hcz21_2, hcz21_3, hcz21_4, hfz21_0, hfz21_1, hfz21_2, hfz21_3, hfz21_4⟩ := cz5_ (w := w19) BK227.out))
              go_roundg k1
              case measure => have := HK1.out; omega
              case rel => exact ⟨(x5_1), (wrap64 (x12_1 + 1)), (by first | rfl | (simp; done) | (simp [*]; done)), H', ⟨by have := HK1.out; omega⟩, ⟨by (with_reducible repeat (first | apply Kd.R_alloc | apply Kd.R_drewN | apply Kd.R_drew)); exact Kd.R_mono HO_5.out (fun _ hk => hk.1)⟩, ⟨by (with_reducible repeat (first | refine blk_drewN ?_ _ | refine blk_drew ?_ | refine blk_alloc ?_ _)); exact BK227.out⟩, ⟨by repeat (first | (with_reducible first | exact HB.out | apply below_alloc | apply pw_below_drewN | apply below_drew1 | refine below_set ?_ GE227.out | refine below_set ?_ GE229.out) | exact HB.out)⟩⟩
          · rw [if_neg c6] at H
            exact absurd H (by simp)
        · rw [if_neg c5] at H
          exact absurd H (by simp)
      · rw [if_neg c4] at H
        have c4b0 : decide (x12_1 < (l0.length : Int)) = false := decide_eq_false c4
        clear c4
        by_cases c22 : x5_1.length < 3518437208883
        · rw [if_pos c22] at H
          have LMc22 := Aside0.mk c22
          clear c22
          obtain ⟨y233, hy233⟩ : ∃ y_ : List (S74), y_ = (x5_1 ++ [(⟨a1_0, a1_1, a1_2, a1_3, a1_4⟩ : S74)]) := ⟨_, rfl⟩
          replace H : (damsonref13_with.l1 k1 y233 l0 (l0.length : Int) 0 a1_0 a1_1 a1_2 a1_3 a1_4) = some r := by first | (rw [hy233]; with_reducible exact H) | (have H2_ := (Option.bind_some _ _).symm.trans H; rw [hy233]; with_reducible exact H2_) | (have H2_ := (Option.bind_some _ _).symm.trans H; with_reducible exact H2_) | with_reducible exact H | (rw [hy233]; exact H) | exact H
          have Ny233 := Aside0.mk hy233
          clear hy233
          have H' := Aside0.mk H
          clear H
          obtain ⟨hcz23_0, hcz23_1, hcz23_2, hcz23_3, hcz23_4, hfz23_0, hfz23_1, hfz23_2, hfz23_3, hfz23_4⟩ := cz5_ (w := wr) BK227.out
          go_wp2_with (first | ((with_reducible refine gate_builtin (b := .append) (xs := #[.tmp 26, .tmp 28]) rfl ?_); at_builtin; refine Kd.R_append k74 (w0 := w) w.heap.size rfl (.tmp 26) (.tmp 28) 71 74 (.agg #[(.int .u64 0), (.int .u64 0), (.int .u64 0), (.int .u64 0), (.int .i64 0)]) 40 rfl Try.underlying71 info74 rfl (by decide) (by omega) u5 x5_1 (⟨a1_0, a1_1, a1_2, a1_3, a1_4⟩ : S74) [.int .u64 a1_0, .int .u64 a1_1, .int .u64 a1_2, .int .u64 a1_3, .int .i64 a1_4] (fun k_ => k_ ≠ gb227) (fun _ => False) rfl rfl ?aP (fun _ hk => hk.elim) ?aF ?aO ?aB ?aS ?aL ?_; (case aP => exact k74_mkM _ _ _ (⟨a1_0, a1_1, a1_2, a1_3, a1_4⟩ : S74)); (case aB => exact (belN HB)); (case aF => exact (fun k_ hk => Kd.freshB (g := gb227) (blkN BK227) k_ hk)); (case aO => exact (Kd.RN HO_5)); (case aS => exact (below_size (belN HB))); (case aL => have := LMc22.out; omega); intro v234 w24 ho hb hg hat; rw [← Ny233.out] at ho; have n0_ := Aside0.mk (blk_grown (g := gb227) (blkN BK227) hg (Kd.R_away HO_5.out (fun _ hk => hk))); have n1_ := Aside0.mk (hb); have n2_ := Aside0.mk (ho); clear BK227; clear HB; clear HO_5; have BK227 := n0_; have HB := n1_; have HO235 := n2_; clear n0_ n1_ n2_; clear ho hb hg hat))
          go_loopg [5, 32] k1 (fun kq v5 v32 w' => ∃ (x5_2 : List (S74)) (x32_2 : Int), v32 = .int .i64 x32_2 ∧ Aside0 (damsonref13_with.l1 kq x5_2 l0 (l0.length : Int) x32_2 a1_0 a1_1 a1_2 a1_3 a1_4 = some r) ∧ Aside0 (kq ≤ k1) ∧ Aside0 (Kd.R k74 74 w' w.heap.size (fun k_ => k_ ≠ gb227) v5 x5_2) ∧ Aside0 (w'.heap[gb227]? = some (.cells #[.int .u64 a1_0, .int .u64 a1_1, .int .u64 a1_2, .int .u64 a1_3, .int .i64 a1_4] 74 (0, 0))) ∧ Aside0 (Below w.heap.size w w'))
          case atStart => exact ⟨(y233), (0), (by first | rfl | (simp; done) | (simp [*]; done)), H', ⟨Nat.le_refl _⟩, ⟨by (with_reducible repeat (first | apply Kd.R_alloc | apply Kd.R_drewN | apply Kd.R_drew)); exact HO235.out⟩, ⟨by (with_reducible repeat (first | refine blk_drewN ?_ _ | refine blk_drew ?_ | refine blk_alloc ?_ _)); exact BK227.out⟩, ⟨by repeat (first | (with_reducible first | exact HB.out | apply below_alloc | apply pw_below_drewN | apply below_drew1 | refine below_set ?_ GE227.out) | exact HB.out)⟩⟩
          case round =>
            clear H'
            try clear c1
            try clear c2
            try clear p2
            try clear q2
            try clear hx2
            try clear c4
            try clear c4b0
            try clear c5
            try clear c5b0
            try clear c6
            try clear c6b0
            try clear p6
            try clear c7
            try clear c7b0
            try clear c8
            try clear c10
            try clear c12
            try clear c17
            try clear c22
            try clear p22
            try clear q22
            try clear hx22
            try clear hcz11_0
            try clear hcz11_1
            try clear hcz11_2
            try clear hcz11_3
            try clear hcz11_4
            try clear hcz13_0
            try clear hcz13_1
            try clear hcz13_2
            try clear hcz13_3
            try clear hcz13_4
            try clear hcz14_0
            try clear hcz14_1
            try clear hcz14_2
            try clear hcz14_3
            try clear hcz14_4
            try clear hcz18_0
            try clear hcz18_1
            try clear hcz18_2
            try clear hcz18_3
            try clear hcz18_4
            try clear hcz20_0
            try clear hcz20_1
            try clear hcz20_2
            try clear hcz20_3
            try clear hcz20_4
            try clear hcz21_0
            try clear hcz21_1
            try clear hcz21_2
            try clear hcz21_3
            try clear hcz21_4
            try clear hcz23_0
            try clear hcz23_1
            try clear hcz23_2
            try clear hcz23_3
            try clear hcz23_4
            try clear hfz11_0
            try clear hfz11_1
            try clear hfz11_2
            try clear hfz11_3
            try clear hfz11_4
            try clear hfz13_0
            try clear hfz13_1
            try clear hfz13_2
            try clear hfz13_3
            try clear hfz13_4
            try clear hfz14_0
            try clear hfz14_1
            try clear hfz14_2
            try clear hfz14_3
            try clear hfz14_4
            try clear hfz18_0
            try clear hfz18_1
            try clear hfz18_2
            try clear hfz18_3
            try clear hfz18_4
            try clear hfz20_0
            try clear hfz20_1
            try clear hfz20_2
            try clear hfz20_3
            try clear hfz20_4
            try clear hfz21_0
            try clear hfz21_1
            try clear hfz21_2
            try clear hfz21_3
            try clear hfz21_4
            try clear hfz23_0
            try clear hfz23_1
            try clear hfz23_2
            try clear hfz23_3
            try clear hfz23_4
            try clear hx228_0
            try clear hx228_1
            try clear hx228_2
            try clear hx228_3
            try clear hx228_4
            try clear p2
            try clear p228
            try clear q228
            obtain ⟨x5_2, x32_2, rfl, HA, HK2, HO_5, BK227, HB⟩ := hrel
            cases gk with
            | zero => exact absurd HA.out (by simp [damsonref13_with.l1])
            | succ k2 =>
              have H := HA.out
              clear HA
              simp only [damsonref13_with.l1] at H
              by_cases c25 : x32_2 < (l0.length : Int)
              · rw [if_pos c25] at H
                have c25b0 : decide (x32_2 < (l0.length : Int)) = true := decide_eq_true c25
                clear c25
                by_cases c26 : 0 ≤ x32_2
                · rw [if_pos c26] at H
                  have c26b0 : decide (0 ≤ x32_2) = true := decide_eq_true c26
                  clear c26
                  by_cases c27 : x32_2 < (l0.length : Int)
                  · rw [if_pos c27] at H
                    have c27b0 : decide (x32_2 < (l0.length : Int)) = true := decide_eq_true c27
                    clear c27
                    by_cases c28 : ((rd_T74 l0 x32_2).f0) > a1_0
                    · rw [if_pos c28] at H
                      have c28b0 : decide (a1_0 < ((rd_T74 l0 x32_2).f0)) = true := decide_eq_true c28
                      clear c28
                      by_cases c29 : x5_2.length < 3518437208883
                      · rw [if_pos c29] at H
                        have LMc29 := Aside0.mk c29
                        clear c29
                        obtain ⟨y238, hy238⟩ : ∃ y_ : List (S74), y_ = (x5_2 ++ [(⟨(rd_T74 l0 x32_2).f0, (rd_T74 l0 x32_2).f1, (rd_T74 l0 x32_2).f2, (rd_T74 l0 x32_2).f3, (rd_T74 l0 x32_2).f4⟩ : S74)]) := ⟨_, rfl⟩
                        replace H : (damsonref13_with.l1 k2 y238 l0 (l0.length : Int) (wrap64 (x32_2 + 1)) a1_0 a1_1 a1_2 a1_3 a1_4) = some r := by first | (rw [hy238]; with_reducible exact H) | (have H2_ := (Option.bind_some _ _).symm.trans H; rw [hy238]; with_reducible exact H2_) | (have H2_ := (Option.bind_some _ _).symm.trans H; with_reducible exact H2_) | with_reducible exact H | (rw [hy238]; exact H) | exact H
                        have Ny238 := Aside0.mk hy238
                        clear hy238
                        have H' := Aside0.mk H
                        clear H
                        have p236 : 0 ≤ (x32_2 : Int) := of_decide_eq_true (by first | (with_reducible assumption) | assumption)
                        have q236 : x32_2 < (l0.length : Int) := of_decide_eq_true (by first | (with_reducible assumption) | assumption)
                        obtain ⟨ad236, e236, hx236_0, hx236_1, hx236_2, hx236_3, hx236_4⟩ := at_T74 HR0.out x32_2 p236 q236
                        cases e236
                        replace hx236_0 := (HB.out.cell (World.block_lt_of_cell? w _ hx236_0)).trans hx236_0
                        replace hx236_1 := (HB.out.cell (World.block_lt_of_cell? w _ hx236_1)).trans hx236_1
                        replace hx236_2 := (HB.out.cell (World.block_lt_of_cell? w _ hx236_2)).trans hx236_2
                        replace hx236_3 := (HB.out.cell (World.block_lt_of_cell? w _ hx236_3)).trans hx236_3
                        replace hx236_4 := (HB.out.cell (World.block_lt_of_cell? w _ hx236_4)).trans hx236_4
                        replace p236 := eq_true p236
                        replace q236 := eq_true q236
                        go_wp2_with (first | ((with_reducible refine gate_dst (N := 9) rfl ?_); refine box_event ?hg (N := 9) ?hd (cs := #[.int .u64 0, .int .u64 0, .int .u64 0, .int .u64 0, .int .i64 0]) (t := 74) ?hr ?_; (case hd => rfl); (case hg => rfl); (case hr => first | (go_simp; done) | (go_simp; rfl)); intro gb237 hg w30 hbox hb; have n0_ := Aside0.mk (Kd.R_below (Kd.R_elderB (Kd.RN HO_5) gb237 (Nat.le_of_eq hg.symm)) hb); have n1_ := Aside0.mk (blk_below (g := gb227) (blkN BK227) hb); have n2_ := Aside0.mk (below_step (belN HB) hb); have n3_ := Aside0.mk (hbox); have n4_ := Aside0.mk ((by rw [hg]; exact (below_size (belN HB)) : w.heap.size ≤ gb237)); have n5_ := Aside0.mk ((by rw [hg]; exact (below_size (belN HB)) : w.heap.size ≤ gb237)); have n6_ := Aside0.mk ((by rw [hg]; exact Nat.ne_of_lt (blk_lt (g := gb227) (blkN BK227)) : gb227 ≠ gb237)); have n7_ := Aside0.mk ((by rw [hg]; exact Nat.ne_of_gt (blk_lt (g := gb227) (blkN BK227)) : gb237 ≠ gb227)); clear HO_5; clear BK227; clear HB; have HO_5 := n0_; have BK227 := n1_; have HB := n2_; have BK237 := n3_; have GW237 := n4_; have GE237 := n5_; have NB227_237 := n6_; have NB237_227 := n7_; clear n0_ n1_ n2_ n3_ n4_ n5_ n6_ n7_; clear hb hbox hg; have hnb31 := NB237_227.out; have hnc31 := NB227_237.out; obtain ⟨hcz32_0, hcz32_1, hcz32_2, hcz32_3, hcz32_4, hfz32_0, hfz32_1, hfz32_2, hfz32_3, hfz32_4⟩ := cz5_ (w := w30) BK237.out) | ((with_reducible refine gate_store (t := 74) (p := 9) rfl ?_); refine store_event (t := 74) (p := 9) (v := ?vo_w33) (w1 := (((((w30.setCell ⟨gb237, 0, none⟩ (.int .u64 ((rd_T74 l0 x32_2).f0))).setCell ⟨gb237, 1, none⟩ (.int .u64 ((rd_T74 l0 x32_2).f1))).setCell ⟨gb237, 2, none⟩ (.int .u64 ((rd_T74 l0 x32_2).f2))).setCell ⟨gb237, 3, none⟩ (.int .u64 ((rd_T74 l0 x32_2).f3))).setCell ⟨gb237, 4, none⟩ (.int .i64 ((rd_T74 l0 x32_2).f4)))) ?hg ?ho ?hn ?hr ?_; (case ho => rfl); (case hg => rfl); (case hn => rfl); (case hr => first | (go_simp; done) | (go_simp; rfl)); intro w33 hw; have n0_ : Aside0 (Kd.R k74 74 w33 w.heap.size (fun k_ => k_ ≠ gb227 ∧ k_ ≠ gb237) u5 x5_2) := ⟨(by rw [hw]; exact (by (with_reducible repeat (first | apply Kd.R_alloc | apply Kd.R_drewN | apply Kd.R_drew)); exact Kd.R_mono (Kd.R_far (p := ⟨gb237, 4, none⟩) (Kd.R_far (p := ⟨gb237, 3, none⟩) (Kd.R_far (p := ⟨gb237, 2, none⟩) (Kd.R_far (p := ⟨gb237, 1, none⟩) (Kd.R_far (p := ⟨gb237, 0, none⟩) (Kd.R_mono HO_5.out (fun k_ hk => (⟨hk, hk.2⟩ : _ ∧ k_ ≠ gb237))) (fun _ hk => hk.2) (.int .u64 ((rd_T74 l0 x32_2).f0))) (fun _ hk => hk.2) (.int .u64 ((rd_T74 l0 x32_2).f1))) (fun _ hk => hk.2) (.int .u64 ((rd_T74 l0 x32_2).f2))) (fun _ hk => hk.2) (.int .u64 ((rd_T74 l0 x32_2).f3))) (fun _ hk => hk.2) (.int .i64 ((rd_T74 l0 x32_2).f4))) (fun _ hk => ⟨hk.1.1, hk.1.2⟩)))⟩; have n1_ : Aside0 (w33.heap[gb227]? = some (.cells #[.int .u64 a1_0, .int .u64 a1_1, .int .u64 a1_2, .int .u64 a1_3, .int .i64 a1_4] 74 (0, 0))) := ⟨(by rw [hw]; exact (blkF BK227))⟩; have n2_ : Aside0 (w33.heap[gb237]? = some (.cells #[.int .u64 ((rd_T74 l0 x32_2).f0), .int .u64 ((rd_T74 l0 x32_2).f1), .int .u64 ((rd_T74 l0 x32_2).f2), .int .u64 ((rd_T74 l0 x32_2).f3), .int .i64 ((rd_T74 l0 x32_2).f4)] 74 (0, 0))) := ⟨(by rw [hw]; exact (by (with_reducible repeat (first | refine blk_drewN ?_ _ | refine blk_drew ?_ | refine blk_alloc ?_ _)); refine blk_put (cs := #[.int .u64 ((rd_T74 l0 x32_2).f0), .int .u64 ((rd_T74 l0 x32_2).f1), .int .u64 ((rd_T74 l0 x32_2).f2), .int .u64 ((rd_T74 l0 x32_2).f3), .int .i64 0]) ?_ 4 _ rfl; refine blk_put (cs := #[.int .u64 ((rd_T74 l0 x32_2).f0), .int .u64 ((rd_T74 l0 x32_2).f1), .int .u64 ((rd_T74 l0 x32_2).f2), .int .u64 0, .int .i64 0]) ?_ 3 _ rfl; refine blk_put (cs := #[.int .u64 ((rd_T74 l0 x32_2).f0), .int .u64 ((rd_T74 l0 x32_2).f1), .int .u64 0, .int .u64 0, .int .i64 0]) ?_ 2 _ rfl; refine blk_put (cs := #[.int .u64 ((rd_T74 l0 x32_2).f0), .int .u64 0, .int .u64 0, .int .u64 0, .int .i64 0]) ?_ 1 _ rfl; refine blk_put (cs := #[.int .u64 0, .int .u64 0, .int .u64 0, .int .u64 0, .int .i64 0]) ?_ 0 _ rfl; (with_reducible repeat (first | refine blk_drewN ?_ _ | refine blk_drew ?_ | refine blk_alloc ?_ _)); exact BK237.out))⟩; have n3_ : Aside0 (Below w.heap.size w w33) := ⟨(by rw [hw]; exact (belN HB))⟩; clear hw; clear HO_5; clear BK227; clear BK237; clear HB; have HO_5 := n0_; have BK227 := n1_; have BK237 := n2_; have HB := n3_; clear n0_ n1_ n2_ n3_; obtain ⟨hcz34_0, hcz34_1, hcz34_2, hcz34_3, hcz34_4, hfz34_0, hfz34_1, hfz34_2, hfz34_3, hfz34_4⟩ := cz5_ (w := w33) BK237.out; obtain ⟨hcz35_0, hcz35_1, hcz35_2, hcz35_3, hcz35_4, hfz35_0, hfz35_1, hfz35_2, hfz35_3, hfz35_4⟩ := cz5_ (w := w33) BK227.out) | ((with_reducible refine gate_builtin (b := .append) (xs := #[.tmp 41, .tmp 43]) rfl ?_); at_builtin; refine Kd.R_append k74 (w0 := w) w.heap.size rfl (.tmp 41) (.tmp 43) 71 74 (.agg #[(.int .u64 0), (.int .u64 0), (.int .u64 0), (.int .u64 0), (.int .i64 0)]) 40 rfl Try.underlying71 info74 rfl (by decide) (by omega) u5 x5_2 (⟨(rd_T74 l0 x32_2).f0, (rd_T74 l0 x32_2).f1, (rd_T74 l0 x32_2).f2, (rd_T74 l0 x32_2).f3, (rd_T74 l0 x32_2).f4⟩ : S74) [.int .u64 ((rd_T74 l0 x32_2).f0), .int .u64 ((rd_T74 l0 x32_2).f1), .int .u64 ((rd_T74 l0 x32_2).f2), .int .u64 ((rd_T74 l0 x32_2).f3), .int .i64 ((rd_T74 l0 x32_2).f4)] (fun k_ => k_ ≠ gb227 ∧ k_ ≠ gb237) (fun _ => False) rfl rfl ?aP (fun _ hk => hk.elim) ?aF ?aO ?aB ?aS ?aL ?_; (case aP => exact k74_mkM _ _ _ (⟨(rd_T74 l0 x32_2).f0, (rd_T74 l0 x32_2).f1, (rd_T74 l0 x32_2).f2, (rd_T74 l0 x32_2).f3, (rd_T74 l0 x32_2).f4⟩ : S74)); (case aB => exact (belN HB)); (case aF => exact (fun k_ hk => ⟨Kd.freshB (g := gb227) (blkN BK227) k_ hk, Kd.freshB (g := gb237) (blkN BK237) k_ hk⟩)); (case aO => exact (Kd.RN HO_5)); (case aS => exact (below_size (belN HB))); (case aL => have := LMc29.out; omega); intro v239 w36 ho hb hg hat; rw [← Ny238.out] at ho; have n0_ := Aside0.mk (blk_grown (g := gb227) (blkN BK227) hg (Kd.R_away HO_5.out (fun _ hk => hk.1))); have n1_ := Aside0.mk (blk_grown (g := gb237) (blkN BK237) hg (Kd.R_away HO_5.out (fun _ hk => hk.2))); have n2_ := Aside0.mk (hb); have n3_ := Aside0.mk (ho); clear BK227; clear BK237; clear HB; clear HO_5; have BK227 := n0_; have BK237 := n1_; have HB := n2_; have HO240 := n3_; clear n0_ n1_ n2_ n3_; clear ho hb hg hat))
                        go_roundg k2
                        case measure => have := HK1.out; have := HK2.out; omega
                        case rel => exact ⟨(y238), (wrap64 (x32_2 + 1)), (by first | rfl | (simp; done) | (simp [*]; done)), H', ⟨by have := HK1.out; have := HK2.out; omega⟩, ⟨by (with_reducible repeat (first | apply Kd.R_alloc | apply Kd.R_drewN | apply Kd.R_drew)); exact Kd.R_mono HO240.out (fun _ hk => hk.1)⟩, ⟨by (with_reducible repeat (first | refine blk_drewN ?_ _ | refine blk_drew ?_ | refine blk_alloc ?_ _)); exact BK227.out⟩, ⟨by repeat (first | (with_reducible first | exact HB.out | apply below_alloc | apply pw_below_drewN | apply below_drew1 | refine below_set ?_ GE227.out | refine below_set ?_ GE237.out) | exact HB.out)⟩⟩
                      · rw [if_neg c29] at H
                        exact absurd H (by simp)
                    · rw [if_neg c28] at H
                      have c28b0 : decide (a1_0 < ((rd_T74 l0 x32_2).f0)) = false := decide_eq_false c28
                      clear c28
                      have H' := Aside0.mk H
                      clear H
                      have p236 : 0 ≤ (x32_2 : Int) := of_decide_eq_true (by first | (with_reducible assumption) | assumption)
                      have q236 : x32_2 < (l0.length : Int) := of_decide_eq_true (by first | (with_reducible assumption) | assumption)
                      obtain ⟨ad236, e236, hx236_0, hx236_1, hx236_2, hx236_3, hx236_4⟩ := at_T74 HR0.out x32_2 p236 q236
                      cases e236
                      replace hx236_0 := (HB.out.cell (World.block_lt_of_cell? w _ hx236_0)).trans hx236_0
                      replace hx236_1 := (HB.out.cell (World.block_lt_of_cell? w _ hx236_1)).trans hx236_1
                      replace hx236_2 := (HB.out.cell (World.block_lt_of_cell? w _ hx236_2)).trans hx236_2
                      replace hx236_3 := (HB.out.cell (World.block_lt_of_cell? w _ hx236_3)).trans hx236_3
                      replace hx236_4 := (HB.out.cell (World.block_lt_of_cell? w _ hx236_4)).trans hx236_4
                      replace p236 := eq_true p236
                      replace q236 := eq_true q236
                      go_wp2_with (first | ((with_reducible refine gate_dst (N := 9) rfl ?_); refine box_event ?hg (N := 9) ?hd (cs := #[.int .u64 0, .int .u64 0, .int .u64 0, .int .u64 0, .int .i64 0]) (t := 74) ?hr ?_; (case hd => rfl); (case hg => rfl); (case hr => first | (go_simp; done) | (go_simp; rfl)); intro gb237 hg w37 hbox hb; have n0_ := Aside0.mk (Kd.R_below (Kd.R_elderB (Kd.RN HO_5) gb237 (Nat.le_of_eq hg.symm)) hb); have n1_ := Aside0.mk (blk_below (g := gb227) (blkN BK227) hb); have n2_ := Aside0.mk (below_step (belN HB) hb); have n3_ := Aside0.mk (hbox); have n4_ := Aside0.mk ((by rw [hg]; exact (below_size (belN HB)) : w.heap.size ≤ gb237)); have n5_ := Aside0.mk ((by rw [hg]; exact (below_size (belN HB)) : w.heap.size ≤ gb237)); have n6_ := Aside0.mk ((by rw [hg]; exact Nat.ne_of_lt (blk_lt (g := gb227) (blkN BK227)) : gb227 ≠ gb237)); have n7_ := Aside0.mk ((by rw [hg]; exact Nat.ne_of_gt (blk_lt (g := gb227) (blkN BK227)) : gb237 ≠ gb227)); clear HO_5; clear BK227; clear HB; have HO_5 := n0_; have BK227 := n1_; have HB := n2_; have BK237 := n3_; have GW237 := n4_; have GE237 := n5_; have NB227_237 := n6_; have NB237_227 := n7_; clear n0_ n1_ n2_ n3_ n4_ n5_ n6_ n7_; clear hb hbox hg; have hnb38 := NB237_227.out; have hnc38 := NB227_237.out; obtain ⟨hcz39_0, hcz39_1, hcz39_2, hcz39_3, hcz39_4, hfz39_0, hfz39_1, hfz39_2, hfz39_3, hfz39_4⟩ := cz5_ (w := w37) BK237.out) | ((with_reducible refine gate_store (t := 74) (p := 9) rfl ?_); refine store_event (t := 74) (p := 9) (v := ?vo_w40) (w1 := (((((w37.setCell ⟨gb237, 0, none⟩ (.int .u64 ((rd_T74 l0 x32_2).f0))).setCell ⟨gb237, 1, none⟩ (.int .u64 ((rd_T74 l0 x32_2).f1))).setCell ⟨gb237, 2, none⟩ (.int .u64 ((rd_T74 l0 x32_2).f2))).setCell ⟨gb237, 3, none⟩ (.int .u64 ((rd_T74 l0 x32_2).f3))).setCell ⟨gb237, 4, none⟩ (.int .i64 ((rd_T74 l0 x32_2).f4)))) ?hg ?ho ?hn ?hr ?_; (case ho => rfl); (case hg => rfl); (case hn => rfl); (case hr => first | (go_simp; done) | (go_simp; rfl)); intro w40 hw; have n0_ : Aside0 (Kd.R k74 74 w40 w.heap.size (fun k_ => k_ ≠ gb227 ∧ k_ ≠ gb237) u5 x5_2) := ⟨(by rw [hw]; exact (by (with_reducible repeat (first | apply Kd.R_alloc | apply Kd.R_drewN | apply Kd.R_drew)); exact Kd.R_mono (Kd.R_far (p := ⟨gb237, 4, none⟩) (Kd.R_far (p := ⟨gb237, 3, none⟩) (Kd.R_far (p := ⟨gb237, 2, none⟩) (Kd.R_far (p := ⟨gb237, 1, none⟩) (Kd.R_far (p := ⟨gb237, 0, none⟩) (Kd.R_mono HO_5.out (fun k_ hk => (⟨hk, hk.2⟩ : _ ∧ k_ ≠ gb237))) (fun _ hk => hk.2) (.int .u64 ((rd_T74 l0 x32_2).f0))) (fun _ hk => hk.2) (.int .u64 ((rd_T74 l0 x32_2).f1))) (fun _ hk => hk.2) (.int .u64 ((rd_T74 l0 x32_2).f2))) (fun _ hk => hk.2) (.int .u64 ((rd_T74 l0 x32_2).f3))) (fun _ hk => hk.2) (.int .i64 ((rd_T74 l0 x32_2).f4))) (fun _ hk => ⟨hk.1.1, hk.1.2⟩)))⟩; have n1_ : Aside0 (w40.heap[gb227]? = some (.cells #[.int .u64 a1_0, .int .u64 a1_1, .int .u64 a1_2, .int .u64 a1_3, .int .i64 a1_4] 74 (0, 0))) := ⟨(by rw [hw]; exact (blkF BK227))⟩; have n2_ : Aside0 (w40.heap[gb237]? = some (.cells #[.int .u64 ((rd_T74 l0 x32_2).f0), .int .u64 ((rd_T74 l0 x32_2).f1), .int .u64 ((rd_T74 l0 x32_2).f2), .int .u64 ((rd_T74 l0 x32_2).f3), .int .i64 ((rd_T74 l0 x32_2).f4)] 74 (0, 0))) := ⟨(by rw [hw]; exact (by (with_reducible repeat (first | refine blk_drewN ?_ _ | refine blk_drew ?_ | refine blk_alloc ?_ _)); refine blk_put (cs := #[.int .u64 ((rd_T74 l0 x32_2).f0), .int .u64 ((rd_T74 l0 x32_2).f1), .int .u64 ((rd_T74 l0 x32_2).f2), .int .u64 ((rd_T74 l0 x32_2).f3), .int .i64 0]) ?_ 4 _ rfl; refine blk_put (cs := #[.int .u64 ((rd_T74 l0 x32_2).f0), .int .u64 ((rd_T74 l0 x32_2).f1), .int .u64 ((rd_T74 l0 x32_2).f2), .int .u64 0, .int .i64 0]) ?_ 3 _ rfl; refine blk_put (cs := #[.int .u64 ((rd_T74 l0 x32_2).f0), .int .u64 ((rd_T74 l0 x32_2).f1), .int .u64 0, .int .u64 0, .int .i64 0]) ?_ 2 _ rfl; refine blk_put (cs := #[.int .u64 ((rd_T74 l0 x32_2).f0), .int .u64 0, .int .u64 0, .int .u64 0, .int .i64 0]) ?_ 1 _ rfl; refine blk_put (cs := #[.int .u64 0, .int .u64 0, .int .u64 0, .int .u64 0, .int .i64 0]) ?_ 0 _ rfl; (with_reducible repeat (first | refine blk_drewN ?_ _ | refine blk_drew ?_ | refine blk_alloc ?_ _)); exact BK237.out))⟩; have n3_ : Aside0 (Below w.heap.size w w40) := ⟨(by rw [hw]; exact (belN HB))⟩; clear hw; clear HO_5; clear BK227; clear BK237; clear HB; have HO_5 := n0_; have BK227 := n1_; have BK237 := n2_; have HB := n3_; clear n0_ n1_ n2_ n3_; obtain ⟨hcz41_0, hcz41_1, hcz41_2, hcz41_3, hcz41_4, hfz41_0, hfz41_1, hfz41_2, hfz41_3, hfz41_4⟩ := cz5_ (w := w40) BK237.out; obtain ⟨hcz42_0, hcz42_1, hcz42_2, hcz42_3, hcz42_4, hfz42_0, hfz42_1, hfz42_2, hfz42_3, hfz42_4⟩ := cz5_ (w := w40) BK227.out))
                      go_roundg k2
                      case measure => have := HK1.out; have := HK2.out; omega
                      case rel => exact ⟨(x5_2), (wrap64 (x32_2 + 1)), (by first | rfl | (simp; done) | (simp [*]; done)), H', ⟨by have := HK1.out; have := HK2.out; omega⟩, ⟨by (with_reducible repeat (first | apply Kd.R_alloc | apply Kd.R_drewN | apply Kd.R_drew)); exact Kd.R_mono HO_5.out (fun _ hk => hk.1)⟩, ⟨by (with_reducible repeat (first | refine blk_drewN ?_ _ | refine blk_drew ?_ | refine blk_alloc ?_ _)); exact BK227.out⟩, ⟨by repeat (first | (with_reducible first | exact HB.out | apply below_alloc | apply pw_below_drewN | apply below_drew1 | refine below_set ?_ GE227.out | refine below_set ?_ GE237.out) | exact HB.out)⟩⟩
                  · rw [if_neg c27] at H
                    exact absurd H (by simp)
                · rw [if_neg c26] at H
                  exact absurd H (by simp)
              · rw [if_neg c25] at H
                have c25b0 : decide (x32_2 < (l0.length : Int)) = false := decide_eq_false c25
                clear c25
                obtain rfl := Option.some.inj H
                go_wp2
                go_ret
                exact ⟨_, by first | rfl | (simp [errW_none, errW_some] <;> rfl) | (simp [*, errW_none, errW_some] <;> rfl), by (with_reducible repeat (first | apply Kd.R_alloc | apply Kd.R_drewN | apply Kd.R_drew)); exact Kd.R_mono HO_5.out (fun _ hk => trivial), by repeat (first | (with_reducible first | exact HB.out | apply below_alloc | apply pw_below_drewN | apply below_drew1 | refine below_set ?_ GE227.out) | exact HB.out)⟩
        · rw [if_neg c22] at H
          exact absurd H (by simp)

end Go.Proofs.Ytcfbcoinbecdfaa.P
