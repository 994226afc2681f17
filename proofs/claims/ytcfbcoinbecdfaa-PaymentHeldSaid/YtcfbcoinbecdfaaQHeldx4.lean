-- written by a program of this session (wip/print)
import Derived.Test.YtcfbcoinbecdfaaQHeldx0
import Derived.Test.YtcfbcoinbecdfaaQHeldx1
import Derived.Test.YtcfbcoinbecdfaaQHeldx3
namespace Go.Proofs.Ytcfbcoinbecdfaa.P
open Go.RowKit Go.Proofs.YtcfbcoinbecdfaaW.PrintWords Go.Proofs.YtcfbcoinbecdfaaW.PrintLast Go.Proofs.YtcfbcoinbecdfaaW.PrintMore
attribute [local go_sem] max2_int min2_int max_two min_two max_three min_three max_four min_four run_sub64_   -- for this text's walks alone
set_option linter.unusedVariables false
set_option linter.unusedSimpArgs false

/-! ### payment_Start: function 71 -/
def payment_Start.j0 : Nat → List (S74) → Int → Int → Bool → Int → Int → Int → Int → Int → Option ((List (S74)) × Int)
  | 0, _, _, _, _, _, _, _, _, _ => none
  | k + 1, x0, x6, x7, x16, x129000, x129001, x129002, x129003, x129004 => if x16 = true then (some (([] : List (S74)), 1)) else (if x7 = 0 then (some (([] : List (S74)), 6)) else ((slices_Clone_Payment.f x0).bind fun t132 => (if (t132.length : Int) = 256 then ((slices_IndexFunc_Payment_at_payment_Start_1.f k t132).bind fun t135 => (if t135 < 0 then (some (([] : List (S74)), 7)) else ((slices_Delete_Payment.f t132 t135 (wrap64 (t135 + 1))).bind fun t136 => (if t135 < x6 then ((slices_Insert_Payment.f t136 (wrap64 (x6 - 1)) (([(⟨x129000, x129001, x129002, x129003, x129004⟩ : S74)] : List (S74)))).bind fun t142 => (some (t142, 0))) else ((slices_Insert_Payment.f t136 x6 (([(⟨x129000, x129001, x129002, x129003, x129004⟩ : S74)] : List (S74)))).bind fun t148 => (some (t148, 0))))))) else ((slices_Insert_Payment.f t132 x6 (([(⟨x129000, x129001, x129002, x129003, x129004⟩ : S74)] : List (S74)))).bind fun t154 => (some (t154, 0))))))
def payment_Start.f (k : Nat) (l0 : List (S74)) (a1_0 : Int) (a1_1 : Int) (a1_2 : Int) (a1_3 : Int) (a1_4 : Int) : Option ((List (S74)) × Int) := (payment_find.f k l0 a1_0).bind fun bt129 => (if bt129.2 = 1 then (payment_Start.j0 k l0 bt129.1 bt129.2 true a1_0 a1_1 a1_2 a1_3 a1_4) else ((payment_may.f k a1_0 a1_1 a1_2 a1_3 a1_4).bind fun t131 => (if t131 = true then (payment_Start.j0 k l0 bt129.1 bt129.2 (a1_4 != 1) a1_0 a1_1 a1_2 a1_3 a1_4) else (payment_Start.j0 k l0 bt129.1 bt129.2 true a1_0 a1_1 a1_2 a1_3 a1_4))))
theorem payment_Start.mono_l : ∀ k, (∀ y0 y1 y2 y3 y4 y5 y6 y7 y8, LeO (payment_Start.j0 k y0 y1 y2 y3 y4 y5 y6 y7 y8) (payment_Start.j0 (k + 1) y0 y1 y2 y3 y4 y5 y6 y7 y8))
  | 0 => fun _ _ _ _ _ _ _ _ _ r h => by simp [payment_Start.j0] at h
  | k + 1 => by
    have ih0 := payment_Start.mono_l k
    · intro y0 y1 y2 y3 y4 y5 y6 y7 y8
      unfold payment_Start.j0
      repeat' first
      | (with_reducible exact ih0 _ _ _ _ _ _ _ _ _)
      | (with_reducible exact payment_find.mono _ _ _)
      | (with_reducible exact payment_may.mono _ _ _ _ _ _)
      | (with_reducible exact slices_IndexFunc_Payment_at_payment_Start_1.mono _ _)
      | (with_reducible exact LeO.refl _)
      | (with_reducible exact LeO.none _)
      | (with_reducible refine LeO.ite ?_ ?_)
      | (with_reducible refine LeO.bind ?_ (fun _ => ?_))
      | exact ih0 _ _ _ _ _ _ _ _ _
      | exact payment_find.mono _ _ _
      | exact payment_may.mono _ _ _ _ _ _
      | exact slices_IndexFunc_Payment_at_payment_Start_1.mono _ _
      | exact LeO.none _
      | refine LeO.ite ?_ ?_
      | refine LeO.bind ?_ (fun _ => ?_)
theorem payment_Start.mono : ∀ a0 a1 a2 a3 a4 a5 k, LeO (payment_Start.f k a0 a1 a2 a3 a4 a5) (payment_Start.f (k + 1) a0 a1 a2 a3 a4 a5) := by
  intro a0 a1 a2 a3 a4 a5 k
  have ih0 := payment_Start.mono_l k
  unfold payment_Start.f
  repeat' first
      | (with_reducible exact ih0 _ _ _ _ _ _ _ _ _)
      | (with_reducible exact payment_find.mono _ _ _)
      | (with_reducible exact payment_may.mono _ _ _ _ _ _)
      | (with_reducible exact slices_IndexFunc_Payment_at_payment_Start_1.mono _ _)
      | (with_reducible exact LeO.refl _)
      | (with_reducible exact LeO.none _)
      | (with_reducible refine LeO.ite ?_ ?_)
      | (with_reducible refine LeO.bind ?_ (fun _ => ?_))
      | exact ih0 _ _ _ _ _ _ _ _ _
      | exact payment_find.mono _ _ _
      | exact payment_may.mono _ _ _ _ _ _
      | exact slices_IndexFunc_Payment_at_payment_Start_1.mono _ _
      | exact LeO.none _
      | refine LeO.ite ?_ ?_
      | refine LeO.bind ?_ (fun _ => ?_)
set_option maxHeartbeats 8000000 in
set_option maxRecDepth 100000 in
theorem payment_Start.calls (k : Nat) (A0 : Option Addr) (c0 : Nat) (l0 : List (S74)) (a1_0 : Int) (a1_1 : Int) (a1_2 : Int) (a1_3 : Int) (a1_4 : Int) (r1 : List (S74)) (r2 : Int) (w : World) (hr0 : Kd.C k74 w A0 l0.length l0) (hc0 : l0.length ≤ c0) (h : payment_Start.f k l0 a1_0 a1_1 a1_2 a1_3 a1_4 = some (r1, r2)) :
    Calls Try.prog 71 #[.slice A0 l0.length c0, .agg #[.int .u64 a1_0, .int .u64 a1_1, .int .u64 a1_2, .int .u64 a1_3, .int .i64 a1_4]] w fun e w' => ∃ v0_ : Value, e = .returned (.tuple #[v0_, .int .i64 r2]) ∧ Kd.R k74 74 w' w.heap.size (fun _ => True) v0_ r1 ∧ Below w.heap.size w w' := by
  have hu74 := Try.underlying74
  have HR0 := Aside0.mk hr0
  have HC0 := Aside0.mk hc0
  clear hr0 hc0
  have HB := Aside0.mk (Below.refl w.heap.size w)
  have H : ((payment_find.f k l0 a1_0).bind fun bt129 => (if bt129.2 = 1 then (payment_Start.j0 k l0 bt129.1 bt129.2 true a1_0 a1_1 a1_2 a1_3 a1_4) else ((payment_may.f k a1_0 a1_1 a1_2 a1_3 a1_4).bind fun t131 => (if t131 = true then (payment_Start.j0 k l0 bt129.1 bt129.2 (a1_4 != 1) a1_0 a1_1 a1_2 a1_3 a1_4) else (payment_Start.j0 k l0 bt129.1 bt129.2 true a1_0 a1_1 a1_2 a1_3 a1_4))))) = some (r1, r2) := h
  clear h
  replace H := Option.bind_eq_some_iff.mp H
  obtain ⟨⟨t129, t130⟩, A30, H⟩ := H
  replace H : (if t130 = 1 then (payment_Start.j0 k l0 t129 t130 true a1_0 a1_1 a1_2 a1_3 a1_4) else ((payment_may.f k a1_0 a1_1 a1_2 a1_3 a1_4).bind fun t131 => (if t131 = true then (payment_Start.j0 k l0 t129 t130 (a1_4 != 1) a1_0 a1_1 a1_2 a1_3 a1_4) else (payment_Start.j0 k l0 t129 t130 true a1_0 a1_1 a1_2 a1_3 a1_4)))) = some (r1, r2) := H
  have A3 := Aside0.mk A30
  clear A30
  have HC4 := Aside0.mk H
  clear H
  go_enter Try.func71, Try.ntmps71
  go_upto_region 2 with (first | ((with_reducible refine gate_dst (N := 3) rfl ?_); refine box_event ?hg (N := 3) ?hd (cs := #[.int .u64 a1_0, .int .u64 a1_1, .int .u64 a1_2, .int .u64 a1_3, .int .i64 a1_4]) (t := 74) ?hr ?_; (case hd => rfl); (case hg => rfl); (case hr => first | (go_simp; done) | (go_simp; rfl)); intro gb128 hg w5 hbox hb; have n0_ := Aside0.mk (below_step (by repeat (first | (with_reducible first | exact HB.out | apply below_alloc | apply pw_below_drewN | apply below_drew1) | exact HB.out)) hb); have n1_ := Aside0.mk (hbox); have n2_ := Aside0.mk ((by rw [hg]; exact (below_size (by repeat (first | (with_reducible first | exact HB.out | apply below_alloc | apply pw_below_drewN | apply below_drew1) | exact HB.out))) : w.heap.size ≤ gb128)); have n3_ := Aside0.mk ((by rw [hg]; exact (below_size (by repeat (first | (with_reducible first | exact HB.out | apply below_alloc | apply pw_below_drewN | apply below_drew1) | exact HB.out))) : w.heap.size ≤ gb128)); clear HB; have HB := n0_; have BK128 := n1_; have GW128 := n2_; have GE128 := n3_; clear n0_ n1_ n2_ n3_; clear hb hbox hg; have hcz6_0 : w5.cell? ⟨gb128, 0, none⟩ = some (.int .u64 a1_0) := (blk_cell BK128.out 0).trans rfl; have hcz6_1 : w5.cell? ⟨gb128, 1, none⟩ = some (.int .u64 a1_1) := (blk_cell BK128.out 1).trans rfl; have hcz6_2 : w5.cell? ⟨gb128, 2, none⟩ = some (.int .u64 a1_2) := (blk_cell BK128.out 2).trans rfl; have hcz6_3 : w5.cell? ⟨gb128, 3, none⟩ = some (.int .u64 a1_3) := (blk_cell BK128.out 3).trans rfl; have hcz6_4 : w5.cell? ⟨gb128, 4, none⟩ = some (.int .i64 a1_4) := (blk_cell BK128.out 4).trans rfl; have hfz6_0 := blk_frozen BK128.out 0; have hfz6_1 := blk_frozen BK128.out 1; have hfz6_2 := blk_frozen BK128.out 2; have hfz6_3 := blk_frozen BK128.out 3; have hfz6_4 := blk_frozen BK128.out 4) | ((with_reducible refine gate_callee (f := 115) rfl ?_); refine goesL_ (some 13) rfl rfl Try.func115 (by kernel_rfl) rfl #[.slice A0 l0.length c0, .int .u64 a1_0] rfl (by (try simp only [List.map_toArray, List.map_cons, List.map_nil]); first | done | rfl | (simp only [List.length_drop, List.length_take]; rfl)) ?_; (with_reducible refine (payment_find.calls k _ _ l0 a1_0 t129 t130 _ ?side1 ?side2 A3.out).mono ?_); (case side1 => repeat (first | exact (Kd.C_below HR0.out HB.out) | (with_reducible refine Kd.C_alloc ?_ _) | (with_reducible refine Kd.C_drewN ?_ _) | (with_reducible refine Kd.C_drew ?_))); (case side2 => exact HC0.out); rintro e w7 ⟨rfl, hb⟩; refine ⟨_, rfl, ?_⟩; have n0_ := Aside0.mk (blk_below (g := gb128) (o := .cells #[.int .u64 a1_0, .int .u64 a1_1, .int .u64 a1_2, .int .u64 a1_3, .int .i64 a1_4] 74 (0, 0)) (by (with_reducible repeat (first | refine blk_drewN ?_ _ | refine blk_drew ?_ | refine blk_alloc ?_ _)); exact BK128.out) hb); have n1_ := Aside0.mk (below_step (by repeat (first | (with_reducible first | exact HB.out | apply below_alloc | apply pw_below_drewN | apply below_drew1 | refine below_set ?_ GE128.out) | exact HB.out)) hb); clear BK128; clear HB; have BK128 := n0_; have HB := n1_; clear n0_ n1_; (try clear hb); (try clear hb2); (try clear hk); (try clear hi)))
  (try simp only [Act.put, List.setIfInBounds_toArray, List.set_cons_zero, List.set_cons_succ])
  go_cut [16] (fun v16 wc => ∃ (kq : Nat) (x16_3 : Bool), v16 = .bool x16_3 ∧ Aside0 (payment_Start.j0 kq l0 t129 t130 x16_3 a1_0 a1_1 a1_2 a1_3 a1_4 = some (r1, r2)) ∧ Aside0 (kq ≤ k) ∧ Aside0 (wc.heap[gb128]? = some (.cells #[.int .u64 a1_0, .int .u64 a1_1, .int .u64 a1_2, .int .u64 a1_3, .int .i64 a1_4] 74 (0, 0))) ∧ Aside0 (Below w.heap.size w wc))
  case first =>
    have H := HC4.out
    clear HC4
    by_cases c8 : t130 = 1
    · rw [if_pos c8] at H
      have c8b0 : (t130 == 1) = true := beq_iff_eq.mpr c8
      have c8b1 : (t130 != 1) = false := bne_eq_false_iff_eq.mpr c8
      clear c8
      (first | rw [c8b0] | (simp only [i64_w, i32_w]; rw [c8b0]) | skip)
      have H' := Aside0.mk H
      clear H
      go_wp2
      go_meet
      case rel => exact ⟨_, (true), (by first | rfl | (simp; done) | (simp [*]; done)), H', ⟨by first | omega | exact Nat.le_refl _⟩, ⟨by (with_reducible repeat (first | refine blk_drewN ?_ _ | refine blk_drew ?_ | refine blk_alloc ?_ _)); exact BK128.out⟩, ⟨by repeat (first | (with_reducible first | exact HB.out | apply below_alloc | apply pw_below_drewN | apply below_drew1 | refine below_set ?_ GE128.out) | exact HB.out)⟩⟩
    · rw [if_neg c8] at H
      have c8b0 : (t130 == 1) = false := beq_eq_false_iff_ne.mpr c8
      have c8b1 : (t130 != 1) = true := bne_iff_ne.mpr c8
      (first | rw [c8b0] | (simp only [i64_w, i32_w]; rw [c8b0]) | skip)
      replace H := Option.bind_eq_some_iff.mp H
      obtain ⟨t131, A90, H⟩ := H
      replace H : (if t131 = true then (payment_Start.j0 k l0 t129 t130 (a1_4 != 1) a1_0 a1_1 a1_2 a1_3 a1_4) else (payment_Start.j0 k l0 t129 t130 true a1_0 a1_1 a1_2 a1_3 a1_4)) = some (r1, r2) := H
      have A9 := Aside0.mk A90
      clear A90
      by_cases c10 : t131 = true
      · subst c10
        have H1 : (payment_Start.j0 k l0 t129 t130 (a1_4 != 1) a1_0 a1_1 a1_2 a1_3 a1_4) = some (r1, r2) := by rw [if_pos rfl] at H; exact H
        clear H
        have H := H1
        clear H1
        have H' := Aside0.mk H
        clear H
        have hcz11_0 : w7.cell? ⟨gb128, 0, none⟩ = some (.int .u64 a1_0) := (blk_cell BK128.out 0).trans rfl
        have hcz11_1 : w7.cell? ⟨gb128, 1, none⟩ = some (.int .u64 a1_1) := (blk_cell BK128.out 1).trans rfl
        have hcz11_2 : w7.cell? ⟨gb128, 2, none⟩ = some (.int .u64 a1_2) := (blk_cell BK128.out 2).trans rfl
        have hcz11_3 : w7.cell? ⟨gb128, 3, none⟩ = some (.int .u64 a1_3) := (blk_cell BK128.out 3).trans rfl
        have hcz11_4 : w7.cell? ⟨gb128, 4, none⟩ = some (.int .i64 a1_4) := (blk_cell BK128.out 4).trans rfl
        have hfz11_0 := blk_frozen BK128.out 0
        have hfz11_1 := blk_frozen BK128.out 1
        have hfz11_2 := blk_frozen BK128.out 2
        have hfz11_3 := blk_frozen BK128.out 3
        have hfz11_4 := blk_frozen BK128.out 4
        go_wp2_with (first | (go_at_call 116; (with_reducible refine (payment_may.calls k a1_0 a1_1 a1_2 a1_3 a1_4 true _ A9.out).mono ?_); rintro e w12 ⟨rfl, hb⟩; have n0_ := Aside0.mk (blk_below (g := gb128) (o := .cells #[.int .u64 a1_0, .int .u64 a1_1, .int .u64 a1_2, .int .u64 a1_3, .int .i64 a1_4] 74 (0, 0)) (by (with_reducible repeat (first | refine blk_drewN ?_ _ | refine blk_drew ?_ | refine blk_alloc ?_ _)); exact BK128.out) hb); have n1_ := Aside0.mk (below_step (by repeat (first | (with_reducible first | exact HB.out | apply below_alloc | apply pw_below_drewN | apply below_drew1 | refine below_set ?_ GE128.out) | exact HB.out)) hb); clear BK128; clear HB; have BK128 := n0_; have HB := n1_; clear n0_ n1_; (try clear hb); (try clear hb2); (try clear hk); (try clear hi); have hcz13_0 : w12.cell? ⟨gb128, 0, none⟩ = some (.int .u64 a1_0) := (blk_cell BK128.out 0).trans rfl; have hcz13_1 : w12.cell? ⟨gb128, 1, none⟩ = some (.int .u64 a1_1) := (blk_cell BK128.out 1).trans rfl; have hcz13_2 : w12.cell? ⟨gb128, 2, none⟩ = some (.int .u64 a1_2) := (blk_cell BK128.out 2).trans rfl; have hcz13_3 : w12.cell? ⟨gb128, 3, none⟩ = some (.int .u64 a1_3) := (blk_cell BK128.out 3).trans rfl; have hcz13_4 : w12.cell? ⟨gb128, 4, none⟩ = some (.int .i64 a1_4) := (blk_cell BK128.out 4).trans rfl; have hfz13_0 := blk_frozen BK128.out 0; have hfz13_1 := blk_frozen BK128.out 1; have hfz13_2 := blk_frozen BK128.out 2; have hfz13_3 := blk_frozen BK128.out 3; have hfz13_4 := blk_frozen BK128.out 4))
        go_meet
        case rel => exact ⟨_, ((a1_4 != 1)), (by first | rfl | (simp; done) | (simp [*]; done)), H', ⟨by first | omega | exact Nat.le_refl _⟩, ⟨by (with_reducible repeat (first | refine blk_drewN ?_ _ | refine blk_drew ?_ | refine blk_alloc ?_ _)); exact BK128.out⟩, ⟨by repeat (first | (with_reducible first | exact HB.out | apply below_alloc | apply pw_below_drewN | apply below_drew1 | refine below_set ?_ GE128.out) | exact HB.out)⟩⟩
      · replace c10 := Bool.eq_false_iff.mpr c10
        subst c10
        have H1 : (payment_Start.j0 k l0 t129 t130 true a1_0 a1_1 a1_2 a1_3 a1_4) = some (r1, r2) := by rw [if_neg (show ¬ (false = true) by decide)] at H; exact H
        clear H
        have H := H1
        clear H1
        have H' := Aside0.mk H
        clear H
        have hcz14_0 : w7.cell? ⟨gb128, 0, none⟩ = some (.int .u64 a1_0) := (blk_cell BK128.out 0).trans rfl
        have hcz14_1 : w7.cell? ⟨gb128, 1, none⟩ = some (.int .u64 a1_1) := (blk_cell BK128.out 1).trans rfl
        have hcz14_2 : w7.cell? ⟨gb128, 2, none⟩ = some (.int .u64 a1_2) := (blk_cell BK128.out 2).trans rfl
        have hcz14_3 : w7.cell? ⟨gb128, 3, none⟩ = some (.int .u64 a1_3) := (blk_cell BK128.out 3).trans rfl
        have hcz14_4 : w7.cell? ⟨gb128, 4, none⟩ = some (.int .i64 a1_4) := (blk_cell BK128.out 4).trans rfl
        have hfz14_0 := blk_frozen BK128.out 0
        have hfz14_1 := blk_frozen BK128.out 1
        have hfz14_2 := blk_frozen BK128.out 2
        have hfz14_3 := blk_frozen BK128.out 3
        have hfz14_4 := blk_frozen BK128.out 4
        go_wp2_with (first | (go_at_call 116; (with_reducible refine (payment_may.calls k a1_0 a1_1 a1_2 a1_3 a1_4 false _ A9.out).mono ?_); rintro e w15 ⟨rfl, hb⟩; have n0_ := Aside0.mk (blk_below (g := gb128) (o := .cells #[.int .u64 a1_0, .int .u64 a1_1, .int .u64 a1_2, .int .u64 a1_3, .int .i64 a1_4] 74 (0, 0)) (by (with_reducible repeat (first | refine blk_drewN ?_ _ | refine blk_drew ?_ | refine blk_alloc ?_ _)); exact BK128.out) hb); have n1_ := Aside0.mk (below_step (by repeat (first | (with_reducible first | exact HB.out | apply below_alloc | apply pw_below_drewN | apply below_drew1 | refine below_set ?_ GE128.out) | exact HB.out)) hb); clear BK128; clear HB; have BK128 := n0_; have HB := n1_; clear n0_ n1_; (try clear hb); (try clear hb2); (try clear hk); (try clear hi)))
        go_meet
        case rel => exact ⟨_, (true), (by first | rfl | (simp; done) | (simp [*]; done)), H', ⟨by first | omega | exact Nat.le_refl _⟩, ⟨by (with_reducible repeat (first | refine blk_drewN ?_ _ | refine blk_drew ?_ | refine blk_alloc ?_ _)); exact BK128.out⟩, ⟨by repeat (first | (with_reducible first | exact HB.out | apply below_alloc | apply pw_below_drewN | apply below_drew1 | refine below_set ?_ GE128.out) | exact HB.out)⟩⟩
  case rest =>
    clear HC4
    try clear c1
    try clear p2
    try clear c7
    try clear c8
    try clear c8b0
    try clear c8b1
    try clear c10
    try clear c11
    try clear hcz11_0
    try clear hcz11_1
    try clear hcz11_2
    try clear hcz11_3
    try clear hcz11_4
    try clear hcz13_0
    try clear hcz13_1
    try clear hcz13_2
    try clear hcz13_3
    try clear hcz13_4
    try clear hcz14_0
    try clear hcz14_1
    try clear hcz14_2
    try clear hcz14_3
    try clear hcz14_4
    try clear hcz6_0
    try clear hcz6_1
    try clear hcz6_2
    try clear hcz6_3
    try clear hcz6_4
    try clear hfz11_0
    try clear hfz11_1
    try clear hfz11_2
    try clear hfz11_3
    try clear hfz11_4
    try clear hfz13_0
    try clear hfz13_1
    try clear hfz13_2
    try clear hfz13_3
    try clear hfz13_4
    try clear hfz14_0
    try clear hfz14_1
    try clear hfz14_2
    try clear hfz14_3
    try clear hfz14_4
    try clear hfz6_0
    try clear hfz6_1
    try clear hfz6_2
    try clear hfz6_3
    try clear hfz6_4
    obtain ⟨kq, x16_3, rfl, HA, HJ3, BK128, HB⟩ := hcut
    cases kq with
    | zero => exact absurd HA.out (by simp [payment_Start.j0])
    | succ kj3 =>
      have H := HA.out
      clear HA
      simp only [payment_Start.j0] at H
      by_cases c16 : x16_3 = true
      · subst c16
        have H1 : (some (([] : List (S74)), 1)) = some (r1, r2) := by rw [if_pos rfl] at H; exact H
        clear H
        have H := H1
        clear H1
        simp only [Option.some.injEq, Prod.mk.injEq] at H
        obtain ⟨rfl, rfl⟩ := H
        go_wp2
        go_ret2
        exact ⟨_, by first | rfl | (simp [errW_none, errW_some] <;> rfl) | (simp [*, errW_none, errW_some] <;> rfl), by first | exact Kd.R_nil _ _ _ _ _ | exact Kd.N_nil _ _ _ _ _ | exact Kd.V_nil _ _ _ _ _ | exact Kd.Q_nil _ _ _ _ _ | exact Kd.S_nil _ _ _ _ _, by repeat (first | (with_reducible first | exact HB.out | apply below_alloc | apply pw_below_drewN | apply below_drew1 | refine below_set ?_ GE128.out) | exact HB.out)⟩
      · replace c16 := Bool.eq_false_iff.mpr c16
        subst c16
        have H1 : (if t130 = 0 then (some (([] : List (S74)), 6)) else ((slices_Clone_Payment.f l0).bind fun t132 => (if (t132.length : Int) = 256 then ((slices_IndexFunc_Payment_at_payment_Start_1.f kj3 t132).bind fun t135 => (if t135 < 0 then (some (([] : List (S74)), 7)) else ((slices_Delete_Payment.f t132 t135 (wrap64 (t135 + 1))).bind fun t136 => (if t135 < t129 then ((slices_Insert_Payment.f t136 (wrap64 (t129 - 1)) (([(⟨a1_0, a1_1, a1_2, a1_3, a1_4⟩ : S74)] : List (S74)))).bind fun t142 => (some (t142, 0))) else ((slices_Insert_Payment.f t136 t129 (([(⟨a1_0, a1_1, a1_2, a1_3, a1_4⟩ : S74)] : List (S74)))).bind fun t148 => (some (t148, 0))))))) else ((slices_Insert_Payment.f t132 t129 (([(⟨a1_0, a1_1, a1_2, a1_3, a1_4⟩ : S74)] : List (S74)))).bind fun t154 => (some (t154, 0)))))) = some (r1, r2) := by rw [if_neg (show ¬ (false = true) by decide)] at H; exact H
        clear H
        have H := H1
        clear H1
        by_cases c17 : t130 = 0
        · rw [if_pos c17] at H
          have c17b0 : (t130 == 0) = true := beq_iff_eq.mpr c17
          have c17b1 : (t130 != 0) = false := bne_eq_false_iff_eq.mpr c17
          clear c17
          simp only [Option.some.injEq, Prod.mk.injEq] at H
          obtain ⟨rfl, rfl⟩ := H
          go_wp2
          go_ret2
          exact ⟨_, by first | rfl | (simp [errW_none, errW_some] <;> rfl) | (simp [*, errW_none, errW_some] <;> rfl), by first | exact Kd.R_nil _ _ _ _ _ | exact Kd.N_nil _ _ _ _ _ | exact Kd.V_nil _ _ _ _ _ | exact Kd.Q_nil _ _ _ _ _ | exact Kd.S_nil _ _ _ _ _, by repeat (first | (with_reducible first | exact HB.out | apply below_alloc | apply pw_below_drewN | apply below_drew1 | refine below_set ?_ GE128.out) | exact HB.out)⟩
        · rw [if_neg c17] at H
          have c17b0 : (t130 == 0) = false := beq_eq_false_iff_ne.mpr c17
          have c17b1 : (t130 != 0) = true := bne_iff_ne.mpr c17
          replace H := Option.bind_eq_some_iff.mp H
          obtain ⟨t132, A180, H⟩ := H
          replace H : (if (t132.length : Int) = 256 then ((slices_IndexFunc_Payment_at_payment_Start_1.f kj3 t132).bind fun t135 => (if t135 < 0 then (some (([] : List (S74)), 7)) else ((slices_Delete_Payment.f t132 t135 (wrap64 (t135 + 1))).bind fun t136 => (if t135 < t129 then ((slices_Insert_Payment.f t136 (wrap64 (t129 - 1)) (([(⟨a1_0, a1_1, a1_2, a1_3, a1_4⟩ : S74)] : List (S74)))).bind fun t142 => (some (t142, 0))) else ((slices_Insert_Payment.f t136 t129 (([(⟨a1_0, a1_1, a1_2, a1_3, a1_4⟩ : S74)] : List (S74)))).bind fun t148 => (some (t148, 0))))))) else ((slices_Insert_Payment.f t132 t129 (([(⟨a1_0, a1_1, a1_2, a1_3, a1_4⟩ : S74)] : List (S74)))).bind fun t154 => (some (t154, 0)))) = some (r1, r2) := H
          have A18 := Aside0.mk A180
          clear A180
          by_cases c19 : (t132.length : Int) = 256
          · rw [if_pos c19] at H
            have c19b0 : ((t132.length : Int) == 256) = true := beq_iff_eq.mpr c19
            have c19b1 : ((t132.length : Int) != 256) = false := bne_eq_false_iff_eq.mpr c19
            clear c19
            replace H := Option.bind_eq_some_iff.mp H
            obtain ⟨t135, A200, H⟩ := H
            replace H : (if t135 < 0 then (some (([] : List (S74)), 7)) else ((slices_Delete_Payment.f t132 t135 (wrap64 (t135 + 1))).bind fun t136 => (if t135 < t129 then ((slices_Insert_Payment.f t136 (wrap64 (t129 - 1)) (([(⟨a1_0, a1_1, a1_2, a1_3, a1_4⟩ : S74)] : List (S74)))).bind fun t142 => (some (t142, 0))) else ((slices_Insert_Payment.f t136 t129 (([(⟨a1_0, a1_1, a1_2, a1_3, a1_4⟩ : S74)] : List (S74)))).bind fun t148 => (some (t148, 0)))))) = some (r1, r2) := H
            have A20 := Aside0.mk A200
            clear A200
            by_cases c21 : t135 < 0
            · rw [if_pos c21] at H
              have c21b0 : decide (t135 < 0) = true := decide_eq_true c21
              clear c21
              simp only [Option.some.injEq, Prod.mk.injEq] at H
              obtain ⟨rfl, rfl⟩ := H
              go_wp2_with (first | ((with_reducible refine gate_callee (f := 117) rfl ?_); refine goesL_ (some 33) rfl rfl Try.func117 (by kernel_rfl) rfl #[.slice A0 l0.length c0] rfl (by (try simp only [List.map_toArray, List.map_cons, List.map_nil]); first | done | rfl | (simp only [List.length_drop, List.length_take]; rfl)) ?_; (with_reducible refine (slices_Clone_Payment.calls _ _ l0 t132 _ ?side1 ?side2 A18.out).mono ?_); (case side1 => repeat (first | exact (Kd.C_below HR0.out HB.out) | (with_reducible refine Kd.C_alloc ?_ _) | (with_reducible refine Kd.C_drewN ?_ _) | (with_reducible refine Kd.C_drew ?_))); (case side2 => exact HC0.out); rintro e w22 ⟨v133, rfl, ho0, hb⟩; refine ⟨_, rfl, ?_⟩; have n0_ := Aside0.mk (Kd.R_lower (Kd.R_newB ho0 (g := gb128) (o := .cells #[.int .u64 a1_0, .int .u64 a1_1, .int .u64 a1_2, .int .u64 a1_3, .int .i64 a1_4] 74 (0, 0)) (by (with_reducible repeat (first | refine blk_drewN ?_ _ | refine blk_drew ?_ | refine blk_alloc ?_ _)); exact BK128.out)) (below_size (by repeat (first | (with_reducible first | exact HB.out | apply below_alloc | apply pw_below_drewN | apply below_drew1 | refine below_set ?_ GE128.out) | exact HB.out)))); have n1_ := Aside0.mk (blk_below (g := gb128) (o := .cells #[.int .u64 a1_0, .int .u64 a1_1, .int .u64 a1_2, .int .u64 a1_3, .int .i64 a1_4] 74 (0, 0)) (by (with_reducible repeat (first | refine blk_drewN ?_ _ | refine blk_drew ?_ | refine blk_alloc ?_ _)); exact BK128.out) hb); have n2_ := Aside0.mk (below_step (by repeat (first | (with_reducible first | exact HB.out | apply below_alloc | apply pw_below_drewN | apply below_drew1 | refine below_set ?_ GE128.out) | exact HB.out)) hb); clear BK128; clear HB; have HO134 := n0_; have BK128 := n1_; have HB := n2_; clear n0_ n1_ n2_; (try clear hb); (try clear hb2); (try clear hk); (try clear hi); (try clear ho0); obtain ⟨Ao23, co23, eo23⟩ := Kd.R_slice HO134.out; subst eo23) | ((with_reducible refine gate_callee (f := 118) rfl ?_); refine goesL_ (some 38) rfl rfl Try.func118 (by kernel_rfl) rfl #[.slice Ao23 t132.length co23, .func (.func 119) #[] #[]] rfl (by (try simp only [List.map_toArray, List.map_cons, List.map_nil]); first | done | rfl | (simp only [List.length_drop, List.length_take]; rfl)) ?_; (with_reducible refine (slices_IndexFunc_Payment_at_payment_Start_1.calls kj3 _ _ t132  t135 _ ?side1 ?side2 A20.out).mono ?_); (case side1 => repeat (first | exact (Kd.R_reads' HO134.out).2.2 | (with_reducible refine Kd.C_alloc ?_ _) | (with_reducible refine Kd.C_drewN ?_ _) | (with_reducible refine Kd.C_drew ?_))); (case side2 => exact (Kd.R_reads' HO134.out).2.1); rintro e w24 ⟨rfl, hb⟩; refine ⟨_, rfl, ?_⟩; have n0_ := Aside0.mk (Kd.R_below (by (with_reducible repeat (first | apply Kd.R_alloc | apply Kd.R_drewN | apply Kd.R_drew)); exact HO134.out) hb); have n1_ := Aside0.mk (blk_below (g := gb128) (o := .cells #[.int .u64 a1_0, .int .u64 a1_1, .int .u64 a1_2, .int .u64 a1_3, .int .i64 a1_4] 74 (0, 0)) (by (with_reducible repeat (first | refine blk_drewN ?_ _ | refine blk_drew ?_ | refine blk_alloc ?_ _)); exact BK128.out) hb); have n2_ := Aside0.mk (below_step (by repeat (first | (with_reducible first | exact HB.out | apply below_alloc | apply pw_below_drewN | apply below_drew1 | refine below_set ?_ GE128.out) | exact HB.out)) hb); clear HO134; clear BK128; clear HB; have HO134 := n0_; have BK128 := n1_; have HB := n2_; clear n0_ n1_ n2_; (try clear hb); (try clear hb2); (try clear hk); (try clear hi)))
              go_ret2
              exact ⟨_, by first | rfl | (simp [errW_none, errW_some] <;> rfl) | (simp [*, errW_none, errW_some] <;> rfl), by first | exact Kd.R_nil _ _ _ _ _ | exact Kd.N_nil _ _ _ _ _ | exact Kd.V_nil _ _ _ _ _ | exact Kd.Q_nil _ _ _ _ _ | exact Kd.S_nil _ _ _ _ _, by repeat (first | (with_reducible first | exact HB.out | apply below_alloc | apply pw_below_drewN | apply below_drew1 | refine below_set ?_ GE128.out) | exact HB.out)⟩
            · rw [if_neg c21] at H
              have c21b0 : decide (t135 < 0) = false := decide_eq_false c21
              clear c21
              replace H := Option.bind_eq_some_iff.mp H
              obtain ⟨t136, A250, H⟩ := H
              replace H : (if t135 < t129 then ((slices_Insert_Payment.f t136 (wrap64 (t129 - 1)) (([(⟨a1_0, a1_1, a1_2, a1_3, a1_4⟩ : S74)] : List (S74)))).bind fun t142 => (some (t142, 0))) else ((slices_Insert_Payment.f t136 t129 (([(⟨a1_0, a1_1, a1_2, a1_3, a1_4⟩ : S74)] : List (S74)))).bind fun t148 => (some (t148, 0)))) = some (r1, r2) := H
              have A25 := Aside0.mk A250
              clear A250
              by_cases c26 : t135 < t129
              · rw [if_pos c26] at H
                have c26b0 : decide (t135 < t129) = true := decide_eq_true c26
                clear c26
                obtain ⟨y139, hy139⟩ : ∃ y_ : List (S74), y_ = (([(⟨a1_0, a1_1, a1_2, a1_3, a1_4⟩ : S74)] : List (S74))) := ⟨_, rfl⟩
                replace H : ((slices_Insert_Payment.f t136 (wrap64 (t129 - 1)) y139).bind fun t142 => (some (t142, 0))) = some (r1, r2) := by first | (rw [hy139]; with_reducible exact H) | (have H2_ := (Option.bind_some _ _).symm.trans H; rw [hy139]; with_reducible exact H2_) | (have H2_ := (Option.bind_some _ _).symm.trans H; with_reducible exact H2_) | with_reducible exact H | (rw [hy139]; exact H) | exact H
                have Ny139 := Aside0.mk hy139
                clear hy139
                replace H := Option.bind_eq_some_iff.mp H
                obtain ⟨t142, A270, H⟩ := H
                replace H : (some (t142, 0)) = some (r1, r2) := H
                have A27 := Aside0.mk A270
                clear A270
                simp only [Option.some.injEq, Prod.mk.injEq] at H
                obtain ⟨rfl, rfl⟩ := H
                go_wp2_with (first | ((with_reducible refine gate_callee (f := 117) rfl ?_); refine goesL_ (some 33) rfl rfl Try.func117 (by kernel_rfl) rfl #[.slice A0 l0.length c0] rfl (by (try simp only [List.map_toArray, List.map_cons, List.map_nil]); first | done | rfl | (simp only [List.length_drop, List.length_take]; rfl)) ?_; (with_reducible refine (slices_Clone_Payment.calls _ _ l0 t132 _ ?side1 ?side2 A18.out).mono ?_); (case side1 => repeat (first | exact (Kd.C_below HR0.out HB.out) | (with_reducible refine Kd.C_alloc ?_ _) | (with_reducible refine Kd.C_drewN ?_ _) | (with_reducible refine Kd.C_drew ?_))); (case side2 => exact HC0.out); rintro e w28 ⟨v133, rfl, ho0, hb⟩; refine ⟨_, rfl, ?_⟩; have n0_ := Aside0.mk (Kd.R_lower (Kd.R_newB ho0 (g := gb128) (o := .cells #[.int .u64 a1_0, .int .u64 a1_1, .int .u64 a1_2, .int .u64 a1_3, .int .i64 a1_4] 74 (0, 0)) (by (with_reducible repeat (first | refine blk_drewN ?_ _ | refine blk_drew ?_ | refine blk_alloc ?_ _)); exact BK128.out)) (below_size (by repeat (first | (with_reducible first | exact HB.out | apply below_alloc | apply pw_below_drewN | apply below_drew1 | refine below_set ?_ GE128.out) | exact HB.out)))); have n1_ := Aside0.mk (blk_below (g := gb128) (o := .cells #[.int .u64 a1_0, .int .u64 a1_1, .int .u64 a1_2, .int .u64 a1_3, .int .i64 a1_4] 74 (0, 0)) (by (with_reducible repeat (first | refine blk_drewN ?_ _ | refine blk_drew ?_ | refine blk_alloc ?_ _)); exact BK128.out) hb); have n2_ := Aside0.mk (below_step (by repeat (first | (with_reducible first | exact HB.out | apply below_alloc | apply pw_below_drewN | apply below_drew1 | refine below_set ?_ GE128.out) | exact HB.out)) hb); clear BK128; clear HB; have HO134 := n0_; have BK128 := n1_; have HB := n2_; clear n0_ n1_ n2_; (try clear hb); (try clear hb2); (try clear hk); (try clear hi); (try clear ho0); obtain ⟨Ao29, co29, eo29⟩ := Kd.R_slice HO134.out; subst eo29) | ((with_reducible refine gate_callee (f := 118) rfl ?_); refine goesL_ (some 38) rfl rfl Try.func118 (by kernel_rfl) rfl #[.slice Ao29 t132.length co29, .func (.func 119) #[] #[]] rfl (by (try simp only [List.map_toArray, List.map_cons, List.map_nil]); first | done | rfl | (simp only [List.length_drop, List.length_take]; rfl)) ?_; (with_reducible refine (slices_IndexFunc_Payment_at_payment_Start_1.calls kj3 _ _ t132  t135 _ ?side1 ?side2 A20.out).mono ?_); (case side1 => repeat (first | exact (Kd.R_reads' HO134.out).2.2 | (with_reducible refine Kd.C_alloc ?_ _) | (with_reducible refine Kd.C_drewN ?_ _) | (with_reducible refine Kd.C_drew ?_))); (case side2 => exact (Kd.R_reads' HO134.out).2.1); rintro e w30 ⟨rfl, hb⟩; refine ⟨_, rfl, ?_⟩; have n0_ := Aside0.mk (Kd.R_below (by (with_reducible repeat (first | apply Kd.R_alloc | apply Kd.R_drewN | apply Kd.R_drew)); exact HO134.out) hb); have n1_ := Aside0.mk (blk_below (g := gb128) (o := .cells #[.int .u64 a1_0, .int .u64 a1_1, .int .u64 a1_2, .int .u64 a1_3, .int .i64 a1_4] 74 (0, 0)) (by (with_reducible repeat (first | refine blk_drewN ?_ _ | refine blk_drew ?_ | refine blk_alloc ?_ _)); exact BK128.out) hb); have n2_ := Aside0.mk (below_step (by repeat (first | (with_reducible first | exact HB.out | apply below_alloc | apply pw_below_drewN | apply below_drew1 | refine below_set ?_ GE128.out) | exact HB.out)) hb); clear HO134; clear BK128; clear HB; have HO134 := n0_; have BK128 := n1_; have HB := n2_; clear n0_ n1_ n2_; (try clear hb); (try clear hb2); (try clear hk); (try clear hi)) | ((with_reducible refine gate_callee (f := 120) rfl ?_); refine goesL_ (some 45) rfl rfl Try.func120 (by kernel_rfl) rfl #[.slice Ao29 t132.length co29, .int .i64 t135, .int .i64 (wrap64 (t135 + 1))] rfl (by (try simp only [List.map_toArray, List.map_cons, List.map_nil]); first | done | rfl | (simp only [List.length_drop, List.length_take]; rfl)) ?_; (with_reducible refine (slices_Delete_Payment.calls (fun k_ => some k_ = (.slice Ao29 t132.length co29 : Value).ownBlock) (.slice Ao29 t132.length co29) t132 t135 (wrap64 (t135 + 1)) t136 w _ ?side1 ?side2 A25.out).mono ?_); (case side1 => repeat (first | (with_reducible first | exact HB.out | apply below_alloc | apply pw_below_drewN | apply below_drew1 | refine below_set ?_ GE128.out) | exact HB.out)); (case side2 => exact Kd.R_tight rfl HO134.out); rintro e w31 ⟨v137, rfl, ho0, hb, hkp⟩; refine ⟨_, rfl, ?_⟩; have n0_ := Aside0.mk (blk_kept (by (with_reducible repeat (first | refine blk_drewN ?_ _ | refine blk_drew ?_ | refine blk_alloc ?_ _)); exact BK128.out) hkp (fun hs_ => (fun e_ => (Kd.R_away HO134.out (fun _ hk => hk.2)) e_) hs_)); have n1_ := Aside0.mk (Kd.R_mono (ok' := fun k_ => k_ ≠ gb128) ho0 (fun k_ hk_ => Or.elim hk_ (fun hs_ => fun e_ => (Kd.R_away HO134.out (fun _ hk => hk.2)) (by rw [← e_]; exact hs_)) (fun hn_ => (Kd.freshB (g := gb128) (o := .cells #[.int .u64 a1_0, .int .u64 a1_1, .int .u64 a1_2, .int .u64 a1_3, .int .i64 a1_4] 74 (0, 0)) (by (with_reducible repeat (first | refine blk_drewN ?_ _ | refine blk_drew ?_ | refine blk_alloc ?_ _)); exact BK128.out) k_ hn_)))); have n2_ := Aside0.mk (hb); clear BK128; clear HB; clear HO134; have BK128 := n0_; have HO138 := n1_; have HB := n2_; clear n0_ n1_ n2_; (try clear hb); (try clear hkp); (try clear ho0); have hcz32_0 : w31.cell? ⟨gb128, 0, none⟩ = some (.int .u64 a1_0) := (blk_cell BK128.out 0).trans rfl; have hcz32_1 : w31.cell? ⟨gb128, 1, none⟩ = some (.int .u64 a1_1) := (blk_cell BK128.out 1).trans rfl; have hcz32_2 : w31.cell? ⟨gb128, 2, none⟩ = some (.int .u64 a1_2) := (blk_cell BK128.out 2).trans rfl; have hcz32_3 : w31.cell? ⟨gb128, 3, none⟩ = some (.int .u64 a1_3) := (blk_cell BK128.out 3).trans rfl; have hcz32_4 : w31.cell? ⟨gb128, 4, none⟩ = some (.int .i64 a1_4) := (blk_cell BK128.out 4).trans rfl; have hfz32_0 := blk_frozen BK128.out 0; have hfz32_1 := blk_frozen BK128.out 1; have hfz32_2 := blk_frozen BK128.out 2; have hfz32_3 := blk_frozen BK128.out 3; have hfz32_4 := blk_frozen BK128.out 4) | ((with_reducible refine gate_dst (N := 54) rfl ?_); refine Kd.R_lit k74 _ 74 ?hg (N := 54) ?hd (xs := ([(⟨a1_0, a1_1, a1_2, a1_3, a1_4⟩ : S74)] : List (S74))) (inner := [.int .u64 a1_0, .int .u64 a1_1, .int .u64 a1_2, .int .u64 a1_3, .int .i64 a1_4]) (ok := fun _ => True) (okp := fun _ => True) ?hr ?hp (fun _ hk => hk) trivial (Below.refl _ _) (Nat.le_refl _) (by simp) ?_; (case hd => rfl); (case hg => rfl); (case hr => first | (go_simp; done) | (go_simp; rfl)); (case hp => exact (Reps.c5 (show Kd.M k74 _ _ _ (⟨a1_0, a1_1, a1_2, a1_3, a1_4⟩ : S74) [.int .u64 a1_0, .int .u64 a1_1, .int .u64 a1_2, .int .u64 a1_3, .int .i64 a1_4] from (k74_mkM _ _ _ (⟨a1_0, a1_1, a1_2, a1_3, a1_4⟩ : S74) )) (Reps.none _ _))); intro v140 w33 ho34 hb hg_ hnew_; clear hg_ hnew_; (first | rw [← Ny139.out] at ho34 | (simp only [Int.reduceToNat] at ho34; rw [← Ny139.out] at ho34)); have n0_ := Aside0.mk (Kd.R_elder' (by (with_reducible repeat (first | apply Kd.R_alloc | apply Kd.R_drewN | apply Kd.R_drew)); exact HO138.out) (Kd.R_base ho34) hb); have n1_ := Aside0.mk (Kd.R_lower (Kd.R_newB (Kd.R_new' ho34 (Kd.R_lt (by (with_reducible repeat (first | apply Kd.R_alloc | apply Kd.R_drewN | apply Kd.R_drew)); exact HO138.out))) (g := gb128) (o := .cells #[.int .u64 a1_0, .int .u64 a1_1, .int .u64 a1_2, .int .u64 a1_3, .int .i64 a1_4] 74 (0, 0)) (by (with_reducible repeat (first | refine blk_drewN ?_ _ | refine blk_drew ?_ | refine blk_alloc ?_ _)); exact BK128.out)) (below_size (by repeat (first | (with_reducible first | exact HB.out | apply below_alloc | apply pw_below_drewN | apply below_drew1 | refine below_set ?_ GE128.out) | exact HB.out)))); have n2_ := Aside0.mk (blk_below (g := gb128) (o := .cells #[.int .u64 a1_0, .int .u64 a1_1, .int .u64 a1_2, .int .u64 a1_3, .int .i64 a1_4] 74 (0, 0)) (by (with_reducible repeat (first | refine blk_drewN ?_ _ | refine blk_drew ?_ | refine blk_alloc ?_ _)); exact BK128.out) hb); have n3_ := Aside0.mk (below_step (by repeat (first | (with_reducible first | exact HB.out | apply below_alloc | apply pw_below_drewN | apply below_drew1 | refine below_set ?_ GE128.out) | exact HB.out)) hb); clear HO138; clear BK128; clear HB; have HO138 := n0_; have HO141 := n1_; have BK128 := n2_; have HB := n3_; clear n0_ n1_ n2_ n3_; clear hb ho34; obtain ⟨Ao35, co35, eo35⟩ := Kd.R_slice HO138.out; subst eo35; obtain ⟨Ao36, co36, eo36⟩ := Kd.R_slice HO141.out; subst eo36) | ((with_reducible refine gate_callee (f := 121) rfl ?_); refine goesL_ (some 55) rfl rfl Try.func121 (by kernel_rfl) rfl #[.slice Ao35 t136.length co35, .int .i64 (wrap64 (t129 - 1)), .slice Ao36 y139.length co36] rfl (by (try simp only [List.map_toArray, List.map_cons, List.map_nil]); first | done | rfl | (simp only [List.length_drop, List.length_take]; rfl)) ?_; (with_reducible refine (slices_Insert_Payment.calls (fun k_ => some k_ = (.slice Ao35 t136.length co35 : Value).ownBlock) (.slice Ao35 t136.length co35) t136 (wrap64 (t129 - 1)) (fun k_ => some k_ = (.slice Ao36 y139.length co36 : Value).ownBlock) (.slice Ao36 y139.length co36) y139 t142 w _ ?side1 ?side2 ?side3 ?side4 ?side5 A27.out).mono ?_); (case side1 => repeat (first | (with_reducible first | exact HB.out | apply below_alloc | apply pw_below_drewN | apply below_drew1 | refine below_set ?_ GE128.out) | exact HB.out)); (case side2 => exact Kd.R_tight rfl HO138.out); (case side3 => exact fun k_ e_ => (HO138.out.1 k_ e_.symm).2); (case side4 => exact Kd.R_tight rfl HO141.out); (case side5 => exact fun k_ e_ => (HO141.out.1 k_ e_.symm).1.2); rintro e w37 ⟨v143, rfl, ho0, hb, hkp⟩; refine ⟨_, rfl, ?_⟩; have n0_ := Aside0.mk (blk_kept (by (with_reducible repeat (first | refine blk_drewN ?_ _ | refine blk_drew ?_ | refine blk_alloc ?_ _)); exact BK128.out) hkp (fun hs_ => Or.elim hs_ (fun e_ => (fun e_ => (Kd.R_away HO138.out (fun _ hk => hk.1)) e_) e_) (fun e_ => (fun e_ => (Kd.R_away HO141.out (fun _ hk => hk.2)) e_) e_))); have n1_ := Aside0.mk (Kd.R_mono (ok' := fun k_ => k_ ≠ gb128) ho0 (fun k_ hk_ => Or.elim hk_ (fun hs_ => Or.elim hs_ (fun hs_ => fun e_ => (Kd.R_away HO138.out (fun _ hk => hk.1)) (by rw [← e_]; exact hs_)) (fun hs_ => fun e_ => (Kd.R_away HO141.out (fun _ hk => hk.2)) (by rw [← e_]; exact hs_))) (fun hn_ => (Kd.freshB (g := gb128) (o := .cells #[.int .u64 a1_0, .int .u64 a1_1, .int .u64 a1_2, .int .u64 a1_3, .int .i64 a1_4] 74 (0, 0)) (by (with_reducible repeat (first | refine blk_drewN ?_ _ | refine blk_drew ?_ | refine blk_alloc ?_ _)); exact BK128.out) k_ hn_)))); have n2_ := Aside0.mk (hb); clear BK128; clear HB; clear HO138; clear HO141; have BK128 := n0_; have HO144 := n1_; have HB := n2_; clear n0_ n1_ n2_; (try clear hb); (try clear hkp); (try clear ho0)))
                go_ret2
                exact ⟨_, by first | rfl | (simp [errW_none, errW_some] <;> rfl) | (simp [*, errW_none, errW_some] <;> rfl), by (with_reducible repeat (first | apply Kd.R_alloc | apply Kd.R_drewN | apply Kd.R_drew)); exact Kd.R_mono HO144.out (fun _ hk => trivial), by repeat (first | (with_reducible first | exact HB.out | apply below_alloc | apply pw_below_drewN | apply below_drew1 | refine below_set ?_ GE128.out) | exact HB.out)⟩
              · rw [if_neg c26] at H
                have c26b0 : decide (t135 < t129) = false := decide_eq_false c26
                clear c26
                obtain ⟨y145, hy145⟩ : ∃ y_ : List (S74), y_ = (([(⟨a1_0, a1_1, a1_2, a1_3, a1_4⟩ : S74)] : List (S74))) := ⟨_, rfl⟩
                replace H : ((slices_Insert_Payment.f t136 t129 y145).bind fun t148 => (some (t148, 0))) = some (r1, r2) := by first | (rw [hy145]; with_reducible exact H) | (have H2_ := (Option.bind_some _ _).symm.trans H; rw [hy145]; with_reducible exact H2_) | (have H2_ := (Option.bind_some _ _).symm.trans H; with_reducible exact H2_) | with_reducible exact H | (rw [hy145]; exact H) | exact H
                have Ny145 := Aside0.mk hy145
                clear hy145
                replace H := Option.bind_eq_some_iff.mp H
                obtain ⟨t148, A380, H⟩ := H
                replace H : (some (t148, 0)) = some (r1, r2) := H
                have A38 := Aside0.mk A380
                clear A380
                simp only [Option.some.injEq, Prod.mk.injEq] at H
                obtain ⟨rfl, rfl⟩ := H
                go_wp2_with (first | ((with_reducible refine gate_callee (f := 117) rfl ?_); refine goesL_ (some 33) rfl rfl Try.func117 (by kernel_rfl) rfl #[.slice A0 l0.length c0] rfl (by (try simp only [List.map_toArray, List.map_cons, List.map_nil]); first | done | rfl | (simp only [List.length_drop, List.length_take]; rfl)) ?_; (with_reducible refine (slices_Clone_Payment.calls _ _ l0 t132 _ ?side1 ?side2 A18.out).mono ?_); (case side1 => repeat (first | exact (Kd.C_below HR0.out HB.out) | (with_reducible refine Kd.C_alloc ?_ _) | (with_reducible refine Kd.C_drewN ?_ _) | (with_reducible refine Kd.C_drew ?_))); (case side2 => exact HC0.out); rintro e w39 ⟨v133, rfl, ho0, hb⟩; refine ⟨_, rfl, ?_⟩; have n0_ := Aside0.mk (Kd.R_lower (Kd.R_newB ho0 (g := gb128) (o := .cells #[.int .u64 a1_0, .int .u64 a1_1, .int .u64 a1_2, .int .u64 a1_3, .int .i64 a1_4] 74 (0, 0)) (by (with_reducible repeat (first | refine blk_drewN ?_ _ | refine blk_drew ?_ | refine blk_alloc ?_ _)); exact BK128.out)) (below_size (by repeat (first | (with_reducible first | exact HB.out | apply below_alloc | apply pw_below_drewN | apply below_drew1 | refine below_set ?_ GE128.out) | exact HB.out)))); have n1_ := Aside0.mk (blk_below (g := gb128) (o := .cells #[.int .u64 a1_0, .int .u64 a1_1, .int .u64 a1_2, .int .u64 a1_3, .int .i64 a1_4] 74 (0, 0)) (by (with_reducible repeat (first | refine blk_drewN ?_ _ | refine blk_drew ?_ | refine blk_alloc ?_ _)); exact BK128.out) hb); have n2_ := Aside0.mk (below_step (by repeat (first | (with_reducible first | exact HB.out | apply below_alloc | apply pw_below_drewN | apply below_drew1 | refine below_set ?_ GE128.out) | exact HB.out)) hb); clear BK128; clear HB; have HO134 := n0_; have BK128 := n1_; have HB := n2_; clear n0_ n1_ n2_; (try clear hb); (try clear hb2); (try clear hk); (try clear hi); (try clear ho0); obtain ⟨Ao40, co40, eo40⟩ := Kd.R_slice HO134.out; subst eo40) | ((with_reducible refine gate_callee (f := 118) rfl ?_); refine goesL_ (some 38) rfl rfl Try.func118 (by kernel_rfl) rfl #[.slice Ao40 t132.length co40, .func (.func 119) #[] #[]] rfl (by (try simp only [List.map_toArray, List.map_cons, List.map_nil]); first | done | rfl | (simp only [List.length_drop, List.length_take]; rfl)) ?_; (with_reducible refine (slices_IndexFunc_Payment_at_payment_Start_1.calls kj3 _ _ t132  t135 _ ?side1 ?side2 A20.out).mono ?_); (case side1 => repeat (first | exact (Kd.R_reads' HO134.out).2.2 | (with_reducible refine Kd.C_alloc ?_ _) | (with_reducible refine Kd.C_drewN ?_ _) | (with_reducible refine Kd.C_drew ?_))); (case side2 => exact (Kd.R_reads' HO134.out).2.1); rintro e w41 ⟨rfl, hb⟩; refine ⟨_, rfl, ?_⟩; have n0_ := Aside0.mk (Kd.R_below (by (with_reducible repeat (first | apply Kd.R_alloc | apply Kd.R_drewN | apply Kd.R_drew)); exact HO134.out) hb); have n1_ := Aside0.mk (blk_below (g := gb128) (o := .cells #[.int .u64 a1_0, .int .u64 a1_1, .int .u64 a1_2, .int .u64 a1_3, .int .i64 a1_4] 74 (0, 0)) (by (with_reducible repeat (first | refine blk_drewN ?_ _ | refine blk_drew ?_ | refine blk_alloc ?_ _)); exact BK128.out) hb); have n2_ := Aside0.mk (below_step (by repeat (first | (with_reducible first | exact HB.out | apply below_alloc | apply pw_below_drewN | apply below_drew1 | refine below_set ?_ GE128.out) | exact HB.out)) hb); clear HO134; clear BK128; clear HB; have HO134 := n0_; have BK128 := n1_; have HB := n2_; clear n0_ n1_ n2_; (try clear hb); (try clear hb2); (try clear hk); (try clear hi)) | ((with_reducible refine gate_callee (f := 120) rfl ?_); refine goesL_ (some 45) rfl rfl Try.func120 (by kernel_rfl) rfl #[.slice Ao40 t132.length co40, .int .i64 t135, .int .i64 (wrap64 (t135 + 1))] rfl (by (try simp only [List.map_toArray, List.map_cons, List.map_nil]); first | done | rfl | (simp only [List.length_drop, List.length_take]; rfl)) ?_; (with_reducible refine (slices_Delete_Payment.calls (fun k_ => some k_ = (.slice Ao40 t132.length co40 : Value).ownBlock) (.slice Ao40 t132.length co40) t132 t135 (wrap64 (t135 + 1)) t136 w _ ?side1 ?side2 A25.out).mono ?_); (case side1 => repeat (first | (with_reducible first | exact HB.out | apply below_alloc | apply pw_below_drewN | apply below_drew1 | refine below_set ?_ GE128.out) | exact HB.out)); (case side2 => exact Kd.R_tight rfl HO134.out); rintro e w42 ⟨v137, rfl, ho0, hb, hkp⟩; refine ⟨_, rfl, ?_⟩; have n0_ := Aside0.mk (blk_kept (by (with_reducible repeat (first | refine blk_drewN ?_ _ | refine blk_drew ?_ | refine blk_alloc ?_ _)); exact BK128.out) hkp (fun hs_ => (fun e_ => (Kd.R_away HO134.out (fun _ hk => hk.2)) e_) hs_)); have n1_ := Aside0.mk (Kd.R_mono (ok' := fun k_ => k_ ≠ gb128) ho0 (fun k_ hk_ => Or.elim hk_ (fun hs_ => fun e_ => (Kd.R_away HO134.out (fun _ hk => hk.2)) (by rw [← e_]; exact hs_)) (fun hn_ => (Kd.freshB (g := gb128) (o := .cells #[.int .u64 a1_0, .int .u64 a1_1, .int .u64 a1_2, .int .u64 a1_3, .int .i64 a1_4] 74 (0, 0)) (by (with_reducible repeat (first | refine blk_drewN ?_ _ | refine blk_drew ?_ | refine blk_alloc ?_ _)); exact BK128.out) k_ hn_)))); have n2_ := Aside0.mk (hb); clear BK128; clear HB; clear HO134; have BK128 := n0_; have HO138 := n1_; have HB := n2_; clear n0_ n1_ n2_; (try clear hb); (try clear hkp); (try clear ho0); have hcz43_0 : w42.cell? ⟨gb128, 0, none⟩ = some (.int .u64 a1_0) := (blk_cell BK128.out 0).trans rfl; have hcz43_1 : w42.cell? ⟨gb128, 1, none⟩ = some (.int .u64 a1_1) := (blk_cell BK128.out 1).trans rfl; have hcz43_2 : w42.cell? ⟨gb128, 2, none⟩ = some (.int .u64 a1_2) := (blk_cell BK128.out 2).trans rfl; have hcz43_3 : w42.cell? ⟨gb128, 3, none⟩ = some (.int .u64 a1_3) := (blk_cell BK128.out 3).trans rfl; have hcz43_4 : w42.cell? ⟨gb128, 4, none⟩ = some (.int .i64 a1_4) := (blk_cell BK128.out 4).trans rfl; have hfz43_0 := blk_frozen BK128.out 0; have hfz43_1 := blk_frozen BK128.out 1; have hfz43_2 := blk_frozen BK128.out 2; have hfz43_3 := blk_frozen BK128.out 3; have hfz43_4 := blk_frozen BK128.out 4) | ((with_reducible refine gate_dst (N := 54) rfl ?_); refine Kd.R_lit k74 _ 74 ?hg (N := 54) ?hd (xs := ([(⟨a1_0, a1_1, a1_2, a1_3, a1_4⟩ : S74)] : List (S74))) (inner := [.int .u64 a1_0, .int .u64 a1_1, .int .u64 a1_2, .int .u64 a1_3, .int .i64 a1_4]) (ok := fun _ => True) (okp := fun _ => True) ?hr ?hp (fun _ hk => hk) trivial (Below.refl _ _) (Nat.le_refl _) (by simp) ?_; (case hd => rfl); (case hg => rfl); (case hr => first | (go_simp; done) | (go_simp; rfl)); (case hp => exact (Reps.c5 (show Kd.M k74 _ _ _ (⟨a1_0, a1_1, a1_2, a1_3, a1_4⟩ : S74) [.int .u64 a1_0, .int .u64 a1_1, .int .u64 a1_2, .int .u64 a1_3, .int .i64 a1_4] from (k74_mkM _ _ _ (⟨a1_0, a1_1, a1_2, a1_3, a1_4⟩ : S74) )) (Reps.none _ _))); intro v146 w44 ho45 hb hg_ hnew_; clear hg_ hnew_; (first | rw [← Ny145.out] at ho45 | (simp only [Int.reduceToNat] at ho45; rw [← Ny145.out] at ho45)); have n0_ := Aside0.mk (Kd.R_elder' (by (with_reducible repeat (first | apply Kd.R_alloc | apply Kd.R_drewN | apply Kd.R_drew)); exact HO138.out) (Kd.R_base ho45) hb); have n1_ := Aside0.mk (Kd.R_lower (Kd.R_newB (Kd.R_new' ho45 (Kd.R_lt (by (with_reducible repeat (first | apply Kd.R_alloc | apply Kd.R_drewN | apply Kd.R_drew)); exact HO138.out))) (g := gb128) (o := .cells #[.int .u64 a1_0, .int .u64 a1_1, .int .u64 a1_2, .int .u64 a1_3, .int .i64 a1_4] 74 (0, 0)) (by (with_reducible repeat (first | refine blk_drewN ?_ _ | refine blk_drew ?_ | refine blk_alloc ?_ _)); exact BK128.out)) (below_size (by repeat (first | (with_reducible first | exact HB.out | apply below_alloc | apply pw_below_drewN | apply below_drew1 | refine below_set ?_ GE128.out) | exact HB.out)))); have n2_ := Aside0.mk (blk_below (g := gb128) (o := .cells #[.int .u64 a1_0, .int .u64 a1_1, .int .u64 a1_2, .int .u64 a1_3, .int .i64 a1_4] 74 (0, 0)) (by (with_reducible repeat (first | refine blk_drewN ?_ _ | refine blk_drew ?_ | refine blk_alloc ?_ _)); exact BK128.out) hb); have n3_ := Aside0.mk (below_step (by repeat (first | (with_reducible first | exact HB.out | apply below_alloc | apply pw_below_drewN | apply below_drew1 | refine below_set ?_ GE128.out) | exact HB.out)) hb); clear HO138; clear BK128; clear HB; have HO138 := n0_; have HO147 := n1_; have BK128 := n2_; have HB := n3_; clear n0_ n1_ n2_ n3_; clear hb ho45; obtain ⟨Ao46, co46, eo46⟩ := Kd.R_slice HO138.out; subst eo46; obtain ⟨Ao47, co47, eo47⟩ := Kd.R_slice HO147.out; subst eo47) | ((with_reducible refine gate_callee (f := 121) rfl ?_); refine goesL_ (some 55) rfl rfl Try.func121 (by kernel_rfl) rfl #[.slice Ao46 t136.length co46, .int .i64 t129, .slice Ao47 y145.length co47] rfl (by (try simp only [List.map_toArray, List.map_cons, List.map_nil]); first | done | rfl | (simp only [List.length_drop, List.length_take]; rfl)) ?_; (with_reducible refine (slices_Insert_Payment.calls (fun k_ => some k_ = (.slice Ao46 t136.length co46 : Value).ownBlock) (.slice Ao46 t136.length co46) t136 t129 (fun k_ => some k_ = (.slice Ao47 y145.length co47 : Value).ownBlock) (.slice Ao47 y145.length co47) y145 t148 w _ ?side1 ?side2 ?side3 ?side4 ?side5 A38.out).mono ?_); (case side1 => repeat (first | (with_reducible first | exact HB.out | apply below_alloc | apply pw_below_drewN | apply below_drew1 | refine below_set ?_ GE128.out) | exact HB.out)); (case side2 => exact Kd.R_tight rfl HO138.out); (case side3 => exact fun k_ e_ => (HO138.out.1 k_ e_.symm).2); (case side4 => exact Kd.R_tight rfl HO147.out); (case side5 => exact fun k_ e_ => (HO147.out.1 k_ e_.symm).1.2); rintro e w48 ⟨v149, rfl, ho0, hb, hkp⟩; refine ⟨_, rfl, ?_⟩; have n0_ := Aside0.mk (blk_kept (by (with_reducible repeat (first | refine blk_drewN ?_ _ | refine blk_drew ?_ | refine blk_alloc ?_ _)); exact BK128.out) hkp (fun hs_ => Or.elim hs_ (fun e_ => (fun e_ => (Kd.R_away HO138.out (fun _ hk => hk.1)) e_) e_) (fun e_ => (fun e_ => (Kd.R_away HO147.out (fun _ hk => hk.2)) e_) e_))); have n1_ := Aside0.mk (Kd.R_mono (ok' := fun k_ => k_ ≠ gb128) ho0 (fun k_ hk_ => Or.elim hk_ (fun hs_ => Or.elim hs_ (fun hs_ => fun e_ => (Kd.R_away HO138.out (fun _ hk => hk.1)) (by rw [← e_]; exact hs_)) (fun hs_ => fun e_ => (Kd.R_away HO147.out (fun _ hk => hk.2)) (by rw [← e_]; exact hs_))) (fun hn_ => (Kd.freshB (g := gb128) (o := .cells #[.int .u64 a1_0, .int .u64 a1_1, .int .u64 a1_2, .int .u64 a1_3, .int .i64 a1_4] 74 (0, 0)) (by (with_reducible repeat (first | refine blk_drewN ?_ _ | refine blk_drew ?_ | refine blk_alloc ?_ _)); exact BK128.out) k_ hn_)))); have n2_ := Aside0.mk (hb); clear BK128; clear HB; clear HO138; clear HO147; have BK128 := n0_; have HO150 := n1_; have HB := n2_; clear n0_ n1_ n2_; (try clear hb); (try clear hkp); (try clear ho0)))
                go_ret2
                exact ⟨_, by first | rfl | (simp [errW_none, errW_some] <;> rfl) | (simp [*, errW_none, errW_some] <;> rfl), by (with_reducible repeat (first | apply Kd.R_alloc | apply Kd.R_drewN | apply Kd.R_drew)); exact Kd.R_mono HO150.out (fun _ hk => trivial), by repeat (first | (with_reducible first | exact HB.out | apply below_alloc | apply pw_below_drewN | apply below_drew1 | refine below_set ?_ GE128.out) | exact HB.out)⟩
          · rw [if_neg c19] at H
            have c19b0 : ((t132.length : Int) == 256) = false := beq_eq_false_iff_ne.mpr c19
            have c19b1 : ((t132.length : Int) != 256) = true := bne_iff_ne.mpr c19
            obtain ⟨y151, hy151⟩ : ∃ y_ : List (S74), y_ = (([(⟨a1_0, a1_1, a1_2, a1_3, a1_4⟩ : S74)] : List (S74))) := ⟨_, rfl⟩
            replace H : ((slices_Insert_Payment.f t132 t129 y151).bind fun t154 => (some (t154, 0))) = some (r1, r2) := by first | (rw [hy151]; with_reducible exact H) | (have H2_ := (Option.bind_some _ _).symm.trans H; rw [hy151]; with_reducible exact H2_) | (have H2_ := (Option.bind_some _ _).symm.trans H; with_reducible exact H2_) | with_reducible exact H | (rw [hy151]; exact H) | exact H
            have Ny151 := Aside0.mk hy151
            clear hy151
            replace H := Option.bind_eq_some_iff.mp H
            obtain ⟨t154, A490, H⟩ := H
            replace H : (some (t154, 0)) = some (r1, r2) := H
            have A49 := Aside0.mk A490
            clear A490
            simp only [Option.some.injEq, Prod.mk.injEq] at H
            obtain ⟨rfl, rfl⟩ := H
            go_wp2_with (first | ((with_reducible refine gate_callee (f := 117) rfl ?_); refine goesL_ (some 33) rfl rfl Try.func117 (by kernel_rfl) rfl #[.slice A0 l0.length c0] rfl (by (try simp only [List.map_toArray, List.map_cons, List.map_nil]); first | done | rfl | (simp only [List.length_drop, List.length_take]; rfl)) ?_; (with_reducible refine (slices_Clone_Payment.calls _ _ l0 t132 _ ?side1 ?side2 A18.out).mono ?_); (case side1 => repeat (first | exact (Kd.C_below HR0.out HB.out) | (with_reducible refine Kd.C_alloc ?_ _) | (with_reducible refine Kd.C_drewN ?_ _) | (with_reducible refine Kd.C_drew ?_))); (case side2 => exact HC0.out); rintro e w50 ⟨v133, rfl, ho0, hb⟩; refine ⟨_, rfl, ?_⟩; have n0_ := Aside0.mk (Kd.R_lower (Kd.R_newB ho0 (g := gb128) (o := .cells #[.int .u64 a1_0, .int .u64 a1_1, .int .u64 a1_2, .int .u64 a1_3, .int .i64 a1_4] 74 (0, 0)) (by (with_reducible repeat (first | refine blk_drewN ?_ _ | refine blk_drew ?_ | refine blk_alloc ?_ _)); exact BK128.out)) (below_size (by repeat (first | (with_reducible first | exact HB.out | apply below_alloc | apply pw_below_drewN | apply below_drew1 | refine below_set ?_ GE128.out) | exact HB.out)))); have n1_ := Aside0.mk (blk_below (g := gb128) (o := .cells #[.int .u64 a1_0, .int .u64 a1_1, .int .u64 a1_2, .int .u64 a1_3, .int .i64 a1_4] 74 (0, 0)) (by (with_reducible repeat (first | refine blk_drewN ?_ _ | refine blk_drew ?_ | refine blk_alloc ?_ _)); exact BK128.out) hb); have n2_ := Aside0.mk (below_step (by repeat (first | (with_reducible first | exact HB.out | apply below_alloc | apply pw_below_drewN | apply below_drew1 | refine below_set ?_ GE128.out) | exact HB.out)) hb); clear BK128; clear HB; have HO134 := n0_; have BK128 := n1_; have HB := n2_; clear n0_ n1_ n2_; (try clear hb); (try clear hb2); (try clear hk); (try clear hi); (try clear ho0); obtain ⟨Ao51, co51, eo51⟩ := Kd.R_slice HO134.out; subst eo51; have hcz52_0 : w50.cell? ⟨gb128, 0, none⟩ = some (.int .u64 a1_0) := (blk_cell BK128.out 0).trans rfl; have hcz52_1 : w50.cell? ⟨gb128, 1, none⟩ = some (.int .u64 a1_1) := (blk_cell BK128.out 1).trans rfl; have hcz52_2 : w50.cell? ⟨gb128, 2, none⟩ = some (.int .u64 a1_2) := (blk_cell BK128.out 2).trans rfl; have hcz52_3 : w50.cell? ⟨gb128, 3, none⟩ = some (.int .u64 a1_3) := (blk_cell BK128.out 3).trans rfl; have hcz52_4 : w50.cell? ⟨gb128, 4, none⟩ = some (.int .i64 a1_4) := (blk_cell BK128.out 4).trans rfl; have hfz52_0 := blk_frozen BK128.out 0; have hfz52_1 := blk_frozen BK128.out 1; have hfz52_2 := blk_frozen BK128.out 2; have hfz52_3 := blk_frozen BK128.out 3; have hfz52_4 := blk_frozen BK128.out 4) | ((with_reducible refine gate_dst (N := 54) rfl ?_); refine Kd.R_lit k74 _ 74 ?hg (N := 54) ?hd (xs := ([(⟨a1_0, a1_1, a1_2, a1_3, a1_4⟩ : S74)] : List (S74))) (inner := [.int .u64 a1_0, .int .u64 a1_1, .int .u64 a1_2, .int .u64 a1_3, .int .i64 a1_4]) (ok := fun _ => True) (okp := fun _ => True) ?hr ?hp (fun _ hk => hk) trivial (Below.refl _ _) (Nat.le_refl _) (by simp) ?_; (case hd => rfl); (case hg => rfl); (case hr => first | (go_simp; done) | (go_simp; rfl)); (case hp => exact (Reps.c5 (show Kd.M k74 _ _ _ (⟨a1_0, a1_1, a1_2, a1_3, a1_4⟩ : S74) [.int .u64 a1_0, .int .u64 a1_1, .int .u64 a1_2, .int .u64 a1_3, .int .i64 a1_4] from (k74_mkM _ _ _ (⟨a1_0, a1_1, a1_2, a1_3, a1_4⟩ : S74) )) (Reps.none _ _))); intro v152 w53 ho54 hb hg_ hnew_; clear hg_ hnew_; (first | rw [← Ny151.out] at ho54 | (simp only [Int.reduceToNat] at ho54; rw [← Ny151.out] at ho54)); have n0_ := Aside0.mk (Kd.R_elder' (by (with_reducible repeat (first | apply Kd.R_alloc | apply Kd.R_drewN | apply Kd.R_drew)); exact HO134.out) (Kd.R_base ho54) hb); have n1_ := Aside0.mk (Kd.R_lower (Kd.R_newB (Kd.R_new' ho54 (Kd.R_lt (by (with_reducible repeat (first | apply Kd.R_alloc | apply Kd.R_drewN | apply Kd.R_drew)); exact HO134.out))) (g := gb128) (o := .cells #[.int .u64 a1_0, .int .u64 a1_1, .int .u64 a1_2, .int .u64 a1_3, .int .i64 a1_4] 74 (0, 0)) (by (with_reducible repeat (first | refine blk_drewN ?_ _ | refine blk_drew ?_ | refine blk_alloc ?_ _)); exact BK128.out)) (below_size (by repeat (first | (with_reducible first | exact HB.out | apply below_alloc | apply pw_below_drewN | apply below_drew1 | refine below_set ?_ GE128.out) | exact HB.out)))); have n2_ := Aside0.mk (blk_below (g := gb128) (o := .cells #[.int .u64 a1_0, .int .u64 a1_1, .int .u64 a1_2, .int .u64 a1_3, .int .i64 a1_4] 74 (0, 0)) (by (with_reducible repeat (first | refine blk_drewN ?_ _ | refine blk_drew ?_ | refine blk_alloc ?_ _)); exact BK128.out) hb); have n3_ := Aside0.mk (below_step (by repeat (first | (with_reducible first | exact HB.out | apply below_alloc | apply pw_below_drewN | apply below_drew1 | refine below_set ?_ GE128.out) | exact HB.out)) hb); clear HO134; clear BK128; clear HB; have HO134 := n0_; have HO153 := n1_; have BK128 := n2_; have HB := n3_; clear n0_ n1_ n2_ n3_; clear hb ho54; obtain ⟨Ao55, co55, eo55⟩ := Kd.R_slice HO153.out; subst eo55) | ((with_reducible refine gate_callee (f := 121) rfl ?_); refine goesL_ (some 55) rfl rfl Try.func121 (by kernel_rfl) rfl #[.slice Ao51 t132.length co51, .int .i64 t129, .slice Ao55 y151.length co55] rfl (by (try simp only [List.map_toArray, List.map_cons, List.map_nil]); first | done | rfl | (simp only [List.length_drop, List.length_take]; rfl)) ?_; (with_reducible refine (slices_Insert_Payment.calls (fun k_ => some k_ = (.slice Ao51 t132.length co51 : Value).ownBlock) (.slice Ao51 t132.length co51) t132 t129 (fun k_ => some k_ = (.slice Ao55 y151.length co55 : Value).ownBlock) (.slice Ao55 y151.length co55) y151 t154 w _ ?side1 ?side2 ?side3 ?side4 ?side5 A49.out).mono ?_); (case side1 => repeat (first | (with_reducible first | exact HB.out | apply below_alloc | apply pw_below_drewN | apply below_drew1 | refine below_set ?_ GE128.out) | exact HB.out)); (case side2 => exact Kd.R_tight rfl HO134.out); (case side3 => exact fun k_ e_ => (HO134.out.1 k_ e_.symm).2); (case side4 => exact Kd.R_tight rfl HO153.out); (case side5 => exact fun k_ e_ => (HO153.out.1 k_ e_.symm).1.2); rintro e w56 ⟨v155, rfl, ho0, hb, hkp⟩; refine ⟨_, rfl, ?_⟩; have n0_ := Aside0.mk (blk_kept (by (with_reducible repeat (first | refine blk_drewN ?_ _ | refine blk_drew ?_ | refine blk_alloc ?_ _)); exact BK128.out) hkp (fun hs_ => Or.elim hs_ (fun e_ => (fun e_ => (Kd.R_away HO134.out (fun _ hk => hk.1.2)) e_) e_) (fun e_ => (fun e_ => (Kd.R_away HO153.out (fun _ hk => hk.2)) e_) e_))); have n1_ := Aside0.mk (Kd.R_mono (ok' := fun k_ => k_ ≠ gb128) ho0 (fun k_ hk_ => Or.elim hk_ (fun hs_ => Or.elim hs_ (fun hs_ => fun e_ => (Kd.R_away HO134.out (fun _ hk => hk.1.2)) (by rw [← e_]; exact hs_)) (fun hs_ => fun e_ => (Kd.R_away HO153.out (fun _ hk => hk.2)) (by rw [← e_]; exact hs_))) (fun hn_ => (Kd.freshB (g := gb128) (o := .cells #[.int .u64 a1_0, .int .u64 a1_1, .int .u64 a1_2, .int .u64 a1_3, .int .i64 a1_4] 74 (0, 0)) (by (with_reducible repeat (first | refine blk_drewN ?_ _ | refine blk_drew ?_ | refine blk_alloc ?_ _)); exact BK128.out) k_ hn_)))); have n2_ := Aside0.mk (hb); clear BK128; clear HB; clear HO134; clear HO153; have BK128 := n0_; have HO156 := n1_; have HB := n2_; clear n0_ n1_ n2_; (try clear hb); (try clear hkp); (try clear ho0)))
            go_ret2
            exact ⟨_, by first | rfl | (simp [errW_none, errW_some] <;> rfl) | (simp [*, errW_none, errW_some] <;> rfl), by (with_reducible repeat (first | apply Kd.R_alloc | apply Kd.R_drewN | apply Kd.R_drew)); exact Kd.R_mono HO156.out (fun _ hk => trivial), by repeat (first | (with_reducible first | exact HB.out | apply below_alloc | apply pw_below_drewN | apply below_drew1 | refine below_set ?_ GE128.out) | exact HB.out)⟩

/-! ### payment_End: function 72 -/
def payment_End.f (k : Nat) (l0 : List (S74)) (a1 : Int) (a2 : Bool) : Option ((List (S74)) × Int) := (payment_find.f k l0 a1).bind fun bt157 => (if bt157.2 = 0 then (if 0 ≤ bt157.1 then (if bt157.1 < (l0.length : Int) then (if ((rd_T74 l0 bt157.1).f4) = 1 then ((slices_Clone_Payment.f l0).bind fun t160 => (if bt157.1 < (t160.length : Int) then ((some (t160.set (bt157.1 : Int).toNat (⟨(rd_T74 t160 bt157.1).f0, (rd_T74 t160 bt157.1).f1, (rd_T74 t160 bt157.1).f2, (rd_T74 t160 bt157.1).f3, 3⟩ : S74) : List (S74))).bind fun y163 => (if a2 = true then (some ((y163.set (bt157.1 : Int).toNat (⟨(rd_T74 y163 bt157.1).f0, (rd_T74 y163 bt157.1).f1, (rd_T74 y163 bt157.1).f2, (rd_T74 y163 bt157.1).f3, 2⟩ : S74)), 0)) else (some (y163, 0)))) else (none))) else (some (([] : List (S74)), 10))) else (none)) else (none)) else (some (([] : List (S74)), bt157.2)))
theorem payment_End.mono : ∀ a0 a1 a2 k, LeO (payment_End.f k a0 a1 a2) (payment_End.f (k + 1) a0 a1 a2) := by
  intro a0 a1 a2 k
  unfold payment_End.f
  repeat' first
      | (with_reducible exact payment_find.mono _ _ _)
      | (with_reducible exact LeO.refl _)
      | (with_reducible exact LeO.none _)
      | (with_reducible refine LeO.ite ?_ ?_)
      | (with_reducible refine LeO.bind ?_ (fun _ => ?_))
      | exact payment_find.mono _ _ _
      | exact LeO.none _
      | refine LeO.ite ?_ ?_
      | refine LeO.bind ?_ (fun _ => ?_)
set_option maxHeartbeats 8000000 in
set_option maxRecDepth 100000 in
theorem payment_End.calls (k : Nat) (A0 : Option Addr) (c0 : Nat) (l0 : List (S74)) (a1 : Int) (a2 : Bool) (r1 : List (S74)) (r2 : Int) (w : World) (hr0 : Kd.C k74 w A0 l0.length l0) (hc0 : l0.length ≤ c0) (h : payment_End.f k l0 a1 a2 = some (r1, r2)) :
    Calls Try.prog 72 #[.slice A0 l0.length c0, .int .u64 a1, .bool a2] w fun e w' => ∃ v0_ : Value, e = .returned (.tuple #[v0_, .int .i64 r2]) ∧ Kd.R k74 74 w' w.heap.size (fun _ => True) v0_ r1 ∧ Below w.heap.size w w' := by
  have HR0 := Aside0.mk hr0
  have HC0 := Aside0.mk hc0
  clear hr0 hc0
  have HB := Aside0.mk (Below.refl w.heap.size w)
  have H : ((payment_find.f k l0 a1).bind fun bt157 => (if bt157.2 = 0 then (if 0 ≤ bt157.1 then (if bt157.1 < (l0.length : Int) then (if ((rd_T74 l0 bt157.1).f4) = 1 then ((slices_Clone_Payment.f l0).bind fun t160 => (if bt157.1 < (t160.length : Int) then ((some (t160.set (bt157.1 : Int).toNat (⟨(rd_T74 t160 bt157.1).f0, (rd_T74 t160 bt157.1).f1, (rd_T74 t160 bt157.1).f2, (rd_T74 t160 bt157.1).f3, 3⟩ : S74) : List (S74))).bind fun y163 => (if a2 = true then (some ((y163.set (bt157.1 : Int).toNat (⟨(rd_T74 y163 bt157.1).f0, (rd_T74 y163 bt157.1).f1, (rd_T74 y163 bt157.1).f2, (rd_T74 y163 bt157.1).f3, 2⟩ : S74)), 0)) else (some (y163, 0)))) else (none))) else (some (([] : List (S74)), 10))) else (none)) else (none)) else (some (([] : List (S74)), bt157.2)))) = some (r1, r2) := h
  clear h
  replace H := Option.bind_eq_some_iff.mp H
  obtain ⟨⟨t157, t158⟩, A40, H⟩ := H
  replace H : (if t158 = 0 then (if 0 ≤ t157 then (if t157 < (l0.length : Int) then (if ((rd_T74 l0 t157).f4) = 1 then ((slices_Clone_Payment.f l0).bind fun t160 => (if t157 < (t160.length : Int) then ((some (t160.set (t157 : Int).toNat (⟨(rd_T74 t160 t157).f0, (rd_T74 t160 t157).f1, (rd_T74 t160 t157).f2, (rd_T74 t160 t157).f3, 3⟩ : S74) : List (S74))).bind fun y163 => (if a2 = true then (some ((y163.set (t157 : Int).toNat (⟨(rd_T74 y163 t157).f0, (rd_T74 y163 t157).f1, (rd_T74 y163 t157).f2, (rd_T74 y163 t157).f3, 2⟩ : S74)), 0)) else (some (y163, 0)))) else (none))) else (some (([] : List (S74)), 10))) else (none)) else (none)) else (some (([] : List (S74)), t158))) = some (r1, r2) := H
  have A4 := Aside0.mk A40
  clear A40
  by_cases c5 : t158 = 0
  · rw [if_pos c5] at H
    have c5b0 : (t158 == 0) = true := beq_iff_eq.mpr c5
    have c5b1 : (t158 != 0) = false := bne_eq_false_iff_eq.mpr c5
    clear c5
    by_cases c6 : 0 ≤ t157
    · rw [if_pos c6] at H
      have c6b0 : decide (0 ≤ t157) = true := decide_eq_true c6
      clear c6
      by_cases c7 : t157 < (l0.length : Int)
      · rw [if_pos c7] at H
        have c7b0 : decide (t157 < (l0.length : Int)) = true := decide_eq_true c7
        clear c7
        by_cases c8 : ((rd_T74 l0 t157).f4) = 1
        · rw [if_pos c8] at H
          have c8b0 : (((rd_T74 l0 t157).f4) == 1) = true := beq_iff_eq.mpr c8
          have c8b1 : (((rd_T74 l0 t157).f4) != 1) = false := bne_eq_false_iff_eq.mpr c8
          clear c8
          replace H := Option.bind_eq_some_iff.mp H
          obtain ⟨t160, A90, H⟩ := H
          replace H : (if t157 < (t160.length : Int) then ((some (t160.set (t157 : Int).toNat (⟨(rd_T74 t160 t157).f0, (rd_T74 t160 t157).f1, (rd_T74 t160 t157).f2, (rd_T74 t160 t157).f3, 3⟩ : S74) : List (S74))).bind fun y163 => (if a2 = true then (some ((y163.set (t157 : Int).toNat (⟨(rd_T74 y163 t157).f0, (rd_T74 y163 t157).f1, (rd_T74 y163 t157).f2, (rd_T74 y163 t157).f3, 2⟩ : S74)), 0)) else (some (y163, 0)))) else (none)) = some (r1, r2) := H
          have A9 := Aside0.mk A90
          clear A90
          by_cases c10 : t157 < (t160.length : Int)
          · rw [if_pos c10] at H
            have c10b0 : decide (t157 < (t160.length : Int)) = true := decide_eq_true c10
            clear c10
            obtain ⟨y163, hy163⟩ : ∃ y_ : List (S74), y_ = (t160.set (t157 : Int).toNat (⟨(rd_T74 t160 t157).f0, (rd_T74 t160 t157).f1, (rd_T74 t160 t157).f2, (rd_T74 t160 t157).f3, 3⟩ : S74)) := ⟨_, rfl⟩
            replace H : (if a2 = true then (some ((y163.set (t157 : Int).toNat (⟨(rd_T74 y163 t157).f0, (rd_T74 y163 t157).f1, (rd_T74 y163 t157).f2, (rd_T74 y163 t157).f3, 2⟩ : S74)), 0)) else (some (y163, 0))) = some (r1, r2) := by first | (rw [hy163]; with_reducible exact H) | (have H2_ := (Option.bind_some _ _).symm.trans H; rw [hy163]; with_reducible exact H2_) | (have H2_ := (Option.bind_some _ _).symm.trans H; with_reducible exact H2_) | with_reducible exact H | (rw [hy163]; exact H) | exact H
            have Ny163 := Aside0.mk hy163
            clear hy163
            by_cases c12 : a2 = true
            · subst c12
              have H1 : (some ((y163.set (t157 : Int).toNat (⟨(rd_T74 y163 t157).f0, (rd_T74 y163 t157).f1, (rd_T74 y163 t157).f2, (rd_T74 y163 t157).f3, 2⟩ : S74)), 0)) = some (r1, r2) := by rw [if_pos rfl] at H; exact H
              clear H
              have H := H1
              clear H1
              obtain ⟨y164, hy164⟩ : ∃ y_ : List (S74), y_ = (y163.set (t157 : Int).toNat (⟨(rd_T74 y163 t157).f0, (rd_T74 y163 t157).f1, (rd_T74 y163 t157).f2, (rd_T74 y163 t157).f3, 2⟩ : S74)) := ⟨_, rfl⟩
              replace H : (some (y164, 0)) = some (r1, r2) := by first | (rw [hy164]; with_reducible exact H) | (have H2_ := (Option.bind_some _ _).symm.trans H; rw [hy164]; with_reducible exact H2_) | (have H2_ := (Option.bind_some _ _).symm.trans H; with_reducible exact H2_) | with_reducible exact H | (rw [hy164]; exact H) | exact H
              have Ny164 := Aside0.mk hy164
              clear hy164
              simp only [Option.some.injEq, Prod.mk.injEq] at H
              obtain ⟨rfl, rfl⟩ := H
              go_enter Try.func72, Try.ntmps72
              go_wp2_with (first | ((with_reducible refine gate_callee (f := 115) rfl ?_); refine goesL_ (some 13) rfl rfl Try.func115 (by kernel_rfl) rfl #[.slice A0 l0.length c0, .int .u64 a1] rfl (by (try simp only [List.map_toArray, List.map_cons, List.map_nil]); first | done | rfl | (simp only [List.length_drop, List.length_take]; rfl)) ?_; (with_reducible refine (payment_find.calls k _ _ l0 a1 t157 t158 _ ?side1 ?side2 A4.out).mono ?_); (case side1 => repeat (first | exact HR0.out | (with_reducible refine Kd.C_alloc ?_ _) | (with_reducible refine Kd.C_drewN ?_ _) | (with_reducible refine Kd.C_drew ?_))); (case side2 => exact HC0.out); rintro e w14 ⟨rfl, hb⟩; refine ⟨_, rfl, ?_⟩; have n0_ := Aside0.mk (below_step (by repeat (first | (with_reducible first | exact HB.out | apply below_alloc | apply pw_below_drewN | apply below_drew1) | exact HB.out)) hb); clear HB; have HB := n0_; clear n0_; (try clear hb); (try clear hb2); (try clear hk); (try clear hi); have p159 : 0 ≤ (t157 : Int) := of_decide_eq_true (by first | (with_reducible assumption) | assumption); have q159 : t157 < (l0.length : Int) := of_decide_eq_true (by first | (with_reducible assumption) | assumption); obtain ⟨ad159, e159, hx159_0, hx159_1, hx159_2, hx159_3, hx159_4⟩ := at_T74 HR0.out t157 p159 q159; cases e159; replace hx159_0 := (HB.out.cell (World.block_lt_of_cell? w _ hx159_0)).trans hx159_0; replace hx159_1 := (HB.out.cell (World.block_lt_of_cell? w _ hx159_1)).trans hx159_1; replace hx159_2 := (HB.out.cell (World.block_lt_of_cell? w _ hx159_2)).trans hx159_2; replace hx159_3 := (HB.out.cell (World.block_lt_of_cell? w _ hx159_3)).trans hx159_3; replace hx159_4 := (HB.out.cell (World.block_lt_of_cell? w _ hx159_4)).trans hx159_4; replace p159 := eq_true p159; replace q159 := eq_true q159) | ((with_reducible refine gate_callee (f := 117) rfl ?_); refine goesL_ (some 28) rfl rfl Try.func117 (by kernel_rfl) rfl #[.slice (some ad159) l0.length c0] rfl (by (try simp only [List.map_toArray, List.map_cons, List.map_nil]); first | done | rfl | (simp only [List.length_drop, List.length_take]; rfl)) ?_; (with_reducible refine (slices_Clone_Payment.calls _ _ l0 t160 _ ?side1 ?side2 A9.out).mono ?_); (case side1 => repeat (first | exact (Kd.C_below HR0.out HB.out) | (with_reducible refine Kd.C_alloc ?_ _) | (with_reducible refine Kd.C_drewN ?_ _) | (with_reducible refine Kd.C_drew ?_))); (case side2 => exact HC0.out); rintro e w15 ⟨v161, rfl, ho0, hb⟩; refine ⟨_, rfl, ?_⟩; have n0_ := Aside0.mk (Kd.R_lower ho0 (below_size (by repeat (first | (with_reducible first | exact HB.out | apply below_alloc | apply pw_below_drewN | apply below_drew1) | exact HB.out)))); have n1_ := Aside0.mk (below_step (by repeat (first | (with_reducible first | exact HB.out | apply below_alloc | apply pw_below_drewN | apply below_drew1) | exact HB.out)) hb); clear HB; have HO162 := n0_; have HB := n1_; clear n0_ n1_; (try clear hb); (try clear hb2); (try clear hk); (try clear hi); (try clear ho0); have p11 : 0 ≤ (t157 : Int) := of_decide_eq_true (by first | (with_reducible assumption) | assumption); have q11 : (t157 : Int) < ((t160.length : Int) : Int) := of_decide_eq_true (by first | (with_reducible assumption) | assumption); obtain ⟨go11, co11, eo11, gb11, gl11, cl11, HG11⟩ := Kd.R_form HO162.out (by omega); (first | cases eo11 | (injection eo11 with ea_ en_ ec_; (first | subst ea_ | (injection ea_ with ea_; subst ea_)); subst ec_; clear en_)); have GB11 := Aside0.mk gb11; have GG11 := Aside0.mk HG11; clear gb11 gl11 HG11; obtain ⟨ce11, hcl11, hM11, hcc11, hfr11⟩ := Kd.R_elem HO162.out z74 (t157 : Int) p11 q11; obtain rfl := k74_openM hM11; have hx11_0 : w15.cell? ⟨go11, (t157 : Int).toNat * 5, none⟩ = some (.int .u64 ((rd_T74 t160 t157).f0)) := hcc11 0 _ rfl; have hx11_1 : w15.cell? ⟨go11, (t157 : Int).toNat * 5 + 1, none⟩ = some (.int .u64 ((rd_T74 t160 t157).f1)) := hcc11 1 _ rfl; have hx11_2 : w15.cell? ⟨go11, (t157 : Int).toNat * 5 + 2, none⟩ = some (.int .u64 ((rd_T74 t160 t157).f2)) := hcc11 2 _ rfl; have hx11_3 : w15.cell? ⟨go11, (t157 : Int).toNat * 5 + 3, none⟩ = some (.int .u64 ((rd_T74 t160 t157).f3)) := hcc11 3 _ rfl; have hx11_4 : w15.cell? ⟨go11, (t157 : Int).toNat * 5 + 4, none⟩ = some (.int .i64 ((rd_T74 t160 t157).f4)) := hcc11 4 _ rfl; have hf11_0 : w15.frozen? ⟨go11, (t157 : Int).toNat * 5, none⟩ = false := hfr11 0; have hf11_1 : w15.frozen? ⟨go11, (t157 : Int).toNat * 5 + 1, none⟩ = false := hfr11 1; have hf11_2 : w15.frozen? ⟨go11, (t157 : Int).toNat * 5 + 2, none⟩ = false := hfr11 2; have hf11_3 : w15.frozen? ⟨go11, (t157 : Int).toNat * 5 + 3, none⟩ = false := hfr11 3; have hf11_4 : w15.frozen? ⟨go11, (t157 : Int).toNat * 5 + 4, none⟩ = false := hfr11 4; clear hcl11 hcc11 hfr11 hM11; replace p11 := eq_true p11; replace q11 := eq_true q11; have HX16 := Aside0.mk (show Kd.R k74 74 w15 w.heap.size (fun _ => True) (.slice (some ⟨go11, 0, none⟩) t160.length co11) t160 from (by (with_reducible repeat (first | apply Kd.R_alloc | apply Kd.R_drewN | apply Kd.R_drew)); exact HO162.out)); obtain ⟨ce16, hcl16, hM16, hcc16, hfr16⟩ := Kd.R_elem HX16.out z74 (t157 : Int) (of_decide_eq_true (by first | (with_reducible assumption) | assumption)) (by have h_ : (t157 : Int) < ((t160.length : Int) : Int) := of_decide_eq_true (by first | (with_reducible assumption) | assumption); first | exact h_ | (have e_ := (Kd.R_reads' HO162.out).1; omega) | simpa using h_); obtain rfl := k74_openM hM16; have HP16 := Kd.R_seg HX16.out (t157 : Int) (of_decide_eq_true (by first | (with_reducible assumption) | assumption)) (by have h_ : (t157 : Int) < ((t160.length : Int) : Int) := of_decide_eq_true (by first | (with_reducible assumption) | assumption); first | exact h_ | (have e_ := (Kd.R_reads' HO162.out).1; omega) | simpa using h_) (seg := [.int .i64 3]) (j := 4) hcl16 hcc16 (show 5 ≤ 5 from by decide) (x' := (⟨(rd_T74 t160 t157).f0, (rd_T74 t160 t157).f1, (rd_T74 t160 t157).f2, (rd_T74 t160 t157).f3, 3⟩ : S74)) (k74_mkM _ _ _ (⟨(rd_T74 t160 t157).f0, (rd_T74 t160 t157).f1, (rd_T74 t160 t157).f2, (rd_T74 t160 t157).f3, 3⟩ : S74) ) (fun _ hk => hk); have hx16_4 := hcc16 4 _ rfl; (try simp only [show (k74).sz = 5 from rfl, Nat.mul_one, Nat.add_zero] at hx16_4); have hf16_4 := hfr16 4; (try simp only [show (k74).sz = 5 from rfl, Nat.mul_one, Nat.add_zero] at hf16_4); clear hcl16 hcc16 hfr16 hM16) | ((with_reducible refine gate_store (t := 3) (p := 32) rfl ?_); refine store_event (t := 3) (p := 32) (v := ?vo_w17) (w1 := (w15.setCell ⟨go11, (t157 : Int).toNat * 5 + 4, none⟩ (.int .i64 3))) ?hg ?ho ?hn ?hr ?_; (case ho => rfl); (case hg => rfl); (case hn => rfl); (case hr => first | (go_simp; done) | (go_simp; rfl)); intro w17 hw; have hg : w15.grownBy w17 (some go11) := (by rw [hw]; exact HP16.2); have hp_ : Kd.R k74 74 w17 w.heap.size (fun _ => True) (.slice (some ⟨go11, 0, none⟩) t160.length co11) y163 := (by rw [hw, Ny163.out]; exact HP16.1); clear HP16; have n0_ := Aside0.mk (hp_); have n1_ := Aside0.mk ((by rw [hw]; exact below_set (HB.out) GB11.out : Below w.heap.size w w17)); clear HO162; clear HB; have HO162 := n0_; have HB := n1_; clear n0_ n1_; clear hg hw hp_; have p13 : 0 ≤ (t157 : Int) := of_decide_eq_true (by first | (with_reducible assumption) | assumption); have q13 : (t157 : Int) < ((t160.length : Int) : Int) := of_decide_eq_true (by first | (with_reducible assumption) | assumption); obtain ⟨ce13, hcl13, hM13, hcc13, hfr13⟩ := Kd.R_elem HO162.out z74 (t157 : Int) p13 q13; obtain rfl := k74_openM hM13; have hx13_0 : w17.cell? ⟨go11, (t157 : Int).toNat * 5, none⟩ = some (.int .u64 ((rd_T74 y163 t157).f0)) := hcc13 0 _ rfl; have hx13_1 : w17.cell? ⟨go11, (t157 : Int).toNat * 5 + 1, none⟩ = some (.int .u64 ((rd_T74 y163 t157).f1)) := hcc13 1 _ rfl; have hx13_2 : w17.cell? ⟨go11, (t157 : Int).toNat * 5 + 2, none⟩ = some (.int .u64 ((rd_T74 y163 t157).f2)) := hcc13 2 _ rfl; have hx13_3 : w17.cell? ⟨go11, (t157 : Int).toNat * 5 + 3, none⟩ = some (.int .u64 ((rd_T74 y163 t157).f3)) := hcc13 3 _ rfl; have hx13_4 : w17.cell? ⟨go11, (t157 : Int).toNat * 5 + 4, none⟩ = some (.int .i64 ((rd_T74 y163 t157).f4)) := hcc13 4 _ rfl; have hf13_0 : w17.frozen? ⟨go11, (t157 : Int).toNat * 5, none⟩ = false := hfr13 0; have hf13_1 : w17.frozen? ⟨go11, (t157 : Int).toNat * 5 + 1, none⟩ = false := hfr13 1; have hf13_2 : w17.frozen? ⟨go11, (t157 : Int).toNat * 5 + 2, none⟩ = false := hfr13 2; have hf13_3 : w17.frozen? ⟨go11, (t157 : Int).toNat * 5 + 3, none⟩ = false := hfr13 3; have hf13_4 : w17.frozen? ⟨go11, (t157 : Int).toNat * 5 + 4, none⟩ = false := hfr13 4; clear hcl13 hcc13 hfr13 hM13; replace p13 := eq_true p13; replace q13 := eq_true q13; have HX18 := Aside0.mk (show Kd.R k74 74 w17 w.heap.size (fun _ => True) (.slice (some ⟨go11, 0, none⟩) t160.length co11) y163 from (by (with_reducible repeat (first | apply Kd.R_alloc | apply Kd.R_drewN | apply Kd.R_drew)); exact HO162.out)); obtain ⟨ce18, hcl18, hM18, hcc18, hfr18⟩ := Kd.R_elem HX18.out z74 (t157 : Int) (of_decide_eq_true (by first | (with_reducible assumption) | assumption)) (by have h_ : (t157 : Int) < ((t160.length : Int) : Int) := of_decide_eq_true (by first | (with_reducible assumption) | assumption); first | exact h_ | (have e_ := (Kd.R_reads' HO162.out).1; omega) | simpa using h_); obtain rfl := k74_openM hM18; have HP18 := Kd.R_seg HX18.out (t157 : Int) (of_decide_eq_true (by first | (with_reducible assumption) | assumption)) (by have h_ : (t157 : Int) < ((t160.length : Int) : Int) := of_decide_eq_true (by first | (with_reducible assumption) | assumption); first | exact h_ | (have e_ := (Kd.R_reads' HO162.out).1; omega) | simpa using h_) (seg := [.int .i64 2]) (j := 4) hcl18 hcc18 (show 5 ≤ 5 from by decide) (x' := (⟨(rd_T74 y163 t157).f0, (rd_T74 y163 t157).f1, (rd_T74 y163 t157).f2, (rd_T74 y163 t157).f3, 2⟩ : S74)) (k74_mkM _ _ _ (⟨(rd_T74 y163 t157).f0, (rd_T74 y163 t157).f1, (rd_T74 y163 t157).f2, (rd_T74 y163 t157).f3, 2⟩ : S74) ) (fun _ hk => hk); have hx18_4 := hcc18 4 _ rfl; (try simp only [show (k74).sz = 5 from rfl, Nat.mul_one, Nat.add_zero] at hx18_4); have hf18_4 := hfr18 4; (try simp only [show (k74).sz = 5 from rfl, Nat.mul_one, Nat.add_zero] at hf18_4); clear hcl18 hcc18 hfr18 hM18) | ((with_reducible refine gate_store (t := 3) (p := 37) rfl ?_); refine store_event (t := 3) (p := 37) (v := ?vo_w19) (w1 := (w17.setCell ⟨go11, (t157 : Int).toNat * 5 + 4, none⟩ (.int .i64 2))) ?hg ?ho ?hn ?hr ?_; (case ho => rfl); (case hg => rfl); (case hn => rfl); (case hr => first | (go_simp; done) | (go_simp; rfl)); intro w19 hw; have hg : w17.grownBy w19 (some go11) := (by rw [hw]; exact HP18.2); have hp_ : Kd.R k74 74 w19 w.heap.size (fun _ => True) (.slice (some ⟨go11, 0, none⟩) t160.length co11) y164 := (by rw [hw, Ny164.out]; exact HP18.1); clear HP18; have n0_ := Aside0.mk (hp_); have n1_ := Aside0.mk ((by rw [hw]; exact below_set (HB.out) GB11.out : Below w.heap.size w w19)); clear HO162; clear HB; have HO162 := n0_; have HB := n1_; clear n0_ n1_; clear hg hw hp_))
              go_ret2
              exact ⟨_, by first | rfl | (simp [errW_none, errW_some] <;> rfl) | (simp [*, errW_none, errW_some] <;> rfl), by (with_reducible repeat (first | apply Kd.R_alloc | apply Kd.R_drewN | apply Kd.R_drew)); exact HO162.out, by repeat (first | (with_reducible first | exact HB.out | apply below_alloc | apply pw_below_drewN | apply below_drew1) | exact HB.out)⟩
            · replace c12 := Bool.eq_false_iff.mpr c12
              subst c12
              have H1 : (some (y163, 0)) = some (r1, r2) := by rw [if_neg (show ¬ (false = true) by decide)] at H; exact H
              clear H
              have H := H1
              clear H1
              simp only [Option.some.injEq, Prod.mk.injEq] at H
              obtain ⟨rfl, rfl⟩ := H
              go_enter Try.func72, Try.ntmps72
              go_wp2_with (first | ((with_reducible refine gate_callee (f := 115) rfl ?_); refine goesL_ (some 13) rfl rfl Try.func115 (by kernel_rfl) rfl #[.slice A0 l0.length c0, .int .u64 a1] rfl (by (try simp only [List.map_toArray, List.map_cons, List.map_nil]); first | done | rfl | (simp only [List.length_drop, List.length_take]; rfl)) ?_; (with_reducible refine (payment_find.calls k _ _ l0 a1 t157 t158 _ ?side1 ?side2 A4.out).mono ?_); (case side1 => repeat (first | exact HR0.out | (with_reducible refine Kd.C_alloc ?_ _) | (with_reducible refine Kd.C_drewN ?_ _) | (with_reducible refine Kd.C_drew ?_))); (case side2 => exact HC0.out); rintro e w20 ⟨rfl, hb⟩; refine ⟨_, rfl, ?_⟩; have n0_ := Aside0.mk (below_step (by repeat (first | (with_reducible first | exact HB.out | apply below_alloc | apply pw_below_drewN | apply below_drew1) | exact HB.out)) hb); clear HB; have HB := n0_; clear n0_; (try clear hb); (try clear hb2); (try clear hk); (try clear hi); have p159 : 0 ≤ (t157 : Int) := of_decide_eq_true (by first | (with_reducible assumption) | assumption); have q159 : t157 < (l0.length : Int) := of_decide_eq_true (by first | (with_reducible assumption) | assumption); obtain ⟨ad159, e159, hx159_0, hx159_1, hx159_2, hx159_3, hx159_4⟩ := at_T74 HR0.out t157 p159 q159; cases e159; replace hx159_0 := (HB.out.cell (World.block_lt_of_cell? w _ hx159_0)).trans hx159_0; replace hx159_1 := (HB.out.cell (World.block_lt_of_cell? w _ hx159_1)).trans hx159_1; replace hx159_2 := (HB.out.cell (World.block_lt_of_cell? w _ hx159_2)).trans hx159_2; replace hx159_3 := (HB.out.cell (World.block_lt_of_cell? w _ hx159_3)).trans hx159_3; replace hx159_4 := (HB.out.cell (World.block_lt_of_cell? w _ hx159_4)).trans hx159_4; replace p159 := eq_true p159; replace q159 := eq_true q159) | ((with_reducible refine gate_callee (f := 117) rfl ?_); refine goesL_ (some 28) rfl rfl Try.func117 (by kernel_rfl) rfl #[.slice (some ad159) l0.length c0] rfl (by (try simp only [List.map_toArray, List.map_cons, List.map_nil]); first | done | rfl | (simp only [List.length_drop, List.length_take]; rfl)) ?_; (with_reducible refine (slices_Clone_Payment.calls _ _ l0 t160 _ ?side1 ?side2 A9.out).mono ?_); (case side1 => repeat (first | exact (Kd.C_below HR0.out HB.out) | (with_reducible refine Kd.C_alloc ?_ _) | (with_reducible refine Kd.C_drewN ?_ _) | (with_reducible refine Kd.C_drew ?_))); (case side2 => exact HC0.out); rintro e w21 ⟨v161, rfl, ho0, hb⟩; refine ⟨_, rfl, ?_⟩; have n0_ := Aside0.mk (Kd.R_lower ho0 (below_size (by repeat (first | (with_reducible first | exact HB.out | apply below_alloc | apply pw_below_drewN | apply below_drew1) | exact HB.out)))); have n1_ := Aside0.mk (below_step (by repeat (first | (with_reducible first | exact HB.out | apply below_alloc | apply pw_below_drewN | apply below_drew1) | exact HB.out)) hb); clear HB; have HO162 := n0_; have HB := n1_; clear n0_ n1_; (try clear hb); (try clear hb2); (try clear hk); (try clear hi); (try clear ho0); have p11 : 0 ≤ (t157 : Int) := of_decide_eq_true (by first | (with_reducible assumption) | assumption); have q11 : (t157 : Int) < ((t160.length : Int) : Int) := of_decide_eq_true (by first | (with_reducible assumption) | assumption); obtain ⟨go11, co11, eo11, gb11, gl11, cl11, HG11⟩ := Kd.R_form HO162.out (by omega); (first | cases eo11 | (injection eo11 with ea_ en_ ec_; (first | subst ea_ | (injection ea_ with ea_; subst ea_)); subst ec_; clear en_)); have GB11 := Aside0.mk gb11; have GG11 := Aside0.mk HG11; clear gb11 gl11 HG11; obtain ⟨ce11, hcl11, hM11, hcc11, hfr11⟩ := Kd.R_elem HO162.out z74 (t157 : Int) p11 q11; obtain rfl := k74_openM hM11; have hx11_0 : w21.cell? ⟨go11, (t157 : Int).toNat * 5, none⟩ = some (.int .u64 ((rd_T74 t160 t157).f0)) := hcc11 0 _ rfl; have hx11_1 : w21.cell? ⟨go11, (t157 : Int).toNat * 5 + 1, none⟩ = some (.int .u64 ((rd_T74 t160 t157).f1)) := hcc11 1 _ rfl; have hx11_2 : w21.cell? ⟨go11, (t157 : Int).toNat * 5 + 2, none⟩ = some (.int .u64 ((rd_T74 t160 t157).f2)) := hcc11 2 _ rfl; have hx11_3 : w21.cell? ⟨go11, (t157 : Int).toNat * 5 + 3, none⟩ = some (.int .u64 ((rd_T74 t160 t157).f3)) := hcc11 3 _ rfl; have hx11_4 : w21.cell? ⟨go11, (t157 : Int).toNat * 5 + 4, none⟩ = some (.int .i64 ((rd_T74 t160 t157).f4)) := hcc11 4 _ rfl; have hf11_0 : w21.frozen? ⟨go11, (t157 : Int).toNat * 5, none⟩ = false := hfr11 0; have hf11_1 : w21.frozen? ⟨go11, (t157 : Int).toNat * 5 + 1, none⟩ = false := hfr11 1; have hf11_2 : w21.frozen? ⟨go11, (t157 : Int).toNat * 5 + 2, none⟩ = false := hfr11 2; have hf11_3 : w21.frozen? ⟨go11, (t157 : Int).toNat * 5 + 3, none⟩ = false := hfr11 3; have hf11_4 : w21.frozen? ⟨go11, (t157 : Int).toNat * 5 + 4, none⟩ = false := hfr11 4; clear hcl11 hcc11 hfr11 hM11; replace p11 := eq_true p11; replace q11 := eq_true q11; have HX22 := Aside0.mk (show Kd.R k74 74 w21 w.heap.size (fun _ => True) (.slice (some ⟨go11, 0, none⟩) t160.length co11) t160 from (by (with_reducible repeat (first | apply Kd.R_alloc | apply Kd.R_drewN | apply Kd.R_drew)); exact HO162.out)); obtain ⟨ce22, hcl22, hM22, hcc22, hfr22⟩ := Kd.R_elem HX22.out z74 (t157 : Int) (of_decide_eq_true (by first | (with_reducible assumption) | assumption)) (by have h_ : (t157 : Int) < ((t160.length : Int) : Int) := of_decide_eq_true (by first | (with_reducible assumption) | assumption); first | exact h_ | (have e_ := (Kd.R_reads' HO162.out).1; omega) | simpa using h_); obtain rfl := k74_openM hM22; have HP22 := Kd.R_seg HX22.out (t157 : Int) (of_decide_eq_true (by first | (with_reducible assumption) | assumption)) (by have h_ : (t157 : Int) < ((t160.length : Int) : Int) := of_decide_eq_true (by first | (with_reducible assumption) | assumption); first | exact h_ | (have e_ := (Kd.R_reads' HO162.out).1; omega) | simpa using h_) (seg := [.int .i64 3]) (j := 4) hcl22 hcc22 (show 5 ≤ 5 from by decide) (x' := (⟨(rd_T74 t160 t157).f0, (rd_T74 t160 t157).f1, (rd_T74 t160 t157).f2, (rd_T74 t160 t157).f3, 3⟩ : S74)) (k74_mkM _ _ _ (⟨(rd_T74 t160 t157).f0, (rd_T74 t160 t157).f1, (rd_T74 t160 t157).f2, (rd_T74 t160 t157).f3, 3⟩ : S74) ) (fun _ hk => hk); have hx22_4 := hcc22 4 _ rfl; (try simp only [show (k74).sz = 5 from rfl, Nat.mul_one, Nat.add_zero] at hx22_4); have hf22_4 := hfr22 4; (try simp only [show (k74).sz = 5 from rfl, Nat.mul_one, Nat.add_zero] at hf22_4); clear hcl22 hcc22 hfr22 hM22) | ((with_reducible refine gate_store (t := 3) (p := 32) rfl ?_); refine store_event (t := 3) (p := 32) (v := ?vo_w23) (w1 := (w21.setCell ⟨go11, (t157 : Int).toNat * 5 + 4, none⟩ (.int .i64 3))) ?hg ?ho ?hn ?hr ?_; (case ho => rfl); (case hg => rfl); (case hn => rfl); (case hr => first | (go_simp; done) | (go_simp; rfl)); intro w23 hw; have hg : w21.grownBy w23 (some go11) := (by rw [hw]; exact HP22.2); have hp_ : Kd.R k74 74 w23 w.heap.size (fun _ => True) (.slice (some ⟨go11, 0, none⟩) t160.length co11) y163 := (by rw [hw, Ny163.out]; exact HP22.1); clear HP22; have n0_ := Aside0.mk (hp_); have n1_ := Aside0.mk ((by rw [hw]; exact below_set (HB.out) GB11.out : Below w.heap.size w w23)); clear HO162; clear HB; have HO162 := n0_; have HB := n1_; clear n0_ n1_; clear hg hw hp_))
              go_ret2
              exact ⟨_, by first | rfl | (simp [errW_none, errW_some] <;> rfl) | (simp [*, errW_none, errW_some] <;> rfl), by (with_reducible repeat (first | apply Kd.R_alloc | apply Kd.R_drewN | apply Kd.R_drew)); exact HO162.out, by repeat (first | (with_reducible first | exact HB.out | apply below_alloc | apply pw_below_drewN | apply below_drew1) | exact HB.out)⟩
          · rw [if_neg c10] at H
            exact absurd H (by simp)
        · rw [if_neg c8] at H
          have c8b0 : (((rd_T74 l0 t157).f4) == 1) = false := beq_eq_false_iff_ne.mpr c8
          have c8b1 : (((rd_T74 l0 t157).f4) != 1) = true := bne_iff_ne.mpr c8
          simp only [Option.some.injEq, Prod.mk.injEq] at H
          obtain ⟨rfl, rfl⟩ := H
          go_enter Try.func72, Try.ntmps72
          go_wp2_with (first | ((with_reducible refine gate_callee (f := 115) rfl ?_); refine goesL_ (some 13) rfl rfl Try.func115 (by kernel_rfl) rfl #[.slice A0 l0.length c0, .int .u64 a1] rfl (by (try simp only [List.map_toArray, List.map_cons, List.map_nil]); first | done | rfl | (simp only [List.length_drop, List.length_take]; rfl)) ?_; (with_reducible refine (payment_find.calls k _ _ l0 a1 t157 t158 _ ?side1 ?side2 A4.out).mono ?_); (case side1 => repeat (first | exact HR0.out | (with_reducible refine Kd.C_alloc ?_ _) | (with_reducible refine Kd.C_drewN ?_ _) | (with_reducible refine Kd.C_drew ?_))); (case side2 => exact HC0.out); rintro e w24 ⟨rfl, hb⟩; refine ⟨_, rfl, ?_⟩; have n0_ := Aside0.mk (below_step (by repeat (first | (with_reducible first | exact HB.out | apply below_alloc | apply pw_below_drewN | apply below_drew1) | exact HB.out)) hb); clear HB; have HB := n0_; clear n0_; (try clear hb); (try clear hb2); (try clear hk); (try clear hi); have p159 : 0 ≤ (t157 : Int) := of_decide_eq_true (by first | (with_reducible assumption) | assumption); have q159 : t157 < (l0.length : Int) := of_decide_eq_true (by first | (with_reducible assumption) | assumption); obtain ⟨ad159, e159, hx159_0, hx159_1, hx159_2, hx159_3, hx159_4⟩ := at_T74 HR0.out t157 p159 q159; cases e159; replace hx159_0 := (HB.out.cell (World.block_lt_of_cell? w _ hx159_0)).trans hx159_0; replace hx159_1 := (HB.out.cell (World.block_lt_of_cell? w _ hx159_1)).trans hx159_1; replace hx159_2 := (HB.out.cell (World.block_lt_of_cell? w _ hx159_2)).trans hx159_2; replace hx159_3 := (HB.out.cell (World.block_lt_of_cell? w _ hx159_3)).trans hx159_3; replace hx159_4 := (HB.out.cell (World.block_lt_of_cell? w _ hx159_4)).trans hx159_4; replace p159 := eq_true p159; replace q159 := eq_true q159))
          go_ret2
          exact ⟨_, by first | rfl | (simp [errW_none, errW_some] <;> rfl) | (simp [*, errW_none, errW_some] <;> rfl), by first | exact Kd.R_nil _ _ _ _ _ | exact Kd.N_nil _ _ _ _ _ | exact Kd.V_nil _ _ _ _ _ | exact Kd.Q_nil _ _ _ _ _ | exact Kd.S_nil _ _ _ _ _, by repeat (first | (with_reducible first | exact HB.out | apply below_alloc | apply pw_below_drewN | apply below_drew1) | exact HB.out)⟩
      · rw [if_neg c7] at H
        exact absurd H (by simp)
    · rw [if_neg c6] at H
      exact absurd H (by simp)
  · rw [if_neg c5] at H
    have c5b0 : (t158 == 0) = false := beq_eq_false_iff_ne.mpr c5
    have c5b1 : (t158 != 0) = true := bne_iff_ne.mpr c5
    simp only [Option.some.injEq, Prod.mk.injEq] at H
    obtain ⟨rfl, rfl⟩ := H
    go_enter Try.func72, Try.ntmps72
    go_wp2_with (first | ((with_reducible refine gate_callee (f := 115) rfl ?_); refine goesL_ (some 13) rfl rfl Try.func115 (by kernel_rfl) rfl #[.slice A0 l0.length c0, .int .u64 a1] rfl (by (try simp only [List.map_toArray, List.map_cons, List.map_nil]); first | done | rfl | (simp only [List.length_drop, List.length_take]; rfl)) ?_; (with_reducible refine (payment_find.calls k _ _ l0 a1 t157 t158 _ ?side1 ?side2 A4.out).mono ?_); (case side1 => repeat (first | exact HR0.out | (with_reducible refine Kd.C_alloc ?_ _) | (with_reducible refine Kd.C_drewN ?_ _) | (with_reducible refine Kd.C_drew ?_))); (case side2 => exact HC0.out); rintro e w25 ⟨rfl, hb⟩; refine ⟨_, rfl, ?_⟩; have n0_ := Aside0.mk (below_step (by repeat (first | (with_reducible first | exact HB.out | apply below_alloc | apply pw_below_drewN | apply below_drew1) | exact HB.out)) hb); clear HB; have HB := n0_; clear n0_; (try clear hb); (try clear hb2); (try clear hk); (try clear hi)))
    go_ret2
    exact ⟨_, by first | rfl | (simp [errW_none, errW_some] <;> rfl) | (simp [*, errW_none, errW_some] <;> rfl), by first | exact Kd.R_nil _ _ _ _ _ | exact Kd.N_nil _ _ _ _ _ | exact Kd.V_nil _ _ _ _ _ | exact Kd.Q_nil _ _ _ _ _ | exact Kd.S_nil _ _ _ _ _, by repeat (first | (with_reducible first | exact HB.out | apply below_alloc | apply pw_below_drewN | apply below_drew1) | exact HB.out)⟩

/-! ### damsonlaw13_live: function 68 -/
def damsonlaw13_live.f (k : Nat)  : Option (Bool) := (payment_Start.f k ([] : List (S74)) 1 0 0 5 1).bind fun bt165 => ((payment_End.f k bt165.1 1 true).bind fun bt169 => ((payment_End.f k bt169.1 1 false).bind fun bt173 => (if bt165.2 = 0 then (if bt169.2 = 0 then (some (bt173.2 == 10)) else (some false)) else (some false))))
theorem damsonlaw13_live.mono : ∀ k, LeO (damsonlaw13_live.f k ) (damsonlaw13_live.f (k + 1) ) := by
  intro  k
  unfold damsonlaw13_live.f
  repeat' first
      | (with_reducible exact payment_End.mono _ _ _ _)
      | (with_reducible exact payment_Start.mono _ _ _ _ _ _ _)
      | (with_reducible exact LeO.refl _)
      | (with_reducible exact LeO.none _)
      | (with_reducible refine LeO.ite ?_ ?_)
      | (with_reducible refine LeO.bind ?_ (fun _ => ?_))
      | exact payment_End.mono _ _ _ _
      | exact payment_Start.mono _ _ _ _ _ _ _
      | exact LeO.none _
      | refine LeO.ite ?_ ?_
      | refine LeO.bind ?_ (fun _ => ?_)
set_option maxHeartbeats 8000000 in
set_option maxRecDepth 100000 in
theorem damsonlaw13_live.calls (k : Nat)  (r : Bool) (w : World) (h : damsonlaw13_live.f k  = some r) :
    Calls Try.prog 68 #[] w fun e w' => e = .returned (.bool r) ∧ Below w.heap.size w w' := by
  have hu74 := Try.underlying74
  have HB := Aside0.mk (Below.refl w.heap.size w)
  have H : ((payment_Start.f k ([] : List (S74)) 1 0 0 5 1).bind fun bt165 => ((payment_End.f k bt165.1 1 true).bind fun bt169 => ((payment_End.f k bt169.1 1 false).bind fun bt173 => (if bt165.2 = 0 then (if bt169.2 = 0 then (some (bt173.2 == 10)) else (some false)) else (some false))))) = some r := h
  clear h
  replace H := Option.bind_eq_some_iff.mp H
  obtain ⟨⟨t165, t168⟩, A10, H⟩ := H
  replace H : ((payment_End.f k t165 1 true).bind fun bt169 => ((payment_End.f k bt169.1 1 false).bind fun bt173 => (if t168 = 0 then (if bt169.2 = 0 then (some (bt173.2 == 10)) else (some false)) else (some false)))) = some r := H
  have A1 := Aside0.mk A10
  clear A10
  replace H := Option.bind_eq_some_iff.mp H
  obtain ⟨⟨t169, t170⟩, A20, H⟩ := H
  replace H : ((payment_End.f k t169 1 false).bind fun bt173 => (if t168 = 0 then (if t170 = 0 then (some (bt173.2 == 10)) else (some false)) else (some false))) = some r := H
  have A2 := Aside0.mk A20
  clear A20
  replace H := Option.bind_eq_some_iff.mp H
  obtain ⟨⟨t173, t174⟩, A30, H⟩ := H
  replace H : (if t168 = 0 then (if t170 = 0 then (some (t174 == 10)) else (some false)) else (some false)) = some r := H
  have A3 := Aside0.mk A30
  clear A30
  by_cases c4 : t168 = 0
  · rw [if_pos c4] at H
    have c4b0 : (t168 == 0) = true := beq_iff_eq.mpr c4
    have c4b1 : (t168 != 0) = false := bne_eq_false_iff_eq.mpr c4
    clear c4
    by_cases c5 : t170 = 0
    · rw [if_pos c5] at H
      have c5b0 : (t170 == 0) = true := beq_iff_eq.mpr c5
      have c5b1 : (t170 != 0) = false := bne_eq_false_iff_eq.mpr c5
      clear c5
      obtain rfl := Option.some.inj H
      go_enter Try.func68, Try.ntmps68
      go_wp2_with (first | ((with_reducible refine gate_callee (f := 71) rfl ?_); refine goesL_ (some 8) rfl rfl Try.func71 (by kernel_rfl) rfl #[.slice none 0 0, .agg #[.int .u64 1, .int .u64 0, .int .u64 0, .int .u64 5, .int .i64 1]] rfl (by (try simp only [List.map_toArray, List.map_cons, List.map_nil]); first | done | rfl | (simp only [List.length_drop, List.length_take]; rfl)) ?_; (refine (payment_Start.calls k _ _ ([] : List (S74)) 1 0 0 5 1 t165 t168 _ ?side1 ?side2 A1.out).mono ?_); (case side1 => exact Kd.C_nil _ _); (case side2 => exact Nat.le_refl _); rintro e w6 ⟨v166, rfl, ho0, hb⟩; refine ⟨_, rfl, ?_⟩; have n0_ := Aside0.mk (Kd.R_lower ho0 (below_size (by repeat (first | (with_reducible first | exact HB.out | apply below_alloc | apply pw_below_drewN | apply below_drew1) | exact HB.out)))); have n1_ := Aside0.mk (below_step (by repeat (first | (with_reducible first | exact HB.out | apply below_alloc | apply pw_below_drewN | apply below_drew1) | exact HB.out)) hb); clear HB; have HO167 := n0_; have HB := n1_; clear n0_ n1_; (try clear hb); (try clear hb2); (try clear hk); (try clear hi); (try clear ho0); obtain ⟨Ao7, co7, eo7⟩ := Kd.R_slice HO167.out; subst eo7) | ((with_reducible refine gate_callee (f := 72) rfl ?_); refine goesL_ (some 13) rfl rfl Try.func72 (by kernel_rfl) rfl #[.slice Ao7 t165.length co7, .int .u64 1, .bool true] rfl (by (try simp only [List.map_toArray, List.map_cons, List.map_nil]); first | done | rfl | (simp only [List.length_drop, List.length_take]; rfl)) ?_; (with_reducible refine (payment_End.calls k _ _ t165 1 true t169 t170 _ ?side1 ?side2 A2.out).mono ?_); (case side1 => repeat (first | exact (Kd.R_reads' HO167.out).2.2 | (with_reducible refine Kd.C_alloc ?_ _) | (with_reducible refine Kd.C_drewN ?_ _) | (with_reducible refine Kd.C_drew ?_))); (case side2 => exact (Kd.R_reads' HO167.out).2.1); rintro e w8 ⟨v171, rfl, ho0, hb⟩; refine ⟨_, rfl, ?_⟩; have n0_ := Aside0.mk (Kd.R_elder' (by (with_reducible repeat (first | apply Kd.R_alloc | apply Kd.R_drewN | apply Kd.R_drew)); exact HO167.out) (Kd.R_base ho0) hb); have n1_ := Aside0.mk (Kd.R_lower (Kd.R_new' ho0 (Kd.R_lt (by (with_reducible repeat (first | apply Kd.R_alloc | apply Kd.R_drewN | apply Kd.R_drew)); exact HO167.out))) (below_size (by repeat (first | (with_reducible first | exact HB.out | apply below_alloc | apply pw_below_drewN | apply below_drew1) | exact HB.out)))); have n2_ := Aside0.mk (below_step (by repeat (first | (with_reducible first | exact HB.out | apply below_alloc | apply pw_below_drewN | apply below_drew1) | exact HB.out)) hb); clear HO167; clear HB; have HO167 := n0_; have HO172 := n1_; have HB := n2_; clear n0_ n1_ n2_; (try clear hb); (try clear hb2); (try clear hk); (try clear hi); (try clear ho0); obtain ⟨Ao9, co9, eo9⟩ := Kd.R_slice HO172.out; subst eo9) | ((with_reducible refine gate_callee (f := 72) rfl ?_); refine goesL_ (some 18) rfl rfl Try.func72 (by kernel_rfl) rfl #[.slice Ao9 t169.length co9, .int .u64 1, .bool false] rfl (by (try simp only [List.map_toArray, List.map_cons, List.map_nil]); first | done | rfl | (simp only [List.length_drop, List.length_take]; rfl)) ?_; (with_reducible refine (payment_End.calls k _ _ t169 1 false t173 t174 _ ?side1 ?side2 A3.out).mono ?_); (case side1 => repeat (first | exact (Kd.R_reads' HO172.out).2.2 | (with_reducible refine Kd.C_alloc ?_ _) | (with_reducible refine Kd.C_drewN ?_ _) | (with_reducible refine Kd.C_drew ?_))); (case side2 => exact (Kd.R_reads' HO172.out).2.1); rintro e w10 ⟨v175, rfl, ho0, hb⟩; refine ⟨_, rfl, ?_⟩; have n0_ := Aside0.mk (Kd.R_elder' (by (with_reducible repeat (first | apply Kd.R_alloc | apply Kd.R_drewN | apply Kd.R_drew)); exact HO167.out) (Kd.R_base ho0) hb); have n1_ := Aside0.mk (Kd.R_elder' (by (with_reducible repeat (first | apply Kd.R_alloc | apply Kd.R_drewN | apply Kd.R_drew)); exact HO172.out) (Kd.R_base ho0) hb); have n2_ := Aside0.mk (Kd.R_lower (Kd.R_new' (Kd.R_new' ho0 (Kd.R_lt (by (with_reducible repeat (first | apply Kd.R_alloc | apply Kd.R_drewN | apply Kd.R_drew)); exact HO167.out))) (Kd.R_lt (by (with_reducible repeat (first | apply Kd.R_alloc | apply Kd.R_drewN | apply Kd.R_drew)); exact HO172.out))) (below_size (by repeat (first | (with_reducible first | exact HB.out | apply below_alloc | apply pw_below_drewN | apply below_drew1) | exact HB.out)))); have n3_ := Aside0.mk (below_step (by repeat (first | (with_reducible first | exact HB.out | apply below_alloc | apply pw_below_drewN | apply below_drew1) | exact HB.out)) hb); clear HO167; clear HO172; clear HB; have HO167 := n0_; have HO172 := n1_; have HO176 := n2_; have HB := n3_; clear n0_ n1_ n2_ n3_; (try clear hb); (try clear hb2); (try clear hk); (try clear hi); (try clear ho0)))
      go_ret
      exact ⟨by first | rfl | (simp [errW_none, errW_some] <;> rfl) | (simp [*, errW_none, errW_some] <;> rfl), by repeat (first | (with_reducible first | exact HB.out | apply below_alloc | apply pw_below_drewN | apply below_drew1) | exact HB.out)⟩
    · rw [if_neg c5] at H
      have c5b0 : (t170 == 0) = false := beq_eq_false_iff_ne.mpr c5
      have c5b1 : (t170 != 0) = true := bne_iff_ne.mpr c5
      obtain rfl := Option.some.inj H
      go_enter Try.func68, Try.ntmps68
      go_wp2_with (first | ((with_reducible refine gate_callee (f := 71) rfl ?_); refine goesL_ (some 8) rfl rfl Try.func71 (by kernel_rfl) rfl #[.slice none 0 0, .agg #[.int .u64 1, .int .u64 0, .int .u64 0, .int .u64 5, .int .i64 1]] rfl (by (try simp only [List.map_toArray, List.map_cons, List.map_nil]); first | done | rfl | (simp only [List.length_drop, List.length_take]; rfl)) ?_; (refine (payment_Start.calls k _ _ ([] : List (S74)) 1 0 0 5 1 t165 t168 _ ?side1 ?side2 A1.out).mono ?_); (case side1 => exact Kd.C_nil _ _); (case side2 => exact Nat.le_refl _); rintro e w11 ⟨v166, rfl, ho0, hb⟩; refine ⟨_, rfl, ?_⟩; have n0_ := Aside0.mk (Kd.R_lower ho0 (below_size (by repeat (first | (with_reducible first | exact HB.out | apply below_alloc | apply pw_below_drewN | apply below_drew1) | exact HB.out)))); have n1_ := Aside0.mk (below_step (by repeat (first | (with_reducible first | exact HB.out | apply below_alloc | apply pw_below_drewN | apply below_drew1) | exact HB.out)) hb); clear HB; have HO167 := n0_; have HB := n1_; clear n0_ n1_; (try clear hb); (try clear hb2); (try clear hk); (try clear hi); (try clear ho0); obtain ⟨Ao12, co12, eo12⟩ := Kd.R_slice HO167.out; subst eo12) | ((with_reducible refine gate_callee (f := 72) rfl ?_); refine goesL_ (some 13) rfl rfl Try.func72 (by kernel_rfl) rfl #[.slice Ao12 t165.length co12, .int .u64 1, .bool true] rfl (by (try simp only [List.map_toArray, List.map_cons, List.map_nil]); first | done | rfl | (simp only [List.length_drop, List.length_take]; rfl)) ?_; (with_reducible refine (payment_End.calls k _ _ t165 1 true t169 t170 _ ?side1 ?side2 A2.out).mono ?_); (case side1 => repeat (first | exact (Kd.R_reads' HO167.out).2.2 | (with_reducible refine Kd.C_alloc ?_ _) | (with_reducible refine Kd.C_drewN ?_ _) | (with_reducible refine Kd.C_drew ?_))); (case side2 => exact (Kd.R_reads' HO167.out).2.1); rintro e w13 ⟨v171, rfl, ho0, hb⟩; refine ⟨_, rfl, ?_⟩; have n0_ := Aside0.mk (Kd.R_elder' (by (with_reducible repeat (first | apply Kd.R_alloc | apply Kd.R_drewN | apply Kd.R_drew)); exact HO167.out) (Kd.R_base ho0) hb); have n1_ := Aside0.mk (Kd.R_lower (Kd.R_new' ho0 (Kd.R_lt (by (with_reducible repeat (first | apply Kd.R_alloc | apply Kd.R_drewN | apply Kd.R_drew)); exact HO167.out))) (below_size (by repeat (first | (with_reducible first | exact HB.out | apply below_alloc | apply pw_below_drewN | apply below_drew1) | exact HB.out)))); have n2_ := Aside0.mk (below_step (by repeat (first | (with_reducible first | exact HB.out | apply below_alloc | apply pw_below_drewN | apply below_drew1) | exact HB.out)) hb); clear HO167; clear HB; have HO167 := n0_; have HO172 := n1_; have HB := n2_; clear n0_ n1_ n2_; (try clear hb); (try clear hb2); (try clear hk); (try clear hi); (try clear ho0); obtain ⟨Ao14, co14, eo14⟩ := Kd.R_slice HO172.out; subst eo14) | ((with_reducible refine gate_callee (f := 72) rfl ?_); refine goesL_ (some 18) rfl rfl Try.func72 (by kernel_rfl) rfl #[.slice Ao14 t169.length co14, .int .u64 1, .bool false] rfl (by (try simp only [List.map_toArray, List.map_cons, List.map_nil]); first | done | rfl | (simp only [List.length_drop, List.length_take]; rfl)) ?_; (with_reducible refine (payment_End.calls k _ _ t169 1 false t173 t174 _ ?side1 ?side2 A3.out).mono ?_); (case side1 => repeat (first | exact (Kd.R_reads' HO172.out).2.2 | (with_reducible refine Kd.C_alloc ?_ _) | (with_reducible refine Kd.C_drewN ?_ _) | (with_reducible refine Kd.C_drew ?_))); (case side2 => exact (Kd.R_reads' HO172.out).2.1); rintro e w15 ⟨v175, rfl, ho0, hb⟩; refine ⟨_, rfl, ?_⟩; have n0_ := Aside0.mk (Kd.R_elder' (by (with_reducible repeat (first | apply Kd.R_alloc | apply Kd.R_drewN | apply Kd.R_drew)); exact HO167.out) (Kd.R_base ho0) hb); have n1_ := Aside0.mk (Kd.R_elder' (by (with_reducible repeat (first | apply Kd.R_alloc | apply Kd.R_drewN | apply Kd.R_drew)); exact HO172.out) (Kd.R_base ho0) hb); have n2_ := Aside0.mk (Kd.R_lower (Kd.R_new' (Kd.R_new' ho0 (Kd.R_lt (by (with_reducible repeat (first | apply Kd.R_alloc | apply Kd.R_drewN | apply Kd.R_drew)); exact HO167.out))) (Kd.R_lt (by (with_reducible repeat (first | apply Kd.R_alloc | apply Kd.R_drewN | apply Kd.R_drew)); exact HO172.out))) (below_size (by repeat (first | (with_reducible first | exact HB.out | apply below_alloc | apply pw_below_drewN | apply below_drew1) | exact HB.out)))); have n3_ := Aside0.mk (below_step (by repeat (first | (with_reducible first | exact HB.out | apply below_alloc | apply pw_below_drewN | apply below_drew1) | exact HB.out)) hb); clear HO167; clear HO172; clear HB; have HO167 := n0_; have HO172 := n1_; have HO176 := n2_; have HB := n3_; clear n0_ n1_ n2_ n3_; (try clear hb); (try clear hb2); (try clear hk); (try clear hi); (try clear ho0)))
      go_ret
      exact ⟨by first | rfl | (simp [errW_none, errW_some] <;> rfl) | (simp [*, errW_none, errW_some] <;> rfl), by repeat (first | (with_reducible first | exact HB.out | apply below_alloc | apply pw_below_drewN | apply below_drew1) | exact HB.out)⟩
  · rw [if_neg c4] at H
    have c4b0 : (t168 == 0) = false := beq_eq_false_iff_ne.mpr c4
    have c4b1 : (t168 != 0) = true := bne_iff_ne.mpr c4
    obtain rfl := Option.some.inj H
    go_enter Try.func68, Try.ntmps68
    go_wp2_with (first | ((with_reducible refine gate_callee (f := 71) rfl ?_); refine goesL_ (some 8) rfl rfl Try.func71 (by kernel_rfl) rfl #[.slice none 0 0, .agg #[.int .u64 1, .int .u64 0, .int .u64 0, .int .u64 5, .int .i64 1]] rfl (by (try simp only [List.map_toArray, List.map_cons, List.map_nil]); first | done | rfl | (simp only [List.length_drop, List.length_take]; rfl)) ?_; (refine (payment_Start.calls k _ _ ([] : List (S74)) 1 0 0 5 1 t165 t168 _ ?side1 ?side2 A1.out).mono ?_); (case side1 => exact Kd.C_nil _ _); (case side2 => exact Nat.le_refl _); rintro e w16 ⟨v166, rfl, ho0, hb⟩; refine ⟨_, rfl, ?_⟩; have n0_ := Aside0.mk (Kd.R_lower ho0 (below_size (by repeat (first | (with_reducible first | exact HB.out | apply below_alloc | apply pw_below_drewN | apply below_drew1) | exact HB.out)))); have n1_ := Aside0.mk (below_step (by repeat (first | (with_reducible first | exact HB.out | apply below_alloc | apply pw_below_drewN | apply below_drew1) | exact HB.out)) hb); clear HB; have HO167 := n0_; have HB := n1_; clear n0_ n1_; (try clear hb); (try clear hb2); (try clear hk); (try clear hi); (try clear ho0); obtain ⟨Ao17, co17, eo17⟩ := Kd.R_slice HO167.out; subst eo17) | ((with_reducible refine gate_callee (f := 72) rfl ?_); refine goesL_ (some 13) rfl rfl Try.func72 (by kernel_rfl) rfl #[.slice Ao17 t165.length co17, .int .u64 1, .bool true] rfl (by (try simp only [List.map_toArray, List.map_cons, List.map_nil]); first | done | rfl | (simp only [List.length_drop, List.length_take]; rfl)) ?_; (with_reducible refine (payment_End.calls k _ _ t165 1 true t169 t170 _ ?side1 ?side2 A2.out).mono ?_); (case side1 => repeat (first | exact (Kd.R_reads' HO167.out).2.2 | (with_reducible refine Kd.C_alloc ?_ _) | (with_reducible refine Kd.C_drewN ?_ _) | (with_reducible refine Kd.C_drew ?_))); (case side2 => exact (Kd.R_reads' HO167.out).2.1); rintro e w18 ⟨v171, rfl, ho0, hb⟩; refine ⟨_, rfl, ?_⟩; have n0_ := Aside0.mk (Kd.R_elder' (by (with_reducible repeat (first | apply Kd.R_alloc | apply Kd.R_drewN | apply Kd.R_drew)); exact HO167.out) (Kd.R_base ho0) hb); have n1_ := Aside0.mk (Kd.R_lower (Kd.R_new' ho0 (Kd.R_lt (by (with_reducible repeat (first | apply Kd.R_alloc | apply Kd.R_drewN | apply Kd.R_drew)); exact HO167.out))) (below_size (by repeat (first | (with_reducible first | exact HB.out | apply below_alloc | apply pw_below_drewN | apply below_drew1) | exact HB.out)))); have n2_ := Aside0.mk (below_step (by repeat (first | (with_reducible first | exact HB.out | apply below_alloc | apply pw_below_drewN | apply below_drew1) | exact HB.out)) hb); clear HO167; clear HB; have HO167 := n0_; have HO172 := n1_; have HB := n2_; clear n0_ n1_ n2_; (try clear hb); (try clear hb2); (try clear hk); (try clear hi); (try clear ho0); obtain ⟨Ao19, co19, eo19⟩ := Kd.R_slice HO172.out; subst eo19) | ((with_reducible refine gate_callee (f := 72) rfl ?_); refine goesL_ (some 18) rfl rfl Try.func72 (by kernel_rfl) rfl #[.slice Ao19 t169.length co19, .int .u64 1, .bool false] rfl (by (try simp only [List.map_toArray, List.map_cons, List.map_nil]); first | done | rfl | (simp only [List.length_drop, List.length_take]; rfl)) ?_; (with_reducible refine (payment_End.calls k _ _ t169 1 false t173 t174 _ ?side1 ?side2 A3.out).mono ?_); (case side1 => repeat (first | exact (Kd.R_reads' HO172.out).2.2 | (with_reducible refine Kd.C_alloc ?_ _) | (with_reducible refine Kd.C_drewN ?_ _) | (with_reducible refine Kd.C_drew ?_))); (case side2 => exact (Kd.R_reads' HO172.out).2.1); rintro e w20 ⟨v175, rfl, ho0, hb⟩; refine ⟨_, rfl, ?_⟩; have n0_ := Aside0.mk (Kd.R_elder' (by (with_reducible repeat (first | apply Kd.R_alloc | apply Kd.R_drewN | apply Kd.R_drew)); exact HO167.out) (Kd.R_base ho0) hb); have n1_ := Aside0.mk (Kd.R_elder' (by (with_reducible repeat (first | apply Kd.R_alloc | apply Kd.R_drewN | apply Kd.R_drew)); exact HO172.out) (Kd.R_base ho0) hb); have n2_ := Aside0.mk (Kd.R_lower (Kd.R_new' (Kd.R_new' ho0 (Kd.R_lt (by (with_reducible repeat (first | apply Kd.R_alloc | apply Kd.R_drewN | apply Kd.R_drew)); exact HO167.out))) (Kd.R_lt (by (with_reducible repeat (first | apply Kd.R_alloc | apply Kd.R_drewN | apply Kd.R_drew)); exact HO172.out))) (below_size (by repeat (first | (with_reducible first | exact HB.out | apply below_alloc | apply pw_below_drewN | apply below_drew1) | exact HB.out)))); have n3_ := Aside0.mk (below_step (by repeat (first | (with_reducible first | exact HB.out | apply below_alloc | apply pw_below_drewN | apply below_drew1) | exact HB.out)) hb); clear HO167; clear HO172; clear HB; have HO167 := n0_; have HO172 := n1_; have HO176 := n2_; have HB := n3_; clear n0_ n1_ n2_ n3_; (try clear hb); (try clear hb2); (try clear hk); (try clear hi); (try clear ho0)))
    go_ret
    exact ⟨by first | rfl | (simp [errW_none, errW_some] <;> rfl) | (simp [*, errW_none, errW_some] <;> rfl), by repeat (first | (with_reducible first | exact HB.out | apply below_alloc | apply pw_below_drewN | apply below_drew1) | exact HB.out)⟩

/-! ### damsonlaw13_few: function 69 -/
def damsonlaw13_few.f (l0 : List (S74)) : Option (Bool) := if (l0.length : Int) ≤ 40 then (some true) else (if (l0.length : Int) ≥ 256 then (some (decide ((l0.length : Int) ≤ 258))) else (some false))
set_option maxHeartbeats 8000000 in
set_option maxRecDepth 100000 in
theorem damsonlaw13_few.calls (A0 : Option Addr) (c0 : Nat) (l0 : List (S74)) (r : Bool) (w : World) (hr0 : Kd.C k74 w A0 l0.length l0) (hc0 : l0.length ≤ c0) (h : damsonlaw13_few.f l0 = some r) :
    Calls Try.prog 69 #[.slice A0 l0.length c0] w fun e w' => e = .returned (.bool r) ∧ Drawn0 w w' := by
  have HR0 := Aside0.mk hr0
  have HC0 := Aside0.mk hc0
  clear hr0 hc0
  have H : (if (l0.length : Int) ≤ 40 then (some true) else (if (l0.length : Int) ≥ 256 then (some (decide ((l0.length : Int) ≤ 258))) else (some false))) = some r := h
  clear h
  by_cases c2 : (l0.length : Int) ≤ 40
  · rw [if_pos c2] at H
    have c2b0 : decide ((l0.length : Int) ≤ 40) = true := decide_eq_true c2
    have c2b1 : decide (l0.length ≤ 40) = true := decide_eq_true (by omega)
    clear c2
    obtain rfl := Option.some.inj H
    go_enter Try.func69, Try.ntmps69
    go_wp2
    go_ret
    exact ⟨by first | rfl | (simp; done) | (simp [*]; done), by repeat (first | exact Drawn0.refl _ | apply Drawn0.step)⟩
  · rw [if_neg c2] at H
    have c2b0 : decide ((l0.length : Int) ≤ 40) = false := decide_eq_false c2
    have c2b1 : decide (l0.length ≤ 40) = false := decide_eq_false (by omega)
    clear c2
    by_cases c3 : (l0.length : Int) ≥ 256
    · rw [if_pos c3] at H
      have c3b0 : decide (256 ≤ (l0.length : Int)) = true := decide_eq_true c3
      have c3b1 : decide (256 ≤ l0.length) = true := decide_eq_true (by omega)
      clear c3
      obtain rfl := Option.some.inj H
      go_enter Try.func69, Try.ntmps69
      go_wp2
      go_ret
      exact ⟨by first | rfl | (simp; done) | (simp [*]; done), by repeat (first | exact Drawn0.refl _ | apply Drawn0.step)⟩
    · rw [if_neg c3] at H
      have c3b0 : decide (256 ≤ (l0.length : Int)) = false := decide_eq_false c3
      have c3b1 : decide (256 ≤ l0.length) = false := decide_eq_false (by omega)
      clear c3
      obtain rfl := Option.some.inj H
      go_enter Try.func69, Try.ntmps69
      go_wp2
      go_ret
      exact ⟨by first | rfl | (simp; done) | (simp [*]; done), by repeat (first | exact Drawn0.refl _ | apply Drawn0.step)⟩

/-! ### money_Add: function 124 -/
def money_Add.l0 : Nat → Int → List Int → Int → Int → Option (Int × Int)
  | 0, _, _, _, _ => none
  | k + 1, x2, x11, x12, x13 => if x13 < x12 then (if 0 ≤ x13 then (if x13 < (x11.length : Int) then (if (IntKind.u64.wrap (x2 + (rd x11 x13))) > 4611686018427387904 then (some (0, 8)) else (money_Add.l0 k (IntKind.u64.wrap (x2 + (rd x11 x13))) x11 x12 (wrap64 (x13 + 1)))) else (none)) else (none)) else (some (x2, 0))
def money_Add.f (k : Nat) (l0 : List Int) : Option (Int × Int) := (money_Check.f k l0).bind fun t177 => (if t177 = 0 then (money_Add.l0 k 0 l0 (l0.length : Int) 0) else (some (0, t177)))
theorem money_Add.mono_l : ∀ k, (∀ y0 y1 y2 y3, LeO (money_Add.l0 k y0 y1 y2 y3) (money_Add.l0 (k + 1) y0 y1 y2 y3))
  | 0 => fun _ _ _ _ r h => by simp [money_Add.l0] at h
  | k + 1 => by
    have ih0 := money_Add.mono_l k
    · intro y0 y1 y2 y3
      unfold money_Add.l0
      repeat' first
      | (with_reducible exact ih0 _ _ _ _)
      | (with_reducible exact money_Check.mono _ _)
      | (with_reducible exact LeO.refl _)
      | (with_reducible exact LeO.none _)
      | (with_reducible refine LeO.ite ?_ ?_)
      | (with_reducible refine LeO.bind ?_ (fun _ => ?_))
      | exact ih0 _ _ _ _
      | exact money_Check.mono _ _
      | exact LeO.none _
      | refine LeO.ite ?_ ?_
      | refine LeO.bind ?_ (fun _ => ?_)
theorem money_Add.mono : ∀ a0 k, LeO (money_Add.f k a0) (money_Add.f (k + 1) a0) := by
  intro a0 k
  have ih0 := money_Add.mono_l k
  unfold money_Add.f
  repeat' first
      | (with_reducible exact ih0 _ _ _ _)
      | (with_reducible exact money_Check.mono _ _)
      | (with_reducible exact LeO.refl _)
      | (with_reducible exact LeO.none _)
      | (with_reducible refine LeO.ite ?_ ?_)
      | (with_reducible refine LeO.bind ?_ (fun _ => ?_))
      | exact ih0 _ _ _ _
      | exact money_Check.mono _ _
      | exact LeO.none _
      | refine LeO.ite ?_ ?_
      | refine LeO.bind ?_ (fun _ => ?_)
set_option maxHeartbeats 8000000 in
set_option maxRecDepth 100000 in
theorem money_Add.calls (k : Nat) (A0 : Option Addr) (c0 : Nat) (l0 : List Int) (r1 : Int) (r2 : Int) (w : World) (hr0 : Kd.C (Kd.int .u64) w A0 l0.length l0) (hc0 : l0.length ≤ c0) (h : money_Add.f k l0 = some (r1, r2)) :
    Calls Try.prog 124 #[.slice A0 l0.length c0] w fun e w' => e = .returned (.tuple #[.int .u64 r1, .int .i64 r2]) ∧ Below w.heap.size w w' := by
  have HR0 := Aside0.mk hr0
  have HC0 := Aside0.mk hc0
  clear hr0 hc0
  have HB := Aside0.mk (Below.refl w.heap.size w)
  have H : ((money_Check.f k l0).bind fun t177 => (if t177 = 0 then (money_Add.l0 k 0 l0 (l0.length : Int) 0) else (some (0, t177)))) = some (r1, r2) := h
  clear h
  replace H := Option.bind_eq_some_iff.mp H
  obtain ⟨t177, A20, H⟩ := H
  replace H : (if t177 = 0 then (money_Add.l0 k 0 l0 (l0.length : Int) 0) else (some (0, t177))) = some (r1, r2) := H
  have A2 := Aside0.mk A20
  clear A20
  by_cases c3 : t177 = 0
  · rw [if_pos c3] at H
    have c3b0 : (t177 == 0) = true := beq_iff_eq.mpr c3
    have c3b1 : (t177 != 0) = false := bne_eq_false_iff_eq.mpr c3
    clear c3
    have H' := Aside0.mk H
    clear H
    go_enter Try.func124, Try.ntmps124
    go_wp2_with (first | ((with_reducible refine gate_callee (f := 87) rfl ?_); refine goesL_ (some 7) rfl rfl Try.func87 (by kernel_rfl) rfl #[.slice A0 l0.length c0] rfl (by (try simp only [List.map_toArray, List.map_cons, List.map_nil]); first | done | rfl | (simp only [List.length_drop, List.length_take]; rfl)) ?_; (with_reducible refine (money_Check.calls k _ _ l0 t177 _ ?side1 ?side2 A2.out).mono ?_); (case side1 => repeat (first | exact HR0.out | (with_reducible refine Kd.C_alloc ?_ _) | (with_reducible refine Kd.C_drewN ?_ _) | (with_reducible refine Kd.C_drew ?_))); (case side2 => exact HC0.out); rintro e w4 ⟨rfl, hb⟩; refine ⟨_, rfl, ?_⟩; have n0_ := Aside0.mk (below_step (by repeat (first | (with_reducible first | exact HB.out | apply below_alloc | apply pw_below_drewN | apply below_drew1) | exact HB.out)) hb); clear HB; have HB := n0_; clear n0_; (try clear hb); (try clear hb2); (try clear hk); (try clear hi)))
    go_loopg [2, 13] k (fun kq v2 v13 w' => ∃ (x2_1 : Int) (x13_1 : Int), v2 = .int .u64 x2_1 ∧ v13 = .int .i64 x13_1 ∧ Aside0 (money_Add.l0 kq x2_1 l0 (l0.length : Int) x13_1 = some (r1, r2)) ∧ Aside0 (kq ≤ k) ∧ Aside0 (Below w.heap.size w w'))
    case atStart => exact ⟨(0), (0), (by first | rfl | (simp; done) | (simp [*]; done)), (by first | rfl | (simp; done) | (simp [*]; done)), H', ⟨Nat.le_refl _⟩, ⟨by repeat (first | (with_reducible first | exact HB.out | apply below_alloc | apply pw_below_drewN | apply below_drew1) | exact HB.out)⟩⟩
    case round =>
      clear H'
      try clear c1
      try clear p2
      try clear c3
      try clear c3b0
      try clear c3b1
      obtain ⟨x2_1, x13_1, rfl, rfl, HA, HK1, HB⟩ := hrel
      cases gk with
      | zero => exact absurd HA.out (by simp [money_Add.l0])
      | succ k1 =>
        have H := HA.out
        clear HA
        simp only [money_Add.l0] at H
        by_cases c5 : x13_1 < (l0.length : Int)
        · rw [if_pos c5] at H
          have c5b0 : decide (x13_1 < (l0.length : Int)) = true := decide_eq_true c5
          clear c5
          by_cases c6 : 0 ≤ x13_1
          · rw [if_pos c6] at H
            have c6b0 : decide (0 ≤ x13_1) = true := decide_eq_true c6
            clear c6
            by_cases c7 : x13_1 < (l0.length : Int)
            · rw [if_pos c7] at H
              have c7b0 : decide (x13_1 < (l0.length : Int)) = true := decide_eq_true c7
              clear c7
              by_cases c8 : (IntKind.u64.wrap (x2_1 + (rd l0 x13_1))) > 4611686018427387904
              · rw [if_pos c8] at H
                have c8b0 : decide (4611686018427387904 < (IntKind.u64.wrap (x2_1 + (rd l0 x13_1)))) = true := decide_eq_true c8
                clear c8
                simp only [Option.some.injEq, Prod.mk.injEq] at H
                obtain ⟨rfl, rfl⟩ := H
                have p178 : 0 ≤ (x13_1 : Int) := of_decide_eq_true (by first | (with_reducible assumption) | assumption)
                have q178 : x13_1 < (l0.length : Int) := of_decide_eq_true (by first | (with_reducible assumption) | assumption)
                obtain ⟨ad178, e178, hx178_0⟩ := Kd.at_int HR0.out x13_1 p178 q178
                cases e178
                replace hx178_0 := (HB.out.cell (World.block_lt_of_cell? w _ hx178_0)).trans hx178_0
                replace p178 := eq_true p178
                replace q178 := eq_true q178
                go_wp2
                go_ret2
                exact ⟨by first | rfl | (simp [errW_none, errW_some] <;> rfl) | (simp [*, errW_none, errW_some] <;> rfl), by repeat (first | (with_reducible first | exact HB.out | apply below_alloc | apply pw_below_drewN | apply below_drew1) | exact HB.out)⟩
              · rw [if_neg c8] at H
                have c8b0 : decide (4611686018427387904 < (IntKind.u64.wrap (x2_1 + (rd l0 x13_1)))) = false := decide_eq_false c8
                clear c8
                have H' := Aside0.mk H
                clear H
                have p178 : 0 ≤ (x13_1 : Int) := of_decide_eq_true (by first | (with_reducible assumption) | assumption)
                have q178 : x13_1 < (l0.length : Int) := of_decide_eq_true (by first | (with_reducible assumption) | assumption)
                obtain ⟨ad178, e178, hx178_0⟩ := Kd.at_int HR0.out x13_1 p178 q178
                cases e178
                replace hx178_0 := (HB.out.cell (World.block_lt_of_cell? w _ hx178_0)).trans hx178_0
                replace p178 := eq_true p178
                replace q178 := eq_true q178
                go_wp2
                go_roundg k1
                case measure => have := HK1.out; omega
                case rel => exact ⟨(IntKind.u64.wrap (x2_1 + (rd l0 x13_1))), (wrap64 (x13_1 + 1)), (by first | rfl | (simp; done) | (simp [*]; done)), (by first | rfl | (simp; done) | (simp [*]; done)), H', ⟨by have := HK1.out; omega⟩, ⟨by repeat (first | (with_reducible first | exact HB.out | apply below_alloc | apply pw_below_drewN | apply below_drew1) | exact HB.out)⟩⟩
            · rw [if_neg c7] at H
              exact absurd H (by simp)
          · rw [if_neg c6] at H
            exact absurd H (by simp)
        · rw [if_neg c5] at H
          have c5b0 : decide (x13_1 < (l0.length : Int)) = false := decide_eq_false c5
          clear c5
          simp only [Option.some.injEq, Prod.mk.injEq] at H
          obtain ⟨rfl, rfl⟩ := H
          go_wp2
          go_ret2
          exact ⟨by first | rfl | (simp [errW_none, errW_some] <;> rfl) | (simp [*, errW_none, errW_some] <;> rfl), by repeat (first | (with_reducible first | exact HB.out | apply below_alloc | apply pw_below_drewN | apply below_drew1) | exact HB.out)⟩
  · rw [if_neg c3] at H
    have c3b0 : (t177 == 0) = false := beq_eq_false_iff_ne.mpr c3
    have c3b1 : (t177 != 0) = true := bne_iff_ne.mpr c3
    simp only [Option.some.injEq, Prod.mk.injEq] at H
    obtain ⟨rfl, rfl⟩ := H
    go_enter Try.func124, Try.ntmps124
    go_wp2_with (first | ((with_reducible refine gate_callee (f := 87) rfl ?_); refine goesL_ (some 7) rfl rfl Try.func87 (by kernel_rfl) rfl #[.slice A0 l0.length c0] rfl (by (try simp only [List.map_toArray, List.map_cons, List.map_nil]); first | done | rfl | (simp only [List.length_drop, List.length_take]; rfl)) ?_; (with_reducible refine (money_Check.calls k _ _ l0 t177 _ ?side1 ?side2 A2.out).mono ?_); (case side1 => repeat (first | exact HR0.out | (with_reducible refine Kd.C_alloc ?_ _) | (with_reducible refine Kd.C_drewN ?_ _) | (with_reducible refine Kd.C_drew ?_))); (case side2 => exact HC0.out); rintro e w9 ⟨rfl, hb⟩; refine ⟨_, rfl, ?_⟩; have n0_ := Aside0.mk (below_step (by repeat (first | (with_reducible first | exact HB.out | apply below_alloc | apply pw_below_drewN | apply below_drew1) | exact HB.out)) hb); clear HB; have HB := n0_; clear n0_; (try clear hb); (try clear hb2); (try clear hk); (try clear hi)))
    go_ret2
    exact ⟨by first | rfl | (simp [errW_none, errW_some] <;> rfl) | (simp [*, errW_none, errW_some] <;> rfl), by repeat (first | (with_reducible first | exact HB.out | apply below_alloc | apply pw_below_drewN | apply below_drew1) | exact HB.out)⟩

end Go.Proofs.Ytcfbcoinbecdfaa.P
