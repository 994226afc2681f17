-- written by a program of this session (wip/print)
import Derived.Test.YtcfbcoinbecdfaaQPdoesx0
import Derived.Test.YtcfbcoinbecdfaaQPdoesx1
import Derived.Test.YtcfbcoinbecdfaaQPdoesx6
import Derived.Test.YtcfbcoinbecdfaaQPdoesx7
import Derived.Test.YtcfbcoinbecdfaaQPdoesx8
namespace Go.Proofs.Ytcfbcoinbecdfaa.P
open Go.RowKit Go.Proofs.YtcfbcoinbecdfaaW.PrintWords Go.Proofs.YtcfbcoinbecdfaaW.PrintLast Go.Proofs.YtcfbcoinbecdfaaW.PrintMore
attribute [local go_sem] max2_int min2_int max_two min_two max_three min_three max_four min_four run_sub64_   -- for this text's walks alone
set_option linter.unusedVariables false
set_option linter.unusedSimpArgs false

attribute [local go_sem high] eqA74
/-! ### damsonref13_Start: function 76 -/
def damsonref13_Start.j0 : Nat → List (S74) → Bool → Int → Int → Int → Int → Int → Option ((List (S74)) × Int)
  | 0, _, _, _, _, _, _, _ => none
  | k + 1, x0, x20, x242000, x242001, x242002, x242003, x242004 => if x20 = true then (some (([] : List (S74)), 1)) else ((damsonref13_Get.f k x0 x242000).bind fun bt244 => (if bt244.2.2.2.2.2 = 0 then (some (([] : List (S74)), 6)) else (if (x0.length : Int) = 256 then ((damsonref13_forget.f k x0).bind fun t251 => (if (t251.length : Int) = 256 then (some (([] : List (S74)), 7)) else ((damsonref13_with.f k t251 x242000 x242001 x242002 x242003 x242004).bind fun t254 => (some (t254, 0))))) else ((damsonref13_with.f k x0 x242000 x242001 x242002 x242003 x242004).bind fun t257 => (some (t257, 0))))))
def damsonref13_Start.f (k : Nat) (l0 : List (S74)) (a1_0 : Int) (a1_1 : Int) (a1_2 : Int) (a1_3 : Int) (a1_4 : Int) : Option ((List (S74)) × Int) := (damsonref13_Check.f k l0).bind fun t242 => (if t242 = 0 then ((damsonref13_may.f k a1_0 a1_1 a1_2 a1_3 a1_4).bind fun t243 => (if t243 = true then (damsonref13_Start.j0 k l0 (a1_4 != 1) a1_0 a1_1 a1_2 a1_3 a1_4) else (damsonref13_Start.j0 k l0 true a1_0 a1_1 a1_2 a1_3 a1_4))) else (damsonref13_Start.j0 k l0 true a1_0 a1_1 a1_2 a1_3 a1_4))
theorem damsonref13_Start.mono_l : ∀ k, (∀ y0 y1 y2 y3 y4 y5 y6, LeO (damsonref13_Start.j0 k y0 y1 y2 y3 y4 y5 y6) (damsonref13_Start.j0 (k + 1) y0 y1 y2 y3 y4 y5 y6))
  | 0 => fun _ _ _ _ _ _ _ r h => by simp [damsonref13_Start.j0] at h
  | k + 1 => by
    have ih0 := damsonref13_Start.mono_l k
    · intro y0 y1 y2 y3 y4 y5 y6
      unfold damsonref13_Start.j0
      repeat' first
      | (with_reducible exact ih0 _ _ _ _ _ _ _)
      | (with_reducible exact damsonref13_Check.mono _ _)
      | (with_reducible exact damsonref13_Get.mono _ _ _)
      | (with_reducible exact damsonref13_forget.mono _ _)
      | (with_reducible exact damsonref13_may.mono _ _ _ _ _ _)
      | (with_reducible exact damsonref13_with.mono _ _ _ _ _ _ _)
      | (with_reducible exact LeO.refl _)
      | (with_reducible exact LeO.none _)
      | (with_reducible refine LeO.ite ?_ ?_)
      | (with_reducible refine LeO.bind ?_ (fun _ => ?_))
      | exact ih0 _ _ _ _ _ _ _
      | exact damsonref13_Check.mono _ _
      | exact damsonref13_Get.mono _ _ _
      | exact damsonref13_forget.mono _ _
      | exact damsonref13_may.mono _ _ _ _ _ _
      | exact damsonref13_with.mono _ _ _ _ _ _ _
      | exact LeO.none _
      | refine LeO.ite ?_ ?_
      | refine LeO.bind ?_ (fun _ => ?_)
theorem damsonref13_Start.mono : ∀ a0 a1 a2 a3 a4 a5 k, LeO (damsonref13_Start.f k a0 a1 a2 a3 a4 a5) (damsonref13_Start.f (k + 1) a0 a1 a2 a3 a4 a5) := by
  intro a0 a1 a2 a3 a4 a5 k
  have ih0 := damsonref13_Start.mono_l k
  unfold damsonref13_Start.f
  repeat' first
      | (with_reducible exact ih0 _ _ _ _ _ _ _)
      | (with_reducible exact damsonref13_Check.mono _ _)
      | (with_reducible exact damsonref13_Get.mono _ _ _)
      | (with_reducible exact damsonref13_forget.mono _ _)
      | (with_reducible exact damsonref13_may.mono _ _ _ _ _ _)
      | (with_reducible exact damsonref13_with.mono _ _ _ _ _ _ _)
      | (with_reducible exact LeO.refl _)
      | (with_reducible exact LeO.none _)
      | (with_reducible refine LeO.ite ?_ ?_)
      | (with_reducible refine LeO.bind ?_ (fun _ => ?_))
      | exact ih0 _ _ _ _ _ _ _
      | exact damsonref13_Check.mono _ _
      | exact damsonref13_Get.mono _ _ _
      | exact damsonref13_forget.mono _ _
      | exact damsonref13_may.mono _ _ _ _ _ _
      | exact damsonref13_with.mono _ _ _ _ _ _ _
      | exact LeO.none _
      | refine LeO.ite ?_ ?_
      | refine LeO.bind ?_ (fun _ => ?_)
set_option maxHeartbeats 8000000 in
set_option maxRecDepth 100000 in
theorem damsonref13_Start.calls (k : Nat) (A0 : Option Addr) (c0 : Nat) (l0 : List (S74)) (a1_0 : Int) (a1_1 : Int) (a1_2 : Int) (a1_3 : Int) (a1_4 : Int) (r1 : List (S74)) (r2 : Int) (w : World) (hr0 : Kd.C k74 w A0 l0.length l0) (hc0 : l0.length ≤ c0) (h : damsonref13_Start.f k l0 a1_0 a1_1 a1_2 a1_3 a1_4 = some (r1, r2)) :
    Calls Try.prog 76 #[.slice A0 l0.length c0, .agg #[.int .u64 a1_0, .int .u64 a1_1, .int .u64 a1_2, .int .u64 a1_3, .int .i64 a1_4]] w fun e w' => ∃ v0_ : Value, e = .returned (.tuple #[v0_, .int .i64 r2]) ∧ Kd.R k74 74 w' w.heap.size (fun _ => True) v0_ r1 ∧ Below w.heap.size w w' := by
  have hu74 := Try.underlying74
  have HR0 := Aside0.mk hr0
  have HC0 := Aside0.mk hc0
  clear hr0 hc0
  have HB := Aside0.mk (Below.refl w.heap.size w)
  have H : ((damsonref13_Check.f k l0).bind fun t242 => (if t242 = 0 then ((damsonref13_may.f k a1_0 a1_1 a1_2 a1_3 a1_4).bind fun t243 => (if t243 = true then (damsonref13_Start.j0 k l0 (a1_4 != 1) a1_0 a1_1 a1_2 a1_3 a1_4) else (damsonref13_Start.j0 k l0 true a1_0 a1_1 a1_2 a1_3 a1_4))) else (damsonref13_Start.j0 k l0 true a1_0 a1_1 a1_2 a1_3 a1_4))) = some (r1, r2) := h
  clear h
  have HC3 := Aside0.mk H
  clear H
  go_enter Try.func76, Try.ntmps76
  go_upto_region 1 with (first | ((with_reducible refine gate_dst (N := 3) rfl ?_); refine box_event ?hg (N := 3) ?hd (cs := #[.int .u64 a1_0, .int .u64 a1_1, .int .u64 a1_2, .int .u64 a1_3, .int .i64 a1_4]) (t := 74) ?hr ?_; (case hd => rfl); (case hg => rfl); (case hr => first | (go_simp; done) | (go_simp; rfl)); intro gb241 hg w4 hbox hb; have n0_ := Aside0.mk (below_step (belN HB) hb); have n1_ := Aside0.mk (hbox); have n2_ := Aside0.mk ((by rw [hg]; exact (below_size (belN HB)) : w.heap.size ≤ gb241)); have n3_ := Aside0.mk ((by rw [hg]; exact (below_size (belN HB)) : w.heap.size ≤ gb241)); clear HB; have HB := n0_; have BK241 := n1_; have GW241 := n2_; have GE241 := n3_; clear n0_ n1_ n2_ n3_; clear hb hbox hg))
  (try simp only [Act.put, List.setIfInBounds_toArray, List.set_cons_zero, List.set_cons_succ])
  go_cut [20] (fun v20 wc => ∃ (kq : Nat) (x20_2 : Bool), v20 = .bool x20_2 ∧ Aside0 (damsonref13_Start.j0 kq l0 x20_2 a1_0 a1_1 a1_2 a1_3 a1_4 = some (r1, r2)) ∧ Aside0 (kq ≤ k) ∧ Aside0 (wc.heap[gb241]? = some (.cells #[.int .u64 a1_0, .int .u64 a1_1, .int .u64 a1_2, .int .u64 a1_3, .int .i64 a1_4] 74 (0, 0))) ∧ Aside0 (Below w.heap.size w wc))
  case first =>
    have H := HC3.out
    clear HC3
    replace H := Option.bind_eq_some_iff.mp H
    obtain ⟨t242, A50, H⟩ := H
    replace H : (if t242 = 0 then ((damsonref13_may.f k a1_0 a1_1 a1_2 a1_3 a1_4).bind fun t243 => (if t243 = true then (damsonref13_Start.j0 k l0 (a1_4 != 1) a1_0 a1_1 a1_2 a1_3 a1_4) else (damsonref13_Start.j0 k l0 true a1_0 a1_1 a1_2 a1_3 a1_4))) else (damsonref13_Start.j0 k l0 true a1_0 a1_1 a1_2 a1_3 a1_4)) = some (r1, r2) := H
    have A5 := Aside0.mk A50
    clear A50
    by_cases c6 : t242 = 0
    · rw [if_pos c6] at H
      have c6b0 : (t242 == 0) = true := beq_iff_eq.mpr c6
      have c6b1 : (t242 != 0) = false := bne_eq_false_iff_eq.mpr c6
      clear c6
      (first | rw [c6b0] | (simp only [i64_w, i32_w]; rw [c6b0]) | skip)
      replace H := Option.bind_eq_some_iff.mp H
      obtain ⟨t243, A70, H⟩ := H
      replace H : (if t243 = true then (damsonref13_Start.j0 k l0 (a1_4 != 1) a1_0 a1_1 a1_2 a1_3 a1_4) else (damsonref13_Start.j0 k l0 true a1_0 a1_1 a1_2 a1_3 a1_4)) = some (r1, r2) := H
      have A7 := Aside0.mk A70
      clear A70
      by_cases c8 : t243 = true
      · subst c8
        have H1 : (damsonref13_Start.j0 k l0 (a1_4 != 1) a1_0 a1_1 a1_2 a1_3 a1_4) = some (r1, r2) := by rw [if_pos rfl] at H; exact H
        clear H
        have H := H1
        clear H1
        have H' := Aside0.mk H
        clear H
        go_wp2_with (first | ((with_reducible refine gate_callee (f := 81) rfl ?_); refine goesL_ (some 9) rfl rfl Try.func81 (by kernel_rfl) rfl #[.slice A0 l0.length c0] rfl (by (try simp only [List.map_toArray, List.map_cons, List.map_nil]); first | done | rfl | (simp only [List.length_drop, List.length_take]; rfl)) ?_; (with_reducible refine (damsonref13_Check.calls k _ _ l0 t242 _ ?side1 ?side2 A5.out).mono ?_); (case side1 => repeat (first | exact (Kd.C_below HR0.out HB.out) | (with_reducible refine Kd.C_alloc ?_ _) | (with_reducible refine Kd.C_drewN ?_ _) | (with_reducible refine Kd.C_drew ?_))); (case side2 => exact HC0.out); rintro e w9 ⟨rfl, hb⟩; refine ⟨_, rfl, ?_⟩; have n0_ := Aside0.mk (blk_below (g := gb241) (blkN BK241) hb); have n1_ := Aside0.mk (below_step (belN HB) hb); clear BK241; clear HB; have BK241 := n0_; have HB := n1_; clear n0_ n1_; (try clear hb); (try clear hb2); (try clear hk); (try clear hi); obtain ⟨hcz10_0, hcz10_1, hcz10_2, hcz10_3, hcz10_4, hfz10_0, hfz10_1, hfz10_2, hfz10_3, hfz10_4⟩ := cz5_ (w := w9) BK241.out) | (go_at_call 125; (with_reducible refine (damsonref13_may.calls k a1_0 a1_1 a1_2 a1_3 a1_4 true _ A7.out).mono ?_); rintro e w11 ⟨rfl, hb⟩; have n0_ := Aside0.mk (blk_below (g := gb241) (blkN BK241) hb); have n1_ := Aside0.mk (below_step (belN HB) hb); clear BK241; clear HB; have BK241 := n0_; have HB := n1_; clear n0_ n1_; (try clear hb); (try clear hb2); (try clear hk); (try clear hi); obtain ⟨hcz12_0, hcz12_1, hcz12_2, hcz12_3, hcz12_4, hfz12_0, hfz12_1, hfz12_2, hfz12_3, hfz12_4⟩ := cz5_ (w := w11) BK241.out))
        go_meet
        case rel => exact ⟨_, ((a1_4 != 1)), (by first | rfl | (simp; done) | (simp [*]; done)), H', ⟨by first | omega | exact Nat.le_refl _⟩, ⟨by (with_reducible repeat (first | refine blk_drewN ?_ _ | refine blk_drew ?_ | refine blk_alloc ?_ _)); exact BK241.out⟩, ⟨by repeat (first | (with_reducible first | exact HB.out | apply below_alloc | apply pw_below_drewN | apply below_drew1 | refine below_set ?_ GE241.out) | exact HB.out)⟩⟩
      · replace c8 := Bool.eq_false_iff.mpr c8
        subst c8
        have H1 : (damsonref13_Start.j0 k l0 true a1_0 a1_1 a1_2 a1_3 a1_4) = some (r1, r2) := by rw [if_neg (show ¬ (false = true) by decide)] at H; exact H
        clear H
        have H := H1
        clear H1
        have H' := Aside0.mk H
        clear H
        go_wp2_with (first | ((with_reducible refine gate_callee (f := 81) rfl ?_); refine goesL_ (some 9) rfl rfl Try.func81 (by kernel_rfl) rfl #[.slice A0 l0.length c0] rfl (by (try simp only [List.map_toArray, List.map_cons, List.map_nil]); first | done | rfl | (simp only [List.length_drop, List.length_take]; rfl)) ?_; (with_reducible refine (damsonref13_Check.calls k _ _ l0 t242 _ ?side1 ?side2 A5.out).mono ?_); (case side1 => repeat (first | exact (Kd.C_below HR0.out HB.out) | (with_reducible refine Kd.C_alloc ?_ _) | (with_reducible refine Kd.C_drewN ?_ _) | (with_reducible refine Kd.C_drew ?_))); (case side2 => exact HC0.out); rintro e w13 ⟨rfl, hb⟩; refine ⟨_, rfl, ?_⟩; have n0_ := Aside0.mk (blk_below (g := gb241) (blkN BK241) hb); have n1_ := Aside0.mk (below_step (belN HB) hb); clear BK241; clear HB; have BK241 := n0_; have HB := n1_; clear n0_ n1_; (try clear hb); (try clear hb2); (try clear hk); (try clear hi); obtain ⟨hcz14_0, hcz14_1, hcz14_2, hcz14_3, hcz14_4, hfz14_0, hfz14_1, hfz14_2, hfz14_3, hfz14_4⟩ := cz5_ (w := w13) BK241.out) | (go_at_call 125; (with_reducible refine (damsonref13_may.calls k a1_0 a1_1 a1_2 a1_3 a1_4 false _ A7.out).mono ?_); rintro e w15 ⟨rfl, hb⟩; have n0_ := Aside0.mk (blk_below (g := gb241) (blkN BK241) hb); have n1_ := Aside0.mk (below_step (belN HB) hb); clear BK241; clear HB; have BK241 := n0_; have HB := n1_; clear n0_ n1_; (try clear hb); (try clear hb2); (try clear hk); (try clear hi)))
        go_meet
        case rel => exact ⟨_, (true), (by first | rfl | (simp; done) | (simp [*]; done)), H', ⟨by first | omega | exact Nat.le_refl _⟩, ⟨by (with_reducible repeat (first | refine blk_drewN ?_ _ | refine blk_drew ?_ | refine blk_alloc ?_ _)); exact BK241.out⟩, ⟨by repeat (first | (with_reducible first | exact HB.out | apply below_alloc | apply pw_below_drewN | apply below_drew1 | refine below_set ?_ GE241.out) | exact HB.out)⟩⟩
    · rw [if_neg c6] at H
      have c6b0 : (t242 == 0) = false := beq_eq_false_iff_ne.mpr c6
      have c6b1 : (t242 != 0) = true := bne_iff_ne.mpr c6
      (first | rw [c6b0] | (simp only [i64_w, i32_w]; rw [c6b0]) | skip)
      have H' := Aside0.mk H
      clear H
      go_wp2_with (first | ((with_reducible refine gate_callee (f := 81) rfl ?_); refine goesL_ (some 9) rfl rfl Try.func81 (by kernel_rfl) rfl #[.slice A0 l0.length c0] rfl (by (try simp only [List.map_toArray, List.map_cons, List.map_nil]); first | done | rfl | (simp only [List.length_drop, List.length_take]; rfl)) ?_; (with_reducible refine (damsonref13_Check.calls k _ _ l0 t242 _ ?side1 ?side2 A5.out).mono ?_); (case side1 => repeat (first | exact (Kd.C_below HR0.out HB.out) | (with_reducible refine Kd.C_alloc ?_ _) | (with_reducible refine Kd.C_drewN ?_ _) | (with_reducible refine Kd.C_drew ?_))); (case side2 => exact HC0.out); rintro e w16 ⟨rfl, hb⟩; refine ⟨_, rfl, ?_⟩; have n0_ := Aside0.mk (blk_below (g := gb241) (blkN BK241) hb); have n1_ := Aside0.mk (below_step (belN HB) hb); clear BK241; clear HB; have BK241 := n0_; have HB := n1_; clear n0_ n1_; (try clear hb); (try clear hb2); (try clear hk); (try clear hi)))
      go_meet
      case rel => exact ⟨_, (true), (by first | rfl | (simp; done) | (simp [*]; done)), H', ⟨by first | omega | exact Nat.le_refl _⟩, ⟨by (with_reducible repeat (first | refine blk_drewN ?_ _ | refine blk_drew ?_ | refine blk_alloc ?_ _)); exact BK241.out⟩, ⟨by repeat (first | (with_reducible first | exact HB.out | apply below_alloc | apply pw_below_drewN | apply below_drew1 | refine below_set ?_ GE241.out) | exact HB.out)⟩⟩
  case rest =>
    clear HC3
    try clear p2
    try clear c6
    try clear c6b0
    try clear c6b1
    try clear c7
    try clear c8
    try clear hcz10_0
    try clear hcz10_1
    try clear hcz10_2
    try clear hcz10_3
    try clear hcz10_4
    try clear hcz12_0
    try clear hcz12_1
    try clear hcz12_2
    try clear hcz12_3
    try clear hcz12_4
    try clear hcz14_0
    try clear hcz14_1
    try clear hcz14_2
    try clear hcz14_3
    try clear hcz14_4
    try clear hfz10_0
    try clear hfz10_1
    try clear hfz10_2
    try clear hfz10_3
    try clear hfz10_4
    try clear hfz12_0
    try clear hfz12_1
    try clear hfz12_2
    try clear hfz12_3
    try clear hfz12_4
    try clear hfz14_0
    try clear hfz14_1
    try clear hfz14_2
    try clear hfz14_3
    try clear hfz14_4
    obtain ⟨kq, x20_2, rfl, HA, HJ2, BK241, HB⟩ := hcut
    cases kq with
    | zero => exact absurd HA.out (by simp [damsonref13_Start.j0])
    | succ kj2 =>
      have H := HA.out
      clear HA
      simp only [damsonref13_Start.j0] at H
      by_cases c17 : x20_2 = true
      · subst c17
        have H1 : (some (([] : List (S74)), 1)) = some (r1, r2) := by rw [if_pos rfl] at H; exact H
        clear H
        have H := H1
        clear H1
        simp only [Option.some.injEq, Prod.mk.injEq] at H
        obtain ⟨rfl, rfl⟩ := H
        go_wp2
        go_ret2
        exact ⟨_, by first | rfl | (simp [errW_none, errW_some] <;> rfl) | (simp [*, errW_none, errW_some] <;> rfl), by first | exact Kd.R_nil _ _ _ _ _ | exact Kd.N_nil _ _ _ _ _ | exact Kd.V_nil _ _ _ _ _ | exact Kd.Q_nil _ _ _ _ _ | exact Kd.S_nil _ _ _ _ _, by repeat (first | (with_reducible first | exact HB.out | apply below_alloc | apply pw_below_drewN | apply below_drew1 | refine below_set ?_ GE241.out) | exact HB.out)⟩
      · replace c17 := Bool.eq_false_iff.mpr c17
        subst c17
        have H1 : ((damsonref13_Get.f kj2 l0 a1_0).bind fun bt244 => (if bt244.2.2.2.2.2 = 0 then (some (([] : List (S74)), 6)) else (if (l0.length : Int) = 256 then ((damsonref13_forget.f kj2 l0).bind fun t251 => (if (t251.length : Int) = 256 then (some (([] : List (S74)), 7)) else ((damsonref13_with.f kj2 t251 a1_0 a1_1 a1_2 a1_3 a1_4).bind fun t254 => (some (t254, 0))))) else ((damsonref13_with.f kj2 l0 a1_0 a1_1 a1_2 a1_3 a1_4).bind fun t257 => (some (t257, 0)))))) = some (r1, r2) := by rw [if_neg (show ¬ (false = true) by decide)] at H; exact H
        clear H
        have H := H1
        clear H1
        replace H := Option.bind_eq_some_iff.mp H
        obtain ⟨⟨t244, t245, t246, t247, t248, t249⟩, A180, H⟩ := H
        replace H : (if t249 = 0 then (some (([] : List (S74)), 6)) else (if (l0.length : Int) = 256 then ((damsonref13_forget.f kj2 l0).bind fun t251 => (if (t251.length : Int) = 256 then (some (([] : List (S74)), 7)) else ((damsonref13_with.f kj2 t251 a1_0 a1_1 a1_2 a1_3 a1_4).bind fun t254 => (some (t254, 0))))) else ((damsonref13_with.f kj2 l0 a1_0 a1_1 a1_2 a1_3 a1_4).bind fun t257 => (some (t257, 0))))) = some (r1, r2) := H
        have A18 := Aside0.mk A180
        clear A180
        by_cases c19 : t249 = 0
        · rw [if_pos c19] at H
          have c19b0 : (t249 == 0) = true := beq_iff_eq.mpr c19
          have c19b1 : (t249 != 0) = false := bne_eq_false_iff_eq.mpr c19
          clear c19
          simp only [Option.some.injEq, Prod.mk.injEq] at H
          obtain ⟨rfl, rfl⟩ := H
          obtain ⟨hcz20_0, hcz20_1, hcz20_2, hcz20_3, hcz20_4, hfz20_0, hfz20_1, hfz20_2, hfz20_3, hfz20_4⟩ := cz5_ (w := wc) BK241.out
          go_wp2_with (first | ((with_reducible refine gate_callee (f := 78) rfl ?_); refine goesL_ (some 25) rfl rfl Try.func78 (by kernel_rfl) rfl #[.slice A0 l0.length c0, .int .u64 a1_0] rfl (by (try simp only [List.map_toArray, List.map_cons, List.map_nil]); first | done | rfl | (simp only [List.length_drop, List.length_take]; rfl)) ?_; (with_reducible refine (damsonref13_Get.calls kj2 _ _ l0 a1_0 t244 t245 t246 t247 t248 t249 _ ?side1 ?side2 A18.out).mono ?_); (case side1 => repeat (first | exact (Kd.C_below HR0.out HB.out) | (with_reducible refine Kd.C_alloc ?_ _) | (with_reducible refine Kd.C_drewN ?_ _) | (with_reducible refine Kd.C_drew ?_))); (case side2 => exact HC0.out); rintro e w21 ⟨rfl, hb⟩; refine ⟨_, rfl, ?_⟩; have n0_ := Aside0.mk (blk_below (g := gb241) (blkN BK241) hb); have n1_ := Aside0.mk (below_step (belN HB) hb); clear BK241; clear HB; have BK241 := n0_; have HB := n1_; clear n0_ n1_; (try clear hb); (try clear hb2); (try clear hk); (try clear hi)) | ((with_reducible refine gate_dst (N := 6) rfl ?_); refine box_event ?hg (N := 6) ?hd (cs := #[.int .u64 0, .int .u64 0, .int .u64 0, .int .u64 0, .int .i64 0]) (t := 74) ?hr ?_; (case hd => rfl); (case hg => rfl); (case hr => first | (go_simp; done) | (go_simp; rfl)); intro gb250 hg w22 hbox hb; have n0_ := Aside0.mk (blk_below (g := gb241) (blkN BK241) hb); have n1_ := Aside0.mk (below_step (belN HB) hb); have n2_ := Aside0.mk (hbox); have n3_ := Aside0.mk ((by rw [hg]; exact (below_size (belN HB)) : w.heap.size ≤ gb250)); have n4_ := Aside0.mk ((by rw [hg]; exact (below_size (belN HB)) : w.heap.size ≤ gb250)); have n5_ := Aside0.mk ((by rw [hg]; exact Nat.ne_of_lt (blk_lt (g := gb241) (blkN BK241)) : gb241 ≠ gb250)); have n6_ := Aside0.mk ((by rw [hg]; exact Nat.ne_of_gt (blk_lt (g := gb241) (blkN BK241)) : gb250 ≠ gb241)); clear BK241; clear HB; have BK241 := n0_; have HB := n1_; have BK250 := n2_; have GW250 := n3_; have GE250 := n4_; have NB241_250 := n5_; have NB250_241 := n6_; clear n0_ n1_ n2_ n3_ n4_ n5_ n6_; clear hb hbox hg; have hnb23 := NB250_241.out; have hnc23 := NB241_250.out; obtain ⟨hcz24_0, hcz24_1, hcz24_2, hcz24_3, hcz24_4, hfz24_0, hfz24_1, hfz24_2, hfz24_3, hfz24_4⟩ := cz5_ (w := w22) BK250.out) | ((with_reducible refine gate_store (t := 74) (p := 6) rfl ?_); refine store_event (t := 74) (p := 6) (v := ?vo_w25) (w1 := (((((w22.setCell ⟨gb250, 0, none⟩ (.int .u64 t244)).setCell ⟨gb250, 1, none⟩ (.int .u64 t245)).setCell ⟨gb250, 2, none⟩ (.int .u64 t246)).setCell ⟨gb250, 3, none⟩ (.int .u64 t247)).setCell ⟨gb250, 4, none⟩ (.int .i64 t248))) ?hg ?ho ?hn ?hr ?_; (case ho => rfl); (case hg => rfl); (case hn => rfl); (case hr => first | (go_simp; done) | (go_simp; rfl)); intro w25 hw; have n0_ : Aside0 (w25.heap[gb241]? = some (.cells #[.int .u64 a1_0, .int .u64 a1_1, .int .u64 a1_2, .int .u64 a1_3, .int .i64 a1_4] 74 (0, 0))) := ⟨(by rw [hw]; exact (blkF BK241))⟩; have n1_ : Aside0 (w25.heap[gb250]? = some (.cells #[.int .u64 t244, .int .u64 t245, .int .u64 t246, .int .u64 t247, .int .i64 t248] 74 (0, 0))) := ⟨(by rw [hw]; exact (by (with_reducible repeat (first | refine blk_drewN ?_ _ | refine blk_drew ?_ | refine blk_alloc ?_ _)); refine blk_put (cs := #[.int .u64 t244, .int .u64 t245, .int .u64 t246, .int .u64 t247, .int .i64 0]) ?_ 4 _ rfl; refine blk_put (cs := #[.int .u64 t244, .int .u64 t245, .int .u64 t246, .int .u64 0, .int .i64 0]) ?_ 3 _ rfl; refine blk_put (cs := #[.int .u64 t244, .int .u64 t245, .int .u64 0, .int .u64 0, .int .i64 0]) ?_ 2 _ rfl; refine blk_put (cs := #[.int .u64 t244, .int .u64 0, .int .u64 0, .int .u64 0, .int .i64 0]) ?_ 1 _ rfl; refine blk_put (cs := #[.int .u64 0, .int .u64 0, .int .u64 0, .int .u64 0, .int .i64 0]) ?_ 0 _ rfl; (with_reducible repeat (first | refine blk_drewN ?_ _ | refine blk_drew ?_ | refine blk_alloc ?_ _)); exact BK250.out))⟩; have n2_ : Aside0 (Below w.heap.size w w25) := ⟨(by rw [hw]; exact (belN HB))⟩; clear hw; clear BK241; clear BK250; clear HB; have BK241 := n0_; have BK250 := n1_; have HB := n2_; clear n0_ n1_ n2_))
          go_ret2
          exact ⟨_, by first | rfl | (simp [errW_none, errW_some] <;> rfl) | (simp [*, errW_none, errW_some] <;> rfl), by first | exact Kd.R_nil _ _ _ _ _ | exact Kd.N_nil _ _ _ _ _ | exact Kd.V_nil _ _ _ _ _ | exact Kd.Q_nil _ _ _ _ _ | exact Kd.S_nil _ _ _ _ _, by repeat (first | (with_reducible first | exact HB.out | apply below_alloc | apply pw_below_drewN | apply below_drew1 | refine below_set ?_ GE241.out | refine below_set ?_ GE250.out) | exact HB.out)⟩
        · rw [if_neg c19] at H
          have c19b0 : (t249 == 0) = false := beq_eq_false_iff_ne.mpr c19
          have c19b1 : (t249 != 0) = true := bne_iff_ne.mpr c19
          by_cases c26 : (l0.length : Int) = 256
          · rw [if_pos c26] at H
            have c26b0 : ((l0.length : Int) == 256) = true := beq_iff_eq.mpr c26
            have c26b1 : ((l0.length : Int) != 256) = false := bne_eq_false_iff_eq.mpr c26
            clear c26
            replace H := Option.bind_eq_some_iff.mp H
            obtain ⟨t251, A270, H⟩ := H
            replace H : (if (t251.length : Int) = 256 then (some (([] : List (S74)), 7)) else ((damsonref13_with.f kj2 t251 a1_0 a1_1 a1_2 a1_3 a1_4).bind fun t254 => (some (t254, 0)))) = some (r1, r2) := H
            have A27 := Aside0.mk A270
            clear A270
            by_cases c28 : (t251.length : Int) = 256
            · rw [if_pos c28] at H
              have c28b0 : ((t251.length : Int) == 256) = true := beq_iff_eq.mpr c28
              have c28b1 : ((t251.length : Int) != 256) = false := bne_eq_false_iff_eq.mpr c28
              clear c28
              simp only [Option.some.injEq, Prod.mk.injEq] at H
              obtain ⟨rfl, rfl⟩ := H
              obtain ⟨hcz29_0, hcz29_1, hcz29_2, hcz29_3, hcz29_4, hfz29_0, hfz29_1, hfz29_2, hfz29_3, hfz29_4⟩ := cz5_ (w := wc) BK241.out
              go_wp2_with (first | ((with_reducible refine gate_callee (f := 78) rfl ?_); refine goesL_ (some 25) rfl rfl Try.func78 (by kernel_rfl) rfl #[.slice A0 l0.length c0, .int .u64 a1_0] rfl (by (try simp only [List.map_toArray, List.map_cons, List.map_nil]); first | done | rfl | (simp only [List.length_drop, List.length_take]; rfl)) ?_; (with_reducible refine (damsonref13_Get.calls kj2 _ _ l0 a1_0 t244 t245 t246 t247 t248 t249 _ ?side1 ?side2 A18.out).mono ?_); (case side1 => repeat (first | exact (Kd.C_below HR0.out HB.out) | (with_reducible refine Kd.C_alloc ?_ _) | (with_reducible refine Kd.C_drewN ?_ _) | (with_reducible refine Kd.C_drew ?_))); (case side2 => exact HC0.out); rintro e w30 ⟨rfl, hb⟩; refine ⟨_, rfl, ?_⟩; have n0_ := Aside0.mk (blk_below (g := gb241) (blkN BK241) hb); have n1_ := Aside0.mk (below_step (belN HB) hb); clear BK241; clear HB; have BK241 := n0_; have HB := n1_; clear n0_ n1_; (try clear hb); (try clear hb2); (try clear hk); (try clear hi)) | ((with_reducible refine gate_dst (N := 6) rfl ?_); refine box_event ?hg (N := 6) ?hd (cs := #[.int .u64 0, .int .u64 0, .int .u64 0, .int .u64 0, .int .i64 0]) (t := 74) ?hr ?_; (case hd => rfl); (case hg => rfl); (case hr => first | (go_simp; done) | (go_simp; rfl)); intro gb250 hg w31 hbox hb; have n0_ := Aside0.mk (blk_below (g := gb241) (blkN BK241) hb); have n1_ := Aside0.mk (below_step (belN HB) hb); have n2_ := Aside0.mk (hbox); have n3_ := Aside0.mk ((by rw [hg]; exact (below_size (belN HB)) : w.heap.size ≤ gb250)); have n4_ := Aside0.mk ((by rw [hg]; exact (below_size (belN HB)) : w.heap.size ≤ gb250)); have n5_ := Aside0.mk ((by rw [hg]; exact Nat.ne_of_lt (blk_lt (g := gb241) (blkN BK241)) : gb241 ≠ gb250)); have n6_ := Aside0.mk ((by rw [hg]; exact Nat.ne_of_gt (blk_lt (g := gb241) (blkN BK241)) : gb250 ≠ gb241)); clear BK241; clear HB; have BK241 := n0_; have HB := n1_; have BK250 := n2_; have GW250 := n3_; have GE250 := n4_; have NB241_250 := n5_; have NB250_241 := n6_; clear n0_ n1_ n2_ n3_ n4_ n5_ n6_; clear hb hbox hg; have hnb32 := NB250_241.out; have hnc32 := NB241_250.out; obtain ⟨hcz33_0, hcz33_1, hcz33_2, hcz33_3, hcz33_4, hfz33_0, hfz33_1, hfz33_2, hfz33_3, hfz33_4⟩ := cz5_ (w := w31) BK250.out) | ((with_reducible refine gate_store (t := 74) (p := 6) rfl ?_); refine store_event (t := 74) (p := 6) (v := ?vo_w34) (w1 := (((((w31.setCell ⟨gb250, 0, none⟩ (.int .u64 t244)).setCell ⟨gb250, 1, none⟩ (.int .u64 t245)).setCell ⟨gb250, 2, none⟩ (.int .u64 t246)).setCell ⟨gb250, 3, none⟩ (.int .u64 t247)).setCell ⟨gb250, 4, none⟩ (.int .i64 t248))) ?hg ?ho ?hn ?hr ?_; (case ho => rfl); (case hg => rfl); (case hn => rfl); (case hr => first | (go_simp; done) | (go_simp; rfl)); intro w34 hw; have n0_ : Aside0 (w34.heap[gb241]? = some (.cells #[.int .u64 a1_0, .int .u64 a1_1, .int .u64 a1_2, .int .u64 a1_3, .int .i64 a1_4] 74 (0, 0))) := ⟨(by rw [hw]; exact (blkF BK241))⟩; have n1_ : Aside0 (w34.heap[gb250]? = some (.cells #[.int .u64 t244, .int .u64 t245, .int .u64 t246, .int .u64 t247, .int .i64 t248] 74 (0, 0))) := ⟨(by rw [hw]; exact (by (with_reducible repeat (first | refine blk_drewN ?_ _ | refine blk_drew ?_ | refine blk_alloc ?_ _)); refine blk_put (cs := #[.int .u64 t244, .int .u64 t245, .int .u64 t246, .int .u64 t247, .int .i64 0]) ?_ 4 _ rfl; refine blk_put (cs := #[.int .u64 t244, .int .u64 t245, .int .u64 t246, .int .u64 0, .int .i64 0]) ?_ 3 _ rfl; refine blk_put (cs := #[.int .u64 t244, .int .u64 t245, .int .u64 0, .int .u64 0, .int .i64 0]) ?_ 2 _ rfl; refine blk_put (cs := #[.int .u64 t244, .int .u64 0, .int .u64 0, .int .u64 0, .int .i64 0]) ?_ 1 _ rfl; refine blk_put (cs := #[.int .u64 0, .int .u64 0, .int .u64 0, .int .u64 0, .int .i64 0]) ?_ 0 _ rfl; (with_reducible repeat (first | refine blk_drewN ?_ _ | refine blk_drew ?_ | refine blk_alloc ?_ _)); exact BK250.out))⟩; have n2_ : Aside0 (Below w.heap.size w w34) := ⟨(by rw [hw]; exact (belN HB))⟩; clear hw; clear BK241; clear BK250; clear HB; have BK241 := n0_; have BK250 := n1_; have HB := n2_; clear n0_ n1_ n2_) | ((with_reducible refine gate_callee (f := 126) rfl ?_); refine goesL_ (some 34) rfl rfl Try.func126 (by kernel_rfl) rfl #[.slice A0 l0.length c0] rfl (by (try simp only [List.map_toArray, List.map_cons, List.map_nil]); first | done | rfl | (simp only [List.length_drop, List.length_take]; rfl)) ?_; (with_reducible refine (damsonref13_forget.calls kj2 (fun k_ => k_ < w.heap.size) _ _ l0 t251 _ ?side1 A27.out).mono ?_); (case side1 => exact Kd.V_mk HC0.out (Kd.F_below (Kd.C_F k74_heap HR0.out) (belN HB))); rintro e w35 ⟨v252, rfl, ho0, hb⟩; refine ⟨_, rfl, ?_⟩; have n0_ := Aside0.mk (Kd.V_lower (Kd.V_mono (ok' := fun k_ => k_ ≠ gb241 ∧ k_ ≠ gb250) ho0 (fun k_ hk_ => ⟨Or.elim hk_ (fun hs_ => fun e_ => Nat.not_le.2 hs_ (by rw [e_]; exact GW241.out)) (fun hn_ => (Kd.freshB (g := gb241) (blkN BK241) k_ hn_)), Or.elim hk_ (fun hs_ => fun e_ => Nat.not_le.2 hs_ (by rw [e_]; exact GW250.out)) (fun hn_ => (Kd.freshB (g := gb250) (blkN BK250) k_ hn_))⟩)) (below_size (belN HB))); have n1_ := Aside0.mk (blk_below (g := gb241) (blkN BK241) hb); have n2_ := Aside0.mk (blk_below (g := gb250) (blkN BK250) hb); have n3_ := Aside0.mk (below_step (belN HB) hb); clear BK241; clear BK250; clear HB; have HO253 := n0_; have BK241 := n1_; have BK250 := n2_; have HB := n3_; clear n0_ n1_ n2_ n3_; (try clear hb); (try clear hb2); (try clear hk); (try clear hi); (try clear ho0); obtain ⟨Ao36, co36, eo36⟩ := Kd.V_slice HO253.out; subst eo36))
              go_ret2
              exact ⟨_, by first | rfl | (simp [errW_none, errW_some] <;> rfl) | (simp [*, errW_none, errW_some] <;> rfl), by first | exact Kd.R_nil _ _ _ _ _ | exact Kd.N_nil _ _ _ _ _ | exact Kd.V_nil _ _ _ _ _ | exact Kd.Q_nil _ _ _ _ _ | exact Kd.S_nil _ _ _ _ _, by repeat (first | (with_reducible first | exact HB.out | apply below_alloc | apply pw_below_drewN | apply below_drew1 | refine below_set ?_ GE241.out | refine below_set ?_ GE250.out) | exact HB.out)⟩
            · rw [if_neg c28] at H
              have c28b0 : ((t251.length : Int) == 256) = false := beq_eq_false_iff_ne.mpr c28
              have c28b1 : ((t251.length : Int) != 256) = true := bne_iff_ne.mpr c28
              replace H := Option.bind_eq_some_iff.mp H
              obtain ⟨t254, A370, H⟩ := H
              replace H : (some (t254, 0)) = some (r1, r2) := H
              have A37 := Aside0.mk A370
              clear A370
              simp only [Option.some.injEq, Prod.mk.injEq] at H
              obtain ⟨rfl, rfl⟩ := H
              obtain ⟨hcz38_0, hcz38_1, hcz38_2, hcz38_3, hcz38_4, hfz38_0, hfz38_1, hfz38_2, hfz38_3, hfz38_4⟩ := cz5_ (w := wc) BK241.out
              go_wp2_with (first | ((with_reducible refine gate_callee (f := 78) rfl ?_); refine goesL_ (some 25) rfl rfl Try.func78 (by kernel_rfl) rfl #[.slice A0 l0.length c0, .int .u64 a1_0] rfl (by (try simp only [List.map_toArray, List.map_cons, List.map_nil]); first | done | rfl | (simp only [List.length_drop, List.length_take]; rfl)) ?_; (with_reducible refine (damsonref13_Get.calls kj2 _ _ l0 a1_0 t244 t245 t246 t247 t248 t249 _ ?side1 ?side2 A18.out).mono ?_); (case side1 => repeat (first | exact (Kd.C_below HR0.out HB.out) | (with_reducible refine Kd.C_alloc ?_ _) | (with_reducible refine Kd.C_drewN ?_ _) | (with_reducible refine Kd.C_drew ?_))); (case side2 => exact HC0.out); rintro e w39 ⟨rfl, hb⟩; refine ⟨_, rfl, ?_⟩; have n0_ := Aside0.mk (blk_below (g := gb241) (blkN BK241) hb); have n1_ := Aside0.mk (below_step (belN HB) hb); clear BK241; clear HB; have BK241 := n0_; have HB := n1_; clear n0_ n1_; (try clear hb); (try clear hb2); (try clear hk); (try clear hi)) | ((with_reducible refine gate_dst (N := 6) rfl ?_); refine box_event ?hg (N := 6) ?hd (cs := #[.int .u64 0, .int .u64 0, .int .u64 0, .int .u64 0, .int .i64 0]) (t := 74) ?hr ?_; (case hd => rfl); (case hg => rfl); (case hr => first | (go_simp; done) | (go_simp; rfl)); intro gb250 hg w40 hbox hb; have n0_ := Aside0.mk (blk_below (g := gb241) (blkN BK241) hb); have n1_ := Aside0.mk (below_step (belN HB) hb); have n2_ := Aside0.mk (hbox); have n3_ := Aside0.mk ((by rw [hg]; exact (below_size (belN HB)) : w.heap.size ≤ gb250)); have n4_ := Aside0.mk ((by rw [hg]; exact (below_size (belN HB)) : w.heap.size ≤ gb250)); have n5_ := Aside0.mk ((by rw [hg]; exact Nat.ne_of_lt (blk_lt (g := gb241) (blkN BK241)) : gb241 ≠ gb250)); have n6_ := Aside0.mk ((by rw [hg]; exact Nat.ne_of_gt (blk_lt (g := gb241) (blkN BK241)) : gb250 ≠ gb241)); clear BK241; clear HB; have BK241 := n0_; have HB := n1_; have BK250 := n2_; have GW250 := n3_; have GE250 := n4_; have NB241_250 := n5_; have NB250_241 := n6_; clear n0_ n1_ n2_ n3_ n4_ n5_ n6_; clear hb hbox hg; have hnb41 := NB250_241.out; have hnc41 := NB241_250.out; obtain ⟨hcz42_0, hcz42_1, hcz42_2, hcz42_3, hcz42_4, hfz42_0, hfz42_1, hfz42_2, hfz42_3, hfz42_4⟩ := cz5_ (w := w40) BK250.out) | ((with_reducible refine gate_store (t := 74) (p := 6) rfl ?_); refine store_event (t := 74) (p := 6) (v := ?vo_w43) (w1 := (((((w40.setCell ⟨gb250, 0, none⟩ (.int .u64 t244)).setCell ⟨gb250, 1, none⟩ (.int .u64 t245)).setCell ⟨gb250, 2, none⟩ (.int .u64 t246)).setCell ⟨gb250, 3, none⟩ (.int .u64 t247)).setCell ⟨gb250, 4, none⟩ (.int .i64 t248))) ?hg ?ho ?hn ?hr ?_; (case ho => rfl); (case hg => rfl); (case hn => rfl); (case hr => first | (go_simp; done) | (go_simp; rfl)); intro w43 hw; have n0_ : Aside0 (w43.heap[gb241]? = some (.cells #[.int .u64 a1_0, .int .u64 a1_1, .int .u64 a1_2, .int .u64 a1_3, .int .i64 a1_4] 74 (0, 0))) := ⟨(by rw [hw]; exact (blkF BK241))⟩; have n1_ : Aside0 (w43.heap[gb250]? = some (.cells #[.int .u64 t244, .int .u64 t245, .int .u64 t246, .int .u64 t247, .int .i64 t248] 74 (0, 0))) := ⟨(by rw [hw]; exact (by (with_reducible repeat (first | refine blk_drewN ?_ _ | refine blk_drew ?_ | refine blk_alloc ?_ _)); refine blk_put (cs := #[.int .u64 t244, .int .u64 t245, .int .u64 t246, .int .u64 t247, .int .i64 0]) ?_ 4 _ rfl; refine blk_put (cs := #[.int .u64 t244, .int .u64 t245, .int .u64 t246, .int .u64 0, .int .i64 0]) ?_ 3 _ rfl; refine blk_put (cs := #[.int .u64 t244, .int .u64 t245, .int .u64 0, .int .u64 0, .int .i64 0]) ?_ 2 _ rfl; refine blk_put (cs := #[.int .u64 t244, .int .u64 0, .int .u64 0, .int .u64 0, .int .i64 0]) ?_ 1 _ rfl; refine blk_put (cs := #[.int .u64 0, .int .u64 0, .int .u64 0, .int .u64 0, .int .i64 0]) ?_ 0 _ rfl; (with_reducible repeat (first | refine blk_drewN ?_ _ | refine blk_drew ?_ | refine blk_alloc ?_ _)); exact BK250.out))⟩; have n2_ : Aside0 (Below w.heap.size w w43) := ⟨(by rw [hw]; exact (belN HB))⟩; clear hw; clear BK241; clear BK250; clear HB; have BK241 := n0_; have BK250 := n1_; have HB := n2_; clear n0_ n1_ n2_) | ((with_reducible refine gate_callee (f := 126) rfl ?_); refine goesL_ (some 34) rfl rfl Try.func126 (by kernel_rfl) rfl #[.slice A0 l0.length c0] rfl (by (try simp only [List.map_toArray, List.map_cons, List.map_nil]); first | done | rfl | (simp only [List.length_drop, List.length_take]; rfl)) ?_; (with_reducible refine (damsonref13_forget.calls kj2 (fun k_ => k_ < w.heap.size) _ _ l0 t251 _ ?side1 A27.out).mono ?_); (case side1 => exact Kd.V_mk HC0.out (Kd.F_below (Kd.C_F k74_heap HR0.out) (belN HB))); rintro e w44 ⟨v252, rfl, ho0, hb⟩; refine ⟨_, rfl, ?_⟩; have n0_ := Aside0.mk (Kd.V_lower (Kd.V_mono (ok' := fun k_ => k_ ≠ gb241 ∧ k_ ≠ gb250) ho0 (fun k_ hk_ => ⟨Or.elim hk_ (fun hs_ => fun e_ => Nat.not_le.2 hs_ (by rw [e_]; exact GW241.out)) (fun hn_ => (Kd.freshB (g := gb241) (blkN BK241) k_ hn_)), Or.elim hk_ (fun hs_ => fun e_ => Nat.not_le.2 hs_ (by rw [e_]; exact GW250.out)) (fun hn_ => (Kd.freshB (g := gb250) (blkN BK250) k_ hn_))⟩)) (below_size (belN HB))); have n1_ := Aside0.mk (blk_below (g := gb241) (blkN BK241) hb); have n2_ := Aside0.mk (blk_below (g := gb250) (blkN BK250) hb); have n3_ := Aside0.mk (below_step (belN HB) hb); clear BK241; clear BK250; clear HB; have HO253 := n0_; have BK241 := n1_; have BK250 := n2_; have HB := n3_; clear n0_ n1_ n2_ n3_; (try clear hb); (try clear hb2); (try clear hk); (try clear hi); (try clear ho0); obtain ⟨Ao45, co45, eo45⟩ := Kd.V_slice HO253.out; subst eo45; obtain ⟨hcz46_0, hcz46_1, hcz46_2, hcz46_3, hcz46_4, hfz46_0, hfz46_1, hfz46_2, hfz46_3, hfz46_4⟩ := cz5_ (w := w44) BK241.out) | ((with_reducible refine gate_callee (f := 127) rfl ?_); refine goesL_ (some 40) rfl rfl Try.func127 (by kernel_rfl) rfl #[.slice Ao45 t251.length co45, .agg #[.int .u64 a1_0, .int .u64 a1_1, .int .u64 a1_2, .int .u64 a1_3, .int .i64 a1_4]] rfl (by (try simp only [List.map_toArray, List.map_cons, List.map_nil]); first | done | rfl | (simp only [List.length_drop, List.length_take]; rfl)) ?_; (with_reducible refine (damsonref13_with.calls kj2 _ _ t251 a1_0 a1_1 a1_2 a1_3 a1_4 t254 _ ?side1 ?side2 A37.out).mono ?_); (case side1 => exact Kd.CN (Kd.V_reads' HO253.out).2.2); (case side2 => exact (Kd.V_reads' HO253.out).2.1); rintro e w47 ⟨v255, rfl, ho0, hb⟩; refine ⟨_, rfl, ?_⟩; have n0_ := Aside0.mk (Kd.V_elder' (Kd.VN HO253) (Kd.R_base ho0) hb); have n1_ := Aside0.mk (Kd.R_lower (Kd.R_newB (Kd.R_newB ho0 (g := gb241) (blkN BK241)) (g := gb250) (blkN BK250)) (below_size (belN HB))); have n2_ := Aside0.mk (blk_below (g := gb241) (blkN BK241) hb); have n3_ := Aside0.mk (blk_below (g := gb250) (blkN BK250) hb); have n4_ := Aside0.mk (below_step (belN HB) hb); clear HO253; clear BK241; clear BK250; clear HB; have HO253 := n0_; have HO256 := n1_; have BK241 := n2_; have BK250 := n3_; have HB := n4_; clear n0_ n1_ n2_ n3_ n4_; (try clear hb); (try clear hb2); (try clear hk); (try clear hi); (try clear ho0)))
              go_ret2
              exact ⟨_, by first | rfl | (simp [errW_none, errW_some] <;> rfl) | (simp [*, errW_none, errW_some] <;> rfl), by (with_reducible repeat (first | apply Kd.R_alloc | apply Kd.R_drewN | apply Kd.R_drew)); exact Kd.R_mono HO256.out (fun _ hk => trivial), by repeat (first | (with_reducible first | exact HB.out | apply below_alloc | apply pw_below_drewN | apply below_drew1 | refine below_set ?_ GE241.out | refine below_set ?_ GE250.out) | exact HB.out)⟩
          · rw [if_neg c26] at H
            have c26b0 : ((l0.length : Int) == 256) = false := beq_eq_false_iff_ne.mpr c26
            have c26b1 : ((l0.length : Int) != 256) = true := bne_iff_ne.mpr c26
            replace H := Option.bind_eq_some_iff.mp H
            obtain ⟨t257, A480, H⟩ := H
            replace H : (some (t257, 0)) = some (r1, r2) := H
            have A48 := Aside0.mk A480
            clear A480
            simp only [Option.some.injEq, Prod.mk.injEq] at H
            obtain ⟨rfl, rfl⟩ := H
            obtain ⟨hcz49_0, hcz49_1, hcz49_2, hcz49_3, hcz49_4, hfz49_0, hfz49_1, hfz49_2, hfz49_3, hfz49_4⟩ := cz5_ (w := wc) BK241.out
            go_wp2_with (first | ((with_reducible refine gate_callee (f := 78) rfl ?_); refine goesL_ (some 25) rfl rfl Try.func78 (by kernel_rfl) rfl #[.slice A0 l0.length c0, .int .u64 a1_0] rfl (by (try simp only [List.map_toArray, List.map_cons, List.map_nil]); first | done | rfl | (simp only [List.length_drop, List.length_take]; rfl)) ?_; (with_reducible refine (damsonref13_Get.calls kj2 _ _ l0 a1_0 t244 t245 t246 t247 t248 t249 _ ?side1 ?side2 A18.out).mono ?_); (case side1 => repeat (first | exact (Kd.C_below HR0.out HB.out) | (with_reducible refine Kd.C_alloc ?_ _) | (with_reducible refine Kd.C_drewN ?_ _) | (with_reducible refine Kd.C_drew ?_))); (case side2 => exact HC0.out); rintro e w50 ⟨rfl, hb⟩; refine ⟨_, rfl, ?_⟩; have n0_ := Aside0.mk (blk_below (g := gb241) (blkN BK241) hb); have n1_ := Aside0.mk (below_step (belN HB) hb); clear BK241; clear HB; have BK241 := n0_; have HB := n1_; clear n0_ n1_; (try clear hb); (try clear hb2); (try clear hk); (try clear hi)) | ((with_reducible refine gate_dst (N := 6) rfl ?_); refine box_event ?hg (N := 6) ?hd (cs := #[.int .u64 0, .int .u64 0, .int .u64 0, .int .u64 0, .int .i64 0]) (t := 74) ?hr ?_; (case hd => rfl); (case hg => rfl); (case hr => first | (go_simp; done) | (go_simp; rfl)); intro gb250 hg w51 hbox hb; have n0_ := Aside0.mk (blk_below (g := gb241) (blkN BK241) hb); have n1_ := Aside0.mk (below_step (belN HB) hb); have n2_ := Aside0.mk (hbox); have n3_ := Aside0.mk ((by rw [hg]; exact (below_size (belN HB)) : w.heap.size ≤ gb250)); have n4_ := Aside0.mk ((by rw [hg]; exact (below_size (belN HB)) : w.heap.size ≤ gb250)); have n5_ := Aside0.mk ((by rw [hg]; exact Nat.ne_of_lt (blk_lt (g := gb241) (blkN BK241)) : gb241 ≠ gb250)); have n6_ := Aside0.mk ((by rw [hg]; exact Nat.ne_of_gt (blk_lt (g := gb241) (blkN BK241)) : gb250 ≠ gb241)); clear BK241; clear HB; have BK241 := n0_; have HB := n1_; have BK250 := n2_; have GW250 := n3_; have GE250 := n4_; have NB241_250 := n5_; have NB250_241 := n6_; clear n0_ n1_ n2_ n3_ n4_ n5_ n6_; clear hb hbox hg; have hnb52 := NB250_241.out; have hnc52 := NB241_250.out; obtain ⟨hcz53_0, hcz53_1, hcz53_2, hcz53_3, hcz53_4, hfz53_0, hfz53_1, hfz53_2, hfz53_3, hfz53_4⟩ := cz5_ (w := w51) BK250.out) | ((with_reducible refine gate_store (t := 74) (p := 6) rfl ?_); refine store_event (t := 74) (p := 6) (v := ?vo_w54) (w1 := (((((w51.setCell ⟨gb250, 0, none⟩ (.int .u64 t244)).setCell ⟨gb250, 1, none⟩ (.int .u64 t245)).setCell ⟨gb250, 2, none⟩ (.int .u64 t246)).setCell ⟨gb250, 3, none⟩ (.int .u64 t247)).setCell ⟨gb250, 4, none⟩ (.int .i64 t248))) ?hg ?ho ?hn ?hr ?_; (case ho => rfl); (case hg => rfl); (case hn => rfl); (case hr => first | (go_simp; done) | (go_simp; rfl)); intro w54 hw; have n0_ : Aside0 (w54.heap[gb241]? = some (.cells #[.int .u64 a1_0, .int .u64 a1_1, .int .u64 a1_2, .int .u64 a1_3, .int .i64 a1_4] 74 (0, 0))) := ⟨(by rw [hw]; exact (blkF BK241))⟩; have n1_ : Aside0 (w54.heap[gb250]? = some (.cells #[.int .u64 t244, .int .u64 t245, .int .u64 t246, .int .u64 t247, .int .i64 t248] 74 (0, 0))) := ⟨(by rw [hw]; exact (by (with_reducible repeat (first | refine blk_drewN ?_ _ | refine blk_drew ?_ | refine blk_alloc ?_ _)); refine blk_put (cs := #[.int .u64 t244, .int .u64 t245, .int .u64 t246, .int .u64 t247, .int .i64 0]) ?_ 4 _ rfl; refine blk_put (cs := #[.int .u64 t244, .int .u64 t245, .int .u64 t246, .int .u64 0, .int .i64 0]) ?_ 3 _ rfl; refine blk_put (cs := #[.int .u64 t244, .int .u64 t245, .int .u64 0, .int .u64 0, .int .i64 0]) ?_ 2 _ rfl; refine blk_put (cs := #[.int .u64 t244, .int .u64 0, .int .u64 0, .int .u64 0, .int .i64 0]) ?_ 1 _ rfl; refine blk_put (cs := #[.int .u64 0, .int .u64 0, .int .u64 0, .int .u64 0, .int .i64 0]) ?_ 0 _ rfl; (with_reducible repeat (first | refine blk_drewN ?_ _ | refine blk_drew ?_ | refine blk_alloc ?_ _)); exact BK250.out))⟩; have n2_ : Aside0 (Below w.heap.size w w54) := ⟨(by rw [hw]; exact (belN HB))⟩; clear hw; clear BK241; clear BK250; clear HB; have BK241 := n0_; have BK250 := n1_; have HB := n2_; clear n0_ n1_ n2_; obtain ⟨hcz55_0, hcz55_1, hcz55_2, hcz55_3, hcz55_4, hfz55_0, hfz55_1, hfz55_2, hfz55_3, hfz55_4⟩ := cz5_ (w := w54) BK241.out) | ((with_reducible refine gate_callee (f := 127) rfl ?_); refine goesL_ (some 40) rfl rfl Try.func127 (by kernel_rfl) rfl #[.slice A0 l0.length c0, .agg #[.int .u64 a1_0, .int .u64 a1_1, .int .u64 a1_2, .int .u64 a1_3, .int .i64 a1_4]] rfl (by (try simp only [List.map_toArray, List.map_cons, List.map_nil]); first | done | rfl | (simp only [List.length_drop, List.length_take]; rfl)) ?_; (with_reducible refine (damsonref13_with.calls kj2 _ _ l0 a1_0 a1_1 a1_2 a1_3 a1_4 t257 _ ?side1 ?side2 A48.out).mono ?_); (case side1 => repeat (first | exact (Kd.C_below HR0.out HB.out) | (with_reducible refine Kd.C_alloc ?_ _) | (with_reducible refine Kd.C_drewN ?_ _) | (with_reducible refine Kd.C_drew ?_))); (case side2 => exact HC0.out); rintro e w56 ⟨v258, rfl, ho0, hb⟩; refine ⟨_, rfl, ?_⟩; have n0_ := Aside0.mk (Kd.R_lower (Kd.R_newB (Kd.R_newB ho0 (g := gb241) (blkN BK241)) (g := gb250) (blkN BK250)) (below_size (belN HB))); have n1_ := Aside0.mk (blk_below (g := gb241) (blkN BK241) hb); have n2_ := Aside0.mk (blk_below (g := gb250) (blkN BK250) hb); have n3_ := Aside0.mk (below_step (belN HB) hb); clear BK241; clear BK250; clear HB; have HO259 := n0_; have BK241 := n1_; have BK250 := n2_; have HB := n3_; clear n0_ n1_ n2_ n3_; (try clear hb); (try clear hb2); (try clear hk); (try clear hi); (try clear ho0)))
            go_ret2
            exact ⟨_, by first | rfl | (simp [errW_none, errW_some] <;> rfl) | (simp [*, errW_none, errW_some] <;> rfl), by (with_reducible repeat (first | apply Kd.R_alloc | apply Kd.R_drewN | apply Kd.R_drew)); exact Kd.R_mono HO259.out (fun _ hk => trivial), by repeat (first | (with_reducible first | exact HB.out | apply below_alloc | apply pw_below_drewN | apply below_drew1 | refine below_set ?_ GE241.out | refine below_set ?_ GE250.out) | exact HB.out)⟩

/-! ### damsonref13_End: function 77 -/
def damsonref13_End.f (k : Nat) (l0 : List (S74)) (a1 : Int) (a2 : Bool) : Option ((List (S74)) × Int) := (damsonref13_Get.f k l0 a1).bind fun bt260 => (if bt260.2.2.2.2.2 = 0 then (if bt260.2.2.2.2.1 = 1 then (if a2 = true then ((damsonref13_with.f k l0 bt260.1 bt260.2.1 bt260.2.2.1 bt260.2.2.2.1 2).bind fun t267 => (some (t267, 0))) else ((damsonref13_with.f k l0 bt260.1 bt260.2.1 bt260.2.2.1 bt260.2.2.2.1 3).bind fun t270 => (some (t270, 0)))) else (some (([] : List (S74)), 10))) else (some (([] : List (S74)), bt260.2.2.2.2.2)))
theorem damsonref13_End.mono : ∀ a0 a1 a2 k, LeO (damsonref13_End.f k a0 a1 a2) (damsonref13_End.f (k + 1) a0 a1 a2) := by
  intro a0 a1 a2 k
  unfold damsonref13_End.f
  repeat' first
      | (with_reducible exact damsonref13_Get.mono _ _ _)
      | (with_reducible exact damsonref13_with.mono _ _ _ _ _ _ _)
      | (with_reducible exact LeO.refl _)
      | (with_reducible exact LeO.none _)
      | (with_reducible refine LeO.ite ?_ ?_)
      | (with_reducible refine LeO.bind ?_ (fun _ => ?_))
      | exact damsonref13_Get.mono _ _ _
      | exact damsonref13_with.mono _ _ _ _ _ _ _
      | exact LeO.none _
      | refine LeO.ite ?_ ?_
      | refine LeO.bind ?_ (fun _ => ?_)
set_option maxHeartbeats 8000000 in
set_option maxRecDepth 100000 in
theorem damsonref13_End.calls (k : Nat) (A0 : Option Addr) (c0 : Nat) (l0 : List (S74)) (a1 : Int) (a2 : Bool) (r1 : List (S74)) (r2 : Int) (w : World) (hr0 : Kd.C k74 w A0 l0.length l0) (hc0 : l0.length ≤ c0) (h : damsonref13_End.f k l0 a1 a2 = some (r1, r2)) :
    Calls Try.prog 77 #[.slice A0 l0.length c0, .int .u64 a1, .bool a2] w fun e w' => ∃ v0_ : Value, e = .returned (.tuple #[v0_, .int .i64 r2]) ∧ Kd.R k74 74 w' w.heap.size (fun _ => True) v0_ r1 ∧ Below w.heap.size w w' := by
  have hu74 := Try.underlying74
  have HR0 := Aside0.mk hr0
  have HC0 := Aside0.mk hc0
  clear hr0 hc0
  have HB := Aside0.mk (Below.refl w.heap.size w)
  have H : ((damsonref13_Get.f k l0 a1).bind fun bt260 => (if bt260.2.2.2.2.2 = 0 then (if bt260.2.2.2.2.1 = 1 then (if a2 = true then ((damsonref13_with.f k l0 bt260.1 bt260.2.1 bt260.2.2.1 bt260.2.2.2.1 2).bind fun t267 => (some (t267, 0))) else ((damsonref13_with.f k l0 bt260.1 bt260.2.1 bt260.2.2.1 bt260.2.2.2.1 3).bind fun t270 => (some (t270, 0)))) else (some (([] : List (S74)), 10))) else (some (([] : List (S74)), bt260.2.2.2.2.2)))) = some (r1, r2) := h
  clear h
  replace H := Option.bind_eq_some_iff.mp H
  obtain ⟨⟨t260, t261, t262, t263, t264, t265⟩, A40, H⟩ := H
  replace H : (if t265 = 0 then (if t264 = 1 then (if a2 = true then ((damsonref13_with.f k l0 t260 t261 t262 t263 2).bind fun t267 => (some (t267, 0))) else ((damsonref13_with.f k l0 t260 t261 t262 t263 3).bind fun t270 => (some (t270, 0)))) else (some (([] : List (S74)), 10))) else (some (([] : List (S74)), t265))) = some (r1, r2) := H
  have A4 := Aside0.mk A40
  clear A40
  by_cases c5 : t265 = 0
  · rw [if_pos c5] at H
    have c5b0 : (t265 == 0) = true := beq_iff_eq.mpr c5
    have c5b1 : (t265 != 0) = false := bne_eq_false_iff_eq.mpr c5
    clear c5
    by_cases c6 : t264 = 1
    · rw [if_pos c6] at H
      have c6b0 : (t264 == 1) = true := beq_iff_eq.mpr c6
      have c6b1 : (t264 != 1) = false := bne_eq_false_iff_eq.mpr c6
      clear c6
      by_cases c7 : a2 = true
      · subst c7
        have H1 : ((damsonref13_with.f k l0 t260 t261 t262 t263 2).bind fun t267 => (some (t267, 0))) = some (r1, r2) := by rw [if_pos rfl] at H; exact H
        clear H
        have H := H1
        clear H1
        replace H := Option.bind_eq_some_iff.mp H
        obtain ⟨t267, A80, H⟩ := H
        replace H : (some (t267, 0)) = some (r1, r2) := H
        have A8 := Aside0.mk A80
        clear A80
        simp only [Option.some.injEq, Prod.mk.injEq] at H
        obtain ⟨rfl, rfl⟩ := H
        go_enter Try.func77, Try.ntmps77
        go_wp2_with (first | ((with_reducible refine gate_callee (f := 78) rfl ?_); refine goesL_ (some 13) rfl rfl Try.func78 (by kernel_rfl) rfl #[.slice A0 l0.length c0, .int .u64 a1] rfl (by (try simp only [List.map_toArray, List.map_cons, List.map_nil]); first | done | rfl | (simp only [List.length_drop, List.length_take]; rfl)) ?_; (with_reducible refine (damsonref13_Get.calls k _ _ l0 a1 t260 t261 t262 t263 t264 t265 _ ?side1 ?side2 A4.out).mono ?_); (case side1 => repeat (first | exact HR0.out | (with_reducible refine Kd.C_alloc ?_ _) | (with_reducible refine Kd.C_drewN ?_ _) | (with_reducible refine Kd.C_drew ?_))); (case side2 => exact HC0.out); rintro e w9 ⟨rfl, hb⟩; refine ⟨_, rfl, ?_⟩; have n0_ := Aside0.mk (below_step (belN HB) hb); clear HB; have HB := n0_; clear n0_; (try clear hb); (try clear hb2); (try clear hk); (try clear hi)) | ((with_reducible refine gate_dst (N := 8) rfl ?_); refine box_event ?hg (N := 8) ?hd (cs := #[.int .u64 0, .int .u64 0, .int .u64 0, .int .u64 0, .int .i64 0]) (t := 74) ?hr ?_; (case hd => rfl); (case hg => rfl); (case hr => first | (go_simp; done) | (go_simp; rfl)); intro gb266 hg w10 hbox hb; have n0_ := Aside0.mk (below_step (belN HB) hb); have n1_ := Aside0.mk (hbox); have n2_ := Aside0.mk ((by rw [hg]; exact (below_size (belN HB)) : w.heap.size ≤ gb266)); have n3_ := Aside0.mk ((by rw [hg]; exact (below_size (belN HB)) : w.heap.size ≤ gb266)); clear HB; have HB := n0_; have BK266 := n1_; have GW266 := n2_; have GE266 := n3_; clear n0_ n1_ n2_ n3_; clear hb hbox hg; obtain ⟨hcz11_0, hcz11_1, hcz11_2, hcz11_3, hcz11_4, hfz11_0, hfz11_1, hfz11_2, hfz11_3, hfz11_4⟩ := cz5_ (w := w10) BK266.out) | ((with_reducible refine gate_store (t := 74) (p := 8) rfl ?_); refine store_event (t := 74) (p := 8) (v := ?vo_w12) (w1 := (((((w10.setCell ⟨gb266, 0, none⟩ (.int .u64 t260)).setCell ⟨gb266, 1, none⟩ (.int .u64 t261)).setCell ⟨gb266, 2, none⟩ (.int .u64 t262)).setCell ⟨gb266, 3, none⟩ (.int .u64 t263)).setCell ⟨gb266, 4, none⟩ (.int .i64 t264))) ?hg ?ho ?hn ?hr ?_; (case ho => rfl); (case hg => rfl); (case hn => rfl); (case hr => first | (go_simp; done) | (go_simp; rfl)); intro w12 hw; have n0_ : Aside0 (w12.heap[gb266]? = some (.cells #[.int .u64 t260, .int .u64 t261, .int .u64 t262, .int .u64 t263, .int .i64 t264] 74 (0, 0))) := ⟨(by rw [hw]; exact (by (with_reducible repeat (first | refine blk_drewN ?_ _ | refine blk_drew ?_ | refine blk_alloc ?_ _)); refine blk_put (cs := #[.int .u64 t260, .int .u64 t261, .int .u64 t262, .int .u64 t263, .int .i64 0]) ?_ 4 _ rfl; refine blk_put (cs := #[.int .u64 t260, .int .u64 t261, .int .u64 t262, .int .u64 0, .int .i64 0]) ?_ 3 _ rfl; refine blk_put (cs := #[.int .u64 t260, .int .u64 t261, .int .u64 0, .int .u64 0, .int .i64 0]) ?_ 2 _ rfl; refine blk_put (cs := #[.int .u64 t260, .int .u64 0, .int .u64 0, .int .u64 0, .int .i64 0]) ?_ 1 _ rfl; refine blk_put (cs := #[.int .u64 0, .int .u64 0, .int .u64 0, .int .u64 0, .int .i64 0]) ?_ 0 _ rfl; (with_reducible repeat (first | refine blk_drewN ?_ _ | refine blk_drew ?_ | refine blk_alloc ?_ _)); exact BK266.out))⟩; have n1_ : Aside0 (Below w.heap.size w w12) := ⟨(by rw [hw]; exact (belN HB))⟩; clear hw; clear BK266; clear HB; have BK266 := n0_; have HB := n1_; clear n0_ n1_; obtain ⟨hcz13_0, hcz13_1, hcz13_2, hcz13_3, hcz13_4, hfz13_0, hfz13_1, hfz13_2, hfz13_3, hfz13_4⟩ := cz5_ (w := w12) BK266.out) | ((with_reducible refine gate_callee (f := 127) rfl ?_); refine goesL_ (some 27) rfl rfl Try.func127 (by kernel_rfl) rfl #[.slice A0 l0.length c0, .agg #[.int .u64 t260, .int .u64 t261, .int .u64 t262, .int .u64 t263, .int .i64 2]] rfl (by (try simp only [List.map_toArray, List.map_cons, List.map_nil]); first | done | rfl | (simp only [List.length_drop, List.length_take]; rfl)) ?_; (with_reducible refine (damsonref13_with.calls k _ _ l0 t260 t261 t262 t263 2 t267 _ ?side1 ?side2 A8.out).mono ?_); (case side1 => exact Kd.C_below HR0.out (belN HB)); (case side2 => exact HC0.out); rintro e w14 ⟨v268, rfl, ho0, hb⟩; refine ⟨_, rfl, ?_⟩; have n0_ := Aside0.mk (Kd.R_lower (Kd.R_newB ho0 (g := gb266) (o := .cells #[.int .u64 t260, .int .u64 t261, .int .u64 t262, .int .u64 t263, .int .i64 2] 74 (0, 0)) (by (with_reducible repeat (first | refine blk_drewN ?_ _ | refine blk_drew ?_ | refine blk_alloc ?_ _)); refine blk_put (cs := #[.int .u64 t260, .int .u64 t261, .int .u64 t262, .int .u64 t263, .int .i64 3]) ?_ 4 _ rfl; refine blk_put (cs := #[.int .u64 t260, .int .u64 t261, .int .u64 t262, .int .u64 t263, .int .i64 t264]) ?_ 4 _ rfl; (with_reducible repeat (first | refine blk_drewN ?_ _ | refine blk_drew ?_ | refine blk_alloc ?_ _)); exact BK266.out)) (below_size (belN HB))); have n1_ := Aside0.mk (blk_below (g := gb266) (o := .cells #[.int .u64 t260, .int .u64 t261, .int .u64 t262, .int .u64 t263, .int .i64 2] 74 (0, 0)) (by (with_reducible repeat (first | refine blk_drewN ?_ _ | refine blk_drew ?_ | refine blk_alloc ?_ _)); refine blk_put (cs := #[.int .u64 t260, .int .u64 t261, .int .u64 t262, .int .u64 t263, .int .i64 3]) ?_ 4 _ rfl; refine blk_put (cs := #[.int .u64 t260, .int .u64 t261, .int .u64 t262, .int .u64 t263, .int .i64 t264]) ?_ 4 _ rfl; (with_reducible repeat (first | refine blk_drewN ?_ _ | refine blk_drew ?_ | refine blk_alloc ?_ _)); exact BK266.out) hb); have n2_ := Aside0.mk (below_step (belN HB) hb); clear BK266; clear HB; have HO269 := n0_; have BK266 := n1_; have HB := n2_; clear n0_ n1_ n2_; (try clear hb); (try clear hb2); (try clear hk); (try clear hi); (try clear ho0)))
        go_ret2
        exact ⟨_, by first | rfl | (simp [errW_none, errW_some] <;> rfl) | (simp [*, errW_none, errW_some] <;> rfl), by (with_reducible repeat (first | apply Kd.R_alloc | apply Kd.R_drewN | apply Kd.R_drew)); exact Kd.R_mono HO269.out (fun _ hk => trivial), by repeat (first | (with_reducible first | exact HB.out | apply below_alloc | apply pw_below_drewN | apply below_drew1 | refine below_set ?_ GE266.out) | exact HB.out)⟩
      · replace c7 := Bool.eq_false_iff.mpr c7
        subst c7
        have H1 : ((damsonref13_with.f k l0 t260 t261 t262 t263 3).bind fun t270 => (some (t270, 0))) = some (r1, r2) := by rw [if_neg (show ¬ (false = true) by decide)] at H; exact H
        clear H
        have H := H1
        clear H1
        replace H := Option.bind_eq_some_iff.mp H
        obtain ⟨t270, A150, H⟩ := H
        replace H : (some (t270, 0)) = some (r1, r2) := H
        have A15 := Aside0.mk A150
        clear A150
        simp only [Option.some.injEq, Prod.mk.injEq] at H
        obtain ⟨rfl, rfl⟩ := H
        go_enter Try.func77, Try.ntmps77
        go_wp2_with (first | ((with_reducible refine gate_callee (f := 78) rfl ?_); refine goesL_ (some 13) rfl rfl Try.func78 (by kernel_rfl) rfl #[.slice A0 l0.length c0, .int .u64 a1] rfl (by (try simp only [List.map_toArray, List.map_cons, List.map_nil]); first | done | rfl | (simp only [List.length_drop, List.length_take]; rfl)) ?_; (with_reducible refine (damsonref13_Get.calls k _ _ l0 a1 t260 t261 t262 t263 t264 t265 _ ?side1 ?side2 A4.out).mono ?_); (case side1 => repeat (first | exact HR0.out | (with_reducible refine Kd.C_alloc ?_ _) | (with_reducible refine Kd.C_drewN ?_ _) | (with_reducible refine Kd.C_drew ?_))); (case side2 => exact HC0.out); rintro e w16 ⟨rfl, hb⟩; refine ⟨_, rfl, ?_⟩; have n0_ := Aside0.mk (below_step (belN HB) hb); clear HB; have HB := n0_; clear n0_; (try clear hb); (try clear hb2); (try clear hk); (try clear hi)) | ((with_reducible refine gate_dst (N := 8) rfl ?_); refine box_event ?hg (N := 8) ?hd (cs := #[.int .u64 0, .int .u64 0, .int .u64 0, .int .u64 0, .int .i64 0]) (t := 74) ?hr ?_; (case hd => rfl); (case hg => rfl); (case hr => first | (go_simp; done) | (go_simp; rfl)); intro gb266 hg w17 hbox hb; have n0_ := Aside0.mk (below_step (belN HB) hb); have n1_ := Aside0.mk (hbox); have n2_ := Aside0.mk ((by rw [hg]; exact (below_size (belN HB)) : w.heap.size ≤ gb266)); have n3_ := Aside0.mk ((by rw [hg]; exact (below_size (belN HB)) : w.heap.size ≤ gb266)); clear HB; have HB := n0_; have BK266 := n1_; have GW266 := n2_; have GE266 := n3_; clear n0_ n1_ n2_ n3_; clear hb hbox hg; obtain ⟨hcz18_0, hcz18_1, hcz18_2, hcz18_3, hcz18_4, hfz18_0, hfz18_1, hfz18_2, hfz18_3, hfz18_4⟩ := cz5_ (w := w17) BK266.out) | ((with_reducible refine gate_store (t := 74) (p := 8) rfl ?_); refine store_event (t := 74) (p := 8) (v := ?vo_w19) (w1 := (((((w17.setCell ⟨gb266, 0, none⟩ (.int .u64 t260)).setCell ⟨gb266, 1, none⟩ (.int .u64 t261)).setCell ⟨gb266, 2, none⟩ (.int .u64 t262)).setCell ⟨gb266, 3, none⟩ (.int .u64 t263)).setCell ⟨gb266, 4, none⟩ (.int .i64 t264))) ?hg ?ho ?hn ?hr ?_; (case ho => rfl); (case hg => rfl); (case hn => rfl); (case hr => first | (go_simp; done) | (go_simp; rfl)); intro w19 hw; have n0_ : Aside0 (w19.heap[gb266]? = some (.cells #[.int .u64 t260, .int .u64 t261, .int .u64 t262, .int .u64 t263, .int .i64 t264] 74 (0, 0))) := ⟨(by rw [hw]; exact (by (with_reducible repeat (first | refine blk_drewN ?_ _ | refine blk_drew ?_ | refine blk_alloc ?_ _)); refine blk_put (cs := #[.int .u64 t260, .int .u64 t261, .int .u64 t262, .int .u64 t263, .int .i64 0]) ?_ 4 _ rfl; refine blk_put (cs := #[.int .u64 t260, .int .u64 t261, .int .u64 t262, .int .u64 0, .int .i64 0]) ?_ 3 _ rfl; refine blk_put (cs := #[.int .u64 t260, .int .u64 t261, .int .u64 0, .int .u64 0, .int .i64 0]) ?_ 2 _ rfl; refine blk_put (cs := #[.int .u64 t260, .int .u64 0, .int .u64 0, .int .u64 0, .int .i64 0]) ?_ 1 _ rfl; refine blk_put (cs := #[.int .u64 0, .int .u64 0, .int .u64 0, .int .u64 0, .int .i64 0]) ?_ 0 _ rfl; (with_reducible repeat (first | refine blk_drewN ?_ _ | refine blk_drew ?_ | refine blk_alloc ?_ _)); exact BK266.out))⟩; have n1_ : Aside0 (Below w.heap.size w w19) := ⟨(by rw [hw]; exact (belN HB))⟩; clear hw; clear BK266; clear HB; have BK266 := n0_; have HB := n1_; clear n0_ n1_; obtain ⟨hcz20_0, hcz20_1, hcz20_2, hcz20_3, hcz20_4, hfz20_0, hfz20_1, hfz20_2, hfz20_3, hfz20_4⟩ := cz5_ (w := w19) BK266.out) | ((with_reducible refine gate_callee (f := 127) rfl ?_); refine goesL_ (some 27) rfl rfl Try.func127 (by kernel_rfl) rfl #[.slice A0 l0.length c0, .agg #[.int .u64 t260, .int .u64 t261, .int .u64 t262, .int .u64 t263, .int .i64 3]] rfl (by (try simp only [List.map_toArray, List.map_cons, List.map_nil]); first | done | rfl | (simp only [List.length_drop, List.length_take]; rfl)) ?_; (with_reducible refine (damsonref13_with.calls k _ _ l0 t260 t261 t262 t263 3 t270 _ ?side1 ?side2 A15.out).mono ?_); (case side1 => exact Kd.C_below HR0.out (belN HB)); (case side2 => exact HC0.out); rintro e w21 ⟨v271, rfl, ho0, hb⟩; refine ⟨_, rfl, ?_⟩; have n0_ := Aside0.mk (Kd.R_lower (Kd.R_newB ho0 (g := gb266) (o := .cells #[.int .u64 t260, .int .u64 t261, .int .u64 t262, .int .u64 t263, .int .i64 3] 74 (0, 0)) (by (with_reducible repeat (first | refine blk_drewN ?_ _ | refine blk_drew ?_ | refine blk_alloc ?_ _)); refine blk_put (cs := #[.int .u64 t260, .int .u64 t261, .int .u64 t262, .int .u64 t263, .int .i64 t264]) ?_ 4 _ rfl; (with_reducible repeat (first | refine blk_drewN ?_ _ | refine blk_drew ?_ | refine blk_alloc ?_ _)); exact BK266.out)) (below_size (belN HB))); have n1_ := Aside0.mk (blk_below (g := gb266) (o := .cells #[.int .u64 t260, .int .u64 t261, .int .u64 t262, .int .u64 t263, .int .i64 3] 74 (0, 0)) (by (with_reducible repeat (first | refine blk_drewN ?_ _ | refine blk_drew ?_ | refine blk_alloc ?_ _)); refine blk_put (cs := #[.int .u64 t260, .int .u64 t261, .int .u64 t262, .int .u64 t263, .int .i64 t264]) ?_ 4 _ rfl; (with_reducible repeat (first | refine blk_drewN ?_ _ | refine blk_drew ?_ | refine blk_alloc ?_ _)); exact BK266.out) hb); have n2_ := Aside0.mk (below_step (belN HB) hb); clear BK266; clear HB; have HO272 := n0_; have BK266 := n1_; have HB := n2_; clear n0_ n1_ n2_; (try clear hb); (try clear hb2); (try clear hk); (try clear hi); (try clear ho0)))
        go_ret2
        exact ⟨_, by first | rfl | (simp [errW_none, errW_some] <;> rfl) | (simp [*, errW_none, errW_some] <;> rfl), by (with_reducible repeat (first | apply Kd.R_alloc | apply Kd.R_drewN | apply Kd.R_drew)); exact Kd.R_mono HO272.out (fun _ hk => trivial), by repeat (first | (with_reducible first | exact HB.out | apply below_alloc | apply pw_below_drewN | apply below_drew1 | refine below_set ?_ GE266.out) | exact HB.out)⟩
    · rw [if_neg c6] at H
      have c6b0 : (t264 == 1) = false := beq_eq_false_iff_ne.mpr c6
      have c6b1 : (t264 != 1) = true := bne_iff_ne.mpr c6
      simp only [Option.some.injEq, Prod.mk.injEq] at H
      obtain ⟨rfl, rfl⟩ := H
      go_enter Try.func77, Try.ntmps77
      go_wp2_with (first | ((with_reducible refine gate_callee (f := 78) rfl ?_); refine goesL_ (some 13) rfl rfl Try.func78 (by kernel_rfl) rfl #[.slice A0 l0.length c0, .int .u64 a1] rfl (by (try simp only [List.map_toArray, List.map_cons, List.map_nil]); first | done | rfl | (simp only [List.length_drop, List.length_take]; rfl)) ?_; (with_reducible refine (damsonref13_Get.calls k _ _ l0 a1 t260 t261 t262 t263 t264 t265 _ ?side1 ?side2 A4.out).mono ?_); (case side1 => repeat (first | exact HR0.out | (with_reducible refine Kd.C_alloc ?_ _) | (with_reducible refine Kd.C_drewN ?_ _) | (with_reducible refine Kd.C_drew ?_))); (case side2 => exact HC0.out); rintro e w22 ⟨rfl, hb⟩; refine ⟨_, rfl, ?_⟩; have n0_ := Aside0.mk (below_step (belN HB) hb); clear HB; have HB := n0_; clear n0_; (try clear hb); (try clear hb2); (try clear hk); (try clear hi)) | ((with_reducible refine gate_dst (N := 8) rfl ?_); refine box_event ?hg (N := 8) ?hd (cs := #[.int .u64 0, .int .u64 0, .int .u64 0, .int .u64 0, .int .i64 0]) (t := 74) ?hr ?_; (case hd => rfl); (case hg => rfl); (case hr => first | (go_simp; done) | (go_simp; rfl)); intro gb266 hg w23 hbox hb; have n0_ := Aside0.mk (below_step (belN HB) hb); have n1_ := Aside0.mk (hbox); have n2_ := Aside0.mk ((by rw [hg]; exact (below_size (belN HB)) : w.heap.size ≤ gb266)); have n3_ := Aside0.mk ((by rw [hg]; exact (below_size (belN HB)) : w.heap.size ≤ gb266)); clear HB; have HB := n0_; have BK266 := n1_; have GW266 := n2_; have GE266 := n3_; clear n0_ n1_ n2_ n3_; clear hb hbox hg; obtain ⟨hcz24_0, hcz24_1, hcz24_2, hcz24_3, hcz24_4, hfz24_0, hfz24_1, hfz24_2, hfz24_3, hfz24_4⟩ := cz5_ (w := w23) BK266.out) | ((with_reducible refine gate_store (t := 74) (p := 8) rfl ?_); refine store_event (t := 74) (p := 8) (v := ?vo_w25) (w1 := (((((w23.setCell ⟨gb266, 0, none⟩ (.int .u64 t260)).setCell ⟨gb266, 1, none⟩ (.int .u64 t261)).setCell ⟨gb266, 2, none⟩ (.int .u64 t262)).setCell ⟨gb266, 3, none⟩ (.int .u64 t263)).setCell ⟨gb266, 4, none⟩ (.int .i64 t264))) ?hg ?ho ?hn ?hr ?_; (case ho => rfl); (case hg => rfl); (case hn => rfl); (case hr => first | (go_simp; done) | (go_simp; rfl)); intro w25 hw; have n0_ : Aside0 (w25.heap[gb266]? = some (.cells #[.int .u64 t260, .int .u64 t261, .int .u64 t262, .int .u64 t263, .int .i64 t264] 74 (0, 0))) := ⟨(by rw [hw]; exact (by (with_reducible repeat (first | refine blk_drewN ?_ _ | refine blk_drew ?_ | refine blk_alloc ?_ _)); refine blk_put (cs := #[.int .u64 t260, .int .u64 t261, .int .u64 t262, .int .u64 t263, .int .i64 0]) ?_ 4 _ rfl; refine blk_put (cs := #[.int .u64 t260, .int .u64 t261, .int .u64 t262, .int .u64 0, .int .i64 0]) ?_ 3 _ rfl; refine blk_put (cs := #[.int .u64 t260, .int .u64 t261, .int .u64 0, .int .u64 0, .int .i64 0]) ?_ 2 _ rfl; refine blk_put (cs := #[.int .u64 t260, .int .u64 0, .int .u64 0, .int .u64 0, .int .i64 0]) ?_ 1 _ rfl; refine blk_put (cs := #[.int .u64 0, .int .u64 0, .int .u64 0, .int .u64 0, .int .i64 0]) ?_ 0 _ rfl; (with_reducible repeat (first | refine blk_drewN ?_ _ | refine blk_drew ?_ | refine blk_alloc ?_ _)); exact BK266.out))⟩; have n1_ : Aside0 (Below w.heap.size w w25) := ⟨(by rw [hw]; exact (belN HB))⟩; clear hw; clear BK266; clear HB; have BK266 := n0_; have HB := n1_; clear n0_ n1_; obtain ⟨hcz26_0, hcz26_1, hcz26_2, hcz26_3, hcz26_4, hfz26_0, hfz26_1, hfz26_2, hfz26_3, hfz26_4⟩ := cz5_ (w := w25) BK266.out))
      go_ret2
      exact ⟨_, by first | rfl | (simp [errW_none, errW_some] <;> rfl) | (simp [*, errW_none, errW_some] <;> rfl), by first | exact Kd.R_nil _ _ _ _ _ | exact Kd.N_nil _ _ _ _ _ | exact Kd.V_nil _ _ _ _ _ | exact Kd.Q_nil _ _ _ _ _ | exact Kd.S_nil _ _ _ _ _, by repeat (first | (with_reducible first | exact HB.out | apply below_alloc | apply pw_below_drewN | apply below_drew1 | refine below_set ?_ GE266.out) | exact HB.out)⟩
  · rw [if_neg c5] at H
    have c5b0 : (t265 == 0) = false := beq_eq_false_iff_ne.mpr c5
    have c5b1 : (t265 != 0) = true := bne_iff_ne.mpr c5
    simp only [Option.some.injEq, Prod.mk.injEq] at H
    obtain ⟨rfl, rfl⟩ := H
    go_enter Try.func77, Try.ntmps77
    go_wp2_with (first | ((with_reducible refine gate_callee (f := 78) rfl ?_); refine goesL_ (some 13) rfl rfl Try.func78 (by kernel_rfl) rfl #[.slice A0 l0.length c0, .int .u64 a1] rfl (by (try simp only [List.map_toArray, List.map_cons, List.map_nil]); first | done | rfl | (simp only [List.length_drop, List.length_take]; rfl)) ?_; (with_reducible refine (damsonref13_Get.calls k _ _ l0 a1 t260 t261 t262 t263 t264 t265 _ ?side1 ?side2 A4.out).mono ?_); (case side1 => repeat (first | exact HR0.out | (with_reducible refine Kd.C_alloc ?_ _) | (with_reducible refine Kd.C_drewN ?_ _) | (with_reducible refine Kd.C_drew ?_))); (case side2 => exact HC0.out); rintro e w27 ⟨rfl, hb⟩; refine ⟨_, rfl, ?_⟩; have n0_ := Aside0.mk (below_step (belN HB) hb); clear HB; have HB := n0_; clear n0_; (try clear hb); (try clear hb2); (try clear hk); (try clear hi)) | ((with_reducible refine gate_dst (N := 8) rfl ?_); refine box_event ?hg (N := 8) ?hd (cs := #[.int .u64 0, .int .u64 0, .int .u64 0, .int .u64 0, .int .i64 0]) (t := 74) ?hr ?_; (case hd => rfl); (case hg => rfl); (case hr => first | (go_simp; done) | (go_simp; rfl)); intro gb266 hg w28 hbox hb; have n0_ := Aside0.mk (below_step (belN HB) hb); have n1_ := Aside0.mk (hbox); have n2_ := Aside0.mk ((by rw [hg]; exact (below_size (belN HB)) : w.heap.size ≤ gb266)); have n3_ := Aside0.mk ((by rw [hg]; exact (below_size (belN HB)) : w.heap.size ≤ gb266)); clear HB; have HB := n0_; have BK266 := n1_; have GW266 := n2_; have GE266 := n3_; clear n0_ n1_ n2_ n3_; clear hb hbox hg; obtain ⟨hcz29_0, hcz29_1, hcz29_2, hcz29_3, hcz29_4, hfz29_0, hfz29_1, hfz29_2, hfz29_3, hfz29_4⟩ := cz5_ (w := w28) BK266.out) | ((with_reducible refine gate_store (t := 74) (p := 8) rfl ?_); refine store_event (t := 74) (p := 8) (v := ?vo_w30) (w1 := (((((w28.setCell ⟨gb266, 0, none⟩ (.int .u64 t260)).setCell ⟨gb266, 1, none⟩ (.int .u64 t261)).setCell ⟨gb266, 2, none⟩ (.int .u64 t262)).setCell ⟨gb266, 3, none⟩ (.int .u64 t263)).setCell ⟨gb266, 4, none⟩ (.int .i64 t264))) ?hg ?ho ?hn ?hr ?_; (case ho => rfl); (case hg => rfl); (case hn => rfl); (case hr => first | (go_simp; done) | (go_simp; rfl)); intro w30 hw; have n0_ : Aside0 (w30.heap[gb266]? = some (.cells #[.int .u64 t260, .int .u64 t261, .int .u64 t262, .int .u64 t263, .int .i64 t264] 74 (0, 0))) := ⟨(by rw [hw]; exact (by (with_reducible repeat (first | refine blk_drewN ?_ _ | refine blk_drew ?_ | refine blk_alloc ?_ _)); refine blk_put (cs := #[.int .u64 t260, .int .u64 t261, .int .u64 t262, .int .u64 t263, .int .i64 0]) ?_ 4 _ rfl; refine blk_put (cs := #[.int .u64 t260, .int .u64 t261, .int .u64 t262, .int .u64 0, .int .i64 0]) ?_ 3 _ rfl; refine blk_put (cs := #[.int .u64 t260, .int .u64 t261, .int .u64 0, .int .u64 0, .int .i64 0]) ?_ 2 _ rfl; refine blk_put (cs := #[.int .u64 t260, .int .u64 0, .int .u64 0, .int .u64 0, .int .i64 0]) ?_ 1 _ rfl; refine blk_put (cs := #[.int .u64 0, .int .u64 0, .int .u64 0, .int .u64 0, .int .i64 0]) ?_ 0 _ rfl; (with_reducible repeat (first | refine blk_drewN ?_ _ | refine blk_drew ?_ | refine blk_alloc ?_ _)); exact BK266.out))⟩; have n1_ : Aside0 (Below w.heap.size w w30) := ⟨(by rw [hw]; exact (belN HB))⟩; clear hw; clear BK266; clear HB; have BK266 := n0_; have HB := n1_; clear n0_ n1_))
    go_ret2
    exact ⟨_, by first | rfl | (simp [errW_none, errW_some] <;> rfl) | (simp [*, errW_none, errW_some] <;> rfl), by first | exact Kd.R_nil _ _ _ _ _ | exact Kd.N_nil _ _ _ _ _ | exact Kd.V_nil _ _ _ _ _ | exact Kd.Q_nil _ _ _ _ _ | exact Kd.S_nil _ _ _ _ _, by repeat (first | (with_reducible first | exact HB.out | apply below_alloc | apply pw_below_drewN | apply below_drew1 | refine below_set ?_ GE266.out) | exact HB.out)⟩

/-! ### damsonref04_Add: function 94 -/
def damsonref04_Add.l0 : Nat → Int → List Int → Int → Int → Option (Int × Int)
  | 0, _, _, _, _ => none
  | k + 1, x4, x10, x11, x12 => if x12 < x11 then (if 0 ≤ x12 then (if x12 < (x10.length : Int) then (if (rd x10 x12) > (IntKind.u64.wrap (4611686018427387904 - x4)) then (some (0, 8)) else (damsonref04_Add.l0 k (IntKind.u64.wrap (x4 + (rd x10 x12))) x10 x11 (wrap64 (x12 + 1)))) else (none)) else (none)) else (some (x4, 0))
def damsonref04_Add.f (k : Nat) (l0 : List Int) : Option (Int × Int) := (damsonref04_Check.f k l0).bind fun t273 => (if t273 = 0 then (damsonref04_Add.l0 k 0 l0 (l0.length : Int) 0) else (some (0, 1)))
theorem damsonref04_Add.mono_l : ∀ k, (∀ y0 y1 y2 y3, LeO (damsonref04_Add.l0 k y0 y1 y2 y3) (damsonref04_Add.l0 (k + 1) y0 y1 y2 y3))
  | 0 => fun _ _ _ _ r h => by simp [damsonref04_Add.l0] at h
  | k + 1 => by
    have ih0 := damsonref04_Add.mono_l k
    · intro y0 y1 y2 y3
      unfold damsonref04_Add.l0
      repeat' first
      | (with_reducible exact ih0 _ _ _ _)
      | (with_reducible exact damsonref04_Check.mono _ _)
      | (with_reducible exact LeO.refl _)
      | (with_reducible exact LeO.none _)
      | (with_reducible refine LeO.ite ?_ ?_)
      | (with_reducible refine LeO.bind ?_ (fun _ => ?_))
      | exact ih0 _ _ _ _
      | exact damsonref04_Check.mono _ _
      | exact LeO.none _
      | refine LeO.ite ?_ ?_
      | refine LeO.bind ?_ (fun _ => ?_)
theorem damsonref04_Add.mono : ∀ a0 k, LeO (damsonref04_Add.f k a0) (damsonref04_Add.f (k + 1) a0) := by
  intro a0 k
  have ih0 := damsonref04_Add.mono_l k
  unfold damsonref04_Add.f
  repeat' first
      | (with_reducible exact ih0 _ _ _ _)
      | (with_reducible exact damsonref04_Check.mono _ _)
      | (with_reducible exact LeO.refl _)
      | (with_reducible exact LeO.none _)
      | (with_reducible refine LeO.ite ?_ ?_)
      | (with_reducible refine LeO.bind ?_ (fun _ => ?_))
      | exact ih0 _ _ _ _
      | exact damsonref04_Check.mono _ _
      | exact LeO.none _
      | refine LeO.ite ?_ ?_
      | refine LeO.bind ?_ (fun _ => ?_)
set_option maxHeartbeats 8000000 in
set_option maxRecDepth 100000 in
theorem damsonref04_Add.calls (k : Nat) (A0 : Option Addr) (c0 : Nat) (l0 : List Int) (r1 : Int) (r2 : Int) (w : World) (hr0 : Kd.C (Kd.int .u64) w A0 l0.length l0) (hc0 : l0.length ≤ c0) (h : damsonref04_Add.f k l0 = some (r1, r2)) :
    Calls Try.prog 94 #[.slice A0 l0.length c0] w fun e w' => e = .returned (.tuple #[.int .u64 r1, .int .i64 r2]) ∧ Drawn0 w w' := by
  have HR0 := Aside0.mk hr0
  have HC0 := Aside0.mk hc0
  clear hr0 hc0
  have H : ((damsonref04_Check.f k l0).bind fun t273 => (if t273 = 0 then (damsonref04_Add.l0 k 0 l0 (l0.length : Int) 0) else (some (0, 1)))) = some (r1, r2) := h
  clear h
  replace H := Option.bind_eq_some_iff.mp H
  obtain ⟨t273, A20, H⟩ := H
  replace H : (if t273 = 0 then (damsonref04_Add.l0 k 0 l0 (l0.length : Int) 0) else (some (0, 1))) = some (r1, r2) := H
  have A2 := Aside0.mk A20
  clear A20
  by_cases c3 : t273 = 0
  · rw [if_pos c3] at H
    have c3b0 : (t273 == 0) = true := beq_iff_eq.mpr c3
    have c3b1 : (t273 != 0) = false := bne_eq_false_iff_eq.mpr c3
    clear c3
    have H' := Aside0.mk H
    clear H
    go_enter Try.func94, Try.ntmps94
    go_wp2_with (first | ((with_reducible refine gate_callee (f := 96) rfl ?_); refine goesL_ (some 8) rfl rfl Try.func96 (by kernel_rfl) rfl #[.slice A0 l0.length c0] rfl (by (try simp only [List.map_toArray, List.map_cons, List.map_nil]); first | done | rfl | (simp only [List.length_drop, List.length_take]; rfl)) ?_; (with_reducible refine (damsonref04_Check.calls k _ _ l0 t273 _ ?side1 ?side2 A2.out).mono ?_); (case side1 => repeat (first | exact HR0.out | (with_reducible refine Kd.C_alloc ?_ _) | (with_reducible refine Kd.C_drewN ?_ _) | (with_reducible refine Kd.C_drew ?_))); (case side2 => exact HC0.out); rintro e w' ⟨rfl, ⟨nd, rfl⟩⟩; refine ⟨_, rfl, ?_⟩))
    go_loopg [4, 12] k (fun kq v4 v12 w' => ∃ (x4_1 : Int) (x12_1 : Int), v4 = .int .u64 x4_1 ∧ v12 = .int .i64 x12_1 ∧ Aside0 (damsonref04_Add.l0 kq x4_1 l0 (l0.length : Int) x12_1 = some (r1, r2)) ∧ Aside0 (kq ≤ k) ∧ Drawn0 w w')
    case atStart => exact ⟨(0), (0), (by first | rfl | (simp; done) | (simp [*]; done)), (by first | rfl | (simp; done) | (simp [*]; done)), H', ⟨Nat.le_refl _⟩, by repeat (first | exact Drawn0.refl _ | apply Drawn0.step)⟩
    case round =>
      clear H'
      try clear p2
      try clear c3
      try clear c3b0
      try clear c3b1
      obtain ⟨x4_1, x12_1, rfl, rfl, HA, HK1, ⟨m1, rfl⟩⟩ := hrel
      cases gk with
      | zero => exact absurd HA.out (by simp [damsonref04_Add.l0])
      | succ k1 =>
        have H := HA.out
        clear HA
        simp only [damsonref04_Add.l0] at H
        by_cases c4 : x12_1 < (l0.length : Int)
        · rw [if_pos c4] at H
          have c4b0 : decide (x12_1 < (l0.length : Int)) = true := decide_eq_true c4
          clear c4
          by_cases c5 : 0 ≤ x12_1
          · rw [if_pos c5] at H
            have c5b0 : decide (0 ≤ x12_1) = true := decide_eq_true c5
            clear c5
            by_cases c6 : x12_1 < (l0.length : Int)
            · rw [if_pos c6] at H
              have c6b0 : decide (x12_1 < (l0.length : Int)) = true := decide_eq_true c6
              clear c6
              by_cases c7 : (rd l0 x12_1) > (IntKind.u64.wrap (4611686018427387904 - x4_1))
              · rw [if_pos c7] at H
                have c7b0 : decide ((IntKind.u64.wrap (4611686018427387904 - x4_1)) < (rd l0 x12_1)) = true := decide_eq_true c7
                clear c7
                simp only [Option.some.injEq, Prod.mk.injEq] at H
                obtain ⟨rfl, rfl⟩ := H
                have p274 : 0 ≤ (x12_1 : Int) := of_decide_eq_true (by first | (with_reducible assumption) | assumption)
                have q274 : x12_1 < (l0.length : Int) := of_decide_eq_true (by first | (with_reducible assumption) | assumption)
                obtain ⟨ad274, e274, hx274_0⟩ := Kd.at_int HR0.out x12_1 p274 q274
                cases e274
                replace p274 := eq_true p274
                replace q274 := eq_true q274
                go_wp2
                go_ret2
                exact ⟨by first | rfl | (simp; done) | (simp [*]; done), by repeat (first | exact Drawn0.refl _ | apply Drawn0.step)⟩
              · rw [if_neg c7] at H
                have c7b0 : decide ((IntKind.u64.wrap (4611686018427387904 - x4_1)) < (rd l0 x12_1)) = false := decide_eq_false c7
                clear c7
                have H' := Aside0.mk H
                clear H
                have p274 : 0 ≤ (x12_1 : Int) := of_decide_eq_true (by first | (with_reducible assumption) | assumption)
                have q274 : x12_1 < (l0.length : Int) := of_decide_eq_true (by first | (with_reducible assumption) | assumption)
                obtain ⟨ad274, e274, hx274_0⟩ := Kd.at_int HR0.out x12_1 p274 q274
                cases e274
                replace p274 := eq_true p274
                replace q274 := eq_true q274
                go_wp2
                go_roundg k1
                case measure => have := HK1.out; omega
                case rel => exact ⟨(IntKind.u64.wrap (x4_1 + (rd l0 x12_1))), (wrap64 (x12_1 + 1)), (by first | rfl | (simp; done) | (simp [*]; done)), (by first | rfl | (simp; done) | (simp [*]; done)), H', ⟨by have := HK1.out; omega⟩, by repeat (first | exact Drawn0.refl _ | apply Drawn0.step)⟩
            · rw [if_neg c6] at H
              exact absurd H (by simp)
          · rw [if_neg c5] at H
            exact absurd H (by simp)
        · rw [if_neg c4] at H
          have c4b0 : decide (x12_1 < (l0.length : Int)) = false := decide_eq_false c4
          clear c4
          simp only [Option.some.injEq, Prod.mk.injEq] at H
          obtain ⟨rfl, rfl⟩ := H
          go_wp2
          go_ret2
          exact ⟨by first | rfl | (simp; done) | (simp [*]; done), by repeat (first | exact Drawn0.refl _ | apply Drawn0.step)⟩
  · rw [if_neg c3] at H
    have c3b0 : (t273 == 0) = false := beq_eq_false_iff_ne.mpr c3
    have c3b1 : (t273 != 0) = true := bne_iff_ne.mpr c3
    simp only [Option.some.injEq, Prod.mk.injEq] at H
    obtain ⟨rfl, rfl⟩ := H
    go_enter Try.func94, Try.ntmps94
    go_wp2_with (first | ((with_reducible refine gate_callee (f := 96) rfl ?_); refine goesL_ (some 8) rfl rfl Try.func96 (by kernel_rfl) rfl #[.slice A0 l0.length c0] rfl (by (try simp only [List.map_toArray, List.map_cons, List.map_nil]); first | done | rfl | (simp only [List.length_drop, List.length_take]; rfl)) ?_; (with_reducible refine (damsonref04_Check.calls k _ _ l0 t273 _ ?side1 ?side2 A2.out).mono ?_); (case side1 => repeat (first | exact HR0.out | (with_reducible refine Kd.C_alloc ?_ _) | (with_reducible refine Kd.C_drewN ?_ _) | (with_reducible refine Kd.C_drew ?_))); (case side2 => exact HC0.out); rintro e w' ⟨rfl, ⟨nd, rfl⟩⟩; refine ⟨_, rfl, ?_⟩))
    go_ret2
    exact ⟨by first | rfl | (simp; done) | (simp [*]; done), by repeat (first | exact Drawn0.refl _ | apply Drawn0.step)⟩

/-! ### damsonref13_Held: function 79 -/
def damsonref13_Held.l0 : Nat → Int → List Int → List (S74) → Int → Int → Option (Int × Int)
  | 0, _, _, _, _, _ => none
  | k + 1, x1, x6, x14, x15, x16 => if x16 < x15 then (if 0 ≤ x16 then (if x16 < (x14.length : Int) then (if ((rd_T74 x14 x16).f4) = 1 then (if ((rd_T74 x14 x16).f2) = x1 then (if x6.length < 17592186044416 then (damsonref13_Held.l0 k x1 (x6 ++ [(rd_T74 x14 x16).f3]) x14 x15 (wrap64 (x16 + 1))) else (none)) else (damsonref13_Held.l0 k x1 x6 x14 x15 (wrap64 (x16 + 1)))) else (damsonref13_Held.l0 k x1 x6 x14 x15 (wrap64 (x16 + 1)))) else (none)) else (none)) else ((damsonref04_Add.f k x6).bind fun bt281 => (if bt281.2 = 0 then (some (bt281.1, 0)) else (some (0, 1))))
def damsonref13_Held.f (k : Nat) (l0 : List (S74)) (a1 : Int) : Option (Int × Int) := (damsonref13_Check.f k l0).bind fun t275 => (if t275 = 0 then (damsonref13_Held.l0 k a1 ([] : List Int) l0 (l0.length : Int) 0) else (some (0, 1)))
theorem damsonref13_Held.mono_l : ∀ k, (∀ y0 y1 y2 y3 y4, LeO (damsonref13_Held.l0 k y0 y1 y2 y3 y4) (damsonref13_Held.l0 (k + 1) y0 y1 y2 y3 y4))
  | 0 => fun _ _ _ _ _ r h => by simp [damsonref13_Held.l0] at h
  | k + 1 => by
    have ih0 := damsonref13_Held.mono_l k
    · intro y0 y1 y2 y3 y4
      unfold damsonref13_Held.l0
      repeat' first
      | (with_reducible exact ih0 _ _ _ _ _)
      | (with_reducible exact damsonref04_Add.mono _ _)
      | (with_reducible exact damsonref13_Check.mono _ _)
      | (with_reducible exact LeO.refl _)
      | (with_reducible exact LeO.none _)
      | (with_reducible refine LeO.ite ?_ ?_)
      | (with_reducible refine LeO.bind ?_ (fun _ => ?_))
      | exact ih0 _ _ _ _ _
      | exact damsonref04_Add.mono _ _
      | exact damsonref13_Check.mono _ _
      | exact LeO.none _
      | refine LeO.ite ?_ ?_
      | refine LeO.bind ?_ (fun _ => ?_)
theorem damsonref13_Held.mono : ∀ a0 a1 k, LeO (damsonref13_Held.f k a0 a1) (damsonref13_Held.f (k + 1) a0 a1) := by
  intro a0 a1 k
  have ih0 := damsonref13_Held.mono_l k
  unfold damsonref13_Held.f
  repeat' first
      | (with_reducible exact ih0 _ _ _ _ _)
      | (with_reducible exact damsonref04_Add.mono _ _)
      | (with_reducible exact damsonref13_Check.mono _ _)
      | (with_reducible exact LeO.refl _)
      | (with_reducible exact LeO.none _)
      | (with_reducible refine LeO.ite ?_ ?_)
      | (with_reducible refine LeO.bind ?_ (fun _ => ?_))
      | exact ih0 _ _ _ _ _
      | exact damsonref04_Add.mono _ _
      | exact damsonref13_Check.mono _ _
      | exact LeO.none _
      | refine LeO.ite ?_ ?_
      | refine LeO.bind ?_ (fun _ => ?_)
set_option maxHeartbeats 8000000 in
set_option maxRecDepth 100000 in
theorem damsonref13_Held.calls (k : Nat) (A0 : Option Addr) (c0 : Nat) (l0 : List (S74)) (a1 : Int) (r1 : Int) (r2 : Int) (w : World) (hr0 : Kd.C k74 w A0 l0.length l0) (hc0 : l0.length ≤ c0) (h : damsonref13_Held.f k l0 a1 = some (r1, r2)) :
    Calls Try.prog 79 #[.slice A0 l0.length c0, .int .u64 a1] w fun e w' => e = .returned (.tuple #[.int .u64 r1, .int .i64 r2]) ∧ Below w.heap.size w w' := by
  have hu74 := Try.underlying74
  have HR0 := Aside0.mk hr0
  have HC0 := Aside0.mk hc0
  clear hr0 hc0
  have HB := Aside0.mk (Below.refl w.heap.size w)
  have H : ((damsonref13_Check.f k l0).bind fun t275 => (if t275 = 0 then (damsonref13_Held.l0 k a1 ([] : List Int) l0 (l0.length : Int) 0) else (some (0, 1)))) = some (r1, r2) := h
  clear h
  replace H := Option.bind_eq_some_iff.mp H
  obtain ⟨t275, A30, H⟩ := H
  replace H : (if t275 = 0 then (damsonref13_Held.l0 k a1 ([] : List Int) l0 (l0.length : Int) 0) else (some (0, 1))) = some (r1, r2) := H
  have A3 := Aside0.mk A30
  clear A30
  by_cases c4 : t275 = 0
  · rw [if_pos c4] at H
    have c4b0 : (t275 == 0) = true := beq_iff_eq.mpr c4
    have c4b1 : (t275 != 0) = false := bne_eq_false_iff_eq.mpr c4
    clear c4
    have H' := Aside0.mk H
    clear H
    go_enter Try.func79, Try.ntmps79
    go_wp2_with (first | ((with_reducible refine gate_callee (f := 81) rfl ?_); refine goesL_ (some 12) rfl rfl Try.func81 (by kernel_rfl) rfl #[.slice A0 l0.length c0] rfl (by (try simp only [List.map_toArray, List.map_cons, List.map_nil]); first | done | rfl | (simp only [List.length_drop, List.length_take]; rfl)) ?_; (with_reducible refine (damsonref13_Check.calls k _ _ l0 t275 _ ?side1 ?side2 A3.out).mono ?_); (case side1 => repeat (first | exact HR0.out | (with_reducible refine Kd.C_alloc ?_ _) | (with_reducible refine Kd.C_drewN ?_ _) | (with_reducible refine Kd.C_drew ?_))); (case side2 => exact HC0.out); rintro e w5 ⟨rfl, hb⟩; refine ⟨_, rfl, ?_⟩; have n0_ := Aside0.mk (below_step (belN HB) hb); clear HB; have HB := n0_; clear n0_; (try clear hb); (try clear hb2); (try clear hk); (try clear hi)))
    go_loopg [6, 16] k (fun kq v6 v16 w' => ∃ (x6_1 : List Int) (x16_1 : Int), v16 = .int .i64 x16_1 ∧ Aside0 (damsonref13_Held.l0 kq a1 x6_1 l0 (l0.length : Int) x16_1 = some (r1, r2)) ∧ Aside0 (kq ≤ k) ∧ Aside0 (Kd.R (Kd.int .u64) 22 w' w.heap.size (fun _ => True) v6 x6_1) ∧ Aside0 (Below w.heap.size w w'))
    case atStart => exact ⟨(([] : List Int)), (0), (by first | rfl | (simp; done) | (simp [*]; done)), H', ⟨Nat.le_refl _⟩, ⟨by first | exact Kd.R_nil _ _ _ _ _ | exact Kd.N_nil _ _ _ _ _ | exact Kd.V_nil _ _ _ _ _ | exact Kd.Q_nil _ _ _ _ _ | exact Kd.S_nil _ _ _ _ _⟩, ⟨by repeat (first | (with_reducible first | exact HB.out | apply below_alloc | apply pw_below_drewN | apply below_drew1) | exact HB.out)⟩⟩
    case round =>
      clear H'
      try clear p2
      try clear c4
      try clear c4b0
      try clear c4b1
      obtain ⟨x6_1, x16_1, rfl, HA, HK1, HO_6, HB⟩ := hrel
      cases gk with
      | zero => exact absurd HA.out (by simp [damsonref13_Held.l0])
      | succ k1 =>
        have H := HA.out
        clear HA
        simp only [damsonref13_Held.l0] at H
        by_cases c6 : x16_1 < (l0.length : Int)
        · rw [if_pos c6] at H
          have c6b0 : decide (x16_1 < (l0.length : Int)) = true := decide_eq_true c6
          clear c6
          by_cases c7 : 0 ≤ x16_1
          · rw [if_pos c7] at H
            have c7b0 : decide (0 ≤ x16_1) = true := decide_eq_true c7
            clear c7
            by_cases c8 : x16_1 < (l0.length : Int)
            · rw [if_pos c8] at H
              have c8b0 : decide (x16_1 < (l0.length : Int)) = true := decide_eq_true c8
              clear c8
              by_cases c9 : ((rd_T74 l0 x16_1).f4) = 1
              · rw [if_pos c9] at H
                have c9b0 : (((rd_T74 l0 x16_1).f4) == 1) = true := beq_iff_eq.mpr c9
                have c9b1 : (((rd_T74 l0 x16_1).f4) != 1) = false := bne_eq_false_iff_eq.mpr c9
                clear c9
                by_cases c10 : ((rd_T74 l0 x16_1).f2) = a1
                · rw [if_pos c10] at H
                  have c10b0 : (((rd_T74 l0 x16_1).f2) == a1) = true := beq_iff_eq.mpr c10
                  have c10b1 : (((rd_T74 l0 x16_1).f2) != a1) = false := bne_eq_false_iff_eq.mpr c10
                  clear c10
                  by_cases c11 : x6_1.length < 17592186044416
                  · rw [if_pos c11] at H
                    have LMc11 := Aside0.mk c11
                    clear c11
                    obtain ⟨y278, hy278⟩ : ∃ y_ : List Int, y_ = (x6_1 ++ [(rd_T74 l0 x16_1).f3]) := ⟨_, rfl⟩
                    replace H : (damsonref13_Held.l0 k1 a1 y278 l0 (l0.length : Int) (wrap64 (x16_1 + 1))) = some (r1, r2) := by first | (rw [hy278]; with_reducible exact H) | (have H2_ := (Option.bind_some _ _).symm.trans H; rw [hy278]; with_reducible exact H2_) | (have H2_ := (Option.bind_some _ _).symm.trans H; with_reducible exact H2_) | with_reducible exact H | (rw [hy278]; exact H) | exact H
                    have Ny278 := Aside0.mk hy278
                    clear hy278
                    have H' := Aside0.mk H
                    clear H
                    have p276 : 0 ≤ (x16_1 : Int) := of_decide_eq_true (by first | (with_reducible assumption) | assumption)
                    have q276 : x16_1 < (l0.length : Int) := of_decide_eq_true (by first | (with_reducible assumption) | assumption)
                    obtain ⟨ad276, e276, hx276_0, hx276_1, hx276_2, hx276_3, hx276_4⟩ := at_T74 HR0.out x16_1 p276 q276
                    cases e276
                    replace hx276_0 := (HB.out.cell (World.block_lt_of_cell? w _ hx276_0)).trans hx276_0
                    replace hx276_1 := (HB.out.cell (World.block_lt_of_cell? w _ hx276_1)).trans hx276_1
                    replace hx276_2 := (HB.out.cell (World.block_lt_of_cell? w _ hx276_2)).trans hx276_2
                    replace hx276_3 := (HB.out.cell (World.block_lt_of_cell? w _ hx276_3)).trans hx276_3
                    replace hx276_4 := (HB.out.cell (World.block_lt_of_cell? w _ hx276_4)).trans hx276_4
                    replace p276 := eq_true p276
                    replace q276 := eq_true q276
                    go_wp2_with (first | ((with_reducible refine gate_dst (N := 8) rfl ?_); refine box_event ?hg (N := 8) ?hd (cs := #[.int .u64 0, .int .u64 0, .int .u64 0, .int .u64 0, .int .i64 0]) (t := 74) ?hr ?_; (case hd => rfl); (case hg => rfl); (case hr => first | (go_simp; done) | (go_simp; rfl)); intro gb277 hg w12 hbox hb; have n0_ := Aside0.mk (Kd.R_below (Kd.RN HO_6) hb); have n1_ := Aside0.mk (below_step (belN HB) hb); have n2_ := Aside0.mk (hbox); have n3_ := Aside0.mk ((by rw [hg]; exact (below_size (belN HB)) : w.heap.size ≤ gb277)); have n4_ := Aside0.mk ((by rw [hg]; exact (below_size (belN HB)) : w.heap.size ≤ gb277)); clear HO_6; clear HB; have HO_6 := n0_; have HB := n1_; have BK277 := n2_; have GW277 := n3_; have GE277 := n4_; clear n0_ n1_ n2_ n3_ n4_; clear hb hbox hg; obtain ⟨hcz13_0, hcz13_1, hcz13_2, hcz13_3, hcz13_4, hfz13_0, hfz13_1, hfz13_2, hfz13_3, hfz13_4⟩ := cz5_ (w := w12) BK277.out) | ((with_reducible refine gate_store (t := 74) (p := 8) rfl ?_); refine store_event (t := 74) (p := 8) (v := ?vo_w14) (w1 := (((((w12.setCell ⟨gb277, 0, none⟩ (.int .u64 ((rd_T74 l0 x16_1).f0))).setCell ⟨gb277, 1, none⟩ (.int .u64 ((rd_T74 l0 x16_1).f1))).setCell ⟨gb277, 2, none⟩ (.int .u64 ((rd_T74 l0 x16_1).f2))).setCell ⟨gb277, 3, none⟩ (.int .u64 ((rd_T74 l0 x16_1).f3))).setCell ⟨gb277, 4, none⟩ (.int .i64 ((rd_T74 l0 x16_1).f4)))) ?hg ?ho ?hn ?hr ?_; (case ho => rfl); (case hg => rfl); (case hn => rfl); (case hr => first | (go_simp; done) | (go_simp; rfl)); intro w14 hw; have n0_ : Aside0 (Kd.R (Kd.int .u64) 22 w14 w.heap.size (fun _ => True) u6 x6_1) := ⟨(by rw [hw]; exact (by (with_reducible repeat (first | apply Kd.R_alloc | apply Kd.R_drewN | apply Kd.R_drew)); exact Kd.R_mono (Kd.R_far (p := ⟨gb277, 4, none⟩) (Kd.R_far (p := ⟨gb277, 3, none⟩) (Kd.R_far (p := ⟨gb277, 2, none⟩) (Kd.R_far (p := ⟨gb277, 1, none⟩) (Kd.R_far (p := ⟨gb277, 0, none⟩) (Kd.R_types HO_6.out BK277.out (by decide)) (fun _ hk => hk.2) (.int .u64 ((rd_T74 l0 x16_1).f0))) (fun _ hk => hk.2) (.int .u64 ((rd_T74 l0 x16_1).f1))) (fun _ hk => hk.2) (.int .u64 ((rd_T74 l0 x16_1).f2))) (fun _ hk => hk.2) (.int .u64 ((rd_T74 l0 x16_1).f3))) (fun _ hk => hk.2) (.int .i64 ((rd_T74 l0 x16_1).f4))) (fun _ hk => trivial)))⟩; have n1_ : Aside0 (w14.heap[gb277]? = some (.cells #[.int .u64 ((rd_T74 l0 x16_1).f0), .int .u64 ((rd_T74 l0 x16_1).f1), .int .u64 ((rd_T74 l0 x16_1).f2), .int .u64 ((rd_T74 l0 x16_1).f3), .int .i64 ((rd_T74 l0 x16_1).f4)] 74 (0, 0))) := ⟨(by rw [hw]; exact (by (with_reducible repeat (first | refine blk_drewN ?_ _ | refine blk_drew ?_ | refine blk_alloc ?_ _)); refine blk_put (cs := #[.int .u64 ((rd_T74 l0 x16_1).f0), .int .u64 ((rd_T74 l0 x16_1).f1), .int .u64 ((rd_T74 l0 x16_1).f2), .int .u64 ((rd_T74 l0 x16_1).f3), .int .i64 0]) ?_ 4 _ rfl; refine blk_put (cs := #[.int .u64 ((rd_T74 l0 x16_1).f0), .int .u64 ((rd_T74 l0 x16_1).f1), .int .u64 ((rd_T74 l0 x16_1).f2), .int .u64 0, .int .i64 0]) ?_ 3 _ rfl; refine blk_put (cs := #[.int .u64 ((rd_T74 l0 x16_1).f0), .int .u64 ((rd_T74 l0 x16_1).f1), .int .u64 0, .int .u64 0, .int .i64 0]) ?_ 2 _ rfl; refine blk_put (cs := #[.int .u64 ((rd_T74 l0 x16_1).f0), .int .u64 0, .int .u64 0, .int .u64 0, .int .i64 0]) ?_ 1 _ rfl; refine blk_put (cs := #[.int .u64 0, .int .u64 0, .int .u64 0, .int .u64 0, .int .i64 0]) ?_ 0 _ rfl; (with_reducible repeat (first | refine blk_drewN ?_ _ | refine blk_drew ?_ | refine blk_alloc ?_ _)); exact BK277.out))⟩; have n2_ : Aside0 (Below w.heap.size w w14) := ⟨(by rw [hw]; exact (belN HB))⟩; clear hw; clear HO_6; clear BK277; clear HB; have HO_6 := n0_; have BK277 := n1_; have HB := n2_; clear n0_ n1_ n2_; obtain ⟨hcz15_0, hcz15_1, hcz15_2, hcz15_3, hcz15_4, hfz15_0, hfz15_1, hfz15_2, hfz15_3, hfz15_4⟩ := cz5_ (w := w14) BK277.out) | ((with_reducible refine gate_builtin (b := .append) (xs := #[.tmp 29, .tmp 32]) rfl ?_); at_builtin; refine Kd.R_append (Kd.int .u64) (w0 := w) w.heap.size rfl (.tmp 29) (.tmp 32) 42 22 (.int .u64 0) 8 rfl Try.underlying42 info22 rfl (by decide) (by omega) u6 x6_1 ((rd_T74 l0 x16_1).f3) [.int .u64 ((rd_T74 l0 x16_1).f3)] (fun _ => True) (fun _ => False) rfl rfl ?aP (fun _ hk => hk.elim) ?aF ?aO ?aB ?aS ?aL ?_; (case aP => exact rfl); (case aB => exact (belN HB)); (case aF => exact (fun _ _ => trivial)); (case aO => exact (Kd.RN HO_6)); (case aS => exact (below_size (belN HB))); (case aL => have := LMc11.out; omega); intro v279 w16 ho hb hg hat; rw [← Ny278.out] at ho; have n0_ := Aside0.mk (blk_grown (g := gb277) (blkN BK277) hg (Kd.R_ne HO_6.out BK277.out (by decide))); have n1_ := Aside0.mk (hb); have n2_ := Aside0.mk (ho); clear BK277; clear HB; clear HO_6; have BK277 := n0_; have HB := n1_; have HO280 := n2_; clear n0_ n1_ n2_; clear ho hb hg hat))
                    go_roundg k1
                    case measure => have := HK1.out; omega
                    case rel => exact ⟨(y278), (wrap64 (x16_1 + 1)), (by first | rfl | (simp; done) | (simp [*]; done)), H', ⟨by have := HK1.out; omega⟩, ⟨by (with_reducible repeat (first | apply Kd.R_alloc | apply Kd.R_drewN | apply Kd.R_drew)); exact HO280.out⟩, ⟨by repeat (first | (with_reducible first | exact HB.out | apply below_alloc | apply pw_below_drewN | apply below_drew1 | refine below_set ?_ GE277.out) | exact HB.out)⟩⟩
                  · rw [if_neg c11] at H
                    exact absurd H (by simp)
                · rw [if_neg c10] at H
                  have c10b0 : (((rd_T74 l0 x16_1).f2) == a1) = false := beq_eq_false_iff_ne.mpr c10
                  have c10b1 : (((rd_T74 l0 x16_1).f2) != a1) = true := bne_iff_ne.mpr c10
                  have H' := Aside0.mk H
                  clear H
                  have p276 : 0 ≤ (x16_1 : Int) := of_decide_eq_true (by first | (with_reducible assumption) | assumption)
                  have q276 : x16_1 < (l0.length : Int) := of_decide_eq_true (by first | (with_reducible assumption) | assumption)
                  obtain ⟨ad276, e276, hx276_0, hx276_1, hx276_2, hx276_3, hx276_4⟩ := at_T74 HR0.out x16_1 p276 q276
                  cases e276
                  replace hx276_0 := (HB.out.cell (World.block_lt_of_cell? w _ hx276_0)).trans hx276_0
                  replace hx276_1 := (HB.out.cell (World.block_lt_of_cell? w _ hx276_1)).trans hx276_1
                  replace hx276_2 := (HB.out.cell (World.block_lt_of_cell? w _ hx276_2)).trans hx276_2
                  replace hx276_3 := (HB.out.cell (World.block_lt_of_cell? w _ hx276_3)).trans hx276_3
                  replace hx276_4 := (HB.out.cell (World.block_lt_of_cell? w _ hx276_4)).trans hx276_4
                  replace p276 := eq_true p276
                  replace q276 := eq_true q276
                  go_wp2_with (first | ((with_reducible refine gate_dst (N := 8) rfl ?_); refine box_event ?hg (N := 8) ?hd (cs := #[.int .u64 0, .int .u64 0, .int .u64 0, .int .u64 0, .int .i64 0]) (t := 74) ?hr ?_; (case hd => rfl); (case hg => rfl); (case hr => first | (go_simp; done) | (go_simp; rfl)); intro gb277 hg w17 hbox hb; have n0_ := Aside0.mk (Kd.R_below (Kd.RN HO_6) hb); have n1_ := Aside0.mk (below_step (belN HB) hb); have n2_ := Aside0.mk (hbox); have n3_ := Aside0.mk ((by rw [hg]; exact (below_size (belN HB)) : w.heap.size ≤ gb277)); have n4_ := Aside0.mk ((by rw [hg]; exact (below_size (belN HB)) : w.heap.size ≤ gb277)); clear HO_6; clear HB; have HO_6 := n0_; have HB := n1_; have BK277 := n2_; have GW277 := n3_; have GE277 := n4_; clear n0_ n1_ n2_ n3_ n4_; clear hb hbox hg; obtain ⟨hcz18_0, hcz18_1, hcz18_2, hcz18_3, hcz18_4, hfz18_0, hfz18_1, hfz18_2, hfz18_3, hfz18_4⟩ := cz5_ (w := w17) BK277.out) | ((with_reducible refine gate_store (t := 74) (p := 8) rfl ?_); refine store_event (t := 74) (p := 8) (v := ?vo_w19) (w1 := (((((w17.setCell ⟨gb277, 0, none⟩ (.int .u64 ((rd_T74 l0 x16_1).f0))).setCell ⟨gb277, 1, none⟩ (.int .u64 ((rd_T74 l0 x16_1).f1))).setCell ⟨gb277, 2, none⟩ (.int .u64 ((rd_T74 l0 x16_1).f2))).setCell ⟨gb277, 3, none⟩ (.int .u64 ((rd_T74 l0 x16_1).f3))).setCell ⟨gb277, 4, none⟩ (.int .i64 ((rd_T74 l0 x16_1).f4)))) ?hg ?ho ?hn ?hr ?_; (case ho => rfl); (case hg => rfl); (case hn => rfl); (case hr => first | (go_simp; done) | (go_simp; rfl)); intro w19 hw; have n0_ : Aside0 (Kd.R (Kd.int .u64) 22 w19 w.heap.size (fun _ => True) u6 x6_1) := ⟨(by rw [hw]; exact (by (with_reducible repeat (first | apply Kd.R_alloc | apply Kd.R_drewN | apply Kd.R_drew)); exact Kd.R_mono (Kd.R_far (p := ⟨gb277, 4, none⟩) (Kd.R_far (p := ⟨gb277, 3, none⟩) (Kd.R_far (p := ⟨gb277, 2, none⟩) (Kd.R_far (p := ⟨gb277, 1, none⟩) (Kd.R_far (p := ⟨gb277, 0, none⟩) (Kd.R_types HO_6.out BK277.out (by decide)) (fun _ hk => hk.2) (.int .u64 ((rd_T74 l0 x16_1).f0))) (fun _ hk => hk.2) (.int .u64 ((rd_T74 l0 x16_1).f1))) (fun _ hk => hk.2) (.int .u64 ((rd_T74 l0 x16_1).f2))) (fun _ hk => hk.2) (.int .u64 ((rd_T74 l0 x16_1).f3))) (fun _ hk => hk.2) (.int .i64 ((rd_T74 l0 x16_1).f4))) (fun _ hk => trivial)))⟩; have n1_ : Aside0 (w19.heap[gb277]? = some (.cells #[.int .u64 ((rd_T74 l0 x16_1).f0), .int .u64 ((rd_T74 l0 x16_1).f1), .int .u64 ((rd_T74 l0 x16_1).f2), .int .u64 ((rd_T74 l0 x16_1).f3), .int .i64 ((rd_T74 l0 x16_1).f4)] 74 (0, 0))) := ⟨(by rw [hw]; exact (by (with_reducible repeat (first | refine blk_drewN ?_ _ | refine blk_drew ?_ | refine blk_alloc ?_ _)); refine blk_put (cs := #[.int .u64 ((rd_T74 l0 x16_1).f0), .int .u64 ((rd_T74 l0 x16_1).f1), .int .u64 ((rd_T74 l0 x16_1).f2), .int .u64 ((rd_T74 l0 x16_1).f3), .int .i64 0]) ?_ 4 _ rfl; refine blk_put (cs := #[.int .u64 ((rd_T74 l0 x16_1).f0), .int .u64 ((rd_T74 l0 x16_1).f1), .int .u64 ((rd_T74 l0 x16_1).f2), .int .u64 0, .int .i64 0]) ?_ 3 _ rfl; refine blk_put (cs := #[.int .u64 ((rd_T74 l0 x16_1).f0), .int .u64 ((rd_T74 l0 x16_1).f1), .int .u64 0, .int .u64 0, .int .i64 0]) ?_ 2 _ rfl; refine blk_put (cs := #[.int .u64 ((rd_T74 l0 x16_1).f0), .int .u64 0, .int .u64 0, .int .u64 0, .int .i64 0]) ?_ 1 _ rfl; refine blk_put (cs := #[.int .u64 0, .int .u64 0, .int .u64 0, .int .u64 0, .int .i64 0]) ?_ 0 _ rfl; (with_reducible repeat (first | refine blk_drewN ?_ _ | refine blk_drew ?_ | refine blk_alloc ?_ _)); exact BK277.out))⟩; have n2_ : Aside0 (Below w.heap.size w w19) := ⟨(by rw [hw]; exact (belN HB))⟩; clear hw; clear HO_6; clear BK277; clear HB; have HO_6 := n0_; have BK277 := n1_; have HB := n2_; clear n0_ n1_ n2_; obtain ⟨hcz20_0, hcz20_1, hcz20_2, hcz20_3, hcz20_4, hfz20_0, hfz20_1, hfz20_2, hfz20_3, hfz20_4⟩ := cz5_ (w := w19) BK277.out))
                  go_roundg k1
                  case measure => have := HK1.out; omega
                  case rel => exact ⟨(x6_1), (wrap64 (x16_1 + 1)), (by first | rfl | (simp; done) | (simp [*]; done)), H', ⟨by have := HK1.out; omega⟩, ⟨by (with_reducible repeat (first | apply Kd.R_alloc | apply Kd.R_drewN | apply Kd.R_drew)); exact HO_6.out⟩, ⟨by repeat (first | (with_reducible first | exact HB.out | apply below_alloc | apply pw_below_drewN | apply below_drew1 | refine below_set ?_ GE277.out) | exact HB.out)⟩⟩
              · rw [if_neg c9] at H
                have c9b0 : (((rd_T74 l0 x16_1).f4) == 1) = false := beq_eq_false_iff_ne.mpr c9
                have c9b1 : (((rd_T74 l0 x16_1).f4) != 1) = true := bne_iff_ne.mpr c9
                have H' := Aside0.mk H
                clear H
                have p276 : 0 ≤ (x16_1 : Int) := of_decide_eq_true (by first | (with_reducible assumption) | assumption)
                have q276 : x16_1 < (l0.length : Int) := of_decide_eq_true (by first | (with_reducible assumption) | assumption)
                obtain ⟨ad276, e276, hx276_0, hx276_1, hx276_2, hx276_3, hx276_4⟩ := at_T74 HR0.out x16_1 p276 q276
                cases e276
                replace hx276_0 := (HB.out.cell (World.block_lt_of_cell? w _ hx276_0)).trans hx276_0
                replace hx276_1 := (HB.out.cell (World.block_lt_of_cell? w _ hx276_1)).trans hx276_1
                replace hx276_2 := (HB.out.cell (World.block_lt_of_cell? w _ hx276_2)).trans hx276_2
                replace hx276_3 := (HB.out.cell (World.block_lt_of_cell? w _ hx276_3)).trans hx276_3
                replace hx276_4 := (HB.out.cell (World.block_lt_of_cell? w _ hx276_4)).trans hx276_4
                replace p276 := eq_true p276
                replace q276 := eq_true q276
                go_wp2_with (first | ((with_reducible refine gate_dst (N := 8) rfl ?_); refine box_event ?hg (N := 8) ?hd (cs := #[.int .u64 0, .int .u64 0, .int .u64 0, .int .u64 0, .int .i64 0]) (t := 74) ?hr ?_; (case hd => rfl); (case hg => rfl); (case hr => first | (go_simp; done) | (go_simp; rfl)); intro gb277 hg w21 hbox hb; have n0_ := Aside0.mk (Kd.R_below (Kd.RN HO_6) hb); have n1_ := Aside0.mk (below_step (belN HB) hb); have n2_ := Aside0.mk (hbox); have n3_ := Aside0.mk ((by rw [hg]; exact (below_size (belN HB)) : w.heap.size ≤ gb277)); have n4_ := Aside0.mk ((by rw [hg]; exact (below_size (belN HB)) : w.heap.size ≤ gb277)); clear HO_6; clear HB; have HO_6 := n0_; have HB := n1_; have BK277 := n2_; have GW277 := n3_; have GE277 := n4_; clear n0_ n1_ n2_ n3_ n4_; clear hb hbox hg; obtain ⟨hcz22_0, hcz22_1, hcz22_2, hcz22_3, hcz22_4, hfz22_0, hfz22_1, hfz22_2, hfz22_3, hfz22_4⟩ := cz5_ (w := w21) BK277.out) | ((with_reducible refine gate_store (t := 74) (p := 8) rfl ?_); refine store_event (t := 74) (p := 8) (v := ?vo_w23) (w1 := (((((w21.setCell ⟨gb277, 0, none⟩ (.int .u64 ((rd_T74 l0 x16_1).f0))).setCell ⟨gb277, 1, none⟩ (.int .u64 ((rd_T74 l0 x16_1).f1))).setCell ⟨gb277, 2, none⟩ (.int .u64 ((rd_T74 l0 x16_1).f2))).setCell ⟨gb277, 3, none⟩ (.int .u64 ((rd_T74 l0 x16_1).f3))).setCell ⟨gb277, 4, none⟩ (.int .i64 ((rd_T74 l0 x16_1).f4)))) ?hg ?ho ?hn ?hr ?_; (case ho => rfl); (case hg => rfl); (case hn => rfl); (case hr => first | (go_simp; done) | (go_simp; rfl)); intro w23 hw; have n0_ : Aside0 (Kd.R (Kd.int .u64) 22 w23 w.heap.size (fun _ => True) u6 x6_1) := ⟨(by rw [hw]; exact (by (with_reducible repeat (first | apply Kd.R_alloc | apply Kd.R_drewN | apply Kd.R_drew)); exact Kd.R_mono (Kd.R_far (p := ⟨gb277, 4, none⟩) (Kd.R_far (p := ⟨gb277, 3, none⟩) (Kd.R_far (p := ⟨gb277, 2, none⟩) (Kd.R_far (p := ⟨gb277, 1, none⟩) (Kd.R_far (p := ⟨gb277, 0, none⟩) (Kd.R_types HO_6.out BK277.out (by decide)) (fun _ hk => hk.2) (.int .u64 ((rd_T74 l0 x16_1).f0))) (fun _ hk => hk.2) (.int .u64 ((rd_T74 l0 x16_1).f1))) (fun _ hk => hk.2) (.int .u64 ((rd_T74 l0 x16_1).f2))) (fun _ hk => hk.2) (.int .u64 ((rd_T74 l0 x16_1).f3))) (fun _ hk => hk.2) (.int .i64 ((rd_T74 l0 x16_1).f4))) (fun _ hk => trivial)))⟩; have n1_ : Aside0 (w23.heap[gb277]? = some (.cells #[.int .u64 ((rd_T74 l0 x16_1).f0), .int .u64 ((rd_T74 l0 x16_1).f1), .int .u64 ((rd_T74 l0 x16_1).f2), .int .u64 ((rd_T74 l0 x16_1).f3), .int .i64 ((rd_T74 l0 x16_1).f4)] 74 (0, 0))) := ⟨(by rw [hw]; exact (by (with_reducible repeat (first | refine blk_drewN ?_ _ | refine blk_drew ?_ | refine blk_alloc ?_ _)); refine blk_put (cs := #[.int .u64 ((rd_T74 l0 x16_1).f0), .int .u64 ((rd_T74 l0 x16_1).f1), .int .u64 ((rd_T74 l0 x16_1).f2), .int .u64 ((rd_T74 l0 x16_1).f3), .int .i64 0]) ?_ 4 _ rfl; refine blk_put (cs := #[.int .u64 ((rd_T74 l0 x16_1).f0), .int .u64 ((rd_T74 l0 x16_1).f1), .int .u64 ((rd_T74 l0 x16_1).f2), .int .u64 0, .int .i64 0]) ?_ 3 _ rfl; refine blk_put (cs := #[.int .u64 ((rd_T74 l0 x16_1).f0), .int .u64 ((rd_T74 l0 x16_1).f1), .int .u64 0, .int .u64 0, .int .i64 0]) ?_ 2 _ rfl; refine blk_put (cs := #[.int .u64 ((rd_T74 l0 x16_1).f0), .int .u64 0, .int .u64 0, .int .u64 0, .int .i64 0]) ?_ 1 _ rfl; refine blk_put (cs := #[.int .u64 0, .int .u64 0, .int .u64 0, .int .u64 0, .int .i64 0]) ?_ 0 _ rfl; (with_reducible repeat (first | refine blk_drewN ?_ _ | refine blk_drew ?_ | refine blk_alloc ?_ _)); exact BK277.out))⟩; have n2_ : Aside0 (Below w.heap.size w w23) := ⟨(by rw [hw]; exact (belN HB))⟩; clear hw; clear HO_6; clear BK277; clear HB; have HO_6 := n0_; have BK277 := n1_; have HB := n2_; clear n0_ n1_ n2_; obtain ⟨hcz24_0, hcz24_1, hcz24_2, hcz24_3, hcz24_4, hfz24_0, hfz24_1, hfz24_2, hfz24_3, hfz24_4⟩ := cz5_ (w := w23) BK277.out))
                go_roundg k1
                case measure => have := HK1.out; omega
                case rel => exact ⟨(x6_1), (wrap64 (x16_1 + 1)), (by first | rfl | (simp; done) | (simp [*]; done)), H', ⟨by have := HK1.out; omega⟩, ⟨by (with_reducible repeat (first | apply Kd.R_alloc | apply Kd.R_drewN | apply Kd.R_drew)); exact HO_6.out⟩, ⟨by repeat (first | (with_reducible first | exact HB.out | apply below_alloc | apply pw_below_drewN | apply below_drew1 | refine below_set ?_ GE277.out) | exact HB.out)⟩⟩
            · rw [if_neg c8] at H
              exact absurd H (by simp)
          · rw [if_neg c7] at H
            exact absurd H (by simp)
        · rw [if_neg c6] at H
          have c6b0 : decide (x16_1 < (l0.length : Int)) = false := decide_eq_false c6
          clear c6
          replace H := Option.bind_eq_some_iff.mp H
          obtain ⟨⟨t281, t282⟩, A250, H⟩ := H
          replace H : (if t282 = 0 then (some (t281, 0)) else (some (0, 1))) = some (r1, r2) := H
          have A25 := Aside0.mk A250
          clear A250
          by_cases c26 : t282 = 0
          · rw [if_pos c26] at H
            have c26b0 : (t282 == 0) = true := beq_iff_eq.mpr c26
            have c26b1 : (t282 != 0) = false := bne_eq_false_iff_eq.mpr c26
            clear c26
            simp only [Option.some.injEq, Prod.mk.injEq] at H
            obtain ⟨rfl, rfl⟩ := H
            obtain ⟨Ao27, co27, eo27⟩ := Kd.R_slice HO_6.out
            subst eo27
            go_wp2_with (first | ((with_reducible refine gate_callee (f := 94) rfl ?_); refine goesL_ (some 37) rfl rfl Try.func94 (by kernel_rfl) rfl #[.slice Ao27 x6_1.length co27] rfl (by (try simp only [List.map_toArray, List.map_cons, List.map_nil]); first | done | rfl | (simp only [List.length_drop, List.length_take]; rfl)) ?_; (with_reducible refine (damsonref04_Add.calls k1 _ _ x6_1 t281 t282 _ ?side1 ?side2 A25.out).mono ?_); (case side1 => exact Kd.CN (Kd.R_reads' HO_6.out).2.2); (case side2 => exact (Kd.R_reads' HO_6.out).2.1); rintro e w' ⟨rfl, ⟨nd, rfl⟩⟩; refine ⟨_, rfl, ?_⟩))
            go_ret2
            exact ⟨by first | rfl | (simp [errW_none, errW_some] <;> rfl) | (simp [*, errW_none, errW_some] <;> rfl), by repeat (first | (with_reducible first | exact HB.out | apply below_alloc | apply pw_below_drewN | apply below_drew1) | exact HB.out)⟩
          · rw [if_neg c26] at H
            have c26b0 : (t282 == 0) = false := beq_eq_false_iff_ne.mpr c26
            have c26b1 : (t282 != 0) = true := bne_iff_ne.mpr c26
            simp only [Option.some.injEq, Prod.mk.injEq] at H
            obtain ⟨rfl, rfl⟩ := H
            obtain ⟨Ao28, co28, eo28⟩ := Kd.R_slice HO_6.out
            subst eo28
            go_wp2_with (first | ((with_reducible refine gate_callee (f := 94) rfl ?_); refine goesL_ (some 37) rfl rfl Try.func94 (by kernel_rfl) rfl #[.slice Ao28 x6_1.length co28] rfl (by (try simp only [List.map_toArray, List.map_cons, List.map_nil]); first | done | rfl | (simp only [List.length_drop, List.length_take]; rfl)) ?_; (with_reducible refine (damsonref04_Add.calls k1 _ _ x6_1 t281 t282 _ ?side1 ?side2 A25.out).mono ?_); (case side1 => exact Kd.CN (Kd.R_reads' HO_6.out).2.2); (case side2 => exact (Kd.R_reads' HO_6.out).2.1); rintro e w' ⟨rfl, ⟨nd, rfl⟩⟩; refine ⟨_, rfl, ?_⟩))
            go_ret2
            exact ⟨by first | rfl | (simp [errW_none, errW_some] <;> rfl) | (simp [*, errW_none, errW_some] <;> rfl), by repeat (first | (with_reducible first | exact HB.out | apply below_alloc | apply pw_below_drewN | apply below_drew1) | exact HB.out)⟩
  · rw [if_neg c4] at H
    have c4b0 : (t275 == 0) = false := beq_eq_false_iff_ne.mpr c4
    have c4b1 : (t275 != 0) = true := bne_iff_ne.mpr c4
    simp only [Option.some.injEq, Prod.mk.injEq] at H
    obtain ⟨rfl, rfl⟩ := H
    go_enter Try.func79, Try.ntmps79
    go_wp2_with (first | ((with_reducible refine gate_callee (f := 81) rfl ?_); refine goesL_ (some 12) rfl rfl Try.func81 (by kernel_rfl) rfl #[.slice A0 l0.length c0] rfl (by (try simp only [List.map_toArray, List.map_cons, List.map_nil]); first | done | rfl | (simp only [List.length_drop, List.length_take]; rfl)) ?_; (with_reducible refine (damsonref13_Check.calls k _ _ l0 t275 _ ?side1 ?side2 A3.out).mono ?_); (case side1 => repeat (first | exact HR0.out | (with_reducible refine Kd.C_alloc ?_ _) | (with_reducible refine Kd.C_drewN ?_ _) | (with_reducible refine Kd.C_drew ?_))); (case side2 => exact HC0.out); rintro e w29 ⟨rfl, hb⟩; refine ⟨_, rfl, ?_⟩; have n0_ := Aside0.mk (below_step (belN HB) hb); clear HB; have HB := n0_; clear n0_; (try clear hb); (try clear hb2); (try clear hk); (try clear hi)))
    go_ret2
    exact ⟨by first | rfl | (simp [errW_none, errW_some] <;> rfl) | (simp [*, errW_none, errW_some] <;> rfl), by repeat (first | (with_reducible first | exact HB.out | apply below_alloc | apply pw_below_drewN | apply below_drew1) | exact HB.out)⟩

/-! ### damsonref13_Same: function 80 -/
def damsonref13_Same.l0 : Nat → List (S74) → List (S74) → Int → Int → Option (Bool)
  | 0, _, _, _, _ => none
  | k + 1, x0, x1, x12, x13 => if x13 < x12 then (if 0 ≤ x13 then (if x13 < (x0.length : Int) then (if x13 < (x1.length : Int) then (if (!(((rd_T74 x0 x13).f0) == ((rd_T74 x1 x13).f0)) || (!(((rd_T74 x0 x13).f1) == ((rd_T74 x1 x13).f1)) || (!(((rd_T74 x0 x13).f2) == ((rd_T74 x1 x13).f2)) || (!(((rd_T74 x0 x13).f3) == ((rd_T74 x1 x13).f3)) || (!(((rd_T74 x0 x13).f4) == ((rd_T74 x1 x13).f4))))))) = true then (some false) else (damsonref13_Same.l0 k x0 x1 x12 (wrap64 (x13 + 1)))) else (none)) else (none)) else (none)) else (some true)
def damsonref13_Same.f (k : Nat) (l0 : List (S74)) (l1 : List (S74)) : Option (Bool) := if (l0.length : Int) = (l1.length : Int) then (damsonref13_Same.l0 k l0 l1 (l0.length : Int) 0) else (some false)
theorem damsonref13_Same.mono_l : ∀ k, (∀ y0 y1 y2 y3, LeO (damsonref13_Same.l0 k y0 y1 y2 y3) (damsonref13_Same.l0 (k + 1) y0 y1 y2 y3))
  | 0 => fun _ _ _ _ r h => by simp [damsonref13_Same.l0] at h
  | k + 1 => by
    have ih0 := damsonref13_Same.mono_l k
    · intro y0 y1 y2 y3
      unfold damsonref13_Same.l0
      repeat' first
      | (with_reducible exact ih0 _ _ _ _)
      | (with_reducible exact LeO.refl _)
      | (with_reducible exact LeO.none _)
      | (with_reducible refine LeO.ite ?_ ?_)
      | (with_reducible refine LeO.bind ?_ (fun _ => ?_))
      | exact ih0 _ _ _ _
      | exact LeO.none _
      | refine LeO.ite ?_ ?_
      | refine LeO.bind ?_ (fun _ => ?_)
theorem damsonref13_Same.mono : ∀ a0 a1 k, LeO (damsonref13_Same.f k a0 a1) (damsonref13_Same.f (k + 1) a0 a1) := by
  intro a0 a1 k
  have ih0 := damsonref13_Same.mono_l k
  unfold damsonref13_Same.f
  repeat' first
      | (with_reducible exact ih0 _ _ _ _)
      | (with_reducible exact LeO.refl _)
      | (with_reducible exact LeO.none _)
      | (with_reducible refine LeO.ite ?_ ?_)
      | (with_reducible refine LeO.bind ?_ (fun _ => ?_))
      | exact ih0 _ _ _ _
      | exact LeO.none _
      | refine LeO.ite ?_ ?_
      | refine LeO.bind ?_ (fun _ => ?_)
set_option maxHeartbeats 8000000 in
set_option maxRecDepth 100000 in
theorem damsonref13_Same.calls (k : Nat) (A0 : Option Addr) (c0 : Nat) (l0 : List (S74)) (A1 : Option Addr) (c1 : Nat) (l1 : List (S74)) (r : Bool) (w : World) (hr0 : Kd.C k74 w A0 l0.length l0) (hc0 : l0.length ≤ c0) (hr1 : Kd.C k74 w A1 l1.length l1) (hc1 : l1.length ≤ c1) (h : damsonref13_Same.f k l0 l1 = some r) :
    Calls Try.prog 80 #[.slice A0 l0.length c0, .slice A1 l1.length c1] w fun e w' => e = .returned (.bool r) ∧ Drawn0 w w' := by
  have hu74 := Try.underlying74
  have HR0 := Aside0.mk hr0
  have HC0 := Aside0.mk hc0
  clear hr0 hc0
  have HR1 := Aside0.mk hr1
  have HC1 := Aside0.mk hc1
  clear hr1 hc1
  have H : (if (l0.length : Int) = (l1.length : Int) then (damsonref13_Same.l0 k l0 l1 (l0.length : Int) 0) else (some false)) = some r := h
  clear h
  by_cases c3 : (l0.length : Int) = (l1.length : Int)
  · rw [if_pos c3] at H
    have c3b0 : ((l0.length : Int) == (l1.length : Int)) = true := beq_iff_eq.mpr c3
    have c3b1 : ((l0.length : Int) != (l1.length : Int)) = false := bne_eq_false_iff_eq.mpr c3
    have c3b2 : (l0.length == l1.length) = true := by first | simpa using c3 | (simp at c3 ⊢; omega)
    clear c3
    have H' := Aside0.mk H
    clear H
    go_enter Try.func80, Try.ntmps80
    go_wp2
    repeat (go_quiet (fail); try go_wp2)
    go_loopg [13] k (fun kq v13 w' => ∃ (x13_1 : Int), v13 = .int .i64 x13_1 ∧ Aside0 (damsonref13_Same.l0 kq l0 l1 (l0.length : Int) x13_1 = some r) ∧ Aside0 (kq ≤ k) ∧ Drawn0 w w')
    case atStart => exact ⟨(0), (by first | rfl | (simp; done) | (simp [*]; done)), H', ⟨Nat.le_refl _⟩, by repeat (first | exact Drawn0.refl _ | apply Drawn0.step)⟩
    case round =>
      clear H'
      try clear c1
      try clear p2
      try clear c3
      try clear c3b0
      try clear c3b1
      try clear c3b2
      obtain ⟨x13_1, rfl, HA, HK1, ⟨m1, rfl⟩⟩ := hrel
      cases gk with
      | zero => exact absurd HA.out (by simp [damsonref13_Same.l0])
      | succ k1 =>
        have H := HA.out
        clear HA
        simp only [damsonref13_Same.l0] at H
        by_cases c4 : x13_1 < (l0.length : Int)
        · rw [if_pos c4] at H
          have c4b0 : decide (x13_1 < (l0.length : Int)) = true := decide_eq_true c4
          clear c4
          by_cases c5 : 0 ≤ x13_1
          · rw [if_pos c5] at H
            have c5b0 : decide (0 ≤ x13_1) = true := decide_eq_true c5
            clear c5
            by_cases c6 : x13_1 < (l0.length : Int)
            · rw [if_pos c6] at H
              have c6b0 : decide (x13_1 < (l0.length : Int)) = true := decide_eq_true c6
              clear c6
              by_cases c7 : x13_1 < (l1.length : Int)
              · rw [if_pos c7] at H
                have c7b0 : decide (x13_1 < (l1.length : Int)) = true := decide_eq_true c7
                clear c7
                by_cases c8 : (!(((rd_T74 l0 x13_1).f0) == ((rd_T74 l1 x13_1).f0)) || (!(((rd_T74 l0 x13_1).f1) == ((rd_T74 l1 x13_1).f1)) || (!(((rd_T74 l0 x13_1).f2) == ((rd_T74 l1 x13_1).f2)) || (!(((rd_T74 l0 x13_1).f3) == ((rd_T74 l1 x13_1).f3)) || (!(((rd_T74 l0 x13_1).f4) == ((rd_T74 l1 x13_1).f4))))))) = true
                · rw [if_pos c8] at H
                  have c8b0 : (!(((rd_T74 l0 x13_1).f0) == ((rd_T74 l1 x13_1).f0)) || (!(((rd_T74 l0 x13_1).f1) == ((rd_T74 l1 x13_1).f1)) || (!(((rd_T74 l0 x13_1).f2) == ((rd_T74 l1 x13_1).f2)) || (!(((rd_T74 l0 x13_1).f3) == ((rd_T74 l1 x13_1).f3)) || (!(((rd_T74 l0 x13_1).f4) == ((rd_T74 l1 x13_1).f4))))))) = true := c8
                  clear c8
                  obtain rfl := Option.some.inj H
                  have p283 : 0 ≤ (x13_1 : Int) := of_decide_eq_true (by first | (with_reducible assumption) | assumption)
                  have q283 : x13_1 < (l0.length : Int) := of_decide_eq_true (by first | (with_reducible assumption) | assumption)
                  obtain ⟨ad283, e283, hx283_0, hx283_1, hx283_2, hx283_3, hx283_4⟩ := at_T74 HR0.out x13_1 p283 q283
                  cases e283
                  replace p283 := eq_true p283
                  replace q283 := eq_true q283
                  have p284 : 0 ≤ (x13_1 : Int) := of_decide_eq_true (by first | (with_reducible assumption) | assumption)
                  have q284 : x13_1 < (l1.length : Int) := of_decide_eq_true (by first | (with_reducible assumption) | assumption)
                  obtain ⟨ad284, e284, hx284_0, hx284_1, hx284_2, hx284_3, hx284_4⟩ := at_T74 HR1.out x13_1 p284 q284
                  cases e284
                  replace p284 := eq_true p284
                  replace q284 := eq_true q284
                  go_wp2
                  repeat (go_quiet (fail); try go_wp2)
                  go_ret
                  exact ⟨by first | rfl | (simp; done) | (simp [*]; done), by repeat (first | exact Drawn0.refl _ | apply Drawn0.step)⟩
                · rw [if_neg c8] at H
                  have c8b0 : (!(((rd_T74 l0 x13_1).f0) == ((rd_T74 l1 x13_1).f0)) || (!(((rd_T74 l0 x13_1).f1) == ((rd_T74 l1 x13_1).f1)) || (!(((rd_T74 l0 x13_1).f2) == ((rd_T74 l1 x13_1).f2)) || (!(((rd_T74 l0 x13_1).f3) == ((rd_T74 l1 x13_1).f3)) || (!(((rd_T74 l0 x13_1).f4) == ((rd_T74 l1 x13_1).f4))))))) = false := by simpa using c8
                  clear c8
                  have H' := Aside0.mk H
                  clear H
                  have p283 : 0 ≤ (x13_1 : Int) := of_decide_eq_true (by first | (with_reducible assumption) | assumption)
                  have q283 : x13_1 < (l0.length : Int) := of_decide_eq_true (by first | (with_reducible assumption) | assumption)
                  obtain ⟨ad283, e283, hx283_0, hx283_1, hx283_2, hx283_3, hx283_4⟩ := at_T74 HR0.out x13_1 p283 q283
                  cases e283
                  replace p283 := eq_true p283
                  replace q283 := eq_true q283
                  have p284 : 0 ≤ (x13_1 : Int) := of_decide_eq_true (by first | (with_reducible assumption) | assumption)
                  have q284 : x13_1 < (l1.length : Int) := of_decide_eq_true (by first | (with_reducible assumption) | assumption)
                  obtain ⟨ad284, e284, hx284_0, hx284_1, hx284_2, hx284_3, hx284_4⟩ := at_T74 HR1.out x13_1 p284 q284
                  cases e284
                  replace p284 := eq_true p284
                  replace q284 := eq_true q284
                  go_wp2
                  repeat (go_quiet (fail); try go_wp2)
                  go_roundg k1
                  case measure => have := HK1.out; omega
                  case rel => exact ⟨(wrap64 (x13_1 + 1)), (by first | rfl | (simp; done) | (simp [*]; done)), H', ⟨by have := HK1.out; omega⟩, by repeat (first | exact Drawn0.refl _ | apply Drawn0.step)⟩
              · rw [if_neg c7] at H
                exact absurd H (by simp)
            · rw [if_neg c6] at H
              exact absurd H (by simp)
          · rw [if_neg c5] at H
            exact absurd H (by simp)
        · rw [if_neg c4] at H
          have c4b0 : decide (x13_1 < (l0.length : Int)) = false := decide_eq_false c4
          clear c4
          obtain rfl := Option.some.inj H
          go_wp2
          repeat (go_quiet (fail); try go_wp2)
          go_ret
          exact ⟨by first | rfl | (simp; done) | (simp [*]; done), by repeat (first | exact Drawn0.refl _ | apply Drawn0.step)⟩
  · rw [if_neg c3] at H
    have c3b0 : ((l0.length : Int) == (l1.length : Int)) = false := beq_eq_false_iff_ne.mpr c3
    have c3b1 : ((l0.length : Int) != (l1.length : Int)) = true := bne_iff_ne.mpr c3
    have c3b2 : (l0.length == l1.length) = false := by first | simpa using c3 | (simp at c3 ⊢; omega)
    obtain rfl := Option.some.inj H
    go_enter Try.func80, Try.ntmps80
    go_wp2
    repeat (go_quiet (fail); try go_wp2)
    go_ret
    exact ⟨by first | rfl | (simp; done) | (simp [*]; done), by repeat (first | exact Drawn0.refl _ | apply Drawn0.step)⟩

end Go.Proofs.Ytcfbcoinbecdfaa.P
