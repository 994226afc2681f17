-- written by a program of this session (wip/print)
import Derived.Test.YtcfbcoinbecdfaaQCdoesx0
import Derived.Test.YtcfbcoinbecdfaaQCdoesx8
import Derived.Test.YtcfbcoinbecdfaaQCdoesx9
namespace Go.Proofs.Ytcfbcoinbecdfaa.P
open Go.RowKit Go.Proofs.YtcfbcoinbecdfaaW.PrintWords Go.Proofs.YtcfbcoinbecdfaaW.PrintLast Go.Proofs.YtcfbcoinbecdfaaW.PrintMore
attribute [local go_sem] max2_int min2_int max_two min_two max_three min_three max_four min_four run_sub64_   -- for this text's walks alone
set_option linter.unusedVariables false
set_option linter.unusedSimpArgs false

/-! ### damsonref09_Held: function 29 -/
def damsonref09_Held.f (k : Nat) (a0_0 : Int) (a0_1 : Int) (a0_2 : Int) (a0_3 : Int) (a0_4 : Int) (l0_5 : List (S44)) (a0_6 : Bool) : Option (Int × Int) := (damsonref09_Check.f k a0_0 a0_1 a0_2 a0_3 a0_4 l0_5 a0_6).bind fun t285 => (if t285 = 0 then ((damsonref09_amounts.f k l0_5).bind fun t286 => ((damsonref04_Add.f k t286).bind fun bt289 => (some (bt289.1, bt289.2)))) else (some (0, 1)))
theorem damsonref09_Held.mono : ∀ a0 a1 a2 a3 a4 a5 a6 k, LeO (damsonref09_Held.f k a0 a1 a2 a3 a4 a5 a6) (damsonref09_Held.f (k + 1) a0 a1 a2 a3 a4 a5 a6) := by
  intro a0 a1 a2 a3 a4 a5 a6 k
  unfold damsonref09_Held.f
  repeat' first
      | (with_reducible exact damsonref04_Add.mono _ _)
      | (with_reducible exact damsonref09_Check.mono _ _ _ _ _ _ _ _)
      | (with_reducible exact damsonref09_amounts.mono _ _)
      | (with_reducible exact LeO.refl _)
      | (with_reducible exact LeO.none _)
      | (with_reducible refine LeO.ite ?_ ?_)
      | (with_reducible refine LeO.bind ?_ (fun _ => ?_))
      | exact damsonref04_Add.mono _ _
      | exact damsonref09_Check.mono _ _ _ _ _ _ _ _
      | exact damsonref09_amounts.mono _ _
      | exact LeO.none _
      | refine LeO.ite ?_ ?_
      | refine LeO.bind ?_ (fun _ => ?_)
set_option maxHeartbeats 8000000 in
set_option maxRecDepth 100000 in
theorem damsonref09_Held.calls (k : Nat) (a0_0 : Int) (a0_1 : Int) (a0_2 : Int) (a0_3 : Int) (a0_4 : Int) (A0_5 : Option Addr) (c0_5 : Nat) (l0_5 : List (S44)) (a0_6 : Bool) (r1 : Int) (r2 : Int) (w : World) (hr0_5 : Kd.C k44 w A0_5 l0_5.length l0_5) (hc0_5 : l0_5.length ≤ c0_5) (h : damsonref09_Held.f k a0_0 a0_1 a0_2 a0_3 a0_4 l0_5 a0_6 = some (r1, r2)) :
    Calls Try.prog 29 #[.agg #[.int .u64 a0_0, .int .u64 a0_1, .int .u64 a0_2, .int .u64 a0_3, .int .u64 a0_4, .slice A0_5 l0_5.length c0_5, .bool a0_6]] w fun e w' => e = .returned (.tuple #[.int .u64 r1, .int .i64 r2]) ∧ Below w.heap.size w w' := by
  have hu25 := Try.underlying25
  have HR0_5 := Aside0.mk hr0_5
  have HC0_5 := Aside0.mk hc0_5
  clear hr0_5 hc0_5
  have HB := Aside0.mk (Below.refl w.heap.size w)
  have H : ((damsonref09_Check.f k a0_0 a0_1 a0_2 a0_3 a0_4 l0_5 a0_6).bind fun t285 => (if t285 = 0 then ((damsonref09_amounts.f k l0_5).bind fun t286 => ((damsonref04_Add.f k t286).bind fun bt289 => (some (bt289.1, bt289.2)))) else (some (0, 1)))) = some (r1, r2) := h
  clear h
  replace H := Option.bind_eq_some_iff.mp H
  obtain ⟨t285, A20, H⟩ := H
  replace H : (if t285 = 0 then ((damsonref09_amounts.f k l0_5).bind fun t286 => ((damsonref04_Add.f k t286).bind fun bt289 => (some (bt289.1, bt289.2)))) else (some (0, 1))) = some (r1, r2) := H
  have A2 := Aside0.mk A20
  clear A20
  by_cases c3 : t285 = 0
  · rw [if_pos c3] at H
    have c3b0 : (t285 == 0) = true := beq_iff_eq.mpr c3
    have c3b1 : (t285 != 0) = false := bne_eq_false_iff_eq.mpr c3
    clear c3
    replace H := Option.bind_eq_some_iff.mp H
    obtain ⟨t286, A40, H⟩ := H
    replace H : ((damsonref04_Add.f k t286).bind fun bt289 => (some (bt289.1, bt289.2))) = some (r1, r2) := H
    have A4 := Aside0.mk A40
    clear A40
    replace H := Option.bind_eq_some_iff.mp H
    obtain ⟨⟨t289, t290⟩, A50, H⟩ := H
    replace H : (some (t289, t290)) = some (r1, r2) := H
    have A5 := Aside0.mk A50
    clear A50
    simp only [Option.some.injEq, Prod.mk.injEq] at H
    obtain ⟨rfl, rfl⟩ := H
    go_enter Try.func29, Try.ntmps29
    go_wp2_with (first | ((with_reducible refine gate_dst (N := 1) rfl ?_); refine box_event ?hg (N := 1) ?hd (cs := #[.int .u64 a0_0, .int .u64 a0_1, .int .u64 a0_2, .int .u64 a0_3, .int .u64 a0_4, .slice A0_5 l0_5.length c0_5, .bool a0_6]) (t := 25) ?hr ?_; (case hd => rfl); (case hg => rfl); (case hr => first | (go_simp; done) | (go_simp; rfl)); intro gb284 hg w6 hbox hb; have n0_ := Aside0.mk (below_step (belN HB) hb); have n1_ := Aside0.mk (hbox); have n2_ := Aside0.mk ((by rw [hg]; exact (below_size (belN HB)) : w.heap.size ≤ gb284)); have n3_ := Aside0.mk ((by rw [hg]; exact (below_size (belN HB)) : w.heap.size ≤ gb284)); clear HB; have HB := n0_; have BK284 := n1_; have GW284 := n2_; have GE284 := n3_; clear n0_ n1_ n2_ n3_; clear hb hbox hg; obtain ⟨hcz7_0, hcz7_1, hcz7_2, hcz7_3, hcz7_4, hcz7_5, hcz7_6, hfz7_0, hfz7_1, hfz7_2, hfz7_3, hfz7_4, hfz7_5, hfz7_6⟩ := cz7_ (w := w6) BK284.out) | ((with_reducible refine gate_callee (f := 34) rfl ?_); refine goesL_ (some 5) rfl rfl Try.func34 (by kernel_rfl) rfl #[.agg #[.int .u64 a0_0, .int .u64 a0_1, .int .u64 a0_2, .int .u64 a0_3, .int .u64 a0_4, .slice A0_5 l0_5.length c0_5, .bool a0_6]] rfl (by (try simp only [List.map_toArray, List.map_cons, List.map_nil]); first | done | rfl | (simp only [List.length_drop, List.length_take]; rfl)) ?_; (with_reducible refine (damsonref09_Check.calls k a0_0 a0_1 a0_2 a0_3 a0_4 _ _ l0_5 a0_6 t285 _ ?side1 ?side2 A2.out).mono ?_); (case side1 => repeat (first | exact (Kd.C_below HR0_5.out HB.out) | (with_reducible refine Kd.C_alloc ?_ _) | (with_reducible refine Kd.C_drewN ?_ _) | (with_reducible refine Kd.C_drew ?_))); (case side2 => exact HC0_5.out); rintro e w8 ⟨rfl, hb⟩; refine ⟨_, rfl, ?_⟩; have n0_ := Aside0.mk (blk_below (g := gb284) (blkN BK284) hb); have n1_ := Aside0.mk (below_step (belN HB) hb); clear BK284; clear HB; have BK284 := n0_; have HB := n1_; clear n0_ n1_; (try clear hb); (try clear hb2); (try clear hk); (try clear hi); obtain ⟨hcz9_0, hcz9_1, hcz9_2, hcz9_3, hcz9_4, hcz9_5, hcz9_6, hfz9_0, hfz9_1, hfz9_2, hfz9_3, hfz9_4, hfz9_5, hfz9_6⟩ := cz7_ (w := w8) BK284.out) | ((with_reducible refine gate_callee (f := 95) rfl ?_); refine goesL_ (some 9) rfl rfl Try.func95 (by kernel_rfl) rfl #[.slice A0_5 l0_5.length c0_5] rfl (by (try simp only [List.map_toArray, List.map_cons, List.map_nil]); first | done | rfl | (simp only [List.length_drop, List.length_take]; rfl)) ?_; (with_reducible refine (damsonref09_amounts.calls k _ _ l0_5 t286 _ ?side1 ?side2 A4.out).mono ?_); (case side1 => repeat (first | exact (Kd.C_below HR0_5.out HB.out) | (with_reducible refine Kd.C_alloc ?_ _) | (with_reducible refine Kd.C_drewN ?_ _) | (with_reducible refine Kd.C_drew ?_))); (case side2 => exact HC0_5.out); rintro e w10 ⟨v287, rfl, ho0, hb⟩; refine ⟨_, rfl, ?_⟩; have n0_ := Aside0.mk (Kd.R_lower ho0 (below_size (belN HB))); have n1_ := Aside0.mk (blk_below (g := gb284) (blkN BK284) hb); have n2_ := Aside0.mk (below_step (belN HB) hb); clear BK284; clear HB; have HO288 := n0_; have BK284 := n1_; have HB := n2_; clear n0_ n1_ n2_; (try clear hb); (try clear hb2); (try clear hk); (try clear hi); (try clear ho0); obtain ⟨Ao11, co11, eo11⟩ := Kd.R_slice HO288.out; subst eo11) | ((with_reducible refine gate_callee (f := 94) rfl ?_); refine goesL_ (some 10) rfl rfl Try.func94 (by kernel_rfl) rfl #[.slice Ao11 t286.length co11] rfl (by (try simp only [List.map_toArray, List.map_cons, List.map_nil]); first | done | rfl | (simp only [List.length_drop, List.length_take]; rfl)) ?_; (with_reducible refine (damsonref04_Add.calls k _ _ t286 t289 t290 _ ?side1 ?side2 A5.out).mono ?_); (case side1 => exact Kd.CN (Kd.R_reads' HO288.out).2.2); (case side2 => exact (Kd.R_reads' HO288.out).2.1); rintro e w' ⟨rfl, ⟨nd, rfl⟩⟩; refine ⟨_, rfl, ?_⟩))
    go_ret2
    exact ⟨by first | rfl | (simp [errW_none, errW_some] <;> rfl) | (simp [*, errW_none, errW_some] <;> rfl), by repeat (first | (with_reducible first | exact HB.out | apply below_alloc | apply pw_below_drewN | apply below_drew1 | refine below_set ?_ GE284.out) | exact HB.out)⟩
  · rw [if_neg c3] at H
    have c3b0 : (t285 == 0) = false := beq_eq_false_iff_ne.mpr c3
    have c3b1 : (t285 != 0) = true := bne_iff_ne.mpr c3
    simp only [Option.some.injEq, Prod.mk.injEq] at H
    obtain ⟨rfl, rfl⟩ := H
    go_enter Try.func29, Try.ntmps29
    go_wp2_with (first | ((with_reducible refine gate_dst (N := 1) rfl ?_); refine box_event ?hg (N := 1) ?hd (cs := #[.int .u64 a0_0, .int .u64 a0_1, .int .u64 a0_2, .int .u64 a0_3, .int .u64 a0_4, .slice A0_5 l0_5.length c0_5, .bool a0_6]) (t := 25) ?hr ?_; (case hd => rfl); (case hg => rfl); (case hr => first | (go_simp; done) | (go_simp; rfl)); intro gb284 hg w12 hbox hb; have n0_ := Aside0.mk (below_step (belN HB) hb); have n1_ := Aside0.mk (hbox); have n2_ := Aside0.mk ((by rw [hg]; exact (below_size (belN HB)) : w.heap.size ≤ gb284)); have n3_ := Aside0.mk ((by rw [hg]; exact (below_size (belN HB)) : w.heap.size ≤ gb284)); clear HB; have HB := n0_; have BK284 := n1_; have GW284 := n2_; have GE284 := n3_; clear n0_ n1_ n2_ n3_; clear hb hbox hg; obtain ⟨hcz13_0, hcz13_1, hcz13_2, hcz13_3, hcz13_4, hcz13_5, hcz13_6, hfz13_0, hfz13_1, hfz13_2, hfz13_3, hfz13_4, hfz13_5, hfz13_6⟩ := cz7_ (w := w12) BK284.out) | ((with_reducible refine gate_callee (f := 34) rfl ?_); refine goesL_ (some 5) rfl rfl Try.func34 (by kernel_rfl) rfl #[.agg #[.int .u64 a0_0, .int .u64 a0_1, .int .u64 a0_2, .int .u64 a0_3, .int .u64 a0_4, .slice A0_5 l0_5.length c0_5, .bool a0_6]] rfl (by (try simp only [List.map_toArray, List.map_cons, List.map_nil]); first | done | rfl | (simp only [List.length_drop, List.length_take]; rfl)) ?_; (with_reducible refine (damsonref09_Check.calls k a0_0 a0_1 a0_2 a0_3 a0_4 _ _ l0_5 a0_6 t285 _ ?side1 ?side2 A2.out).mono ?_); (case side1 => repeat (first | exact (Kd.C_below HR0_5.out HB.out) | (with_reducible refine Kd.C_alloc ?_ _) | (with_reducible refine Kd.C_drewN ?_ _) | (with_reducible refine Kd.C_drew ?_))); (case side2 => exact HC0_5.out); rintro e w14 ⟨rfl, hb⟩; refine ⟨_, rfl, ?_⟩; have n0_ := Aside0.mk (blk_below (g := gb284) (blkN BK284) hb); have n1_ := Aside0.mk (below_step (belN HB) hb); clear BK284; clear HB; have BK284 := n0_; have HB := n1_; clear n0_ n1_; (try clear hb); (try clear hb2); (try clear hk); (try clear hi)))
    go_ret2
    exact ⟨by first | rfl | (simp [errW_none, errW_some] <;> rfl) | (simp [*, errW_none, errW_some] <;> rfl), by repeat (first | (with_reducible first | exact HB.out | apply below_alloc | apply pw_below_drewN | apply below_drew1 | refine below_set ?_ GE284.out) | exact HB.out)⟩

/-! ### damsonref09_find: function 97 -/
def damsonref09_find.l0 : Nat → Int → List (S44) → Int → Int → Option (Int × Int × Bool)
  | 0, _, _, _, _ => none
  | k + 1, x1, x8, x9, x10 => if x10 < x9 then (if 0 ≤ x10 then (if x10 < (x8.length : Int) then (if ((rd_T44 x8 x10).f0) = x1 then (some ((rd_T44 x8 x10).f0, (rd_T44 x8 x10).f1, true)) else (damsonref09_find.l0 k x1 x8 x9 (wrap64 (x10 + 1)))) else (none)) else (none)) else (some (0, 0, false))
def damsonref09_find.f (k : Nat) (l0 : List (S44)) (a1 : Int) : Option (Int × Int × Bool) := damsonref09_find.l0 k a1 l0 (l0.length : Int) 0
theorem damsonref09_find.mono_l : ∀ k, (∀ y0 y1 y2 y3, LeO (damsonref09_find.l0 k y0 y1 y2 y3) (damsonref09_find.l0 (k + 1) y0 y1 y2 y3))
  | 0 => fun _ _ _ _ r h => by simp [damsonref09_find.l0] at h
  | k + 1 => by
    have ih0 := damsonref09_find.mono_l k
    · intro y0 y1 y2 y3
      unfold damsonref09_find.l0
      repeat' first
      | (with_reducible exact ih0 _ _ _ _)
      | (with_reducible exact LeO.refl _)
      | (with_reducible exact LeO.none _)
      | (with_reducible refine LeO.ite ?_ ?_)
      | (with_reducible refine LeO.bind ?_ (fun _ => ?_))
      | exact ih0 _ _ _ _
      | exact LeO.none _
      | refine LeO.ite ?_ ?_
      | refine LeO.bind ?_ (fun _ => ?_)
theorem damsonref09_find.mono : ∀ a0 a1 k, LeO (damsonref09_find.f k a0 a1) (damsonref09_find.f (k + 1) a0 a1) := by
  intro a0 a1 k
  have ih0 := damsonref09_find.mono_l k
  unfold damsonref09_find.f
  repeat' first
      | (with_reducible exact ih0 _ _ _ _)
      | (with_reducible exact LeO.refl _)
      | (with_reducible exact LeO.none _)
      | (with_reducible refine LeO.ite ?_ ?_)
      | (with_reducible refine LeO.bind ?_ (fun _ => ?_))
      | exact ih0 _ _ _ _
      | exact LeO.none _
      | refine LeO.ite ?_ ?_
      | refine LeO.bind ?_ (fun _ => ?_)
set_option maxHeartbeats 8000000 in
set_option maxRecDepth 100000 in
theorem damsonref09_find.calls (k : Nat) (A0 : Option Addr) (c0 : Nat) (l0 : List (S44)) (a1 : Int) (r1 : Int) (r2 : Int) (r3 : Bool) (w : World) (hr0 : Kd.C k44 w A0 l0.length l0) (hc0 : l0.length ≤ c0) (h : damsonref09_find.f k l0 a1 = some (r1, r2, r3)) :
    Calls Try.prog 97 #[.slice A0 l0.length c0, .int .u64 a1] w fun e w' => e = .returned (.tuple #[.agg #[.int .u64 r1, .int .u64 r2], .bool r3]) ∧ Below w.heap.size w w' := by
  have hu44 := Try.underlying44
  have HR0 := Aside0.mk hr0
  have HC0 := Aside0.mk hc0
  clear hr0 hc0
  have HB := Aside0.mk (Below.refl w.heap.size w)
  have H : (damsonref09_find.l0 k a1 l0 (l0.length : Int) 0) = some (r1, r2, r3) := h
  clear h
  have H' := Aside0.mk H
  clear H
  go_enter Try.func97, Try.ntmps97
  go_wp2_with (first | ((with_reducible refine gate_dst (N := 4) rfl ?_); refine box_event ?hg (N := 4) ?hd (cs := #[.int .u64 0, .int .u64 0]) (t := 44) ?hr ?_; (case hd => rfl); (case hg => rfl); (case hr => first | (go_simp; done) | (go_simp; rfl)); intro gb291 hg w3 hbox hb; have n0_ := Aside0.mk (below_step (belN HB) hb); have n1_ := Aside0.mk (hbox); have n2_ := Aside0.mk ((by rw [hg]; exact (below_size (belN HB)) : w.heap.size ≤ gb291)); have n3_ := Aside0.mk ((by rw [hg]; exact (below_size (belN HB)) : w.heap.size ≤ gb291)); clear HB; have HB := n0_; have BK291 := n1_; have GW291 := n2_; have GE291 := n3_; clear n0_ n1_ n2_ n3_; clear hb hbox hg))
  go_loopg [10] k (fun kq v10 w' => ∃ (x10_1 : Int) (x292000_1 : Int) (x292001_1 : Int), v10 = .int .i64 x10_1 ∧ Aside0 (damsonref09_find.l0 kq a1 l0 (l0.length : Int) x10_1 = some (r1, r2, r3)) ∧ Aside0 (kq ≤ k) ∧ Aside0 (w'.heap[gb291]? = some (.cells #[.int .u64 x292000_1, .int .u64 x292001_1] 44 (0, 0))) ∧ Aside0 (Below w.heap.size w w'))
  case atStart => exact ⟨(0), (0), (0), (by first | rfl | (simp; done) | (simp [*]; done)), H', ⟨Nat.le_refl _⟩, ⟨by (with_reducible repeat (first | refine blk_drewN ?_ _ | refine blk_drew ?_ | refine blk_alloc ?_ _)); exact BK291.out⟩, ⟨by repeat (first | (with_reducible first | exact HB.out | apply below_alloc | apply pw_below_drewN | apply below_drew1 | refine below_set ?_ GE291.out) | exact HB.out)⟩⟩
  case round =>
    clear H'
    try clear p2
    obtain ⟨x10_1, x292000_1, x292001_1, rfl, HA, HK1, BK291, HB⟩ := hrel
    cases gk with
    | zero => exact absurd HA.out (by simp [damsonref09_find.l0])
    | succ k1 =>
      have H := HA.out
      clear HA
      simp only [damsonref09_find.l0] at H
      by_cases c4 : x10_1 < (l0.length : Int)
      · rw [if_pos c4] at H
        have c4b0 : decide (x10_1 < (l0.length : Int)) = true := decide_eq_true c4
        clear c4
        by_cases c5 : 0 ≤ x10_1
        · rw [if_pos c5] at H
          have c5b0 : decide (0 ≤ x10_1) = true := decide_eq_true c5
          clear c5
          by_cases c6 : x10_1 < (l0.length : Int)
          · rw [if_pos c6] at H
            have c6b0 : decide (x10_1 < (l0.length : Int)) = true := decide_eq_true c6
            clear c6
            by_cases c7 : ((rd_T44 l0 x10_1).f0) = a1
            · rw [if_pos c7] at H
              have c7b0 : (((rd_T44 l0 x10_1).f0) == a1) = true := beq_iff_eq.mpr c7
              have c7b1 : (((rd_T44 l0 x10_1).f0) != a1) = false := bne_eq_false_iff_eq.mpr c7
              clear c7
              simp only [Option.some.injEq, Prod.mk.injEq] at H
              obtain ⟨rfl, rfl, rfl⟩ := H
              have p292 : 0 ≤ (x10_1 : Int) := of_decide_eq_true (by first | (with_reducible assumption) | assumption)
              have q292 : x10_1 < (l0.length : Int) := of_decide_eq_true (by first | (with_reducible assumption) | assumption)
              obtain ⟨ad292, e292, hx292_0, hx292_1⟩ := at_T44 HR0.out x10_1 p292 q292
              cases e292
              replace hx292_0 := (HB.out.cell (World.block_lt_of_cell? w _ hx292_0)).trans hx292_0
              replace hx292_1 := (HB.out.cell (World.block_lt_of_cell? w _ hx292_1)).trans hx292_1
              replace p292 := eq_true p292
              replace q292 := eq_true q292
              go_wp2_with (first | ((with_reducible refine gate_dst (N := 7) rfl ?_); refine box_event ?hg (N := 7) ?hd (cs := #[.int .u64 0, .int .u64 0]) (t := 44) ?hr ?_; (case hd => rfl); (case hg => rfl); (case hr => first | (go_simp; done) | (go_simp; rfl)); intro gb293 hg w8 hbox hb; have n0_ := Aside0.mk (blk_below (g := gb291) (blkN BK291) hb); have n1_ := Aside0.mk (below_step (belN HB) hb); have n2_ := Aside0.mk (hbox); have n3_ := Aside0.mk ((by rw [hg]; exact (below_size (belN HB)) : w.heap.size ≤ gb293)); have n4_ := Aside0.mk ((by rw [hg]; exact (below_size (belN HB)) : w.heap.size ≤ gb293)); have n5_ := Aside0.mk ((by rw [hg]; exact Nat.ne_of_lt (blk_lt (g := gb291) (blkN BK291)) : gb291 ≠ gb293)); have n6_ := Aside0.mk ((by rw [hg]; exact Nat.ne_of_gt (blk_lt (g := gb291) (blkN BK291)) : gb293 ≠ gb291)); clear BK291; clear HB; have BK291 := n0_; have HB := n1_; have BK293 := n2_; have GW293 := n3_; have GE293 := n4_; have NB291_293 := n5_; have NB293_291 := n6_; clear n0_ n1_ n2_ n3_ n4_ n5_ n6_; clear hb hbox hg; have hnb9 := NB293_291.out; have hnc9 := NB291_293.out; obtain ⟨hcz10_0, hcz10_1, hfz10_0, hfz10_1⟩ := cz2_ (w := w8) BK293.out; obtain ⟨hcz11_0, hcz11_1, hfz11_0, hfz11_1⟩ := cz2_ (w := w8) BK291.out))
              refine bodyPost_ret (results_ct rfl _ _ gb291 44 #[.int .u64 ((rd_T44 l0 x10_1).f0), .int .u64 ((rd_T44 l0 x10_1).f1)] (0, 0) _ rfl (by (with_reducible repeat (first | refine blk_drewN ?_ _ | refine blk_drew ?_ | refine blk_alloc ?_ _)); refine blk_put (cs := #[.int .u64 ((rd_T44 l0 x10_1).f0), .int .u64 x292001_1]) ?_ 1 _ rfl; refine blk_put (cs := #[.int .u64 x292000_1, .int .u64 x292001_1]) ?_ 0 _ rfl; (with_reducible repeat (first | refine blk_drewN ?_ _ | refine blk_drew ?_ | refine blk_alloc ?_ _)); refine blk_far ?_ NB291_293.out _; (with_reducible repeat (first | refine blk_drewN ?_ _ | refine blk_drew ?_ | refine blk_alloc ?_ _)); refine blk_far ?_ NB291_293.out _; (with_reducible repeat (first | refine blk_drewN ?_ _ | refine blk_drew ?_ | refine blk_alloc ?_ _)); exact BK291.out) Try.underlying44 rfl (by kernel_rfl)) rfl ?_
              exact ⟨by first | rfl | (simp [errW_none, errW_some] <;> rfl) | (simp [*, errW_none, errW_some] <;> rfl), by repeat (first | (with_reducible first | exact HB.out | apply below_alloc | apply pw_below_drewN | apply below_drew1 | refine below_set ?_ GE291.out | refine below_set ?_ GE293.out) | exact HB.out)⟩
            · rw [if_neg c7] at H
              have c7b0 : (((rd_T44 l0 x10_1).f0) == a1) = false := beq_eq_false_iff_ne.mpr c7
              have c7b1 : (((rd_T44 l0 x10_1).f0) != a1) = true := bne_iff_ne.mpr c7
              have H' := Aside0.mk H
              clear H
              have p292 : 0 ≤ (x10_1 : Int) := of_decide_eq_true (by first | (with_reducible assumption) | assumption)
              have q292 : x10_1 < (l0.length : Int) := of_decide_eq_true (by first | (with_reducible assumption) | assumption)
              obtain ⟨ad292, e292, hx292_0, hx292_1⟩ := at_T44 HR0.out x10_1 p292 q292
              cases e292
              replace hx292_0 := (HB.out.cell (World.block_lt_of_cell? w _ hx292_0)).trans hx292_0
              replace hx292_1 := (HB.out.cell (World.block_lt_of_cell? w _ hx292_1)).trans hx292_1
              replace p292 := eq_true p292
              replace q292 := eq_true q292
              go_wp2_with (first | ((with_reducible refine gate_dst (N := 7) rfl ?_); refine box_event ?hg (N := 7) ?hd (cs := #[.int .u64 0, .int .u64 0]) (t := 44) ?hr ?_; (case hd => rfl); (case hg => rfl); (case hr => first | (go_simp; done) | (go_simp; rfl)); intro gb293 hg w12 hbox hb; have n0_ := Aside0.mk (blk_below (g := gb291) (blkN BK291) hb); have n1_ := Aside0.mk (below_step (belN HB) hb); have n2_ := Aside0.mk (hbox); have n3_ := Aside0.mk ((by rw [hg]; exact (below_size (belN HB)) : w.heap.size ≤ gb293)); have n4_ := Aside0.mk ((by rw [hg]; exact (below_size (belN HB)) : w.heap.size ≤ gb293)); have n5_ := Aside0.mk ((by rw [hg]; exact Nat.ne_of_lt (blk_lt (g := gb291) (blkN BK291)) : gb291 ≠ gb293)); have n6_ := Aside0.mk ((by rw [hg]; exact Nat.ne_of_gt (blk_lt (g := gb291) (blkN BK291)) : gb293 ≠ gb291)); clear BK291; clear HB; have BK291 := n0_; have HB := n1_; have BK293 := n2_; have GW293 := n3_; have GE293 := n4_; have NB291_293 := n5_; have NB293_291 := n6_; clear n0_ n1_ n2_ n3_ n4_ n5_ n6_; clear hb hbox hg; have hnb13 := NB293_291.out; have hnc13 := NB291_293.out; obtain ⟨hcz14_0, hcz14_1, hfz14_0, hfz14_1⟩ := cz2_ (w := w12) BK293.out))
              go_roundg k1
              case measure => have := HK1.out; omega
              case rel => exact ⟨(wrap64 (x10_1 + 1)), (x292000_1), (x292001_1), (by first | rfl | (simp; done) | (simp [*]; done)), H', ⟨by have := HK1.out; omega⟩, ⟨by (with_reducible repeat (first | refine blk_drewN ?_ _ | refine blk_drew ?_ | refine blk_alloc ?_ _)); refine blk_far ?_ NB291_293.out _; (with_reducible repeat (first | refine blk_drewN ?_ _ | refine blk_drew ?_ | refine blk_alloc ?_ _)); refine blk_far ?_ NB291_293.out _; (with_reducible repeat (first | refine blk_drewN ?_ _ | refine blk_drew ?_ | refine blk_alloc ?_ _)); exact BK291.out⟩, ⟨by repeat (first | (with_reducible first | exact HB.out | apply below_alloc | apply pw_below_drewN | apply below_drew1 | refine below_set ?_ GE291.out | refine below_set ?_ GE293.out) | exact HB.out)⟩⟩
          · rw [if_neg c6] at H
            exact absurd H (by simp)
        · rw [if_neg c5] at H
          exact absurd H (by simp)
      · rw [if_neg c4] at H
        have c4b0 : decide (x10_1 < (l0.length : Int)) = false := decide_eq_false c4
        clear c4
        simp only [Option.some.injEq, Prod.mk.injEq] at H
        obtain ⟨rfl, rfl, rfl⟩ := H
        obtain ⟨hcz15_0, hcz15_1, hfz15_0, hfz15_1⟩ := cz2_ (w := wr) BK291.out
        go_wp2
        refine bodyPost_ret (results_ct rfl _ _ gb291 44 #[.int .u64 0, .int .u64 0] (0, 0) _ rfl (by (with_reducible repeat (first | refine blk_drewN ?_ _ | refine blk_drew ?_ | refine blk_alloc ?_ _)); refine blk_put (cs := #[.int .u64 0, .int .u64 x292001_1]) ?_ 1 _ rfl; refine blk_put (cs := #[.int .u64 x292000_1, .int .u64 x292001_1]) ?_ 0 _ rfl; (with_reducible repeat (first | refine blk_drewN ?_ _ | refine blk_drew ?_ | refine blk_alloc ?_ _)); exact BK291.out) Try.underlying44 rfl (by kernel_rfl)) rfl ?_
        exact ⟨by first | rfl | (simp [errW_none, errW_some] <;> rfl) | (simp [*, errW_none, errW_some] <;> rfl), by repeat (first | (with_reducible first | exact HB.out | apply below_alloc | apply pw_below_drewN | apply below_drew1 | refine below_set ?_ GE291.out) | exact HB.out)⟩

/-! ### damsonref09_Hold: function 39 (by hand) -/
def damsonref09_Hold.P (id : Int) (x : S44) : Bool := decide (x.f0 < id)
def damsonref09_Hold.Q (id : Int) (x : S44) : Bool := decide (id < x.f0)
def damsonref09_Hold.m (c : S25) (id n h : Int) : Option (S25 × Int) := if c.f5.length = 64 then some (z25, 7) else if c.f1 < c.f3 then some (z25, 9) else if IntKind.u64.wrap (c.f1 - c.f3) < n then some (z25, 9) else if IntKind.u64.wrap (c.f4 - h) < n then some (z25, 8) else
  if c.f5.length ≤ 100000 then some (⟨c.f0, IntKind.u64.wrap (c.f1 - n), c.f2, c.f3, c.f4, c.f5.filter (damsonref09_Hold.P id) ++ ⟨id, n⟩ :: c.f5.filter (damsonref09_Hold.Q id), c.f6⟩, 0) else none
def damsonref09_Hold.g (k : Nat) (c : S25) (id n : Int) : Option (S25 × Int) := (damsonref09_Held.f k c.f0 c.f1 c.f2 c.f3 c.f4 c.f5 c.f6).bind fun h => if h.2 = 0 then (if n = 0 then some (z25, 1) else (damsonref04_Check.f k [n]).bind fun e => if e = 0 then
  (if c.f6 = true then (damsonref09_find.f k c.f5 id).bind fun p => if p.2.2 = true then some (z25, 6) else damsonref09_Hold.m c id n h.1 else some (z25, 14)) else some (z25, 1)) else some (z25, 1)
def damsonref09_Hold.f (k : Nat) (a0_0 : Int) (a0_1 : Int) (a0_2 : Int) (a0_3 : Int) (a0_4 : Int) (l0_5 : List (S44)) (a0_6 : Bool) (a1 a2 : Int) : Option (Int × Int × Int × Int × Int × List S44 × Bool × Int) := (damsonref09_Hold.g k ⟨a0_0, a0_1, a0_2, a0_3, a0_4, l0_5, a0_6⟩ a1 a2).bind fun r => some (r.1.f0, r.1.f1, r.1.f2, r.1.f3, r.1.f4, r.1.f5, r.1.f6, r.2)
theorem one_C (w : World) (n : Int) : Kd.C (Kd.int .u64) (w.alloc (.cells #[.int .u64 n] 22)) (some ⟨w.heap.size, 0, none⟩) ([n] : List Int).length [n] := by
  refine ⟨rfl, (show (1 : Nat) ≤ 9223372036854775807 by decide), fun _ => ⟨_, rfl, fun j p hj => ?_⟩⟩
  match j with
  | 0 =>
    obtain rfl : n = p := by simpa using hj
    refine ⟨[.int .u64 n], rfl, rfl, fun i u hi => ?_⟩
    cases i with
    | zero =>
      obtain rfl : Value.int .u64 n = u := by simpa using hi
      rw [add_plain, blk_cell (blk_new w _)]
      rfl
    | succ i => simp at hi
  | j + 1 => simp at hj
theorem damsonref09_Hold.mono : ∀ a0 a1 a2 a3 a4 a5 a6 a7 a8 k, LeO (damsonref09_Hold.f k a0 a1 a2 a3 a4 a5 a6 a7 a8) (damsonref09_Hold.f (k + 1) a0 a1 a2 a3 a4 a5 a6 a7 a8) := by
  intro a0 a1 a2 a3 a4 a5 a6 a7 a8 k
  unfold damsonref09_Hold.f damsonref09_Hold.g
  repeat' first
    | (with_reducible exact LeO.refl _)
    | apply damsonref09_Held.mono
    | apply damsonref04_Check.mono
    | apply damsonref09_find.mono
    | (with_reducible refine LeO.ite ?_ ?_)
    | (with_reducible refine LeO.bind ?_ (fun _ => ?_))
set_option maxHeartbeats 16000000 in
set_option maxRecDepth 100000 in
theorem damsonref09_Hold.callsS (k : Nat) (c : S25) (A0 : Option Addr) (c0 : Nat) (id n : Int) (d : S25) (er : Int) (w : World) (hr0 : Kd.C k44 w A0 c.f5.length c.f5) (hc0 : c.f5.length ≤ c0) (h : damsonref09_Hold.g k c id n = some (d, er)) :
    Calls Try.prog 39 #[.agg #[.int .u64 c.f0, .int .u64 c.f1, .int .u64 c.f2, .int .u64 c.f3, .int .u64 c.f4, .slice A0 c.f5.length c0, .bool c.f6], .int .u64 id, .int .u64 n] w fun e w' => ∃ v5_ : Value, e = .returned (.tuple #[.agg #[.int .u64 d.f0, .int .u64 d.f1, .int .u64 d.f2, .int .u64 d.f3, .int .u64 d.f4, v5_, .bool d.f6], .int .i64 er]) ∧ Kd.R k44 44 w' w.heap.size (fun _ => True) v5_ d.f5 ∧ Below w.heap.size w w' := by
  have HR0 := Aside0.mk hr0
  have HC0 := Aside0.mk hc0
  clear hr0 hc0
  have HB := Aside0.mk (((Below.refl w.heap.size w).alloc (Nat.le_refl _) (.cells #[.int .u64 c.f0, .int .u64 c.f1, .int .u64 c.f2, .int .u64 c.f3, .int .u64 c.f4, .slice A0 c.f5.length c0, .bool c.f6] 25)).alloc (by simp) (.cells #[.int .u64 0, .int .u64 0, .int .u64 0, .int .u64 0, .int .u64 0, .slice none 0 0, .bool false] 25))
  have HK := Aside0.mk (blk_alloc (blk_new w (.cells #[.int .u64 c.f0, .int .u64 c.f1, .int .u64 c.f2, .int .u64 c.f3, .int .u64 c.f4, .slice A0 c.f5.length c0, .bool c.f6] 25)) (.cells #[.int .u64 0, .int .u64 0, .int .u64 0, .int .u64 0, .int .u64 0, .slice none 0 0, .bool false] 25))
  have HZ := Aside0.mk (blk_new2 w (.cells #[.int .u64 c.f0, .int .u64 c.f1, .int .u64 c.f2, .int .u64 c.f3, .int .u64 c.f4, .slice A0 c.f5.length c0, .bool c.f6] 25) (.cells #[.int .u64 0, .int .u64 0, .int .u64 0, .int .u64 0, .int .u64 0, .slice none 0 0, .bool false] 25))
  unfold damsonref09_Hold.g at h
  obtain ⟨⟨hh, he⟩, h1, h_⟩ := Option.bind_eq_some_iff.mp h
  replace h := h_
  clear h_
  have HF1 := Aside0.mk h1
  clear h1
  dsimp only at h
  by_cases hx : he = 0
  case neg =>
    rw [if_neg hx] at h
    have hxb : (he != 0) = true := bne_iff_ne.mpr hx
    clear hx
    injection h with h
    simp only [Prod.mk.injEq] at h
    obtain ⟨rfl, rfl⟩ := h
    go_enter Try.func39, Try.ntmps39
    go_wp2_with (first | (go_at_call 29; refine (damsonref09_Held.calls k c.f0 c.f1 c.f2 c.f3 c.f4 A0 c0 c.f5 c.f6 hh he _ (Kd.C_below HR0.out HB.out) HC0.out HF1.out).mono ?_; rintro e w1 ⟨rfl, hb⟩; clear HF1; replace HB := Aside0.mk (below_then HB.out HB.out.size hb); replace HK := Aside0.mk (blk_below HK.out hb); replace HZ := Aside0.mk (blk_below HZ.out hb); have HZF := HZ; have HBF := HB; obtain ⟨hy0, hy1, hy2, hy3, hy4, hy5, hy6, hy7, hy8, hy9, hy10, hy11, hy12, hy13⟩ := cz7_ HZ.out; clear hb))
    refine bodyPost_ret (results_ct rfl _ _ (w.heap.size + 1) 25 #[.int .u64 0, .int .u64 0, .int .u64 0, .int .u64 0, .int .u64 0, .slice none 0 0, .bool false] (0, 0) _ rfl (zero7_self HZF.out) Try.underlying25 rfl (by kernel_rfl)) rfl ?_
    exact ⟨_, rfl, Kd.R_nil _ _ _ _ _, zero7_below HBF.out (Nat.le_succ _)⟩
  subst hx
  rw [if_pos rfl] at h
  by_cases hn : n = 0
  · rw [if_pos hn] at h
    have hnb : (n == 0) = true := beq_iff_eq.mpr hn
    clear hn
    injection h with h
    simp only [Prod.mk.injEq] at h
    obtain ⟨rfl, rfl⟩ := h
    go_enter Try.func39, Try.ntmps39
    go_wp2_with (first | (go_at_call 29; refine (damsonref09_Held.calls k c.f0 c.f1 c.f2 c.f3 c.f4 A0 c0 c.f5 c.f6 hh 0 _ (Kd.C_below HR0.out HB.out) HC0.out HF1.out).mono ?_; rintro e w1 ⟨rfl, hb⟩; clear HF1; replace HB := Aside0.mk (below_then HB.out HB.out.size hb); replace HK := Aside0.mk (blk_below HK.out hb); replace HZ := Aside0.mk (blk_below HZ.out hb); have HZF := HZ; have HBF := HB; obtain ⟨hy0, hy1, hy2, hy3, hy4, hy5, hy6, hy7, hy8, hy9, hy10, hy11, hy12, hy13⟩ := cz7_ HZ.out; clear hb))
    refine bodyPost_ret (results_ct rfl _ _ (w.heap.size + 1) 25 #[.int .u64 0, .int .u64 0, .int .u64 0, .int .u64 0, .int .u64 0, .slice none 0 0, .bool false] (0, 0) _ rfl (zero7_self HZF.out) Try.underlying25 rfl (by kernel_rfl)) rfl ?_
    exact ⟨_, rfl, Kd.R_nil _ _ _ _ _, zero7_below HBF.out (Nat.le_succ _)⟩
  rw [if_neg hn] at h
  have hnb : (n == 0) = false := beq_eq_false_iff_ne.mpr hn
  clear hn
  obtain ⟨ce, h1, h_⟩ := Option.bind_eq_some_iff.mp h
  replace h := h_
  clear h_
  have HF2 := Aside0.mk h1
  clear h1
  by_cases hx : ce = 0
  case neg =>
    rw [if_neg hx] at h
    have hxb : (ce != 0) = true := bne_iff_ne.mpr hx
    clear hx
    injection h with h
    simp only [Prod.mk.injEq] at h
    obtain ⟨rfl, rfl⟩ := h
    go_enter Try.func39, Try.ntmps39
    go_wp2_with (first | (go_at_call 29; refine (damsonref09_Held.calls k c.f0 c.f1 c.f2 c.f3 c.f4 A0 c0 c.f5 c.f6 hh 0 _ (Kd.C_below HR0.out HB.out) HC0.out HF1.out).mono ?_; rintro e w1 ⟨rfl, hb⟩; clear HF1; replace HB := Aside0.mk (below_then HB.out HB.out.size hb); replace HK := Aside0.mk (blk_below HK.out hb); replace HZ := Aside0.mk (blk_below HZ.out hb); clear hb) | (go_at_call 96; refine (damsonref04_Check.calls k (some ⟨w1.heap.size, 0, none⟩) 1 [n] ce _ (one_C w1 n) (Nat.le_refl _) HF2.out).mono ?_; rintro e w2 ⟨rfl, hd⟩; clear HF2; have hb := ((Below.refl w1.heap.size w1).alloc (Nat.le_refl _) (.cells #[.int .u64 n] 22)).trans (hd.below.mono (by simp)); replace HB := Aside0.mk (below_then HB.out HB.out.size hb); replace HK := Aside0.mk (blk_below HK.out hb); replace HZ := Aside0.mk (blk_below HZ.out hb); have HZF := HZ; have HBF := HB; obtain ⟨hy0, hy1, hy2, hy3, hy4, hy5, hy6, hy7, hy8, hy9, hy10, hy11, hy12, hy13⟩ := cz7_ HZ.out; clear hb hd))
    refine bodyPost_ret (results_ct rfl _ _ (w.heap.size + 1) 25 #[.int .u64 0, .int .u64 0, .int .u64 0, .int .u64 0, .int .u64 0, .slice none 0 0, .bool false] (0, 0) _ rfl (zero7_self HZF.out) Try.underlying25 rfl (by kernel_rfl)) rfl ?_
    exact ⟨_, rfl, Kd.R_nil _ _ _ _ _, zero7_below HBF.out (Nat.le_succ _)⟩
  subst hx
  rw [if_pos rfl] at h
  go_enter Try.func39, Try.ntmps39
  go_upto_region 4 with (first | (go_at_call 29; refine (damsonref09_Held.calls k c.f0 c.f1 c.f2 c.f3 c.f4 A0 c0 c.f5 c.f6 hh 0 _ (Kd.C_below HR0.out HB.out) HC0.out HF1.out).mono ?_; rintro e w1 ⟨rfl, hb⟩; clear HF1; replace HB := Aside0.mk (below_then HB.out HB.out.size hb); replace HK := Aside0.mk (blk_below HK.out hb); replace HZ := Aside0.mk (blk_below HZ.out hb); clear hb) | (go_at_call 96; refine (damsonref04_Check.calls k (some ⟨w1.heap.size, 0, none⟩) 1 [n] 0 _ (one_C w1 n) (Nat.le_refl _) HF2.out).mono ?_; rintro e w2 ⟨rfl, hd⟩; clear HF2; have hb := ((Below.refl w1.heap.size w1).alloc (Nat.le_refl _) (.cells #[.int .u64 n] 22)).trans (hd.below.mono (by simp)); replace HB := Aside0.mk (below_then HB.out HB.out.size hb); replace HK := Aside0.mk (blk_below HK.out hb); replace HZ := Aside0.mk (blk_below HZ.out hb); obtain ⟨hz0, hz1, hz2, hz3, hz4, hz5, hz6, hz7, hz8, hz9, hz10, hz11, hz12, hz13⟩ := cz7_ HK.out; clear hb hd))
  by_cases hop : c.f6 = true
  case neg =>
    rw [if_neg hop] at h
    have hop2 : c.f6 = false := by simpa using hop
    clear hop
    injection h with h
    simp only [Prod.mk.injEq] at h
    obtain ⟨rfl, rfl⟩ := h
    have _hy := HZ
    obtain ⟨hy0, hy1, hy2, hy3, hy4, hy5, hy6, hy7, hy8, hy9, hy10, hy11, hy12, hy13⟩ := cz7_ HZ.out
    go_wp2
    refine bodyPost_ret (results_ct rfl _ _ (w.heap.size + 1) 25 #[.int .u64 0, .int .u64 0, .int .u64 0, .int .u64 0, .int .u64 0, .slice none 0 0, .bool false] (0, 0) _ rfl (zero7_self HZ.out) Try.underlying25 rfl (by kernel_rfl)) rfl ?_
    exact ⟨_, rfl, Kd.R_nil _ _ _ _ _, zero7_below HB.out (Nat.le_succ _)⟩
  rw [if_pos hop] at h
  obtain ⟨⟨p1, p2, p3⟩, h1, h_⟩ := Option.bind_eq_some_iff.mp h
  replace h := h_
  clear h_
  have HF3 := Aside0.mk h1
  clear h1
  dsimp only at h
  go_upto_region 7 with (first | (go_at_call 97; refine (damsonref09_find.calls k A0 c0 c.f5 id p1 p2 p3 _ (Kd.C_below HR0.out HB.out) HC0.out HF3.out).mono ?_; rintro e w3 ⟨rfl, hb⟩; clear HF3; replace HB := Aside0.mk (below_then HB.out HB.out.size hb); replace HK := Aside0.mk (blk_below HK.out hb); replace HZ := Aside0.mk (blk_below HZ.out hb); have HOP := Aside0.mk hop; clear hop; clear hz0 hz1 hz2 hz3 hz4 hz5 hz6 hz7 hz8 hz9 hz10 hz11 hz12 hz13; have hlt := blk_lt HZ.out; clear hb))
  have hal := (Below.refl w3.heap.size w3).alloc (Nat.le_refl _) (.cells #[.int .u64 p1, .int .u64 p2] 44)
  replace HB := Aside0.mk (below_then HB.out HB.out.size hal)
  replace HK := Aside0.mk (blk_below HK.out hal)
  replace HZ := Aside0.mk (blk_below HZ.out hal)
  clear hal hlt
  generalize w3.alloc (.cells #[.int .u64 p1, .int .u64 p2] 44) = w4 at HB HK HZ ⊢
  generalize w3.heap.size = g0 at ⊢
  obtain ⟨hz0, hz1, hz2, hz3, hz4, hz5, hz6, hz7, hz8, hz9, hz10, hz11, hz12, hz13⟩ := cz7_ HK.out
  cases p3 with
  | true =>
    rw [if_pos rfl] at h
    injection h with h
    simp only [Prod.mk.injEq] at h
    obtain ⟨rfl, rfl⟩ := h
    obtain ⟨hy0, hy1, hy2, hy3, hy4, hy5, hy6, hy7, hy8, hy9, hy10, hy11, hy12, hy13⟩ := cz7_ HZ.out
    go_wp2
    refine bodyPost_ret (results_ct rfl _ _ (w.heap.size + 1) 25 #[.int .u64 0, .int .u64 0, .int .u64 0, .int .u64 0, .int .u64 0, .slice none 0 0, .bool false] (0, 0) _ rfl (zero7_self HZ.out) Try.underlying25 rfl (by kernel_rfl)) rfl ?_
    exact ⟨_, rfl, Kd.R_nil _ _ _ _ _, zero7_below HB.out (Nat.le_succ _)⟩
  | false =>
  rw [if_neg (by decide)] at h
  unfold damsonref09_Hold.m at h
  by_cases h64 : c.f5.length = 64
  · rw [if_pos h64] at h
    have h64b : ((c.f5.length : Int) == 64) = true := by rw [h64]; rfl
    have h64n : (c.f5.length == 64) = true := by rw [h64]; rfl
    clear h64
    injection h with h
    simp only [Prod.mk.injEq] at h
    obtain ⟨rfl, rfl⟩ := h
    obtain ⟨hy0, hy1, hy2, hy3, hy4, hy5, hy6, hy7, hy8, hy9, hy10, hy11, hy12, hy13⟩ := cz7_ HZ.out
    go_wp2
    refine bodyPost_ret (results_ct rfl _ _ (w.heap.size + 1) 25 #[.int .u64 0, .int .u64 0, .int .u64 0, .int .u64 0, .int .u64 0, .slice none 0 0, .bool false] (0, 0) _ rfl (zero7_self HZ.out) Try.underlying25 rfl (by kernel_rfl)) rfl ?_
    exact ⟨_, rfl, Kd.R_nil _ _ _ _ _, zero7_below HB.out (Nat.le_succ _)⟩
  rw [if_neg h64] at h
  have h64b : ((c.f5.length : Int) == 64) = false := beq_eq_false_iff_ne.mpr (by omega)
  have h64n : (c.f5.length == 64) = false := beq_eq_false_iff_ne.mpr h64
  clear h64
  by_cases hq1 : c.f1 < c.f3
  · rw [if_pos hq1] at h
    have hq1b : decide (c.f1 < c.f3) = true := decide_eq_true hq1
    clear hq1
    injection h with h
    simp only [Prod.mk.injEq] at h
    obtain ⟨rfl, rfl⟩ := h
    obtain ⟨hy0, hy1, hy2, hy3, hy4, hy5, hy6, hy7, hy8, hy9, hy10, hy11, hy12, hy13⟩ := cz7_ HZ.out
    go_wp2
    refine bodyPost_ret (results_ct rfl _ _ (w.heap.size + 1) 25 #[.int .u64 0, .int .u64 0, .int .u64 0, .int .u64 0, .int .u64 0, .slice none 0 0, .bool false] (0, 0) _ rfl (zero7_self HZ.out) Try.underlying25 rfl (by kernel_rfl)) rfl ?_
    exact ⟨_, rfl, Kd.R_nil _ _ _ _ _, zero7_below HB.out (Nat.le_succ _)⟩
  rw [if_neg hq1] at h
  have hq1b : decide (c.f1 < c.f3) = false := decide_eq_false hq1
  clear hq1
  by_cases hq2 : IntKind.u64.wrap (c.f1 - c.f3) < n
  · rw [if_pos hq2] at h
    have hq2b : decide (IntKind.u64.wrap (c.f1 - c.f3) < n) = true := decide_eq_true hq2
    clear hq2
    injection h with h
    simp only [Prod.mk.injEq] at h
    obtain ⟨rfl, rfl⟩ := h
    obtain ⟨hy0, hy1, hy2, hy3, hy4, hy5, hy6, hy7, hy8, hy9, hy10, hy11, hy12, hy13⟩ := cz7_ HZ.out
    go_wp2
    refine bodyPost_ret (results_ct rfl _ _ (w.heap.size + 1) 25 #[.int .u64 0, .int .u64 0, .int .u64 0, .int .u64 0, .int .u64 0, .slice none 0 0, .bool false] (0, 0) _ rfl (zero7_self HZ.out) Try.underlying25 rfl (by kernel_rfl)) rfl ?_
    exact ⟨_, rfl, Kd.R_nil _ _ _ _ _, zero7_below HB.out (Nat.le_succ _)⟩
  rw [if_neg hq2] at h
  have hq2b : decide (IntKind.u64.wrap (c.f1 - c.f3) < n) = false := decide_eq_false hq2
  clear hq2
  by_cases hq3 : IntKind.u64.wrap (c.f4 - hh) < n
  · rw [if_pos hq3] at h
    have hq3b : decide (IntKind.u64.wrap (c.f4 - hh) < n) = true := decide_eq_true hq3
    clear hq3
    injection h with h
    simp only [Prod.mk.injEq] at h
    obtain ⟨rfl, rfl⟩ := h
    obtain ⟨hy0, hy1, hy2, hy3, hy4, hy5, hy6, hy7, hy8, hy9, hy10, hy11, hy12, hy13⟩ := cz7_ HZ.out
    go_wp2
    refine bodyPost_ret (results_ct rfl _ _ (w.heap.size + 1) 25 #[.int .u64 0, .int .u64 0, .int .u64 0, .int .u64 0, .int .u64 0, .slice none 0 0, .bool false] (0, 0) _ rfl (zero7_self HZ.out) Try.underlying25 rfl (by kernel_rfl)) rfl ?_
    exact ⟨_, rfl, Kd.R_nil _ _ _ _ _, zero7_below HB.out (Nat.le_succ _)⟩
  rw [if_neg hq3] at h
  have hq3b : decide (IntKind.u64.wrap (c.f4 - hh) < n) = false := decide_eq_false hq3
  clear hq3
  by_cases hlen : c.f5.length ≤ 100000
  case neg => rw [if_neg hlen] at h; cases h
  rw [if_pos hlen] at h
  injection h with h
  simp only [Prod.mk.injEq] at h
  obtain ⟨rfl, rfl⟩ := h
  have hlt := blk_lt HK.out
  go_wp2
  clear hlt h64b h64n hq1b hq2b hq3b
  have hal := (Below.refl w4.heap.size w4).alloc (Nat.le_refl _) (.cells #[.int .u64 c.f0, .int .u64 (IntKind.u64.wrap (c.f1 - n)), .int .u64 c.f2, .int .u64 c.f3, .int .u64 c.f4, .slice none 0 0, .bool c.f6] 25)
  have HO := Aside0.mk (blk_new w4 (.cells #[.int .u64 c.f0, .int .u64 (IntKind.u64.wrap (c.f1 - n)), .int .u64 c.f2, .int .u64 c.f3, .int .u64 c.f4, .slice none 0 0, .bool c.f6] 25))
  have HG2 : Aside0 (w.heap.size + 1 < w4.heap.size) := ⟨blk_lt HZ.out⟩
  have HBASE : Aside0 (w4.heap.size + 1 ≤ (w4.alloc (.cells #[.int .u64 c.f0, .int .u64 (IntKind.u64.wrap (c.f1 - n)), .int .u64 c.f2, .int .u64 c.f3, .int .u64 c.f4, .slice none 0 0, .bool c.f6] 25)).heap.size) := ⟨by simp⟩
  replace HB := Aside0.mk (below_then HB.out HB.out.size hal)
  replace HK := Aside0.mk (blk_below HK.out hal)
  replace HZ := Aside0.mk (blk_below HZ.out hal)
  clear hal hz0 hz1 hz2 hz3 hz4 hz5 hz6 hz7 hz8 hz9 hz10 hz11 hz12 hz13
  generalize w4.alloc (.cells #[.int .u64 c.f0, .int .u64 (IntKind.u64.wrap (c.f1 - n)), .int .u64 c.f2, .int .u64 c.f3, .int .u64 c.f4, .slice none 0 0, .bool c.f6] 25) = w5 at HB HK HZ HO HBASE ⊢
  generalize hg : w4.heap.size = g3 at HO HG2 HBASE ⊢
  clear hg
  obtain ⟨base, hbase⟩ : ∃ base, base = g3 + 1 := ⟨_, rfl⟩
  have HB2 := Aside0.mk hbase
  rw [← hbase] at HBASE
  clear hbase
  go_loopw [85] (fun vi wr => ∃ (i : Nat) (vo : Value) (xs : List S44), i ≤ c.f5.length ∧ vi = .int .i64 i ∧ Aside0 (xs = (c.f5.take i).filter (damsonref09_Hold.P id)) ∧ Aside0 (Kd.R k44 44 wr base (fun k_ => base ≤ k_) vo xs) ∧ Aside0 (Below w.heap.size w wr) ∧ Aside0 (wr.heap[w.heap.size]? = some (.cells #[.int .u64 c.f0, .int .u64 c.f1, .int .u64 c.f2, .int .u64 c.f3, .int .u64 c.f4, .slice A0 c.f5.length c0, .bool c.f6] 25 (0, 0))) ∧ Aside0 (wr.heap[w.heap.size + 1]? = some (.cells #[.int .u64 0, .int .u64 0, .int .u64 0, .int .u64 0, .int .u64 0, .slice none 0 0, .bool false] 25 (0, 0))) ∧ Aside0 (wr.heap[g3]? = some (.cells #[.int .u64 c.f0, .int .u64 (IntKind.u64.wrap (c.f1 - n)), .int .u64 c.f2, .int .u64 c.f3, .int .u64 c.f4, vo, .bool c.f6] 25 (0, 0))) ∧ Aside0 (base ≤ wr.heap.size)) (fun vi _ => c.f5.length - (intOf vi).toNat)
  case atStart => exact ⟨0, _, [], Nat.zero_le _, rfl, ⟨by rw [List.take_zero, List.filter_nil]⟩, ⟨Kd.R_nil _ _ _ _ _⟩, HB, HK, HZ, HO, HBASE⟩
  case round =>
   clear HB HK HZ HO HBASE
   obtain ⟨i, vo, xs, hi, rfl, HXS, HR, HB, HK, HZ, HO, HBASE⟩ := hrel
   obtain ⟨Ao, co, hvo⟩ := Kd.R_slice HR.out
   subst hvo
   by_cases hil : i < c.f5.length
   · obtain ⟨ad, ea, hx0, hx1⟩ := at_T44 HR0.out (i : Int) (by omega) (by omega)
     subst ea
     have hft := filter_take44 (damsonref09_Hold.P id) hil
     obtain ⟨x, hx⟩ : ∃ x, x = rd_T44 c.f5 (i : Int) := ⟨_, rfl⟩
     simp only [← hx, Int.toNat_natCast] at hx0 hx1 hft
     clear hx
     replace hx0 := (HB.out.cell (World.block_lt_of_cell? w _ hx0)).trans hx0
     replace hx1 := (HB.out.cell (World.block_lt_of_cell? w _ hx1)).trans hx1
     have hal := (Below.refl wr.heap.size wr).alloc (Nat.le_refl _) (.cells #[.int .u64 x.f0, .int .u64 x.f1] 44)
     have hlen2 : xs.length ≤ 300000 := by
       rw [HXS.out]
       have h1 := List.length_filter_le (damsonref09_Hold.P id) c.f5
       have h2 := List.length_filter_le (damsonref09_Hold.P id) (c.f5.take i)
       rw [List.length_take] at h2
       (try simp only [List.length_append, List.length_cons, List.length_nil])
       omega
     have HLEN := Aside0.mk hlen2
     clear hlen2
     by_cases hq : x.f0 < id
     case neg =>
       have hqb : decide (x.f0 < id) = false := decide_eq_false hq
       have hpx : damsonref09_Hold.P id x = false := hqb
       rw [if_neg (by rw [hpx]; decide), List.append_nil] at hft
       have HFT := Aside0.mk hft
       have HAL := Aside0.mk hal
       clear hq hpx hft hal
       go_wp2
       go_roundw
       case rel => exact ⟨i + 1, _, xs, by omega, by go_num, ⟨by rw [HFT.out]; exact HXS.out⟩, ⟨Kd.R_below HR.out HAL.out⟩, ⟨below_then HB.out HB.out.size HAL.out⟩, ⟨blk_below HK.out HAL.out⟩, ⟨blk_below HZ.out HAL.out⟩, ⟨blk_below HO.out HAL.out⟩, ⟨Nat.le_trans HBASE.out HAL.out.size⟩⟩
       case measure => simp [intOf]; omega
     · have hqb : decide (x.f0 < id) = true := decide_eq_true hq
       have hpx : damsonref09_Hold.P id x = true := hqb
       rw [if_pos hpx] at hft
       have HFT := Aside0.mk hft
       have hlo : g3 < wr.heap.size := blk_lt HO.out
       obtain ⟨ho0, ho1, ho2, ho3, ho4, ho5, ho6, ho7, ho8, ho9, ho10, ho11, ho12, ho13⟩ := cz7_ HO.out
       have HRW := Aside0.mk (Kd.R_below HR.out hal)
       replace HB := Aside0.mk (below_then HB.out HB.out.size hal)
       replace HK := Aside0.mk (blk_below HK.out hal)
       replace HZ := Aside0.mk (blk_below HZ.out hal)
       replace HO := Aside0.mk (blk_below HO.out hal)
       replace HBASE := Aside0.mk (Nat.le_trans HBASE.out hal.size)
       clear hq hpx hft hal
       go_wp2_with (first | ((with_reducible refine gate_builtin (b := .append) (xs := #[.tmp 94, .tmp 96]) rfl ?_); at_builtin; refine Kd.R_append k44 (w0 := _) base rfl (.tmp 94) (.tmp 96) 23 44 (.agg #[(.int .u64 0), (.int .u64 0)]) 16 rfl Try.underlying23 info44 rfl (by decide) (by omega) (.slice Ao xs.length co) (xs) x [.int .u64 x.f0, .int .u64 x.f1] (fun k_ => base ≤ k_) (fun _ => False) rfl (by first | (go_simp; done) | (go_simp; rfl)) (k44_mkM _ _ _ x) (fun _ hk => hk.elim) (fun k_ hk => Nat.le_trans HBASE.out hk) HRW.out (Below.refl _ _) HBASE.out (by have := HLEN.out; omega) ?_; intro v1 w1 ho hb hg hat; obtain ⟨Av, cv, hv1⟩ := Kd.R_slice ho; subst hv1; have hlo2 := HB2.out; have hlo3 := HG2.out; replace HB := Aside0.mk (HB.out.trans (hb.mono (by omega))); replace HK := Aside0.mk (blk_low HK.out hb (by omega)); replace HZ := Aside0.mk (blk_low HZ.out hb (by omega)); replace HO := Aside0.mk (blk_low HO.out hb (by omega)); replace HBASE := Aside0.mk (Nat.le_trans HBASE.out hb.size); rw [show (xs ++ [x]).length = xs.length + 1 from by simp] at ho; have HRN := Aside0.mk ho; clear hlo2 hlo3 hlo HRW HR HLEN ho0 ho1 ho2 ho3 ho4 ho5 ho6 ho7 ho8 ho9 ho10 ho11 ho12 ho13; obtain ⟨hn0, hn1, hn2, hn3, hn4, hn5, hn6, hn7, hn8, hn9, hn10, hn11, hn12, hn13⟩ := cz7_ HO.out; clear ho hb hg hat))
       go_roundw
       case rel => exact ⟨i + 1, _, xs ++ [x], by omega, by go_num, ⟨by rw [HFT.out, HXS.out]⟩, ⟨Kd.R_far (p := ⟨g3, 5, none⟩) HRN.out (fun k_ hk => by have := HB2.out; show k_ ≠ g3; omega) _⟩, ⟨HB.out.setCell (by have := HG2.out; show w.heap.size ≤ g3; omega) _⟩, ⟨blk_far HK.out (p := ⟨g3, 5, none⟩) (by have := HG2.out; show w.heap.size ≠ g3; omega) _⟩, ⟨blk_far HZ.out (p := ⟨g3, 5, none⟩) (by have := HG2.out; show w.heap.size + 1 ≠ g3; omega) _⟩, ⟨box5 HO.out _⟩, ⟨by simpa using HBASE.out⟩⟩
       case measure => simp [intOf]; omega
   · obtain rfl : i = c.f5.length := by omega
     rw [List.take_length] at HXS
     have hlo : g3 < wr.heap.size := blk_lt HO.out
     have hlk : w.heap.size < g3 := by have := HG2.out; omega
     have hlen2 : xs.length ≤ 100000 := by rw [HXS.out]; exact Nat.le_trans (List.length_filter_le _ _) hlen
     have HLEN := Aside0.mk hlen2
     clear hlen2
     have HRW := HR
     obtain ⟨ho0, ho1, ho2, ho3, ho4, ho5, ho6, ho7, ho8, ho9, ho10, ho11, ho12, ho13⟩ := cz7_ HO.out
     obtain ⟨hk0, hk1, hk2, hk3, hk4, hk5, hk6, hk7, hk8, hk9, hk10, hk11, hk12, hk13⟩ := cz7_ HK.out
     go_wp2_with (first | ((with_reducible refine gate_builtin (b := .append) (xs := #[.tmp 101, .tmp 105]) rfl ?_); at_builtin; refine Kd.R_append k44 (w0 := _) base rfl (.tmp 101) (.tmp 105) 23 44 (.agg #[(.int .u64 0), (.int .u64 0)]) 16 rfl Try.underlying23 info44 rfl (by decide) (by omega) (.slice Ao xs.length co) (xs) (⟨id, n⟩ : S44) [.int .u64 id, .int .u64 n] (fun k_ => base ≤ k_) (fun _ => False) rfl (by first | (go_simp; done) | (go_simp; rfl)) (k44_mkM _ _ _ (⟨id, n⟩ : S44)) (fun _ hk => hk.elim) (fun k_ hk => Nat.le_trans HBASE.out hk) HRW.out (Below.refl _ _) HBASE.out (by have := HLEN.out; omega) ?_; intro v1 w1 ho hb hg hat; obtain ⟨Av, cv, hv1⟩ := Kd.R_slice ho; subst hv1; have hlo2 := HB2.out; have hlo3 := HG2.out; replace HB := Aside0.mk (HB.out.trans (hb.mono (by omega))); replace HK := Aside0.mk (blk_low HK.out hb (by omega)); replace HZ := Aside0.mk (blk_low HZ.out hb (by omega)); replace HO := Aside0.mk (blk_low HO.out hb (by omega)); replace HBASE := Aside0.mk (Nat.le_trans HBASE.out hb.size); rw [show (xs ++ [(⟨id, n⟩ : S44)]).length = xs.length + 1 from by simp] at ho; have HRN := Aside0.mk ho; clear hlo2 hlo3 hlo HRW HR HLEN ho0 ho1 ho2 ho3 ho4 ho5 ho6 ho7 ho8 ho9 ho10 ho11 ho12 ho13 hk0 hk1 hk2 hk3 hk4 hk5 hk6 hk7 hk8 hk9 hk10 hk11 hk12 hk13; obtain ⟨hn0, hn1, hn2, hn3, hn4, hn5, hn6, hn7, hn8, hn9, hn10, hn11, hn12, hn13⟩ := cz7_ HO.out; clear ho hb hg hat; obtain ⟨hk0, hk1, hk2, hk3, hk4, hk5, hk6, hk7, hk8, hk9, hk10, hk11, hk12, hk13⟩ := cz7_ HK.out))
     have HR := Aside0.mk (Kd.R_far (p := ⟨g3, 5, none⟩) HRN.out (fun k_ hk => by have := HB2.out; show k_ ≠ g3; omega) (.slice Av (xs.length + 1) cv))
     replace HB := Aside0.mk (HB.out.setCell (p := ⟨g3, 5, none⟩) (by have := HG2.out; show w.heap.size ≤ g3; omega) (.slice Av (xs.length + 1) cv))
     replace HK := Aside0.mk (blk_far HK.out (p := ⟨g3, 5, none⟩) (by have := HG2.out; show w.heap.size ≠ g3; omega) (.slice Av (xs.length + 1) cv))
     replace HZ := Aside0.mk (blk_far HZ.out (p := ⟨g3, 5, none⟩) (by have := HG2.out; show w.heap.size + 1 ≠ g3; omega) (.slice Av (xs.length + 1) cv))
     replace HO := Aside0.mk (box5 HO.out (.slice Av (xs.length + 1) cv))
     replace HBASE : Aside0 (base ≤ (w1.setCell ⟨g3, 5, none⟩ (.slice Av (xs.length + 1) cv)).heap.size) := ⟨by simpa using HBASE.out⟩
     clear HRN hlk
     generalize w1.setCell ⟨g3, 5, none⟩ (.slice Av (xs.length + 1) cv) = w6 at HR HB HK HZ HO HBASE ⊢
     clear hk0 hn0 hk1 hn1 hk2 hn2 hk3 hn3 hk4 hn4 hk5 hn5 hk6 hn6 hk7 hn7 hk8 hn8 hk9 hn9 hk10 hn10 hk11 hn11 hk12 hn12 hk13 hn13
     go_loopw [111] (fun vi wr => ∃ (i : Nat) (vo : Value) (xs : List S44), i ≤ c.f5.length ∧ vi = .int .i64 i ∧ Aside0 (xs = (c.f5.filter (damsonref09_Hold.P id) ++ [(⟨id, n⟩ : S44)]) ++ (c.f5.take i).filter (damsonref09_Hold.Q id)) ∧ Aside0 (Kd.R k44 44 wr base (fun k_ => base ≤ k_) vo xs) ∧ Aside0 (Below w.heap.size w wr) ∧ Aside0 (wr.heap[w.heap.size]? = some (.cells #[.int .u64 c.f0, .int .u64 c.f1, .int .u64 c.f2, .int .u64 c.f3, .int .u64 c.f4, .slice A0 c.f5.length c0, .bool c.f6] 25 (0, 0))) ∧ Aside0 (wr.heap[w.heap.size + 1]? = some (.cells #[.int .u64 0, .int .u64 0, .int .u64 0, .int .u64 0, .int .u64 0, .slice none 0 0, .bool false] 25 (0, 0))) ∧ Aside0 (wr.heap[g3]? = some (.cells #[.int .u64 c.f0, .int .u64 (IntKind.u64.wrap (c.f1 - n)), .int .u64 c.f2, .int .u64 c.f3, .int .u64 c.f4, vo, .bool c.f6] 25 (0, 0))) ∧ Aside0 (base ≤ wr.heap.size)) (fun vi _ => c.f5.length - (intOf vi).toNat)
     case atStart => exact ⟨0, _, xs ++ [⟨id, n⟩], Nat.zero_le _, rfl, ⟨by rw [List.take_zero, List.filter_nil, List.append_nil, HXS.out]⟩, HR, HB, HK, HZ, HO, HBASE⟩
     case round =>
      clear HB HK HZ HO HBASE HR HXS
      obtain ⟨i, vo, xs, hi, rfl, HXS, HR, HB, HK, HZ, HO, HBASE⟩ := hrel
      obtain ⟨Ao, co, hvo⟩ := Kd.R_slice HR.out
      subst hvo
      by_cases hil : i < c.f5.length
      · obtain ⟨ad, ea, hx0, hx1⟩ := at_T44 HR0.out (i : Int) (by omega) (by omega)
        subst ea
        have hft := filter_take44 (damsonref09_Hold.Q id) hil
        obtain ⟨x, hx⟩ : ∃ x, x = rd_T44 c.f5 (i : Int) := ⟨_, rfl⟩
        simp only [← hx, Int.toNat_natCast] at hx0 hx1 hft
        clear hx
        replace hx0 := (HB.out.cell (World.block_lt_of_cell? w _ hx0)).trans hx0
        replace hx1 := (HB.out.cell (World.block_lt_of_cell? w _ hx1)).trans hx1
        have hal := (Below.refl wr.heap.size wr).alloc (Nat.le_refl _) (.cells #[.int .u64 x.f0, .int .u64 x.f1] 44)
        have hlen2 : xs.length ≤ 300000 := by
          rw [HXS.out]
          have h1 := List.length_filter_le (damsonref09_Hold.P id) c.f5
          have h2 := List.length_filter_le (damsonref09_Hold.Q id) (c.f5.take i)
          rw [List.length_take] at h2
          (try simp only [List.length_append, List.length_cons, List.length_nil])
          omega
        have HLEN := Aside0.mk hlen2
        clear hlen2
        by_cases hq : id < x.f0
        case neg =>
          have hqb : decide (id < x.f0) = false := decide_eq_false hq
          have hpx : damsonref09_Hold.Q id x = false := hqb
          rw [if_neg (by rw [hpx]; decide), List.append_nil] at hft
          have HFT := Aside0.mk hft
          have HAL := Aside0.mk hal
          clear hq hpx hft hal
          go_wp2
          go_roundw
          case rel => exact ⟨i + 1, _, xs, by omega, by go_num, ⟨by rw [HFT.out]; exact HXS.out⟩, ⟨Kd.R_below HR.out HAL.out⟩, ⟨below_then HB.out HB.out.size HAL.out⟩, ⟨blk_below HK.out HAL.out⟩, ⟨blk_below HZ.out HAL.out⟩, ⟨blk_below HO.out HAL.out⟩, ⟨Nat.le_trans HBASE.out HAL.out.size⟩⟩
          case measure => simp [intOf]; omega
        · have hqb : decide (id < x.f0) = true := decide_eq_true hq
          have hpx : damsonref09_Hold.Q id x = true := hqb
          rw [if_pos hpx] at hft
          have HFT := Aside0.mk hft
          have hlo : g3 < wr.heap.size := blk_lt HO.out
          obtain ⟨ho0, ho1, ho2, ho3, ho4, ho5, ho6, ho7, ho8, ho9, ho10, ho11, ho12, ho13⟩ := cz7_ HO.out
          have HRW := Aside0.mk (Kd.R_below HR.out hal)
          replace HB := Aside0.mk (below_then HB.out HB.out.size hal)
          replace HK := Aside0.mk (blk_below HK.out hal)
          replace HZ := Aside0.mk (blk_below HZ.out hal)
          replace HO := Aside0.mk (blk_below HO.out hal)
          replace HBASE := Aside0.mk (Nat.le_trans HBASE.out hal.size)
          clear hq hpx hft hal
          go_wp2_with (first | ((with_reducible refine gate_builtin (b := .append) (xs := #[.tmp 120, .tmp 122]) rfl ?_); at_builtin; refine Kd.R_append k44 (w0 := _) base rfl (.tmp 120) (.tmp 122) 23 44 (.agg #[(.int .u64 0), (.int .u64 0)]) 16 rfl Try.underlying23 info44 rfl (by decide) (by omega) (.slice Ao xs.length co) (xs) x [.int .u64 x.f0, .int .u64 x.f1] (fun k_ => base ≤ k_) (fun _ => False) rfl (by first | (go_simp; done) | (go_simp; rfl)) (k44_mkM _ _ _ x) (fun _ hk => hk.elim) (fun k_ hk => Nat.le_trans HBASE.out hk) HRW.out (Below.refl _ _) HBASE.out (by have := HLEN.out; omega) ?_; intro v1 w1 ho hb hg hat; obtain ⟨Av, cv, hv1⟩ := Kd.R_slice ho; subst hv1; have hlo2 := HB2.out; have hlo3 := HG2.out; replace HB := Aside0.mk (HB.out.trans (hb.mono (by omega))); replace HK := Aside0.mk (blk_low HK.out hb (by omega)); replace HZ := Aside0.mk (blk_low HZ.out hb (by omega)); replace HO := Aside0.mk (blk_low HO.out hb (by omega)); replace HBASE := Aside0.mk (Nat.le_trans HBASE.out hb.size); rw [show (xs ++ [x]).length = xs.length + 1 from by simp] at ho; have HRN := Aside0.mk ho; clear hlo2 hlo3 hlo HRW HR HLEN ho0 ho1 ho2 ho3 ho4 ho5 ho6 ho7 ho8 ho9 ho10 ho11 ho12 ho13; obtain ⟨hn0, hn1, hn2, hn3, hn4, hn5, hn6, hn7, hn8, hn9, hn10, hn11, hn12, hn13⟩ := cz7_ HO.out; clear ho hb hg hat))
          go_roundw
          case rel => exact ⟨i + 1, _, xs ++ [x], by omega, by go_num, ⟨by rw [HFT.out, HXS.out, List.append_assoc]⟩, ⟨Kd.R_far (p := ⟨g3, 5, none⟩) HRN.out (fun k_ hk => by have := HB2.out; show k_ ≠ g3; omega) _⟩, ⟨HB.out.setCell (by have := HG2.out; show w.heap.size ≤ g3; omega) _⟩, ⟨blk_far HK.out (p := ⟨g3, 5, none⟩) (by have := HG2.out; show w.heap.size ≠ g3; omega) _⟩, ⟨blk_far HZ.out (p := ⟨g3, 5, none⟩) (by have := HG2.out; show w.heap.size + 1 ≠ g3; omega) _⟩, ⟨box5 HO.out _⟩, ⟨by simpa using HBASE.out⟩⟩
          case measure => simp [intOf]; omega
      · obtain rfl : i = c.f5.length := by omega
        rw [List.take_length] at HXS
        obtain ⟨hn0, hn1, hn2, hn3, hn4, hn5, hn6, hn7, hn8, hn9, hn10, hn11, hn12, hn13⟩ := cz7_ HO.out
        obtain ⟨hy0, hy1, hy2, hy3, hy4, hy5, hy6, hy7, hy8, hy9, hy10, hy11, hy12, hy13⟩ := cz7_ HZ.out
        go_wp2
        refine bodyPost_ret (results_ct rfl _ _ (w.heap.size + 1) 25 #[.int .u64 c.f0, .int .u64 (IntKind.u64.wrap (c.f1 - n)), .int .u64 c.f2, .int .u64 c.f3, .int .u64 c.f4, .slice Ao xs.length co, .bool c.f6] (0, 0) _ rfl (put7_self (w := wr) (c := (⟨c.f0, IntKind.u64.wrap (c.f1 - n), c.f2, c.f3, c.f4, [], c.f6⟩ : S25)) (v := (.slice Ao xs.length co)) HZ.out) Try.underlying25 rfl (by kernel_rfl)) rfl ?_
        exact ⟨_, rfl, Kd.R_lower (Kd.R_mono (put7_R (xs := (c.f5.filter (damsonref09_Hold.P id) ++ (⟨id, n⟩ : S44) :: c.f5.filter (damsonref09_Hold.Q id))) (w := wr) (g := w.heap.size + 1) (c := (⟨c.f0, IntKind.u64.wrap (c.f1 - n), c.f2, c.f3, c.f4, [], c.f6⟩ : S25)) (v := (.slice Ao xs.length co)) (Eq.subst (motive := fun l => Kd.R k44 44 wr base (fun k_ => base ≤ k_) (.slice Ao xs.length co) l) (HXS.out.trans (by simp)) HR.out) (fun k_ hk => by have := HG2.out; have := HB2.out; omega)) (fun _ _ => trivial)) (by have := HG2.out; have := HB2.out; omega), put7_below (c := (⟨c.f0, IntKind.u64.wrap (c.f1 - n), c.f2, c.f3, c.f4, [], c.f6⟩ : S25)) (v := (.slice Ao xs.length co)) HB.out (Nat.le_succ _)⟩
theorem damsonref09_Hold.calls (k : Nat) (a0_0 : Int) (a0_1 : Int) (a0_2 : Int) (a0_3 : Int) (a0_4 : Int) (A0_5 : Option Addr) (c0_5 : Nat) (l0_5 : List (S44)) (a0_6 : Bool) (a1 : Int) (a2 : Int) (r1 : Int) (r2 : Int) (r3 : Int) (r4 : Int) (r5 : Int) (r6 : List (S44)) (r7 : Bool) (r8 : Int) (w : World) (hr0_5 : Kd.C k44 w A0_5 l0_5.length l0_5) (hc0_5 : l0_5.length ≤ c0_5) (h : damsonref09_Hold.f k a0_0 a0_1 a0_2 a0_3 a0_4 l0_5 a0_6 a1 a2 = some (r1, r2, r3, r4, r5, r6, r7, r8)) :
    Calls Try.prog 39 #[.agg #[.int .u64 a0_0, .int .u64 a0_1, .int .u64 a0_2, .int .u64 a0_3, .int .u64 a0_4, .slice A0_5 l0_5.length c0_5, .bool a0_6], .int .u64 a1, .int .u64 a2] w fun e w' => ∃ v5_ : Value, e = .returned (.tuple #[.agg #[.int .u64 r1, .int .u64 r2, .int .u64 r3, .int .u64 r4, .int .u64 r5, v5_, .bool r7], .int .i64 r8]) ∧ Kd.R k44 44 w' w.heap.size (fun _ => True) v5_ r6 ∧ Below w.heap.size w w' := by
  unfold damsonref09_Hold.f at h
  obtain ⟨⟨d, er⟩, h1, h2⟩ := Option.bind_eq_some_iff.mp h
  injection h2 with h2
  simp only [Prod.mk.injEq] at h2
  obtain ⟨rfl, rfl, rfl, rfl, rfl, rfl, rfl, rfl⟩ := h2
  exact damsonref09_Hold.callsS k ⟨a0_0, a0_1, a0_2, a0_3, a0_4, l0_5, a0_6⟩ A0_5 c0_5 a1 a2 d er w hr0_5 hc0_5 h1

/-! ### damsonref09_without: function 98 (by hand) -/
def damsonref09_without.P (id : Int) (x : S44) : Bool := decide (x.f0 ≠ id)
def damsonref09_without.g (k : Nat) (c : S25) (id : Int) : Option (S25 × Int × Int) := (damsonref09_Check.f k c.f0 c.f1 c.f2 c.f3 c.f4 c.f5 c.f6).bind fun e => if e = 0 then
  ((damsonref09_find.f k c.f5 id).bind fun p => if p.2.2 = true then (if c.f5.length ≤ 100000 then some (⟨c.f0, c.f1, c.f2, c.f3, c.f4, c.f5.filter (damsonref09_without.P id), c.f6⟩, p.2.1, 0) else none) else some (z25, 0, 5)) else some (z25, 0, 1)
def damsonref09_without.f (k : Nat) (a0_0 : Int) (a0_1 : Int) (a0_2 : Int) (a0_3 : Int) (a0_4 : Int) (l0_5 : List (S44)) (a0_6 : Bool) (a1 : Int) : Option (Int × Int × Int × Int × Int × List S44 × Bool × Int × Int) := (damsonref09_without.g k ⟨a0_0, a0_1, a0_2, a0_3, a0_4, l0_5, a0_6⟩ a1).bind fun r => some (r.1.f0, r.1.f1, r.1.f2, r.1.f3, r.1.f4, r.1.f5, r.1.f6, r.2.1, r.2.2)
theorem damsonref09_without.mono : ∀ a0 a1 a2 a3 a4 a5 a6 a7 k, LeO (damsonref09_without.f k a0 a1 a2 a3 a4 a5 a6 a7) (damsonref09_without.f (k + 1) a0 a1 a2 a3 a4 a5 a6 a7) := by
  intro a0 a1 a2 a3 a4 a5 a6 a7 k
  unfold damsonref09_without.f damsonref09_without.g
  repeat' first
    | (with_reducible exact LeO.refl _)
    | apply damsonref09_Check.mono
    | apply damsonref09_find.mono
    | (with_reducible refine LeO.ite ?_ ?_)
    | (with_reducible refine LeO.bind ?_ (fun _ => ?_))
set_option maxHeartbeats 16000000 in
set_option maxRecDepth 100000 in
theorem damsonref09_without.callsS (k : Nat) (c : S25) (A0 : Option Addr) (c0 : Nat) (id : Int) (d : S25) (q er : Int) (w : World) (hr0 : Kd.C k44 w A0 c.f5.length c.f5) (hc0 : c.f5.length ≤ c0) (h : damsonref09_without.g k c id = some (d, q, er)) :
    Calls Try.prog 98 #[.agg #[.int .u64 c.f0, .int .u64 c.f1, .int .u64 c.f2, .int .u64 c.f3, .int .u64 c.f4, .slice A0 c.f5.length c0, .bool c.f6], .int .u64 id] w fun e w' => ∃ v5_ : Value, e = .returned (.tuple #[.agg #[.int .u64 d.f0, .int .u64 d.f1, .int .u64 d.f2, .int .u64 d.f3, .int .u64 d.f4, v5_, .bool d.f6], .int .u64 q, .int .i64 er]) ∧ Kd.R k44 44 w' w.heap.size (fun _ => True) v5_ d.f5 ∧ Below w.heap.size w w' := by
  have HR0 := Aside0.mk hr0
  have HC0 := Aside0.mk hc0
  clear hr0 hc0
  have HB := Aside0.mk (((Below.refl w.heap.size w).alloc (Nat.le_refl _) (.cells #[.int .u64 c.f0, .int .u64 c.f1, .int .u64 c.f2, .int .u64 c.f3, .int .u64 c.f4, .slice A0 c.f5.length c0, .bool c.f6] 25)).alloc (by simp) (.cells #[.int .u64 0, .int .u64 0, .int .u64 0, .int .u64 0, .int .u64 0, .slice none 0 0, .bool false] 25))
  have HK := Aside0.mk (blk_alloc (blk_new w (.cells #[.int .u64 c.f0, .int .u64 c.f1, .int .u64 c.f2, .int .u64 c.f3, .int .u64 c.f4, .slice A0 c.f5.length c0, .bool c.f6] 25)) (.cells #[.int .u64 0, .int .u64 0, .int .u64 0, .int .u64 0, .int .u64 0, .slice none 0 0, .bool false] 25))
  have HZ := Aside0.mk (blk_new2 w (.cells #[.int .u64 c.f0, .int .u64 c.f1, .int .u64 c.f2, .int .u64 c.f3, .int .u64 c.f4, .slice A0 c.f5.length c0, .bool c.f6] 25) (.cells #[.int .u64 0, .int .u64 0, .int .u64 0, .int .u64 0, .int .u64 0, .slice none 0 0, .bool false] 25))
  unfold damsonref09_without.g at h
  obtain ⟨e1, h1, h_⟩ := Option.bind_eq_some_iff.mp h
  replace h := h_
  clear h_
  have HF1 := Aside0.mk h1
  clear h1
  by_cases he : e1 = 0
  case neg =>
    rw [if_neg he] at h
    have heb : (e1 != 0) = true := bne_iff_ne.mpr he
    clear he
    injection h with h
    simp only [Prod.mk.injEq] at h
    obtain ⟨rfl, rfl, rfl⟩ := h
    go_enter Try.func98, Try.ntmps98
    go_wp2_with (first | (go_at_call 34; refine (damsonref09_Check.calls k c.f0 c.f1 c.f2 c.f3 c.f4 A0 c0 c.f5 c.f6 e1 _ (Kd.C_below HR0.out HB.out) HC0.out HF1.out).mono ?_; rintro e w1 ⟨rfl, hb⟩; clear HF1; replace HB := Aside0.mk (below_then HB.out HB.out.size hb); replace HK := Aside0.mk (blk_below HK.out hb); replace HZ := Aside0.mk (blk_below HZ.out hb); have HZF := HZ; have HBF := HB; obtain ⟨hy0, hy1, hy2, hy3, hy4, hy5, hy6, hy7, hy8, hy9, hy10, hy11, hy12, hy13⟩ := cz7_ HZ.out; clear hb))
    refine bodyPost_ret (results_ctt rfl _ _ (w.heap.size + 1) 25 #[.int .u64 0, .int .u64 0, .int .u64 0, .int .u64 0, .int .u64 0, .slice none 0 0, .bool false] (0, 0) _ rfl (zero7_self HZF.out) Try.underlying25 rfl (by kernel_rfl)) rfl ?_
    exact ⟨_, rfl, Kd.R_nil _ _ _ _ _, zero7_below HBF.out (Nat.le_succ _)⟩
  subst he
  rw [if_pos rfl] at h
  obtain ⟨⟨p1, p2, p3⟩, h1, h_⟩ := Option.bind_eq_some_iff.mp h
  replace h := h_
  clear h_
  have HF2 := Aside0.mk h1
  clear h1
  dsimp only at h
  go_enter Try.func98, Try.ntmps98
  go_upto_region 4 with (first | (go_at_call 34; refine (damsonref09_Check.calls k c.f0 c.f1 c.f2 c.f3 c.f4 A0 c0 c.f5 c.f6 0 _ (Kd.C_below HR0.out HB.out) HC0.out HF1.out).mono ?_; rintro e w1 ⟨rfl, hb⟩; clear HF1; replace HB := Aside0.mk (below_then HB.out HB.out.size hb); replace HK := Aside0.mk (blk_below HK.out hb); replace HZ := Aside0.mk (blk_below HZ.out hb); obtain ⟨hz0, hz1, hz2, hz3, hz4, hz5, hz6, hz7, hz8, hz9, hz10, hz11, hz12, hz13⟩ := cz7_ HK.out; clear hb) | (go_at_call 97; refine (damsonref09_find.calls k A0 c0 c.f5 id p1 p2 p3 _ (Kd.C_below HR0.out HB.out) HC0.out HF2.out).mono ?_; rintro e w2 ⟨rfl, hb⟩; clear HF2; clear hz0 hz1 hz2 hz3 hz4 hz5 hz6 hz7 hz8 hz9 hz10 hz11 hz12 hz13; replace HB := Aside0.mk (below_then HB.out HB.out.size hb); replace HK := Aside0.mk (blk_below HK.out hb); replace HZ := Aside0.mk (blk_below HZ.out hb); obtain ⟨hz0, hz1, hz2, hz3, hz4, hz5, hz6, hz7, hz8, hz9, hz10, hz11, hz12, hz13⟩ := cz7_ HK.out; have hlt := blk_lt HZ.out; clear hb))
  have hal := (Below.refl w2.heap.size w2).alloc (Nat.le_refl _) (.cells #[.int .u64 p1, .int .u64 p2] 44)
  have HF := Aside0.mk (blk_new w2 (.cells #[.int .u64 p1, .int .u64 p2] 44))
  have HG : Aside0 (w.heap.size + 1 < w2.heap.size) := ⟨blk_lt HZ.out⟩
  replace HB := Aside0.mk (below_then HB.out HB.out.size hal)
  replace HK := Aside0.mk (blk_below HK.out hal)
  replace HZ := Aside0.mk (blk_below HZ.out hal)
  clear hal hlt hz0 hz1 hz2 hz3 hz4 hz5 hz6 hz7 hz8 hz9 hz10 hz11 hz12 hz13
  generalize w2.alloc (.cells #[.int .u64 p1, .int .u64 p2] 44) = w3 at HB HK HZ HF ⊢
  generalize hg : w2.heap.size = g at HF HG ⊢
  clear hg
  cases p3 with
  | false =>
    rw [if_neg (by decide)] at h
    injection h with h
    simp only [Prod.mk.injEq] at h
    obtain ⟨rfl, rfl, rfl⟩ := h
    obtain ⟨hy0, hy1, hy2, hy3, hy4, hy5, hy6, hy7, hy8, hy9, hy10, hy11, hy12, hy13⟩ := cz7_ HZ.out
    go_wp2
    refine bodyPost_ret (results_ctt rfl _ _ (w.heap.size + 1) 25 #[.int .u64 0, .int .u64 0, .int .u64 0, .int .u64 0, .int .u64 0, .slice none 0 0, .bool false] (0, 0) _ rfl (zero7_self HZ.out) Try.underlying25 rfl (by kernel_rfl)) rfl ?_
    exact ⟨_, rfl, Kd.R_nil _ _ _ _ _, zero7_below HB.out (Nat.le_succ _)⟩
  | true =>
  rw [if_pos rfl] at h
  by_cases hlen : c.f5.length ≤ 100000
  case neg => rw [if_neg hlen] at h; cases h
  rw [if_pos hlen] at h
  injection h with h
  simp only [Prod.mk.injEq] at h
  obtain ⟨rfl, rfl, rfl⟩ := h
  obtain ⟨hz0, hz1, hz2, hz3, hz4, hz5, hz6, hz7, hz8, hz9, hz10, hz11, hz12, hz13⟩ := cz7_ HK.out
  have hlt := blk_lt HK.out
  go_wp2
  have hal := (Below.refl w3.heap.size w3).alloc (Nat.le_refl _) (.cells #[.int .u64 c.f0, .int .u64 c.f1, .int .u64 c.f2, .int .u64 c.f3, .int .u64 c.f4, .slice none 0 0, .bool c.f6] 25)
  have HO := Aside0.mk (blk_new w3 (.cells #[.int .u64 c.f0, .int .u64 c.f1, .int .u64 c.f2, .int .u64 c.f3, .int .u64 c.f4, .slice none 0 0, .bool c.f6] 25))
  have HG2 : Aside0 (g < w3.heap.size) := ⟨blk_lt HF.out⟩
  have HBASE : Aside0 (w3.heap.size + 1 ≤ (w3.alloc (.cells #[.int .u64 c.f0, .int .u64 c.f1, .int .u64 c.f2, .int .u64 c.f3, .int .u64 c.f4, .slice none 0 0, .bool c.f6] 25)).heap.size) := ⟨by simp⟩
  replace HB := Aside0.mk (below_then HB.out HB.out.size hal)
  replace HK := Aside0.mk (blk_below HK.out hal)
  replace HZ := Aside0.mk (blk_below HZ.out hal)
  replace HF := Aside0.mk (blk_below HF.out hal)
  clear hal hlt hz0 hz1 hz2 hz3 hz4 hz5 hz6 hz7 hz8 hz9 hz10 hz11 hz12 hz13
  generalize w3.alloc (.cells #[.int .u64 c.f0, .int .u64 c.f1, .int .u64 c.f2, .int .u64 c.f3, .int .u64 c.f4, .slice none 0 0, .bool c.f6] 25) = w4 at HB HK HZ HO HF HBASE ⊢
  generalize hg : w3.heap.size = g3 at HO HG2 HBASE ⊢
  clear hg
  obtain ⟨base, hbase⟩ : ∃ base, base = g3 + 1 := ⟨_, rfl⟩
  have HB2 := Aside0.mk hbase
  rw [← hbase] at HBASE
  clear hbase
  go_loopw [31] (fun vi wr => ∃ (i : Nat) (vo : Value), i ≤ c.f5.length ∧ vi = .int .i64 i ∧ Aside0 (Kd.R k44 44 wr base (fun k_ => base ≤ k_) vo ((c.f5.take i).filter (damsonref09_without.P id))) ∧ Aside0 (Below w.heap.size w wr) ∧ Aside0 (wr.heap[w.heap.size]? = some (.cells #[.int .u64 c.f0, .int .u64 c.f1, .int .u64 c.f2, .int .u64 c.f3, .int .u64 c.f4, .slice A0 c.f5.length c0, .bool c.f6] 25 (0, 0))) ∧ Aside0 (wr.heap[w.heap.size + 1]? = some (.cells #[.int .u64 0, .int .u64 0, .int .u64 0, .int .u64 0, .int .u64 0, .slice none 0 0, .bool false] 25 (0, 0))) ∧ Aside0 (wr.heap[g3]? = some (.cells #[.int .u64 c.f0, .int .u64 c.f1, .int .u64 c.f2, .int .u64 c.f3, .int .u64 c.f4, vo, .bool c.f6] 25 (0, 0))) ∧ Aside0 (wr.heap[g]? = some (.cells #[.int .u64 p1, .int .u64 p2] 44 (0, 0))) ∧ Aside0 (base ≤ wr.heap.size)) (fun vi _ => c.f5.length - (intOf vi).toNat)
  case atStart => exact ⟨0, _, Nat.zero_le _, rfl, ⟨Kd.R_nil _ _ _ _ _⟩, HB, HK, HZ, HO, HF, HBASE⟩
  case round =>
   clear HB HK HZ HO HF HBASE
   obtain ⟨i, vo, hi, rfl, HR, HB, HK, HZ, HO, HF, HBASE⟩ := hrel
   obtain ⟨Ao, co, hvo⟩ := Kd.R_slice HR.out
   subst hvo
   by_cases hil : i < c.f5.length
   · obtain ⟨ad, ea, hx0, hx1⟩ := at_T44 HR0.out (i : Int) (by omega) (by omega)
     subst ea
     have hft := filter_take44 (damsonref09_without.P id) hil
     obtain ⟨x, hx⟩ : ∃ x, x = rd_T44 c.f5 (i : Int) := ⟨_, rfl⟩
     simp only [← hx, Int.toNat_natCast] at hx0 hx1 hft
     clear hx
     replace hx0 := (HB.out.cell (World.block_lt_of_cell? w _ hx0)).trans hx0
     replace hx1 := (HB.out.cell (World.block_lt_of_cell? w _ hx1)).trans hx1
     have hal := (Below.refl wr.heap.size wr).alloc (Nat.le_refl _) (.cells #[.int .u64 x.f0, .int .u64 x.f1] 44)
     have hlen2 : ((c.f5.take i).filter (damsonref09_without.P id)).length ≤ 100000 := Nat.le_trans (List.length_filter_le _ _) (by rw [List.length_take]; omega)
     have HLEN := Aside0.mk hlen2
     clear hlen2
     by_cases hq : x.f0 = id
     · have hqb : (x.f0 != id) = false := bne_eq_false_iff_eq.mpr hq
       have hpx : damsonref09_without.P id x = false := decide_eq_false (by omega)
       rw [if_neg (by rw [hpx]; decide), List.append_nil] at hft
       have HFT := Aside0.mk hft
       have HAL := Aside0.mk hal
       clear hq hpx hft hal
       go_wp2
       go_roundw
       case rel => exact ⟨i + 1, _, by omega, by go_num, ⟨by rw [HFT.out]; exact Kd.R_below HR.out HAL.out⟩, ⟨below_then HB.out HB.out.size HAL.out⟩, ⟨blk_below HK.out HAL.out⟩, ⟨blk_below HZ.out HAL.out⟩, ⟨blk_below HO.out HAL.out⟩, ⟨blk_below HF.out HAL.out⟩, ⟨Nat.le_trans HBASE.out HAL.out.size⟩⟩
       case measure => simp [intOf]; omega
     · have hqb : (x.f0 != id) = true := bne_iff_ne.mpr hq
       have hpx : damsonref09_without.P id x = true := decide_eq_true hq
       rw [if_pos hpx] at hft
       have HFT := Aside0.mk hft
       have hlo : g3 < wr.heap.size := blk_lt HO.out
       obtain ⟨ho0, ho1, ho2, ho3, ho4, ho5, ho6, ho7, ho8, ho9, ho10, ho11, ho12, ho13⟩ := cz7_ HO.out
       have HRW := Aside0.mk (Kd.R_below HR.out hal)
       replace HB := Aside0.mk (below_then HB.out HB.out.size hal)
       replace HK := Aside0.mk (blk_below HK.out hal)
       replace HZ := Aside0.mk (blk_below HZ.out hal)
       replace HO := Aside0.mk (blk_below HO.out hal)
       replace HF := Aside0.mk (blk_below HF.out hal)
       replace HBASE := Aside0.mk (Nat.le_trans HBASE.out hal.size)
       clear hq hpx hft hal
       go_wp2_with (first | ((with_reducible refine gate_builtin (b := .append) (xs := #[.tmp 40, .tmp 42]) rfl ?_); at_builtin; refine Kd.R_append k44 (w0 := _) base rfl (.tmp 40) (.tmp 42) 23 44 (.agg #[(.int .u64 0), (.int .u64 0)]) 16 rfl Try.underlying23 info44 rfl (by decide) (by omega) (.slice Ao ((c.f5.take i).filter (damsonref09_without.P id)).length co) ((c.f5.take i).filter (damsonref09_without.P id)) x [.int .u64 x.f0, .int .u64 x.f1] (fun k_ => base ≤ k_) (fun _ => False) rfl (by first | (go_simp; done) | (go_simp; rfl)) (k44_mkM _ _ _ x) (fun _ hk => hk.elim) (fun k_ hk => Nat.le_trans HBASE.out hk) HRW.out (Below.refl _ _) HBASE.out (by have := HLEN.out; omega) ?_; intro v1 w1 ho hb hg hat; obtain ⟨Av, cv, hv1⟩ := Kd.R_slice ho; subst hv1; have hlo1 := HG.out; have hlo2 := HB2.out; have hlo3 := HG2.out; replace HB := Aside0.mk (HB.out.trans (hb.mono (by omega))); replace HK := Aside0.mk (blk_low HK.out hb (by omega)); replace HZ := Aside0.mk (blk_low HZ.out hb (by omega)); replace HO := Aside0.mk (blk_low HO.out hb (by omega)); replace HF := Aside0.mk (blk_low HF.out hb (by omega)); replace HBASE := Aside0.mk (Nat.le_trans HBASE.out hb.size); rw [show ((c.f5.take i).filter (damsonref09_without.P id) ++ [x]).length = ((c.f5.take i).filter (damsonref09_without.P id)).length + 1 from by simp] at ho; have HRN := Aside0.mk ho; clear hlo1 hlo2 hlo3 hlo HRW HR HLEN ho0 ho1 ho2 ho3 ho4 ho5 ho6 ho7 ho8 ho9 ho10 ho11 ho12 ho13; obtain ⟨hn0, hn1, hn2, hn3, hn4, hn5, hn6, hn7, hn8, hn9, hn10, hn11, hn12, hn13⟩ := cz7_ HO.out; clear ho hb hg hat))
       go_roundw
       case rel => exact ⟨i + 1, _, by omega, by go_num, ⟨by rw [HFT.out]; exact Kd.R_far (p := ⟨g3, 5, none⟩) HRN.out (fun k_ hk => by have := HB2.out; show k_ ≠ g3; omega) _⟩, ⟨HB.out.setCell (by have := HG.out; have := HG2.out; show w.heap.size ≤ g3; omega) _⟩, ⟨blk_far HK.out (p := ⟨g3, 5, none⟩) (by have := HG.out; have := HG2.out; show w.heap.size ≠ g3; omega) _⟩, ⟨blk_far HZ.out (p := ⟨g3, 5, none⟩) (by have := HG.out; have := HG2.out; show w.heap.size + 1 ≠ g3; omega) _⟩, ⟨box5 HO.out _⟩, ⟨blk_far HF.out (p := ⟨g3, 5, none⟩) (by have := HG2.out; show g ≠ g3; omega) _⟩, ⟨by simpa using HBASE.out⟩⟩
       case measure => simp [intOf]; omega
   · obtain rfl : i = c.f5.length := by omega
     rw [List.take_length] at HR HO
     go_wp2
     replace HB := Aside0.mk (below_drew1 HB.out)
     replace HK := Aside0.mk (blk_drew HK.out)
     replace HZ := Aside0.mk (blk_drew HZ.out)
     replace HO := Aside0.mk (blk_drew HO.out)
     replace HF := Aside0.mk (blk_drew HF.out)
     replace HR := Aside0.mk (Kd.R_drew HR.out)
     refine start_ (n := 6) (S := fun w' => w'.cell? ⟨g3, 0, none⟩ = some (.int .u64 c.f0) ∧ w'.cell? ⟨g3, 1, none⟩ = some (.int .u64 c.f1) ∧ w'.cell? ⟨g3, 2, none⟩ = some (.int .u64 c.f2) ∧ w'.cell? ⟨g3, 3, none⟩ = some (.int .u64 c.f3) ∧ w'.cell? ⟨g3, 4, none⟩ = some (.int .u64 c.f4) ∧ w'.cell? ⟨g3, 5, none⟩ = some (.slice Ao (c.f5.filter (damsonref09_without.P id)).length co) ∧ w'.cell? ⟨g3, 6, none⟩ = some (.bool c.f6) ∧ w'.cell? ⟨g, 1, none⟩ = some (.int .u64 p2)) (ds := []) #[false, false, false, false, false, false] (by kernel_rfl) rfl rfl ⟨(blk_cell HO.out 0).trans rfl, (blk_cell HO.out 1).trans rfl, (blk_cell HO.out 2).trans rfl, (blk_cell HO.out 3).trans rfl, (blk_cell HO.out 4).trans rfl, (blk_cell HO.out 5).trans rfl, (blk_cell HO.out 6).trans rfl, (blk_cell HF.out 1).trans rfl⟩ (fun hHeld => ?_)
     generalize wr.drew = wd at HB HK HZ HO HF HR hHeld ⊢
     refine pure_ (i := 1) (N := some 47) (v := ?_) (a' := ?_) #[false, true, false, false, false, false] rfl rfl (by kernel_rfl) (fun _ _ _ h => h) (Or.inl ⟨by rfl, ?_⟩) ?_ ?_
     rotate_left
     · intro w'
       go_simp
       with_reducible rfl
     rotate_left
     · simp only [Act.put, List.setIfInBounds_toArray, List.set_cons_zero, List.set_cons_succ, i64_w, i32_w]
       rfl
     refine take_ (i := 0) (N := some 46) (v := ?_) (a' := ?_) #[true, true, false, false, false, false] rfl rfl (by kernel_rfl) (fun _ _ _ h => h) (Or.inl ⟨by rfl, ?_⟩) hHeld ?_ ?_
     rotate_left
     · rintro w' ⟨s0, s1, s2, s3, s4, s5, s6, s7⟩
       go_simp
       with_reducible rfl
     rotate_left
     · simp only [Act.put, List.setIfInBounds_toArray, List.set_cons_zero, List.set_cons_succ, i64_w, i32_w]
       rfl
     refine take_ (i := 2) (N := some 48) (v := ?_) (a' := ?_) #[true, true, true, false, false, false] rfl rfl (by kernel_rfl) (fun _ _ _ h => h) (Or.inl ⟨by rfl, ?_⟩) hHeld ?_ ?_
     rotate_left
     · rintro w' ⟨s0, s1, s2, s3, s4, s5, s6, s7⟩
       go_simp
       with_reducible rfl
     rotate_left
     · simp only [Act.put, List.setIfInBounds_toArray, List.set_cons_zero, List.set_cons_succ, i64_w, i32_w]
       rfl
     refine one_ (i := 3) (N := none) #[true, true, true, true, false, false] rfl rfl (by kernel_rfl) (by decide) (fun K hK => ?_)
     obtain ⟨hs0, hs1, hs2, hs3, hs4, hs5, hs6, hs7, hs8, hs9, hs10, hs11, hs12, hs13⟩ := cz7_ HZ.out
     refine skip_ (w1 := put7 wd (w.heap.size + 1) c (.slice Ao (c.f5.filter (damsonref09_without.P id)).length co)) (by rfl) rfl ?_ ?_
     · go_simp
       rfl
     clear hs0 hs1 hs2 hs3 hs4 hs5 hs6 hs7 hs8 hs9 hs10 hs11 hs12 hs13
     have hlo1 := HG.out
     have hlo2 := HB2.out
     have hlo3 := HG2.out
     replace HB := Aside0.mk (put7_below (c := c) (v := .slice Ao (c.f5.filter (damsonref09_without.P id)).length co) HB.out (Nat.le_succ _))
     replace HO := Aside0.mk (put7_far (c := c) (v := .slice Ao (c.f5.filter (damsonref09_without.P id)).length co) HO.out (show g3 ≠ w.heap.size + 1 by omega))
     replace HF := Aside0.mk (put7_far (c := c) (v := .slice Ao (c.f5.filter (damsonref09_without.P id)).length co) HF.out (show g ≠ w.heap.size + 1 by omega))
     replace HZ := Aside0.mk (put7_self (c := c) (v := .slice Ao (c.f5.filter (damsonref09_without.P id)).length co) HZ.out)
     replace HR := Aside0.mk (put7_R (c := c) (v := .slice Ao (c.f5.filter (damsonref09_without.P id)).length co) HR.out (fun k_ hk => (show k_ ≠ w.heap.size + 1 by omega)))
     clear hlo1 hlo2 hlo3 HK
     generalize put7 wd (w.heap.size + 1) c (.slice Ao (c.f5.filter (damsonref09_without.P id)).length co) = w7 at HB HO HF HZ HR ⊢
     refine hK.out _ _ ⟨(blk_cell HO.out 0).trans rfl, (blk_cell HO.out 1).trans rfl, (blk_cell HO.out 2).trans rfl, (blk_cell HO.out 3).trans rfl, (blk_cell HO.out 4).trans rfl, (blk_cell HO.out 5).trans rfl, (blk_cell HO.out 6).trans rfl, (blk_cell HF.out 1).trans rfl⟩ (fun hHeld => ?_)
     clear hK K
     refine pure_ (i := 4) (N := some 5) (v := ?_) (a' := ?_) #[true, true, true, true, true, false] rfl rfl (by kernel_rfl) (fun _ _ _ h => h) (Or.inl ⟨by rfl, ?_⟩) ?_ ?_
     rotate_left
     · intro w'
       go_simp
       with_reducible rfl
     rotate_left
     · simp only [Act.put, List.setIfInBounds_toArray, List.set_cons_zero, List.set_cons_succ, i64_w, i32_w]
       rfl
     refine pure_ (i := 5) (N := some 6) (v := ?_) (a' := ?_) #[true, true, true, true, true, true] rfl rfl (by kernel_rfl) (fun _ _ _ h => h) (Or.inl ⟨by rfl, ?_⟩) ?_ ?_
     rotate_left
     · intro w'
       go_simp
       with_reducible rfl
     rotate_left
     · simp only [Act.put, List.setIfInBounds_toArray, List.set_cons_zero, List.set_cons_succ, i64_w, i32_w]
       rfl
     refine done_ (by kernel_rfl) ?_
     go_wp2
     refine bodyPost_ret (results_ctt rfl _ _ (w.heap.size + 1) 25 #[.int .u64 c.f0, .int .u64 c.f1, .int .u64 c.f2, .int .u64 c.f3, .int .u64 c.f4, .slice Ao (c.f5.filter (damsonref09_without.P id)).length co, .bool c.f6] (0, 0) _ rfl HZ.out Try.underlying25 rfl (by kernel_rfl)) rfl ?_
     exact ⟨_, rfl, Kd.R_lower (Kd.R_mono HR.out (fun _ _ => trivial)) (by have := HG.out; have := HG2.out; have := HB2.out; omega), HB.out⟩
theorem damsonref09_without.calls (k : Nat) (a0_0 : Int) (a0_1 : Int) (a0_2 : Int) (a0_3 : Int) (a0_4 : Int) (A0_5 : Option Addr) (c0_5 : Nat) (l0_5 : List (S44)) (a0_6 : Bool) (a1 : Int) (r1 : Int) (r2 : Int) (r3 : Int) (r4 : Int) (r5 : Int) (r6 : List (S44)) (r7 : Bool) (r8 : Int) (r9 : Int) (w : World) (hr0_5 : Kd.C k44 w A0_5 l0_5.length l0_5) (hc0_5 : l0_5.length ≤ c0_5) (h : damsonref09_without.f k a0_0 a0_1 a0_2 a0_3 a0_4 l0_5 a0_6 a1 = some (r1, r2, r3, r4, r5, r6, r7, r8, r9)) :
    Calls Try.prog 98 #[.agg #[.int .u64 a0_0, .int .u64 a0_1, .int .u64 a0_2, .int .u64 a0_3, .int .u64 a0_4, .slice A0_5 l0_5.length c0_5, .bool a0_6], .int .u64 a1] w fun e w' => ∃ v5_ : Value, e = .returned (.tuple #[.agg #[.int .u64 r1, .int .u64 r2, .int .u64 r3, .int .u64 r4, .int .u64 r5, v5_, .bool r7], .int .u64 r8, .int .i64 r9]) ∧ Kd.R k44 44 w' w.heap.size (fun _ => True) v5_ r6 ∧ Below w.heap.size w w' := by
  unfold damsonref09_without.f at h
  obtain ⟨⟨d, q, er⟩, h1, h2⟩ := Option.bind_eq_some_iff.mp h
  injection h2 with h2
  simp only [Prod.mk.injEq] at h2
  obtain ⟨rfl, rfl, rfl, rfl, rfl, rfl, rfl, rfl, rfl⟩ := h2
  exact damsonref09_without.callsS k ⟨a0_0, a0_1, a0_2, a0_3, a0_4, l0_5, a0_6⟩ A0_5 c0_5 a1 d q er w hr0_5 hc0_5 h1

/-! ### damsonref09_Settle: function 40 -/
def damsonref09_Settle.f (k : Nat) (a0_0 : Int) (a0_1 : Int) (a0_2 : Int) (a0_3 : Int) (a0_4 : Int) (l0_5 : List (S44)) (a0_6 : Bool) (a1 : Int) : Option (Int × Int × Int × Int × Int × (List (S44)) × Bool × Int × Int) := (damsonref09_without.f k a0_0 a0_1 a0_2 a0_3 a0_4 l0_5 a0_6 a1).bind fun bt296 => (some (bt296.1, bt296.2.1, IntKind.u64.wrap (bt296.2.2.1 + bt296.2.2.2.2.2.2.2.1), bt296.2.2.2.1, bt296.2.2.2.2.1, bt296.2.2.2.2.2.1, bt296.2.2.2.2.2.2.1, bt296.2.2.2.2.2.2.2.1, bt296.2.2.2.2.2.2.2.2))
theorem damsonref09_Settle.mono : ∀ a0 a1 a2 a3 a4 a5 a6 a7 k, LeO (damsonref09_Settle.f k a0 a1 a2 a3 a4 a5 a6 a7) (damsonref09_Settle.f (k + 1) a0 a1 a2 a3 a4 a5 a6 a7) := by
  intro a0 a1 a2 a3 a4 a5 a6 a7 k
  unfold damsonref09_Settle.f
  repeat' first
      | (with_reducible exact damsonref09_without.mono _ _ _ _ _ _ _ _ _)
      | (with_reducible exact LeO.refl _)
      | (with_reducible exact LeO.none _)
      | (with_reducible refine LeO.ite ?_ ?_)
      | (with_reducible refine LeO.bind ?_ (fun _ => ?_))
      | exact damsonref09_without.mono _ _ _ _ _ _ _ _ _
      | exact LeO.none _
      | refine LeO.ite ?_ ?_
      | refine LeO.bind ?_ (fun _ => ?_)
set_option maxHeartbeats 8000000 in
set_option maxRecDepth 100000 in
theorem damsonref09_Settle.calls (k : Nat) (a0_0 : Int) (a0_1 : Int) (a0_2 : Int) (a0_3 : Int) (a0_4 : Int) (A0_5 : Option Addr) (c0_5 : Nat) (l0_5 : List (S44)) (a0_6 : Bool) (a1 : Int) (r1 : Int) (r2 : Int) (r3 : Int) (r4 : Int) (r5 : Int) (r6 : List (S44)) (r7 : Bool) (r8 : Int) (r9 : Int) (w : World) (hr0_5 : Kd.C k44 w A0_5 l0_5.length l0_5) (hc0_5 : l0_5.length ≤ c0_5) (h : damsonref09_Settle.f k a0_0 a0_1 a0_2 a0_3 a0_4 l0_5 a0_6 a1 = some (r1, r2, r3, r4, r5, r6, r7, r8, r9)) :
    Calls Try.prog 40 #[.agg #[.int .u64 a0_0, .int .u64 a0_1, .int .u64 a0_2, .int .u64 a0_3, .int .u64 a0_4, .slice A0_5 l0_5.length c0_5, .bool a0_6], .int .u64 a1] w fun e w' => ∃ v5_ : Value, e = .returned (.tuple #[.agg #[.int .u64 r1, .int .u64 r2, .int .u64 r3, .int .u64 r4, .int .u64 r5, v5_, .bool r7], .int .u64 r8, .int .i64 r9]) ∧ Kd.R k44 44 w' w.heap.size (fun _ => True) v5_ r6 ∧ Below w.heap.size w w' := by
  have hu25 := Try.underlying25
  have HR0_5 := Aside0.mk hr0_5
  have HC0_5 := Aside0.mk hc0_5
  clear hr0_5 hc0_5
  have HB := Aside0.mk (Below.refl w.heap.size w)
  have H : ((damsonref09_without.f k a0_0 a0_1 a0_2 a0_3 a0_4 l0_5 a0_6 a1).bind fun bt296 => (some (bt296.1, bt296.2.1, IntKind.u64.wrap (bt296.2.2.1 + bt296.2.2.2.2.2.2.2.1), bt296.2.2.2.1, bt296.2.2.2.2.1, bt296.2.2.2.2.2.1, bt296.2.2.2.2.2.2.1, bt296.2.2.2.2.2.2.2.1, bt296.2.2.2.2.2.2.2.2))) = some (r1, r2, r3, r4, r5, r6, r7, r8, r9) := h
  clear h
  replace H := Option.bind_eq_some_iff.mp H
  obtain ⟨⟨t296, t297, t298, t299, t300, t301, t304, t305, t306⟩, A30, H⟩ := H
  replace H : (some (t296, t297, IntKind.u64.wrap (t298 + t305), t299, t300, t301, t304, t305, t306)) = some (r1, r2, r3, r4, r5, r6, r7, r8, r9) := H
  have A3 := Aside0.mk A30
  clear A30
  simp only [Option.some.injEq, Prod.mk.injEq] at H
  obtain ⟨rfl, rfl, rfl, rfl, rfl, rfl, rfl, rfl, rfl⟩ := H
  go_enter Try.func40, Try.ntmps40
  go_wp2_with (first | ((with_reducible refine gate_dst (N := 2) rfl ?_); refine box_event ?hg (N := 2) ?hd (cs := #[.int .u64 a0_0, .int .u64 a0_1, .int .u64 a0_2, .int .u64 a0_3, .int .u64 a0_4, .slice A0_5 l0_5.length c0_5, .bool a0_6]) (t := 25) ?hr ?_; (case hd => rfl); (case hg => rfl); (case hr => first | (go_simp; done) | (go_simp; rfl)); intro gb294 hg w4 hbox hb; have n0_ := Aside0.mk (below_step (belN HB) hb); have n1_ := Aside0.mk (hbox); have n2_ := Aside0.mk ((by rw [hg]; exact (below_size (belN HB)) : w.heap.size ≤ gb294)); have n3_ := Aside0.mk ((by rw [hg]; exact (below_size (belN HB)) : w.heap.size ≤ gb294)); clear HB; have HB := n0_; have BK294 := n1_; have GW294 := n2_; have GE294 := n3_; clear n0_ n1_ n2_ n3_; clear hb hbox hg) | ((with_reducible refine gate_dst (N := 4) rfl ?_); refine box_event ?hg (N := 4) ?hd (cs := #[.int .u64 0, .int .u64 0, .int .u64 0, .int .u64 0, .int .u64 0, .slice none 0 0, .bool false]) (t := 25) ?hr ?_; (case hd => rfl); (case hg => rfl); (case hr => first | (go_simp; done) | (go_simp; rfl)); intro gb295 hg w5 hbox hb; have n0_ := Aside0.mk (blk_below (g := gb294) (blkN BK294) hb); have n1_ := Aside0.mk (below_step (belN HB) hb); have n2_ := Aside0.mk (hbox); have n3_ := Aside0.mk ((by rw [hg]; exact (below_size (belN HB)) : w.heap.size ≤ gb295)); have n4_ := Aside0.mk ((by rw [hg]; exact (below_size (belN HB)) : w.heap.size ≤ gb295)); have n5_ := Aside0.mk ((by rw [hg]; exact Nat.ne_of_lt (blk_lt (g := gb294) (blkN BK294)) : gb294 ≠ gb295)); have n6_ := Aside0.mk ((by rw [hg]; exact Nat.ne_of_gt (blk_lt (g := gb294) (blkN BK294)) : gb295 ≠ gb294)); clear BK294; clear HB; have BK294 := n0_; have HB := n1_; have BK295 := n2_; have GW295 := n3_; have GE295 := n4_; have NB294_295 := n5_; have NB295_294 := n6_; clear n0_ n1_ n2_ n3_ n4_ n5_ n6_; clear hb hbox hg; have hnb6 := NB294_295.out; have hnc6 := NB295_294.out; obtain ⟨hcz7_0, hcz7_1, hcz7_2, hcz7_3, hcz7_4, hcz7_5, hcz7_6, hfz7_0, hfz7_1, hfz7_2, hfz7_3, hfz7_4, hfz7_5, hfz7_6⟩ := cz7_ (w := w5) BK294.out) | ((with_reducible refine gate_callee (f := 98) rfl ?_); refine goesL_ (some 13) rfl rfl Try.func98 (by kernel_rfl) rfl #[.agg #[.int .u64 a0_0, .int .u64 a0_1, .int .u64 a0_2, .int .u64 a0_3, .int .u64 a0_4, .slice A0_5 l0_5.length c0_5, .bool a0_6], .int .u64 a1] rfl (by (try simp only [List.map_toArray, List.map_cons, List.map_nil]); first | done | rfl | (simp only [List.length_drop, List.length_take]; rfl)) ?_; (with_reducible refine (damsonref09_without.calls k a0_0 a0_1 a0_2 a0_3 a0_4 _ _ l0_5 a0_6 a1 t296 t297 t298 t299 t300 t301 t304 t305 t306 _ ?side1 ?side2 A3.out).mono ?_); (case side1 => repeat (first | exact (Kd.C_below HR0_5.out HB.out) | (with_reducible refine Kd.C_alloc ?_ _) | (with_reducible refine Kd.C_drewN ?_ _) | (with_reducible refine Kd.C_drew ?_))); (case side2 => exact HC0_5.out); rintro e w8 ⟨v302, rfl, ho0, hb⟩; refine ⟨_, rfl, ?_⟩; have n0_ := Aside0.mk (Kd.R_lower ho0 (below_size (belN HB))); have n1_ := Aside0.mk (blk_below (g := gb294) (blkN BK294) hb); have n2_ := Aside0.mk (blk_below (g := gb295) (blkN BK295) hb); have n3_ := Aside0.mk (below_step (belN HB) hb); clear BK294; clear BK295; clear HB; have HO303 := n0_; have BK294 := n1_; have BK295 := n2_; have HB := n3_; clear n0_ n1_ n2_ n3_; (try clear hb); (try clear hb2); (try clear hk); (try clear hi); (try clear ho0)) | ((with_reducible refine gate_dst (N := 7) rfl ?_); refine box_event ?hg (N := 7) ?hd (cs := #[.int .u64 0, .int .u64 0, .int .u64 0, .int .u64 0, .int .u64 0, .slice none 0 0, .bool false]) (t := 25) ?hr ?_; (case hd => rfl); (case hg => rfl); (case hr => first | (go_simp; done) | (go_simp; rfl)); intro gb307 hg w9 hbox hb; have n0_ := Aside0.mk (Kd.R_below (Kd.RN HO303) hb); have n1_ := Aside0.mk (blk_below (g := gb294) (blkN BK294) hb); have n2_ := Aside0.mk (blk_below (g := gb295) (blkN BK295) hb); have n3_ := Aside0.mk (below_step (belN HB) hb); have n4_ := Aside0.mk (hbox); have n5_ := Aside0.mk ((by rw [hg]; exact (below_size (belN HB)) : w.heap.size ≤ gb307)); have n6_ := Aside0.mk ((by rw [hg]; exact (below_size (belN HB)) : w.heap.size ≤ gb307)); have n7_ := Aside0.mk ((by rw [hg]; exact Nat.ne_of_lt (blk_lt (g := gb294) (blkN BK294)) : gb294 ≠ gb307)); have n8_ := Aside0.mk ((by rw [hg]; exact Nat.ne_of_gt (blk_lt (g := gb294) (blkN BK294)) : gb307 ≠ gb294)); have n9_ := Aside0.mk ((by rw [hg]; exact Nat.ne_of_lt (blk_lt (g := gb295) (blkN BK295)) : gb295 ≠ gb307)); have n10_ := Aside0.mk ((by rw [hg]; exact Nat.ne_of_gt (blk_lt (g := gb295) (blkN BK295)) : gb307 ≠ gb295)); clear HO303; clear BK294; clear BK295; clear HB; have HO303 := n0_; have BK294 := n1_; have BK295 := n2_; have HB := n3_; have BK307 := n4_; have GW307 := n5_; have GE307 := n6_; have NB294_307 := n7_; have NB307_294 := n8_; have NB295_307 := n9_; have NB307_295 := n10_; clear n0_ n1_ n2_ n3_ n4_ n5_ n6_ n7_ n8_ n9_ n10_; clear hb hbox hg; have hnb10 := NB307_294.out; have hnc10 := NB294_307.out; have hnb11 := NB307_295.out; have hnc11 := NB295_307.out; obtain ⟨hcz12_0, hcz12_1, hcz12_2, hcz12_3, hcz12_4, hcz12_5, hcz12_6, hfz12_0, hfz12_1, hfz12_2, hfz12_3, hfz12_4, hfz12_5, hfz12_6⟩ := cz7_ (w := w9) BK307.out; obtain ⟨Ao13, co13, eo13⟩ := Kd.R_slice HO303.out; subst eo13) | ((with_reducible refine gate_store (t := 25) (p := 7) rfl ?_); refine store_event (t := 25) (p := 7) (v := ?vo_w14) (w1 := (((((((w9.setCell ⟨gb307, 0, none⟩ (.int .u64 t296)).setCell ⟨gb307, 1, none⟩ (.int .u64 t297)).setCell ⟨gb307, 2, none⟩ (.int .u64 t298)).setCell ⟨gb307, 3, none⟩ (.int .u64 t299)).setCell ⟨gb307, 4, none⟩ (.int .u64 t300)).setCell ⟨gb307, 5, none⟩ (.slice Ao13 t301.length co13)).setCell ⟨gb307, 6, none⟩ (.bool t304))) ?hg ?ho ?hn ?hr ?_; (case ho => rfl); (case hg => rfl); (case hn => rfl); (case hr => first | (go_simp; done) | (go_simp; rfl)); intro w14 hw; have n0_ : Aside0 (Kd.R k44 44 w14 w.heap.size (fun _ => True) (.slice Ao13 t301.length co13) t301) := ⟨(by rw [hw]; exact (by (with_reducible repeat (first | apply Kd.R_alloc | apply Kd.R_drewN | apply Kd.R_drew)); exact Kd.R_mono (Kd.R_far (p := ⟨gb307, 6, none⟩) (Kd.R_far (p := ⟨gb307, 5, none⟩) (Kd.R_far (p := ⟨gb307, 4, none⟩) (Kd.R_far (p := ⟨gb307, 3, none⟩) (Kd.R_far (p := ⟨gb307, 2, none⟩) (Kd.R_far (p := ⟨gb307, 1, none⟩) (Kd.R_far (p := ⟨gb307, 0, none⟩) (Kd.R_types HO303.out BK307.out (by decide)) (fun _ hk => hk.2) (.int .u64 t296)) (fun _ hk => hk.2) (.int .u64 t297)) (fun _ hk => hk.2) (.int .u64 t298)) (fun _ hk => hk.2) (.int .u64 t299)) (fun _ hk => hk.2) (.int .u64 t300)) (fun _ hk => hk.2) (.slice Ao13 t301.length co13)) (fun _ hk => hk.2) (.bool t304)) (fun _ hk => trivial)))⟩; have n1_ : Aside0 (w14.heap[gb294]? = some (.cells #[.int .u64 a0_0, .int .u64 a0_1, .int .u64 a0_2, .int .u64 a0_3, .int .u64 a0_4, .slice A0_5 l0_5.length c0_5, .bool a0_6] 25 (0, 0))) := ⟨(by rw [hw]; exact (blkF BK294))⟩; have n2_ : Aside0 (w14.heap[gb295]? = some (.cells #[.int .u64 0, .int .u64 0, .int .u64 0, .int .u64 0, .int .u64 0, .slice none 0 0, .bool false] 25 (0, 0))) := ⟨(by rw [hw]; exact (blkF BK295))⟩; have n3_ : Aside0 (w14.heap[gb307]? = some (.cells #[.int .u64 t296, .int .u64 t297, .int .u64 t298, .int .u64 t299, .int .u64 t300, .slice Ao13 t301.length co13, .bool t304] 25 (0, 0))) := ⟨(by rw [hw]; exact (by (with_reducible repeat (first | refine blk_drewN ?_ _ | refine blk_drew ?_ | refine blk_alloc ?_ _)); refine blk_put (cs := #[.int .u64 t296, .int .u64 t297, .int .u64 t298, .int .u64 t299, .int .u64 t300, .slice Ao13 t301.length co13, .bool false]) ?_ 6 _ rfl; refine blk_put (cs := #[.int .u64 t296, .int .u64 t297, .int .u64 t298, .int .u64 t299, .int .u64 t300, .slice none 0 0, .bool false]) ?_ 5 _ rfl; refine blk_put (cs := #[.int .u64 t296, .int .u64 t297, .int .u64 t298, .int .u64 t299, .int .u64 0, .slice none 0 0, .bool false]) ?_ 4 _ rfl; refine blk_put (cs := #[.int .u64 t296, .int .u64 t297, .int .u64 t298, .int .u64 0, .int .u64 0, .slice none 0 0, .bool false]) ?_ 3 _ rfl; refine blk_put (cs := #[.int .u64 t296, .int .u64 t297, .int .u64 0, .int .u64 0, .int .u64 0, .slice none 0 0, .bool false]) ?_ 2 _ rfl; refine blk_put (cs := #[.int .u64 t296, .int .u64 0, .int .u64 0, .int .u64 0, .int .u64 0, .slice none 0 0, .bool false]) ?_ 1 _ rfl; refine blk_put (cs := #[.int .u64 0, .int .u64 0, .int .u64 0, .int .u64 0, .int .u64 0, .slice none 0 0, .bool false]) ?_ 0 _ rfl; (with_reducible repeat (first | refine blk_drewN ?_ _ | refine blk_drew ?_ | refine blk_alloc ?_ _)); exact BK307.out))⟩; have n4_ : Aside0 (Below w.heap.size w w14) := ⟨(by rw [hw]; exact (belN HB))⟩; clear hw; clear HO303; clear BK294; clear BK295; clear BK307; clear HB; have HO303 := n0_; have BK294 := n1_; have BK295 := n2_; have BK307 := n3_; have HB := n4_; clear n0_ n1_ n2_ n3_ n4_; obtain ⟨hcz15_0, hcz15_1, hcz15_2, hcz15_3, hcz15_4, hcz15_5, hcz15_6, hfz15_0, hfz15_1, hfz15_2, hfz15_3, hfz15_4, hfz15_5, hfz15_6⟩ := cz7_ (w := w14) BK307.out; obtain ⟨hcz16_0, hcz16_1, hcz16_2, hcz16_3, hcz16_4, hcz16_5, hcz16_6, hfz16_0, hfz16_1, hfz16_2, hfz16_3, hfz16_4, hfz16_5, hfz16_6⟩ := cz7_ (w := w14) BK295.out) | ((with_reducible refine gate_store (t := 25) (p := 4) rfl ?_); refine store_event (t := 25) (p := 4) (v := ?vo_w17) (w1 := ((((((((w14.setCell ⟨gb307, 2, none⟩ (.int .u64 (IntKind.u64.wrap (t298 + t305)))).setCell ⟨gb295, 0, none⟩ (.int .u64 t296)).setCell ⟨gb295, 1, none⟩ (.int .u64 t297)).setCell ⟨gb295, 2, none⟩ (.int .u64 (IntKind.u64.wrap (t298 + t305)))).setCell ⟨gb295, 3, none⟩ (.int .u64 t299)).setCell ⟨gb295, 4, none⟩ (.int .u64 t300)).setCell ⟨gb295, 5, none⟩ (.slice Ao13 t301.length co13)).setCell ⟨gb295, 6, none⟩ (.bool t304))) ?hg ?ho ?hn ?hr ?_; (case ho => rfl); (case hg => rfl); (case hn => rfl); (case hr => first | (go_simp; done) | (go_simp; rfl)); intro w17 hw; have n0_ : Aside0 (Kd.R k44 44 w17 w.heap.size (fun _ => True) (.slice Ao13 t301.length co13) t301) := ⟨(by rw [hw]; exact (by (with_reducible repeat (first | apply Kd.R_alloc | apply Kd.R_drewN | apply Kd.R_drew)); exact Kd.R_mono (Kd.R_far (p := ⟨gb295, 6, none⟩) (Kd.R_far (p := ⟨gb295, 5, none⟩) (Kd.R_far (p := ⟨gb295, 4, none⟩) (Kd.R_far (p := ⟨gb295, 3, none⟩) (Kd.R_far (p := ⟨gb295, 2, none⟩) (Kd.R_far (p := ⟨gb295, 1, none⟩) (Kd.R_far (p := ⟨gb295, 0, none⟩) (Kd.R_far (p := ⟨gb307, 2, none⟩) (Kd.R_types (Kd.R_types HO303.out BK307.out (by decide)) BK295.out (by decide)) (fun _ hk => hk.1.2) (.int .u64 (IntKind.u64.wrap (t298 + t305)))) (fun _ hk => hk.2) (.int .u64 t296)) (fun _ hk => hk.2) (.int .u64 t297)) (fun _ hk => hk.2) (.int .u64 (IntKind.u64.wrap (t298 + t305)))) (fun _ hk => hk.2) (.int .u64 t299)) (fun _ hk => hk.2) (.int .u64 t300)) (fun _ hk => hk.2) (.slice Ao13 t301.length co13)) (fun _ hk => hk.2) (.bool t304)) (fun _ hk => trivial)))⟩; have n1_ : Aside0 (w17.heap[gb294]? = some (.cells #[.int .u64 a0_0, .int .u64 a0_1, .int .u64 a0_2, .int .u64 a0_3, .int .u64 a0_4, .slice A0_5 l0_5.length c0_5, .bool a0_6] 25 (0, 0))) := ⟨(by rw [hw]; exact (blkF BK294))⟩; have n2_ : Aside0 (w17.heap[gb295]? = some (.cells #[.int .u64 t296, .int .u64 t297, .int .u64 (IntKind.u64.wrap (t298 + t305)), .int .u64 t299, .int .u64 t300, .slice Ao13 t301.length co13, .bool t304] 25 (0, 0))) := ⟨(by rw [hw]; exact (by (with_reducible repeat (first | refine blk_drewN ?_ _ | refine blk_drew ?_ | refine blk_alloc ?_ _)); refine blk_put (cs := #[.int .u64 t296, .int .u64 t297, .int .u64 (IntKind.u64.wrap (t298 + t305)), .int .u64 t299, .int .u64 t300, .slice Ao13 t301.length co13, .bool false]) ?_ 6 _ rfl; refine blk_put (cs := #[.int .u64 t296, .int .u64 t297, .int .u64 (IntKind.u64.wrap (t298 + t305)), .int .u64 t299, .int .u64 t300, .slice none 0 0, .bool false]) ?_ 5 _ rfl; refine blk_put (cs := #[.int .u64 t296, .int .u64 t297, .int .u64 (IntKind.u64.wrap (t298 + t305)), .int .u64 t299, .int .u64 0, .slice none 0 0, .bool false]) ?_ 4 _ rfl; refine blk_put (cs := #[.int .u64 t296, .int .u64 t297, .int .u64 (IntKind.u64.wrap (t298 + t305)), .int .u64 0, .int .u64 0, .slice none 0 0, .bool false]) ?_ 3 _ rfl; refine blk_put (cs := #[.int .u64 t296, .int .u64 t297, .int .u64 0, .int .u64 0, .int .u64 0, .slice none 0 0, .bool false]) ?_ 2 _ rfl; refine blk_put (cs := #[.int .u64 t296, .int .u64 0, .int .u64 0, .int .u64 0, .int .u64 0, .slice none 0 0, .bool false]) ?_ 1 _ rfl; refine blk_put (cs := #[.int .u64 0, .int .u64 0, .int .u64 0, .int .u64 0, .int .u64 0, .slice none 0 0, .bool false]) ?_ 0 _ rfl; (with_reducible repeat (first | refine blk_drewN ?_ _ | refine blk_drew ?_ | refine blk_alloc ?_ _)); refine blk_far ?_ NB295_307.out _; (with_reducible repeat (first | refine blk_drewN ?_ _ | refine blk_drew ?_ | refine blk_alloc ?_ _)); exact BK295.out))⟩; have n3_ : Aside0 (w17.heap[gb307]? = some (.cells #[.int .u64 t296, .int .u64 t297, .int .u64 (IntKind.u64.wrap (t298 + t305)), .int .u64 t299, .int .u64 t300, .slice Ao13 t301.length co13, .bool t304] 25 (0, 0))) := ⟨(by rw [hw]; exact (by (with_reducible repeat (first | refine blk_drewN ?_ _ | refine blk_drew ?_ | refine blk_alloc ?_ _)); refine blk_far ?_ NB307_295.out _; (with_reducible repeat (first | refine blk_drewN ?_ _ | refine blk_drew ?_ | refine blk_alloc ?_ _)); refine blk_far ?_ NB307_295.out _; (with_reducible repeat (first | refine blk_drewN ?_ _ | refine blk_drew ?_ | refine blk_alloc ?_ _)); refine blk_far ?_ NB307_295.out _; (with_reducible repeat (first | refine blk_drewN ?_ _ | refine blk_drew ?_ | refine blk_alloc ?_ _)); refine blk_far ?_ NB307_295.out _; (with_reducible repeat (first | refine blk_drewN ?_ _ | refine blk_drew ?_ | refine blk_alloc ?_ _)); refine blk_far ?_ NB307_295.out _; (with_reducible repeat (first | refine blk_drewN ?_ _ | refine blk_drew ?_ | refine blk_alloc ?_ _)); refine blk_far ?_ NB307_295.out _; (with_reducible repeat (first | refine blk_drewN ?_ _ | refine blk_drew ?_ | refine blk_alloc ?_ _)); refine blk_far ?_ NB307_295.out _; (with_reducible repeat (first | refine blk_drewN ?_ _ | refine blk_drew ?_ | refine blk_alloc ?_ _)); refine blk_put (cs := #[.int .u64 t296, .int .u64 t297, .int .u64 t298, .int .u64 t299, .int .u64 t300, .slice Ao13 t301.length co13, .bool t304]) ?_ 2 _ rfl; (with_reducible repeat (first | refine blk_drewN ?_ _ | refine blk_drew ?_ | refine blk_alloc ?_ _)); exact BK307.out))⟩; have n4_ : Aside0 (Below w.heap.size w w17) := ⟨(by rw [hw]; exact (belN HB))⟩; clear hw; clear HO303; clear BK294; clear BK295; clear BK307; clear HB; have HO303 := n0_; have BK294 := n1_; have BK295 := n2_; have BK307 := n3_; have HB := n4_; clear n0_ n1_ n2_ n3_ n4_))
  refine bodyPost_ret (results_ctt rfl _ _ gb295 25 #[.int .u64 t296, .int .u64 t297, .int .u64 (IntKind.u64.wrap (t298 + t305)), .int .u64 t299, .int .u64 t300, .slice Ao13 t301.length co13, .bool t304] (0, 0) _ rfl (blkN BK295) Try.underlying25 rfl (by kernel_rfl)) rfl ?_
  exact ⟨_, by first | rfl | (simp [errW_none, errW_some] <;> rfl) | (simp [*, errW_none, errW_some] <;> rfl), by (with_reducible repeat (first | apply Kd.R_alloc | apply Kd.R_drewN | apply Kd.R_drew)); exact HO303.out, by repeat (first | (with_reducible first | exact HB.out | apply below_alloc | apply pw_below_drewN | apply below_drew1 | refine below_set ?_ GE294.out | refine below_set ?_ GE295.out | refine below_set ?_ GE307.out) | exact HB.out)⟩

/-! ### damsonref09_Fail: function 41 -/
def damsonref09_Fail.f (k : Nat) (a0_0 : Int) (a0_1 : Int) (a0_2 : Int) (a0_3 : Int) (a0_4 : Int) (l0_5 : List (S44)) (a0_6 : Bool) (a1 : Int) : Option (Int × Int × Int × Int × Int × (List (S44)) × Bool × Int × Int) := (damsonref09_without.f k a0_0 a0_1 a0_2 a0_3 a0_4 l0_5 a0_6 a1).bind fun bt310 => (some (bt310.1, IntKind.u64.wrap (bt310.2.1 + bt310.2.2.2.2.2.2.2.1), bt310.2.2.1, bt310.2.2.2.1, bt310.2.2.2.2.1, bt310.2.2.2.2.2.1, bt310.2.2.2.2.2.2.1, bt310.2.2.2.2.2.2.2.1, bt310.2.2.2.2.2.2.2.2))
theorem damsonref09_Fail.mono : ∀ a0 a1 a2 a3 a4 a5 a6 a7 k, LeO (damsonref09_Fail.f k a0 a1 a2 a3 a4 a5 a6 a7) (damsonref09_Fail.f (k + 1) a0 a1 a2 a3 a4 a5 a6 a7) := by
  intro a0 a1 a2 a3 a4 a5 a6 a7 k
  unfold damsonref09_Fail.f
  repeat' first
      | (with_reducible exact damsonref09_without.mono _ _ _ _ _ _ _ _ _)
      | (with_reducible exact LeO.refl _)
      | (with_reducible exact LeO.none _)
      | (with_reducible refine LeO.ite ?_ ?_)
      | (with_reducible refine LeO.bind ?_ (fun _ => ?_))
      | exact damsonref09_without.mono _ _ _ _ _ _ _ _ _
      | exact LeO.none _
      | refine LeO.ite ?_ ?_
      | refine LeO.bind ?_ (fun _ => ?_)
set_option maxHeartbeats 8000000 in
set_option maxRecDepth 100000 in
theorem damsonref09_Fail.calls (k : Nat) (a0_0 : Int) (a0_1 : Int) (a0_2 : Int) (a0_3 : Int) (a0_4 : Int) (A0_5 : Option Addr) (c0_5 : Nat) (l0_5 : List (S44)) (a0_6 : Bool) (a1 : Int) (r1 : Int) (r2 : Int) (r3 : Int) (r4 : Int) (r5 : Int) (r6 : List (S44)) (r7 : Bool) (r8 : Int) (r9 : Int) (w : World) (hr0_5 : Kd.C k44 w A0_5 l0_5.length l0_5) (hc0_5 : l0_5.length ≤ c0_5) (h : damsonref09_Fail.f k a0_0 a0_1 a0_2 a0_3 a0_4 l0_5 a0_6 a1 = some (r1, r2, r3, r4, r5, r6, r7, r8, r9)) :
    Calls Try.prog 41 #[.agg #[.int .u64 a0_0, .int .u64 a0_1, .int .u64 a0_2, .int .u64 a0_3, .int .u64 a0_4, .slice A0_5 l0_5.length c0_5, .bool a0_6], .int .u64 a1] w fun e w' => ∃ v5_ : Value, e = .returned (.tuple #[.agg #[.int .u64 r1, .int .u64 r2, .int .u64 r3, .int .u64 r4, .int .u64 r5, v5_, .bool r7], .int .u64 r8, .int .i64 r9]) ∧ Kd.R k44 44 w' w.heap.size (fun _ => True) v5_ r6 ∧ Below w.heap.size w w' := by
  have hu25 := Try.underlying25
  have HR0_5 := Aside0.mk hr0_5
  have HC0_5 := Aside0.mk hc0_5
  clear hr0_5 hc0_5
  have HB := Aside0.mk (Below.refl w.heap.size w)
  have H : ((damsonref09_without.f k a0_0 a0_1 a0_2 a0_3 a0_4 l0_5 a0_6 a1).bind fun bt310 => (some (bt310.1, IntKind.u64.wrap (bt310.2.1 + bt310.2.2.2.2.2.2.2.1), bt310.2.2.1, bt310.2.2.2.1, bt310.2.2.2.2.1, bt310.2.2.2.2.2.1, bt310.2.2.2.2.2.2.1, bt310.2.2.2.2.2.2.2.1, bt310.2.2.2.2.2.2.2.2))) = some (r1, r2, r3, r4, r5, r6, r7, r8, r9) := h
  clear h
  replace H := Option.bind_eq_some_iff.mp H
  obtain ⟨⟨t310, t311, t312, t313, t314, t315, t318, t319, t320⟩, A30, H⟩ := H
  replace H : (some (t310, IntKind.u64.wrap (t311 + t319), t312, t313, t314, t315, t318, t319, t320)) = some (r1, r2, r3, r4, r5, r6, r7, r8, r9) := H
  have A3 := Aside0.mk A30
  clear A30
  simp only [Option.some.injEq, Prod.mk.injEq] at H
  obtain ⟨rfl, rfl, rfl, rfl, rfl, rfl, rfl, rfl, rfl⟩ := H
  go_enter Try.func41, Try.ntmps41
  go_wp2_with (first | ((with_reducible refine gate_dst (N := 2) rfl ?_); refine box_event ?hg (N := 2) ?hd (cs := #[.int .u64 a0_0, .int .u64 a0_1, .int .u64 a0_2, .int .u64 a0_3, .int .u64 a0_4, .slice A0_5 l0_5.length c0_5, .bool a0_6]) (t := 25) ?hr ?_; (case hd => rfl); (case hg => rfl); (case hr => first | (go_simp; done) | (go_simp; rfl)); intro gb308 hg w4 hbox hb; have n0_ := Aside0.mk (below_step (belN HB) hb); have n1_ := Aside0.mk (hbox); have n2_ := Aside0.mk ((by rw [hg]; exact (below_size (belN HB)) : w.heap.size ≤ gb308)); have n3_ := Aside0.mk ((by rw [hg]; exact (below_size (belN HB)) : w.heap.size ≤ gb308)); clear HB; have HB := n0_; have BK308 := n1_; have GW308 := n2_; have GE308 := n3_; clear n0_ n1_ n2_ n3_; clear hb hbox hg) | ((with_reducible refine gate_dst (N := 4) rfl ?_); refine box_event ?hg (N := 4) ?hd (cs := #[.int .u64 0, .int .u64 0, .int .u64 0, .int .u64 0, .int .u64 0, .slice none 0 0, .bool false]) (t := 25) ?hr ?_; (case hd => rfl); (case hg => rfl); (case hr => first | (go_simp; done) | (go_simp; rfl)); intro gb309 hg w5 hbox hb; have n0_ := Aside0.mk (blk_below (g := gb308) (blkN BK308) hb); have n1_ := Aside0.mk (below_step (belN HB) hb); have n2_ := Aside0.mk (hbox); have n3_ := Aside0.mk ((by rw [hg]; exact (below_size (belN HB)) : w.heap.size ≤ gb309)); have n4_ := Aside0.mk ((by rw [hg]; exact (below_size (belN HB)) : w.heap.size ≤ gb309)); have n5_ := Aside0.mk ((by rw [hg]; exact Nat.ne_of_lt (blk_lt (g := gb308) (blkN BK308)) : gb308 ≠ gb309)); have n6_ := Aside0.mk ((by rw [hg]; exact Nat.ne_of_gt (blk_lt (g := gb308) (blkN BK308)) : gb309 ≠ gb308)); clear BK308; clear HB; have BK308 := n0_; have HB := n1_; have BK309 := n2_; have GW309 := n3_; have GE309 := n4_; have NB308_309 := n5_; have NB309_308 := n6_; clear n0_ n1_ n2_ n3_ n4_ n5_ n6_; clear hb hbox hg; have hnb6 := NB308_309.out; have hnc6 := NB309_308.out; obtain ⟨hcz7_0, hcz7_1, hcz7_2, hcz7_3, hcz7_4, hcz7_5, hcz7_6, hfz7_0, hfz7_1, hfz7_2, hfz7_3, hfz7_4, hfz7_5, hfz7_6⟩ := cz7_ (w := w5) BK308.out) | ((with_reducible refine gate_callee (f := 98) rfl ?_); refine goesL_ (some 13) rfl rfl Try.func98 (by kernel_rfl) rfl #[.agg #[.int .u64 a0_0, .int .u64 a0_1, .int .u64 a0_2, .int .u64 a0_3, .int .u64 a0_4, .slice A0_5 l0_5.length c0_5, .bool a0_6], .int .u64 a1] rfl (by (try simp only [List.map_toArray, List.map_cons, List.map_nil]); first | done | rfl | (simp only [List.length_drop, List.length_take]; rfl)) ?_; (with_reducible refine (damsonref09_without.calls k a0_0 a0_1 a0_2 a0_3 a0_4 _ _ l0_5 a0_6 a1 t310 t311 t312 t313 t314 t315 t318 t319 t320 _ ?side1 ?side2 A3.out).mono ?_); (case side1 => repeat (first | exact (Kd.C_below HR0_5.out HB.out) | (with_reducible refine Kd.C_alloc ?_ _) | (with_reducible refine Kd.C_drewN ?_ _) | (with_reducible refine Kd.C_drew ?_))); (case side2 => exact HC0_5.out); rintro e w8 ⟨v316, rfl, ho0, hb⟩; refine ⟨_, rfl, ?_⟩; have n0_ := Aside0.mk (Kd.R_lower ho0 (below_size (belN HB))); have n1_ := Aside0.mk (blk_below (g := gb308) (blkN BK308) hb); have n2_ := Aside0.mk (blk_below (g := gb309) (blkN BK309) hb); have n3_ := Aside0.mk (below_step (belN HB) hb); clear BK308; clear BK309; clear HB; have HO317 := n0_; have BK308 := n1_; have BK309 := n2_; have HB := n3_; clear n0_ n1_ n2_ n3_; (try clear hb); (try clear hb2); (try clear hk); (try clear hi); (try clear ho0)) | ((with_reducible refine gate_dst (N := 7) rfl ?_); refine box_event ?hg (N := 7) ?hd (cs := #[.int .u64 0, .int .u64 0, .int .u64 0, .int .u64 0, .int .u64 0, .slice none 0 0, .bool false]) (t := 25) ?hr ?_; (case hd => rfl); (case hg => rfl); (case hr => first | (go_simp; done) | (go_simp; rfl)); intro gb321 hg w9 hbox hb; have n0_ := Aside0.mk (Kd.R_below (Kd.RN HO317) hb); have n1_ := Aside0.mk (blk_below (g := gb308) (blkN BK308) hb); have n2_ := Aside0.mk (blk_below (g := gb309) (blkN BK309) hb); have n3_ := Aside0.mk (below_step (belN HB) hb); have n4_ := Aside0.mk (hbox); have n5_ := Aside0.mk ((by rw [hg]; exact (below_size (belN HB)) : w.heap.size ≤ gb321)); have n6_ := Aside0.mk ((by rw [hg]; exact (below_size (belN HB)) : w.heap.size ≤ gb321)); have n7_ := Aside0.mk ((by rw [hg]; exact Nat.ne_of_lt (blk_lt (g := gb308) (blkN BK308)) : gb308 ≠ gb321)); have n8_ := Aside0.mk ((by rw [hg]; exact Nat.ne_of_gt (blk_lt (g := gb308) (blkN BK308)) : gb321 ≠ gb308)); have n9_ := Aside0.mk ((by rw [hg]; exact Nat.ne_of_lt (blk_lt (g := gb309) (blkN BK309)) : gb309 ≠ gb321)); have n10_ := Aside0.mk ((by rw [hg]; exact Nat.ne_of_gt (blk_lt (g := gb309) (blkN BK309)) : gb321 ≠ gb309)); clear HO317; clear BK308; clear BK309; clear HB; have HO317 := n0_; have BK308 := n1_; have BK309 := n2_; have HB := n3_; have BK321 := n4_; have GW321 := n5_; have GE321 := n6_; have NB308_321 := n7_; have NB321_308 := n8_; have NB309_321 := n9_; have NB321_309 := n10_; clear n0_ n1_ n2_ n3_ n4_ n5_ n6_ n7_ n8_ n9_ n10_; clear hb hbox hg; have hnb10 := NB321_308.out; have hnc10 := NB308_321.out; have hnb11 := NB321_309.out; have hnc11 := NB309_321.out; obtain ⟨hcz12_0, hcz12_1, hcz12_2, hcz12_3, hcz12_4, hcz12_5, hcz12_6, hfz12_0, hfz12_1, hfz12_2, hfz12_3, hfz12_4, hfz12_5, hfz12_6⟩ := cz7_ (w := w9) BK321.out; obtain ⟨Ao13, co13, eo13⟩ := Kd.R_slice HO317.out; subst eo13) | ((with_reducible refine gate_store (t := 25) (p := 7) rfl ?_); refine store_event (t := 25) (p := 7) (v := ?vo_w14) (w1 := (((((((w9.setCell ⟨gb321, 0, none⟩ (.int .u64 t310)).setCell ⟨gb321, 1, none⟩ (.int .u64 t311)).setCell ⟨gb321, 2, none⟩ (.int .u64 t312)).setCell ⟨gb321, 3, none⟩ (.int .u64 t313)).setCell ⟨gb321, 4, none⟩ (.int .u64 t314)).setCell ⟨gb321, 5, none⟩ (.slice Ao13 t315.length co13)).setCell ⟨gb321, 6, none⟩ (.bool t318))) ?hg ?ho ?hn ?hr ?_; (case ho => rfl); (case hg => rfl); (case hn => rfl); (case hr => first | (go_simp; done) | (go_simp; rfl)); intro w14 hw; have n0_ : Aside0 (Kd.R k44 44 w14 w.heap.size (fun _ => True) (.slice Ao13 t315.length co13) t315) := ⟨(by rw [hw]; exact (by (with_reducible repeat (first | apply Kd.R_alloc | apply Kd.R_drewN | apply Kd.R_drew)); exact Kd.R_mono (Kd.R_far (p := ⟨gb321, 6, none⟩) (Kd.R_far (p := ⟨gb321, 5, none⟩) (Kd.R_far (p := ⟨gb321, 4, none⟩) (Kd.R_far (p := ⟨gb321, 3, none⟩) (Kd.R_far (p := ⟨gb321, 2, none⟩) (Kd.R_far (p := ⟨gb321, 1, none⟩) (Kd.R_far (p := ⟨gb321, 0, none⟩) (Kd.R_types HO317.out BK321.out (by decide)) (fun _ hk => hk.2) (.int .u64 t310)) (fun _ hk => hk.2) (.int .u64 t311)) (fun _ hk => hk.2) (.int .u64 t312)) (fun _ hk => hk.2) (.int .u64 t313)) (fun _ hk => hk.2) (.int .u64 t314)) (fun _ hk => hk.2) (.slice Ao13 t315.length co13)) (fun _ hk => hk.2) (.bool t318)) (fun _ hk => trivial)))⟩; have n1_ : Aside0 (w14.heap[gb308]? = some (.cells #[.int .u64 a0_0, .int .u64 a0_1, .int .u64 a0_2, .int .u64 a0_3, .int .u64 a0_4, .slice A0_5 l0_5.length c0_5, .bool a0_6] 25 (0, 0))) := ⟨(by rw [hw]; exact (blkF BK308))⟩; have n2_ : Aside0 (w14.heap[gb309]? = some (.cells #[.int .u64 0, .int .u64 0, .int .u64 0, .int .u64 0, .int .u64 0, .slice none 0 0, .bool false] 25 (0, 0))) := ⟨(by rw [hw]; exact (blkF BK309))⟩; have n3_ : Aside0 (w14.heap[gb321]? = some (.cells #[.int .u64 t310, .int .u64 t311, .int .u64 t312, .int .u64 t313, .int .u64 t314, .slice Ao13 t315.length co13, .bool t318] 25 (0, 0))) := ⟨(by rw [hw]; exact (by (with_reducible repeat (first | refine blk_drewN ?_ _ | refine blk_drew ?_ | refine blk_alloc ?_ _)); refine blk_put (cs := #[.int .u64 t310, .int .u64 t311, .int .u64 t312, .int .u64 t313, .int .u64 t314, .slice Ao13 t315.length co13, .bool false]) ?_ 6 _ rfl; refine blk_put (cs := #[.int .u64 t310, .int .u64 t311, .int .u64 t312, .int .u64 t313, .int .u64 t314, .slice none 0 0, .bool false]) ?_ 5 _ rfl; refine blk_put (cs := #[.int .u64 t310, .int .u64 t311, .int .u64 t312, .int .u64 t313, .int .u64 0, .slice none 0 0, .bool false]) ?_ 4 _ rfl; refine blk_put (cs := #[.int .u64 t310, .int .u64 t311, .int .u64 t312, .int .u64 0, .int .u64 0, .slice none 0 0, .bool false]) ?_ 3 _ rfl; refine blk_put (cs := #[.int .u64 t310, .int .u64 t311, .int .u64 0, .int .u64 0, .int .u64 0, .slice none 0 0, .bool false]) ?_ 2 _ rfl; refine blk_put (cs := #[.int .u64 t310, .int .u64 0, .int .u64 0, .int .u64 0, .int .u64 0, .slice none 0 0, .bool false]) ?_ 1 _ rfl; refine blk_put (cs := #[.int .u64 0, .int .u64 0, .int .u64 0, .int .u64 0, .int .u64 0, .slice none 0 0, .bool false]) ?_ 0 _ rfl; (with_reducible repeat (first | refine blk_drewN ?_ _ | refine blk_drew ?_ | refine blk_alloc ?_ _)); exact BK321.out))⟩; have n4_ : Aside0 (Below w.heap.size w w14) := ⟨(by rw [hw]; exact (belN HB))⟩; clear hw; clear HO317; clear BK308; clear BK309; clear BK321; clear HB; have HO317 := n0_; have BK308 := n1_; have BK309 := n2_; have BK321 := n3_; have HB := n4_; clear n0_ n1_ n2_ n3_ n4_; obtain ⟨hcz15_0, hcz15_1, hcz15_2, hcz15_3, hcz15_4, hcz15_5, hcz15_6, hfz15_0, hfz15_1, hfz15_2, hfz15_3, hfz15_4, hfz15_5, hfz15_6⟩ := cz7_ (w := w14) BK321.out; obtain ⟨hcz16_0, hcz16_1, hcz16_2, hcz16_3, hcz16_4, hcz16_5, hcz16_6, hfz16_0, hfz16_1, hfz16_2, hfz16_3, hfz16_4, hfz16_5, hfz16_6⟩ := cz7_ (w := w14) BK309.out) | ((with_reducible refine gate_store (t := 25) (p := 4) rfl ?_); refine store_event (t := 25) (p := 4) (v := ?vo_w17) (w1 := ((((((((w14.setCell ⟨gb321, 1, none⟩ (.int .u64 (IntKind.u64.wrap (t311 + t319)))).setCell ⟨gb309, 0, none⟩ (.int .u64 t310)).setCell ⟨gb309, 1, none⟩ (.int .u64 (IntKind.u64.wrap (t311 + t319)))).setCell ⟨gb309, 2, none⟩ (.int .u64 t312)).setCell ⟨gb309, 3, none⟩ (.int .u64 t313)).setCell ⟨gb309, 4, none⟩ (.int .u64 t314)).setCell ⟨gb309, 5, none⟩ (.slice Ao13 t315.length co13)).setCell ⟨gb309, 6, none⟩ (.bool t318))) ?hg ?ho ?hn ?hr ?_; (case ho => rfl); (case hg => rfl); (case hn => rfl); (case hr => first | (go_simp; done) | (go_simp; rfl)); intro w17 hw; have n0_ : Aside0 (Kd.R k44 44 w17 w.heap.size (fun _ => True) (.slice Ao13 t315.length co13) t315) := ⟨(by rw [hw]; exact (by (with_reducible repeat (first | apply Kd.R_alloc | apply Kd.R_drewN | apply Kd.R_drew)); exact Kd.R_mono (Kd.R_far (p := ⟨gb309, 6, none⟩) (Kd.R_far (p := ⟨gb309, 5, none⟩) (Kd.R_far (p := ⟨gb309, 4, none⟩) (Kd.R_far (p := ⟨gb309, 3, none⟩) (Kd.R_far (p := ⟨gb309, 2, none⟩) (Kd.R_far (p := ⟨gb309, 1, none⟩) (Kd.R_far (p := ⟨gb309, 0, none⟩) (Kd.R_far (p := ⟨gb321, 1, none⟩) (Kd.R_types (Kd.R_types HO317.out BK321.out (by decide)) BK309.out (by decide)) (fun _ hk => hk.1.2) (.int .u64 (IntKind.u64.wrap (t311 + t319)))) (fun _ hk => hk.2) (.int .u64 t310)) (fun _ hk => hk.2) (.int .u64 (IntKind.u64.wrap (t311 + t319)))) (fun _ hk => hk.2) (.int .u64 t312)) (fun _ hk => hk.2) (.int .u64 t313)) (fun _ hk => hk.2) (.int .u64 t314)) (fun _ hk => hk.2) (.slice Ao13 t315.length co13)) (fun _ hk => hk.2) (.bool t318)) (fun _ hk => trivial)))⟩; have n1_ : Aside0 (w17.heap[gb308]? = some (.cells #[.int .u64 a0_0, .int .u64 a0_1, .int .u64 a0_2, .int .u64 a0_3, .int .u64 a0_4, .slice A0_5 l0_5.length c0_5, .bool a0_6] 25 (0, 0))) := ⟨(by rw [hw]; exact (blkF BK308))⟩; have n2_ : Aside0 (w17.heap[gb309]? = some (.cells #[.int .u64 t310, .int .u64 (IntKind.u64.wrap (t311 + t319)), .int .u64 t312, .int .u64 t313, .int .u64 t314, .slice Ao13 t315.length co13, .bool t318] 25 (0, 0))) := ⟨(by rw [hw]; exact (by (with_reducible repeat (first | refine blk_drewN ?_ _ | refine blk_drew ?_ | refine blk_alloc ?_ _)); refine blk_put (cs := #[.int .u64 t310, .int .u64 (IntKind.u64.wrap (t311 + t319)), .int .u64 t312, .int .u64 t313, .int .u64 t314, .slice Ao13 t315.length co13, .bool false]) ?_ 6 _ rfl; refine blk_put (cs := #[.int .u64 t310, .int .u64 (IntKind.u64.wrap (t311 + t319)), .int .u64 t312, .int .u64 t313, .int .u64 t314, .slice none 0 0, .bool false]) ?_ 5 _ rfl; refine blk_put (cs := #[.int .u64 t310, .int .u64 (IntKind.u64.wrap (t311 + t319)), .int .u64 t312, .int .u64 t313, .int .u64 0, .slice none 0 0, .bool false]) ?_ 4 _ rfl; refine blk_put (cs := #[.int .u64 t310, .int .u64 (IntKind.u64.wrap (t311 + t319)), .int .u64 t312, .int .u64 0, .int .u64 0, .slice none 0 0, .bool false]) ?_ 3 _ rfl; refine blk_put (cs := #[.int .u64 t310, .int .u64 (IntKind.u64.wrap (t311 + t319)), .int .u64 0, .int .u64 0, .int .u64 0, .slice none 0 0, .bool false]) ?_ 2 _ rfl; refine blk_put (cs := #[.int .u64 t310, .int .u64 0, .int .u64 0, .int .u64 0, .int .u64 0, .slice none 0 0, .bool false]) ?_ 1 _ rfl; refine blk_put (cs := #[.int .u64 0, .int .u64 0, .int .u64 0, .int .u64 0, .int .u64 0, .slice none 0 0, .bool false]) ?_ 0 _ rfl; (with_reducible repeat (first | refine blk_drewN ?_ _ | refine blk_drew ?_ | refine blk_alloc ?_ _)); refine blk_far ?_ NB309_321.out _; (with_reducible repeat (first | refine blk_drewN ?_ _ | refine blk_drew ?_ | refine blk_alloc ?_ _)); exact BK309.out))⟩; have n3_ : Aside0 (w17.heap[gb321]? = some (.cells #[.int .u64 t310, .int .u64 (IntKind.u64.wrap (t311 + t319)), .int .u64 t312, .int .u64 t313, .int .u64 t314, .slice Ao13 t315.length co13, .bool t318] 25 (0, 0))) := ⟨(by rw [hw]; exact (by (with_reducible repeat (first | refine blk_drewN ?_ _ | refine blk_drew ?_ | refine blk_alloc ?_ _)); refine blk_far ?_ NB321_309.out _; (with_reducible repeat (first | refine blk_drewN ?_ _ | refine blk_drew ?_ | refine blk_alloc ?_ _)); refine blk_far ?_ NB321_309.out _; (with_reducible repeat (first | refine blk_drewN ?_ _ | refine blk_drew ?_ | refine blk_alloc ?_ _)); refine blk_far ?_ NB321_309.out _; (with_reducible repeat (first | refine blk_drewN ?_ _ | refine blk_drew ?_ | refine blk_alloc ?_ _)); refine blk_far ?_ NB321_309.out _; (with_reducible repeat (first | refine blk_drewN ?_ _ | refine blk_drew ?_ | refine blk_alloc ?_ _)); refine blk_far ?_ NB321_309.out _; (with_reducible repeat (first | refine blk_drewN ?_ _ | refine blk_drew ?_ | refine blk_alloc ?_ _)); refine blk_far ?_ NB321_309.out _; (with_reducible repeat (first | refine blk_drewN ?_ _ | refine blk_drew ?_ | refine blk_alloc ?_ _)); refine blk_far ?_ NB321_309.out _; (with_reducible repeat (first | refine blk_drewN ?_ _ | refine blk_drew ?_ | refine blk_alloc ?_ _)); refine blk_put (cs := #[.int .u64 t310, .int .u64 t311, .int .u64 t312, .int .u64 t313, .int .u64 t314, .slice Ao13 t315.length co13, .bool t318]) ?_ 1 _ rfl; (with_reducible repeat (first | refine blk_drewN ?_ _ | refine blk_drew ?_ | refine blk_alloc ?_ _)); exact BK321.out))⟩; have n4_ : Aside0 (Below w.heap.size w w17) := ⟨(by rw [hw]; exact (belN HB))⟩; clear hw; clear HO317; clear BK308; clear BK309; clear BK321; clear HB; have HO317 := n0_; have BK308 := n1_; have BK309 := n2_; have BK321 := n3_; have HB := n4_; clear n0_ n1_ n2_ n3_ n4_))
  refine bodyPost_ret (results_ctt rfl _ _ gb309 25 #[.int .u64 t310, .int .u64 (IntKind.u64.wrap (t311 + t319)), .int .u64 t312, .int .u64 t313, .int .u64 t314, .slice Ao13 t315.length co13, .bool t318] (0, 0) _ rfl (blkN BK309) Try.underlying25 rfl (by kernel_rfl)) rfl ?_
  exact ⟨_, by first | rfl | (simp [errW_none, errW_some] <;> rfl) | (simp [*, errW_none, errW_some] <;> rfl), by (with_reducible repeat (first | apply Kd.R_alloc | apply Kd.R_drewN | apply Kd.R_drew)); exact HO317.out, by repeat (first | (with_reducible first | exact HB.out | apply below_alloc | apply pw_below_drewN | apply below_drew1 | refine below_set ?_ GE308.out | refine below_set ?_ GE309.out | refine below_set ?_ GE321.out) | exact HB.out)⟩

end Go.Proofs.Ytcfbcoinbecdfaa.P
