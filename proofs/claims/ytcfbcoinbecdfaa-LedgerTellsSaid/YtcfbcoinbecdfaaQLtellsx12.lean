-- written by a program of this session (wip/print)
import Derived.Test.YtcfbcoinbecdfaaQLtellsx0
import Derived.Test.YtcfbcoinbecdfaaQLtellsx10
import Derived.Test.YtcfbcoinbecdfaaQLtellsx11
namespace Go.Proofs.Ytcfbcoinbecdfaa.P
open Go.RowKit Go.Proofs.YtcfbcoinbecdfaaW.PrintWords Go.Proofs.YtcfbcoinbecdfaaW.PrintLast Go.Proofs.YtcfbcoinbecdfaaW.PrintMore
attribute [local go_sem] max2_int min2_int max_two min_two max_three min_three max_four min_four run_sub64_   -- for this text's walks alone
set_option linter.unusedVariables false
set_option linter.unusedSimpArgs false

/-! ### damsonref10_where: function 108 -/
mutual
def damsonref10_where.l0 : Nat → Int → List (S25) → Int → Int → Option (Int)
  | 0, _, _, _, _ => none
  | k + 1, x1, x9, x10, x11 => if x11 < x10 then (if 0 ≤ x11 then (if x11 < (x9.length : Int) then (damsonref10_where.l1 k x1 x11 x9 x10 x11 ((rd_T25 x9 x11).f5) (((rd_T25 x9 x11).f5).length : Int) 0) else (none)) else (none)) else (some (-1))
def damsonref10_where.l1 : Nat → Int → Int → List (S25) → Int → Int → List (S44) → Int → Int → Option (Int)
  | 0, _, _, _, _, _, _, _, _ => none
  | k + 1, x1, x5, x9, x10, x11, x17, x18, x19 => if x19 < x18 then (if 0 ≤ x19 then (if x19 < (x17.length : Int) then (if ((rd_T44 x17 x19).f0) = x1 then (some x5) else (damsonref10_where.l1 k x1 x5 x9 x10 x11 x17 x18 (wrap64 (x19 + 1)))) else (none)) else (none)) else (damsonref10_where.l0 k x1 x9 x10 (wrap64 (x11 + 1)))
end
def damsonref10_where.f (k : Nat) (l0 : List (S25)) (a1 : Int) : Option (Int) := damsonref10_where.l0 k a1 l0 (l0.length : Int) 0
theorem damsonref10_where.mono_l : ∀ k, (∀ y0 y1 y2 y3, LeO (damsonref10_where.l0 k y0 y1 y2 y3) (damsonref10_where.l0 (k + 1) y0 y1 y2 y3)) ∧ (∀ y0 y1 y2 y3 y4 y5 y6 y7, LeO (damsonref10_where.l1 k y0 y1 y2 y3 y4 y5 y6 y7) (damsonref10_where.l1 (k + 1) y0 y1 y2 y3 y4 y5 y6 y7))
  | 0 => ⟨fun _ _ _ _ r h => by simp [damsonref10_where.l0] at h, fun _ _ _ _ _ _ _ _ r h => by simp [damsonref10_where.l1] at h⟩
  | k + 1 => by
    obtain ⟨ih0, ih1⟩ := damsonref10_where.mono_l k
    refine ⟨?_, ?_⟩
    · intro y0 y1 y2 y3
      unfold damsonref10_where.l0
      repeat' first
      | (with_reducible exact ih0 _ _ _ _)
      | (with_reducible exact ih1 _ _ _ _ _ _ _ _)
      | (with_reducible exact LeO.refl _)
      | (with_reducible exact LeO.none _)
      | (with_reducible refine LeO.ite ?_ ?_)
      | (with_reducible refine LeO.bind ?_ (fun _ => ?_))
      | exact ih0 _ _ _ _
      | exact ih1 _ _ _ _ _ _ _ _
      | exact LeO.none _
      | refine LeO.ite ?_ ?_
      | refine LeO.bind ?_ (fun _ => ?_)
    · intro y0 y1 y2 y3 y4 y5 y6 y7
      unfold damsonref10_where.l1
      repeat' first
      | (with_reducible exact ih0 _ _ _ _)
      | (with_reducible exact ih1 _ _ _ _ _ _ _ _)
      | (with_reducible exact LeO.refl _)
      | (with_reducible exact LeO.none _)
      | (with_reducible refine LeO.ite ?_ ?_)
      | (with_reducible refine LeO.bind ?_ (fun _ => ?_))
      | exact ih0 _ _ _ _
      | exact ih1 _ _ _ _ _ _ _ _
      | exact LeO.none _
      | refine LeO.ite ?_ ?_
      | refine LeO.bind ?_ (fun _ => ?_)
theorem damsonref10_where.mono : ∀ a0 a1 k, LeO (damsonref10_where.f k a0 a1) (damsonref10_where.f (k + 1) a0 a1) := by
  intro a0 a1 k
  obtain ⟨ih0, ih1⟩ := damsonref10_where.mono_l k
  unfold damsonref10_where.f
  repeat' first
      | (with_reducible exact ih0 _ _ _ _)
      | (with_reducible exact ih1 _ _ _ _ _ _ _ _)
      | (with_reducible exact LeO.refl _)
      | (with_reducible exact LeO.none _)
      | (with_reducible refine LeO.ite ?_ ?_)
      | (with_reducible refine LeO.bind ?_ (fun _ => ?_))
      | exact ih0 _ _ _ _
      | exact ih1 _ _ _ _ _ _ _ _
      | exact LeO.none _
      | refine LeO.ite ?_ ?_
      | refine LeO.bind ?_ (fun _ => ?_)
set_option maxHeartbeats 8000000 in
set_option maxRecDepth 100000 in
theorem damsonref10_where.calls (k : Nat) (A0 : Option Addr) (c0 : Nat) (l0 : List (S25)) (a1 : Int) (r : Int) (w : World) (hr0 : Kd.C k25 w A0 l0.length l0) (hc0 : l0.length ≤ c0) (h : damsonref10_where.f k l0 a1 = some r) :
    Calls Try.prog 108 #[.slice A0 l0.length c0, .int .u64 a1] w fun e w' => e = .returned (.int .i64 r) ∧ Below w.heap.size w w' := by
  have hu25 := Try.underlying25
  have hu44 := Try.underlying44
  have HR0 := Aside0.mk hr0
  have HC0 := Aside0.mk hc0
  clear hr0 hc0
  have HB := Aside0.mk (Below.refl w.heap.size w)
  have H : (damsonref10_where.l0 k a1 l0 (l0.length : Int) 0) = some r := h
  clear h
  have H' := Aside0.mk H
  clear H
  go_enter Try.func108, Try.ntmps108
  go_wp2
  go_loopg [11] k (fun kq v11 w' => ∃ (x11_1 : Int), v11 = .int .i64 x11_1 ∧ Aside0 (damsonref10_where.l0 kq a1 l0 (l0.length : Int) x11_1 = some r) ∧ Aside0 (kq ≤ k) ∧ Aside0 (Below w.heap.size w w'))
  case atStart => exact ⟨(0), (by first | rfl | (simp; done) | (simp [*]; done)), H', ⟨Nat.le_refl _⟩, ⟨by repeat (first | (with_reducible first | exact HB.out | apply below_alloc | apply pw_below_drewN | apply below_drew1) | exact HB.out)⟩⟩
  case round =>
    clear H'
    try clear c1
    try clear p2
    obtain ⟨x11_1, rfl, HA, HK1, HB⟩ := hrel
    cases gk with
    | zero => exact absurd HA.out (by simp [damsonref10_where.l0])
    | succ k1 =>
      have H := HA.out
      clear HA
      simp only [damsonref10_where.l0] at H
      by_cases c3 : x11_1 < (l0.length : Int)
      · rw [if_pos c3] at H
        have c3b0 : decide (x11_1 < (l0.length : Int)) = true := decide_eq_true c3
        clear c3
        by_cases c4 : 0 ≤ x11_1
        · rw [if_pos c4] at H
          have c4b0 : decide (0 ≤ x11_1) = true := decide_eq_true c4
          clear c4
          by_cases c5 : x11_1 < (l0.length : Int)
          · rw [if_pos c5] at H
            have c5b0 : decide (x11_1 < (l0.length : Int)) = true := decide_eq_true c5
            clear c5
            have H' := Aside0.mk H
            clear H
            have p236 : 0 ≤ (x11_1 : Int) := of_decide_eq_true (by first | (with_reducible assumption) | assumption)
            have q236 : x11_1 < (l0.length : Int) := of_decide_eq_true (by first | (with_reducible assumption) | assumption)
            obtain ⟨ad236, A236_5, c236_5, e236, hx236_0, hx236_1, hx236_2, hx236_3, hx236_4, hx236_5, hx236_6, hl236_5, hi236_5⟩ := at_T25 HR0.out x11_1 p236 q236
            cases e236
            replace hx236_0 := (HB.out.cell (World.block_lt_of_cell? w _ hx236_0)).trans hx236_0
            replace hx236_1 := (HB.out.cell (World.block_lt_of_cell? w _ hx236_1)).trans hx236_1
            replace hx236_2 := (HB.out.cell (World.block_lt_of_cell? w _ hx236_2)).trans hx236_2
            replace hx236_3 := (HB.out.cell (World.block_lt_of_cell? w _ hx236_3)).trans hx236_3
            replace hx236_4 := (HB.out.cell (World.block_lt_of_cell? w _ hx236_4)).trans hx236_4
            replace hx236_5 := (HB.out.cell (World.block_lt_of_cell? w _ hx236_5)).trans hx236_5
            replace hx236_6 := (HB.out.cell (World.block_lt_of_cell? w _ hx236_6)).trans hx236_6
            have HR236_5 := Aside0.mk hi236_5
            have HC236_5 := Aside0.mk hl236_5
            clear hi236_5 hl236_5
            replace p236 := eq_true p236
            replace q236 := eq_true q236
            go_wp2_with (first | ((with_reducible refine gate_dst (N := 6) rfl ?_); refine box_event ?hg (N := 6) ?hd (cs := #[.int .u64 0, .int .u64 0, .int .u64 0, .int .u64 0, .int .u64 0, .slice none 0 0, .bool false]) (t := 25) ?hr ?_; (case hd => rfl); (case hg => rfl); (case hr => first | (go_simp; done) | (go_simp; rfl)); intro gb237 hg w6 hbox hb; have n0_ := Aside0.mk (below_step (belN HB) hb); have n1_ := Aside0.mk (hbox); have n2_ := Aside0.mk ((by rw [hg]; exact (below_size (belN HB)) : w.heap.size ≤ gb237)); have n3_ := Aside0.mk ((by rw [hg]; exact (below_size (belN HB)) : w.heap.size ≤ gb237)); clear HB; have HB := n0_; have BK237 := n1_; have GW237 := n2_; have GE237 := n3_; clear n0_ n1_ n2_ n3_; clear hb hbox hg; obtain ⟨hcz7_0, hcz7_1, hcz7_2, hcz7_3, hcz7_4, hcz7_5, hcz7_6, hfz7_0, hfz7_1, hfz7_2, hfz7_3, hfz7_4, hfz7_5, hfz7_6⟩ := cz7_ (w := w6) BK237.out))
            go_loopg [19] k1 (fun kq v19 w' => ∃ (x19_2 : Int), v19 = .int .i64 x19_2 ∧ Aside0 (damsonref10_where.l1 kq a1 x11_1 l0 (l0.length : Int) x11_1 ((rd_T25 l0 x11_1).f5) (((rd_T25 l0 x11_1).f5).length : Int) x19_2 = some r) ∧ Aside0 (kq ≤ k1) ∧ Aside0 (w'.heap[gb237]? = some (.cells #[.int .u64 ((rd_T25 l0 x11_1).f0), .int .u64 ((rd_T25 l0 x11_1).f1), .int .u64 ((rd_T25 l0 x11_1).f2), .int .u64 ((rd_T25 l0 x11_1).f3), .int .u64 ((rd_T25 l0 x11_1).f4), (.slice A236_5 ((rd_T25 l0 x11_1).f5).length c236_5), .bool ((rd_T25 l0 x11_1).f6)] 25 (0, 0))) ∧ Aside0 (Below w.heap.size w w'))
            case atStart => exact ⟨(0), (by first | rfl | (simp; done) | (simp [*]; done)), H', ⟨Nat.le_refl _⟩, ⟨by (with_reducible repeat (first | refine blk_drewN ?_ _ | refine blk_drew ?_ | refine blk_alloc ?_ _)); refine blk_put (cs := #[.int .u64 ((rd_T25 l0 x11_1).f0), .int .u64 ((rd_T25 l0 x11_1).f1), .int .u64 ((rd_T25 l0 x11_1).f2), .int .u64 ((rd_T25 l0 x11_1).f3), .int .u64 ((rd_T25 l0 x11_1).f4), .slice A236_5 ((rd_T25 l0 x11_1).f5).length c236_5, .bool false]) ?_ 6 _ rfl; refine blk_put (cs := #[.int .u64 ((rd_T25 l0 x11_1).f0), .int .u64 ((rd_T25 l0 x11_1).f1), .int .u64 ((rd_T25 l0 x11_1).f2), .int .u64 ((rd_T25 l0 x11_1).f3), .int .u64 ((rd_T25 l0 x11_1).f4), .slice none 0 0, .bool false]) ?_ 5 _ rfl; refine blk_put (cs := #[.int .u64 ((rd_T25 l0 x11_1).f0), .int .u64 ((rd_T25 l0 x11_1).f1), .int .u64 ((rd_T25 l0 x11_1).f2), .int .u64 ((rd_T25 l0 x11_1).f3), .int .u64 0, .slice none 0 0, .bool false]) ?_ 4 _ rfl; refine blk_put (cs := #[.int .u64 ((rd_T25 l0 x11_1).f0), .int .u64 ((rd_T25 l0 x11_1).f1), .int .u64 ((rd_T25 l0 x11_1).f2), .int .u64 0, .int .u64 0, .slice none 0 0, .bool false]) ?_ 3 _ rfl; refine blk_put (cs := #[.int .u64 ((rd_T25 l0 x11_1).f0), .int .u64 ((rd_T25 l0 x11_1).f1), .int .u64 0, .int .u64 0, .int .u64 0, .slice none 0 0, .bool false]) ?_ 2 _ rfl; refine blk_put (cs := #[.int .u64 ((rd_T25 l0 x11_1).f0), .int .u64 0, .int .u64 0, .int .u64 0, .int .u64 0, .slice none 0 0, .bool false]) ?_ 1 _ rfl; refine blk_put (cs := #[.int .u64 0, .int .u64 0, .int .u64 0, .int .u64 0, .int .u64 0, .slice none 0 0, .bool false]) ?_ 0 _ rfl; (with_reducible repeat (first | refine blk_drewN ?_ _ | refine blk_drew ?_ | refine blk_alloc ?_ _)); exact BK237.out⟩, ⟨by repeat (first | (with_reducible first | exact HB.out | apply below_alloc | apply pw_below_drewN | apply below_drew1 | refine below_set ?_ GE237.out) | exact HB.out)⟩⟩
            case round =>
              clear H'
              try clear c1
              try clear c2
              try clear p2
              try clear q2
              try clear hx2
              try clear c3
              try clear c3b0
              try clear c4
              try clear c4b0
              try clear c5
              try clear c5b0
              try clear hcz7_0
              try clear hcz7_1
              try clear hcz7_2
              try clear hcz7_3
              try clear hcz7_4
              try clear hcz7_5
              try clear hcz7_6
              try clear hfz7_0
              try clear hfz7_1
              try clear hfz7_2
              try clear hfz7_3
              try clear hfz7_4
              try clear hfz7_5
              try clear hfz7_6
              try clear hx236_0
              try clear hx236_1
              try clear hx236_2
              try clear hx236_3
              try clear hx236_4
              try clear hx236_5
              try clear hx236_6
              try clear p2
              try clear p236
              try clear q236
              obtain ⟨x19_2, rfl, HA, HK2, BK237, HB⟩ := hrel
              cases gk with
              | zero => exact absurd HA.out (by simp [damsonref10_where.l1])
              | succ k2 =>
                have H := HA.out
                clear HA
                simp only [damsonref10_where.l1] at H
                by_cases c8 : x19_2 < (((rd_T25 l0 x11_1).f5).length : Int)
                · rw [if_pos c8] at H
                  have c8b0 : decide (x19_2 < (((rd_T25 l0 x11_1).f5).length : Int)) = true := decide_eq_true c8
                  clear c8
                  by_cases c9 : 0 ≤ x19_2
                  · rw [if_pos c9] at H
                    have c9b0 : decide (0 ≤ x19_2) = true := decide_eq_true c9
                    clear c9
                    by_cases c10 : x19_2 < (((rd_T25 l0 x11_1).f5).length : Int)
                    · rw [if_pos c10] at H
                      have c10b0 : decide (x19_2 < (((rd_T25 l0 x11_1).f5).length : Int)) = true := decide_eq_true c10
                      clear c10
                      by_cases c11 : ((rd_T44 ((rd_T25 l0 x11_1).f5) x19_2).f0) = a1
                      · rw [if_pos c11] at H
                        have c11b0 : (((rd_T44 ((rd_T25 l0 x11_1).f5) x19_2).f0) == a1) = true := beq_iff_eq.mpr c11
                        have c11b1 : (((rd_T44 ((rd_T25 l0 x11_1).f5) x19_2).f0) != a1) = false := bne_eq_false_iff_eq.mpr c11
                        clear c11
                        obtain rfl := Option.some.inj H
                        have p238 : 0 ≤ (x19_2 : Int) := of_decide_eq_true (by first | (with_reducible assumption) | assumption)
                        have q238 : x19_2 < (((rd_T25 l0 x11_1).f5).length : Int) := of_decide_eq_true (by first | (with_reducible assumption) | assumption)
                        obtain ⟨ad238, e238, hx238_0, hx238_1⟩ := at_T44 HR236_5.out x19_2 p238 q238
                        cases e238
                        replace hx238_0 := (HB.out.cell (World.block_lt_of_cell? w _ hx238_0)).trans hx238_0
                        replace hx238_1 := (HB.out.cell (World.block_lt_of_cell? w _ hx238_1)).trans hx238_1
                        replace p238 := eq_true p238
                        replace q238 := eq_true q238
                        go_wp2_with (first | ((with_reducible refine gate_dst (N := 8) rfl ?_); refine box_event ?hg (N := 8) ?hd (cs := #[.int .u64 0, .int .u64 0]) (t := 44) ?hr ?_; (case hd => rfl); (case hg => rfl); (case hr => first | (go_simp; done) | (go_simp; rfl)); intro gb239 hg w12 hbox hb; have n0_ := Aside0.mk (blk_below (g := gb237) (blkN BK237) hb); have n1_ := Aside0.mk (below_step (belN HB) hb); have n2_ := Aside0.mk (hbox); have n3_ := Aside0.mk ((by rw [hg]; exact (below_size (belN HB)) : w.heap.size ≤ gb239)); have n4_ := Aside0.mk ((by rw [hg]; exact (below_size (belN HB)) : w.heap.size ≤ gb239)); have n5_ := Aside0.mk ((by rw [hg]; exact Nat.ne_of_lt (blk_lt (g := gb237) (blkN BK237)) : gb237 ≠ gb239)); have n6_ := Aside0.mk ((by rw [hg]; exact Nat.ne_of_gt (blk_lt (g := gb237) (blkN BK237)) : gb239 ≠ gb237)); clear BK237; clear HB; have BK237 := n0_; have HB := n1_; have BK239 := n2_; have GW239 := n3_; have GE239 := n4_; have NB237_239 := n5_; have NB239_237 := n6_; clear n0_ n1_ n2_ n3_ n4_ n5_ n6_; clear hb hbox hg; have hnb13 := NB239_237.out; have hnc13 := NB237_239.out; obtain ⟨hcz14_0, hcz14_1, hfz14_0, hfz14_1⟩ := cz2_ (w := w12) BK239.out))
                        go_ret
                        exact ⟨by first | rfl | (simp [errW_none, errW_some] <;> rfl) | (simp [*, errW_none, errW_some] <;> rfl), by repeat (first | (with_reducible first | exact HB.out | apply below_alloc | apply pw_below_drewN | apply below_drew1 | refine below_set ?_ GE237.out | refine below_set ?_ GE239.out) | exact HB.out)⟩
                      · rw [if_neg c11] at H
                        have c11b0 : (((rd_T44 ((rd_T25 l0 x11_1).f5) x19_2).f0) == a1) = false := beq_eq_false_iff_ne.mpr c11
                        have c11b1 : (((rd_T44 ((rd_T25 l0 x11_1).f5) x19_2).f0) != a1) = true := bne_iff_ne.mpr c11
                        have H' := Aside0.mk H
                        clear H
                        have p238 : 0 ≤ (x19_2 : Int) := of_decide_eq_true (by first | (with_reducible assumption) | assumption)
                        have q238 : x19_2 < (((rd_T25 l0 x11_1).f5).length : Int) := of_decide_eq_true (by first | (with_reducible assumption) | assumption)
                        obtain ⟨ad238, e238, hx238_0, hx238_1⟩ := at_T44 HR236_5.out x19_2 p238 q238
                        cases e238
                        replace hx238_0 := (HB.out.cell (World.block_lt_of_cell? w _ hx238_0)).trans hx238_0
                        replace hx238_1 := (HB.out.cell (World.block_lt_of_cell? w _ hx238_1)).trans hx238_1
                        replace p238 := eq_true p238
                        replace q238 := eq_true q238
                        go_wp2_with (first | ((with_reducible refine gate_dst (N := 8) rfl ?_); refine box_event ?hg (N := 8) ?hd (cs := #[.int .u64 0, .int .u64 0]) (t := 44) ?hr ?_; (case hd => rfl); (case hg => rfl); (case hr => first | (go_simp; done) | (go_simp; rfl)); intro gb239 hg w15 hbox hb; have n0_ := Aside0.mk (blk_below (g := gb237) (blkN BK237) hb); have n1_ := Aside0.mk (below_step (belN HB) hb); have n2_ := Aside0.mk (hbox); have n3_ := Aside0.mk ((by rw [hg]; exact (below_size (belN HB)) : w.heap.size ≤ gb239)); have n4_ := Aside0.mk ((by rw [hg]; exact (below_size (belN HB)) : w.heap.size ≤ gb239)); have n5_ := Aside0.mk ((by rw [hg]; exact Nat.ne_of_lt (blk_lt (g := gb237) (blkN BK237)) : gb237 ≠ gb239)); have n6_ := Aside0.mk ((by rw [hg]; exact Nat.ne_of_gt (blk_lt (g := gb237) (blkN BK237)) : gb239 ≠ gb237)); clear BK237; clear HB; have BK237 := n0_; have HB := n1_; have BK239 := n2_; have GW239 := n3_; have GE239 := n4_; have NB237_239 := n5_; have NB239_237 := n6_; clear n0_ n1_ n2_ n3_ n4_ n5_ n6_; clear hb hbox hg; have hnb16 := NB239_237.out; have hnc16 := NB237_239.out; obtain ⟨hcz17_0, hcz17_1, hfz17_0, hfz17_1⟩ := cz2_ (w := w15) BK239.out))
                        go_roundg k2
                        case measure => have := HK1.out; have := HK2.out; omega
                        case rel => exact ⟨(wrap64 (x19_2 + 1)), (by first | rfl | (simp; done) | (simp [*]; done)), H', ⟨by have := HK1.out; have := HK2.out; omega⟩, ⟨by (with_reducible repeat (first | refine blk_drewN ?_ _ | refine blk_drew ?_ | refine blk_alloc ?_ _)); refine blk_far ?_ NB237_239.out _; (with_reducible repeat (first | refine blk_drewN ?_ _ | refine blk_drew ?_ | refine blk_alloc ?_ _)); refine blk_far ?_ NB237_239.out _; (with_reducible repeat (first | refine blk_drewN ?_ _ | refine blk_drew ?_ | refine blk_alloc ?_ _)); exact BK237.out⟩, ⟨by repeat (first | (with_reducible first | exact HB.out | apply below_alloc | apply pw_below_drewN | apply below_drew1 | refine below_set ?_ GE237.out | refine below_set ?_ GE239.out) | exact HB.out)⟩⟩
                    · rw [if_neg c10] at H
                      exact absurd H (by simp)
                  · rw [if_neg c9] at H
                    exact absurd H (by simp)
                · rw [if_neg c8] at H
                  have c8b0 : decide (x19_2 < (((rd_T25 l0 x11_1).f5).length : Int)) = false := decide_eq_false c8
                  clear c8
                  have H' := Aside0.mk H
                  clear H
                  go_wp2
                  go_roundg k2
                  case measure => have := HK1.out; have := HK2.out; omega
                  case rel => exact ⟨(wrap64 (x11_1 + 1)), (by first | rfl | (simp; done) | (simp [*]; done)), H', ⟨by have := HK1.out; have := HK2.out; omega⟩, ⟨by repeat (first | (with_reducible first | exact HB.out | apply below_alloc | apply pw_below_drewN | apply below_drew1 | refine below_set ?_ GE237.out) | exact HB.out)⟩⟩
          · rw [if_neg c5] at H
            exact absurd H (by simp)
        · rw [if_neg c4] at H
          exact absurd H (by simp)
      · rw [if_neg c3] at H
        have c3b0 : decide (x11_1 < (l0.length : Int)) = false := decide_eq_false c3
        clear c3
        obtain rfl := Option.some.inj H
        go_wp2
        go_ret
        exact ⟨by first | rfl | (simp [errW_none, errW_some] <;> rfl) | (simp [*, errW_none, errW_some] <;> rfl), by repeat (first | (with_reducible first | exact HB.out | apply below_alloc | apply pw_below_drewN | apply below_drew1) | exact HB.out)⟩

/-! ### damsonref09_Held: function 29 -/
def damsonref09_Held.f (k : Nat) (a0_0 : Int) (a0_1 : Int) (a0_2 : Int) (a0_3 : Int) (a0_4 : Int) (l0_5 : List (S44)) (a0_6 : Bool) : Option (Int × Int) := (damsonref09_Check.f k a0_0 a0_1 a0_2 a0_3 a0_4 l0_5 a0_6).bind fun t241 => (if t241 = 0 then ((damsonref09_amounts.f k l0_5).bind fun t242 => ((damsonref04_Add.f k t242).bind fun bt245 => (some (bt245.1, bt245.2)))) else (some (0, 1)))
theorem damsonref09_Held.mono : ∀ a0 a1 a2 a3 a4 a5 a6 k, LeO (damsonref09_Held.f k a0 a1 a2 a3 a4 a5 a6) (damsonref09_Held.f (k + 1) a0 a1 a2 a3 a4 a5 a6) := by
  intro a0 a1 a2 a3 a4 a5 a6 k
  unfold damsonref09_Held.f
  repeat' first
      | (with_reducible exact damsonref04_Add.mono _ _)
      | (with_reducible exact damsonref09_Check.mono _ _ _ _ _ _ _ _)
      | (with_reducible exact damsonref09_amounts.mono _ _)
      | (with_reducible exact LeO.refl _)
      | (with_reducible exact LeO.none _)
      | (with_reducible refine LeO.ite ?_ ?_)
      | (with_reducible refine LeO.bind ?_ (fun _ => ?_))
      | exact damsonref04_Add.mono _ _
      | exact damsonref09_Check.mono _ _ _ _ _ _ _ _
      | exact damsonref09_amounts.mono _ _
      | exact LeO.none _
      | refine LeO.ite ?_ ?_
      | refine LeO.bind ?_ (fun _ => ?_)
set_option maxHeartbeats 8000000 in
set_option maxRecDepth 100000 in
theorem damsonref09_Held.calls (k : Nat) (a0_0 : Int) (a0_1 : Int) (a0_2 : Int) (a0_3 : Int) (a0_4 : Int) (A0_5 : Option Addr) (c0_5 : Nat) (l0_5 : List (S44)) (a0_6 : Bool) (r1 : Int) (r2 : Int) (w : World) (hr0_5 : Kd.C k44 w A0_5 l0_5.length l0_5) (hc0_5 : l0_5.length ≤ c0_5) (h : damsonref09_Held.f k a0_0 a0_1 a0_2 a0_3 a0_4 l0_5 a0_6 = some (r1, r2)) :
    Calls Try.prog 29 #[.agg #[.int .u64 a0_0, .int .u64 a0_1, .int .u64 a0_2, .int .u64 a0_3, .int .u64 a0_4, .slice A0_5 l0_5.length c0_5, .bool a0_6]] w fun e w' => e = .returned (.tuple #[.int .u64 r1, .int .i64 r2]) ∧ Below w.heap.size w w' := by
  have hu25 := Try.underlying25
  have HR0_5 := Aside0.mk hr0_5
  have HC0_5 := Aside0.mk hc0_5
  clear hr0_5 hc0_5
  have HB := Aside0.mk (Below.refl w.heap.size w)
  have H : ((damsonref09_Check.f k a0_0 a0_1 a0_2 a0_3 a0_4 l0_5 a0_6).bind fun t241 => (if t241 = 0 then ((damsonref09_amounts.f k l0_5).bind fun t242 => ((damsonref04_Add.f k t242).bind fun bt245 => (some (bt245.1, bt245.2)))) else (some (0, 1)))) = some (r1, r2) := h
  clear h
  replace H := Option.bind_eq_some_iff.mp H
  obtain ⟨t241, A20, H⟩ := H
  replace H : (if t241 = 0 then ((damsonref09_amounts.f k l0_5).bind fun t242 => ((damsonref04_Add.f k t242).bind fun bt245 => (some (bt245.1, bt245.2)))) else (some (0, 1))) = some (r1, r2) := H
  have A2 := Aside0.mk A20
  clear A20
  by_cases c3 : t241 = 0
  · rw [if_pos c3] at H
    have c3b0 : (t241 == 0) = true := beq_iff_eq.mpr c3
    have c3b1 : (t241 != 0) = false := bne_eq_false_iff_eq.mpr c3
    clear c3
    replace H := Option.bind_eq_some_iff.mp H
    obtain ⟨t242, A40, H⟩ := H
    replace H : ((damsonref04_Add.f k t242).bind fun bt245 => (some (bt245.1, bt245.2))) = some (r1, r2) := H
    have A4 := Aside0.mk A40
    clear A40
    replace H := Option.bind_eq_some_iff.mp H
    obtain ⟨⟨t245, t246⟩, A50, H⟩ := H
    replace H : (some (t245, t246)) = some (r1, r2) := H
    have A5 := Aside0.mk A50
    clear A50
    simp only [Option.some.injEq, Prod.mk.injEq] at H
    obtain ⟨rfl, rfl⟩ := H
    go_enter Try.func29, Try.ntmps29
    go_wp2_with (first | ((with_reducible refine gate_dst (N := 1) rfl ?_); refine box_event ?hg (N := 1) ?hd (cs := #[.int .u64 a0_0, .int .u64 a0_1, .int .u64 a0_2, .int .u64 a0_3, .int .u64 a0_4, .slice A0_5 l0_5.length c0_5, .bool a0_6]) (t := 25) ?hr ?_; (case hd => rfl); (case hg => rfl); (case hr => first | (go_simp; done) | (go_simp; rfl)); intro gb240 hg w6 hbox hb; have n0_ := Aside0.mk (below_step (belN HB) hb); have n1_ := Aside0.mk (hbox); have n2_ := Aside0.mk ((by rw [hg]; exact (below_size (belN HB)) : w.heap.size ≤ gb240)); have n3_ := Aside0.mk ((by rw [hg]; exact (below_size (belN HB)) : w.heap.size ≤ gb240)); clear HB; have HB := n0_; have BK240 := n1_; have GW240 := n2_; have GE240 := n3_; clear n0_ n1_ n2_ n3_; clear hb hbox hg; obtain ⟨hcz7_0, hcz7_1, hcz7_2, hcz7_3, hcz7_4, hcz7_5, hcz7_6, hfz7_0, hfz7_1, hfz7_2, hfz7_3, hfz7_4, hfz7_5, hfz7_6⟩ := cz7_ (w := w6) BK240.out) | ((with_reducible refine gate_callee (f := 34) rfl ?_); refine goesL_ (some 5) rfl rfl Try.func34 (by kernel_rfl) rfl #[.agg #[.int .u64 a0_0, .int .u64 a0_1, .int .u64 a0_2, .int .u64 a0_3, .int .u64 a0_4, .slice A0_5 l0_5.length c0_5, .bool a0_6]] rfl (by (try simp only [List.map_toArray, List.map_cons, List.map_nil]); first | done | rfl | (simp only [List.length_drop, List.length_take]; rfl)) ?_; (with_reducible refine (damsonref09_Check.calls k a0_0 a0_1 a0_2 a0_3 a0_4 _ _ l0_5 a0_6 t241 _ ?side1 ?side2 A2.out).mono ?_); (case side1 => repeat (first | exact (Kd.C_below HR0_5.out HB.out) | (with_reducible refine Kd.C_alloc ?_ _) | (with_reducible refine Kd.C_drewN ?_ _) | (with_reducible refine Kd.C_drew ?_))); (case side2 => exact HC0_5.out); rintro e w8 ⟨rfl, hb⟩; refine ⟨_, rfl, ?_⟩; have n0_ := Aside0.mk (blk_below (g := gb240) (blkN BK240) hb); have n1_ := Aside0.mk (below_step (belN HB) hb); clear BK240; clear HB; have BK240 := n0_; have HB := n1_; clear n0_ n1_; (try clear hb); (try clear hb2); (try clear hk); (try clear hi); obtain ⟨hcz9_0, hcz9_1, hcz9_2, hcz9_3, hcz9_4, hcz9_5, hcz9_6, hfz9_0, hfz9_1, hfz9_2, hfz9_3, hfz9_4, hfz9_5, hfz9_6⟩ := cz7_ (w := w8) BK240.out) | ((with_reducible refine gate_callee (f := 95) rfl ?_); refine goesL_ (some 9) rfl rfl Try.func95 (by kernel_rfl) rfl #[.slice A0_5 l0_5.length c0_5] rfl (by (try simp only [List.map_toArray, List.map_cons, List.map_nil]); first | done | rfl | (simp only [List.length_drop, List.length_take]; rfl)) ?_; (with_reducible refine (damsonref09_amounts.calls k _ _ l0_5 t242 _ ?side1 ?side2 A4.out).mono ?_); (case side1 => repeat (first | exact (Kd.C_below HR0_5.out HB.out) | (with_reducible refine Kd.C_alloc ?_ _) | (with_reducible refine Kd.C_drewN ?_ _) | (with_reducible refine Kd.C_drew ?_))); (case side2 => exact HC0_5.out); rintro e w10 ⟨v243, rfl, ho0, hb⟩; refine ⟨_, rfl, ?_⟩; have n0_ := Aside0.mk (Kd.R_lower ho0 (below_size (belN HB))); have n1_ := Aside0.mk (blk_below (g := gb240) (blkN BK240) hb); have n2_ := Aside0.mk (below_step (belN HB) hb); clear BK240; clear HB; have HO244 := n0_; have BK240 := n1_; have HB := n2_; clear n0_ n1_ n2_; (try clear hb); (try clear hb2); (try clear hk); (try clear hi); (try clear ho0); obtain ⟨Ao11, co11, eo11⟩ := Kd.R_slice HO244.out; subst eo11) | ((with_reducible refine gate_callee (f := 94) rfl ?_); refine goesL_ (some 10) rfl rfl Try.func94 (by kernel_rfl) rfl #[.slice Ao11 t242.length co11] rfl (by (try simp only [List.map_toArray, List.map_cons, List.map_nil]); first | done | rfl | (simp only [List.length_drop, List.length_take]; rfl)) ?_; (with_reducible refine (damsonref04_Add.calls k _ _ t242 t245 t246 _ ?side1 ?side2 A5.out).mono ?_); (case side1 => exact Kd.CN (Kd.R_reads' HO244.out).2.2); (case side2 => exact (Kd.R_reads' HO244.out).2.1); rintro e w' ⟨rfl, ⟨nd, rfl⟩⟩; refine ⟨_, rfl, ?_⟩))
    go_ret2
    exact ⟨by first | rfl | (simp [errW_none, errW_some] <;> rfl) | (simp [*, errW_none, errW_some] <;> rfl), by repeat (first | (with_reducible first | exact HB.out | apply below_alloc | apply pw_below_drewN | apply below_drew1 | refine below_set ?_ GE240.out) | exact HB.out)⟩
  · rw [if_neg c3] at H
    have c3b0 : (t241 == 0) = false := beq_eq_false_iff_ne.mpr c3
    have c3b1 : (t241 != 0) = true := bne_iff_ne.mpr c3
    simp only [Option.some.injEq, Prod.mk.injEq] at H
    obtain ⟨rfl, rfl⟩ := H
    go_enter Try.func29, Try.ntmps29
    go_wp2_with (first | ((with_reducible refine gate_dst (N := 1) rfl ?_); refine box_event ?hg (N := 1) ?hd (cs := #[.int .u64 a0_0, .int .u64 a0_1, .int .u64 a0_2, .int .u64 a0_3, .int .u64 a0_4, .slice A0_5 l0_5.length c0_5, .bool a0_6]) (t := 25) ?hr ?_; (case hd => rfl); (case hg => rfl); (case hr => first | (go_simp; done) | (go_simp; rfl)); intro gb240 hg w12 hbox hb; have n0_ := Aside0.mk (below_step (belN HB) hb); have n1_ := Aside0.mk (hbox); have n2_ := Aside0.mk ((by rw [hg]; exact (below_size (belN HB)) : w.heap.size ≤ gb240)); have n3_ := Aside0.mk ((by rw [hg]; exact (below_size (belN HB)) : w.heap.size ≤ gb240)); clear HB; have HB := n0_; have BK240 := n1_; have GW240 := n2_; have GE240 := n3_; clear n0_ n1_ n2_ n3_; clear hb hbox hg; obtain ⟨hcz13_0, hcz13_1, hcz13_2, hcz13_3, hcz13_4, hcz13_5, hcz13_6, hfz13_0, hfz13_1, hfz13_2, hfz13_3, hfz13_4, hfz13_5, hfz13_6⟩ := cz7_ (w := w12) BK240.out) | ((with_reducible refine gate_callee (f := 34) rfl ?_); refine goesL_ (some 5) rfl rfl Try.func34 (by kernel_rfl) rfl #[.agg #[.int .u64 a0_0, .int .u64 a0_1, .int .u64 a0_2, .int .u64 a0_3, .int .u64 a0_4, .slice A0_5 l0_5.length c0_5, .bool a0_6]] rfl (by (try simp only [List.map_toArray, List.map_cons, List.map_nil]); first | done | rfl | (simp only [List.length_drop, List.length_take]; rfl)) ?_; (with_reducible refine (damsonref09_Check.calls k a0_0 a0_1 a0_2 a0_3 a0_4 _ _ l0_5 a0_6 t241 _ ?side1 ?side2 A2.out).mono ?_); (case side1 => repeat (first | exact (Kd.C_below HR0_5.out HB.out) | (with_reducible refine Kd.C_alloc ?_ _) | (with_reducible refine Kd.C_drewN ?_ _) | (with_reducible refine Kd.C_drew ?_))); (case side2 => exact HC0_5.out); rintro e w14 ⟨rfl, hb⟩; refine ⟨_, rfl, ?_⟩; have n0_ := Aside0.mk (blk_below (g := gb240) (blkN BK240) hb); have n1_ := Aside0.mk (below_step (belN HB) hb); clear BK240; clear HB; have BK240 := n0_; have HB := n1_; clear n0_ n1_; (try clear hb); (try clear hb2); (try clear hk); (try clear hi)))
    go_ret2
    exact ⟨by first | rfl | (simp [errW_none, errW_some] <;> rfl) | (simp [*, errW_none, errW_some] <;> rfl), by repeat (first | (with_reducible first | exact HB.out | apply below_alloc | apply pw_below_drewN | apply below_drew1 | refine below_set ?_ GE240.out) | exact HB.out)⟩

/-! ### damsonref09_All: function 31 -/
def damsonref09_All.f (k : Nat) (a0_0 : Int) (a0_1 : Int) (a0_2 : Int) (a0_3 : Int) (a0_4 : Int) (l0_5 : List (S44)) (a0_6 : Bool) : Option (Int × Int) := (damsonref09_Held.f k a0_0 a0_1 a0_2 a0_3 a0_4 l0_5 a0_6).bind fun bt248 => (if bt248.2 = 0 then ((damsonref04_Add.f k (([a0_1, a0_2, bt248.1] : List Int))).bind fun bt253 => (some (bt253.1, bt253.2))) else (some (0, bt248.2)))
theorem damsonref09_All.mono : ∀ a0 a1 a2 a3 a4 a5 a6 k, LeO (damsonref09_All.f k a0 a1 a2 a3 a4 a5 a6) (damsonref09_All.f (k + 1) a0 a1 a2 a3 a4 a5 a6) := by
  intro a0 a1 a2 a3 a4 a5 a6 k
  unfold damsonref09_All.f
  repeat' first
      | (with_reducible exact damsonref04_Add.mono _ _)
      | (with_reducible exact damsonref09_Held.mono _ _ _ _ _ _ _ _)
      | (with_reducible exact LeO.refl _)
      | (with_reducible exact LeO.none _)
      | (with_reducible refine LeO.ite ?_ ?_)
      | (with_reducible refine LeO.bind ?_ (fun _ => ?_))
      | exact damsonref04_Add.mono _ _
      | exact damsonref09_Held.mono _ _ _ _ _ _ _ _
      | exact LeO.none _
      | refine LeO.ite ?_ ?_
      | refine LeO.bind ?_ (fun _ => ?_)
set_option maxHeartbeats 8000000 in
set_option maxRecDepth 100000 in
theorem damsonref09_All.calls (k : Nat) (a0_0 : Int) (a0_1 : Int) (a0_2 : Int) (a0_3 : Int) (a0_4 : Int) (A0_5 : Option Addr) (c0_5 : Nat) (l0_5 : List (S44)) (a0_6 : Bool) (r1 : Int) (r2 : Int) (w : World) (hr0_5 : Kd.C k44 w A0_5 l0_5.length l0_5) (hc0_5 : l0_5.length ≤ c0_5) (h : damsonref09_All.f k a0_0 a0_1 a0_2 a0_3 a0_4 l0_5 a0_6 = some (r1, r2)) :
    Calls Try.prog 31 #[.agg #[.int .u64 a0_0, .int .u64 a0_1, .int .u64 a0_2, .int .u64 a0_3, .int .u64 a0_4, .slice A0_5 l0_5.length c0_5, .bool a0_6]] w fun e w' => e = .returned (.tuple #[.int .u64 r1, .int .i64 r2]) ∧ Below w.heap.size w w' := by
  have hu25 := Try.underlying25
  have HR0_5 := Aside0.mk hr0_5
  have HC0_5 := Aside0.mk hc0_5
  clear hr0_5 hc0_5
  have HB := Aside0.mk (Below.refl w.heap.size w)
  have H : ((damsonref09_Held.f k a0_0 a0_1 a0_2 a0_3 a0_4 l0_5 a0_6).bind fun bt248 => (if bt248.2 = 0 then ((damsonref04_Add.f k (([a0_1, a0_2, bt248.1] : List Int))).bind fun bt253 => (some (bt253.1, bt253.2))) else (some (0, bt248.2)))) = some (r1, r2) := h
  clear h
  replace H := Option.bind_eq_some_iff.mp H
  obtain ⟨⟨t248, t249⟩, A20, H⟩ := H
  replace H : (if t249 = 0 then ((damsonref04_Add.f k (([a0_1, a0_2, t248] : List Int))).bind fun bt253 => (some (bt253.1, bt253.2))) else (some (0, t249))) = some (r1, r2) := H
  have A2 := Aside0.mk A20
  clear A20
  by_cases c3 : t249 = 0
  · rw [if_pos c3] at H
    have c3b0 : (t249 == 0) = true := beq_iff_eq.mpr c3
    have c3b1 : (t249 != 0) = false := bne_eq_false_iff_eq.mpr c3
    clear c3
    obtain ⟨y250, hy250⟩ : ∃ y_ : List Int, y_ = (([a0_1, a0_2, t248] : List Int)) := ⟨_, rfl⟩
    replace H : ((damsonref04_Add.f k y250).bind fun bt253 => (some (bt253.1, bt253.2))) = some (r1, r2) := by first | (rw [hy250]; with_reducible exact H) | (have H2_ := (Option.bind_some _ _).symm.trans H; rw [hy250]; with_reducible exact H2_) | (have H2_ := (Option.bind_some _ _).symm.trans H; with_reducible exact H2_) | with_reducible exact H | (rw [hy250]; exact H) | exact H
    have Ny250 := Aside0.mk hy250
    clear hy250
    replace H := Option.bind_eq_some_iff.mp H
    obtain ⟨⟨t253, t254⟩, A40, H⟩ := H
    replace H : (some (t253, t254)) = some (r1, r2) := H
    have A4 := Aside0.mk A40
    clear A40
    simp only [Option.some.injEq, Prod.mk.injEq] at H
    obtain ⟨rfl, rfl⟩ := H
    go_enter Try.func31, Try.ntmps31
    go_wp2_with (first | ((with_reducible refine gate_dst (N := 1) rfl ?_); refine box_event ?hg (N := 1) ?hd (cs := #[.int .u64 a0_0, .int .u64 a0_1, .int .u64 a0_2, .int .u64 a0_3, .int .u64 a0_4, .slice A0_5 l0_5.length c0_5, .bool a0_6]) (t := 25) ?hr ?_; (case hd => rfl); (case hg => rfl); (case hr => first | (go_simp; done) | (go_simp; rfl)); intro gb247 hg w5 hbox hb; have n0_ := Aside0.mk (below_step (belN HB) hb); have n1_ := Aside0.mk (hbox); have n2_ := Aside0.mk ((by rw [hg]; exact (below_size (belN HB)) : w.heap.size ≤ gb247)); have n3_ := Aside0.mk ((by rw [hg]; exact (below_size (belN HB)) : w.heap.size ≤ gb247)); clear HB; have HB := n0_; have BK247 := n1_; have GW247 := n2_; have GE247 := n3_; clear n0_ n1_ n2_ n3_; clear hb hbox hg; obtain ⟨hcz6_0, hcz6_1, hcz6_2, hcz6_3, hcz6_4, hcz6_5, hcz6_6, hfz6_0, hfz6_1, hfz6_2, hfz6_3, hfz6_4, hfz6_5, hfz6_6⟩ := cz7_ (w := w5) BK247.out) | ((with_reducible refine gate_callee (f := 29) rfl ?_); refine goesL_ (some 8) rfl rfl Try.func29 (by kernel_rfl) rfl #[.agg #[.int .u64 a0_0, .int .u64 a0_1, .int .u64 a0_2, .int .u64 a0_3, .int .u64 a0_4, .slice A0_5 l0_5.length c0_5, .bool a0_6]] rfl (by (try simp only [List.map_toArray, List.map_cons, List.map_nil]); first | done | rfl | (simp only [List.length_drop, List.length_take]; rfl)) ?_; (with_reducible refine (damsonref09_Held.calls k a0_0 a0_1 a0_2 a0_3 a0_4 _ _ l0_5 a0_6 t248 t249 _ ?side1 ?side2 A2.out).mono ?_); (case side1 => repeat (first | exact (Kd.C_below HR0_5.out HB.out) | (with_reducible refine Kd.C_alloc ?_ _) | (with_reducible refine Kd.C_drewN ?_ _) | (with_reducible refine Kd.C_drew ?_))); (case side2 => exact HC0_5.out); rintro e w7 ⟨rfl, hb⟩; refine ⟨_, rfl, ?_⟩; have n0_ := Aside0.mk (blk_below (g := gb247) (blkN BK247) hb); have n1_ := Aside0.mk (below_step (belN HB) hb); clear BK247; clear HB; have BK247 := n0_; have HB := n1_; clear n0_ n1_; (try clear hb); (try clear hb2); (try clear hk); (try clear hi); obtain ⟨hcz8_0, hcz8_1, hcz8_2, hcz8_3, hcz8_4, hcz8_5, hcz8_6, hfz8_0, hfz8_1, hfz8_2, hfz8_3, hfz8_4, hfz8_5, hfz8_6⟩ := cz7_ (w := w7) BK247.out) | ((with_reducible refine gate_dst (N := 19) rfl ?_); refine Kd.R_lit (Kd.int .u64) _ 22 ?hg (N := 19) ?hd (xs := ([a0_1, a0_2, t248] : List Int)) (inner := [.int .u64 a0_1, .int .u64 a0_2, .int .u64 t248]) (ok := fun _ => True) (okp := fun _ => True) ?hr ?hp (fun _ hk => hk) trivial (Below.refl _ _) (Nat.le_refl _) (by simp) ?_; (case hd => rfl); (case hg => rfl); (case hr => first | (go_simp; done) | (go_simp; rfl)); (case hp => exact (Reps.one (show Kd.M (Kd.int .u64) _ _ _ a0_1 [.int .u64 a0_1] from rfl) (Reps.one (show Kd.M (Kd.int .u64) _ _ _ a0_2 [.int .u64 a0_2] from rfl) (Reps.one (show Kd.M (Kd.int .u64) _ _ _ t248 [.int .u64 t248] from rfl) (Reps.none _ _))))); intro v251 w9 ho10 hb hg_ hnew_; clear hg_ hnew_; (first | rw [← Ny250.out] at ho10 | (simp only [Int.reduceToNat] at ho10; rw [← Ny250.out] at ho10)); have n0_ := Aside0.mk (Kd.R_lower ho10 (below_size (belN HB))); have n1_ := Aside0.mk (blk_below (g := gb247) (blkN BK247) hb); have n2_ := Aside0.mk (below_step (belN HB) hb); clear BK247; clear HB; have HO252 := n0_; have BK247 := n1_; have HB := n2_; clear n0_ n1_ n2_; clear hb ho10; obtain ⟨Ao11, co11, eo11⟩ := Kd.R_slice HO252.out; subst eo11) | ((with_reducible refine gate_callee (f := 94) rfl ?_); refine goesL_ (some 20) rfl rfl Try.func94 (by kernel_rfl) rfl #[.slice Ao11 y250.length co11] rfl (by (try simp only [List.map_toArray, List.map_cons, List.map_nil]); first | done | rfl | (simp only [List.length_drop, List.length_take]; rfl)) ?_; (with_reducible refine (damsonref04_Add.calls k _ _ y250 t253 t254 _ ?side1 ?side2 A4.out).mono ?_); (case side1 => exact Kd.CN (Kd.R_reads' HO252.out).2.2); (case side2 => exact (Kd.R_reads' HO252.out).2.1); rintro e w' ⟨rfl, ⟨nd, rfl⟩⟩; refine ⟨_, rfl, ?_⟩))
    go_ret2
    exact ⟨by first | rfl | (simp [errW_none, errW_some] <;> rfl) | (simp [*, errW_none, errW_some] <;> rfl), by repeat (first | (with_reducible first | exact HB.out | apply below_alloc | apply pw_below_drewN | apply below_drew1 | refine below_set ?_ GE247.out) | exact HB.out)⟩
  · rw [if_neg c3] at H
    have c3b0 : (t249 == 0) = false := beq_eq_false_iff_ne.mpr c3
    have c3b1 : (t249 != 0) = true := bne_iff_ne.mpr c3
    simp only [Option.some.injEq, Prod.mk.injEq] at H
    obtain ⟨rfl, rfl⟩ := H
    go_enter Try.func31, Try.ntmps31
    go_wp2_with (first | ((with_reducible refine gate_dst (N := 1) rfl ?_); refine box_event ?hg (N := 1) ?hd (cs := #[.int .u64 a0_0, .int .u64 a0_1, .int .u64 a0_2, .int .u64 a0_3, .int .u64 a0_4, .slice A0_5 l0_5.length c0_5, .bool a0_6]) (t := 25) ?hr ?_; (case hd => rfl); (case hg => rfl); (case hr => first | (go_simp; done) | (go_simp; rfl)); intro gb247 hg w12 hbox hb; have n0_ := Aside0.mk (below_step (belN HB) hb); have n1_ := Aside0.mk (hbox); have n2_ := Aside0.mk ((by rw [hg]; exact (below_size (belN HB)) : w.heap.size ≤ gb247)); have n3_ := Aside0.mk ((by rw [hg]; exact (below_size (belN HB)) : w.heap.size ≤ gb247)); clear HB; have HB := n0_; have BK247 := n1_; have GW247 := n2_; have GE247 := n3_; clear n0_ n1_ n2_ n3_; clear hb hbox hg; obtain ⟨hcz13_0, hcz13_1, hcz13_2, hcz13_3, hcz13_4, hcz13_5, hcz13_6, hfz13_0, hfz13_1, hfz13_2, hfz13_3, hfz13_4, hfz13_5, hfz13_6⟩ := cz7_ (w := w12) BK247.out) | ((with_reducible refine gate_callee (f := 29) rfl ?_); refine goesL_ (some 8) rfl rfl Try.func29 (by kernel_rfl) rfl #[.agg #[.int .u64 a0_0, .int .u64 a0_1, .int .u64 a0_2, .int .u64 a0_3, .int .u64 a0_4, .slice A0_5 l0_5.length c0_5, .bool a0_6]] rfl (by (try simp only [List.map_toArray, List.map_cons, List.map_nil]); first | done | rfl | (simp only [List.length_drop, List.length_take]; rfl)) ?_; (with_reducible refine (damsonref09_Held.calls k a0_0 a0_1 a0_2 a0_3 a0_4 _ _ l0_5 a0_6 t248 t249 _ ?side1 ?side2 A2.out).mono ?_); (case side1 => repeat (first | exact (Kd.C_below HR0_5.out HB.out) | (with_reducible refine Kd.C_alloc ?_ _) | (with_reducible refine Kd.C_drewN ?_ _) | (with_reducible refine Kd.C_drew ?_))); (case side2 => exact HC0_5.out); rintro e w14 ⟨rfl, hb⟩; refine ⟨_, rfl, ?_⟩; have n0_ := Aside0.mk (blk_below (g := gb247) (blkN BK247) hb); have n1_ := Aside0.mk (below_step (belN HB) hb); clear BK247; clear HB; have BK247 := n0_; have HB := n1_; clear n0_ n1_; (try clear hb); (try clear hb2); (try clear hk); (try clear hi)))
    go_ret2
    exact ⟨by first | rfl | (simp [errW_none, errW_some] <;> rfl) | (simp [*, errW_none, errW_some] <;> rfl), by repeat (first | (with_reducible first | exact HB.out | apply below_alloc | apply pw_below_drewN | apply below_drew1 | refine below_set ?_ GE247.out) | exact HB.out)⟩

/-! ### damsonref10_all: function 109 -/
def damsonref10_all.l0 : Nat → Int → List (S25) → Int → Int → Option (Int × Bool)
  | 0, _, _, _, _ => none
  | k + 1, x4, x11, x12, x13 => if x13 < x12 then (if 0 ≤ x13 then (if x13 < (x11.length : Int) then ((damsonref09_All.f k ((rd_T25 x11 x13).f0) ((rd_T25 x11 x13).f1) ((rd_T25 x11 x13).f2) ((rd_T25 x11 x13).f3) ((rd_T25 x11 x13).f4) ((rd_T25 x11 x13).f5) ((rd_T25 x11 x13).f6)).bind fun bt257 => ((damsonref04_Add.f k (([x4, bt257.1] : List Int))).bind fun bt262 => (if bt262.2 = 0 then (damsonref10_all.l0 k bt262.1 x11 x12 (wrap64 (x13 + 1))) else (some (0, false))))) else (none)) else (none)) else (some (x4, true))
def damsonref10_all.f (k : Nat) (l0 : List (S25)) : Option (Int × Bool) := damsonref10_all.l0 k 0 l0 (l0.length : Int) 0
theorem damsonref10_all.mono_l : ∀ k, (∀ y0 y1 y2 y3, LeO (damsonref10_all.l0 k y0 y1 y2 y3) (damsonref10_all.l0 (k + 1) y0 y1 y2 y3))
  | 0 => fun _ _ _ _ r h => by simp [damsonref10_all.l0] at h
  | k + 1 => by
    have ih0 := damsonref10_all.mono_l k
    · intro y0 y1 y2 y3
      unfold damsonref10_all.l0
      repeat' first
      | (with_reducible exact ih0 _ _ _ _)
      | (with_reducible exact damsonref04_Add.mono _ _)
      | (with_reducible exact damsonref09_All.mono _ _ _ _ _ _ _ _)
      | (with_reducible exact LeO.refl _)
      | (with_reducible exact LeO.none _)
      | (with_reducible refine LeO.ite ?_ ?_)
      | (with_reducible refine LeO.bind ?_ (fun _ => ?_))
      | exact ih0 _ _ _ _
      | exact damsonref04_Add.mono _ _
      | exact damsonref09_All.mono _ _ _ _ _ _ _ _
      | exact LeO.none _
      | refine LeO.ite ?_ ?_
      | refine LeO.bind ?_ (fun _ => ?_)
theorem damsonref10_all.mono : ∀ a0 k, LeO (damsonref10_all.f k a0) (damsonref10_all.f (k + 1) a0) := by
  intro a0 k
  have ih0 := damsonref10_all.mono_l k
  unfold damsonref10_all.f
  repeat' first
      | (with_reducible exact ih0 _ _ _ _)
      | (with_reducible exact damsonref04_Add.mono _ _)
      | (with_reducible exact damsonref09_All.mono _ _ _ _ _ _ _ _)
      | (with_reducible exact LeO.refl _)
      | (with_reducible exact LeO.none _)
      | (with_reducible refine LeO.ite ?_ ?_)
      | (with_reducible refine LeO.bind ?_ (fun _ => ?_))
      | exact ih0 _ _ _ _
      | exact damsonref04_Add.mono _ _
      | exact damsonref09_All.mono _ _ _ _ _ _ _ _
      | exact LeO.none _
      | refine LeO.ite ?_ ?_
      | refine LeO.bind ?_ (fun _ => ?_)
set_option maxHeartbeats 8000000 in
set_option maxRecDepth 100000 in
theorem damsonref10_all.calls (k : Nat) (A0 : Option Addr) (c0 : Nat) (l0 : List (S25)) (r1 : Int) (r2 : Bool) (w : World) (hr0 : Kd.C k25 w A0 l0.length l0) (hc0 : l0.length ≤ c0) (h : damsonref10_all.f k l0 = some (r1, r2)) :
    Calls Try.prog 109 #[.slice A0 l0.length c0] w fun e w' => e = .returned (.tuple #[.int .u64 r1, .bool r2]) ∧ Below w.heap.size w w' := by
  have hu25 := Try.underlying25
  have HR0 := Aside0.mk hr0
  have HC0 := Aside0.mk hc0
  clear hr0 hc0
  have HB := Aside0.mk (Below.refl w.heap.size w)
  have H : (damsonref10_all.l0 k 0 l0 (l0.length : Int) 0) = some (r1, r2) := h
  clear h
  have H' := Aside0.mk H
  clear H
  go_enter Try.func109, Try.ntmps109
  go_wp2
  go_loopg [4, 13] k (fun kq v4 v13 w' => ∃ (x4_1 : Int) (x13_1 : Int), v4 = .int .u64 x4_1 ∧ v13 = .int .i64 x13_1 ∧ Aside0 (damsonref10_all.l0 kq x4_1 l0 (l0.length : Int) x13_1 = some (r1, r2)) ∧ Aside0 (kq ≤ k) ∧ Aside0 (Below w.heap.size w w'))
  case atStart => exact ⟨(0), (0), (by first | rfl | (simp; done) | (simp [*]; done)), (by first | rfl | (simp; done) | (simp [*]; done)), H', ⟨Nat.le_refl _⟩, ⟨by repeat (first | (with_reducible first | exact HB.out | apply below_alloc | apply pw_below_drewN | apply below_drew1) | exact HB.out)⟩⟩
  case round =>
    clear H'
    try clear c1
    obtain ⟨x4_1, x13_1, rfl, rfl, HA, HK1, HB⟩ := hrel
    cases gk with
    | zero => exact absurd HA.out (by simp [damsonref10_all.l0])
    | succ k1 =>
      have H := HA.out
      clear HA
      simp only [damsonref10_all.l0] at H
      by_cases c2 : x13_1 < (l0.length : Int)
      · rw [if_pos c2] at H
        have c2b0 : decide (x13_1 < (l0.length : Int)) = true := decide_eq_true c2
        clear c2
        by_cases c3 : 0 ≤ x13_1
        · rw [if_pos c3] at H
          have c3b0 : decide (0 ≤ x13_1) = true := decide_eq_true c3
          clear c3
          by_cases c4 : x13_1 < (l0.length : Int)
          · rw [if_pos c4] at H
            have c4b0 : decide (x13_1 < (l0.length : Int)) = true := decide_eq_true c4
            clear c4
            replace H := Option.bind_eq_some_iff.mp H
            obtain ⟨⟨t257, t258⟩, A50, H⟩ := H
            replace H : ((damsonref04_Add.f k1 (([x4_1, t257] : List Int))).bind fun bt262 => (if bt262.2 = 0 then (damsonref10_all.l0 k1 bt262.1 l0 (l0.length : Int) (wrap64 (x13_1 + 1))) else (some (0, false)))) = some (r1, r2) := H
            have A5 := Aside0.mk A50
            clear A50
            obtain ⟨y259, hy259⟩ : ∃ y_ : List Int, y_ = (([x4_1, t257] : List Int)) := ⟨_, rfl⟩
            replace H : ((damsonref04_Add.f k1 y259).bind fun bt262 => (if bt262.2 = 0 then (damsonref10_all.l0 k1 bt262.1 l0 (l0.length : Int) (wrap64 (x13_1 + 1))) else (some (0, false)))) = some (r1, r2) := by first | (rw [hy259]; with_reducible exact H) | (have H2_ := (Option.bind_some _ _).symm.trans H; rw [hy259]; with_reducible exact H2_) | (have H2_ := (Option.bind_some _ _).symm.trans H; with_reducible exact H2_) | with_reducible exact H | (rw [hy259]; exact H) | exact H
            have Ny259 := Aside0.mk hy259
            clear hy259
            replace H := Option.bind_eq_some_iff.mp H
            obtain ⟨⟨t262, t263⟩, A60, H⟩ := H
            replace H : (if t263 = 0 then (damsonref10_all.l0 k1 t262 l0 (l0.length : Int) (wrap64 (x13_1 + 1))) else (some (0, false))) = some (r1, r2) := H
            have A6 := Aside0.mk A60
            clear A60
            by_cases c7 : t263 = 0
            · rw [if_pos c7] at H
              have c7b0 : (t263 == 0) = true := beq_iff_eq.mpr c7
              have c7b1 : (t263 != 0) = false := bne_eq_false_iff_eq.mpr c7
              clear c7
              have H' := Aside0.mk H
              clear H
              have p255 : 0 ≤ (x13_1 : Int) := of_decide_eq_true (by first | (with_reducible assumption) | assumption)
              have q255 : x13_1 < (l0.length : Int) := of_decide_eq_true (by first | (with_reducible assumption) | assumption)
              obtain ⟨ad255, A255_5, c255_5, e255, hx255_0, hx255_1, hx255_2, hx255_3, hx255_4, hx255_5, hx255_6, hl255_5, hi255_5⟩ := at_T25 HR0.out x13_1 p255 q255
              cases e255
              replace hx255_0 := (HB.out.cell (World.block_lt_of_cell? w _ hx255_0)).trans hx255_0
              replace hx255_1 := (HB.out.cell (World.block_lt_of_cell? w _ hx255_1)).trans hx255_1
              replace hx255_2 := (HB.out.cell (World.block_lt_of_cell? w _ hx255_2)).trans hx255_2
              replace hx255_3 := (HB.out.cell (World.block_lt_of_cell? w _ hx255_3)).trans hx255_3
              replace hx255_4 := (HB.out.cell (World.block_lt_of_cell? w _ hx255_4)).trans hx255_4
              replace hx255_5 := (HB.out.cell (World.block_lt_of_cell? w _ hx255_5)).trans hx255_5
              replace hx255_6 := (HB.out.cell (World.block_lt_of_cell? w _ hx255_6)).trans hx255_6
              have HR255_5 := Aside0.mk hi255_5
              have HC255_5 := Aside0.mk hl255_5
              clear hi255_5 hl255_5
              replace p255 := eq_true p255
              replace q255 := eq_true q255
              go_wp2_with (first | ((with_reducible refine gate_dst (N := 6) rfl ?_); refine box_event ?hg (N := 6) ?hd (cs := #[.int .u64 0, .int .u64 0, .int .u64 0, .int .u64 0, .int .u64 0, .slice none 0 0, .bool false]) (t := 25) ?hr ?_; (case hd => rfl); (case hg => rfl); (case hr => first | (go_simp; done) | (go_simp; rfl)); intro gb256 hg w8 hbox hb; have n0_ := Aside0.mk (below_step (belN HB) hb); have n1_ := Aside0.mk (hbox); have n2_ := Aside0.mk ((by rw [hg]; exact (below_size (belN HB)) : w.heap.size ≤ gb256)); have n3_ := Aside0.mk ((by rw [hg]; exact (below_size (belN HB)) : w.heap.size ≤ gb256)); clear HB; have HB := n0_; have BK256 := n1_; have GW256 := n2_; have GE256 := n3_; clear n0_ n1_ n2_ n3_; clear hb hbox hg; obtain ⟨hcz9_0, hcz9_1, hcz9_2, hcz9_3, hcz9_4, hcz9_5, hcz9_6, hfz9_0, hfz9_1, hfz9_2, hfz9_3, hfz9_4, hfz9_5, hfz9_6⟩ := cz7_ (w := w8) BK256.out) | ((with_reducible refine gate_callee (f := 31) rfl ?_); refine goesL_ (some 19) rfl rfl Try.func31 (by kernel_rfl) rfl #[.agg #[.int .u64 ((rd_T25 l0 x13_1).f0), .int .u64 ((rd_T25 l0 x13_1).f1), .int .u64 ((rd_T25 l0 x13_1).f2), .int .u64 ((rd_T25 l0 x13_1).f3), .int .u64 ((rd_T25 l0 x13_1).f4), .slice A255_5 ((rd_T25 l0 x13_1).f5).length c255_5, .bool ((rd_T25 l0 x13_1).f6)]] rfl (by (try simp only [List.map_toArray, List.map_cons, List.map_nil]); first | done | rfl | (simp only [List.length_drop, List.length_take]; rfl)) ?_; (with_reducible refine (damsonref09_All.calls k1 ((rd_T25 l0 x13_1).f0) ((rd_T25 l0 x13_1).f1) ((rd_T25 l0 x13_1).f2) ((rd_T25 l0 x13_1).f3) ((rd_T25 l0 x13_1).f4) _ _ ((rd_T25 l0 x13_1).f5) ((rd_T25 l0 x13_1).f6) t257 t258 _ ?side1 ?side2 A5.out).mono ?_); (case side1 => exact Kd.C_below HR255_5.out (belN HB)); (case side2 => exact HC255_5.out); rintro e w10 ⟨rfl, hb⟩; refine ⟨_, rfl, ?_⟩; have n0_ := Aside0.mk (blk_below (g := gb256) (o := .cells #[.int .u64 ((rd_T25 l0 x13_1).f0), .int .u64 ((rd_T25 l0 x13_1).f1), .int .u64 ((rd_T25 l0 x13_1).f2), .int .u64 ((rd_T25 l0 x13_1).f3), .int .u64 ((rd_T25 l0 x13_1).f4), .slice A255_5 ((rd_T25 l0 x13_1).f5).length c255_5, .bool ((rd_T25 l0 x13_1).f6)] 25 (0, 0)) (by (with_reducible repeat (first | refine blk_drewN ?_ _ | refine blk_drew ?_ | refine blk_alloc ?_ _)); refine blk_put (cs := #[.int .u64 ((rd_T25 l0 x13_1).f0), .int .u64 ((rd_T25 l0 x13_1).f1), .int .u64 ((rd_T25 l0 x13_1).f2), .int .u64 ((rd_T25 l0 x13_1).f3), .int .u64 ((rd_T25 l0 x13_1).f4), .slice A255_5 ((rd_T25 l0 x13_1).f5).length c255_5, .bool false]) ?_ 6 _ rfl; refine blk_put (cs := #[.int .u64 ((rd_T25 l0 x13_1).f0), .int .u64 ((rd_T25 l0 x13_1).f1), .int .u64 ((rd_T25 l0 x13_1).f2), .int .u64 ((rd_T25 l0 x13_1).f3), .int .u64 ((rd_T25 l0 x13_1).f4), .slice none 0 0, .bool false]) ?_ 5 _ rfl; refine blk_put (cs := #[.int .u64 ((rd_T25 l0 x13_1).f0), .int .u64 ((rd_T25 l0 x13_1).f1), .int .u64 ((rd_T25 l0 x13_1).f2), .int .u64 ((rd_T25 l0 x13_1).f3), .int .u64 0, .slice none 0 0, .bool false]) ?_ 4 _ rfl; refine blk_put (cs := #[.int .u64 ((rd_T25 l0 x13_1).f0), .int .u64 ((rd_T25 l0 x13_1).f1), .int .u64 ((rd_T25 l0 x13_1).f2), .int .u64 0, .int .u64 0, .slice none 0 0, .bool false]) ?_ 3 _ rfl; refine blk_put (cs := #[.int .u64 ((rd_T25 l0 x13_1).f0), .int .u64 ((rd_T25 l0 x13_1).f1), .int .u64 0, .int .u64 0, .int .u64 0, .slice none 0 0, .bool false]) ?_ 2 _ rfl; refine blk_put (cs := #[.int .u64 ((rd_T25 l0 x13_1).f0), .int .u64 0, .int .u64 0, .int .u64 0, .int .u64 0, .slice none 0 0, .bool false]) ?_ 1 _ rfl; refine blk_put (cs := #[.int .u64 0, .int .u64 0, .int .u64 0, .int .u64 0, .int .u64 0, .slice none 0 0, .bool false]) ?_ 0 _ rfl; (with_reducible repeat (first | refine blk_drewN ?_ _ | refine blk_drew ?_ | refine blk_alloc ?_ _)); exact BK256.out) hb); have n1_ := Aside0.mk (below_step (belN HB) hb); clear BK256; clear HB; have BK256 := n0_; have HB := n1_; clear n0_ n1_; (try clear hb); (try clear hb2); (try clear hk); (try clear hi)) | ((with_reducible refine gate_dst (N := 25) rfl ?_); refine Kd.R_lit (Kd.int .u64) _ 22 ?hg (N := 25) ?hd (xs := ([x4_1, t257] : List Int)) (inner := [.int .u64 x4_1, .int .u64 t257]) (ok := fun _ => True) (okp := fun _ => True) ?hr ?hp (fun _ hk => hk) trivial (Below.refl _ _) (Nat.le_refl _) (by simp) ?_; (case hd => rfl); (case hg => rfl); (case hr => first | (go_simp; done) | (go_simp; rfl)); (case hp => exact (Reps.one (show Kd.M (Kd.int .u64) _ _ _ x4_1 [.int .u64 x4_1] from rfl) (Reps.one (show Kd.M (Kd.int .u64) _ _ _ t257 [.int .u64 t257] from rfl) (Reps.none _ _)))); intro v260 w11 ho12 hb hg_ hnew_; clear hg_ hnew_; (first | rw [← Ny259.out] at ho12 | (simp only [Int.reduceToNat] at ho12; rw [← Ny259.out] at ho12)); have n0_ := Aside0.mk (Kd.R_lower ho12 (below_size (belN HB))); have n1_ := Aside0.mk (blk_below (g := gb256) (blkN BK256) hb); have n2_ := Aside0.mk (below_step (belN HB) hb); clear BK256; clear HB; have HO261 := n0_; have BK256 := n1_; have HB := n2_; clear n0_ n1_ n2_; clear hb ho12; obtain ⟨Ao13, co13, eo13⟩ := Kd.R_slice HO261.out; subst eo13) | ((with_reducible refine gate_callee (f := 94) rfl ?_); refine goesL_ (some 26) rfl rfl Try.func94 (by kernel_rfl) rfl #[.slice Ao13 y259.length co13] rfl (by (try simp only [List.map_toArray, List.map_cons, List.map_nil]); first | done | rfl | (simp only [List.length_drop, List.length_take]; rfl)) ?_; (with_reducible refine (damsonref04_Add.calls k1 _ _ y259 t262 t263 _ ?side1 ?side2 A6.out).mono ?_); (case side1 => exact Kd.CN (Kd.R_reads' HO261.out).2.2); (case side2 => exact (Kd.R_reads' HO261.out).2.1); rintro e w' ⟨rfl, ⟨nd, rfl⟩⟩; refine ⟨_, rfl, ?_⟩))
              go_roundg k1
              case measure => have := HK1.out; omega
              case rel => exact ⟨(t262), (wrap64 (x13_1 + 1)), (by first | rfl | (simp; done) | (simp [*]; done)), (by first | rfl | (simp; done) | (simp [*]; done)), H', ⟨by have := HK1.out; omega⟩, ⟨by repeat (first | (with_reducible first | exact HB.out | apply below_alloc | apply pw_below_drewN | apply below_drew1 | refine below_set ?_ GE256.out) | exact HB.out)⟩⟩
            · rw [if_neg c7] at H
              have c7b0 : (t263 == 0) = false := beq_eq_false_iff_ne.mpr c7
              have c7b1 : (t263 != 0) = true := bne_iff_ne.mpr c7
              simp only [Option.some.injEq, Prod.mk.injEq] at H
              obtain ⟨rfl, rfl⟩ := H
              have p255 : 0 ≤ (x13_1 : Int) := of_decide_eq_true (by first | (with_reducible assumption) | assumption)
              have q255 : x13_1 < (l0.length : Int) := of_decide_eq_true (by first | (with_reducible assumption) | assumption)
              obtain ⟨ad255, A255_5, c255_5, e255, hx255_0, hx255_1, hx255_2, hx255_3, hx255_4, hx255_5, hx255_6, hl255_5, hi255_5⟩ := at_T25 HR0.out x13_1 p255 q255
              cases e255
              replace hx255_0 := (HB.out.cell (World.block_lt_of_cell? w _ hx255_0)).trans hx255_0
              replace hx255_1 := (HB.out.cell (World.block_lt_of_cell? w _ hx255_1)).trans hx255_1
              replace hx255_2 := (HB.out.cell (World.block_lt_of_cell? w _ hx255_2)).trans hx255_2
              replace hx255_3 := (HB.out.cell (World.block_lt_of_cell? w _ hx255_3)).trans hx255_3
              replace hx255_4 := (HB.out.cell (World.block_lt_of_cell? w _ hx255_4)).trans hx255_4
              replace hx255_5 := (HB.out.cell (World.block_lt_of_cell? w _ hx255_5)).trans hx255_5
              replace hx255_6 := (HB.out.cell (World.block_lt_of_cell? w _ hx255_6)).trans hx255_6
              have HR255_5 := Aside0.mk hi255_5
              have HC255_5 := Aside0.mk hl255_5
              clear hi255_5 hl255_5
              replace p255 := eq_true p255
              replace q255 := eq_true q255
              go_wp2_with (first | ((with_reducible refine gate_dst (N := 6) rfl ?_); refine box_event ?hg (N := 6) ?hd (cs := #[.int .u64 0, .int .u64 0, .int .u64 0, .int .u64 0, .int .u64 0, .slice none 0 0, .bool false]) (t := 25) ?hr ?_; (case hd => rfl); (case hg => rfl); (case hr => first | (go_simp; done) | (go_simp; rfl)); intro gb256 hg w14 hbox hb; have n0_ := Aside0.mk (below_step (belN HB) hb); have n1_ := Aside0.mk (hbox); have n2_ := Aside0.mk ((by rw [hg]; exact (below_size (belN HB)) : w.heap.size ≤ gb256)); have n3_ := Aside0.mk ((by rw [hg]; exact (below_size (belN HB)) : w.heap.size ≤ gb256)); clear HB; have HB := n0_; have BK256 := n1_; have GW256 := n2_; have GE256 := n3_; clear n0_ n1_ n2_ n3_; clear hb hbox hg; obtain ⟨hcz15_0, hcz15_1, hcz15_2, hcz15_3, hcz15_4, hcz15_5, hcz15_6, hfz15_0, hfz15_1, hfz15_2, hfz15_3, hfz15_4, hfz15_5, hfz15_6⟩ := cz7_ (w := w14) BK256.out) | ((with_reducible refine gate_callee (f := 31) rfl ?_); refine goesL_ (some 19) rfl rfl Try.func31 (by kernel_rfl) rfl #[.agg #[.int .u64 ((rd_T25 l0 x13_1).f0), .int .u64 ((rd_T25 l0 x13_1).f1), .int .u64 ((rd_T25 l0 x13_1).f2), .int .u64 ((rd_T25 l0 x13_1).f3), .int .u64 ((rd_T25 l0 x13_1).f4), .slice A255_5 ((rd_T25 l0 x13_1).f5).length c255_5, .bool ((rd_T25 l0 x13_1).f6)]] rfl (by (try simp only [List.map_toArray, List.map_cons, List.map_nil]); first | done | rfl | (simp only [List.length_drop, List.length_take]; rfl)) ?_; (with_reducible refine (damsonref09_All.calls k1 ((rd_T25 l0 x13_1).f0) ((rd_T25 l0 x13_1).f1) ((rd_T25 l0 x13_1).f2) ((rd_T25 l0 x13_1).f3) ((rd_T25 l0 x13_1).f4) _ _ ((rd_T25 l0 x13_1).f5) ((rd_T25 l0 x13_1).f6) t257 t258 _ ?side1 ?side2 A5.out).mono ?_); (case side1 => exact Kd.C_below HR255_5.out (belN HB)); (case side2 => exact HC255_5.out); rintro e w16 ⟨rfl, hb⟩; refine ⟨_, rfl, ?_⟩; have n0_ := Aside0.mk (blk_below (g := gb256) (o := .cells #[.int .u64 ((rd_T25 l0 x13_1).f0), .int .u64 ((rd_T25 l0 x13_1).f1), .int .u64 ((rd_T25 l0 x13_1).f2), .int .u64 ((rd_T25 l0 x13_1).f3), .int .u64 ((rd_T25 l0 x13_1).f4), .slice A255_5 ((rd_T25 l0 x13_1).f5).length c255_5, .bool ((rd_T25 l0 x13_1).f6)] 25 (0, 0)) (by (with_reducible repeat (first | refine blk_drewN ?_ _ | refine blk_drew ?_ | refine blk_alloc ?_ _)); refine blk_put (cs := #[.int .u64 ((rd_T25 l0 x13_1).f0), .int .u64 ((rd_T25 l0 x13_1).f1), .int .u64 ((rd_T25 l0 x13_1).f2), .int .u64 ((rd_T25 l0 x13_1).f3), .int .u64 ((rd_T25 l0 x13_1).f4), .slice A255_5 ((rd_T25 l0 x13_1).f5).length c255_5, .bool false]) ?_ 6 _ rfl; refine blk_put (cs := #[.int .u64 ((rd_T25 l0 x13_1).f0), .int .u64 ((rd_T25 l0 x13_1).f1), .int .u64 ((rd_T25 l0 x13_1).f2), .int .u64 ((rd_T25 l0 x13_1).f3), .int .u64 ((rd_T25 l0 x13_1).f4), .slice none 0 0, .bool false]) ?_ 5 _ rfl; refine blk_put (cs := #[.int .u64 ((rd_T25 l0 x13_1).f0), .int .u64 ((rd_T25 l0 x13_1).f1), .int .u64 ((rd_T25 l0 x13_1).f2), .int .u64 ((rd_T25 l0 x13_1).f3), .int .u64 0, .slice none 0 0, .bool false]) ?_ 4 _ rfl; refine blk_put (cs := #[.int .u64 ((rd_T25 l0 x13_1).f0), .int .u64 ((rd_T25 l0 x13_1).f1), .int .u64 ((rd_T25 l0 x13_1).f2), .int .u64 0, .int .u64 0, .slice none 0 0, .bool false]) ?_ 3 _ rfl; refine blk_put (cs := #[.int .u64 ((rd_T25 l0 x13_1).f0), .int .u64 ((rd_T25 l0 x13_1).f1), .int .u64 0, .int .u64 0, .int .u64 0, .slice none 0 0, .bool false]) ?_ 2 _ rfl; refine blk_put (cs := #[.int .u64 ((rd_T25 l0 x13_1).f0), .int .u64 0, .int .u64 0, .int .u64 0, .int .u64 0, .slice none 0 0, .bool false]) ?_ 1 _ rfl; refine blk_put (cs := #[.int .u64 0, .int .u64 0, .int .u64 0, .int .u64 0, .int .u64 0, .slice none 0 0, .bool false]) ?_ 0 _ rfl; (with_reducible repeat (first | refine blk_drewN ?_ _ | refine blk_drew ?_ | refine blk_alloc ?_ _)); exact BK256.out) hb); have n1_ := Aside0.mk (below_step (belN HB) hb); clear BK256; clear HB; have BK256 := n0_; have HB := n1_; clear n0_ n1_; (try clear hb); (try clear hb2); (try clear hk); (try clear hi)) | ((with_reducible refine gate_dst (N := 25) rfl ?_); refine Kd.R_lit (Kd.int .u64) _ 22 ?hg (N := 25) ?hd (xs := ([x4_1, t257] : List Int)) (inner := [.int .u64 x4_1, .int .u64 t257]) (ok := fun _ => True) (okp := fun _ => True) ?hr ?hp (fun _ hk => hk) trivial (Below.refl _ _) (Nat.le_refl _) (by simp) ?_; (case hd => rfl); (case hg => rfl); (case hr => first | (go_simp; done) | (go_simp; rfl)); (case hp => exact (Reps.one (show Kd.M (Kd.int .u64) _ _ _ x4_1 [.int .u64 x4_1] from rfl) (Reps.one (show Kd.M (Kd.int .u64) _ _ _ t257 [.int .u64 t257] from rfl) (Reps.none _ _)))); intro v260 w17 ho18 hb hg_ hnew_; clear hg_ hnew_; (first | rw [← Ny259.out] at ho18 | (simp only [Int.reduceToNat] at ho18; rw [← Ny259.out] at ho18)); have n0_ := Aside0.mk (Kd.R_lower ho18 (below_size (belN HB))); have n1_ := Aside0.mk (blk_below (g := gb256) (blkN BK256) hb); have n2_ := Aside0.mk (below_step (belN HB) hb); clear BK256; clear HB; have HO261 := n0_; have BK256 := n1_; have HB := n2_; clear n0_ n1_ n2_; clear hb ho18; obtain ⟨Ao19, co19, eo19⟩ := Kd.R_slice HO261.out; subst eo19) | ((with_reducible refine gate_callee (f := 94) rfl ?_); refine goesL_ (some 26) rfl rfl Try.func94 (by kernel_rfl) rfl #[.slice Ao19 y259.length co19] rfl (by (try simp only [List.map_toArray, List.map_cons, List.map_nil]); first | done | rfl | (simp only [List.length_drop, List.length_take]; rfl)) ?_; (with_reducible refine (damsonref04_Add.calls k1 _ _ y259 t262 t263 _ ?side1 ?side2 A6.out).mono ?_); (case side1 => exact Kd.CN (Kd.R_reads' HO261.out).2.2); (case side2 => exact (Kd.R_reads' HO261.out).2.1); rintro e w' ⟨rfl, ⟨nd, rfl⟩⟩; refine ⟨_, rfl, ?_⟩))
              go_ret2
              exact ⟨by first | rfl | (simp [errW_none, errW_some] <;> rfl) | (simp [*, errW_none, errW_some] <;> rfl), by repeat (first | (with_reducible first | exact HB.out | apply below_alloc | apply pw_below_drewN | apply below_drew1 | refine below_set ?_ GE256.out) | exact HB.out)⟩
          · rw [if_neg c4] at H
            exact absurd H (by simp)
        · rw [if_neg c3] at H
          exact absurd H (by simp)
      · rw [if_neg c2] at H
        have c2b0 : decide (x13_1 < (l0.length : Int)) = false := decide_eq_false c2
        clear c2
        simp only [Option.some.injEq, Prod.mk.injEq] at H
        obtain ⟨rfl, rfl⟩ := H
        go_wp2
        go_ret2
        exact ⟨by first | rfl | (simp [errW_none, errW_some] <;> rfl) | (simp [*, errW_none, errW_some] <;> rfl), by repeat (first | (with_reducible first | exact HB.out | apply below_alloc | apply pw_below_drewN | apply below_drew1) | exact HB.out)⟩

end Go.Proofs.Ytcfbcoinbecdfaa.P
