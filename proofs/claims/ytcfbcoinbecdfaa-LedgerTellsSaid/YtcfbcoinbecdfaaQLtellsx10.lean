-- written by a program of this session (wip/print)
import Derived.Test.YtcfbcoinbecdfaaQLtellsx0
import Derived.Test.YtcfbcoinbecdfaaQLtellsx9
namespace Go.Proofs.Ytcfbcoinbecdfaa.P
open Go.RowKit Go.Proofs.YtcfbcoinbecdfaaW.PrintWords Go.Proofs.YtcfbcoinbecdfaaW.PrintLast Go.Proofs.YtcfbcoinbecdfaaW.PrintMore
attribute [local go_sem] max2_int min2_int max_two min_two max_three min_three max_four min_four run_sub64_   -- for this text's walks alone
set_option linter.unusedVariables false
set_option linter.unusedSimpArgs false

/-! ### channel_Same: function 26 -/
def channel_Same.f (k : Nat) (a0_0 : Int) (a0_1 : Int) (a0_2 : Int) (a0_3 : Int) (a0_4 : Int) (l0_5 : List (S44)) (a0_6 : Bool) (a1_0 : Int) (a1_1 : Int) (a1_2 : Int) (a1_3 : Int) (a1_4 : Int) (l1_5 : List (S44)) (a1_6 : Bool) : Option (Bool) := (slices_Equal_Hold.f k l0_5 l1_5).bind fun t198 => (if t198 = true then (if a0_0 = a1_0 then (if a0_1 = a1_1 then (if a0_2 = a1_2 then (if a0_3 = a1_3 then (if a0_4 = a1_4 then (some (a0_6 == a1_6)) else (some false)) else (some false)) else (some false)) else (some false)) else (some false)) else (some false))
theorem channel_Same.mono : ∀ a0 a1 a2 a3 a4 a5 a6 a7 a8 a9 a10 a11 a12 a13 k, LeO (channel_Same.f k a0 a1 a2 a3 a4 a5 a6 a7 a8 a9 a10 a11 a12 a13) (channel_Same.f (k + 1) a0 a1 a2 a3 a4 a5 a6 a7 a8 a9 a10 a11 a12 a13) := by
 intro a0 a1 a2 a3 a4 a5 a6 a7 a8 a9 a10 a11 a12 a13 k
 unfold channel_Same.f
 repeat' first
   | (with_reducible exact slices_Equal_Hold.mono _ _ _)
   | (with_reducible exact LeO.refl _)
   | (with_reducible exact LeO.none _)
   | (with_reducible refine LeO.ite ?_ ?_)
   | (with_reducible refine LeO.bind ?_ (fun _ => ?_))
   | exact slices_Equal_Hold.mono _ _ _
   | exact LeO.none _
   | refine LeO.ite ?_ ?_
   | refine LeO.bind ?_ (fun _ => ?_)
set_option maxHeartbeats 8000000 in
set_option maxRecDepth 100000 in
theorem channel_Same.calls (k : Nat) (a0_0 : Int) (a0_1 : Int) (a0_2 : Int) (a0_3 : Int) (a0_4 : Int) (A0_5 : Option Addr) (c0_5 : Nat) (l0_5 : List (S44)) (a0_6 : Bool) (a1_0 : Int) (a1_1 : Int) (a1_2 : Int) (a1_3 : Int) (a1_4 : Int) (A1_5 : Option Addr) (c1_5 : Nat) (l1_5 : List (S44)) (a1_6 : Bool) (r : Bool) (w : World) (hr0_5 : Kd.C k44 w A0_5 l0_5.length l0_5) (hc0_5 : l0_5.length ≤ c0_5) (hr1_5 : Kd.C k44 w A1_5 l1_5.length l1_5) (hc1_5 : l1_5.length ≤ c1_5) (h : channel_Same.f k a0_0 a0_1 a0_2 a0_3 a0_4 l0_5 a0_6 a1_0 a1_1 a1_2 a1_3 a1_4 l1_5 a1_6 = some r) :
  Calls Try.prog 26 #[.agg #[.int .u64 a0_0, .int .u64 a0_1, .int .u64 a0_2, .int .u64 a0_3, .int .u64 a0_4, .slice A0_5 l0_5.length c0_5, .bool a0_6], .agg #[.int .u64 a1_0, .int .u64 a1_1, .int .u64 a1_2, .int .u64 a1_3, .int .u64 a1_4, .slice A1_5 l1_5.length c1_5, .bool a1_6]] w fun e w' => e = .returned (.bool r) ∧ Below w.heap.size w w' := by
 have hu25 := Try.underlying25
 have HR0_5 := Aside0.mk hr0_5
 have HC0_5 := Aside0.mk hc0_5
 clear hr0_5 hc0_5
 have HR1_5 := Aside0.mk hr1_5
 have HC1_5 := Aside0.mk hc1_5
 clear hr1_5 hc1_5
 have HB := Aside0.mk (Below.refl w.heap.size w)
 have H : ((slices_Equal_Hold.f k l0_5 l1_5).bind fun t198 => (if t198 = true then (if a0_0 = a1_0 then (if a0_1 = a1_1 then (if a0_2 = a1_2 then (if a0_3 = a1_3 then (if a0_4 = a1_4 then (some (a0_6 == a1_6)) else (some false)) else (some false)) else (some false)) else (some false)) else (some false)) else (some false))) = some r := h
 clear h
 replace H := Option.bind_eq_some_iff.mp H
 obtain ⟨t198, A30, H⟩ := H
 replace H : (if t198 = true then (if a0_0 = a1_0 then (if a0_1 = a1_1 then (if a0_2 = a1_2 then (if a0_3 = a1_3 then (if a0_4 = a1_4 then (some (a0_6 == a1_6)) else (some false)) else (some false)) else (some false)) else (some false)) else (some false)) else (some false)) = some r := H
 have A3 := Aside0.mk A30
 clear A30
 by_cases c4 : t198 = true
 ·subst c4
  have H1 : (if a0_0 = a1_0 then (if a0_1 = a1_1 then (if a0_2 = a1_2 then (if a0_3 = a1_3 then (if a0_4 = a1_4 then (some (a0_6 == a1_6)) else (some false)) else (some false)) else (some false)) else (some false)) else (some false)) = some r := by rw [if_pos rfl] at H; exact H
  clear H
  have H := H1
  clear H1
  by_cases c5 : a0_0 = a1_0
  ·rw [if_pos c5] at H
   have c5b0 : (a0_0 == a1_0) = true := beq_iff_eq.mpr c5
   have c5b1 : (a0_0 != a1_0) = false := bne_eq_false_iff_eq.mpr c5
   clear c5
   by_cases c6 : a0_1 = a1_1
   ·rw [if_pos c6] at H
    have c6b0 : (a0_1 == a1_1) = true := beq_iff_eq.mpr c6
    have c6b1 : (a0_1 != a1_1) = false := bne_eq_false_iff_eq.mpr c6
    clear c6
    by_cases c7 : a0_2 = a1_2
    ·rw [if_pos c7] at H
     have c7b0 : (a0_2 == a1_2) = true := beq_iff_eq.mpr c7
     have c7b1 : (a0_2 != a1_2) = false := bne_eq_false_iff_eq.mpr c7
     clear c7
     by_cases c8 : a0_3 = a1_3
     ·rw [if_pos c8] at H
      have c8b0 : (a0_3 == a1_3) = true := beq_iff_eq.mpr c8
      have c8b1 : (a0_3 != a1_3) = false := bne_eq_false_iff_eq.mpr c8
      clear c8
      by_cases c9 : a0_4 = a1_4
      ·rw [if_pos c9] at H
       have c9b0 : (a0_4 == a1_4) = true := beq_iff_eq.mpr c9
       have c9b1 : (a0_4 != a1_4) = false := bne_eq_false_iff_eq.mpr c9
       clear c9
       obtain rfl := Option.some.inj H
       go_enter Try.func26, Try.ntmps26
       go_wp2_with (first | ((with_reducible refine gate_dst (N := 2) rfl ?_); refine box_event ?hg (N := 2) ?hd (cs := #[.int .u64 a0_0, .int .u64 a0_1, .int .u64 a0_2, .int .u64 a0_3, .int .u64 a0_4, .slice A0_5 l0_5.length c0_5, .bool a0_6]) (t := 25) ?hr ?_; (case hd => rfl); (case hg => rfl); (case hr => first | (go_simp; done) | (go_simp; rfl)); intro gb196 hg w10 hbox hb; have n0_ := Aside0.mk (below_step (belN HB) hb); have n1_ := Aside0.mk (hbox); have n2_ := Aside0.mk ((by rw [hg]; exact (below_size (belN HB)) : w.heap.size ≤ gb196)); have n3_ := Aside0.mk ((by rw [hg]; exact (below_size (belN HB)) : w.heap.size ≤ gb196)); clear HB; have HB := n0_; have BK196 := n1_; have GW196 := n2_; have GE196 := n3_; clear n0_ n1_ n2_ n3_; clear hb hbox hg) | ((with_reducible refine gate_dst (N := 3) rfl ?_); refine box_event ?hg (N := 3) ?hd (cs := #[.int .u64 a1_0, .int .u64 a1_1, .int .u64 a1_2, .int .u64 a1_3, .int .u64 a1_4, .slice A1_5 l1_5.length c1_5, .bool a1_6]) (t := 25) ?hr ?_; (case hd => rfl); (case hg => rfl); (case hr => first | (go_simp; done) | (go_simp; rfl)); intro gb197 hg w11 hbox hb; have n0_ := Aside0.mk (blk_below (g := gb196) (blkN BK196) hb); have n1_ := Aside0.mk (below_step (belN HB) hb); have n2_ := Aside0.mk (hbox); have n3_ := Aside0.mk ((by rw [hg]; exact (below_size (belN HB)) : w.heap.size ≤ gb197)); have n4_ := Aside0.mk ((by rw [hg]; exact (below_size (belN HB)) : w.heap.size ≤ gb197)); have n5_ := Aside0.mk ((by rw [hg]; exact Nat.ne_of_lt (blk_lt (g := gb196) (blkN BK196)) : gb196 ≠ gb197)); have n6_ := Aside0.mk ((by rw [hg]; exact Nat.ne_of_gt (blk_lt (g := gb196) (blkN BK196)) : gb197 ≠ gb196)); clear BK196; clear HB; have BK196 := n0_; have HB := n1_; have BK197 := n2_; have GW197 := n3_; have GE197 := n4_; have NB196_197 := n5_; have NB197_196 := n6_; clear n0_ n1_ n2_ n3_ n4_ n5_ n6_; clear hb hbox hg; have hnb12 := NB196_197.out; have hnc12 := NB197_196.out; obtain ⟨hcz13_0, hcz13_1, hcz13_2, hcz13_3, hcz13_4, hcz13_5, hcz13_6, hfz13_0, hfz13_1, hfz13_2, hfz13_3, hfz13_4, hfz13_5, hfz13_6⟩ := cz7_ (w := w11) BK196.out; obtain ⟨hcz14_0, hcz14_1, hcz14_2, hcz14_3, hcz14_4, hcz14_5, hcz14_6, hfz14_0, hfz14_1, hfz14_2, hfz14_3, hfz14_4, hfz14_5, hfz14_6⟩ := cz7_ (w := w11) BK197.out) | ((with_reducible refine gate_callee (f := 93) rfl ?_); refine goesL_ (some 9) rfl rfl Try.func93 (by kernel_rfl) rfl #[.slice A0_5 l0_5.length c0_5, .slice A1_5 l1_5.length c1_5] rfl (by (try simp only [List.map_toArray, List.map_cons, List.map_nil]); first | done | rfl | (simp only [List.length_drop, List.length_take]; rfl)) ?_; (with_reducible refine (slices_Equal_Hold.calls k _ _ l0_5 _ _ l1_5 true _ ?side1 ?side2 ?side3 ?side4 A3.out).mono ?_); (case side1 => repeat (first | exact (Kd.C_below HR0_5.out HB.out) | (with_reducible refine Kd.C_alloc ?_ _) | (with_reducible refine Kd.C_drewN ?_ _) | (with_reducible refine Kd.C_drew ?_))); (case side2 => exact HC0_5.out); (case side3 => repeat (first | exact (Kd.C_below HR1_5.out HB.out) | (with_reducible refine Kd.C_alloc ?_ _) | (with_reducible refine Kd.C_drewN ?_ _) | (with_reducible refine Kd.C_drew ?_))); (case side4 => exact HC1_5.out); rintro e w' ⟨rfl, ⟨nd, rfl⟩⟩; refine ⟨_, rfl, ?_⟩))
       go_ret
       exact ⟨by first | rfl | (simp [errW_none, errW_some] <;> rfl) | (simp [*, errW_none, errW_some] <;> rfl), by repeat (first | (with_reducible first | exact HB.out | apply below_alloc | apply pw_below_drewN | apply below_drew1 | refine below_set ?_ GE196.out | refine below_set ?_ GE197.out) | exact HB.out)⟩
      ·rw [if_neg c9] at H
       have c9b0 : (a0_4 == a1_4) = false := beq_eq_false_iff_ne.mpr c9
       have c9b1 : (a0_4 != a1_4) = true := bne_iff_ne.mpr c9
       obtain rfl := Option.some.inj H
       go_enter Try.func26, Try.ntmps26
       go_wp2_with (first | ((with_reducible refine gate_dst (N := 2) rfl ?_); refine box_event ?hg (N := 2) ?hd (cs := #[.int .u64 a0_0, .int .u64 a0_1, .int .u64 a0_2, .int .u64 a0_3, .int .u64 a0_4, .slice A0_5 l0_5.length c0_5, .bool a0_6]) (t := 25) ?hr ?_; (case hd => rfl); (case hg => rfl); (case hr => first | (go_simp; done) | (go_simp; rfl)); intro gb196 hg w15 hbox hb; have n0_ := Aside0.mk (below_step (belN HB) hb); have n1_ := Aside0.mk (hbox); have n2_ := Aside0.mk ((by rw [hg]; exact (below_size (belN HB)) : w.heap.size ≤ gb196)); have n3_ := Aside0.mk ((by rw [hg]; exact (below_size (belN HB)) : w.heap.size ≤ gb196)); clear HB; have HB := n0_; have BK196 := n1_; have GW196 := n2_; have GE196 := n3_; clear n0_ n1_ n2_ n3_; clear hb hbox hg) | ((with_reducible refine gate_dst (N := 3) rfl ?_); refine box_event ?hg (N := 3) ?hd (cs := #[.int .u64 a1_0, .int .u64 a1_1, .int .u64 a1_2, .int .u64 a1_3, .int .u64 a1_4, .slice A1_5 l1_5.length c1_5, .bool a1_6]) (t := 25) ?hr ?_; (case hd => rfl); (case hg => rfl); (case hr => first | (go_simp; done) | (go_simp; rfl)); intro gb197 hg w16 hbox hb; have n0_ := Aside0.mk (blk_below (g := gb196) (blkN BK196) hb); have n1_ := Aside0.mk (below_step (belN HB) hb); have n2_ := Aside0.mk (hbox); have n3_ := Aside0.mk ((by rw [hg]; exact (below_size (belN HB)) : w.heap.size ≤ gb197)); have n4_ := Aside0.mk ((by rw [hg]; exact (below_size (belN HB)) : w.heap.size ≤ gb197)); have n5_ := Aside0.mk ((by rw [hg]; exact Nat.ne_of_lt (blk_lt (g := gb196) (blkN BK196)) : gb196 ≠ gb197)); have n6_ := Aside0.mk ((by rw [hg]; exact Nat.ne_of_gt (blk_lt (g := gb196) (blkN BK196)) : gb197 ≠ gb196)); clear BK196; clear HB; have BK196 := n0_; have HB := n1_; have BK197 := n2_; have GW197 := n3_; have GE197 := n4_; have NB196_197 := n5_; have NB197_196 := n6_; clear n0_ n1_ n2_ n3_ n4_ n5_ n6_; clear hb hbox hg; have hnb17 := NB196_197.out; have hnc17 := NB197_196.out; obtain ⟨hcz18_0, hcz18_1, hcz18_2, hcz18_3, hcz18_4, hcz18_5, hcz18_6, hfz18_0, hfz18_1, hfz18_2, hfz18_3, hfz18_4, hfz18_5, hfz18_6⟩ := cz7_ (w := w16) BK196.out; obtain ⟨hcz19_0, hcz19_1, hcz19_2, hcz19_3, hcz19_4, hcz19_5, hcz19_6, hfz19_0, hfz19_1, hfz19_2, hfz19_3, hfz19_4, hfz19_5, hfz19_6⟩ := cz7_ (w := w16) BK197.out) | ((with_reducible refine gate_callee (f := 93) rfl ?_); refine goesL_ (some 9) rfl rfl Try.func93 (by kernel_rfl) rfl #[.slice A0_5 l0_5.length c0_5, .slice A1_5 l1_5.length c1_5] rfl (by (try simp only [List.map_toArray, List.map_cons, List.map_nil]); first | done | rfl | (simp only [List.length_drop, List.length_take]; rfl)) ?_; (with_reducible refine (slices_Equal_Hold.calls k _ _ l0_5 _ _ l1_5 true _ ?side1 ?side2 ?side3 ?side4 A3.out).mono ?_); (case side1 => repeat (first | exact (Kd.C_below HR0_5.out HB.out) | (with_reducible refine Kd.C_alloc ?_ _) | (with_reducible refine Kd.C_drewN ?_ _) | (with_reducible refine Kd.C_drew ?_))); (case side2 => exact HC0_5.out); (case side3 => repeat (first | exact (Kd.C_below HR1_5.out HB.out) | (with_reducible refine Kd.C_alloc ?_ _) | (with_reducible refine Kd.C_drewN ?_ _) | (with_reducible refine Kd.C_drew ?_))); (case side4 => exact HC1_5.out); rintro e w' ⟨rfl, ⟨nd, rfl⟩⟩; refine ⟨_, rfl, ?_⟩))
       go_ret
       exact ⟨by first | rfl | (simp [errW_none, errW_some] <;> rfl) | (simp [*, errW_none, errW_some] <;> rfl), by repeat (first | (with_reducible first | exact HB.out | apply below_alloc | apply pw_below_drewN | apply below_drew1 | refine below_set ?_ GE196.out | refine below_set ?_ GE197.out) | exact HB.out)⟩
     ·rw [if_neg c8] at H
      have c8b0 : (a0_3 == a1_3) = false := beq_eq_false_iff_ne.mpr c8
      have c8b1 : (a0_3 != a1_3) = true := bne_iff_ne.mpr c8
      obtain rfl := Option.some.inj H
      go_enter Try.func26, Try.ntmps26
      go_wp2_with (first | ((with_reducible refine gate_dst (N := 2) rfl ?_); refine box_event ?hg (N := 2) ?hd (cs := #[.int .u64 a0_0, .int .u64 a0_1, .int .u64 a0_2, .int .u64 a0_3, .int .u64 a0_4, .slice A0_5 l0_5.length c0_5, .bool a0_6]) (t := 25) ?hr ?_; (case hd => rfl); (case hg => rfl); (case hr => first | (go_simp; done) | (go_simp; rfl)); intro gb196 hg w20 hbox hb; have n0_ := Aside0.mk (below_step (belN HB) hb); have n1_ := Aside0.mk (hbox); have n2_ := Aside0.mk ((by rw [hg]; exact (below_size (belN HB)) : w.heap.size ≤ gb196)); have n3_ := Aside0.mk ((by rw [hg]; exact (below_size (belN HB)) : w.heap.size ≤ gb196)); clear HB; have HB := n0_; have BK196 := n1_; have GW196 := n2_; have GE196 := n3_; clear n0_ n1_ n2_ n3_; clear hb hbox hg) | ((with_reducible refine gate_dst (N := 3) rfl ?_); refine box_event ?hg (N := 3) ?hd (cs := #[.int .u64 a1_0, .int .u64 a1_1, .int .u64 a1_2, .int .u64 a1_3, .int .u64 a1_4, .slice A1_5 l1_5.length c1_5, .bool a1_6]) (t := 25) ?hr ?_; (case hd => rfl); (case hg => rfl); (case hr => first | (go_simp; done) | (go_simp; rfl)); intro gb197 hg w21 hbox hb; have n0_ := Aside0.mk (blk_below (g := gb196) (blkN BK196) hb); have n1_ := Aside0.mk (below_step (belN HB) hb); have n2_ := Aside0.mk (hbox); have n3_ := Aside0.mk ((by rw [hg]; exact (below_size (belN HB)) : w.heap.size ≤ gb197)); have n4_ := Aside0.mk ((by rw [hg]; exact (below_size (belN HB)) : w.heap.size ≤ gb197)); have n5_ := Aside0.mk ((by rw [hg]; exact Nat.ne_of_lt (blk_lt (g := gb196) (blkN BK196)) : gb196 ≠ gb197)); have n6_ := Aside0.mk ((by rw [hg]; exact Nat.ne_of_gt (blk_lt (g := gb196) (blkN BK196)) : gb197 ≠ gb196)); clear BK196; clear HB; have BK196 := n0_; have HB := n1_; have BK197 := n2_; have GW197 := n3_; have GE197 := n4_; have NB196_197 := n5_; have NB197_196 := n6_; clear n0_ n1_ n2_ n3_ n4_ n5_ n6_; clear hb hbox hg; have hnb22 := NB196_197.out; have hnc22 := NB197_196.out; obtain ⟨hcz23_0, hcz23_1, hcz23_2, hcz23_3, hcz23_4, hcz23_5, hcz23_6, hfz23_0, hfz23_1, hfz23_2, hfz23_3, hfz23_4, hfz23_5, hfz23_6⟩ := cz7_ (w := w21) BK196.out; obtain ⟨hcz24_0, hcz24_1, hcz24_2, hcz24_3, hcz24_4, hcz24_5, hcz24_6, hfz24_0, hfz24_1, hfz24_2, hfz24_3, hfz24_4, hfz24_5, hfz24_6⟩ := cz7_ (w := w21) BK197.out) | ((with_reducible refine gate_callee (f := 93) rfl ?_); refine goesL_ (some 9) rfl rfl Try.func93 (by kernel_rfl) rfl #[.slice A0_5 l0_5.length c0_5, .slice A1_5 l1_5.length c1_5] rfl (by (try simp only [List.map_toArray, List.map_cons, List.map_nil]); first | done | rfl | (simp only [List.length_drop, List.length_take]; rfl)) ?_; (with_reducible refine (slices_Equal_Hold.calls k _ _ l0_5 _ _ l1_5 true _ ?side1 ?side2 ?side3 ?side4 A3.out).mono ?_); (case side1 => repeat (first | exact (Kd.C_below HR0_5.out HB.out) | (with_reducible refine Kd.C_alloc ?_ _) | (with_reducible refine Kd.C_drewN ?_ _) | (with_reducible refine Kd.C_drew ?_))); (case side2 => exact HC0_5.out); (case side3 => repeat (first | exact (Kd.C_below HR1_5.out HB.out) | (with_reducible refine Kd.C_alloc ?_ _) | (with_reducible refine Kd.C_drewN ?_ _) | (with_reducible refine Kd.C_drew ?_))); (case side4 => exact HC1_5.out); rintro e w' ⟨rfl, ⟨nd, rfl⟩⟩; refine ⟨_, rfl, ?_⟩))
      go_ret
      exact ⟨by first | rfl | (simp [errW_none, errW_some] <;> rfl) | (simp [*, errW_none, errW_some] <;> rfl), by repeat (first | (with_reducible first | exact HB.out | apply below_alloc | apply pw_below_drewN | apply below_drew1 | refine below_set ?_ GE196.out | refine below_set ?_ GE197.out) | exact HB.out)⟩
    ·rw [if_neg c7] at H
     have c7b0 : (a0_2 == a1_2) = false := beq_eq_false_iff_ne.mpr c7
     have c7b1 : (a0_2 != a1_2) = true := bne_iff_ne.mpr c7
     obtain rfl := Option.some.inj H
     go_enter Try.func26, Try.ntmps26
     go_wp2_with (first | ((with_reducible refine gate_dst (N := 2) rfl ?_); refine box_event ?hg (N := 2) ?hd (cs := #[.int .u64 a0_0, .int .u64 a0_1, .int .u64 a0_2, .int .u64 a0_3, .int .u64 a0_4, .slice A0_5 l0_5.length c0_5, .bool a0_6]) (t := 25) ?hr ?_; (case hd => rfl); (case hg => rfl); (case hr => first | (go_simp; done) | (go_simp; rfl)); intro gb196 hg w25 hbox hb; have n0_ := Aside0.mk (below_step (belN HB) hb); have n1_ := Aside0.mk (hbox); have n2_ := Aside0.mk ((by rw [hg]; exact (below_size (belN HB)) : w.heap.size ≤ gb196)); have n3_ := Aside0.mk ((by rw [hg]; exact (below_size (belN HB)) : w.heap.size ≤ gb196)); clear HB; have HB := n0_; have BK196 := n1_; have GW196 := n2_; have GE196 := n3_; clear n0_ n1_ n2_ n3_; clear hb hbox hg) | ((with_reducible refine gate_dst (N := 3) rfl ?_); refine box_event ?hg (N := 3) ?hd (cs := #[.int .u64 a1_0, .int .u64 a1_1, .int .u64 a1_2, .int .u64 a1_3, .int .u64 a1_4, .slice A1_5 l1_5.length c1_5, .bool a1_6]) (t := 25) ?hr ?_; (case hd => rfl); (case hg => rfl); (case hr => first | (go_simp; done) | (go_simp; rfl)); intro gb197 hg w26 hbox hb; have n0_ := Aside0.mk (blk_below (g := gb196) (blkN BK196) hb); have n1_ := Aside0.mk (below_step (belN HB) hb); have n2_ := Aside0.mk (hbox); have n3_ := Aside0.mk ((by rw [hg]; exact (below_size (belN HB)) : w.heap.size ≤ gb197)); have n4_ := Aside0.mk ((by rw [hg]; exact (below_size (belN HB)) : w.heap.size ≤ gb197)); have n5_ := Aside0.mk ((by rw [hg]; exact Nat.ne_of_lt (blk_lt (g := gb196) (blkN BK196)) : gb196 ≠ gb197)); have n6_ := Aside0.mk ((by rw [hg]; exact Nat.ne_of_gt (blk_lt (g := gb196) (blkN BK196)) : gb197 ≠ gb196)); clear BK196; clear HB; have BK196 := n0_; have HB := n1_; have BK197 := n2_; have GW197 := n3_; have GE197 := n4_; have NB196_197 := n5_; have NB197_196 := n6_; clear n0_ n1_ n2_ n3_ n4_ n5_ n6_; clear hb hbox hg; have hnb27 := NB196_197.out; have hnc27 := NB197_196.out; obtain ⟨hcz28_0, hcz28_1, hcz28_2, hcz28_3, hcz28_4, hcz28_5, hcz28_6, hfz28_0, hfz28_1, hfz28_2, hfz28_3, hfz28_4, hfz28_5, hfz28_6⟩ := cz7_ (w := w26) BK196.out; obtain ⟨hcz29_0, hcz29_1, hcz29_2, hcz29_3, hcz29_4, hcz29_5, hcz29_6, hfz29_0, hfz29_1, hfz29_2, hfz29_3, hfz29_4, hfz29_5, hfz29_6⟩ := cz7_ (w := w26) BK197.out) | ((with_reducible refine gate_callee (f := 93) rfl ?_); refine goesL_ (some 9) rfl rfl Try.func93 (by kernel_rfl) rfl #[.slice A0_5 l0_5.length c0_5, .slice A1_5 l1_5.length c1_5] rfl (by (try simp only [List.map_toArray, List.map_cons, List.map_nil]); first | done | rfl | (simp only [List.length_drop, List.length_take]; rfl)) ?_; (with_reducible refine (slices_Equal_Hold.calls k _ _ l0_5 _ _ l1_5 true _ ?side1 ?side2 ?side3 ?side4 A3.out).mono ?_); (case side1 => repeat (first | exact (Kd.C_below HR0_5.out HB.out) | (with_reducible refine Kd.C_alloc ?_ _) | (with_reducible refine Kd.C_drewN ?_ _) | (with_reducible refine Kd.C_drew ?_))); (case side2 => exact HC0_5.out); (case side3 => repeat (first | exact (Kd.C_below HR1_5.out HB.out) | (with_reducible refine Kd.C_alloc ?_ _) | (with_reducible refine Kd.C_drewN ?_ _) | (with_reducible refine Kd.C_drew ?_))); (case side4 => exact HC1_5.out); rintro e w' ⟨rfl, ⟨nd, rfl⟩⟩; refine ⟨_, rfl, ?_⟩))
     go_ret
     exact ⟨by first | rfl | (simp [errW_none, errW_some] <;> rfl) | (simp [*, errW_none, errW_some] <;> rfl), by repeat (first | (with_reducible first | exact HB.out | apply below_alloc | apply pw_below_drewN | apply below_drew1 | refine below_set ?_ GE196.out | refine below_set ?_ GE197.out) | exact HB.out)⟩
   ·rw [if_neg c6] at H
    have c6b0 : (a0_1 == a1_1) = false := beq_eq_false_iff_ne.mpr c6
    have c6b1 : (a0_1 != a1_1) = true := bne_iff_ne.mpr c6
    obtain rfl := Option.some.inj H
    go_enter Try.func26, Try.ntmps26
    go_wp2_with (first | ((with_reducible refine gate_dst (N := 2) rfl ?_); refine box_event ?hg (N := 2) ?hd (cs := #[.int .u64 a0_0, .int .u64 a0_1, .int .u64 a0_2, .int .u64 a0_3, .int .u64 a0_4, .slice A0_5 l0_5.length c0_5, .bool a0_6]) (t := 25) ?hr ?_; (case hd => rfl); (case hg => rfl); (case hr => first | (go_simp; done) | (go_simp; rfl)); intro gb196 hg w30 hbox hb; have n0_ := Aside0.mk (below_step (belN HB) hb); have n1_ := Aside0.mk (hbox); have n2_ := Aside0.mk ((by rw [hg]; exact (below_size (belN HB)) : w.heap.size ≤ gb196)); have n3_ := Aside0.mk ((by rw [hg]; exact (below_size (belN HB)) : w.heap.size ≤ gb196)); clear HB; have HB := n0_; have BK196 := n1_; have GW196 := n2_; have GE196 := n3_; clear n0_ n1_ n2_ n3_; clear hb hbox hg) | ((with_reducible refine gate_dst (N := 3) rfl ?_); refine box_event ?hg (N := 3) ?hd (cs := #[.int .u64 a1_0, .int .u64 a1_1, .int .u64 a1_2, .int .u64 a1_3, .int .u64 a1_4, .slice A1_5 l1_5.length c1_5, .bool a1_6]) (t := 25) ?hr ?_; (case hd => rfl); (case hg => rfl); (case hr => first | (go_simp; done) | (go_simp; rfl)); intro gb197 hg w31 hbox hb; have n0_ := Aside0.mk (blk_below (g := gb196) (blkN BK196) hb); have n1_ := Aside0.mk (below_step (belN HB) hb); have n2_ := Aside0.mk (hbox); have n3_ := Aside0.mk ((by rw [hg]; exact (below_size (belN HB)) : w.heap.size ≤ gb197)); have n4_ := Aside0.mk ((by rw [hg]; exact (below_size (belN HB)) : w.heap.size ≤ gb197)); have n5_ := Aside0.mk ((by rw [hg]; exact Nat.ne_of_lt (blk_lt (g := gb196) (blkN BK196)) : gb196 ≠ gb197)); have n6_ := Aside0.mk ((by rw [hg]; exact Nat.ne_of_gt (blk_lt (g := gb196) (blkN BK196)) : gb197 ≠ gb196)); clear BK196; clear HB; have BK196 := n0_; have HB := n1_; have BK197 := n2_; have GW197 := n3_; have GE197 := n4_; have NB196_197 := n5_; have NB197_196 := n6_; clear n0_ n1_ n2_ n3_ n4_ n5_ n6_; clear hb hbox hg; have hnb32 := NB196_197.out; have hnc32 := NB197_196.out; obtain ⟨hcz33_0, hcz33_1, hcz33_2, hcz33_3, hcz33_4, hcz33_5, hcz33_6, hfz33_0, hfz33_1, hfz33_2, hfz33_3, hfz33_4, hfz33_5, hfz33_6⟩ := cz7_ (w := w31) BK196.out; obtain ⟨hcz34_0, hcz34_1, hcz34_2, hcz34_3, hcz34_4, hcz34_5, hcz34_6, hfz34_0, hfz34_1, hfz34_2, hfz34_3, hfz34_4, hfz34_5, hfz34_6⟩ := cz7_ (w := w31) BK197.out) | ((with_reducible refine gate_callee (f := 93) rfl ?_); refine goesL_ (some 9) rfl rfl Try.func93 (by kernel_rfl) rfl #[.slice A0_5 l0_5.length c0_5, .slice A1_5 l1_5.length c1_5] rfl (by (try simp only [List.map_toArray, List.map_cons, List.map_nil]); first | done | rfl | (simp only [List.length_drop, List.length_take]; rfl)) ?_; (with_reducible refine (slices_Equal_Hold.calls k _ _ l0_5 _ _ l1_5 true _ ?side1 ?side2 ?side3 ?side4 A3.out).mono ?_); (case side1 => repeat (first | exact (Kd.C_below HR0_5.out HB.out) | (with_reducible refine Kd.C_alloc ?_ _) | (with_reducible refine Kd.C_drewN ?_ _) | (with_reducible refine Kd.C_drew ?_))); (case side2 => exact HC0_5.out); (case side3 => repeat (first | exact (Kd.C_below HR1_5.out HB.out) | (with_reducible refine Kd.C_alloc ?_ _) | (with_reducible refine Kd.C_drewN ?_ _) | (with_reducible refine Kd.C_drew ?_))); (case side4 => exact HC1_5.out); rintro e w' ⟨rfl, ⟨nd, rfl⟩⟩; refine ⟨_, rfl, ?_⟩))
    go_ret
    exact ⟨by first | rfl | (simp [errW_none, errW_some] <;> rfl) | (simp [*, errW_none, errW_some] <;> rfl), by repeat (first | (with_reducible first | exact HB.out | apply below_alloc | apply pw_below_drewN | apply below_drew1 | refine below_set ?_ GE196.out | refine below_set ?_ GE197.out) | exact HB.out)⟩
  ·rw [if_neg c5] at H
   have c5b0 : (a0_0 == a1_0) = false := beq_eq_false_iff_ne.mpr c5
   have c5b1 : (a0_0 != a1_0) = true := bne_iff_ne.mpr c5
   obtain rfl := Option.some.inj H
   go_enter Try.func26, Try.ntmps26
   go_wp2_with (first | ((with_reducible refine gate_dst (N := 2) rfl ?_); refine box_event ?hg (N := 2) ?hd (cs := #[.int .u64 a0_0, .int .u64 a0_1, .int .u64 a0_2, .int .u64 a0_3, .int .u64 a0_4, .slice A0_5 l0_5.length c0_5, .bool a0_6]) (t := 25) ?hr ?_; (case hd => rfl); (case hg => rfl); (case hr => first | (go_simp; done) | (go_simp; rfl)); intro gb196 hg w35 hbox hb; have n0_ := Aside0.mk (below_step (belN HB) hb); have n1_ := Aside0.mk (hbox); have n2_ := Aside0.mk ((by rw [hg]; exact (below_size (belN HB)) : w.heap.size ≤ gb196)); have n3_ := Aside0.mk ((by rw [hg]; exact (below_size (belN HB)) : w.heap.size ≤ gb196)); clear HB; have HB := n0_; have BK196 := n1_; have GW196 := n2_; have GE196 := n3_; clear n0_ n1_ n2_ n3_; clear hb hbox hg) | ((with_reducible refine gate_dst (N := 3) rfl ?_); refine box_event ?hg (N := 3) ?hd (cs := #[.int .u64 a1_0, .int .u64 a1_1, .int .u64 a1_2, .int .u64 a1_3, .int .u64 a1_4, .slice A1_5 l1_5.length c1_5, .bool a1_6]) (t := 25) ?hr ?_; (case hd => rfl); (case hg => rfl); (case hr => first | (go_simp; done) | (go_simp; rfl)); intro gb197 hg w36 hbox hb; have n0_ := Aside0.mk (blk_below (g := gb196) (blkN BK196) hb); have n1_ := Aside0.mk (below_step (belN HB) hb); have n2_ := Aside0.mk (hbox); have n3_ := Aside0.mk ((by rw [hg]; exact (below_size (belN HB)) : w.heap.size ≤ gb197)); have n4_ := Aside0.mk ((by rw [hg]; exact (below_size (belN HB)) : w.heap.size ≤ gb197)); have n5_ := Aside0.mk ((by rw [hg]; exact Nat.ne_of_lt (blk_lt (g := gb196) (blkN BK196)) : gb196 ≠ gb197)); have n6_ := Aside0.mk ((by rw [hg]; exact Nat.ne_of_gt (blk_lt (g := gb196) (blkN BK196)) : gb197 ≠ gb196)); clear BK196; clear HB; have BK196 := n0_; have HB := n1_; have BK197 := n2_; have GW197 := n3_; have GE197 := n4_; have NB196_197 := n5_; have NB197_196 := n6_; clear n0_ n1_ n2_ n3_ n4_ n5_ n6_; clear hb hbox hg; have hnb37 := NB196_197.out; have hnc37 := NB197_196.out; obtain ⟨hcz38_0, hcz38_1, hcz38_2, hcz38_3, hcz38_4, hcz38_5, hcz38_6, hfz38_0, hfz38_1, hfz38_2, hfz38_3, hfz38_4, hfz38_5, hfz38_6⟩ := cz7_ (w := w36) BK196.out; obtain ⟨hcz39_0, hcz39_1, hcz39_2, hcz39_3, hcz39_4, hcz39_5, hcz39_6, hfz39_0, hfz39_1, hfz39_2, hfz39_3, hfz39_4, hfz39_5, hfz39_6⟩ := cz7_ (w := w36) BK197.out) | ((with_reducible refine gate_callee (f := 93) rfl ?_); refine goesL_ (some 9) rfl rfl Try.func93 (by kernel_rfl) rfl #[.slice A0_5 l0_5.length c0_5, .slice A1_5 l1_5.length c1_5] rfl (by (try simp only [List.map_toArray, List.map_cons, List.map_nil]); first | done | rfl | (simp only [List.length_drop, List.length_take]; rfl)) ?_; (with_reducible refine (slices_Equal_Hold.calls k _ _ l0_5 _ _ l1_5 true _ ?side1 ?side2 ?side3 ?side4 A3.out).mono ?_); (case side1 => repeat (first | exact (Kd.C_below HR0_5.out HB.out) | (with_reducible refine Kd.C_alloc ?_ _) | (with_reducible refine Kd.C_drewN ?_ _) | (with_reducible refine Kd.C_drew ?_))); (case side2 => exact HC0_5.out); (case side3 => repeat (first | exact (Kd.C_below HR1_5.out HB.out) | (with_reducible refine Kd.C_alloc ?_ _) | (with_reducible refine Kd.C_drewN ?_ _) | (with_reducible refine Kd.C_drew ?_))); (case side4 => exact HC1_5.out); rintro e w' ⟨rfl, ⟨nd, rfl⟩⟩; refine ⟨_, rfl, ?_⟩))
   go_ret
   exact ⟨by first | rfl | (simp [errW_none, errW_some] <;> rfl) | (simp [*, errW_none, errW_some] <;> rfl), by repeat (first | (with_reducible first | exact HB.out | apply below_alloc | apply pw_below_drewN | apply below_drew1 | refine below_set ?_ GE196.out | refine below_set ?_ GE197.out) | exact HB.out)⟩
 ·replace c4 := Bool.eq_false_iff.mpr c4
  subst c4
  have H1 : (some false) = some r := by rw [if_neg (show ¬ (false = true) by decide)] at H; exact H
  clear H
  have H := H1
  clear H1
  obtain rfl := Option.some.inj H
  go_enter Try.func26, Try.ntmps26
  go_wp2_with (first | ((with_reducible refine gate_dst (N := 2) rfl ?_); refine box_event ?hg (N := 2) ?hd (cs := #[.int .u64 a0_0, .int .u64 a0_1, .int .u64 a0_2, .int .u64 a0_3, .int .u64 a0_4, .slice A0_5 l0_5.length c0_5, .bool a0_6]) (t := 25) ?hr ?_; (case hd => rfl); (case hg => rfl); (case hr => first | (go_simp; done) | (go_simp; rfl)); intro gb196 hg w40 hbox hb; have n0_ := Aside0.mk (below_step (belN HB) hb); have n1_ := Aside0.mk (hbox); have n2_ := Aside0.mk ((by rw [hg]; exact (below_size (belN HB)) : w.heap.size ≤ gb196)); have n3_ := Aside0.mk ((by rw [hg]; exact (below_size (belN HB)) : w.heap.size ≤ gb196)); clear HB; have HB := n0_; have BK196 := n1_; have GW196 := n2_; have GE196 := n3_; clear n0_ n1_ n2_ n3_; clear hb hbox hg) | ((with_reducible refine gate_dst (N := 3) rfl ?_); refine box_event ?hg (N := 3) ?hd (cs := #[.int .u64 a1_0, .int .u64 a1_1, .int .u64 a1_2, .int .u64 a1_3, .int .u64 a1_4, .slice A1_5 l1_5.length c1_5, .bool a1_6]) (t := 25) ?hr ?_; (case hd => rfl); (case hg => rfl); (case hr => first | (go_simp; done) | (go_simp; rfl)); intro gb197 hg w41 hbox hb; have n0_ := Aside0.mk (blk_below (g := gb196) (blkN BK196) hb); have n1_ := Aside0.mk (below_step (belN HB) hb); have n2_ := Aside0.mk (hbox); have n3_ := Aside0.mk ((by rw [hg]; exact (below_size (belN HB)) : w.heap.size ≤ gb197)); have n4_ := Aside0.mk ((by rw [hg]; exact (below_size (belN HB)) : w.heap.size ≤ gb197)); have n5_ := Aside0.mk ((by rw [hg]; exact Nat.ne_of_lt (blk_lt (g := gb196) (blkN BK196)) : gb196 ≠ gb197)); have n6_ := Aside0.mk ((by rw [hg]; exact Nat.ne_of_gt (blk_lt (g := gb196) (blkN BK196)) : gb197 ≠ gb196)); clear BK196; clear HB; have BK196 := n0_; have HB := n1_; have BK197 := n2_; have GW197 := n3_; have GE197 := n4_; have NB196_197 := n5_; have NB197_196 := n6_; clear n0_ n1_ n2_ n3_ n4_ n5_ n6_; clear hb hbox hg; have hnb42 := NB196_197.out; have hnc42 := NB197_196.out; obtain ⟨hcz43_0, hcz43_1, hcz43_2, hcz43_3, hcz43_4, hcz43_5, hcz43_6, hfz43_0, hfz43_1, hfz43_2, hfz43_3, hfz43_4, hfz43_5, hfz43_6⟩ := cz7_ (w := w41) BK196.out; obtain ⟨hcz44_0, hcz44_1, hcz44_2, hcz44_3, hcz44_4, hcz44_5, hcz44_6, hfz44_0, hfz44_1, hfz44_2, hfz44_3, hfz44_4, hfz44_5, hfz44_6⟩ := cz7_ (w := w41) BK197.out) | ((with_reducible refine gate_callee (f := 93) rfl ?_); refine goesL_ (some 9) rfl rfl Try.func93 (by kernel_rfl) rfl #[.slice A0_5 l0_5.length c0_5, .slice A1_5 l1_5.length c1_5] rfl (by (try simp only [List.map_toArray, List.map_cons, List.map_nil]); first | done | rfl | (simp only [List.length_drop, List.length_take]; rfl)) ?_; (with_reducible refine (slices_Equal_Hold.calls k _ _ l0_5 _ _ l1_5 false _ ?side1 ?side2 ?side3 ?side4 A3.out).mono ?_); (case side1 => repeat (first | exact (Kd.C_below HR0_5.out HB.out) | (with_reducible refine Kd.C_alloc ?_ _) | (with_reducible refine Kd.C_drewN ?_ _) | (with_reducible refine Kd.C_drew ?_))); (case side2 => exact HC0_5.out); (case side3 => repeat (first | exact (Kd.C_below HR1_5.out HB.out) | (with_reducible refine Kd.C_alloc ?_ _) | (with_reducible refine Kd.C_drewN ?_ _) | (with_reducible refine Kd.C_drew ?_))); (case side4 => exact HC1_5.out); rintro e w' ⟨rfl, ⟨nd, rfl⟩⟩; refine ⟨_, rfl, ?_⟩))
  go_ret
  exact ⟨by first | rfl | (simp [errW_none, errW_some] <;> rfl) | (simp [*, errW_none, errW_some] <;> rfl), by repeat (first | (with_reducible first | exact HB.out | apply below_alloc | apply pw_below_drewN | apply below_drew1 | refine below_set ?_ GE196.out | refine below_set ?_ GE197.out) | exact HB.out)⟩

-- NOT PRINTED: function 105 (slices_EqualFunc_Channel)

/-! ### slices_EqualFunc_Channel_at_channel_Same: function 165 -/
def slices_EqualFunc_Channel_at_channel_Same.l0 : Nat → List (S25) → List (S25) → Int → Int → Option (Bool)
 | 0, _, _, _, _ => none
 | k + 1, x1, x15, x16, x17 => if x17 < x16 then (if 0 ≤ x17 then (if x17 < (x15.length : Int) then (if x17 < (x1.length : Int) then ((channel_Same.f k ((rd_T25 x15 x17).f0) ((rd_T25 x15 x17).f1) ((rd_T25 x15 x17).f2) ((rd_T25 x15 x17).f3) ((rd_T25 x15 x17).f4) ((rd_T25 x15 x17).f5) ((rd_T25 x15 x17).f6) ((rd_T25 x1 x17).f0) ((rd_T25 x1 x17).f1) ((rd_T25 x1 x17).f2) ((rd_T25 x1 x17).f3) ((rd_T25 x1 x17).f4) ((rd_T25 x1 x17).f5) ((rd_T25 x1 x17).f6)).bind fun t203 => (if t203 = true then (slices_EqualFunc_Channel_at_channel_Same.l0 k x1 x15 x16 (wrap64 (x17 + 1))) else (some false))) else (none)) else (none)) else (none)) else (some true)
def slices_EqualFunc_Channel_at_channel_Same.f (k : Nat) (l0 : List (S25)) (l1 : List (S25))  : Option (Bool) := if (l0.length : Int) = (l1.length : Int) then (slices_EqualFunc_Channel_at_channel_Same.l0 k l1 l0 (l0.length : Int) 0) else (some false)
theorem slices_EqualFunc_Channel_at_channel_Same.mono_l : ∀ k, (∀ y0 y1 y2 y3, LeO (slices_EqualFunc_Channel_at_channel_Same.l0 k y0 y1 y2 y3) (slices_EqualFunc_Channel_at_channel_Same.l0 (k + 1) y0 y1 y2 y3))
 | 0 => fun _ _ _ _ r h => by simp [slices_EqualFunc_Channel_at_channel_Same.l0] at h
 | k + 1 => by
  have ih0 := slices_EqualFunc_Channel_at_channel_Same.mono_l k
  ·intro y0 y1 y2 y3
   unfold slices_EqualFunc_Channel_at_channel_Same.l0
   repeat' first
   | (with_reducible exact ih0 _ _ _ _)
   | (with_reducible exact channel_Same.mono _ _ _ _ _ _ _ _ _ _ _ _ _ _ _)
   | (with_reducible exact LeO.refl _)
   | (with_reducible exact LeO.none _)
   | (with_reducible refine LeO.ite ?_ ?_)
   | (with_reducible refine LeO.bind ?_ (fun _ => ?_))
   | exact ih0 _ _ _ _
   | exact channel_Same.mono _ _ _ _ _ _ _ _ _ _ _ _ _ _ _
   | exact LeO.none _
   | refine LeO.ite ?_ ?_
   | refine LeO.bind ?_ (fun _ => ?_)
theorem slices_EqualFunc_Channel_at_channel_Same.mono : ∀ a0 a1 k, LeO (slices_EqualFunc_Channel_at_channel_Same.f k a0 a1) (slices_EqualFunc_Channel_at_channel_Same.f (k + 1) a0 a1) := by
 intro a0 a1 k
 have ih0 := slices_EqualFunc_Channel_at_channel_Same.mono_l k
 unfold slices_EqualFunc_Channel_at_channel_Same.f
 repeat' first
   | (with_reducible exact ih0 _ _ _ _)
   | (with_reducible exact channel_Same.mono _ _ _ _ _ _ _ _ _ _ _ _ _ _ _)
   | (with_reducible exact LeO.refl _)
   | (with_reducible exact LeO.none _)
   | (with_reducible refine LeO.ite ?_ ?_)
   | (with_reducible refine LeO.bind ?_ (fun _ => ?_))
   | exact ih0 _ _ _ _
   | exact channel_Same.mono _ _ _ _ _ _ _ _ _ _ _ _ _ _ _
   | exact LeO.none _
   | refine LeO.ite ?_ ?_
   | refine LeO.bind ?_ (fun _ => ?_)
set_option maxHeartbeats 8000000 in
set_option maxRecDepth 100000 in
theorem slices_EqualFunc_Channel_at_channel_Same.calls (k : Nat) (A0 : Option Addr) (c0 : Nat) (l0 : List (S25)) (A1 : Option Addr) (c1 : Nat) (l1 : List (S25))  (r : Bool) (w : World) (hr0 : Kd.C k25 w A0 l0.length l0) (hc0 : l0.length ≤ c0) (hr1 : Kd.C k25 w A1 l1.length l1) (hc1 : l1.length ≤ c1) (h : slices_EqualFunc_Channel_at_channel_Same.f k l0 l1 = some r) :
  Calls Try.prog 105 #[.slice A0 l0.length c0, .slice A1 l1.length c1, .func (.func 26) #[] #[]] w fun e w' => e = .returned (.bool r) ∧ Below w.heap.size w w' := by
 have hu25 := Try.underlying25
 have HR0 := Aside0.mk hr0
 have HC0 := Aside0.mk hc0
 clear hr0 hc0
 have HR1 := Aside0.mk hr1
 have HC1 := Aside0.mk hc1
 clear hr1 hc1
 have HB := Aside0.mk (Below.refl w.heap.size w)
 have H : (if (l0.length : Int) = (l1.length : Int) then (slices_EqualFunc_Channel_at_channel_Same.l0 k l1 l0 (l0.length : Int) 0) else (some false)) = some r := h
 clear h
 by_cases c4 : (l0.length : Int) = (l1.length : Int)
 ·rw [if_pos c4] at H
  have c4b0 : ((l0.length : Int) == (l1.length : Int)) = true := beq_iff_eq.mpr c4
  have c4b1 : ((l0.length : Int) != (l1.length : Int)) = false := bne_eq_false_iff_eq.mpr c4
  have c4b2 : (l0.length == l1.length) = true := by first | simpa using c4 | (simp at c4 ⊢; omega)
  clear c4
  have H' := Aside0.mk H
  clear H
  go_enter Try.func105, Try.ntmps105
  go_wp2
  go_loopg [17] k (fun kq v17 w' => ∃ (x17_1 : Int), v17 = .int .i64 x17_1 ∧ Aside0 (slices_EqualFunc_Channel_at_channel_Same.l0 kq l1 l0 (l0.length : Int) x17_1 = some r) ∧ Aside0 (kq ≤ k) ∧ Aside0 (Below w.heap.size w w'))
  case atStart => exact ⟨(0), (by first | rfl | (simp; done) | (simp [*]; done)), H', ⟨Nat.le_refl _⟩, ⟨by repeat (first | (with_reducible first | exact HB.out | apply below_alloc | apply pw_below_drewN | apply below_drew1) | exact HB.out)⟩⟩
  case round =>
   clear H'
   try clear c1
   try clear p2
   try clear c4
   try clear c4b0
   try clear c4b1
   try clear c4b2
   obtain ⟨x17_1, rfl, HA, HK1, HB⟩ := hrel
   cases gk with
   | zero => exact absurd HA.out (by simp [slices_EqualFunc_Channel_at_channel_Same.l0])
   | succ k1 =>
    have H := HA.out
    clear HA
    simp only [slices_EqualFunc_Channel_at_channel_Same.l0] at H
    by_cases c5 : x17_1 < (l0.length : Int)
    ·rw [if_pos c5] at H
     have c5b0 : decide (x17_1 < (l0.length : Int)) = true := decide_eq_true c5
     clear c5
     by_cases c6 : 0 ≤ x17_1
     ·rw [if_pos c6] at H
      have c6b0 : decide (0 ≤ x17_1) = true := decide_eq_true c6
      clear c6
      by_cases c7 : x17_1 < (l0.length : Int)
      ·rw [if_pos c7] at H
       have c7b0 : decide (x17_1 < (l0.length : Int)) = true := decide_eq_true c7
       clear c7
       by_cases c8 : x17_1 < (l1.length : Int)
       ·rw [if_pos c8] at H
        have c8b0 : decide (x17_1 < (l1.length : Int)) = true := decide_eq_true c8
        clear c8
        replace H := Option.bind_eq_some_iff.mp H
        obtain ⟨t203, A90, H⟩ := H
        replace H : (if t203 = true then (slices_EqualFunc_Channel_at_channel_Same.l0 k1 l1 l0 (l0.length : Int) (wrap64 (x17_1 + 1))) else (some false)) = some r := H
        have A9 := Aside0.mk A90
        clear A90
        by_cases c10 : t203 = true
        ·subst c10
         have H1 : (slices_EqualFunc_Channel_at_channel_Same.l0 k1 l1 l0 (l0.length : Int) (wrap64 (x17_1 + 1))) = some r := by rw [if_pos rfl] at H; exact H
         clear H
         have H := H1
         clear H1
         have H' := Aside0.mk H
         clear H
         have p199 : 0 ≤ (x17_1 : Int) := of_decide_eq_true (by first | (with_reducible assumption) | assumption)
         have q199 : x17_1 < (l0.length : Int) := of_decide_eq_true (by first | (with_reducible assumption) | assumption)
         obtain ⟨ad199, A199_5, c199_5, e199, hx199_0, hx199_1, hx199_2, hx199_3, hx199_4, hx199_5, hx199_6, hl199_5, hi199_5⟩ := at_T25 HR0.out x17_1 p199 q199
         cases e199
         replace hx199_0 := (HB.out.cell (World.block_lt_of_cell? w _ hx199_0)).trans hx199_0
         replace hx199_1 := (HB.out.cell (World.block_lt_of_cell? w _ hx199_1)).trans hx199_1
         replace hx199_2 := (HB.out.cell (World.block_lt_of_cell? w _ hx199_2)).trans hx199_2
         replace hx199_3 := (HB.out.cell (World.block_lt_of_cell? w _ hx199_3)).trans hx199_3
         replace hx199_4 := (HB.out.cell (World.block_lt_of_cell? w _ hx199_4)).trans hx199_4
         replace hx199_5 := (HB.out.cell (World.block_lt_of_cell? w _ hx199_5)).trans hx199_5
         replace hx199_6 := (HB.out.cell (World.block_lt_of_cell? w _ hx199_6)).trans hx199_6
         have HR199_5 := Aside0.mk hi199_5
         have HC199_5 := Aside0.mk hl199_5
         clear hi199_5 hl199_5
         replace p199 := eq_true p199
         replace q199 := eq_true q199
         go_wp2_with (first | ((with_reducible refine gate_dst (N := 8) rfl ?_); refine box_event ?hg (N := 8) ?hd (cs := #[.int .u64 0, .int .u64 0, .int .u64 0, .int .u64 0, .int .u64 0, .slice none 0 0, .bool false]) (t := 25) ?hr ?_; (case hd => rfl); (case hg => rfl); (case hr => first | (go_simp; done) | (go_simp; rfl)); intro gb200 hg w11 hbox hb; have n0_ := Aside0.mk (below_step (belN HB) hb); have n1_ := Aside0.mk (hbox); have n2_ := Aside0.mk ((by rw [hg]; exact (below_size (belN HB)) : w.heap.size ≤ gb200)); have n3_ := Aside0.mk ((by rw [hg]; exact (below_size (belN HB)) : w.heap.size ≤ gb200)); clear HB; have HB := n0_; have BK200 := n1_; have GW200 := n2_; have GE200 := n3_; clear n0_ n1_ n2_ n3_; clear hb hbox hg; obtain ⟨hcz12_0, hcz12_1, hcz12_2, hcz12_3, hcz12_4, hcz12_5, hcz12_6, hfz12_0, hfz12_1, hfz12_2, hfz12_3, hfz12_4, hfz12_5, hfz12_6⟩ := cz7_ (w := w11) BK200.out; have p201 : 0 ≤ (x17_1 : Int) := of_decide_eq_true (by first | (with_reducible assumption) | assumption); have q201 : x17_1 < (l1.length : Int) := of_decide_eq_true (by first | (with_reducible assumption) | assumption); obtain ⟨ad201, A201_5, c201_5, e201, hx201_0, hx201_1, hx201_2, hx201_3, hx201_4, hx201_5, hx201_6, hl201_5, hi201_5⟩ := at_T25 HR1.out x17_1 p201 q201; cases e201; have hn201_0 : ad201.block ≠ gb200 := Nat.ne_of_lt (Nat.lt_of_lt_of_le (by have := World.block_lt_of_cell? _ _ hx201_0; first | rwa [add_block] at this | exact this) GW200.out); have hn201_1 : ad201.block ≠ gb200 := Nat.ne_of_lt (Nat.lt_of_lt_of_le (by have := World.block_lt_of_cell? _ _ hx201_0; first | rwa [add_block] at this | exact this) GW200.out); have hn201_2 : ad201.block ≠ gb200 := Nat.ne_of_lt (Nat.lt_of_lt_of_le (by have := World.block_lt_of_cell? _ _ hx201_0; first | rwa [add_block] at this | exact this) GW200.out); have hn201_3 : ad201.block ≠ gb200 := Nat.ne_of_lt (Nat.lt_of_lt_of_le (by have := World.block_lt_of_cell? _ _ hx201_0; first | rwa [add_block] at this | exact this) GW200.out); have hn201_4 : ad201.block ≠ gb200 := Nat.ne_of_lt (Nat.lt_of_lt_of_le (by have := World.block_lt_of_cell? _ _ hx201_0; first | rwa [add_block] at this | exact this) GW200.out); have hn201_5 : ad201.block ≠ gb200 := Nat.ne_of_lt (Nat.lt_of_lt_of_le (by have := World.block_lt_of_cell? _ _ hx201_0; first | rwa [add_block] at this | exact this) GW200.out); have hn201_6 : ad201.block ≠ gb200 := Nat.ne_of_lt (Nat.lt_of_lt_of_le (by have := World.block_lt_of_cell? _ _ hx201_0; first | rwa [add_block] at this | exact this) GW200.out); replace hx201_0 := (HB.out.cell (World.block_lt_of_cell? w _ hx201_0)).trans hx201_0; replace hx201_1 := (HB.out.cell (World.block_lt_of_cell? w _ hx201_1)).trans hx201_1; replace hx201_2 := (HB.out.cell (World.block_lt_of_cell? w _ hx201_2)).trans hx201_2; replace hx201_3 := (HB.out.cell (World.block_lt_of_cell? w _ hx201_3)).trans hx201_3; replace hx201_4 := (HB.out.cell (World.block_lt_of_cell? w _ hx201_4)).trans hx201_4; replace hx201_5 := (HB.out.cell (World.block_lt_of_cell? w _ hx201_5)).trans hx201_5; replace hx201_6 := (HB.out.cell (World.block_lt_of_cell? w _ hx201_6)).trans hx201_6; have HR201_5 := Aside0.mk hi201_5; have HC201_5 := Aside0.mk hl201_5; clear hi201_5 hl201_5; replace hx201_0 := (cell_far (p := ⟨gb200, 0, none⟩) (by first | (rw [add_block]; exact hn201_0) | (show (Addr.add _ _).block ≠ _; rw [add_block]; exact hn201_0) | exact hn201_0) (.int .u64 ((rd_T25 l0 x17_1).f0))).trans hx201_0; replace hx201_1 := (cell_far (p := ⟨gb200, 0, none⟩) (by first | (rw [add_block]; exact hn201_0) | (show (Addr.add _ _).block ≠ _; rw [add_block]; exact hn201_0) | exact hn201_0) (.int .u64 ((rd_T25 l0 x17_1).f0))).trans hx201_1; replace hx201_2 := (cell_far (p := ⟨gb200, 0, none⟩) (by first | (rw [add_block]; exact hn201_0) | (show (Addr.add _ _).block ≠ _; rw [add_block]; exact hn201_0) | exact hn201_0) (.int .u64 ((rd_T25 l0 x17_1).f0))).trans hx201_2; replace hx201_3 := (cell_far (p := ⟨gb200, 0, none⟩) (by first | (rw [add_block]; exact hn201_0) | (show (Addr.add _ _).block ≠ _; rw [add_block]; exact hn201_0) | exact hn201_0) (.int .u64 ((rd_T25 l0 x17_1).f0))).trans hx201_3; replace hx201_4 := (cell_far (p := ⟨gb200, 0, none⟩) (by first | (rw [add_block]; exact hn201_0) | (show (Addr.add _ _).block ≠ _; rw [add_block]; exact hn201_0) | exact hn201_0) (.int .u64 ((rd_T25 l0 x17_1).f0))).trans hx201_4; replace hx201_5 := (cell_far (p := ⟨gb200, 0, none⟩) (by first | (rw [add_block]; exact hn201_0) | (show (Addr.add _ _).block ≠ _; rw [add_block]; exact hn201_0) | exact hn201_0) (.int .u64 ((rd_T25 l0 x17_1).f0))).trans hx201_5; replace hx201_6 := (cell_far (p := ⟨gb200, 0, none⟩) (by first | (rw [add_block]; exact hn201_0) | (show (Addr.add _ _).block ≠ _; rw [add_block]; exact hn201_0) | exact hn201_0) (.int .u64 ((rd_T25 l0 x17_1).f0))).trans hx201_6; replace hx201_0 := (cell_far (p := ⟨gb200, 1, none⟩) (by first | (rw [add_block]; exact hn201_1) | (show (Addr.add _ _).block ≠ _; rw [add_block]; exact hn201_1) | exact hn201_1) (.int .u64 ((rd_T25 l0 x17_1).f1))).trans hx201_0; replace hx201_1 := (cell_far (p := ⟨gb200, 1, none⟩) (by first | (rw [add_block]; exact hn201_1) | (show (Addr.add _ _).block ≠ _; rw [add_block]; exact hn201_1) | exact hn201_1) (.int .u64 ((rd_T25 l0 x17_1).f1))).trans hx201_1; replace hx201_2 := (cell_far (p := ⟨gb200, 1, none⟩) (by first | (rw [add_block]; exact hn201_1) | (show (Addr.add _ _).block ≠ _; rw [add_block]; exact hn201_1) | exact hn201_1) (.int .u64 ((rd_T25 l0 x17_1).f1))).trans hx201_2; replace hx201_3 := (cell_far (p := ⟨gb200, 1, none⟩) (by first | (rw [add_block]; exact hn201_1) | (show (Addr.add _ _).block ≠ _; rw [add_block]; exact hn201_1) | exact hn201_1) (.int .u64 ((rd_T25 l0 x17_1).f1))).trans hx201_3; replace hx201_4 := (cell_far (p := ⟨gb200, 1, none⟩) (by first | (rw [add_block]; exact hn201_1) | (show (Addr.add _ _).block ≠ _; rw [add_block]; exact hn201_1) | exact hn201_1) (.int .u64 ((rd_T25 l0 x17_1).f1))).trans hx201_4; replace hx201_5 := (cell_far (p := ⟨gb200, 1, none⟩) (by first | (rw [add_block]; exact hn201_1) | (show (Addr.add _ _).block ≠ _; rw [add_block]; exact hn201_1) | exact hn201_1) (.int .u64 ((rd_T25 l0 x17_1).f1))).trans hx201_5; replace hx201_6 := (cell_far (p := ⟨gb200, 1, none⟩) (by first | (rw [add_block]; exact hn201_1) | (show (Addr.add _ _).block ≠ _; rw [add_block]; exact hn201_1) | exact hn201_1) (.int .u64 ((rd_T25 l0 x17_1).f1))).trans hx201_6; replace hx201_0 := (cell_far (p := ⟨gb200, 2, none⟩) (by first | (rw [add_block]; exact hn201_2) | (show (Addr.add _ _).block ≠ _; rw [add_block]; exact hn201_2) | exact hn201_2) (.int .u64 ((rd_T25 l0 x17_1).f2))).trans hx201_0; replace hx201_1 := (cell_far (p := ⟨gb200, 2, none⟩) (by first | (rw [add_block]; exact hn201_2) | (show (Addr.add _ _).block ≠ _; rw [add_block]; exact hn201_2) | exact hn201_2) (.int .u64 ((rd_T25 l0 x17_1).f2))).trans hx201_1; replace hx201_2 := (cell_far (p := ⟨gb200, 2, none⟩) (by first | (rw [add_block]; exact hn201_2) | (show (Addr.add _ _).block ≠ _; rw [add_block]; exact hn201_2) | exact hn201_2) (.int .u64 ((rd_T25 l0 x17_1).f2))).trans hx201_2; replace hx201_3 := (cell_far (p := ⟨gb200, 2, none⟩) (by first | (rw [add_block]; exact hn201_2) | (show (Addr.add _ _).block ≠ _; rw [add_block]; exact hn201_2) | exact hn201_2) (.int .u64 ((rd_T25 l0 x17_1).f2))).trans hx201_3; replace hx201_4 := (cell_far (p := ⟨gb200, 2, none⟩) (by first | (rw [add_block]; exact hn201_2) | (show (Addr.add _ _).block ≠ _; rw [add_block]; exact hn201_2) | exact hn201_2) (.int .u64 ((rd_T25 l0 x17_1).f2))).trans hx201_4; replace hx201_5 := (cell_far (p := ⟨gb200, 2, none⟩) (by first | (rw [add_block]; exact hn201_2) | (show (Addr.add _ _).block ≠ _; rw [add_block]; exact hn201_2) | exact hn201_2) (.int .u64 ((rd_T25 l0 x17_1).f2))).trans hx201_5; replace hx201_6 := (cell_far (p := ⟨gb200, 2, none⟩) (by first | (rw [add_block]; exact hn201_2) | (show (Addr.add _ _).block ≠ _; rw [add_block]; exact hn201_2) | exact hn201_2) (.int .u64 ((rd_T25 l0 x17_1).f2))).trans hx201_6; replace hx201_0 := (cell_far (p := ⟨gb200, 3, none⟩) (by first | (rw [add_block]; exact hn201_3) | (show (Addr.add _ _).block ≠ _; rw [add_block]; exact hn201_3) | exact hn201_3) (.int .u64 ((rd_T25 l0 x17_1).f3))).trans hx201_0; replace hx201_1 := (cell_far (p := ⟨gb200, 3, none⟩) (by first | (rw [add_block]; exact hn201_3) | (show (Addr.add _ _).block ≠ _; rw [add_block]; exact hn201_3) | exact hn201_3) (.int .u64 ((rd_T25 l0 x17_1).f3))).trans hx201_1; replace hx201_2 := (cell_far (p := ⟨gb200, 3, none⟩) (by first | (rw [add_block]; exact hn201_3) | (show (Addr.add _ _).block ≠ _; rw [add_block]; exact hn201_3) | exact hn201_3) (.int .u64 ((rd_T25 l0 x17_1).f3))).trans hx201_2; replace hx201_3 := (cell_far (p := ⟨gb200, 3, none⟩) (by first | (rw [add_block]; exact hn201_3) | (show (Addr.add _ _).block ≠ _; rw [add_block]; exact hn201_3) | exact hn201_3) (.int .u64 ((rd_T25 l0 x17_1).f3))).trans hx201_3; replace hx201_4 := (cell_far (p := ⟨gb200, 3, none⟩) (by first | (rw [add_block]; exact hn201_3) | (show (Addr.add _ _).block ≠ _; rw [add_block]; exact hn201_3) | exact hn201_3) (.int .u64 ((rd_T25 l0 x17_1).f3))).trans hx201_4; replace hx201_5 := (cell_far (p := ⟨gb200, 3, none⟩) (by first | (rw [add_block]; exact hn201_3) | (show (Addr.add _ _).block ≠ _; rw [add_block]; exact hn201_3) | exact hn201_3) (.int .u64 ((rd_T25 l0 x17_1).f3))).trans hx201_5; replace hx201_6 := (cell_far (p := ⟨gb200, 3, none⟩) (by first | (rw [add_block]; exact hn201_3) | (show (Addr.add _ _).block ≠ _; rw [add_block]; exact hn201_3) | exact hn201_3) (.int .u64 ((rd_T25 l0 x17_1).f3))).trans hx201_6; replace hx201_0 := (cell_far (p := ⟨gb200, 4, none⟩) (by first | (rw [add_block]; exact hn201_4) | (show (Addr.add _ _).block ≠ _; rw [add_block]; exact hn201_4) | exact hn201_4) (.int .u64 ((rd_T25 l0 x17_1).f4))).trans hx201_0; replace hx201_1 := (cell_far (p := ⟨gb200, 4, none⟩) (by first | (rw [add_block]; exact hn201_4) | (show (Addr.add _ _).block ≠ _; rw [add_block]; exact hn201_4) | exact hn201_4) (.int .u64 ((rd_T25 l0 x17_1).f4))).trans hx201_1; replace hx201_2 := (cell_far (p := ⟨gb200, 4, none⟩) (by first | (rw [add_block]; exact hn201_4) | (show (Addr.add _ _).block ≠ _; rw [add_block]; exact hn201_4) | exact hn201_4) (.int .u64 ((rd_T25 l0 x17_1).f4))).trans hx201_2; replace hx201_3 := (cell_far (p := ⟨gb200, 4, none⟩) (by first | (rw [add_block]; exact hn201_4) | (show (Addr.add _ _).block ≠ _; rw [add_block]; exact hn201_4) | exact hn201_4) (.int .u64 ((rd_T25 l0 x17_1).f4))).trans hx201_3; replace hx201_4 := (cell_far (p := ⟨gb200, 4, none⟩) (by first | (rw [add_block]; exact hn201_4) | (show (Addr.add _ _).block ≠ _; rw [add_block]; exact hn201_4) | exact hn201_4) (.int .u64 ((rd_T25 l0 x17_1).f4))).trans hx201_4; replace hx201_5 := (cell_far (p := ⟨gb200, 4, none⟩) (by first | (rw [add_block]; exact hn201_4) | (show (Addr.add _ _).block ≠ _; rw [add_block]; exact hn201_4) | exact hn201_4) (.int .u64 ((rd_T25 l0 x17_1).f4))).trans hx201_5; replace hx201_6 := (cell_far (p := ⟨gb200, 4, none⟩) (by first | (rw [add_block]; exact hn201_4) | (show (Addr.add _ _).block ≠ _; rw [add_block]; exact hn201_4) | exact hn201_4) (.int .u64 ((rd_T25 l0 x17_1).f4))).trans hx201_6; replace hx201_0 := (cell_far (p := ⟨gb200, 5, none⟩) (by first | (rw [add_block]; exact hn201_5) | (show (Addr.add _ _).block ≠ _; rw [add_block]; exact hn201_5) | exact hn201_5) (.slice A199_5 ((rd_T25 l0 x17_1).f5).length c199_5)).trans hx201_0; replace hx201_1 := (cell_far (p := ⟨gb200, 5, none⟩) (by first | (rw [add_block]; exact hn201_5) | (show (Addr.add _ _).block ≠ _; rw [add_block]; exact hn201_5) | exact hn201_5) (.slice A199_5 ((rd_T25 l0 x17_1).f5).length c199_5)).trans hx201_1; replace hx201_2 := (cell_far (p := ⟨gb200, 5, none⟩) (by first | (rw [add_block]; exact hn201_5) | (show (Addr.add _ _).block ≠ _; rw [add_block]; exact hn201_5) | exact hn201_5) (.slice A199_5 ((rd_T25 l0 x17_1).f5).length c199_5)).trans hx201_2; replace hx201_3 := (cell_far (p := ⟨gb200, 5, none⟩) (by first | (rw [add_block]; exact hn201_5) | (show (Addr.add _ _).block ≠ _; rw [add_block]; exact hn201_5) | exact hn201_5) (.slice A199_5 ((rd_T25 l0 x17_1).f5).length c199_5)).trans hx201_3; replace hx201_4 := (cell_far (p := ⟨gb200, 5, none⟩) (by first | (rw [add_block]; exact hn201_5) | (show (Addr.add _ _).block ≠ _; rw [add_block]; exact hn201_5) | exact hn201_5) (.slice A199_5 ((rd_T25 l0 x17_1).f5).length c199_5)).trans hx201_4; replace hx201_5 := (cell_far (p := ⟨gb200, 5, none⟩) (by first | (rw [add_block]; exact hn201_5) | (show (Addr.add _ _).block ≠ _; rw [add_block]; exact hn201_5) | exact hn201_5) (.slice A199_5 ((rd_T25 l0 x17_1).f5).length c199_5)).trans hx201_5; replace hx201_6 := (cell_far (p := ⟨gb200, 5, none⟩) (by first | (rw [add_block]; exact hn201_5) | (show (Addr.add _ _).block ≠ _; rw [add_block]; exact hn201_5) | exact hn201_5) (.slice A199_5 ((rd_T25 l0 x17_1).f5).length c199_5)).trans hx201_6; replace hx201_0 := (cell_far (p := ⟨gb200, 6, none⟩) (by first | (rw [add_block]; exact hn201_6) | (show (Addr.add _ _).block ≠ _; rw [add_block]; exact hn201_6) | exact hn201_6) (.bool ((rd_T25 l0 x17_1).f6))).trans hx201_0; replace hx201_1 := (cell_far (p := ⟨gb200, 6, none⟩) (by first | (rw [add_block]; exact hn201_6) | (show (Addr.add _ _).block ≠ _; rw [add_block]; exact hn201_6) | exact hn201_6) (.bool ((rd_T25 l0 x17_1).f6))).trans hx201_1; replace hx201_2 := (cell_far (p := ⟨gb200, 6, none⟩) (by first | (rw [add_block]; exact hn201_6) | (show (Addr.add _ _).block ≠ _; rw [add_block]; exact hn201_6) | exact hn201_6) (.bool ((rd_T25 l0 x17_1).f6))).trans hx201_2; replace hx201_3 := (cell_far (p := ⟨gb200, 6, none⟩) (by first | (rw [add_block]; exact hn201_6) | (show (Addr.add _ _).block ≠ _; rw [add_block]; exact hn201_6) | exact hn201_6) (.bool ((rd_T25 l0 x17_1).f6))).trans hx201_3; replace hx201_4 := (cell_far (p := ⟨gb200, 6, none⟩) (by first | (rw [add_block]; exact hn201_6) | (show (Addr.add _ _).block ≠ _; rw [add_block]; exact hn201_6) | exact hn201_6) (.bool ((rd_T25 l0 x17_1).f6))).trans hx201_4; replace hx201_5 := (cell_far (p := ⟨gb200, 6, none⟩) (by first | (rw [add_block]; exact hn201_6) | (show (Addr.add _ _).block ≠ _; rw [add_block]; exact hn201_6) | exact hn201_6) (.bool ((rd_T25 l0 x17_1).f6))).trans hx201_5; replace hx201_6 := (cell_far (p := ⟨gb200, 6, none⟩) (by first | (rw [add_block]; exact hn201_6) | (show (Addr.add _ _).block ≠ _; rw [add_block]; exact hn201_6) | exact hn201_6) (.bool ((rd_T25 l0 x17_1).f6))).trans hx201_6; clear hn201_0; clear hn201_1; clear hn201_2; clear hn201_3; clear hn201_4; clear hn201_5; clear hn201_6; replace p201 := eq_true p201; replace q201 := eq_true q201) | ((with_reducible refine gate_dst (N := 9) rfl ?_); refine box_event ?hg (N := 9) ?hd (cs := #[.int .u64 0, .int .u64 0, .int .u64 0, .int .u64 0, .int .u64 0, .slice none 0 0, .bool false]) (t := 25) ?hr ?_; (case hd => rfl); (case hg => rfl); (case hr => first | (go_simp; done) | (go_simp; rfl)); intro gb202 hg w13 hbox hb; have n0_ := Aside0.mk (blk_below (g := gb200) (o := .cells #[.int .u64 ((rd_T25 l0 x17_1).f0), .int .u64 ((rd_T25 l0 x17_1).f1), .int .u64 ((rd_T25 l0 x17_1).f2), .int .u64 ((rd_T25 l0 x17_1).f3), .int .u64 ((rd_T25 l0 x17_1).f4), .slice A199_5 ((rd_T25 l0 x17_1).f5).length c199_5, .bool ((rd_T25 l0 x17_1).f6)] 25 (0, 0)) (by (with_reducible repeat (first | refine blk_drewN ?_ _ | refine blk_drew ?_ | refine blk_alloc ?_ _)); refine blk_put (cs := #[.int .u64 ((rd_T25 l0 x17_1).f0), .int .u64 ((rd_T25 l0 x17_1).f1), .int .u64 ((rd_T25 l0 x17_1).f2), .int .u64 ((rd_T25 l0 x17_1).f3), .int .u64 ((rd_T25 l0 x17_1).f4), .slice A199_5 ((rd_T25 l0 x17_1).f5).length c199_5, .bool false]) ?_ 6 _ rfl; refine blk_put (cs := #[.int .u64 ((rd_T25 l0 x17_1).f0), .int .u64 ((rd_T25 l0 x17_1).f1), .int .u64 ((rd_T25 l0 x17_1).f2), .int .u64 ((rd_T25 l0 x17_1).f3), .int .u64 ((rd_T25 l0 x17_1).f4), .slice none 0 0, .bool false]) ?_ 5 _ rfl; refine blk_put (cs := #[.int .u64 ((rd_T25 l0 x17_1).f0), .int .u64 ((rd_T25 l0 x17_1).f1), .int .u64 ((rd_T25 l0 x17_1).f2), .int .u64 ((rd_T25 l0 x17_1).f3), .int .u64 0, .slice none 0 0, .bool false]) ?_ 4 _ rfl; refine blk_put (cs := #[.int .u64 ((rd_T25 l0 x17_1).f0), .int .u64 ((rd_T25 l0 x17_1).f1), .int .u64 ((rd_T25 l0 x17_1).f2), .int .u64 0, .int .u64 0, .slice none 0 0, .bool false]) ?_ 3 _ rfl; refine blk_put (cs := #[.int .u64 ((rd_T25 l0 x17_1).f0), .int .u64 ((rd_T25 l0 x17_1).f1), .int .u64 0, .int .u64 0, .int .u64 0, .slice none 0 0, .bool false]) ?_ 2 _ rfl; refine blk_put (cs := #[.int .u64 ((rd_T25 l0 x17_1).f0), .int .u64 0, .int .u64 0, .int .u64 0, .int .u64 0, .slice none 0 0, .bool false]) ?_ 1 _ rfl; refine blk_put (cs := #[.int .u64 0, .int .u64 0, .int .u64 0, .int .u64 0, .int .u64 0, .slice none 0 0, .bool false]) ?_ 0 _ rfl; (with_reducible repeat (first | refine blk_drewN ?_ _ | refine blk_drew ?_ | refine blk_alloc ?_ _)); exact BK200.out) hb); have n1_ := Aside0.mk (below_step (belN HB) hb); have n2_ := Aside0.mk (hbox); have n3_ := Aside0.mk ((by rw [hg]; exact (below_size (belN HB)) : w.heap.size ≤ gb202)); have n4_ := Aside0.mk ((by rw [hg]; exact (below_size (belN HB)) : w.heap.size ≤ gb202)); have n5_ := Aside0.mk ((by rw [hg]; exact Nat.ne_of_lt (blk_lt (g := gb200) (o := .cells #[.int .u64 ((rd_T25 l0 x17_1).f0), .int .u64 ((rd_T25 l0 x17_1).f1), .int .u64 ((rd_T25 l0 x17_1).f2), .int .u64 ((rd_T25 l0 x17_1).f3), .int .u64 ((rd_T25 l0 x17_1).f4), .slice A199_5 ((rd_T25 l0 x17_1).f5).length c199_5, .bool ((rd_T25 l0 x17_1).f6)] 25 (0, 0)) (by (with_reducible repeat (first | refine blk_drewN ?_ _ | refine blk_drew ?_ | refine blk_alloc ?_ _)); refine blk_put (cs := #[.int .u64 ((rd_T25 l0 x17_1).f0), .int .u64 ((rd_T25 l0 x17_1).f1), .int .u64 ((rd_T25 l0 x17_1).f2), .int .u64 ((rd_T25 l0 x17_1).f3), .int .u64 ((rd_T25 l0 x17_1).f4), .slice A199_5 ((rd_T25 l0 x17_1).f5).length c199_5, .bool false]) ?_ 6 _ rfl; refine blk_put (cs := #[.int .u64 ((rd_T25 l0 x17_1).f0), .int .u64 ((rd_T25 l0 x17_1).f1), .int .u64 ((rd_T25 l0 x17_1).f2), .int .u64 ((rd_T25 l0 x17_1).f3), .int .u64 ((rd_T25 l0 x17_1).f4), .slice none 0 0, .bool false]) ?_ 5 _ rfl; refine blk_put (cs := #[.int .u64 ((rd_T25 l0 x17_1).f0), .int .u64 ((rd_T25 l0 x17_1).f1), .int .u64 ((rd_T25 l0 x17_1).f2), .int .u64 ((rd_T25 l0 x17_1).f3), .int .u64 0, .slice none 0 0, .bool false]) ?_ 4 _ rfl; refine blk_put (cs := #[.int .u64 ((rd_T25 l0 x17_1).f0), .int .u64 ((rd_T25 l0 x17_1).f1), .int .u64 ((rd_T25 l0 x17_1).f2), .int .u64 0, .int .u64 0, .slice none 0 0, .bool false]) ?_ 3 _ rfl; refine blk_put (cs := #[.int .u64 ((rd_T25 l0 x17_1).f0), .int .u64 ((rd_T25 l0 x17_1).f1), .int .u64 0, .int .u64 0, .int .u64 0, .slice none 0 0, .bool false]) ?_ 2 _ rfl; refine blk_put (cs := #[.int .u64 ((rd_T25 l0 x17_1).f0), .int .u64 0, .int .u64 0, .int .u64 0, .int .u64 0, .slice none 0 0, .bool false]) ?_ 1 _ rfl; refine blk_put (cs := #[.int .u64 0, .int .u64 0, .int .u64 0, .int .u64 0, .int .u64 0, .slice none 0 0, .bool false]) ?_ 0 _ rfl; (with_reducible repeat (first | refine blk_drewN ?_ _ | refine blk_drew ?_ | refine blk_alloc ?_ _)); exact BK200.out)) : gb200 ≠ gb202)); have n6_ := Aside0.mk ((by rw [hg]; exact Nat.ne_of_gt (blk_lt (g := gb200) (o := .cells #[.int .u64 ((rd_T25 l0 x17_1).f0), .int .u64 ((rd_T25 l0 x17_1).f1), .int .u64 ((rd_T25 l0 x17_1).f2), .int .u64 ((rd_T25 l0 x17_1).f3), .int .u64 ((rd_T25 l0 x17_1).f4), .slice A199_5 ((rd_T25 l0 x17_1).f5).length c199_5, .bool ((rd_T25 l0 x17_1).f6)] 25 (0, 0)) (by (with_reducible repeat (first | refine blk_drewN ?_ _ | refine blk_drew ?_ | refine blk_alloc ?_ _)); refine blk_put (cs := #[.int .u64 ((rd_T25 l0 x17_1).f0), .int .u64 ((rd_T25 l0 x17_1).f1), .int .u64 ((rd_T25 l0 x17_1).f2), .int .u64 ((rd_T25 l0 x17_1).f3), .int .u64 ((rd_T25 l0 x17_1).f4), .slice A199_5 ((rd_T25 l0 x17_1).f5).length c199_5, .bool false]) ?_ 6 _ rfl; refine blk_put (cs := #[.int .u64 ((rd_T25 l0 x17_1).f0), .int .u64 ((rd_T25 l0 x17_1).f1), .int .u64 ((rd_T25 l0 x17_1).f2), .int .u64 ((rd_T25 l0 x17_1).f3), .int .u64 ((rd_T25 l0 x17_1).f4), .slice none 0 0, .bool false]) ?_ 5 _ rfl; refine blk_put (cs := #[.int .u64 ((rd_T25 l0 x17_1).f0), .int .u64 ((rd_T25 l0 x17_1).f1), .int .u64 ((rd_T25 l0 x17_1).f2), .int .u64 ((rd_T25 l0 x17_1).f3), .int .u64 0, .slice none 0 0, .bool false]) ?_ 4 _ rfl; refine blk_put (cs := #[.int .u64 ((rd_T25 l0 x17_1).f0), .int .u64 ((rd_T25 l0 x17_1).f1), .int .u64 ((rd_T25 l0 x17_1).f2), .int .u64 0, .int .u64 0, .slice none 0 0, .bool false]) ?_ 3 _ rfl; refine blk_put (cs := #[.int .u64 ((rd_T25 l0 x17_1).f0), .int .u64 ((rd_T25 l0 x17_1).f1), .int .u64 0, .int .u64 0, .int .u64 0, .slice none 0 0, .bool false]) ?_ 2 _ rfl; refine blk_put (cs := #[.int .u64 ((rd_T25 l0 x17_1).f0), .int .u64 0, .int .u64 0, .int .u64 0, .int .u64 0, .slice none 0 0, .bool false]) ?_ 1 _ rfl; refine blk_put (cs := #[.int .u64 0, .int .u64 0, .int .u64 0, .int .u64 0, .int .u64 0, .slice none 0 0, .bool false]) ?_ 0 _ rfl; (with_reducible repeat (first | refine blk_drewN ?_ _ | refine blk_drew ?_ | refine blk_alloc ?_ _)); exact BK200.out)) : gb202 ≠ gb200)); clear BK200; clear HB; have BK200 := n0_; have HB := n1_; have BK202 := n2_; have GW202 := n3_; have GE202 := n4_; have NB200_202 := n5_; have NB202_200 := n6_; clear n0_ n1_ n2_ n3_ n4_ n5_ n6_; clear hb hbox hg; have hnb14 := NB202_200.out; have hnc14 := NB200_202.out; obtain ⟨hcz15_0, hcz15_1, hcz15_2, hcz15_3, hcz15_4, hcz15_5, hcz15_6, hfz15_0, hfz15_1, hfz15_2, hfz15_3, hfz15_4, hfz15_5, hfz15_6⟩ := cz7_ (w := w13) BK202.out; obtain ⟨hcz16_0, hcz16_1, hcz16_2, hcz16_3, hcz16_4, hcz16_5, hcz16_6, hfz16_0, hfz16_1, hfz16_2, hfz16_3, hfz16_4, hfz16_5, hfz16_6⟩ := cz7_ (w := w13) BK200.out) | ((with_reducible refine gate_tmp (t_ := 26) rfl ?_); refine goesT_ (some 29) rfl rfl Try.func26 (by kernel_rfl) rfl #[.agg #[.int .u64 ((rd_T25 l0 x17_1).f0), .int .u64 ((rd_T25 l0 x17_1).f1), .int .u64 ((rd_T25 l0 x17_1).f2), .int .u64 ((rd_T25 l0 x17_1).f3), .int .u64 ((rd_T25 l0 x17_1).f4), .slice A199_5 ((rd_T25 l0 x17_1).f5).length c199_5, .bool ((rd_T25 l0 x17_1).f6)], .agg #[.int .u64 ((rd_T25 l1 x17_1).f0), .int .u64 ((rd_T25 l1 x17_1).f1), .int .u64 ((rd_T25 l1 x17_1).f2), .int .u64 ((rd_T25 l1 x17_1).f3), .int .u64 ((rd_T25 l1 x17_1).f4), .slice A201_5 ((rd_T25 l1 x17_1).f5).length c201_5, .bool ((rd_T25 l1 x17_1).f6)]] rfl rfl (by (try simp only [List.map_toArray, List.map_cons, List.map_nil]); first | done | rfl | (simp only [List.length_drop, List.length_take]; rfl)) ?_; (with_reducible refine (channel_Same.calls k1 ((rd_T25 l0 x17_1).f0) ((rd_T25 l0 x17_1).f1) ((rd_T25 l0 x17_1).f2) ((rd_T25 l0 x17_1).f3) ((rd_T25 l0 x17_1).f4) _ _ ((rd_T25 l0 x17_1).f5) ((rd_T25 l0 x17_1).f6) ((rd_T25 l1 x17_1).f0) ((rd_T25 l1 x17_1).f1) ((rd_T25 l1 x17_1).f2) ((rd_T25 l1 x17_1).f3) ((rd_T25 l1 x17_1).f4) _ _ ((rd_T25 l1 x17_1).f5) ((rd_T25 l1 x17_1).f6) true _ ?side1 ?side2 ?side3 ?side4 A9.out).mono ?_); (case side1 => exact Kd.C_below HR199_5.out (belN HB)); (case side2 => exact HC199_5.out); (case side3 => exact Kd.C_below HR201_5.out (belN HB)); (case side4 => exact HC201_5.out); rintro e w17 ⟨rfl, hb⟩; refine ⟨_, rfl, ?_⟩; have n0_ := Aside0.mk (blk_below (g := gb200) (blkF BK200) hb); have n1_ := Aside0.mk (blk_below (g := gb202) (o := .cells #[.int .u64 ((rd_T25 l1 x17_1).f0), .int .u64 ((rd_T25 l1 x17_1).f1), .int .u64 ((rd_T25 l1 x17_1).f2), .int .u64 ((rd_T25 l1 x17_1).f3), .int .u64 ((rd_T25 l1 x17_1).f4), .slice A201_5 ((rd_T25 l1 x17_1).f5).length c201_5, .bool ((rd_T25 l1 x17_1).f6)] 25 (0, 0)) (by (with_reducible repeat (first | refine blk_drewN ?_ _ | refine blk_drew ?_ | refine blk_alloc ?_ _)); refine blk_put (cs := #[.int .u64 ((rd_T25 l1 x17_1).f0), .int .u64 ((rd_T25 l1 x17_1).f1), .int .u64 ((rd_T25 l1 x17_1).f2), .int .u64 ((rd_T25 l1 x17_1).f3), .int .u64 ((rd_T25 l1 x17_1).f4), .slice A201_5 ((rd_T25 l1 x17_1).f5).length c201_5, .bool false]) ?_ 6 _ rfl; refine blk_put (cs := #[.int .u64 ((rd_T25 l1 x17_1).f0), .int .u64 ((rd_T25 l1 x17_1).f1), .int .u64 ((rd_T25 l1 x17_1).f2), .int .u64 ((rd_T25 l1 x17_1).f3), .int .u64 ((rd_T25 l1 x17_1).f4), .slice none 0 0, .bool false]) ?_ 5 _ rfl; refine blk_put (cs := #[.int .u64 ((rd_T25 l1 x17_1).f0), .int .u64 ((rd_T25 l1 x17_1).f1), .int .u64 ((rd_T25 l1 x17_1).f2), .int .u64 ((rd_T25 l1 x17_1).f3), .int .u64 0, .slice none 0 0, .bool false]) ?_ 4 _ rfl; refine blk_put (cs := #[.int .u64 ((rd_T25 l1 x17_1).f0), .int .u64 ((rd_T25 l1 x17_1).f1), .int .u64 ((rd_T25 l1 x17_1).f2), .int .u64 0, .int .u64 0, .slice none 0 0, .bool false]) ?_ 3 _ rfl; refine blk_put (cs := #[.int .u64 ((rd_T25 l1 x17_1).f0), .int .u64 ((rd_T25 l1 x17_1).f1), .int .u64 0, .int .u64 0, .int .u64 0, .slice none 0 0, .bool false]) ?_ 2 _ rfl; refine blk_put (cs := #[.int .u64 ((rd_T25 l1 x17_1).f0), .int .u64 0, .int .u64 0, .int .u64 0, .int .u64 0, .slice none 0 0, .bool false]) ?_ 1 _ rfl; refine blk_put (cs := #[.int .u64 0, .int .u64 0, .int .u64 0, .int .u64 0, .int .u64 0, .slice none 0 0, .bool false]) ?_ 0 _ rfl; (with_reducible repeat (first | refine blk_drewN ?_ _ | refine blk_drew ?_ | refine blk_alloc ?_ _)); exact BK202.out) hb); have n2_ := Aside0.mk (below_step (belN HB) hb); clear BK200; clear BK202; clear HB; have BK200 := n0_; have BK202 := n1_; have HB := n2_; clear n0_ n1_ n2_; (try clear hb); (try clear hb2); (try clear hk); (try clear hi)))
         go_roundg k1
         case measure => have := HK1.out; omega
         case rel => exact ⟨(wrap64 (x17_1 + 1)), (by first | rfl | (simp; done) | (simp [*]; done)), H', ⟨by have := HK1.out; omega⟩, ⟨by repeat (first | (with_reducible first | exact HB.out | apply below_alloc | apply pw_below_drewN | apply below_drew1 | refine below_set ?_ GE200.out | refine below_set ?_ GE202.out) | exact HB.out)⟩⟩
        ·replace c10 := Bool.eq_false_iff.mpr c10
         subst c10
         have H1 : (some false) = some r := by rw [if_neg (show ¬ (false = true) by decide)] at H; exact H
         clear H
         have H := H1
         clear H1
         obtain rfl := Option.some.inj H
         have p199 : 0 ≤ (x17_1 : Int) := of_decide_eq_true (by first | (with_reducible assumption) | assumption)
         have q199 : x17_1 < (l0.length : Int) := of_decide_eq_true (by first | (with_reducible assumption) | assumption)
         obtain ⟨ad199, A199_5, c199_5, e199, hx199_0, hx199_1, hx199_2, hx199_3, hx199_4, hx199_5, hx199_6, hl199_5, hi199_5⟩ := at_T25 HR0.out x17_1 p199 q199
         cases e199
         replace hx199_0 := (HB.out.cell (World.block_lt_of_cell? w _ hx199_0)).trans hx199_0
         replace hx199_1 := (HB.out.cell (World.block_lt_of_cell? w _ hx199_1)).trans hx199_1
         replace hx199_2 := (HB.out.cell (World.block_lt_of_cell? w _ hx199_2)).trans hx199_2
         replace hx199_3 := (HB.out.cell (World.block_lt_of_cell? w _ hx199_3)).trans hx199_3
         replace hx199_4 := (HB.out.cell (World.block_lt_of_cell? w _ hx199_4)).trans hx199_4
         replace hx199_5 := (HB.out.cell (World.block_lt_of_cell? w _ hx199_5)).trans hx199_5
         replace hx199_6 := (HB.out.cell (World.block_lt_of_cell? w _ hx199_6)).trans hx199_6
         have HR199_5 := Aside0.mk hi199_5
         have HC199_5 := Aside0.mk hl199_5
         clear hi199_5 hl199_5
         replace p199 := eq_true p199
         replace q199 := eq_true q199
         go_wp2_with (first | ((with_reducible refine gate_dst (N := 8) rfl ?_); refine box_event ?hg (N := 8) ?hd (cs := #[.int .u64 0, .int .u64 0, .int .u64 0, .int .u64 0, .int .u64 0, .slice none 0 0, .bool false]) (t := 25) ?hr ?_; (case hd => rfl); (case hg => rfl); (case hr => first | (go_simp; done) | (go_simp; rfl)); intro gb200 hg w18 hbox hb; have n0_ := Aside0.mk (below_step (belN HB) hb); have n1_ := Aside0.mk (hbox); have n2_ := Aside0.mk ((by rw [hg]; exact (below_size (belN HB)) : w.heap.size ≤ gb200)); have n3_ := Aside0.mk ((by rw [hg]; exact (below_size (belN HB)) : w.heap.size ≤ gb200)); clear HB; have HB := n0_; have BK200 := n1_; have GW200 := n2_; have GE200 := n3_; clear n0_ n1_ n2_ n3_; clear hb hbox hg; obtain ⟨hcz19_0, hcz19_1, hcz19_2, hcz19_3, hcz19_4, hcz19_5, hcz19_6, hfz19_0, hfz19_1, hfz19_2, hfz19_3, hfz19_4, hfz19_5, hfz19_6⟩ := cz7_ (w := w18) BK200.out; have p201 : 0 ≤ (x17_1 : Int) := of_decide_eq_true (by first | (with_reducible assumption) | assumption); have q201 : x17_1 < (l1.length : Int) := of_decide_eq_true (by first | (with_reducible assumption) | assumption); obtain ⟨ad201, A201_5, c201_5, e201, hx201_0, hx201_1, hx201_2, hx201_3, hx201_4, hx201_5, hx201_6, hl201_5, hi201_5⟩ := at_T25 HR1.out x17_1 p201 q201; cases e201; have hn201_0 : ad201.block ≠ gb200 := Nat.ne_of_lt (Nat.lt_of_lt_of_le (by have := World.block_lt_of_cell? _ _ hx201_0; first | rwa [add_block] at this | exact this) GW200.out); have hn201_1 : ad201.block ≠ gb200 := Nat.ne_of_lt (Nat.lt_of_lt_of_le (by have := World.block_lt_of_cell? _ _ hx201_0; first | rwa [add_block] at this | exact this) GW200.out); have hn201_2 : ad201.block ≠ gb200 := Nat.ne_of_lt (Nat.lt_of_lt_of_le (by have := World.block_lt_of_cell? _ _ hx201_0; first | rwa [add_block] at this | exact this) GW200.out); have hn201_3 : ad201.block ≠ gb200 := Nat.ne_of_lt (Nat.lt_of_lt_of_le (by have := World.block_lt_of_cell? _ _ hx201_0; first | rwa [add_block] at this | exact this) GW200.out); have hn201_4 : ad201.block ≠ gb200 := Nat.ne_of_lt (Nat.lt_of_lt_of_le (by have := World.block_lt_of_cell? _ _ hx201_0; first | rwa [add_block] at this | exact this) GW200.out); have hn201_5 : ad201.block ≠ gb200 := Nat.ne_of_lt (Nat.lt_of_lt_of_le (by have := World.block_lt_of_cell? _ _ hx201_0; first | rwa [add_block] at this | exact this) GW200.out); have hn201_6 : ad201.block ≠ gb200 := Nat.ne_of_lt (Nat.lt_of_lt_of_le (by have := World.block_lt_of_cell? _ _ hx201_0; first | rwa [add_block] at this | exact this) GW200.out); replace hx201_0 := (HB.out.cell (World.block_lt_of_cell? w _ hx201_0)).trans hx201_0; replace hx201_1 := (HB.out.cell (World.block_lt_of_cell? w _ hx201_1)).trans hx201_1; replace hx201_2 := (HB.out.cell (World.block_lt_of_cell? w _ hx201_2)).trans hx201_2; replace hx201_3 := (HB.out.cell (World.block_lt_of_cell? w _ hx201_3)).trans hx201_3; replace hx201_4 := (HB.out.cell (World.block_lt_of_cell? w _ hx201_4)).trans hx201_4; replace hx201_5 := (HB.out.cell (World.block_lt_of_cell? w _ hx201_5)).trans hx201_5; replace hx201_6 := (HB.out.cell (World.block_lt_of_cell? w _ hx201_6)).trans hx201_6; have HR201_5 := Aside0.mk hi201_5; have HC201_5 := Aside0.mk hl201_5; clear hi201_5 hl201_5; replace hx201_0 := (cell_far (p := ⟨gb200, 0, none⟩) (by first | (rw [add_block]; exact hn201_0) | (show (Addr.add _ _).block ≠ _; rw [add_block]; exact hn201_0) | exact hn201_0) (.int .u64 ((rd_T25 l0 x17_1).f0))).trans hx201_0; replace hx201_1 := (cell_far (p := ⟨gb200, 0, none⟩) (by first | (rw [add_block]; exact hn201_0) | (show (Addr.add _ _).block ≠ _; rw [add_block]; exact hn201_0) | exact hn201_0) (.int .u64 ((rd_T25 l0 x17_1).f0))).trans hx201_1; replace hx201_2 := (cell_far (p := ⟨gb200, 0, none⟩) (by first | (rw [add_block]; exact hn201_0) | (show (Addr.add _ _).block ≠ _; rw [add_block]; exact hn201_0) | exact hn201_0) (.int .u64 ((rd_T25 l0 x17_1).f0))).trans hx201_2; replace hx201_3 := (cell_far (p := ⟨gb200, 0, none⟩) (by first | (rw [add_block]; exact hn201_0) | (show (Addr.add _ _).block ≠ _; rw [add_block]; exact hn201_0) | exact hn201_0) (.int .u64 ((rd_T25 l0 x17_1).f0))).trans hx201_3; replace hx201_4 := (cell_far (p := ⟨gb200, 0, none⟩) (by first | (rw [add_block]; exact hn201_0) | (show (Addr.add _ _).block ≠ _; rw [add_block]; exact hn201_0) | exact hn201_0) (.int .u64 ((rd_T25 l0 x17_1).f0))).trans hx201_4; replace hx201_5 := (cell_far (p := ⟨gb200, 0, none⟩) (by first | (rw [add_block]; exact hn201_0) | (show (Addr.add _ _).block ≠ _; rw [add_block]; exact hn201_0) | exact hn201_0) (.int .u64 ((rd_T25 l0 x17_1).f0))).trans hx201_5; replace hx201_6 := (cell_far (p := ⟨gb200, 0, none⟩) (by first | (rw [add_block]; exact hn201_0) | (show (Addr.add _ _).block ≠ _; rw [add_block]; exact hn201_0) | exact hn201_0) (.int .u64 ((rd_T25 l0 x17_1).f0))).trans hx201_6; replace hx201_0 := (cell_far (p := ⟨gb200, 1, none⟩) (by first | (rw [add_block]; exact hn201_1) | (show (Addr.add _ _).block ≠ _; rw [add_block]; exact hn201_1) | exact hn201_1) (.int .u64 ((rd_T25 l0 x17_1).f1))).trans hx201_0; replace hx201_1 := (cell_far (p := ⟨gb200, 1, none⟩) (by first | (rw [add_block]; exact hn201_1) | (show (Addr.add _ _).block ≠ _; rw [add_block]; exact hn201_1) | exact hn201_1) (.int .u64 ((rd_T25 l0 x17_1).f1))).trans hx201_1; replace hx201_2 := (cell_far (p := ⟨gb200, 1, none⟩) (by first | (rw [add_block]; exact hn201_1) | (show (Addr.add _ _).block ≠ _; rw [add_block]; exact hn201_1) | exact hn201_1) (.int .u64 ((rd_T25 l0 x17_1).f1))).trans hx201_2; replace hx201_3 := (cell_far (p := ⟨gb200, 1, none⟩) (by first | (rw [add_block]; exact hn201_1) | (show (Addr.add _ _).block ≠ _; rw [add_block]; exact hn201_1) | exact hn201_1) (.int .u64 ((rd_T25 l0 x17_1).f1))).trans hx201_3; replace hx201_4 := (cell_far (p := ⟨gb200, 1, none⟩) (by first | (rw [add_block]; exact hn201_1) | (show (Addr.add _ _).block ≠ _; rw [add_block]; exact hn201_1) | exact hn201_1) (.int .u64 ((rd_T25 l0 x17_1).f1))).trans hx201_4; replace hx201_5 := (cell_far (p := ⟨gb200, 1, none⟩) (by first | (rw [add_block]; exact hn201_1) | (show (Addr.add _ _).block ≠ _; rw [add_block]; exact hn201_1) | exact hn201_1) (.int .u64 ((rd_T25 l0 x17_1).f1))).trans hx201_5; replace hx201_6 := (cell_far (p := ⟨gb200, 1, none⟩) (by first | (rw [add_block]; exact hn201_1) | (show (Addr.add _ _).block ≠ _; rw [add_block]; exact hn201_1) | exact hn201_1) (.int .u64 ((rd_T25 l0 x17_1).f1))).trans hx201_6; replace hx201_0 := (cell_far (p := ⟨gb200, 2, none⟩) (by first | (rw [add_block]; exact hn201_2) | (show (Addr.add _ _).block ≠ _; rw [add_block]; exact hn201_2) | exact hn201_2) (.int .u64 ((rd_T25 l0 x17_1).f2))).trans hx201_0; replace hx201_1 := (cell_far (p := ⟨gb200, 2, none⟩) (by first | (rw [add_block]; exact hn201_2) | (show (Addr.add _ _).block ≠ _; rw [add_block]; exact hn201_2) | exact hn201_2) (.int .u64 ((rd_T25 l0 x17_1).f2))).trans hx201_1; replace hx201_2 := (cell_far (p := ⟨gb200, 2, none⟩) (by first | (rw [add_block]; exact hn201_2) | (show (Addr.add _ _).block ≠ _; rw [add_block]; exact hn201_2) | exact hn201_2) (.int .u64 ((rd_T25 l0 x17_1).f2))).trans hx201_2; replace hx201_3 := (cell_far (p := ⟨gb200, 2, none⟩) (by first | (rw [add_block]; exact hn201_2) | (show (Addr.add _ _).block ≠ _; rw [add_block]; exact hn201_2) | exact hn201_2) (.int .u64 ((rd_T25 l0 x17_1).f2))).trans hx201_3; replace hx201_4 := (cell_far (p := ⟨gb200, 2, none⟩) (by first | (rw [add_block]; exact hn201_2) | (show (Addr.add _ _).block ≠ _; rw [add_block]; exact hn201_2) | exact hn201_2) (.int .u64 ((rd_T25 l0 x17_1).f2))).trans hx201_4; replace hx201_5 := (cell_far (p := ⟨gb200, 2, none⟩) (by first | (rw [add_block]; exact hn201_2) | (show (Addr.add _ _).block ≠ _; rw [add_block]; exact hn201_2) | exact hn201_2) (.int .u64 ((rd_T25 l0 x17_1).f2))).trans hx201_5; replace hx201_6 := (cell_far (p := ⟨gb200, 2, none⟩) (by first | (rw [add_block]; exact hn201_2) | (show (Addr.add _ _).block ≠ _; rw [add_block]; exact hn201_2) | exact hn201_2) (.int .u64 ((rd_T25 l0 x17_1).f2))).trans hx201_6; replace hx201_0 := (cell_far (p := ⟨gb200, 3, none⟩) (by first | (rw [add_block]; exact hn201_3) | (show (Addr.add _ _).block ≠ _; rw [add_block]; exact hn201_3) | exact hn201_3) (.int .u64 ((rd_T25 l0 x17_1).f3))).trans hx201_0; replace hx201_1 := (cell_far (p := ⟨gb200, 3, none⟩) (by first | (rw [add_block]; exact hn201_3) | (show (Addr.add _ _).block ≠ _; rw [add_block]; exact hn201_3) | exact hn201_3) (.int .u64 ((rd_T25 l0 x17_1).f3))).trans hx201_1; replace hx201_2 := (cell_far (p := ⟨gb200, 3, none⟩) (by first | (rw [add_block]; exact hn201_3) | (show (Addr.add _ _).block ≠ _; rw [add_block]; exact hn201_3) | exact hn201_3) (.int .u64 ((rd_T25 l0 x17_1).f3))).trans hx201_2; replace hx201_3 := (cell_far (p := ⟨gb200, 3, none⟩) (by first | (rw [add_block]; exact hn201_3) | (show (Addr.add _ _).block ≠ _; rw [add_block]; exact hn201_3) | exact hn201_3) (.int .u64 ((rd_T25 l0 x17_1).f3))).trans hx201_3; replace hx201_4 := (cell_far (p := ⟨gb200, 3, none⟩) (by first | (rw [add_block]; exact hn201_3) | (show (Addr.add _ _).block ≠ _; rw [add_block]; exact hn201_3) | exact hn201_3) (.int .u64 ((rd_T25 l0 x17_1).f3))).trans hx201_4; replace hx201_5 := (cell_far (p := ⟨gb200, 3, none⟩) (by first | (rw [add_block]; exact hn201_3) | (show (Addr.add _ _).block ≠ _; rw [add_block]; exact hn201_3) | exact hn201_3) (.int .u64 ((rd_T25 l0 x17_1).f3))).trans hx201_5; replace hx201_6 := (cell_far (p := ⟨gb200, 3, none⟩) (by first | (rw [add_block]; exact hn201_3) | (show (Addr.add _ _).block ≠ _; rw [add_block]; exact hn201_3) | exact hn201_3) (.int .u64 ((rd_T25 l0 x17_1).f3))).trans hx201_6; replace hx201_0 := (cell_far (p := ⟨gb200, 4, none⟩) (by first | (rw [add_block]; exact hn201_4) | (show (Addr.add _ _).block ≠ _; rw [add_block]; exact hn201_4) | exact hn201_4) (.int .u64 ((rd_T25 l0 x17_1).f4))).trans hx201_0; replace hx201_1 := (cell_far (p := ⟨gb200, 4, none⟩) (by first | (rw [add_block]; exact hn201_4) | (show (Addr.add _ _).block ≠ _; rw [add_block]; exact hn201_4) | exact hn201_4) (.int .u64 ((rd_T25 l0 x17_1).f4))).trans hx201_1; replace hx201_2 := (cell_far (p := ⟨gb200, 4, none⟩) (by first | (rw [add_block]; exact hn201_4) | (show (Addr.add _ _).block ≠ _; rw [add_block]; exact hn201_4) | exact hn201_4) (.int .u64 ((rd_T25 l0 x17_1).f4))).trans hx201_2; replace hx201_3 := (cell_far (p := ⟨gb200, 4, none⟩) (by first | (rw [add_block]; exact hn201_4) | (show (Addr.add _ _).block ≠ _; rw [add_block]; exact hn201_4) | exact hn201_4) (.int .u64 ((rd_T25 l0 x17_1).f4))).trans hx201_3; replace hx201_4 := (cell_far (p := ⟨gb200, 4, none⟩) (by first | (rw [add_block]; exact hn201_4) | (show (Addr.add _ _).block ≠ _; rw [add_block]; exact hn201_4) | exact hn201_4) (.int .u64 ((rd_T25 l0 x17_1).f4))).trans hx201_4; replace hx201_5 := (cell_far (p := ⟨gb200, 4, none⟩) (by first | (rw [add_block]; exact hn201_4) | (show (Addr.add _ _).block ≠ _; rw [add_block]; exact hn201_4) | exact hn201_4) (.int .u64 ((rd_T25 l0 x17_1).f4))).trans hx201_5; replace hx201_6 := (cell_far (p := ⟨gb200, 4, none⟩) (by first | (rw [add_block]; exact hn201_4) | (show (Addr.add _ _).block ≠ _; rw [add_block]; exact hn201_4) | exact hn201_4) (.int .u64 ((rd_T25 l0 x17_1).f4))).trans hx201_6; replace hx201_0 := (cell_far (p := ⟨gb200, 5, none⟩) (by first | (rw [add_block]; exact hn201_5) | (show (Addr.add _ _).block ≠ _; rw [add_block]; exact hn201_5) | exact hn201_5) (.slice A199_5 ((rd_T25 l0 x17_1).f5).length c199_5)).trans hx201_0; replace hx201_1 := (cell_far (p := ⟨gb200, 5, none⟩) (by first | (rw [add_block]; exact hn201_5) | (show (Addr.add _ _).block ≠ _; rw [add_block]; exact hn201_5) | exact hn201_5) (.slice A199_5 ((rd_T25 l0 x17_1).f5).length c199_5)).trans hx201_1; replace hx201_2 := (cell_far (p := ⟨gb200, 5, none⟩) (by first | (rw [add_block]; exact hn201_5) | (show (Addr.add _ _).block ≠ _; rw [add_block]; exact hn201_5) | exact hn201_5) (.slice A199_5 ((rd_T25 l0 x17_1).f5).length c199_5)).trans hx201_2; replace hx201_3 := (cell_far (p := ⟨gb200, 5, none⟩) (by first | (rw [add_block]; exact hn201_5) | (show (Addr.add _ _).block ≠ _; rw [add_block]; exact hn201_5) | exact hn201_5) (.slice A199_5 ((rd_T25 l0 x17_1).f5).length c199_5)).trans hx201_3; replace hx201_4 := (cell_far (p := ⟨gb200, 5, none⟩) (by first | (rw [add_block]; exact hn201_5) | (show (Addr.add _ _).block ≠ _; rw [add_block]; exact hn201_5) | exact hn201_5) (.slice A199_5 ((rd_T25 l0 x17_1).f5).length c199_5)).trans hx201_4; replace hx201_5 := (cell_far (p := ⟨gb200, 5, none⟩) (by first | (rw [add_block]; exact hn201_5) | (show (Addr.add _ _).block ≠ _; rw [add_block]; exact hn201_5) | exact hn201_5) (.slice A199_5 ((rd_T25 l0 x17_1).f5).length c199_5)).trans hx201_5; replace hx201_6 := (cell_far (p := ⟨gb200, 5, none⟩) (by first | (rw [add_block]; exact hn201_5) | (show (Addr.add _ _).block ≠ _; rw [add_block]; exact hn201_5) | exact hn201_5) (.slice A199_5 ((rd_T25 l0 x17_1).f5).length c199_5)).trans hx201_6; replace hx201_0 := (cell_far (p := ⟨gb200, 6, none⟩) (by first | (rw [add_block]; exact hn201_6) | (show (Addr.add _ _).block ≠ _; rw [add_block]; exact hn201_6) | exact hn201_6) (.bool ((rd_T25 l0 x17_1).f6))).trans hx201_0; replace hx201_1 := (cell_far (p := ⟨gb200, 6, none⟩) (by first | (rw [add_block]; exact hn201_6) | (show (Addr.add _ _).block ≠ _; rw [add_block]; exact hn201_6) | exact hn201_6) (.bool ((rd_T25 l0 x17_1).f6))).trans hx201_1; replace hx201_2 := (cell_far (p := ⟨gb200, 6, none⟩) (by first | (rw [add_block]; exact hn201_6) | (show (Addr.add _ _).block ≠ _; rw [add_block]; exact hn201_6) | exact hn201_6) (.bool ((rd_T25 l0 x17_1).f6))).trans hx201_2; replace hx201_3 := (cell_far (p := ⟨gb200, 6, none⟩) (by first | (rw [add_block]; exact hn201_6) | (show (Addr.add _ _).block ≠ _; rw [add_block]; exact hn201_6) | exact hn201_6) (.bool ((rd_T25 l0 x17_1).f6))).trans hx201_3; replace hx201_4 := (cell_far (p := ⟨gb200, 6, none⟩) (by first | (rw [add_block]; exact hn201_6) | (show (Addr.add _ _).block ≠ _; rw [add_block]; exact hn201_6) | exact hn201_6) (.bool ((rd_T25 l0 x17_1).f6))).trans hx201_4; replace hx201_5 := (cell_far (p := ⟨gb200, 6, none⟩) (by first | (rw [add_block]; exact hn201_6) | (show (Addr.add _ _).block ≠ _; rw [add_block]; exact hn201_6) | exact hn201_6) (.bool ((rd_T25 l0 x17_1).f6))).trans hx201_5; replace hx201_6 := (cell_far (p := ⟨gb200, 6, none⟩) (by first | (rw [add_block]; exact hn201_6) | (show (Addr.add _ _).block ≠ _; rw [add_block]; exact hn201_6) | exact hn201_6) (.bool ((rd_T25 l0 x17_1).f6))).trans hx201_6; clear hn201_0; clear hn201_1; clear hn201_2; clear hn201_3; clear hn201_4; clear hn201_5; clear hn201_6; replace p201 := eq_true p201; replace q201 := eq_true q201) | ((with_reducible refine gate_dst (N := 9) rfl ?_); refine box_event ?hg (N := 9) ?hd (cs := #[.int .u64 0, .int .u64 0, .int .u64 0, .int .u64 0, .int .u64 0, .slice none 0 0, .bool false]) (t := 25) ?hr ?_; (case hd => rfl); (case hg => rfl); (case hr => first | (go_simp; done) | (go_simp; rfl)); intro gb202 hg w20 hbox hb; have n0_ := Aside0.mk (blk_below (g := gb200) (o := .cells #[.int .u64 ((rd_T25 l0 x17_1).f0), .int .u64 ((rd_T25 l0 x17_1).f1), .int .u64 ((rd_T25 l0 x17_1).f2), .int .u64 ((rd_T25 l0 x17_1).f3), .int .u64 ((rd_T25 l0 x17_1).f4), .slice A199_5 ((rd_T25 l0 x17_1).f5).length c199_5, .bool ((rd_T25 l0 x17_1).f6)] 25 (0, 0)) (by (with_reducible repeat (first | refine blk_drewN ?_ _ | refine blk_drew ?_ | refine blk_alloc ?_ _)); refine blk_put (cs := #[.int .u64 ((rd_T25 l0 x17_1).f0), .int .u64 ((rd_T25 l0 x17_1).f1), .int .u64 ((rd_T25 l0 x17_1).f2), .int .u64 ((rd_T25 l0 x17_1).f3), .int .u64 ((rd_T25 l0 x17_1).f4), .slice A199_5 ((rd_T25 l0 x17_1).f5).length c199_5, .bool false]) ?_ 6 _ rfl; refine blk_put (cs := #[.int .u64 ((rd_T25 l0 x17_1).f0), .int .u64 ((rd_T25 l0 x17_1).f1), .int .u64 ((rd_T25 l0 x17_1).f2), .int .u64 ((rd_T25 l0 x17_1).f3), .int .u64 ((rd_T25 l0 x17_1).f4), .slice none 0 0, .bool false]) ?_ 5 _ rfl; refine blk_put (cs := #[.int .u64 ((rd_T25 l0 x17_1).f0), .int .u64 ((rd_T25 l0 x17_1).f1), .int .u64 ((rd_T25 l0 x17_1).f2), .int .u64 ((rd_T25 l0 x17_1).f3), .int .u64 0, .slice none 0 0, .bool false]) ?_ 4 _ rfl; refine blk_put (cs := #[.int .u64 ((rd_T25 l0 x17_1).f0), .int .u64 ((rd_T25 l0 x17_1).f1), .int .u64 ((rd_T25 l0 x17_1).f2), .int .u64 0, .int .u64 0, .slice none 0 0, .bool false]) ?_ 3 _ rfl; refine blk_put (cs := #[.int .u64 ((rd_T25 l0 x17_1).f0), .int .u64 ((rd_T25 l0 x17_1).f1), .int .u64 0, .int .u64 0, .int .u64 0, .slice none 0 0, .bool false]) ?_ 2 _ rfl; refine blk_put (cs := #[.int .u64 ((rd_T25 l0 x17_1).f0), .int .u64 0, .int .u64 0, .int .u64 0, .int .u64 0, .slice none 0 0, .bool false]) ?_ 1 _ rfl; refine blk_put (cs := #[.int .u64 0, .int .u64 0, .int .u64 0, .int .u64 0, .int .u64 0, .slice none 0 0, .bool false]) ?_ 0 _ rfl; (with_reducible repeat (first | refine blk_drewN ?_ _ | refine blk_drew ?_ | refine blk_alloc ?_ _)); exact BK200.out) hb); have n1_ := Aside0.mk (below_step (belN HB) hb); have n2_ := Aside0.mk (hbox); have n3_ := Aside0.mk ((by rw [hg]; exact (below_size (belN HB)) : w.heap.size ≤ gb202)); have n4_ := Aside0.mk ((by rw [hg]; exact (below_size (belN HB)) : w.heap.size ≤ gb202)); have n5_ := Aside0.mk ((by rw [hg]; exact Nat.ne_of_lt (blk_lt (g := gb200) (o := .cells #[.int .u64 ((rd_T25 l0 x17_1).f0), .int .u64 ((rd_T25 l0 x17_1).f1), .int .u64 ((rd_T25 l0 x17_1).f2), .int .u64 ((rd_T25 l0 x17_1).f3), .int .u64 ((rd_T25 l0 x17_1).f4), .slice A199_5 ((rd_T25 l0 x17_1).f5).length c199_5, .bool ((rd_T25 l0 x17_1).f6)] 25 (0, 0)) (by (with_reducible repeat (first | refine blk_drewN ?_ _ | refine blk_drew ?_ | refine blk_alloc ?_ _)); refine blk_put (cs := #[.int .u64 ((rd_T25 l0 x17_1).f0), .int .u64 ((rd_T25 l0 x17_1).f1), .int .u64 ((rd_T25 l0 x17_1).f2), .int .u64 ((rd_T25 l0 x17_1).f3), .int .u64 ((rd_T25 l0 x17_1).f4), .slice A199_5 ((rd_T25 l0 x17_1).f5).length c199_5, .bool false]) ?_ 6 _ rfl; refine blk_put (cs := #[.int .u64 ((rd_T25 l0 x17_1).f0), .int .u64 ((rd_T25 l0 x17_1).f1), .int .u64 ((rd_T25 l0 x17_1).f2), .int .u64 ((rd_T25 l0 x17_1).f3), .int .u64 ((rd_T25 l0 x17_1).f4), .slice none 0 0, .bool false]) ?_ 5 _ rfl; refine blk_put (cs := #[.int .u64 ((rd_T25 l0 x17_1).f0), .int .u64 ((rd_T25 l0 x17_1).f1), .int .u64 ((rd_T25 l0 x17_1).f2), .int .u64 ((rd_T25 l0 x17_1).f3), .int .u64 0, .slice none 0 0, .bool false]) ?_ 4 _ rfl; refine blk_put (cs := #[.int .u64 ((rd_T25 l0 x17_1).f0), .int .u64 ((rd_T25 l0 x17_1).f1), .int .u64 ((rd_T25 l0 x17_1).f2), .int .u64 0, .int .u64 0, .slice none 0 0, .bool false]) ?_ 3 _ rfl; refine blk_put (cs := #[.int .u64 ((rd_T25 l0 x17_1).f0), .int .u64 ((rd_T25 l0 x17_1).f1), .int .u64 0, .int .u64 0, .int .u64 0, .slice none 0 0, .bool false]) ?_ 2 _ rfl; refine blk_put (cs := #[.int .u64 ((rd_T25 l0 x17_1).f0), .int .u64 0, .int .u64 0, .int .u64 0, .int .u64 0, .slice none 0 0, .bool false]) ?_ 1 _ rfl; refine blk_put (cs := #[.int .u64 0, .int .u64 0, .int .u64 0, .int .u64 0, .int .u64 0, .slice none 0 0, .bool false]) ?_ 0 _ rfl; (with_reducible repeat (first | refine blk_drewN ?_ _ | refine blk_drew ?_ | refine blk_alloc ?_ _)); exact BK200.out)) : gb200 ≠ gb202)); have n6_ := Aside0.mk ((by rw [hg]; exact Nat.ne_of_gt (blk_lt (g := gb200) (o := .cells #[.int .u64 ((rd_T25 l0 x17_1).f0), .int .u64 ((rd_T25 l0 x17_1).f1), .int .u64 ((rd_T25 l0 x17_1).f2), .int .u64 ((rd_T25 l0 x17_1).f3), .int .u64 ((rd_T25 l0 x17_1).f4), .slice A199_5 ((rd_T25 l0 x17_1).f5).length c199_5, .bool ((rd_T25 l0 x17_1).f6)] 25 (0, 0)) (by (with_reducible repeat (first | refine blk_drewN ?_ _ | refine blk_drew ?_ | refine blk_alloc ?_ _)); refine blk_put (cs := #[.int .u64 ((rd_T25 l0 x17_1).f0), .int .u64 ((rd_T25 l0 x17_1).f1), .int .u64 ((rd_T25 l0 x17_1).f2), .int .u64 ((rd_T25 l0 x17_1).f3), .int .u64 ((rd_T25 l0 x17_1).f4), .slice A199_5 ((rd_T25 l0 x17_1).f5).length c199_5, .bool false]) ?_ 6 _ rfl; refine blk_put (cs := #[.int .u64 ((rd_T25 l0 x17_1).f0), .int .u64 ((rd_T25 l0 x17_1).f1), .int .u64 ((rd_T25 l0 x17_1).f2), .int .u64 ((rd_T25 l0 x17_1).f3), .int .u64 ((rd_T25 l0 x17_1).f4), .slice none 0 0, .bool false]) ?_ 5 _ rfl; refine blk_put (cs := #[.int .u64 ((rd_T25 l0 x17_1).f0), .int .u64 ((rd_T25 l0 x17_1).f1), .int .u64 ((rd_T25 l0 x17_1).f2), .int .u64 ((rd_T25 l0 x17_1).f3), .int .u64 0, .slice none 0 0, .bool false]) ?_ 4 _ rfl; refine blk_put (cs := #[.int .u64 ((rd_T25 l0 x17_1).f0), .int .u64 ((rd_T25 l0 x17_1).f1), .int .u64 ((rd_T25 l0 x17_1).f2), .int .u64 0, .int .u64 0, .slice none 0 0, .bool false]) ?_ 3 _ rfl; refine blk_put (cs := #[.int .u64 ((rd_T25 l0 x17_1).f0), .int .u64 ((rd_T25 l0 x17_1).f1), .int .u64 0, .int .u64 0, .int .u64 0, .slice none 0 0, .bool false]) ?_ 2 _ rfl; refine blk_put (cs := #[.int .u64 ((rd_T25 l0 x17_1).f0), .int .u64 0, .int .u64 0, .int .u64 0, .int .u64 0, .slice none 0 0, .bool false]) ?_ 1 _ rfl; refine blk_put (cs := #[.int .u64 0, .int .u64 0, .int .u64 0, .int .u64 0, .int .u64 0, .slice none 0 0, .bool false]) ?_ 0 _ rfl; (with_reducible repeat (first | refine blk_drewN ?_ _ | refine blk_drew ?_ | refine blk_alloc ?_ _)); exact BK200.out)) : gb202 ≠ gb200)); clear BK200; clear HB; have BK200 := n0_; have HB := n1_; have BK202 := n2_; have GW202 := n3_; have GE202 := n4_; have NB200_202 := n5_; have NB202_200 := n6_; clear n0_ n1_ n2_ n3_ n4_ n5_ n6_; clear hb hbox hg; have hnb21 := NB202_200.out; have hnc21 := NB200_202.out; obtain ⟨hcz22_0, hcz22_1, hcz22_2, hcz22_3, hcz22_4, hcz22_5, hcz22_6, hfz22_0, hfz22_1, hfz22_2, hfz22_3, hfz22_4, hfz22_5, hfz22_6⟩ := cz7_ (w := w20) BK202.out; obtain ⟨hcz23_0, hcz23_1, hcz23_2, hcz23_3, hcz23_4, hcz23_5, hcz23_6, hfz23_0, hfz23_1, hfz23_2, hfz23_3, hfz23_4, hfz23_5, hfz23_6⟩ := cz7_ (w := w20) BK200.out) | ((with_reducible refine gate_tmp (t_ := 26) rfl ?_); refine goesT_ (some 29) rfl rfl Try.func26 (by kernel_rfl) rfl #[.agg #[.int .u64 ((rd_T25 l0 x17_1).f0), .int .u64 ((rd_T25 l0 x17_1).f1), .int .u64 ((rd_T25 l0 x17_1).f2), .int .u64 ((rd_T25 l0 x17_1).f3), .int .u64 ((rd_T25 l0 x17_1).f4), .slice A199_5 ((rd_T25 l0 x17_1).f5).length c199_5, .bool ((rd_T25 l0 x17_1).f6)], .agg #[.int .u64 ((rd_T25 l1 x17_1).f0), .int .u64 ((rd_T25 l1 x17_1).f1), .int .u64 ((rd_T25 l1 x17_1).f2), .int .u64 ((rd_T25 l1 x17_1).f3), .int .u64 ((rd_T25 l1 x17_1).f4), .slice A201_5 ((rd_T25 l1 x17_1).f5).length c201_5, .bool ((rd_T25 l1 x17_1).f6)]] rfl rfl (by (try simp only [List.map_toArray, List.map_cons, List.map_nil]); first | done | rfl | (simp only [List.length_drop, List.length_take]; rfl)) ?_; (with_reducible refine (channel_Same.calls k1 ((rd_T25 l0 x17_1).f0) ((rd_T25 l0 x17_1).f1) ((rd_T25 l0 x17_1).f2) ((rd_T25 l0 x17_1).f3) ((rd_T25 l0 x17_1).f4) _ _ ((rd_T25 l0 x17_1).f5) ((rd_T25 l0 x17_1).f6) ((rd_T25 l1 x17_1).f0) ((rd_T25 l1 x17_1).f1) ((rd_T25 l1 x17_1).f2) ((rd_T25 l1 x17_1).f3) ((rd_T25 l1 x17_1).f4) _ _ ((rd_T25 l1 x17_1).f5) ((rd_T25 l1 x17_1).f6) false _ ?side1 ?side2 ?side3 ?side4 A9.out).mono ?_); (case side1 => exact Kd.C_below HR199_5.out (belN HB)); (case side2 => exact HC199_5.out); (case side3 => exact Kd.C_below HR201_5.out (belN HB)); (case side4 => exact HC201_5.out); rintro e w24 ⟨rfl, hb⟩; refine ⟨_, rfl, ?_⟩; have n0_ := Aside0.mk (blk_below (g := gb200) (blkF BK200) hb); have n1_ := Aside0.mk (blk_below (g := gb202) (o := .cells #[.int .u64 ((rd_T25 l1 x17_1).f0), .int .u64 ((rd_T25 l1 x17_1).f1), .int .u64 ((rd_T25 l1 x17_1).f2), .int .u64 ((rd_T25 l1 x17_1).f3), .int .u64 ((rd_T25 l1 x17_1).f4), .slice A201_5 ((rd_T25 l1 x17_1).f5).length c201_5, .bool ((rd_T25 l1 x17_1).f6)] 25 (0, 0)) (by (with_reducible repeat (first | refine blk_drewN ?_ _ | refine blk_drew ?_ | refine blk_alloc ?_ _)); refine blk_put (cs := #[.int .u64 ((rd_T25 l1 x17_1).f0), .int .u64 ((rd_T25 l1 x17_1).f1), .int .u64 ((rd_T25 l1 x17_1).f2), .int .u64 ((rd_T25 l1 x17_1).f3), .int .u64 ((rd_T25 l1 x17_1).f4), .slice A201_5 ((rd_T25 l1 x17_1).f5).length c201_5, .bool false]) ?_ 6 _ rfl; refine blk_put (cs := #[.int .u64 ((rd_T25 l1 x17_1).f0), .int .u64 ((rd_T25 l1 x17_1).f1), .int .u64 ((rd_T25 l1 x17_1).f2), .int .u64 ((rd_T25 l1 x17_1).f3), .int .u64 ((rd_T25 l1 x17_1).f4), .slice none 0 0, .bool false]) ?_ 5 _ rfl; refine blk_put (cs := #[.int .u64 ((rd_T25 l1 x17_1).f0), .int .u64 ((rd_T25 l1 x17_1).f1), .int .u64 ((rd_T25 l1 x17_1).f2), .int .u64 ((rd_T25 l1 x17_1).f3), .int .u64 0, .slice none 0 0, .bool false]) ?_ 4 _ rfl; refine blk_put (cs := #[.int .u64 ((rd_T25 l1 x17_1).f0), .int .u64 ((rd_T25 l1 x17_1).f1), .int .u64 ((rd_T25 l1 x17_1).f2), .int .u64 0, .int .u64 0, .slice none 0 0, .bool false]) ?_ 3 _ rfl; refine blk_put (cs := #[.int .u64 ((rd_T25 l1 x17_1).f0), .int .u64 ((rd_T25 l1 x17_1).f1), .int .u64 0, .int .u64 0, .int .u64 0, .slice none 0 0, .bool false]) ?_ 2 _ rfl; refine blk_put (cs := #[.int .u64 ((rd_T25 l1 x17_1).f0), .int .u64 0, .int .u64 0, .int .u64 0, .int .u64 0, .slice none 0 0, .bool false]) ?_ 1 _ rfl; refine blk_put (cs := #[.int .u64 0, .int .u64 0, .int .u64 0, .int .u64 0, .int .u64 0, .slice none 0 0, .bool false]) ?_ 0 _ rfl; (with_reducible repeat (first | refine blk_drewN ?_ _ | refine blk_drew ?_ | refine blk_alloc ?_ _)); exact BK202.out) hb); have n2_ := Aside0.mk (below_step (belN HB) hb); clear BK200; clear BK202; clear HB; have BK200 := n0_; have BK202 := n1_; have HB := n2_; clear n0_ n1_ n2_; (try clear hb); (try clear hb2); (try clear hk); (try clear hi)))
         go_ret
         exact ⟨by first | rfl | (simp [errW_none, errW_some] <;> rfl) | (simp [*, errW_none, errW_some] <;> rfl), by repeat (first | (with_reducible first | exact HB.out | apply below_alloc | apply pw_below_drewN | apply below_drew1 | refine below_set ?_ GE200.out | refine below_set ?_ GE202.out) | exact HB.out)⟩
       ·rw [if_neg c8] at H
        exact absurd H (by simp)
      ·rw [if_neg c7] at H
       exact absurd H (by simp)
     ·rw [if_neg c6] at H
      exact absurd H (by simp)
    ·rw [if_neg c5] at H
     have c5b0 : decide (x17_1 < (l0.length : Int)) = false := decide_eq_false c5
     clear c5
     obtain rfl := Option.some.inj H
     go_wp2
     go_ret
     exact ⟨by first | rfl | (simp [errW_none, errW_some] <;> rfl) | (simp [*, errW_none, errW_some] <;> rfl), by repeat (first | (with_reducible first | exact HB.out | apply below_alloc | apply pw_below_drewN | apply below_drew1) | exact HB.out)⟩
 ·rw [if_neg c4] at H
  have c4b0 : ((l0.length : Int) == (l1.length : Int)) = false := beq_eq_false_iff_ne.mpr c4
  have c4b1 : ((l0.length : Int) != (l1.length : Int)) = true := bne_iff_ne.mpr c4
  have c4b2 : (l0.length == l1.length) = false := by first | simpa using c4 | (simp at c4 ⊢; omega)
  obtain rfl := Option.some.inj H
  go_enter Try.func105, Try.ntmps105
  go_wp2
  go_ret
  exact ⟨by first | rfl | (simp [errW_none, errW_some] <;> rfl) | (simp [*, errW_none, errW_some] <;> rfl), by repeat (first | (with_reducible first | exact HB.out | apply below_alloc | apply pw_below_drewN | apply below_drew1) | exact HB.out)⟩

/-! ### ledger_Same: function 48 -/
def ledger_Same.f (k : Nat) (l0 : List (S25)) (l1 : List (S25)) : Option (Bool) := (slices_EqualFunc_Channel_at_channel_Same.f k l0 l1).bind fun t204 => (some t204)
theorem ledger_Same.mono : ∀ a0 a1 k, LeO (ledger_Same.f k a0 a1) (ledger_Same.f (k + 1) a0 a1) := by
  intro a0 a1 k
  unfold ledger_Same.f
  repeat' first
      | (with_reducible exact slices_EqualFunc_Channel_at_channel_Same.mono _ _ _)
      | (with_reducible exact LeO.refl _)
      | (with_reducible exact LeO.none _)
      | (with_reducible refine LeO.ite ?_ ?_)
      | (with_reducible refine LeO.bind ?_ (fun _ => ?_))
      | exact slices_EqualFunc_Channel_at_channel_Same.mono _ _ _
      | exact LeO.none _
      | refine LeO.ite ?_ ?_
      | refine LeO.bind ?_ (fun _ => ?_)
set_option maxHeartbeats 8000000 in
set_option maxRecDepth 100000 in
theorem ledger_Same.calls (k : Nat) (A0 : Option Addr) (c0 : Nat) (l0 : List (S25)) (A1 : Option Addr) (c1 : Nat) (l1 : List (S25)) (r : Bool) (w : World) (hr0 : Kd.C k25 w A0 l0.length l0) (hc0 : l0.length ≤ c0) (hr1 : Kd.C k25 w A1 l1.length l1) (hc1 : l1.length ≤ c1) (h : ledger_Same.f k l0 l1 = some r) :
    Calls Try.prog 48 #[.slice A0 l0.length c0, .slice A1 l1.length c1] w fun e w' => e = .returned (.bool r) ∧ Below w.heap.size w w' := by
  have HR0 := Aside0.mk hr0
  have HC0 := Aside0.mk hc0
  clear hr0 hc0
  have HR1 := Aside0.mk hr1
  have HC1 := Aside0.mk hc1
  clear hr1 hc1
  have HB := Aside0.mk (Below.refl w.heap.size w)
  have H : ((slices_EqualFunc_Channel_at_channel_Same.f k l0 l1).bind fun t204 => (some t204)) = some r := h
  clear h
  replace H := Option.bind_eq_some_iff.mp H
  obtain ⟨t204, A30, H⟩ := H
  replace H : (some t204) = some r := H
  have A3 := Aside0.mk A30
  clear A30
  obtain rfl := Option.some.inj H
  go_enter Try.func48, Try.ntmps48
  go_wp2_with (first | ((with_reducible refine gate_callee (f := 105) rfl ?_); refine goesL_ (some 7) rfl rfl Try.func105 (by kernel_rfl) rfl #[.slice A0 l0.length c0, .slice A1 l1.length c1, .func (.func 26) #[] #[]] rfl (by (try simp only [List.map_toArray, List.map_cons, List.map_nil]); first | done | rfl | (simp only [List.length_drop, List.length_take]; rfl)) ?_; (with_reducible refine (slices_EqualFunc_Channel_at_channel_Same.calls k _ _ l0 _ _ l1  t204 _ ?side1 ?side2 ?side3 ?side4 A3.out).mono ?_); (case side1 => repeat (first | exact HR0.out | (with_reducible refine Kd.C_alloc ?_ _) | (with_reducible refine Kd.C_drewN ?_ _) | (with_reducible refine Kd.C_drew ?_))); (case side2 => exact HC0.out); (case side3 => repeat (first | exact HR1.out | (with_reducible refine Kd.C_alloc ?_ _) | (with_reducible refine Kd.C_drewN ?_ _) | (with_reducible refine Kd.C_drew ?_))); (case side4 => exact HC1.out); rintro e w4 ⟨rfl, hb⟩; refine ⟨_, rfl, ?_⟩; have n0_ := Aside0.mk (below_step (belN HB) hb); clear HB; have HB := n0_; clear n0_; (try clear hb); (try clear hb2); (try clear hk); (try clear hi)))
  go_ret
  exact ⟨by first | rfl | (simp [errW_none, errW_some] <;> rfl) | (simp [*, errW_none, errW_some] <;> rfl), by repeat (first | (with_reducible first | exact HB.out | apply below_alloc | apply pw_below_drewN | apply below_drew1) | exact HB.out)⟩

/-! ### damsonref09_Copy: function 38 -/
def damsonref09_Copy.f (a0_0 : Int) (a0_1 : Int) (a0_2 : Int) (a0_3 : Int) (a0_4 : Int) (l0_5 : List (S44)) (a0_6 : Bool) : Option (Int × Int × Int × Int × Int × (List (S44)) × Bool) := if ([] : List (S44)).length + l0_5.length < 8796093022208 then (some (a0_0, a0_1, a0_2, a0_3, a0_4, (([] : List (S44)) ++ l0_5), a0_6)) else (none)
set_option maxHeartbeats 8000000 in
set_option maxRecDepth 100000 in
theorem damsonref09_Copy.calls (a0_0 : Int) (a0_1 : Int) (a0_2 : Int) (a0_3 : Int) (a0_4 : Int) (A0_5 : Option Addr) (c0_5 : Nat) (l0_5 : List (S44)) (a0_6 : Bool) (r1 : Int) (r2 : Int) (r3 : Int) (r4 : Int) (r5 : Int) (r6 : List (S44)) (r7 : Bool) (w : World) (hr0_5 : Kd.C k44 w A0_5 l0_5.length l0_5) (hc0_5 : l0_5.length ≤ c0_5) (h : damsonref09_Copy.f a0_0 a0_1 a0_2 a0_3 a0_4 l0_5 a0_6 = some (r1, r2, r3, r4, r5, r6, r7)) :
    Calls Try.prog 38 #[.agg #[.int .u64 a0_0, .int .u64 a0_1, .int .u64 a0_2, .int .u64 a0_3, .int .u64 a0_4, .slice A0_5 l0_5.length c0_5, .bool a0_6]] w fun e w' => ∃ v5_ : Value, e = .returned (.agg #[.int .u64 r1, .int .u64 r2, .int .u64 r3, .int .u64 r4, .int .u64 r5, v5_, .bool r7]) ∧ Kd.R k44 44 w' w.heap.size (fun _ => True) v5_ r6 ∧ Below w.heap.size w w' := by
  have hu25 := Try.underlying25
  have HR0_5 := Aside0.mk hr0_5
  have HC0_5 := Aside0.mk hc0_5
  clear hr0_5 hc0_5
  have HB := Aside0.mk (Below.refl w.heap.size w)
  have H : (if ([] : List (S44)).length + l0_5.length < 8796093022208 then (some (a0_0, a0_1, a0_2, a0_3, a0_4, (([] : List (S44)) ++ l0_5), a0_6)) else (none)) = some (r1, r2, r3, r4, r5, r6, r7) := h
  clear h
  by_cases c2 : ([] : List (S44)).length + l0_5.length < 8796093022208
  · rw [if_pos c2] at H
    have LMc2 := Aside0.mk c2
    clear c2
    obtain ⟨y207, hy207⟩ : ∃ y_ : List (S44), y_ = (([] : List (S44)) ++ l0_5) := ⟨_, rfl⟩
    replace H : (some (a0_0, a0_1, a0_2, a0_3, a0_4, y207, a0_6)) = some (r1, r2, r3, r4, r5, r6, r7) := by first | (rw [hy207]; with_reducible exact H) | (have H2_ := (Option.bind_some _ _).symm.trans H; rw [hy207]; with_reducible exact H2_) | (have H2_ := (Option.bind_some _ _).symm.trans H; with_reducible exact H2_) | with_reducible exact H | (rw [hy207]; exact H) | exact H
    have Ny207 := Aside0.mk hy207
    clear hy207
    simp only [Option.some.injEq, Prod.mk.injEq] at H
    obtain ⟨rfl, rfl, rfl, rfl, rfl, rfl, rfl⟩ := H
    go_enter Try.func38, Try.ntmps38
    go_wp2_with (first | ((with_reducible refine gate_dst (N := 1) rfl ?_); refine box_event ?hg (N := 1) ?hd (cs := #[.int .u64 a0_0, .int .u64 a0_1, .int .u64 a0_2, .int .u64 a0_3, .int .u64 a0_4, .slice A0_5 l0_5.length c0_5, .bool a0_6]) (t := 25) ?hr ?_; (case hd => rfl); (case hg => rfl); (case hr => first | (go_simp; done) | (go_simp; rfl)); intro gb205 hg w3 hbox hb; have n0_ := Aside0.mk (below_step (belN HB) hb); have n1_ := Aside0.mk (hbox); have n2_ := Aside0.mk ((by rw [hg]; exact (below_size (belN HB)) : w.heap.size ≤ gb205)); have n3_ := Aside0.mk ((by rw [hg]; exact (below_size (belN HB)) : w.heap.size ≤ gb205)); clear HB; have HB := n0_; have BK205 := n1_; have GW205 := n2_; have GE205 := n3_; clear n0_ n1_ n2_ n3_; clear hb hbox hg) | ((with_reducible refine gate_dst (N := 2) rfl ?_); refine box_event ?hg (N := 2) ?hd (cs := #[.int .u64 0, .int .u64 0, .int .u64 0, .int .u64 0, .int .u64 0, .slice none 0 0, .bool false]) (t := 25) ?hr ?_; (case hd => rfl); (case hg => rfl); (case hr => first | (go_simp; done) | (go_simp; rfl)); intro gb206 hg w4 hbox hb; have n0_ := Aside0.mk (blk_below (g := gb205) (blkN BK205) hb); have n1_ := Aside0.mk (below_step (belN HB) hb); have n2_ := Aside0.mk (hbox); have n3_ := Aside0.mk ((by rw [hg]; exact (below_size (belN HB)) : w.heap.size ≤ gb206)); have n4_ := Aside0.mk ((by rw [hg]; exact (below_size (belN HB)) : w.heap.size ≤ gb206)); have n5_ := Aside0.mk ((by rw [hg]; exact Nat.ne_of_lt (blk_lt (g := gb205) (blkN BK205)) : gb205 ≠ gb206)); have n6_ := Aside0.mk ((by rw [hg]; exact Nat.ne_of_gt (blk_lt (g := gb205) (blkN BK205)) : gb206 ≠ gb205)); clear BK205; clear HB; have BK205 := n0_; have HB := n1_; have BK206 := n2_; have GW206 := n3_; have GE206 := n4_; have NB205_206 := n5_; have NB206_205 := n6_; clear n0_ n1_ n2_ n3_ n4_ n5_ n6_; clear hb hbox hg; have hnb5 := NB205_206.out; have hnc5 := NB206_205.out; obtain ⟨hcz6_0, hcz6_1, hcz6_2, hcz6_3, hcz6_4, hcz6_5, hcz6_6, hfz6_0, hfz6_1, hfz6_2, hfz6_3, hfz6_4, hfz6_5, hfz6_6⟩ := cz7_ (w := w4) BK205.out) | ((with_reducible refine gate_builtin (b := .append) (xs := #[.const (.slice none 0 0), .tmp 4]) rfl ?_); at_builtin; refine Kd.R_append_rows k44 (w0 := w) w.heap.size rfl (.const (.slice none 0 0)) (.tmp 4) 23 44 (.agg #[(.int .u64 0), (.int .u64 0)]) 16 rfl Try.underlying23 info44 rfl (by decide) (by omega) (.slice none 0 0) ([] : List (S44)) l0_5 _ _ _ (fun _ => True) (fun _ => False) rfl rfl ?aO ?aR (fun _ _ h => h) (fun _ h => h.elim) ?aF ?aB ?aS ?aL ?_; (case aR => repeat (first | exact (Kd.C_below HR0_5.out HB.out) | (with_reducible refine Kd.C_alloc ?_ _) | (with_reducible refine Kd.C_drewN ?_ _) | (with_reducible refine Kd.C_drew ?_))); (case aB => exact (belN HB)); (case aF => exact (fun _ _ => trivial)); (case aO => exact ((Kd.R_nil _ _ _ _ (fun _ => True)))); (case aS => exact (below_size (belN HB))); (case aL => have := LMc2.out; omega); intro v208 w7 ho hb hg hat; rw [← Ny207.out] at ho; have n0_ := Aside0.mk (blk_grown (g := gb205) (blkN BK205) hg (by simp [Value.ownBlock])); have n1_ := Aside0.mk (blk_grown (g := gb206) (blkN BK206) hg (by simp [Value.ownBlock])); have n2_ := Aside0.mk (hb); have n3_ := Aside0.mk (ho); clear BK205; clear BK206; clear HB; have BK205 := n0_; have BK206 := n1_; have HB := n2_; have HO209 := n3_; clear n0_ n1_ n2_ n3_; clear ho hb hg hat; obtain ⟨Ao8, co8, eo8⟩ := Kd.R_slice HO209.out; subst eo8; obtain ⟨hcz9_0, hcz9_1, hcz9_2, hcz9_3, hcz9_4, hcz9_5, hcz9_6, hfz9_0, hfz9_1, hfz9_2, hfz9_3, hfz9_4, hfz9_5, hfz9_6⟩ := cz7_ (w := w7) BK205.out; obtain ⟨hcz10_0, hcz10_1, hcz10_2, hcz10_3, hcz10_4, hcz10_5, hcz10_6, hfz10_0, hfz10_1, hfz10_2, hfz10_3, hfz10_4, hfz10_5, hfz10_6⟩ := cz7_ (w := w7) BK206.out))
    refine bodyPost_ret (results_cell_row rfl _ _ gb206 25 #[.int .u64 a0_0, .int .u64 a0_1, .int .u64 a0_2, .int .u64 a0_3, .int .u64 a0_4, .slice Ao8 y207.length co8, .bool a0_6] (0, 0) _ rfl (by (with_reducible repeat (first | refine blk_drewN ?_ _ | refine blk_drew ?_ | refine blk_alloc ?_ _)); refine blk_put (cs := #[.int .u64 a0_0, .int .u64 a0_1, .int .u64 a0_2, .int .u64 a0_3, .int .u64 a0_4, .slice Ao8 y207.length co8, .bool false]) ?_ 6 _ rfl; refine blk_put (cs := #[.int .u64 a0_0, .int .u64 a0_1, .int .u64 a0_2, .int .u64 a0_3, .int .u64 a0_4, .slice none 0 0, .bool false]) ?_ 5 _ rfl; refine blk_put (cs := #[.int .u64 a0_0, .int .u64 a0_1, .int .u64 a0_2, .int .u64 a0_3, .int .u64 0, .slice none 0 0, .bool false]) ?_ 4 _ rfl; refine blk_put (cs := #[.int .u64 a0_0, .int .u64 a0_1, .int .u64 a0_2, .int .u64 0, .int .u64 0, .slice none 0 0, .bool false]) ?_ 3 _ rfl; refine blk_put (cs := #[.int .u64 a0_0, .int .u64 a0_1, .int .u64 0, .int .u64 0, .int .u64 0, .slice none 0 0, .bool false]) ?_ 2 _ rfl; refine blk_put (cs := #[.int .u64 a0_0, .int .u64 0, .int .u64 0, .int .u64 0, .int .u64 0, .slice none 0 0, .bool false]) ?_ 1 _ rfl; refine blk_put (cs := #[.int .u64 0, .int .u64 0, .int .u64 0, .int .u64 0, .int .u64 0, .slice none 0 0, .bool false]) ?_ 0 _ rfl; (with_reducible repeat (first | refine blk_drewN ?_ _ | refine blk_drew ?_ | refine blk_alloc ?_ _)); refine blk_far ?_ NB206_205.out _; (with_reducible repeat (first | refine blk_drewN ?_ _ | refine blk_drew ?_ | refine blk_alloc ?_ _)); exact BK206.out) Try.underlying25 rfl (by kernel_rfl)) rfl ?_
    exact ⟨_, by first | rfl | (simp [errW_none, errW_some] <;> rfl) | (simp [*, errW_none, errW_some] <;> rfl), by (with_reducible repeat (first | apply Kd.R_alloc | apply Kd.R_drewN | apply Kd.R_drew)); exact Kd.R_mono (Kd.R_far (p := ⟨gb206, 6, none⟩) (Kd.R_far (p := ⟨gb206, 5, none⟩) (Kd.R_far (p := ⟨gb206, 4, none⟩) (Kd.R_far (p := ⟨gb206, 3, none⟩) (Kd.R_far (p := ⟨gb206, 2, none⟩) (Kd.R_far (p := ⟨gb206, 1, none⟩) (Kd.R_far (p := ⟨gb206, 0, none⟩) (Kd.R_far (p := ⟨gb205, 5, none⟩) (Kd.R_types (Kd.R_types HO209.out BK205.out (by decide)) BK206.out (by decide)) (fun _ hk => hk.1.2) (.slice Ao8 y207.length co8)) (fun _ hk => hk.2) (.int .u64 a0_0)) (fun _ hk => hk.2) (.int .u64 a0_1)) (fun _ hk => hk.2) (.int .u64 a0_2)) (fun _ hk => hk.2) (.int .u64 a0_3)) (fun _ hk => hk.2) (.int .u64 a0_4)) (fun _ hk => hk.2) (.slice Ao8 y207.length co8)) (fun _ hk => hk.2) (.bool a0_6)) (fun _ hk => trivial), by repeat (first | (with_reducible first | exact HB.out | apply below_alloc | apply pw_below_drewN | apply below_drew1 | refine below_set ?_ GE205.out | refine below_set ?_ GE206.out) | exact HB.out)⟩
  · rw [if_neg c2] at H
    exact absurd H (by simp)

/-! ### damsonref04_Check: function 96 -/
def damsonref04_Check.l0 : Nat → List Int → Int → Int → Option (Int)
  | 0, _, _, _ => none
  | k + 1, x5, x6, x7 => if x7 < x6 then (if 0 ≤ x7 then (if x7 < (x5.length : Int) then (if (rd x5 x7) > 4611686018427387904 then (some 1) else (damsonref04_Check.l0 k x5 x6 (wrap64 (x7 + 1)))) else (none)) else (none)) else (some 0)
def damsonref04_Check.f (k : Nat) (l0 : List Int) : Option (Int) := damsonref04_Check.l0 k l0 (l0.length : Int) 0
theorem damsonref04_Check.mono_l : ∀ k, (∀ y0 y1 y2, LeO (damsonref04_Check.l0 k y0 y1 y2) (damsonref04_Check.l0 (k + 1) y0 y1 y2))
  | 0 => fun _ _ _ r h => by simp [damsonref04_Check.l0] at h
  | k + 1 => by
    have ih0 := damsonref04_Check.mono_l k
    · intro y0 y1 y2
      unfold damsonref04_Check.l0
      repeat' first
      | (with_reducible exact ih0 _ _ _)
      | (with_reducible exact LeO.refl _)
      | (with_reducible exact LeO.none _)
      | (with_reducible refine LeO.ite ?_ ?_)
      | (with_reducible refine LeO.bind ?_ (fun _ => ?_))
      | exact ih0 _ _ _
      | exact LeO.none _
      | refine LeO.ite ?_ ?_
      | refine LeO.bind ?_ (fun _ => ?_)
theorem damsonref04_Check.mono : ∀ a0 k, LeO (damsonref04_Check.f k a0) (damsonref04_Check.f (k + 1) a0) := by
  intro a0 k
  have ih0 := damsonref04_Check.mono_l k
  unfold damsonref04_Check.f
  repeat' first
      | (with_reducible exact ih0 _ _ _)
      | (with_reducible exact LeO.refl _)
      | (with_reducible exact LeO.none _)
      | (with_reducible refine LeO.ite ?_ ?_)
      | (with_reducible refine LeO.bind ?_ (fun _ => ?_))
      | exact ih0 _ _ _
      | exact LeO.none _
      | refine LeO.ite ?_ ?_
      | refine LeO.bind ?_ (fun _ => ?_)
set_option maxHeartbeats 8000000 in
set_option maxRecDepth 100000 in
theorem damsonref04_Check.calls (k : Nat) (A0 : Option Addr) (c0 : Nat) (l0 : List Int) (r : Int) (w : World) (hr0 : Kd.C (Kd.int .u64) w A0 l0.length l0) (hc0 : l0.length ≤ c0) (h : damsonref04_Check.f k l0 = some r) :
    Calls Try.prog 96 #[.slice A0 l0.length c0] w fun e w' => e = .returned (.int .i64 r) ∧ Drawn0 w w' := by
  have HR0 := Aside0.mk hr0
  have HC0 := Aside0.mk hc0
  clear hr0 hc0
  have H : (damsonref04_Check.l0 k l0 (l0.length : Int) 0) = some r := h
  clear h
  have H' := Aside0.mk H
  clear H
  go_enter Try.func96, Try.ntmps96
  go_wp2
  go_loopg [7] k (fun kq v7 w' => ∃ (x7_1 : Int), v7 = .int .i64 x7_1 ∧ Aside0 (damsonref04_Check.l0 kq l0 (l0.length : Int) x7_1 = some r) ∧ Aside0 (kq ≤ k) ∧ Drawn0 w w')
  case atStart => exact ⟨(0), (by first | rfl | (simp; done) | (simp [*]; done)), H', ⟨Nat.le_refl _⟩, by repeat (first | exact Drawn0.refl _ | apply Drawn0.step)⟩
  case round =>
    clear H'
    obtain ⟨x7_1, rfl, HA, HK1, ⟨m1, rfl⟩⟩ := hrel
    cases gk with
    | zero => exact absurd HA.out (by simp [damsonref04_Check.l0])
    | succ k1 =>
      have H := HA.out
      clear HA
      simp only [damsonref04_Check.l0] at H
      by_cases c2 : x7_1 < (l0.length : Int)
      · rw [if_pos c2] at H
        have c2b0 : decide (x7_1 < (l0.length : Int)) = true := decide_eq_true c2
        clear c2
        by_cases c3 : 0 ≤ x7_1
        · rw [if_pos c3] at H
          have c3b0 : decide (0 ≤ x7_1) = true := decide_eq_true c3
          clear c3
          by_cases c4 : x7_1 < (l0.length : Int)
          · rw [if_pos c4] at H
            have c4b0 : decide (x7_1 < (l0.length : Int)) = true := decide_eq_true c4
            clear c4
            by_cases c5 : (rd l0 x7_1) > 4611686018427387904
            · rw [if_pos c5] at H
              have c5b0 : decide (4611686018427387904 < (rd l0 x7_1)) = true := decide_eq_true c5
              clear c5
              obtain rfl := Option.some.inj H
              have p210 : 0 ≤ (x7_1 : Int) := of_decide_eq_true (by first | (with_reducible assumption) | assumption)
              have q210 : x7_1 < (l0.length : Int) := of_decide_eq_true (by first | (with_reducible assumption) | assumption)
              obtain ⟨ad210, e210, hx210_0⟩ := Kd.at_int HR0.out x7_1 p210 q210
              cases e210
              replace p210 := eq_true p210
              replace q210 := eq_true q210
              go_wp2
              go_ret
              exact ⟨by first | rfl | (simp; done) | (simp [*]; done), by repeat (first | exact Drawn0.refl _ | apply Drawn0.step)⟩
            · rw [if_neg c5] at H
              have c5b0 : decide (4611686018427387904 < (rd l0 x7_1)) = false := decide_eq_false c5
              clear c5
              have H' := Aside0.mk H
              clear H
              have p210 : 0 ≤ (x7_1 : Int) := of_decide_eq_true (by first | (with_reducible assumption) | assumption)
              have q210 : x7_1 < (l0.length : Int) := of_decide_eq_true (by first | (with_reducible assumption) | assumption)
              obtain ⟨ad210, e210, hx210_0⟩ := Kd.at_int HR0.out x7_1 p210 q210
              cases e210
              replace p210 := eq_true p210
              replace q210 := eq_true q210
              go_wp2
              go_roundg k1
              case measure => have := HK1.out; omega
              case rel => exact ⟨(wrap64 (x7_1 + 1)), (by first | rfl | (simp; done) | (simp [*]; done)), H', ⟨by have := HK1.out; omega⟩, by repeat (first | exact Drawn0.refl _ | apply Drawn0.step)⟩
          · rw [if_neg c4] at H
            exact absurd H (by simp)
        · rw [if_neg c3] at H
          exact absurd H (by simp)
      · rw [if_neg c2] at H
        have c2b0 : decide (x7_1 < (l0.length : Int)) = false := decide_eq_false c2
        clear c2
        obtain rfl := Option.some.inj H
        go_wp2
        go_ret
        exact ⟨by first | rfl | (simp; done) | (simp [*]; done), by repeat (first | exact Drawn0.refl _ | apply Drawn0.step)⟩

/-! ### damsonref04_Add: function 94 -/
def damsonref04_Add.l0 : Nat → Int → List Int → Int → Int → Option (Int × Int)
  | 0, _, _, _, _ => none
  | k + 1, x4, x10, x11, x12 => if x12 < x11 then (if 0 ≤ x12 then (if x12 < (x10.length : Int) then (if (rd x10 x12) > (IntKind.u64.wrap (4611686018427387904 - x4)) then (some (0, 8)) else (damsonref04_Add.l0 k (IntKind.u64.wrap (x4 + (rd x10 x12))) x10 x11 (wrap64 (x12 + 1)))) else (none)) else (none)) else (some (x4, 0))
def damsonref04_Add.f (k : Nat) (l0 : List Int) : Option (Int × Int) := (damsonref04_Check.f k l0).bind fun t211 => (if t211 = 0 then (damsonref04_Add.l0 k 0 l0 (l0.length : Int) 0) else (some (0, 1)))
theorem damsonref04_Add.mono_l : ∀ k, (∀ y0 y1 y2 y3, LeO (damsonref04_Add.l0 k y0 y1 y2 y3) (damsonref04_Add.l0 (k + 1) y0 y1 y2 y3))
  | 0 => fun _ _ _ _ r h => by simp [damsonref04_Add.l0] at h
  | k + 1 => by
    have ih0 := damsonref04_Add.mono_l k
    · intro y0 y1 y2 y3
      unfold damsonref04_Add.l0
      repeat' first
      | (with_reducible exact ih0 _ _ _ _)
      | (with_reducible exact damsonref04_Check.mono _ _)
      | (with_reducible exact LeO.refl _)
      | (with_reducible exact LeO.none _)
      | (with_reducible refine LeO.ite ?_ ?_)
      | (with_reducible refine LeO.bind ?_ (fun _ => ?_))
      | exact ih0 _ _ _ _
      | exact damsonref04_Check.mono _ _
      | exact LeO.none _
      | refine LeO.ite ?_ ?_
      | refine LeO.bind ?_ (fun _ => ?_)
theorem damsonref04_Add.mono : ∀ a0 k, LeO (damsonref04_Add.f k a0) (damsonref04_Add.f (k + 1) a0) := by
  intro a0 k
  have ih0 := damsonref04_Add.mono_l k
  unfold damsonref04_Add.f
  repeat' first
      | (with_reducible exact ih0 _ _ _ _)
      | (with_reducible exact damsonref04_Check.mono _ _)
      | (with_reducible exact LeO.refl _)
      | (with_reducible exact LeO.none _)
      | (with_reducible refine LeO.ite ?_ ?_)
      | (with_reducible refine LeO.bind ?_ (fun _ => ?_))
      | exact ih0 _ _ _ _
      | exact damsonref04_Check.mono _ _
      | exact LeO.none _
      | refine LeO.ite ?_ ?_
      | refine LeO.bind ?_ (fun _ => ?_)
set_option maxHeartbeats 8000000 in
set_option maxRecDepth 100000 in
theorem damsonref04_Add.calls (k : Nat) (A0 : Option Addr) (c0 : Nat) (l0 : List Int) (r1 : Int) (r2 : Int) (w : World) (hr0 : Kd.C (Kd.int .u64) w A0 l0.length l0) (hc0 : l0.length ≤ c0) (h : damsonref04_Add.f k l0 = some (r1, r2)) :
    Calls Try.prog 94 #[.slice A0 l0.length c0] w fun e w' => e = .returned (.tuple #[.int .u64 r1, .int .i64 r2]) ∧ Drawn0 w w' := by
  have HR0 := Aside0.mk hr0
  have HC0 := Aside0.mk hc0
  clear hr0 hc0
  have H : ((damsonref04_Check.f k l0).bind fun t211 => (if t211 = 0 then (damsonref04_Add.l0 k 0 l0 (l0.length : Int) 0) else (some (0, 1)))) = some (r1, r2) := h
  clear h
  replace H := Option.bind_eq_some_iff.mp H
  obtain ⟨t211, A20, H⟩ := H
  replace H : (if t211 = 0 then (damsonref04_Add.l0 k 0 l0 (l0.length : Int) 0) else (some (0, 1))) = some (r1, r2) := H
  have A2 := Aside0.mk A20
  clear A20
  by_cases c3 : t211 = 0
  · rw [if_pos c3] at H
    have c3b0 : (t211 == 0) = true := beq_iff_eq.mpr c3
    have c3b1 : (t211 != 0) = false := bne_eq_false_iff_eq.mpr c3
    clear c3
    have H' := Aside0.mk H
    clear H
    go_enter Try.func94, Try.ntmps94
    go_wp2_with (first | ((with_reducible refine gate_callee (f := 96) rfl ?_); refine goesL_ (some 8) rfl rfl Try.func96 (by kernel_rfl) rfl #[.slice A0 l0.length c0] rfl (by (try simp only [List.map_toArray, List.map_cons, List.map_nil]); first | done | rfl | (simp only [List.length_drop, List.length_take]; rfl)) ?_; (with_reducible refine (damsonref04_Check.calls k _ _ l0 t211 _ ?side1 ?side2 A2.out).mono ?_); (case side1 => repeat (first | exact HR0.out | (with_reducible refine Kd.C_alloc ?_ _) | (with_reducible refine Kd.C_drewN ?_ _) | (with_reducible refine Kd.C_drew ?_))); (case side2 => exact HC0.out); rintro e w' ⟨rfl, ⟨nd, rfl⟩⟩; refine ⟨_, rfl, ?_⟩))
    go_loopg [4, 12] k (fun kq v4 v12 w' => ∃ (x4_1 : Int) (x12_1 : Int), v4 = .int .u64 x4_1 ∧ v12 = .int .i64 x12_1 ∧ Aside0 (damsonref04_Add.l0 kq x4_1 l0 (l0.length : Int) x12_1 = some (r1, r2)) ∧ Aside0 (kq ≤ k) ∧ Drawn0 w w')
    case atStart => exact ⟨(0), (0), (by first | rfl | (simp; done) | (simp [*]; done)), (by first | rfl | (simp; done) | (simp [*]; done)), H', ⟨Nat.le_refl _⟩, by repeat (first | exact Drawn0.refl _ | apply Drawn0.step)⟩
    case round =>
      clear H'
      try clear p2
      try clear c3
      try clear c3b0
      try clear c3b1
      obtain ⟨x4_1, x12_1, rfl, rfl, HA, HK1, ⟨m1, rfl⟩⟩ := hrel
      cases gk with
      | zero => exact absurd HA.out (by simp [damsonref04_Add.l0])
      | succ k1 =>
        have H := HA.out
        clear HA
        simp only [damsonref04_Add.l0] at H
        by_cases c4 : x12_1 < (l0.length : Int)
        · rw [if_pos c4] at H
          have c4b0 : decide (x12_1 < (l0.length : Int)) = true := decide_eq_true c4
          clear c4
          by_cases c5 : 0 ≤ x12_1
          · rw [if_pos c5] at H
            have c5b0 : decide (0 ≤ x12_1) = true := decide_eq_true c5
            clear c5
            by_cases c6 : x12_1 < (l0.length : Int)
            · rw [if_pos c6] at H
              have c6b0 : decide (x12_1 < (l0.length : Int)) = true := decide_eq_true c6
              clear c6
              by_cases c7 : (rd l0 x12_1) > (IntKind.u64.wrap (4611686018427387904 - x4_1))
              · rw [if_pos c7] at H
                have c7b0 : decide ((IntKind.u64.wrap (4611686018427387904 - x4_1)) < (rd l0 x12_1)) = true := decide_eq_true c7
                clear c7
                simp only [Option.some.injEq, Prod.mk.injEq] at H
                obtain ⟨rfl, rfl⟩ := H
                have p212 : 0 ≤ (x12_1 : Int) := of_decide_eq_true (by first | (with_reducible assumption) | assumption)
                have q212 : x12_1 < (l0.length : Int) := of_decide_eq_true (by first | (with_reducible assumption) | assumption)
                obtain ⟨ad212, e212, hx212_0⟩ := Kd.at_int HR0.out x12_1 p212 q212
                cases e212
                replace p212 := eq_true p212
                replace q212 := eq_true q212
                go_wp2
                go_ret2
                exact ⟨by first | rfl | (simp; done) | (simp [*]; done), by repeat (first | exact Drawn0.refl _ | apply Drawn0.step)⟩
              · rw [if_neg c7] at H
                have c7b0 : decide ((IntKind.u64.wrap (4611686018427387904 - x4_1)) < (rd l0 x12_1)) = false := decide_eq_false c7
                clear c7
                have H' := Aside0.mk H
                clear H
                have p212 : 0 ≤ (x12_1 : Int) := of_decide_eq_true (by first | (with_reducible assumption) | assumption)
                have q212 : x12_1 < (l0.length : Int) := of_decide_eq_true (by first | (with_reducible assumption) | assumption)
                obtain ⟨ad212, e212, hx212_0⟩ := Kd.at_int HR0.out x12_1 p212 q212
                cases e212
                replace p212 := eq_true p212
                replace q212 := eq_true q212
                go_wp2
                go_roundg k1
                case measure => have := HK1.out; omega
                case rel => exact ⟨(IntKind.u64.wrap (x4_1 + (rd l0 x12_1))), (wrap64 (x12_1 + 1)), (by first | rfl | (simp; done) | (simp [*]; done)), (by first | rfl | (simp; done) | (simp [*]; done)), H', ⟨by have := HK1.out; omega⟩, by repeat (first | exact Drawn0.refl _ | apply Drawn0.step)⟩
            · rw [if_neg c6] at H
              exact absurd H (by simp)
          · rw [if_neg c5] at H
            exact absurd H (by simp)
        · rw [if_neg c4] at H
          have c4b0 : decide (x12_1 < (l0.length : Int)) = false := decide_eq_false c4
          clear c4
          simp only [Option.some.injEq, Prod.mk.injEq] at H
          obtain ⟨rfl, rfl⟩ := H
          go_wp2
          go_ret2
          exact ⟨by first | rfl | (simp; done) | (simp [*]; done), by repeat (first | exact Drawn0.refl _ | apply Drawn0.step)⟩
  · rw [if_neg c3] at H
    have c3b0 : (t211 == 0) = false := beq_eq_false_iff_ne.mpr c3
    have c3b1 : (t211 != 0) = true := bne_iff_ne.mpr c3
    simp only [Option.some.injEq, Prod.mk.injEq] at H
    obtain ⟨rfl, rfl⟩ := H
    go_enter Try.func94, Try.ntmps94
    go_wp2_with (first | ((with_reducible refine gate_callee (f := 96) rfl ?_); refine goesL_ (some 8) rfl rfl Try.func96 (by kernel_rfl) rfl #[.slice A0 l0.length c0] rfl (by (try simp only [List.map_toArray, List.map_cons, List.map_nil]); first | done | rfl | (simp only [List.length_drop, List.length_take]; rfl)) ?_; (with_reducible refine (damsonref04_Check.calls k _ _ l0 t211 _ ?side1 ?side2 A2.out).mono ?_); (case side1 => repeat (first | exact HR0.out | (with_reducible refine Kd.C_alloc ?_ _) | (with_reducible refine Kd.C_drewN ?_ _) | (with_reducible refine Kd.C_drew ?_))); (case side2 => exact HC0.out); rintro e w' ⟨rfl, ⟨nd, rfl⟩⟩; refine ⟨_, rfl, ?_⟩))
    go_ret2
    exact ⟨by first | rfl | (simp; done) | (simp [*]; done), by repeat (first | exact Drawn0.refl _ | apply Drawn0.step)⟩

/-! ### damsonref09_amounts: function 95 -/
def damsonref09_amounts.l0 : Nat → List Int → List (S44) → Int → Int → Option (List Int)
  | 0, _, _, _, _ => none
  | k + 1, x3, x6, x7, x8 => if x8 < x7 then (if 0 ≤ x8 then (if x8 < (x6.length : Int) then (if x3.length < 17592186044416 then (damsonref09_amounts.l0 k (x3 ++ [(rd_T44 x6 x8).f1]) x6 x7 (wrap64 (x8 + 1))) else (none)) else (none)) else (none)) else (some x3)
def damsonref09_amounts.f (k : Nat) (l0 : List (S44)) : Option (List Int) := damsonref09_amounts.l0 k ([] : List Int) l0 (l0.length : Int) 0
theorem damsonref09_amounts.mono_l : ∀ k, (∀ y0 y1 y2 y3, LeO (damsonref09_amounts.l0 k y0 y1 y2 y3) (damsonref09_amounts.l0 (k + 1) y0 y1 y2 y3))
  | 0 => fun _ _ _ _ r h => by simp [damsonref09_amounts.l0] at h
  | k + 1 => by
    have ih0 := damsonref09_amounts.mono_l k
    · intro y0 y1 y2 y3
      unfold damsonref09_amounts.l0
      repeat' first
      | (with_reducible exact ih0 _ _ _ _)
      | (with_reducible exact LeO.refl _)
      | (with_reducible exact LeO.none _)
      | (with_reducible refine LeO.ite ?_ ?_)
      | (with_reducible refine LeO.bind ?_ (fun _ => ?_))
      | exact ih0 _ _ _ _
      | exact LeO.none _
      | refine LeO.ite ?_ ?_
      | refine LeO.bind ?_ (fun _ => ?_)
theorem damsonref09_amounts.mono : ∀ a0 k, LeO (damsonref09_amounts.f k a0) (damsonref09_amounts.f (k + 1) a0) := by
  intro a0 k
  have ih0 := damsonref09_amounts.mono_l k
  unfold damsonref09_amounts.f
  repeat' first
      | (with_reducible exact ih0 _ _ _ _)
      | (with_reducible exact LeO.refl _)
      | (with_reducible exact LeO.none _)
      | (with_reducible refine LeO.ite ?_ ?_)
      | (with_reducible refine LeO.bind ?_ (fun _ => ?_))
      | exact ih0 _ _ _ _
      | exact LeO.none _
      | refine LeO.ite ?_ ?_
      | refine LeO.bind ?_ (fun _ => ?_)
set_option maxHeartbeats 8000000 in
set_option maxRecDepth 100000 in
theorem damsonref09_amounts.calls (k : Nat) (A0 : Option Addr) (c0 : Nat) (l0 : List (S44)) (r : List Int) (w : World) (hr0 : Kd.C k44 w A0 l0.length l0) (hc0 : l0.length ≤ c0) (h : damsonref09_amounts.f k l0 = some r) :
    Calls Try.prog 95 #[.slice A0 l0.length c0] w fun e w' => ∃ v0_ : Value, e = .returned (v0_) ∧ Kd.R (Kd.int .u64) 22 w' w.heap.size (fun _ => True) v0_ r ∧ Below w.heap.size w w' := by
  have hu44 := Try.underlying44
  have HR0 := Aside0.mk hr0
  have HC0 := Aside0.mk hc0
  clear hr0 hc0
  have HB := Aside0.mk (Below.refl w.heap.size w)
  have H : (damsonref09_amounts.l0 k ([] : List Int) l0 (l0.length : Int) 0) = some r := h
  clear h
  have H' := Aside0.mk H
  clear H
  go_enter Try.func95, Try.ntmps95
  go_wp2
  go_loopg [3, 8] k (fun kq v3 v8 w' => ∃ (x3_1 : List Int) (x8_1 : Int), v8 = .int .i64 x8_1 ∧ Aside0 (damsonref09_amounts.l0 kq x3_1 l0 (l0.length : Int) x8_1 = some r) ∧ Aside0 (kq ≤ k) ∧ Aside0 (Kd.R (Kd.int .u64) 22 w' w.heap.size (fun _ => True) v3 x3_1) ∧ Aside0 (Below w.heap.size w w'))
  case atStart => exact ⟨(([] : List Int)), (0), (by first | rfl | (simp; done) | (simp [*]; done)), H', ⟨Nat.le_refl _⟩, ⟨by first | exact Kd.R_nil _ _ _ _ _ | exact Kd.N_nil _ _ _ _ _ | exact Kd.V_nil _ _ _ _ _ | exact Kd.Q_nil _ _ _ _ _ | exact Kd.S_nil _ _ _ _ _⟩, ⟨by repeat (first | (with_reducible first | exact HB.out | apply below_alloc | apply pw_below_drewN | apply below_drew1) | exact HB.out)⟩⟩
  case round =>
    clear H'
    obtain ⟨x3_1, x8_1, rfl, HA, HK1, HO_3, HB⟩ := hrel
    cases gk with
    | zero => exact absurd HA.out (by simp [damsonref09_amounts.l0])
    | succ k1 =>
      have H := HA.out
      clear HA
      simp only [damsonref09_amounts.l0] at H
      by_cases c2 : x8_1 < (l0.length : Int)
      · rw [if_pos c2] at H
        have c2b0 : decide (x8_1 < (l0.length : Int)) = true := decide_eq_true c2
        clear c2
        by_cases c3 : 0 ≤ x8_1
        · rw [if_pos c3] at H
          have c3b0 : decide (0 ≤ x8_1) = true := decide_eq_true c3
          clear c3
          by_cases c4 : x8_1 < (l0.length : Int)
          · rw [if_pos c4] at H
            have c4b0 : decide (x8_1 < (l0.length : Int)) = true := decide_eq_true c4
            clear c4
            by_cases c5 : x3_1.length < 17592186044416
            · rw [if_pos c5] at H
              have LMc5 := Aside0.mk c5
              clear c5
              obtain ⟨y215, hy215⟩ : ∃ y_ : List Int, y_ = (x3_1 ++ [(rd_T44 l0 x8_1).f1]) := ⟨_, rfl⟩
              replace H : (damsonref09_amounts.l0 k1 y215 l0 (l0.length : Int) (wrap64 (x8_1 + 1))) = some r := by first | (rw [hy215]; with_reducible exact H) | (have H2_ := (Option.bind_some _ _).symm.trans H; rw [hy215]; with_reducible exact H2_) | (have H2_ := (Option.bind_some _ _).symm.trans H; with_reducible exact H2_) | with_reducible exact H | (rw [hy215]; exact H) | exact H
              have Ny215 := Aside0.mk hy215
              clear hy215
              have H' := Aside0.mk H
              clear H
              have p213 : 0 ≤ (x8_1 : Int) := of_decide_eq_true (by first | (with_reducible assumption) | assumption)
              have q213 : x8_1 < (l0.length : Int) := of_decide_eq_true (by first | (with_reducible assumption) | assumption)
              obtain ⟨ad213, e213, hx213_0, hx213_1⟩ := at_T44 HR0.out x8_1 p213 q213
              cases e213
              replace hx213_0 := (HB.out.cell (World.block_lt_of_cell? w _ hx213_0)).trans hx213_0
              replace hx213_1 := (HB.out.cell (World.block_lt_of_cell? w _ hx213_1)).trans hx213_1
              replace p213 := eq_true p213
              replace q213 := eq_true q213
              go_wp2_with (first | ((with_reducible refine gate_dst (N := 5) rfl ?_); refine box_event ?hg (N := 5) ?hd (cs := #[.int .u64 0, .int .u64 0]) (t := 44) ?hr ?_; (case hd => rfl); (case hg => rfl); (case hr => first | (go_simp; done) | (go_simp; rfl)); intro gb214 hg w6 hbox hb; have n0_ := Aside0.mk (Kd.R_below (Kd.RN HO_3) hb); have n1_ := Aside0.mk (below_step (belN HB) hb); have n2_ := Aside0.mk (hbox); have n3_ := Aside0.mk ((by rw [hg]; exact (below_size (belN HB)) : w.heap.size ≤ gb214)); have n4_ := Aside0.mk ((by rw [hg]; exact (below_size (belN HB)) : w.heap.size ≤ gb214)); clear HO_3; clear HB; have HO_3 := n0_; have HB := n1_; have BK214 := n2_; have GW214 := n3_; have GE214 := n4_; clear n0_ n1_ n2_ n3_ n4_; clear hb hbox hg; obtain ⟨hcz7_0, hcz7_1, hfz7_0, hfz7_1⟩ := cz2_ (w := w6) BK214.out) | ((with_reducible refine gate_builtin (b := .append) (xs := #[.tmp 12, .tmp 15]) rfl ?_); at_builtin; refine Kd.R_append (Kd.int .u64) (w0 := w) w.heap.size rfl (.tmp 12) (.tmp 15) 42 22 (.int .u64 0) 8 rfl Try.underlying42 info22 rfl (by decide) (by omega) u3 x3_1 ((rd_T44 l0 x8_1).f1) [.int .u64 ((rd_T44 l0 x8_1).f1)] (fun _ => True) (fun _ => False) rfl (by first | (go_simp; done) | (go_simp; rfl)) ?aP (fun _ hk => hk.elim) ?aF ?aO ?aB ?aS ?aL ?_; (case aP => exact rfl); (case aB => exact (belN HB)); (case aF => exact (fun _ _ => trivial)); (case aO => exact (by (with_reducible repeat (first | apply Kd.R_alloc | apply Kd.R_drewN | apply Kd.R_drew)); exact Kd.R_mono (Kd.R_far (p := ⟨gb214, 1, none⟩) (Kd.R_far (p := ⟨gb214, 0, none⟩) (Kd.R_types HO_3.out BK214.out (by decide)) (fun _ hk => hk.2) (.int .u64 ((rd_T44 l0 x8_1).f0))) (fun _ hk => hk.2) (.int .u64 ((rd_T44 l0 x8_1).f1))) (fun _ hk => trivial))); (case aS => exact (below_size (belN HB))); (case aL => have := LMc5.out; omega); intro v216 w8 ho hb hg hat; rw [← Ny215.out] at ho; have n0_ := Aside0.mk (blk_grown (g := gb214) (o := .cells #[.int .u64 ((rd_T44 l0 x8_1).f0), .int .u64 ((rd_T44 l0 x8_1).f1)] 44 (0, 0)) (by (with_reducible repeat (first | refine blk_drewN ?_ _ | refine blk_drew ?_ | refine blk_alloc ?_ _)); refine blk_put (cs := #[.int .u64 ((rd_T44 l0 x8_1).f0), .int .u64 0]) ?_ 1 _ rfl; refine blk_put (cs := #[.int .u64 0, .int .u64 0]) ?_ 0 _ rfl; (with_reducible repeat (first | refine blk_drewN ?_ _ | refine blk_drew ?_ | refine blk_alloc ?_ _)); exact BK214.out) hg (Kd.R_ne HO_3.out BK214.out (by decide))); have n1_ := Aside0.mk (hb); have n2_ := Aside0.mk (ho); clear BK214; clear HB; clear HO_3; have BK214 := n0_; have HB := n1_; have HO217 := n2_; clear n0_ n1_ n2_; clear ho hb hg hat))
              go_roundg k1
              case measure => have := HK1.out; omega
              case rel => exact ⟨(y215), (wrap64 (x8_1 + 1)), (by first | rfl | (simp; done) | (simp [*]; done)), H', ⟨by have := HK1.out; omega⟩, ⟨by (with_reducible repeat (first | apply Kd.R_alloc | apply Kd.R_drewN | apply Kd.R_drew)); exact HO217.out⟩, ⟨by repeat (first | (with_reducible first | exact HB.out | apply below_alloc | apply pw_below_drewN | apply below_drew1 | refine below_set ?_ GE214.out) | exact HB.out)⟩⟩
            · rw [if_neg c5] at H
              exact absurd H (by simp)
          · rw [if_neg c4] at H
            exact absurd H (by simp)
        · rw [if_neg c3] at H
          exact absurd H (by simp)
      · rw [if_neg c2] at H
        have c2b0 : decide (x8_1 < (l0.length : Int)) = false := decide_eq_false c2
        clear c2
        obtain rfl := Option.some.inj H
        go_wp2
        go_ret
        exact ⟨_, by first | rfl | (simp [errW_none, errW_some] <;> rfl) | (simp [*, errW_none, errW_some] <;> rfl), by (with_reducible repeat (first | apply Kd.R_alloc | apply Kd.R_drewN | apply Kd.R_drew)); exact HO_3.out, by repeat (first | (with_reducible first | exact HB.out | apply below_alloc | apply pw_below_drewN | apply below_drew1) | exact HB.out)⟩

end Go.Proofs.Ytcfbcoinbecdfaa.P
