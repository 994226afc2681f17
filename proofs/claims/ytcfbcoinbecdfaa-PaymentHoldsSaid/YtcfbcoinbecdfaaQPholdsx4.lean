-- written by a program of this session (wip/print)
import Derived.Test.YtcfbcoinbecdfaaQPholdsx0
import Derived.Test.YtcfbcoinbecdfaaQPholdsx1
import Derived.Test.YtcfbcoinbecdfaaQPholdsx2
import Derived.Test.YtcfbcoinbecdfaaQPholdsx3
namespace Go.Proofs.Ytcfbcoinbecdfaa.P
open Go.RowKit Go.Proofs.YtcfbcoinbecdfaaW.PrintWords Go.Proofs.YtcfbcoinbecdfaaW.PrintLast Go.Proofs.YtcfbcoinbecdfaaW.PrintMore
attribute [local go_sem] max2_int min2_int max_two min_two max_three min_three max_four min_four run_sub64_   -- for this text's walks alone
set_option linter.unusedVariables false
set_option linter.unusedSimpArgs false

/-! ### channel_Hold: function 23 -/
mutual
def channel_Hold.j0 : Nat → Int → Int → Int → Int → Bool → Bool → Int → Int → Int → Int → Int → List (S44) → Bool → Option (Int × Int × Int × Int × Int × (List (S44)) × Bool × Int)
 | 0, _, _, _, _, _, _, _, _, _, _, _, _, _ => none
 | k + 1, x1, x2, x8, x11, x12, x26, x136000, x136001, x136002, x136003, x136004, x136005, x136006 => if x26 = true then (some (0, 0, 0, 0, 0, ([] : List (S44)), false, 1)) else (if x136006 = true then (if x12 = true then (some (0, 0, 0, 0, 0, ([] : List (S44)), false, 6)) else (if (x136005.length : Int) = 64 then (some (0, 0, 0, 0, 0, ([] : List (S44)), false, 7)) else (if x136001 < x136003 then (channel_Hold.j1 k x1 x2 x8 x11 true x136000 x136001 x136002 x136003 x136004 x136005 x136006) else (channel_Hold.j1 k x1 x2 x8 x11 (decide (x2 > (IntKind.u64.wrap (x136001 - x136003)))) x136000 x136001 x136002 x136003 x136004 x136005 x136006)))) else (some (0, 0, 0, 0, 0, ([] : List (S44)), false, 14)))
def channel_Hold.j1 : Nat → Int → Int → Int → Int → Bool → Int → Int → Int → Int → Int → List (S44) → Bool → Option (Int × Int × Int × Int × Int × (List (S44)) × Bool × Int)
 | 0, _, _, _, _, _, _, _, _, _, _, _, _ => none
 | k + 1, x1, x2, x8, x11, x54, x136000, x136001, x136002, x136003, x136004, x136005, x136006 => if x54 = true then (some (0, 0, 0, 0, 0, ([] : List (S44)), false, 9)) else (if x2 > (IntKind.u64.wrap (x136004 - x8)) then (some (0, 0, 0, 0, 0, ([] : List (S44)), false, 8)) else ((slices_Clone_Hold.f x136005).bind fun t146 => ((slices_Insert_Hold.f t146 x11 (([(⟨x1, x2⟩ : S44)] : List (S44)))).bind fun t152 => (some (x136000, IntKind.u64.wrap (x136001 - x2), x136002, x136003, x136004, t152, x136006, 0)))))
end
def channel_Hold.f (k : Nat) (a0_0 : Int) (a0_1 : Int) (a0_2 : Int) (a0_3 : Int) (a0_4 : Int) (l0_5 : List (S44)) (a0_6 : Bool) (a1 : Int) (a2 : Int) : Option (Int × Int × Int × Int × Int × (List (S44)) × Bool × Int) := (channel_sums.f k a0_0 a0_1 a0_2 a0_3 a0_4 l0_5 a0_6).bind fun bt137 => ((slices_BinarySearchFunc_uint64_at_channel_order.f k l0_5 a1).bind fun bt140 => (if bt137.2.2 = 0 then (if a2 = 0 then (channel_Hold.j0 k a1 a2 bt137.1 bt140.1 bt140.2 true a0_0 a0_1 a0_2 a0_3 a0_4 l0_5 a0_6) else ((money_Check.f k (([a2] : List Int))).bind fun t145 => (channel_Hold.j0 k a1 a2 bt137.1 bt140.1 bt140.2 (t145 != 0) a0_0 a0_1 a0_2 a0_3 a0_4 l0_5 a0_6))) else (channel_Hold.j0 k a1 a2 bt137.1 bt140.1 bt140.2 true a0_0 a0_1 a0_2 a0_3 a0_4 l0_5 a0_6)))
theorem channel_Hold.mono_l : ∀ k, (∀ y0 y1 y2 y3 y4 y5 y6 y7 y8 y9 y10 y11 y12, LeO (channel_Hold.j0 k y0 y1 y2 y3 y4 y5 y6 y7 y8 y9 y10 y11 y12) (channel_Hold.j0 (k + 1) y0 y1 y2 y3 y4 y5 y6 y7 y8 y9 y10 y11 y12)) ∧ (∀ y0 y1 y2 y3 y4 y5 y6 y7 y8 y9 y10 y11, LeO (channel_Hold.j1 k y0 y1 y2 y3 y4 y5 y6 y7 y8 y9 y10 y11) (channel_Hold.j1 (k + 1) y0 y1 y2 y3 y4 y5 y6 y7 y8 y9 y10 y11))
 | 0 => ⟨fun _ _ _ _ _ _ _ _ _ _ _ _ _ r h => by simp [channel_Hold.j0] at h, fun _ _ _ _ _ _ _ _ _ _ _ _ r h => by simp [channel_Hold.j1] at h⟩
 | k + 1 => by
  obtain ⟨ih0, ih1⟩ := channel_Hold.mono_l k
  refine ⟨?_, ?_⟩
  ·intro y0 y1 y2 y3 y4 y5 y6 y7 y8 y9 y10 y11 y12
   unfold channel_Hold.j0
   repeat' first
   | (with_reducible exact ih0 _ _ _ _ _ _ _ _ _ _ _ _ _)
   | (with_reducible exact ih1 _ _ _ _ _ _ _ _ _ _ _ _)
   | (with_reducible exact channel_sums.mono _ _ _ _ _ _ _ _)
   | (with_reducible exact money_Check.mono _ _)
   | (with_reducible exact slices_BinarySearchFunc_uint64_at_channel_order.mono _ _ _)
   | (with_reducible exact LeO.refl _)
   | (with_reducible exact LeO.none _)
   | (with_reducible refine LeO.ite ?_ ?_)
   | (with_reducible refine LeO.bind ?_ (fun _ => ?_))
   | exact ih0 _ _ _ _ _ _ _ _ _ _ _ _ _
   | exact ih1 _ _ _ _ _ _ _ _ _ _ _ _
   | exact channel_sums.mono _ _ _ _ _ _ _ _
   | exact money_Check.mono _ _
   | exact slices_BinarySearchFunc_uint64_at_channel_order.mono _ _ _
   | exact LeO.none _
   | refine LeO.ite ?_ ?_
   | refine LeO.bind ?_ (fun _ => ?_)
  ·intro y0 y1 y2 y3 y4 y5 y6 y7 y8 y9 y10 y11
   unfold channel_Hold.j1
   repeat' first
   | (with_reducible exact ih0 _ _ _ _ _ _ _ _ _ _ _ _ _)
   | (with_reducible exact ih1 _ _ _ _ _ _ _ _ _ _ _ _)
   | (with_reducible exact channel_sums.mono _ _ _ _ _ _ _ _)
   | (with_reducible exact money_Check.mono _ _)
   | (with_reducible exact slices_BinarySearchFunc_uint64_at_channel_order.mono _ _ _)
   | (with_reducible exact LeO.refl _)
   | (with_reducible exact LeO.none _)
   | (with_reducible refine LeO.ite ?_ ?_)
   | (with_reducible refine LeO.bind ?_ (fun _ => ?_))
   | exact ih0 _ _ _ _ _ _ _ _ _ _ _ _ _
   | exact ih1 _ _ _ _ _ _ _ _ _ _ _ _
   | exact channel_sums.mono _ _ _ _ _ _ _ _
   | exact money_Check.mono _ _
   | exact slices_BinarySearchFunc_uint64_at_channel_order.mono _ _ _
   | exact LeO.none _
   | refine LeO.ite ?_ ?_
   | refine LeO.bind ?_ (fun _ => ?_)
theorem channel_Hold.mono : ∀ a0 a1 a2 a3 a4 a5 a6 a7 a8 k, LeO (channel_Hold.f k a0 a1 a2 a3 a4 a5 a6 a7 a8) (channel_Hold.f (k + 1) a0 a1 a2 a3 a4 a5 a6 a7 a8) := by
 intro a0 a1 a2 a3 a4 a5 a6 a7 a8 k
 obtain ⟨ih0, ih1⟩ := channel_Hold.mono_l k
 unfold channel_Hold.f
 repeat' first
   | (with_reducible exact ih0 _ _ _ _ _ _ _ _ _ _ _ _ _)
   | (with_reducible exact ih1 _ _ _ _ _ _ _ _ _ _ _ _)
   | (with_reducible exact channel_sums.mono _ _ _ _ _ _ _ _)
   | (with_reducible exact money_Check.mono _ _)
   | (with_reducible exact slices_BinarySearchFunc_uint64_at_channel_order.mono _ _ _)
   | (with_reducible exact LeO.refl _)
   | (with_reducible exact LeO.none _)
   | (with_reducible refine LeO.ite ?_ ?_)
   | (with_reducible refine LeO.bind ?_ (fun _ => ?_))
   | exact ih0 _ _ _ _ _ _ _ _ _ _ _ _ _
   | exact ih1 _ _ _ _ _ _ _ _ _ _ _ _
   | exact channel_sums.mono _ _ _ _ _ _ _ _
   | exact money_Check.mono _ _
   | exact slices_BinarySearchFunc_uint64_at_channel_order.mono _ _ _
   | exact LeO.none _
   | refine LeO.ite ?_ ?_
   | refine LeO.bind ?_ (fun _ => ?_)
set_option maxHeartbeats 8000000 in
set_option maxRecDepth 100000 in
theorem channel_Hold.calls (k : Nat) (a0_0 : Int) (a0_1 : Int) (a0_2 : Int) (a0_3 : Int) (a0_4 : Int) (A0_5 : Option Addr) (c0_5 : Nat) (l0_5 : List (S44)) (a0_6 : Bool) (a1 : Int) (a2 : Int) (r1 : Int) (r2 : Int) (r3 : Int) (r4 : Int) (r5 : Int) (r6 : List (S44)) (r7 : Bool) (r8 : Int) (w : World) (hr0_5 : Kd.C k44 w A0_5 l0_5.length l0_5) (hc0_5 : l0_5.length ≤ c0_5) (h : channel_Hold.f k a0_0 a0_1 a0_2 a0_3 a0_4 l0_5 a0_6 a1 a2 = some (r1, r2, r3, r4, r5, r6, r7, r8)) :
  Calls Try.prog 23 #[.agg #[.int .u64 a0_0, .int .u64 a0_1, .int .u64 a0_2, .int .u64 a0_3, .int .u64 a0_4, .slice A0_5 l0_5.length c0_5, .bool a0_6], .int .u64 a1, .int .u64 a2] w fun e w' => ∃ v5_ : Value, e = .returned (.tuple #[.agg #[.int .u64 r1, .int .u64 r2, .int .u64 r3, .int .u64 r4, .int .u64 r5, v5_, .bool r7], .int .i64 r8]) ∧ Kd.R k44 44 w' w.heap.size (fun _ => True) v5_ r6 ∧ Below w.heap.size w w' := by
 have hu25 := Try.underlying25
 have hu44 := Try.underlying44
 have HR0_5 := Aside0.mk hr0_5
 have HC0_5 := Aside0.mk hc0_5
 clear hr0_5 hc0_5
 have HB := Aside0.mk (Below.refl w.heap.size w)
 have H : ((channel_sums.f k a0_0 a0_1 a0_2 a0_3 a0_4 l0_5 a0_6).bind fun bt137 => ((slices_BinarySearchFunc_uint64_at_channel_order.f k l0_5 a1).bind fun bt140 => (if bt137.2.2 = 0 then (if a2 = 0 then (channel_Hold.j0 k a1 a2 bt137.1 bt140.1 bt140.2 true a0_0 a0_1 a0_2 a0_3 a0_4 l0_5 a0_6) else ((money_Check.f k (([a2] : List Int))).bind fun t145 => (channel_Hold.j0 k a1 a2 bt137.1 bt140.1 bt140.2 (t145 != 0) a0_0 a0_1 a0_2 a0_3 a0_4 l0_5 a0_6))) else (channel_Hold.j0 k a1 a2 bt137.1 bt140.1 bt140.2 true a0_0 a0_1 a0_2 a0_3 a0_4 l0_5 a0_6)))) = some (r1, r2, r3, r4, r5, r6, r7, r8) := h
 clear h
 replace H := Option.bind_eq_some_iff.mp H
 obtain ⟨⟨t137, t138, t139⟩, A40, H⟩ := H
 replace H : ((slices_BinarySearchFunc_uint64_at_channel_order.f k l0_5 a1).bind fun bt140 => (if t139 = 0 then (if a2 = 0 then (channel_Hold.j0 k a1 a2 t137 bt140.1 bt140.2 true a0_0 a0_1 a0_2 a0_3 a0_4 l0_5 a0_6) else ((money_Check.f k (([a2] : List Int))).bind fun t145 => (channel_Hold.j0 k a1 a2 t137 bt140.1 bt140.2 (t145 != 0) a0_0 a0_1 a0_2 a0_3 a0_4 l0_5 a0_6))) else (channel_Hold.j0 k a1 a2 t137 bt140.1 bt140.2 true a0_0 a0_1 a0_2 a0_3 a0_4 l0_5 a0_6))) = some (r1, r2, r3, r4, r5, r6, r7, r8) := H
 have A4 := Aside0.mk A40
 clear A40
 replace H := Option.bind_eq_some_iff.mp H
 obtain ⟨⟨t140, t141⟩, A50, H⟩ := H
 replace H : (if t139 = 0 then (if a2 = 0 then (channel_Hold.j0 k a1 a2 t137 t140 t141 true a0_0 a0_1 a0_2 a0_3 a0_4 l0_5 a0_6) else ((money_Check.f k (([a2] : List Int))).bind fun t145 => (channel_Hold.j0 k a1 a2 t137 t140 t141 (t145 != 0) a0_0 a0_1 a0_2 a0_3 a0_4 l0_5 a0_6))) else (channel_Hold.j0 k a1 a2 t137 t140 t141 true a0_0 a0_1 a0_2 a0_3 a0_4 l0_5 a0_6)) = some (r1, r2, r3, r4, r5, r6, r7, r8) := H
 have A5 := Aside0.mk A50
 clear A50
 have HC6 := Aside0.mk H
 clear H
 go_enter Try.func23, Try.ntmps23
 go_upto_region 3 with (first | ((with_reducible refine gate_dst (N := 3) rfl ?_); (try (refine gate_guard (by rfl) ?_; dsimp only)); refine box_event ?hg (N := 3) ?hd (cs := #[.int .u64 a0_0, .int .u64 a0_1, .int .u64 a0_2, .int .u64 a0_3, .int .u64 a0_4, .slice A0_5 l0_5.length c0_5, .bool a0_6]) (t := 25) ?hr ?_; (case hd => rfl); (case hg => rfl); (case hr => first | (go_simp; done) | (go_simp; rfl)); intro gb135 hg w7 hbox hb; have n0_ := Aside0.mk (below_step (belN HB) hb); have n1_ := Aside0.mk (hbox); have n2_ := Aside0.mk ((by rw [hg]; exact (below_size (belN HB)) : w.heap.size ≤ gb135)); have n3_ := Aside0.mk ((by rw [hg]; exact (below_size (belN HB)) : w.heap.size ≤ gb135)); clear HB; have HB := n0_; have BK135 := n1_; have GW135 := n2_; have GE135 := n3_; clear n0_ n1_ n2_ n3_; clear hb hbox hg) | ((with_reducible refine gate_dst (N := 6) rfl ?_); (try (refine gate_guard (by rfl) ?_; dsimp only)); refine box_event ?hg (N := 6) ?hd (cs := #[.int .u64 0, .int .u64 0, .int .u64 0, .int .u64 0, .int .u64 0, .slice none 0 0, .bool false]) (t := 25) ?hr ?_; (case hd => rfl); (case hg => rfl); (case hr => first | (go_simp; done) | (go_simp; rfl)); intro gb136 hg w8 hbox hb; have n0_ := Aside0.mk (blk_below (g := gb135) (blkN BK135) hb); have n1_ := Aside0.mk (below_step (belN HB) hb); have n2_ := Aside0.mk (hbox); have n3_ := Aside0.mk ((by rw [hg]; exact (below_size (belN HB)) : w.heap.size ≤ gb136)); have n4_ := Aside0.mk ((by rw [hg]; exact (below_size (belN HB)) : w.heap.size ≤ gb136)); have n5_ := Aside0.mk ((by rw [hg]; exact Nat.ne_of_lt (blk_lt (g := gb135) (blkN BK135)) : gb135 ≠ gb136)); have n6_ := Aside0.mk ((by rw [hg]; exact Nat.ne_of_gt (blk_lt (g := gb135) (blkN BK135)) : gb136 ≠ gb135)); clear BK135; clear HB; have BK135 := n0_; have HB := n1_; have BK136 := n2_; have GW136 := n3_; have GE136 := n4_; have NB135_136 := n5_; have NB136_135 := n6_; clear n0_ n1_ n2_ n3_ n4_ n5_ n6_; clear hb hbox hg; have hnb9 := NB135_136.out; have hnc9 := NB136_135.out; obtain ⟨hcz10_0, hcz10_1, hcz10_2, hcz10_3, hcz10_4, hcz10_5, hcz10_6, hfz10_0, hfz10_1, hfz10_2, hfz10_3, hfz10_4, hfz10_5, hfz10_6⟩ := cz7_ (w := w8) BK135.out) | ((with_reducible refine gate_callee (f := 83) rfl ?_); refine goesL_ (some 15) rfl rfl Try.func83 (by kernel_rfl) rfl #[.agg #[.int .u64 a0_0, .int .u64 a0_1, .int .u64 a0_2, .int .u64 a0_3, .int .u64 a0_4, .slice A0_5 l0_5.length c0_5, .bool a0_6]] rfl (by (try simp only [List.map_toArray, List.map_cons, List.map_nil]); first | done | rfl | (simp only [List.length_drop, List.length_take]; rfl)) ?_; (with_reducible refine (channel_sums.calls k a0_0 a0_1 a0_2 a0_3 a0_4 _ _ l0_5 a0_6 t137 t138 t139 _ ?side1 ?side2 A4.out).mono ?_); (case side1 => repeat (first | exact (Kd.C_below HR0_5.out HB.out) | (with_reducible refine Kd.C_alloc ?_ _) | (with_reducible refine Kd.C_drewN ?_ _) | (with_reducible refine Kd.C_drew ?_))); (case side2 => exact HC0_5.out); rintro e w11 ⟨rfl, hb⟩; refine ⟨_, rfl, ?_⟩; have n0_ := Aside0.mk (blk_below (g := gb135) (blkN BK135) hb); have n1_ := Aside0.mk (blk_below (g := gb136) (blkN BK136) hb); have n2_ := Aside0.mk (below_step (belN HB) hb); clear BK135; clear BK136; clear HB; have BK135 := n0_; have BK136 := n1_; have HB := n2_; clear n0_ n1_ n2_; (try clear hb); (try clear hb2); (try clear hk); (try clear hi); obtain ⟨hcz12_0, hcz12_1, hcz12_2, hcz12_3, hcz12_4, hcz12_5, hcz12_6, hfz12_0, hfz12_1, hfz12_2, hfz12_3, hfz12_4, hfz12_5, hfz12_6⟩ := cz7_ (w := w11) BK135.out) | ((with_reducible refine gate_callee (f := 85) rfl ?_); refine goesL_ (some 23) rfl rfl Try.func85 (by kernel_rfl) rfl #[.slice A0_5 l0_5.length c0_5, .int .u64 a1, .func (.func 86) #[] #[]] rfl (by (try simp only [List.map_toArray, List.map_cons, List.map_nil]); first | done | rfl | (simp only [List.length_drop, List.length_take]; rfl)) ?_; (with_reducible refine (slices_BinarySearchFunc_uint64_at_channel_order.calls k _ _ l0_5 a1  t140 t141 _ ?side1 ?side2 A5.out).mono ?_); (case side1 => repeat (first | exact (Kd.C_below HR0_5.out HB.out) | (with_reducible refine Kd.C_alloc ?_ _) | (with_reducible refine Kd.C_drewN ?_ _) | (with_reducible refine Kd.C_drew ?_))); (case side2 => exact HC0_5.out); rintro e w13 ⟨rfl, hb⟩; refine ⟨_, rfl, ?_⟩; have n0_ := Aside0.mk (blk_below (g := gb135) (blkN BK135) hb); have n1_ := Aside0.mk (blk_below (g := gb136) (blkN BK136) hb); have n2_ := Aside0.mk (below_step (belN HB) hb); clear BK135; clear BK136; clear HB; have BK135 := n0_; have BK136 := n1_; have HB := n2_; clear n0_ n1_ n2_; (try clear hb); (try clear hb2); (try clear hk); (try clear hi)))
 (try simp only [Act.put, List.setIfInBounds_toArray, List.set_cons_zero, List.set_cons_succ])
 go_cut [26] (fun v26 wc => ∃ (kq : Nat) (x26_5 : Bool), v26 = .bool x26_5 ∧ Aside0 (channel_Hold.j0 kq a1 a2 t137 t140 t141 x26_5 a0_0 a0_1 a0_2 a0_3 a0_4 l0_5 a0_6 = some (r1, r2, r3, r4, r5, r6, r7, r8)) ∧ Aside0 (kq ≤ k) ∧ Aside0 (wc.heap[gb135]? = some (.cells #[.int .u64 a0_0, .int .u64 a0_1, .int .u64 a0_2, .int .u64 a0_3, .int .u64 a0_4, (.slice A0_5 l0_5.length c0_5), .bool a0_6] 25 (0, 0))) ∧ Aside0 (wc.heap[gb136]? = some (.cells #[.int .u64 0, .int .u64 0, .int .u64 0, .int .u64 0, .int .u64 0, (.slice none 0 0), .bool false] 25 (0, 0))) ∧ Aside0 (Below w.heap.size w wc))
 case first =>
  have H := HC6.out
  clear HC6
  by_cases c14 : t139 = 0
  ·rw [if_pos c14] at H
   have c14b0 : (t139 == 0) = true := beq_iff_eq.mpr c14
   have c14b1 : (t139 != 0) = false := bne_eq_false_iff_eq.mpr c14
   clear c14
   (first | rw [c14b0] | (simp only [i64_w, i32_w]; rw [c14b0]) | skip)
   by_cases c15 : a2 = 0
   ·rw [if_pos c15] at H
    have c15b0 : (a2 == 0) = true := beq_iff_eq.mpr c15
    have c15b1 : (a2 != 0) = false := bne_eq_false_iff_eq.mpr c15
    clear c15
    have H' := Aside0.mk H
    clear H
    go_wp2
    go_meet
    case rel => exact ⟨_, (true), (by first | rfl | (simp; done) | (simp [*]; done)), H', ⟨by first | omega | exact Nat.le_refl _⟩, ⟨by (with_reducible repeat (first | refine blk_drewN ?_ _ | refine blk_drew ?_ | refine blk_alloc ?_ _)); exact BK135.out⟩, ⟨by (with_reducible repeat (first | refine blk_drewN ?_ _ | refine blk_drew ?_ | refine blk_alloc ?_ _)); exact BK136.out⟩, ⟨by repeat (first | (with_reducible first | exact HB.out | apply below_alloc | apply pw_below_drewN | apply below_drew1 | refine below_set ?_ GE135.out | refine below_set ?_ GE136.out) | exact HB.out)⟩⟩
   ·rw [if_neg c15] at H
    have c15b0 : (a2 == 0) = false := beq_eq_false_iff_ne.mpr c15
    have c15b1 : (a2 != 0) = true := bne_iff_ne.mpr c15
    obtain ⟨y142, hy142⟩ : ∃ y_ : List Int, y_ = (([a2] : List Int)) := ⟨_, rfl⟩
    replace H : ((money_Check.f k y142).bind fun t145 => (channel_Hold.j0 k a1 a2 t137 t140 t141 (t145 != 0) a0_0 a0_1 a0_2 a0_3 a0_4 l0_5 a0_6)) = some (r1, r2, r3, r4, r5, r6, r7, r8) := by first | (rw [hy142]; with_reducible exact H) | (have H2_ := (Option.bind_some _ _).symm.trans H; rw [hy142]; with_reducible exact H2_) | (have H2_ := (Option.bind_some _ _).symm.trans H; with_reducible exact H2_) | with_reducible exact H | (rw [hy142]; exact H) | exact H
    have Ny142 := Aside0.mk hy142
    clear hy142
    replace H := Option.bind_eq_some_iff.mp H
    obtain ⟨t145, A160, H⟩ := H
    replace H : (channel_Hold.j0 k a1 a2 t137 t140 t141 (t145 != 0) a0_0 a0_1 a0_2 a0_3 a0_4 l0_5 a0_6) = some (r1, r2, r3, r4, r5, r6, r7, r8) := H
    have A16 := Aside0.mk A160
    clear A160
    have H' := Aside0.mk H
    clear H
    go_wp2_with (first | ((with_reducible refine gate_dst (N := 35) rfl ?_); (try (refine gate_guard (by rfl) ?_; dsimp only)); refine Kd.R_lit (Kd.int .u64) _ 22 ?hg (N := 35) ?hd (xs := ([a2] : List Int)) (inner := [.int .u64 a2]) (ok := fun _ => True) (okp := fun _ => True) ?hr ?hp (fun _ hk => hk) trivial (Below.refl _ _) (Nat.le_refl _) (by simp) ?_; (case hd => rfl); (case hg => rfl); (case hr => first | (go_simp; done) | (go_simp; rfl)); (case hp => exact (Reps.one (show Kd.M (Kd.int .u64) _ _ _ a2 [.int .u64 a2] from rfl) (Reps.none _ _))); intro v143 w17 ho18 hb hg_ hnew_; clear hg_ hnew_; (first | rw [← Ny142.out] at ho18 | (simp only [Int.reduceToNat] at ho18; rw [← Ny142.out] at ho18)); have n0_ := Aside0.mk (Kd.R_lower ho18 (below_size (belN HB))); have n1_ := Aside0.mk (blk_below (g := gb135) (blkN BK135) hb); have n2_ := Aside0.mk (blk_below (g := gb136) (blkN BK136) hb); have n3_ := Aside0.mk (below_step (belN HB) hb); clear BK135; clear BK136; clear HB; have HO144 := n0_; have BK135 := n1_; have BK136 := n2_; have HB := n3_; clear n0_ n1_ n2_ n3_; clear hb ho18; obtain ⟨Ao19, co19, eo19⟩ := Kd.R_slice HO144.out; subst eo19) | (go_at_call 87; (with_reducible refine (money_Check.calls k _ _ y142 t145 _ ?side1 ?side2 A16.out).mono ?_); (case side1 => exact Kd.CN (Kd.R_reads' HO144.out).2.2); (case side2 => exact (Kd.R_reads' HO144.out).2.1); rintro e w20 ⟨rfl, hb⟩; have n0_ := Aside0.mk (Kd.R_below (Kd.RN HO144) hb); have n1_ := Aside0.mk (blk_below (g := gb135) (blkN BK135) hb); have n2_ := Aside0.mk (blk_below (g := gb136) (blkN BK136) hb); have n3_ := Aside0.mk (below_step (belN HB) hb); clear HO144; clear BK135; clear BK136; clear HB; have HO144 := n0_; have BK135 := n1_; have BK136 := n2_; have HB := n3_; clear n0_ n1_ n2_ n3_; (try clear hb); (try clear hb2); (try clear hk); (try clear hi)))
    go_meet
    case rel => exact ⟨_, ((t145 != 0)), (by first | rfl | (simp; done) | (simp [*]; done)), H', ⟨by first | omega | exact Nat.le_refl _⟩, ⟨by (with_reducible repeat (first | refine blk_drewN ?_ _ | refine blk_drew ?_ | refine blk_alloc ?_ _)); exact BK135.out⟩, ⟨by (with_reducible repeat (first | refine blk_drewN ?_ _ | refine blk_drew ?_ | refine blk_alloc ?_ _)); exact BK136.out⟩, ⟨by repeat (first | (with_reducible first | exact HB.out | apply below_alloc | apply pw_below_drewN | apply below_drew1 | refine below_set ?_ GE135.out | refine below_set ?_ GE136.out) | exact HB.out)⟩⟩
  ·rw [if_neg c14] at H
   have c14b0 : (t139 == 0) = false := beq_eq_false_iff_ne.mpr c14
   have c14b1 : (t139 != 0) = true := bne_iff_ne.mpr c14
   (first | rw [c14b0] | (simp only [i64_w, i32_w]; rw [c14b0]) | skip)
   have H' := Aside0.mk H
   clear H
   go_wp2
   go_meet
   case rel => exact ⟨_, (true), (by first | rfl | (simp; done) | (simp [*]; done)), H', ⟨by first | omega | exact Nat.le_refl _⟩, ⟨by (with_reducible repeat (first | refine blk_drewN ?_ _ | refine blk_drew ?_ | refine blk_alloc ?_ _)); exact BK135.out⟩, ⟨by (with_reducible repeat (first | refine blk_drewN ?_ _ | refine blk_drew ?_ | refine blk_alloc ?_ _)); exact BK136.out⟩, ⟨by repeat (first | (with_reducible first | exact HB.out | apply below_alloc | apply pw_below_drewN | apply below_drew1 | refine below_set ?_ GE135.out | refine below_set ?_ GE136.out) | exact HB.out)⟩⟩
 case rest =>
  clear HC6
  try clear c1
  try clear c2
  try clear p2
  try clear c8
  try clear c9
  try clear c14
  try clear c14b0
  try clear c14b1
  try clear c15
  try clear c15b0
  try clear c15b1
  try clear hcz10_0
  try clear hcz10_1
  try clear hcz10_2
  try clear hcz10_3
  try clear hcz10_4
  try clear hcz10_5
  try clear hcz10_6
  try clear hcz12_0
  try clear hcz12_1
  try clear hcz12_2
  try clear hcz12_3
  try clear hcz12_4
  try clear hcz12_5
  try clear hcz12_6
  try clear hfz10_0
  try clear hfz10_1
  try clear hfz10_2
  try clear hfz10_3
  try clear hfz10_4
  try clear hfz10_5
  try clear hfz10_6
  try clear hfz12_0
  try clear hfz12_1
  try clear hfz12_2
  try clear hfz12_3
  try clear hfz12_4
  try clear hfz12_5
  try clear hfz12_6
  obtain ⟨kq, x26_5, rfl, HA, HJ5, BK135, BK136, HB⟩ := hcut
  cases kq with
  | zero => exact absurd HA.out (by simp [channel_Hold.j0])
  | succ kj5 =>
   have H := HA.out
   clear HA
   simp only [channel_Hold.j0] at H
   by_cases c21 : x26_5 = true
   ·subst c21
    have H1 : (some (0, 0, 0, 0, 0, ([] : List (S44)), false, 1)) = some (r1, r2, r3, r4, r5, r6, r7, r8) := by rw [if_pos rfl] at H; exact H
    clear H
    have H := H1
    clear H1
    simp only [Option.some.injEq, Prod.mk.injEq] at H
    obtain ⟨rfl, rfl, rfl, rfl, rfl, rfl, rfl, rfl⟩ := H
    have hnb22 := NB136_135.out
    have hnc22 := NB135_136.out
    obtain ⟨hcz23_0, hcz23_1, hcz23_2, hcz23_3, hcz23_4, hcz23_5, hcz23_6, hfz23_0, hfz23_1, hfz23_2, hfz23_3, hfz23_4, hfz23_5, hfz23_6⟩ := cz7_ (w := wc) BK136.out
    go_wp2
    refine bodyPost_ret (results_ct rfl _ _ gb136 25 #[.int .u64 0, .int .u64 0, .int .u64 0, .int .u64 0, .int .u64 0, .slice none 0 0, .bool false] (0, 0) _ rfl (by (with_reducible repeat (first | refine blk_drewN ?_ _ | refine blk_drew ?_ | refine blk_alloc ?_ _)); refine blk_put (cs := #[.int .u64 0, .int .u64 0, .int .u64 0, .int .u64 0, .int .u64 0, .slice none 0 0, .bool false]) ?_ 6 _ rfl; refine blk_put (cs := #[.int .u64 0, .int .u64 0, .int .u64 0, .int .u64 0, .int .u64 0, .slice none 0 0, .bool false]) ?_ 5 _ rfl; refine blk_put (cs := #[.int .u64 0, .int .u64 0, .int .u64 0, .int .u64 0, .int .u64 0, .slice none 0 0, .bool false]) ?_ 4 _ rfl; refine blk_put (cs := #[.int .u64 0, .int .u64 0, .int .u64 0, .int .u64 0, .int .u64 0, .slice none 0 0, .bool false]) ?_ 3 _ rfl; refine blk_put (cs := #[.int .u64 0, .int .u64 0, .int .u64 0, .int .u64 0, .int .u64 0, .slice none 0 0, .bool false]) ?_ 2 _ rfl; refine blk_put (cs := #[.int .u64 0, .int .u64 0, .int .u64 0, .int .u64 0, .int .u64 0, .slice none 0 0, .bool false]) ?_ 1 _ rfl; refine blk_put (cs := #[.int .u64 0, .int .u64 0, .int .u64 0, .int .u64 0, .int .u64 0, .slice none 0 0, .bool false]) ?_ 0 _ rfl; (with_reducible repeat (first | refine blk_drewN ?_ _ | refine blk_drew ?_ | refine blk_alloc ?_ _)); exact BK136.out) Try.underlying25 rfl (by kernel_rfl)) rfl ?_
    exact ⟨_, by first | rfl | (simp [errW_none, errW_some] <;> rfl) | (simp [*, errW_none, errW_some] <;> rfl), by first | exact Kd.R_nil _ _ _ _ _ | exact Kd.N_nil _ _ _ _ _ | exact Kd.V_nil _ _ _ _ _ | exact Kd.Q_nil _ _ _ _ _ | exact Kd.S_nil _ _ _ _ _, by repeat (first | (with_reducible first | exact HB.out | apply below_alloc | apply pw_below_drewN | apply below_drew1 | refine below_set ?_ GE135.out | refine below_set ?_ GE136.out) | exact HB.out)⟩
   ·replace c21 := Bool.eq_false_iff.mpr c21
    subst c21
    have H1 : (if a0_6 = true then (if t141 = true then (some (0, 0, 0, 0, 0, ([] : List (S44)), false, 6)) else (if (l0_5.length : Int) = 64 then (some (0, 0, 0, 0, 0, ([] : List (S44)), false, 7)) else (if a0_1 < a0_3 then (channel_Hold.j1 kj5 a1 a2 t137 t140 true a0_0 a0_1 a0_2 a0_3 a0_4 l0_5 a0_6) else (channel_Hold.j1 kj5 a1 a2 t137 t140 (decide (a2 > (IntKind.u64.wrap (a0_1 - a0_3)))) a0_0 a0_1 a0_2 a0_3 a0_4 l0_5 a0_6)))) else (some (0, 0, 0, 0, 0, ([] : List (S44)), false, 14))) = some (r1, r2, r3, r4, r5, r6, r7, r8) := by rw [if_neg (show ¬ (false = true) by decide)] at H; exact H
    clear H
    have H := H1
    clear H1
    by_cases c24 : a0_6 = true
    ·subst c24
     have H1 : (if t141 = true then (some (0, 0, 0, 0, 0, ([] : List (S44)), false, 6)) else (if (l0_5.length : Int) = 64 then (some (0, 0, 0, 0, 0, ([] : List (S44)), false, 7)) else (if a0_1 < a0_3 then (channel_Hold.j1 kj5 a1 a2 t137 t140 true a0_0 a0_1 a0_2 a0_3 a0_4 l0_5 true) else (channel_Hold.j1 kj5 a1 a2 t137 t140 (decide (a2 > (IntKind.u64.wrap (a0_1 - a0_3)))) a0_0 a0_1 a0_2 a0_3 a0_4 l0_5 true)))) = some (r1, r2, r3, r4, r5, r6, r7, r8) := by rw [if_pos rfl] at H; exact H
     clear H
     have H := H1
     clear H1
     by_cases c25 : t141 = true
     ·subst c25
      have H1 : (some (0, 0, 0, 0, 0, ([] : List (S44)), false, 6)) = some (r1, r2, r3, r4, r5, r6, r7, r8) := by rw [if_pos rfl] at H; exact H
      clear H
      have H := H1
      clear H1
      simp only [Option.some.injEq, Prod.mk.injEq] at H
      obtain ⟨rfl, rfl, rfl, rfl, rfl, rfl, rfl, rfl⟩ := H
      have hnb26 := NB135_136.out
      have hnc26 := NB136_135.out
      obtain ⟨hcz27_0, hcz27_1, hcz27_2, hcz27_3, hcz27_4, hcz27_5, hcz27_6, hfz27_0, hfz27_1, hfz27_2, hfz27_3, hfz27_4, hfz27_5, hfz27_6⟩ := cz7_ (w := wc) BK135.out
      obtain ⟨hcz28_0, hcz28_1, hcz28_2, hcz28_3, hcz28_4, hcz28_5, hcz28_6, hfz28_0, hfz28_1, hfz28_2, hfz28_3, hfz28_4, hfz28_5, hfz28_6⟩ := cz7_ (w := wc) BK136.out
      go_wp2
      refine bodyPost_ret (results_ct rfl _ _ gb136 25 #[.int .u64 0, .int .u64 0, .int .u64 0, .int .u64 0, .int .u64 0, .slice none 0 0, .bool false] (0, 0) _ rfl (by (with_reducible repeat (first | refine blk_drewN ?_ _ | refine blk_drew ?_ | refine blk_alloc ?_ _)); refine blk_put (cs := #[.int .u64 0, .int .u64 0, .int .u64 0, .int .u64 0, .int .u64 0, .slice none 0 0, .bool false]) ?_ 6 _ rfl; refine blk_put (cs := #[.int .u64 0, .int .u64 0, .int .u64 0, .int .u64 0, .int .u64 0, .slice none 0 0, .bool false]) ?_ 5 _ rfl; refine blk_put (cs := #[.int .u64 0, .int .u64 0, .int .u64 0, .int .u64 0, .int .u64 0, .slice none 0 0, .bool false]) ?_ 4 _ rfl; refine blk_put (cs := #[.int .u64 0, .int .u64 0, .int .u64 0, .int .u64 0, .int .u64 0, .slice none 0 0, .bool false]) ?_ 3 _ rfl; refine blk_put (cs := #[.int .u64 0, .int .u64 0, .int .u64 0, .int .u64 0, .int .u64 0, .slice none 0 0, .bool false]) ?_ 2 _ rfl; refine blk_put (cs := #[.int .u64 0, .int .u64 0, .int .u64 0, .int .u64 0, .int .u64 0, .slice none 0 0, .bool false]) ?_ 1 _ rfl; refine blk_put (cs := #[.int .u64 0, .int .u64 0, .int .u64 0, .int .u64 0, .int .u64 0, .slice none 0 0, .bool false]) ?_ 0 _ rfl; (with_reducible repeat (first | refine blk_drewN ?_ _ | refine blk_drew ?_ | refine blk_alloc ?_ _)); exact BK136.out) Try.underlying25 rfl (by kernel_rfl)) rfl ?_
      exact ⟨_, by first | rfl | (simp [errW_none, errW_some] <;> rfl) | (simp [*, errW_none, errW_some] <;> rfl), by first | exact Kd.R_nil _ _ _ _ _ | exact Kd.N_nil _ _ _ _ _ | exact Kd.V_nil _ _ _ _ _ | exact Kd.Q_nil _ _ _ _ _ | exact Kd.S_nil _ _ _ _ _, by repeat (first | (with_reducible first | exact HB.out | apply below_alloc | apply pw_below_drewN | apply below_drew1 | refine below_set ?_ GE135.out | refine below_set ?_ GE136.out) | exact HB.out)⟩
     ·replace c25 := Bool.eq_false_iff.mpr c25
      subst c25
      have H1 : (if (l0_5.length : Int) = 64 then (some (0, 0, 0, 0, 0, ([] : List (S44)), false, 7)) else (if a0_1 < a0_3 then (channel_Hold.j1 kj5 a1 a2 t137 t140 true a0_0 a0_1 a0_2 a0_3 a0_4 l0_5 true) else (channel_Hold.j1 kj5 a1 a2 t137 t140 (decide (a2 > (IntKind.u64.wrap (a0_1 - a0_3)))) a0_0 a0_1 a0_2 a0_3 a0_4 l0_5 true))) = some (r1, r2, r3, r4, r5, r6, r7, r8) := by rw [if_neg (show ¬ (false = true) by decide)] at H; exact H
      clear H
      have H := H1
      clear H1
      by_cases c29 : (l0_5.length : Int) = 64
      ·rw [if_pos c29] at H
       have c29b0 : ((l0_5.length : Int) == 64) = true := beq_iff_eq.mpr c29
       have c29b1 : ((l0_5.length : Int) != 64) = false := bne_eq_false_iff_eq.mpr c29
       clear c29
       simp only [Option.some.injEq, Prod.mk.injEq] at H
       obtain ⟨rfl, rfl, rfl, rfl, rfl, rfl, rfl, rfl⟩ := H
       have hnb30 := NB135_136.out
       have hnc30 := NB136_135.out
       obtain ⟨hcz31_0, hcz31_1, hcz31_2, hcz31_3, hcz31_4, hcz31_5, hcz31_6, hfz31_0, hfz31_1, hfz31_2, hfz31_3, hfz31_4, hfz31_5, hfz31_6⟩ := cz7_ (w := wc) BK135.out
       obtain ⟨hcz32_0, hcz32_1, hcz32_2, hcz32_3, hcz32_4, hcz32_5, hcz32_6, hfz32_0, hfz32_1, hfz32_2, hfz32_3, hfz32_4, hfz32_5, hfz32_6⟩ := cz7_ (w := wc) BK136.out
       go_wp2
       refine bodyPost_ret (results_ct rfl _ _ gb136 25 #[.int .u64 0, .int .u64 0, .int .u64 0, .int .u64 0, .int .u64 0, .slice none 0 0, .bool false] (0, 0) _ rfl (by (with_reducible repeat (first | refine blk_drewN ?_ _ | refine blk_drew ?_ | refine blk_alloc ?_ _)); refine blk_put (cs := #[.int .u64 0, .int .u64 0, .int .u64 0, .int .u64 0, .int .u64 0, .slice none 0 0, .bool false]) ?_ 6 _ rfl; refine blk_put (cs := #[.int .u64 0, .int .u64 0, .int .u64 0, .int .u64 0, .int .u64 0, .slice none 0 0, .bool false]) ?_ 5 _ rfl; refine blk_put (cs := #[.int .u64 0, .int .u64 0, .int .u64 0, .int .u64 0, .int .u64 0, .slice none 0 0, .bool false]) ?_ 4 _ rfl; refine blk_put (cs := #[.int .u64 0, .int .u64 0, .int .u64 0, .int .u64 0, .int .u64 0, .slice none 0 0, .bool false]) ?_ 3 _ rfl; refine blk_put (cs := #[.int .u64 0, .int .u64 0, .int .u64 0, .int .u64 0, .int .u64 0, .slice none 0 0, .bool false]) ?_ 2 _ rfl; refine blk_put (cs := #[.int .u64 0, .int .u64 0, .int .u64 0, .int .u64 0, .int .u64 0, .slice none 0 0, .bool false]) ?_ 1 _ rfl; refine blk_put (cs := #[.int .u64 0, .int .u64 0, .int .u64 0, .int .u64 0, .int .u64 0, .slice none 0 0, .bool false]) ?_ 0 _ rfl; (with_reducible repeat (first | refine blk_drewN ?_ _ | refine blk_drew ?_ | refine blk_alloc ?_ _)); exact BK136.out) Try.underlying25 rfl (by kernel_rfl)) rfl ?_
       exact ⟨_, by first | rfl | (simp [errW_none, errW_some] <;> rfl) | (simp [*, errW_none, errW_some] <;> rfl), by first | exact Kd.R_nil _ _ _ _ _ | exact Kd.N_nil _ _ _ _ _ | exact Kd.V_nil _ _ _ _ _ | exact Kd.Q_nil _ _ _ _ _ | exact Kd.S_nil _ _ _ _ _, by repeat (first | (with_reducible first | exact HB.out | apply below_alloc | apply pw_below_drewN | apply below_drew1 | refine below_set ?_ GE135.out | refine below_set ?_ GE136.out) | exact HB.out)⟩
      ·rw [if_neg c29] at H
       have c29b0 : ((l0_5.length : Int) == 64) = false := beq_eq_false_iff_ne.mpr c29
       have c29b1 : ((l0_5.length : Int) != 64) = true := bne_iff_ne.mpr c29
       have HC33 := Aside0.mk H
       clear H
       have hnb34 := NB135_136.out
       have hnc34 := NB136_135.out
       obtain ⟨hcz35_0, hcz35_1, hcz35_2, hcz35_3, hcz35_4, hcz35_5, hcz35_6, hfz35_0, hfz35_1, hfz35_2, hfz35_3, hfz35_4, hfz35_5, hfz35_6⟩ := cz7_ (w := wc) BK135.out
       go_upto_region 11 with (fail)
       go_cut [54] (fun v54 wc => ∃ (kq : Nat) (x54_32 : Bool), v54 = .bool x54_32 ∧ Aside0 (channel_Hold.j1 kq a1 a2 t137 t140 x54_32 a0_0 a0_1 a0_2 a0_3 a0_4 l0_5 true = some (r1, r2, r3, r4, r5, r6, r7, r8)) ∧ Aside0 (kq ≤ kj5) ∧ Aside0 (wc.heap[gb135]? = some (.cells #[.int .u64 a0_0, .int .u64 a0_1, .int .u64 a0_2, .int .u64 a0_3, .int .u64 a0_4, (.slice A0_5 l0_5.length c0_5), .bool true] 25 (0, 0))) ∧ Aside0 (wc.heap[gb136]? = some (.cells #[.int .u64 0, .int .u64 0, .int .u64 0, .int .u64 0, .int .u64 0, (.slice none 0 0), .bool false] 25 (0, 0))) ∧ Aside0 (Below w.heap.size w wc))
       case first =>
        have H := HC33.out
        clear HC33
        by_cases c36 : a0_1 < a0_3
        ·rw [if_pos c36] at H
         have c36b0 : decide (a0_1 < a0_3) = true := decide_eq_true c36
         clear c36
         (first | rw [c36b0] | (simp only [i64_w, i32_w]; rw [c36b0]) | skip)
         have H' := Aside0.mk H
         clear H
         have hnb37 := NB135_136.out
         have hnc37 := NB136_135.out
         obtain ⟨hcz38_0, hcz38_1, hcz38_2, hcz38_3, hcz38_4, hcz38_5, hcz38_6, hfz38_0, hfz38_1, hfz38_2, hfz38_3, hfz38_4, hfz38_5, hfz38_6⟩ := cz7_ (w := wc) BK135.out
         go_wp2
         go_meet
         case rel => exact ⟨_, (true), (by first | rfl | (simp; done) | (simp [*]; done)), H', ⟨by have := HJ5.out; first | omega | exact Nat.le_refl _⟩, ⟨by (with_reducible repeat (first | refine blk_drewN ?_ _ | refine blk_drew ?_ | refine blk_alloc ?_ _)); exact BK135.out⟩, ⟨by (with_reducible repeat (first | refine blk_drewN ?_ _ | refine blk_drew ?_ | refine blk_alloc ?_ _)); exact BK136.out⟩, ⟨by repeat (first | (with_reducible first | exact HB.out | apply below_alloc | apply pw_below_drewN | apply below_drew1 | refine below_set ?_ GE135.out | refine below_set ?_ GE136.out) | exact HB.out)⟩⟩
        ·rw [if_neg c36] at H
         have c36b0 : decide (a0_1 < a0_3) = false := decide_eq_false c36
         clear c36
         (first | rw [c36b0] | (simp only [i64_w, i32_w]; rw [c36b0]) | skip)
         have H' := Aside0.mk H
         clear H
         have hnb39 := NB135_136.out
         have hnc39 := NB136_135.out
         obtain ⟨hcz40_0, hcz40_1, hcz40_2, hcz40_3, hcz40_4, hcz40_5, hcz40_6, hfz40_0, hfz40_1, hfz40_2, hfz40_3, hfz40_4, hfz40_5, hfz40_6⟩ := cz7_ (w := wc) BK135.out
         go_wp2
         go_meet
         case rel => exact ⟨_, (decide (a2 > (IntKind.u64.wrap (a0_1 - a0_3)))), (by first | rfl | (simp; done) | (simp [*]; done)), H', ⟨by have := HJ5.out; first | omega | exact Nat.le_refl _⟩, ⟨by (with_reducible repeat (first | refine blk_drewN ?_ _ | refine blk_drew ?_ | refine blk_alloc ?_ _)); exact BK135.out⟩, ⟨by (with_reducible repeat (first | refine blk_drewN ?_ _ | refine blk_drew ?_ | refine blk_alloc ?_ _)); exact BK136.out⟩, ⟨by repeat (first | (with_reducible first | exact HB.out | apply below_alloc | apply pw_below_drewN | apply below_drew1 | refine below_set ?_ GE135.out | refine below_set ?_ GE136.out) | exact HB.out)⟩⟩
       case rest =>
        clear HC33
        try clear c1
        try clear c2
        try clear p2
        try clear c3
        try clear c8
        try clear c9
        try clear c14
        try clear c14b0
        try clear c14b1
        try clear c15
        try clear c15b0
        try clear c15b1
        try clear c21
        try clear c22
        try clear c23
        try clear c24
        try clear c25
        try clear c26
        try clear c29
        try clear c29b0
        try clear c29b1
        try clear c30
        try clear c34
        try clear c36
        try clear c36b0
        try clear c37
        try clear c39
        try clear hcz10_0
        try clear hcz10_1
        try clear hcz10_2
        try clear hcz10_3
        try clear hcz10_4
        try clear hcz10_5
        try clear hcz10_6
        try clear hcz12_0
        try clear hcz12_1
        try clear hcz12_2
        try clear hcz12_3
        try clear hcz12_4
        try clear hcz12_5
        try clear hcz12_6
        try clear hcz23_0
        try clear hcz23_1
        try clear hcz23_2
        try clear hcz23_3
        try clear hcz23_4
        try clear hcz23_5
        try clear hcz23_6
        try clear hcz27_0
        try clear hcz27_1
        try clear hcz27_2
        try clear hcz27_3
        try clear hcz27_4
        try clear hcz27_5
        try clear hcz27_6
        try clear hcz28_0
        try clear hcz28_1
        try clear hcz28_2
        try clear hcz28_3
        try clear hcz28_4
        try clear hcz28_5
        try clear hcz28_6
        try clear hcz31_0
        try clear hcz31_1
        try clear hcz31_2
        try clear hcz31_3
        try clear hcz31_4
        try clear hcz31_5
        try clear hcz31_6
        try clear hcz32_0
        try clear hcz32_1
        try clear hcz32_2
        try clear hcz32_3
        try clear hcz32_4
        try clear hcz32_5
        try clear hcz32_6
        try clear hcz35_0
        try clear hcz35_1
        try clear hcz35_2
        try clear hcz35_3
        try clear hcz35_4
        try clear hcz35_5
        try clear hcz35_6
        try clear hcz38_0
        try clear hcz38_1
        try clear hcz38_2
        try clear hcz38_3
        try clear hcz38_4
        try clear hcz38_5
        try clear hcz38_6
        try clear hcz40_0
        try clear hcz40_1
        try clear hcz40_2
        try clear hcz40_3
        try clear hcz40_4
        try clear hcz40_5
        try clear hcz40_6
        try clear hfz10_0
        try clear hfz10_1
        try clear hfz10_2
        try clear hfz10_3
        try clear hfz10_4
        try clear hfz10_5
        try clear hfz10_6
        try clear hfz12_0
        try clear hfz12_1
        try clear hfz12_2
        try clear hfz12_3
        try clear hfz12_4
        try clear hfz12_5
        try clear hfz12_6
        try clear hfz23_0
        try clear hfz23_1
        try clear hfz23_2
        try clear hfz23_3
        try clear hfz23_4
        try clear hfz23_5
        try clear hfz23_6
        try clear hfz27_0
        try clear hfz27_1
        try clear hfz27_2
        try clear hfz27_3
        try clear hfz27_4
        try clear hfz27_5
        try clear hfz27_6
        try clear hfz28_0
        try clear hfz28_1
        try clear hfz28_2
        try clear hfz28_3
        try clear hfz28_4
        try clear hfz28_5
        try clear hfz28_6
        try clear hfz31_0
        try clear hfz31_1
        try clear hfz31_2
        try clear hfz31_3
        try clear hfz31_4
        try clear hfz31_5
        try clear hfz31_6
        try clear hfz32_0
        try clear hfz32_1
        try clear hfz32_2
        try clear hfz32_3
        try clear hfz32_4
        try clear hfz32_5
        try clear hfz32_6
        try clear hfz35_0
        try clear hfz35_1
        try clear hfz35_2
        try clear hfz35_3
        try clear hfz35_4
        try clear hfz35_5
        try clear hfz35_6
        try clear hfz38_0
        try clear hfz38_1
        try clear hfz38_2
        try clear hfz38_3
        try clear hfz38_4
        try clear hfz38_5
        try clear hfz38_6
        try clear hfz40_0
        try clear hfz40_1
        try clear hfz40_2
        try clear hfz40_3
        try clear hfz40_4
        try clear hfz40_5
        try clear hfz40_6
        try clear p2
        obtain ⟨kq, x54_32, rfl, HA, HJ32, BK135, BK136, HB⟩ := hcut
        cases kq with
        | zero => exact absurd HA.out (by simp [channel_Hold.j1])
        | succ kj32 =>
         have H := HA.out
         clear HA
         simp only [channel_Hold.j1] at H
         by_cases c41 : x54_32 = true
         ·subst c41
          have H1 : (some (0, 0, 0, 0, 0, ([] : List (S44)), false, 9)) = some (r1, r2, r3, r4, r5, r6, r7, r8) := by rw [if_pos rfl] at H; exact H
          clear H
          have H := H1
          clear H1
          simp only [Option.some.injEq, Prod.mk.injEq] at H
          obtain ⟨rfl, rfl, rfl, rfl, rfl, rfl, rfl, rfl⟩ := H
          have hnb42 := NB136_135.out
          have hnc42 := NB135_136.out
          obtain ⟨hcz43_0, hcz43_1, hcz43_2, hcz43_3, hcz43_4, hcz43_5, hcz43_6, hfz43_0, hfz43_1, hfz43_2, hfz43_3, hfz43_4, hfz43_5, hfz43_6⟩ := cz7_ (w := wc) BK136.out
          go_wp2
          refine bodyPost_ret (results_ct rfl _ _ gb136 25 #[.int .u64 0, .int .u64 0, .int .u64 0, .int .u64 0, .int .u64 0, .slice none 0 0, .bool false] (0, 0) _ rfl (by (with_reducible repeat (first | refine blk_drewN ?_ _ | refine blk_drew ?_ | refine blk_alloc ?_ _)); refine blk_put (cs := #[.int .u64 0, .int .u64 0, .int .u64 0, .int .u64 0, .int .u64 0, .slice none 0 0, .bool false]) ?_ 6 _ rfl; refine blk_put (cs := #[.int .u64 0, .int .u64 0, .int .u64 0, .int .u64 0, .int .u64 0, .slice none 0 0, .bool false]) ?_ 5 _ rfl; refine blk_put (cs := #[.int .u64 0, .int .u64 0, .int .u64 0, .int .u64 0, .int .u64 0, .slice none 0 0, .bool false]) ?_ 4 _ rfl; refine blk_put (cs := #[.int .u64 0, .int .u64 0, .int .u64 0, .int .u64 0, .int .u64 0, .slice none 0 0, .bool false]) ?_ 3 _ rfl; refine blk_put (cs := #[.int .u64 0, .int .u64 0, .int .u64 0, .int .u64 0, .int .u64 0, .slice none 0 0, .bool false]) ?_ 2 _ rfl; refine blk_put (cs := #[.int .u64 0, .int .u64 0, .int .u64 0, .int .u64 0, .int .u64 0, .slice none 0 0, .bool false]) ?_ 1 _ rfl; refine blk_put (cs := #[.int .u64 0, .int .u64 0, .int .u64 0, .int .u64 0, .int .u64 0, .slice none 0 0, .bool false]) ?_ 0 _ rfl; (with_reducible repeat (first | refine blk_drewN ?_ _ | refine blk_drew ?_ | refine blk_alloc ?_ _)); exact BK136.out) Try.underlying25 rfl (by kernel_rfl)) rfl ?_
          exact ⟨_, by first | rfl | (simp [errW_none, errW_some] <;> rfl) | (simp [*, errW_none, errW_some] <;> rfl), by first | exact Kd.R_nil _ _ _ _ _ | exact Kd.N_nil _ _ _ _ _ | exact Kd.V_nil _ _ _ _ _ | exact Kd.Q_nil _ _ _ _ _ | exact Kd.S_nil _ _ _ _ _, by repeat (first | (with_reducible first | exact HB.out | apply below_alloc | apply pw_below_drewN | apply below_drew1 | refine below_set ?_ GE135.out | refine below_set ?_ GE136.out) | exact HB.out)⟩
         ·replace c41 := Bool.eq_false_iff.mpr c41
          subst c41
          have H1 : (if a2 > (IntKind.u64.wrap (a0_4 - t137)) then (some (0, 0, 0, 0, 0, ([] : List (S44)), false, 8)) else ((slices_Clone_Hold.f l0_5).bind fun t146 => ((slices_Insert_Hold.f t146 t140 (([(⟨a1, a2⟩ : S44)] : List (S44)))).bind fun t152 => (some (a0_0, IntKind.u64.wrap (a0_1 - a2), a0_2, a0_3, a0_4, t152, true, 0))))) = some (r1, r2, r3, r4, r5, r6, r7, r8) := by rw [if_neg (show ¬ (false = true) by decide)] at H; exact H
          clear H
          have H := H1
          clear H1
          by_cases c44 : a2 > (IntKind.u64.wrap (a0_4 - t137))
          ·rw [if_pos c44] at H
           have c44b0 : decide ((IntKind.u64.wrap (a0_4 - t137)) < a2) = true := decide_eq_true c44
           clear c44
           simp only [Option.some.injEq, Prod.mk.injEq] at H
           obtain ⟨rfl, rfl, rfl, rfl, rfl, rfl, rfl, rfl⟩ := H
           have hnb45 := NB135_136.out
           have hnc45 := NB136_135.out
           obtain ⟨hcz46_0, hcz46_1, hcz46_2, hcz46_3, hcz46_4, hcz46_5, hcz46_6, hfz46_0, hfz46_1, hfz46_2, hfz46_3, hfz46_4, hfz46_5, hfz46_6⟩ := cz7_ (w := wc) BK135.out
           obtain ⟨hcz47_0, hcz47_1, hcz47_2, hcz47_3, hcz47_4, hcz47_5, hcz47_6, hfz47_0, hfz47_1, hfz47_2, hfz47_3, hfz47_4, hfz47_5, hfz47_6⟩ := cz7_ (w := wc) BK136.out
           go_wp2
           refine bodyPost_ret (results_ct rfl _ _ gb136 25 #[.int .u64 0, .int .u64 0, .int .u64 0, .int .u64 0, .int .u64 0, .slice none 0 0, .bool false] (0, 0) _ rfl (by (with_reducible repeat (first | refine blk_drewN ?_ _ | refine blk_drew ?_ | refine blk_alloc ?_ _)); refine blk_put (cs := #[.int .u64 0, .int .u64 0, .int .u64 0, .int .u64 0, .int .u64 0, .slice none 0 0, .bool false]) ?_ 6 _ rfl; refine blk_put (cs := #[.int .u64 0, .int .u64 0, .int .u64 0, .int .u64 0, .int .u64 0, .slice none 0 0, .bool false]) ?_ 5 _ rfl; refine blk_put (cs := #[.int .u64 0, .int .u64 0, .int .u64 0, .int .u64 0, .int .u64 0, .slice none 0 0, .bool false]) ?_ 4 _ rfl; refine blk_put (cs := #[.int .u64 0, .int .u64 0, .int .u64 0, .int .u64 0, .int .u64 0, .slice none 0 0, .bool false]) ?_ 3 _ rfl; refine blk_put (cs := #[.int .u64 0, .int .u64 0, .int .u64 0, .int .u64 0, .int .u64 0, .slice none 0 0, .bool false]) ?_ 2 _ rfl; refine blk_put (cs := #[.int .u64 0, .int .u64 0, .int .u64 0, .int .u64 0, .int .u64 0, .slice none 0 0, .bool false]) ?_ 1 _ rfl; refine blk_put (cs := #[.int .u64 0, .int .u64 0, .int .u64 0, .int .u64 0, .int .u64 0, .slice none 0 0, .bool false]) ?_ 0 _ rfl; (with_reducible repeat (first | refine blk_drewN ?_ _ | refine blk_drew ?_ | refine blk_alloc ?_ _)); exact BK136.out) Try.underlying25 rfl (by kernel_rfl)) rfl ?_
           exact ⟨_, by first | rfl | (simp [errW_none, errW_some] <;> rfl) | (simp [*, errW_none, errW_some] <;> rfl), by first | exact Kd.R_nil _ _ _ _ _ | exact Kd.N_nil _ _ _ _ _ | exact Kd.V_nil _ _ _ _ _ | exact Kd.Q_nil _ _ _ _ _ | exact Kd.S_nil _ _ _ _ _, by repeat (first | (with_reducible first | exact HB.out | apply below_alloc | apply pw_below_drewN | apply below_drew1 | refine below_set ?_ GE135.out | refine below_set ?_ GE136.out) | exact HB.out)⟩
          ·rw [if_neg c44] at H
           have c44b0 : decide ((IntKind.u64.wrap (a0_4 - t137)) < a2) = false := decide_eq_false c44
           clear c44
           replace H := Option.bind_eq_some_iff.mp H
           obtain ⟨t146, A480, H⟩ := H
           replace H : ((slices_Insert_Hold.f t146 t140 (([(⟨a1, a2⟩ : S44)] : List (S44)))).bind fun t152 => (some (a0_0, IntKind.u64.wrap (a0_1 - a2), a0_2, a0_3, a0_4, t152, true, 0))) = some (r1, r2, r3, r4, r5, r6, r7, r8) := H
           have A48 := Aside0.mk A480
           clear A480
           obtain ⟨y149, hy149⟩ : ∃ y_ : List (S44), y_ = (([(⟨a1, a2⟩ : S44)] : List (S44))) := ⟨_, rfl⟩
           replace H : ((slices_Insert_Hold.f t146 t140 y149).bind fun t152 => (some (a0_0, IntKind.u64.wrap (a0_1 - a2), a0_2, a0_3, a0_4, t152, true, 0))) = some (r1, r2, r3, r4, r5, r6, r7, r8) := by first | (rw [hy149]; with_reducible exact H) | (have H2_ := (Option.bind_some _ _).symm.trans H; rw [hy149]; with_reducible exact H2_) | (have H2_ := (Option.bind_some _ _).symm.trans H; with_reducible exact H2_) | with_reducible exact H | (rw [hy149]; exact H) | exact H
           have Ny149 := Aside0.mk hy149
           clear hy149
           replace H := Option.bind_eq_some_iff.mp H
           obtain ⟨t152, A490, H⟩ := H
           replace H : (some (a0_0, IntKind.u64.wrap (a0_1 - a2), a0_2, a0_3, a0_4, t152, true, 0)) = some (r1, r2, r3, r4, r5, r6, r7, r8) := H
           have A49 := Aside0.mk A490
           clear A490
           simp only [Option.some.injEq, Prod.mk.injEq] at H
           obtain ⟨rfl, rfl, rfl, rfl, rfl, rfl, rfl, rfl⟩ := H
           have hnb50 := NB135_136.out
           have hnc50 := NB136_135.out
           obtain ⟨hcz51_0, hcz51_1, hcz51_2, hcz51_3, hcz51_4, hcz51_5, hcz51_6, hfz51_0, hfz51_1, hfz51_2, hfz51_3, hfz51_4, hfz51_5, hfz51_6⟩ := cz7_ (w := wc) BK135.out
           go_wp2_with (first | ((with_reducible refine gate_callee (f := 89) rfl ?_); refine goesL_ (some 85) rfl rfl Try.func89 (by kernel_rfl) rfl #[.slice A0_5 l0_5.length c0_5] rfl (by (try simp only [List.map_toArray, List.map_cons, List.map_nil]); first | done | rfl | (simp only [List.length_drop, List.length_take]; rfl)) ?_; (with_reducible refine (slices_Clone_Hold.calls _ _ l0_5 t146 _ ?side1 ?side2 A48.out).mono ?_); (case side1 => exact Kd.C_below HR0_5.out (belN HB)); (case side2 => exact HC0_5.out); rintro e w52 ⟨v147, rfl, ho0, hb⟩; refine ⟨_, rfl, ?_⟩; have n0_ := Aside0.mk (Kd.R_lower ho0 (below_size (belN HB))); have n1_ := Aside0.mk (blk_below (g := gb135) (o := .cells #[.int .u64 a0_0, .int .u64 (IntKind.u64.wrap (a0_1 - a2)), .int .u64 a0_2, .int .u64 a0_3, .int .u64 a0_4, .slice A0_5 l0_5.length c0_5, .bool true] 25 (0, 0)) (by (with_reducible repeat (first | refine blk_drewN ?_ _ | refine blk_drew ?_ | refine blk_alloc ?_ _)); refine blk_put (cs := #[.int .u64 a0_0, .int .u64 a0_1, .int .u64 a0_2, .int .u64 a0_3, .int .u64 a0_4, .slice A0_5 l0_5.length c0_5, .bool true]) ?_ 1 _ rfl; (with_reducible repeat (first | refine blk_drewN ?_ _ | refine blk_drew ?_ | refine blk_alloc ?_ _)); exact BK135.out) hb); have n2_ := Aside0.mk (blk_below (g := gb136) (blkF BK136) hb); have n3_ := Aside0.mk (below_step (belN HB) hb); clear BK135; clear BK136; clear HB; have HO148 := n0_; have BK135 := n1_; have BK136 := n2_; have HB := n3_; clear n0_ n1_ n2_ n3_; (try clear hb); (try clear hb2); (try clear hk); (try clear hi); (try clear ho0)) | ((with_reducible refine gate_dst (N := 90) rfl ?_); (try (refine gate_guard (by rfl) ?_; dsimp only)); refine Kd.R_lit k44 _ 44 ?hg (N := 90) ?hd (xs := ([(⟨a1, a2⟩ : S44)] : List (S44))) (inner := [.int .u64 a1, .int .u64 a2]) (ok := fun _ => True) (okp := fun _ => True) ?hr ?hp (fun _ hk => hk) trivial (Below.refl _ _) (Nat.le_refl _) (by simp) ?_; (case hd => rfl); (case hg => rfl); (case hr => first | (go_simp; done) | (go_simp; rfl)); (case hp => exact (Reps.c2 (show Kd.M k44 _ _ _ (⟨a1, a2⟩ : S44) [.int .u64 a1, .int .u64 a2] from (k44_mkM _ _ _ (⟨a1, a2⟩ : S44) )) (Reps.none _ _))); intro v150 w53 ho54 hb hg_ hnew_; clear hg_ hnew_; (first | rw [← Ny149.out] at ho54 | (simp only [Int.reduceToNat] at ho54; rw [← Ny149.out] at ho54)); have n0_ := Aside0.mk (Kd.R_elder' (Kd.RN HO148) (Kd.R_base ho54) hb); have n1_ := Aside0.mk (Kd.R_lower (Kd.R_new' ho54 (Kd.R_lt (Kd.RN HO148))) (below_size (belN HB))); have n2_ := Aside0.mk (blk_below (g := gb135) (blkN BK135) hb); have n3_ := Aside0.mk (blk_below (g := gb136) (blkN BK136) hb); have n4_ := Aside0.mk (below_step (belN HB) hb); clear HO148; clear BK135; clear BK136; clear HB; have HO148 := n0_; have HO151 := n1_; have BK135 := n2_; have BK136 := n3_; have HB := n4_; clear n0_ n1_ n2_ n3_ n4_; clear hb ho54; obtain ⟨Ao55, co55, eo55⟩ := Kd.R_slice HO148.out; subst eo55; obtain ⟨Ao56, co56, eo56⟩ := Kd.R_slice HO151.out; subst eo56) | ((with_reducible refine gate_callee (f := 88) rfl ?_); refine goesL_ (some 91) rfl rfl Try.func88 (by kernel_rfl) rfl #[.slice Ao55 t146.length co55, .int .i64 t140, .slice Ao56 y149.length co56] rfl (by (try simp only [List.map_toArray, List.map_cons, List.map_nil]); first | done | rfl | (simp only [List.length_drop, List.length_take]; rfl)) ?_; (with_reducible refine (slices_Insert_Hold.calls (fun k_ => some k_ = (.slice Ao55 t146.length co55 : Value).ownBlock) (.slice Ao55 t146.length co55) t146 t140 (fun k_ => some k_ = (.slice Ao56 y149.length co56 : Value).ownBlock) (.slice Ao56 y149.length co56) y149 t152 w _ ?side1 ?side2 ?side3 ?side4 ?side5 A49.out).mono ?_); (case side1 => repeat (first | (with_reducible first | exact HB.out | apply below_alloc | apply pw_below_drewN | apply below_drew1 | refine below_set ?_ GE135.out | refine below_set ?_ GE136.out) | exact HB.out)); (case side2 => exact Kd.R_tight rfl HO148.out); (case side3 => exact fun k_ e_ => (HO148.out.1 k_ e_.symm).2); (case side4 => exact Kd.R_tight rfl HO151.out); (case side5 => exact fun k_ e_ => (HO151.out.1 k_ e_.symm).2); rintro e w57 ⟨v153, rfl, ho0, hb, hkp⟩; refine ⟨_, rfl, ?_⟩; have n0_ := Aside0.mk (blk_kept (blkN BK135) hkp (fun hs_ => Or.elim hs_ (fun e_ => (fun e_ => (Kd.R_ne HO148.out BK135.out (by decide)) e_) e_) (fun e_ => (fun e_ => (Kd.R_ne HO151.out BK135.out (by decide)) e_) e_))); have n1_ := Aside0.mk (blk_kept (blkN BK136) hkp (fun hs_ => Or.elim hs_ (fun e_ => (fun e_ => (Kd.R_ne HO148.out BK136.out (by decide)) e_) e_) (fun e_ => (fun e_ => (Kd.R_ne HO151.out BK136.out (by decide)) e_) e_))); have n2_ := Aside0.mk (Kd.R_mono (ok' := fun k_ => True) ho0 (fun k_ hk_ => trivial)); have n3_ := Aside0.mk (hb); clear BK135; clear BK136; clear HB; clear HO148; clear HO151; have BK135 := n0_; have BK136 := n1_; have HO154 := n2_; have HB := n3_; clear n0_ n1_ n2_ n3_; (try clear hb); (try clear hkp); (try clear ho0); obtain ⟨Ao58, co58, eo58⟩ := Kd.R_slice HO154.out; subst eo58; obtain ⟨hcz59_0, hcz59_1, hcz59_2, hcz59_3, hcz59_4, hcz59_5, hcz59_6, hfz59_0, hfz59_1, hfz59_2, hfz59_3, hfz59_4, hfz59_5, hfz59_6⟩ := cz7_ (w := w57) BK135.out; obtain ⟨hcz60_0, hcz60_1, hcz60_2, hcz60_3, hcz60_4, hcz60_5, hcz60_6, hfz60_0, hfz60_1, hfz60_2, hfz60_3, hfz60_4, hfz60_5, hfz60_6⟩ := cz7_ (w := w57) BK136.out))
           refine bodyPost_ret (results_ct rfl _ _ gb136 25 #[.int .u64 a0_0, .int .u64 (IntKind.u64.wrap (a0_1 - a2)), .int .u64 a0_2, .int .u64 a0_3, .int .u64 a0_4, .slice Ao58 t152.length co58, .bool true] (0, 0) _ rfl (by (with_reducible repeat (first | refine blk_drewN ?_ _ | refine blk_drew ?_ | refine blk_alloc ?_ _)); refine blk_put (cs := #[.int .u64 a0_0, .int .u64 (IntKind.u64.wrap (a0_1 - a2)), .int .u64 a0_2, .int .u64 a0_3, .int .u64 a0_4, .slice Ao58 t152.length co58, .bool false]) ?_ 6 _ rfl; refine blk_put (cs := #[.int .u64 a0_0, .int .u64 (IntKind.u64.wrap (a0_1 - a2)), .int .u64 a0_2, .int .u64 a0_3, .int .u64 a0_4, .slice none 0 0, .bool false]) ?_ 5 _ rfl; refine blk_put (cs := #[.int .u64 a0_0, .int .u64 (IntKind.u64.wrap (a0_1 - a2)), .int .u64 a0_2, .int .u64 a0_3, .int .u64 0, .slice none 0 0, .bool false]) ?_ 4 _ rfl; refine blk_put (cs := #[.int .u64 a0_0, .int .u64 (IntKind.u64.wrap (a0_1 - a2)), .int .u64 a0_2, .int .u64 0, .int .u64 0, .slice none 0 0, .bool false]) ?_ 3 _ rfl; refine blk_put (cs := #[.int .u64 a0_0, .int .u64 (IntKind.u64.wrap (a0_1 - a2)), .int .u64 0, .int .u64 0, .int .u64 0, .slice none 0 0, .bool false]) ?_ 2 _ rfl; refine blk_put (cs := #[.int .u64 a0_0, .int .u64 0, .int .u64 0, .int .u64 0, .int .u64 0, .slice none 0 0, .bool false]) ?_ 1 _ rfl; refine blk_put (cs := #[.int .u64 0, .int .u64 0, .int .u64 0, .int .u64 0, .int .u64 0, .slice none 0 0, .bool false]) ?_ 0 _ rfl; (with_reducible repeat (first | refine blk_drewN ?_ _ | refine blk_drew ?_ | refine blk_alloc ?_ _)); refine blk_far ?_ NB136_135.out _; (with_reducible repeat (first | refine blk_drewN ?_ _ | refine blk_drew ?_ | refine blk_alloc ?_ _)); exact BK136.out) Try.underlying25 rfl (by kernel_rfl)) rfl ?_
           exact ⟨_, by first | rfl | (simp [errW_none, errW_some] <;> rfl) | (simp [*, errW_none, errW_some] <;> rfl), by (with_reducible repeat (first | apply Kd.R_alloc | apply Kd.R_drewN | apply Kd.R_drew)); exact Kd.R_mono (Kd.R_far (p := ⟨gb136, 6, none⟩) (Kd.R_far (p := ⟨gb136, 5, none⟩) (Kd.R_far (p := ⟨gb136, 4, none⟩) (Kd.R_far (p := ⟨gb136, 3, none⟩) (Kd.R_far (p := ⟨gb136, 2, none⟩) (Kd.R_far (p := ⟨gb136, 1, none⟩) (Kd.R_far (p := ⟨gb136, 0, none⟩) (Kd.R_far (p := ⟨gb135, 5, none⟩) (Kd.R_types (Kd.R_types HO154.out BK135.out (by decide)) BK136.out (by decide)) (fun _ hk => hk.1.2) (.slice Ao58 t152.length co58)) (fun _ hk => hk.2) (.int .u64 a0_0)) (fun _ hk => hk.2) (.int .u64 (IntKind.u64.wrap (a0_1 - a2)))) (fun _ hk => hk.2) (.int .u64 a0_2)) (fun _ hk => hk.2) (.int .u64 a0_3)) (fun _ hk => hk.2) (.int .u64 a0_4)) (fun _ hk => hk.2) (.slice Ao58 t152.length co58)) (fun _ hk => hk.2) (.bool true)) (fun _ hk => trivial), by repeat (first | (with_reducible first | exact HB.out | apply below_alloc | apply pw_below_drewN | apply below_drew1 | refine below_set ?_ GE135.out | refine below_set ?_ GE136.out) | exact HB.out)⟩
    ·replace c24 := Bool.eq_false_iff.mpr c24
     subst c24
     have H1 : (some (0, 0, 0, 0, 0, ([] : List (S44)), false, 14)) = some (r1, r2, r3, r4, r5, r6, r7, r8) := by rw [if_neg (show ¬ (false = true) by decide)] at H; exact H
     clear H
     have H := H1
     clear H1
     simp only [Option.some.injEq, Prod.mk.injEq] at H
     obtain ⟨rfl, rfl, rfl, rfl, rfl, rfl, rfl, rfl⟩ := H
     have hnb61 := NB135_136.out
     have hnc61 := NB136_135.out
     obtain ⟨hcz62_0, hcz62_1, hcz62_2, hcz62_3, hcz62_4, hcz62_5, hcz62_6, hfz62_0, hfz62_1, hfz62_2, hfz62_3, hfz62_4, hfz62_5, hfz62_6⟩ := cz7_ (w := wc) BK135.out
     obtain ⟨hcz63_0, hcz63_1, hcz63_2, hcz63_3, hcz63_4, hcz63_5, hcz63_6, hfz63_0, hfz63_1, hfz63_2, hfz63_3, hfz63_4, hfz63_5, hfz63_6⟩ := cz7_ (w := wc) BK136.out
     go_wp2
     refine bodyPost_ret (results_ct rfl _ _ gb136 25 #[.int .u64 0, .int .u64 0, .int .u64 0, .int .u64 0, .int .u64 0, .slice none 0 0, .bool false] (0, 0) _ rfl (by (with_reducible repeat (first | refine blk_drewN ?_ _ | refine blk_drew ?_ | refine blk_alloc ?_ _)); refine blk_put (cs := #[.int .u64 0, .int .u64 0, .int .u64 0, .int .u64 0, .int .u64 0, .slice none 0 0, .bool false]) ?_ 6 _ rfl; refine blk_put (cs := #[.int .u64 0, .int .u64 0, .int .u64 0, .int .u64 0, .int .u64 0, .slice none 0 0, .bool false]) ?_ 5 _ rfl; refine blk_put (cs := #[.int .u64 0, .int .u64 0, .int .u64 0, .int .u64 0, .int .u64 0, .slice none 0 0, .bool false]) ?_ 4 _ rfl; refine blk_put (cs := #[.int .u64 0, .int .u64 0, .int .u64 0, .int .u64 0, .int .u64 0, .slice none 0 0, .bool false]) ?_ 3 _ rfl; refine blk_put (cs := #[.int .u64 0, .int .u64 0, .int .u64 0, .int .u64 0, .int .u64 0, .slice none 0 0, .bool false]) ?_ 2 _ rfl; refine blk_put (cs := #[.int .u64 0, .int .u64 0, .int .u64 0, .int .u64 0, .int .u64 0, .slice none 0 0, .bool false]) ?_ 1 _ rfl; refine blk_put (cs := #[.int .u64 0, .int .u64 0, .int .u64 0, .int .u64 0, .int .u64 0, .slice none 0 0, .bool false]) ?_ 0 _ rfl; (with_reducible repeat (first | refine blk_drewN ?_ _ | refine blk_drew ?_ | refine blk_alloc ?_ _)); exact BK136.out) Try.underlying25 rfl (by kernel_rfl)) rfl ?_
     exact ⟨_, by first | rfl | (simp [errW_none, errW_some] <;> rfl) | (simp [*, errW_none, errW_some] <;> rfl), by first | exact Kd.R_nil _ _ _ _ _ | exact Kd.N_nil _ _ _ _ _ | exact Kd.V_nil _ _ _ _ _ | exact Kd.Q_nil _ _ _ _ _ | exact Kd.S_nil _ _ _ _ _, by repeat (first | (with_reducible first | exact HB.out | apply below_alloc | apply pw_below_drewN | apply below_drew1 | refine below_set ?_ GE135.out | refine below_set ?_ GE136.out) | exact HB.out)⟩

/-! ### channel_All: function 30 -/
def channel_All.f (k : Nat) (a0_0 : Int) (a0_1 : Int) (a0_2 : Int) (a0_3 : Int) (a0_4 : Int) (l0_5 : List (S44)) (a0_6 : Bool) : Option (Int × Int) := (channel_sums.f k a0_0 a0_1 a0_2 a0_3 a0_4 l0_5 a0_6).bind fun bt156 => (some (bt156.2.1, bt156.2.2))
theorem channel_All.mono : ∀ a0 a1 a2 a3 a4 a5 a6 k, LeO (channel_All.f k a0 a1 a2 a3 a4 a5 a6) (channel_All.f (k + 1) a0 a1 a2 a3 a4 a5 a6) := by
  intro a0 a1 a2 a3 a4 a5 a6 k
  unfold channel_All.f
  repeat' first
      | (with_reducible exact channel_sums.mono _ _ _ _ _ _ _ _)
      | (with_reducible exact LeO.refl _)
      | (with_reducible exact LeO.none _)
      | (with_reducible refine LeO.ite ?_ ?_)
      | (with_reducible refine LeO.bind ?_ (fun _ => ?_))
      | exact channel_sums.mono _ _ _ _ _ _ _ _
      | exact LeO.none _
      | refine LeO.ite ?_ ?_
      | refine LeO.bind ?_ (fun _ => ?_)
set_option maxHeartbeats 8000000 in
set_option maxRecDepth 100000 in
theorem channel_All.calls (k : Nat) (a0_0 : Int) (a0_1 : Int) (a0_2 : Int) (a0_3 : Int) (a0_4 : Int) (A0_5 : Option Addr) (c0_5 : Nat) (l0_5 : List (S44)) (a0_6 : Bool) (r1 : Int) (r2 : Int) (w : World) (hr0_5 : Kd.C k44 w A0_5 l0_5.length l0_5) (hc0_5 : l0_5.length ≤ c0_5) (h : channel_All.f k a0_0 a0_1 a0_2 a0_3 a0_4 l0_5 a0_6 = some (r1, r2)) :
    Calls Try.prog 30 #[.agg #[.int .u64 a0_0, .int .u64 a0_1, .int .u64 a0_2, .int .u64 a0_3, .int .u64 a0_4, .slice A0_5 l0_5.length c0_5, .bool a0_6]] w fun e w' => e = .returned (.tuple #[.int .u64 r1, .int .i64 r2]) ∧ Below w.heap.size w w' := by
  have hu25 := Try.underlying25
  have HR0_5 := Aside0.mk hr0_5
  have HC0_5 := Aside0.mk hc0_5
  clear hr0_5 hc0_5
  have HB := Aside0.mk (Below.refl w.heap.size w)
  have H : ((channel_sums.f k a0_0 a0_1 a0_2 a0_3 a0_4 l0_5 a0_6).bind fun bt156 => (some (bt156.2.1, bt156.2.2))) = some (r1, r2) := h
  clear h
  replace H := Option.bind_eq_some_iff.mp H
  obtain ⟨⟨t156, t157, t158⟩, A20, H⟩ := H
  replace H : (some (t157, t158)) = some (r1, r2) := H
  have A2 := Aside0.mk A20
  clear A20
  simp only [Option.some.injEq, Prod.mk.injEq] at H
  obtain ⟨rfl, rfl⟩ := H
  go_enter Try.func30, Try.ntmps30
  go_wp2_with (first | ((with_reducible refine gate_dst (N := 1) rfl ?_); refine box_event ?hg (N := 1) ?hd (cs := #[.int .u64 a0_0, .int .u64 a0_1, .int .u64 a0_2, .int .u64 a0_3, .int .u64 a0_4, .slice A0_5 l0_5.length c0_5, .bool a0_6]) (t := 25) ?hr ?_; (case hd => rfl); (case hg => rfl); (case hr => first | (go_simp; done) | (go_simp; rfl)); intro gb155 hg w3 hbox hb; have n0_ := Aside0.mk (below_step (belN HB) hb); have n1_ := Aside0.mk (hbox); have n2_ := Aside0.mk ((by rw [hg]; exact (below_size (belN HB)) : w.heap.size ≤ gb155)); have n3_ := Aside0.mk ((by rw [hg]; exact (below_size (belN HB)) : w.heap.size ≤ gb155)); clear HB; have HB := n0_; have BK155 := n1_; have GW155 := n2_; have GE155 := n3_; clear n0_ n1_ n2_ n3_; clear hb hbox hg; obtain ⟨hcz4_0, hcz4_1, hcz4_2, hcz4_3, hcz4_4, hcz4_5, hcz4_6, hfz4_0, hfz4_1, hfz4_2, hfz4_3, hfz4_4, hfz4_5, hfz4_6⟩ := cz7_ (w := w3) BK155.out) | ((with_reducible refine gate_callee (f := 83) rfl ?_); refine goesL_ (some 9) rfl rfl Try.func83 (by kernel_rfl) rfl #[.agg #[.int .u64 a0_0, .int .u64 a0_1, .int .u64 a0_2, .int .u64 a0_3, .int .u64 a0_4, .slice A0_5 l0_5.length c0_5, .bool a0_6]] rfl (by (try simp only [List.map_toArray, List.map_cons, List.map_nil]); first | done | rfl | (simp only [List.length_drop, List.length_take]; rfl)) ?_; (with_reducible refine (channel_sums.calls k a0_0 a0_1 a0_2 a0_3 a0_4 _ _ l0_5 a0_6 t156 t157 t158 _ ?side1 ?side2 A2.out).mono ?_); (case side1 => repeat (first | exact (Kd.C_below HR0_5.out HB.out) | (with_reducible refine Kd.C_alloc ?_ _) | (with_reducible refine Kd.C_drewN ?_ _) | (with_reducible refine Kd.C_drew ?_))); (case side2 => exact HC0_5.out); rintro e w5 ⟨rfl, hb⟩; refine ⟨_, rfl, ?_⟩; have n0_ := Aside0.mk (blk_below (g := gb155) (blkN BK155) hb); have n1_ := Aside0.mk (below_step (belN HB) hb); clear BK155; clear HB; have BK155 := n0_; have HB := n1_; clear n0_ n1_; (try clear hb); (try clear hb2); (try clear hk); (try clear hi)))
  go_ret2
  exact ⟨by first | rfl | (simp [errW_none, errW_some] <;> rfl) | (simp [*, errW_none, errW_some] <;> rfl), by repeat (first | (with_reducible first | exact HB.out | apply below_alloc | apply pw_below_drewN | apply below_drew1 | refine below_set ?_ GE155.out) | exact HB.out)⟩

/-! ### ledger_order: function 100 -/
def ledger_order.f (a0_0 : Int) (a0_1 : Int) (a0_2 : Int) (a0_3 : Int) (a0_4 : Int) (l0_5 : List (S44)) (a0_6 : Bool) (a1 : Int) : Option (Int) := (cmp_Compare_uint64.f a0_0 a1).bind fun t160 => (some t160)
set_option maxHeartbeats 8000000 in
set_option maxRecDepth 100000 in
theorem ledger_order.calls (a0_0 : Int) (a0_1 : Int) (a0_2 : Int) (a0_3 : Int) (a0_4 : Int) (A0_5 : Option Addr) (c0_5 : Nat) (l0_5 : List (S44)) (a0_6 : Bool) (a1 : Int) (r : Int) (w : World) (hr0_5 : Kd.C k44 w A0_5 l0_5.length l0_5) (hc0_5 : l0_5.length ≤ c0_5) (h : ledger_order.f a0_0 a0_1 a0_2 a0_3 a0_4 l0_5 a0_6 a1 = some r) :
    Calls Try.prog 100 #[.agg #[.int .u64 a0_0, .int .u64 a0_1, .int .u64 a0_2, .int .u64 a0_3, .int .u64 a0_4, .slice A0_5 l0_5.length c0_5, .bool a0_6], .int .u64 a1] w fun e w' => e = .returned (.int .i64 r) ∧ Below w.heap.size w w' := by
  have hu25 := Try.underlying25
  have HR0_5 := Aside0.mk hr0_5
  have HC0_5 := Aside0.mk hc0_5
  clear hr0_5 hc0_5
  have HB := Aside0.mk (Below.refl w.heap.size w)
  have H : ((cmp_Compare_uint64.f a0_0 a1).bind fun t160 => (some t160)) = some r := h
  clear h
  replace H := Option.bind_eq_some_iff.mp H
  obtain ⟨t160, A30, H⟩ := H
  replace H : (some t160) = some r := H
  have A3 := Aside0.mk A30
  clear A30
  obtain rfl := Option.some.inj H
  go_enter Try.func100, Try.ntmps100
  go_wp2_with (first | ((with_reducible refine gate_dst (N := 2) rfl ?_); refine box_event ?hg (N := 2) ?hd (cs := #[.int .u64 a0_0, .int .u64 a0_1, .int .u64 a0_2, .int .u64 a0_3, .int .u64 a0_4, .slice A0_5 l0_5.length c0_5, .bool a0_6]) (t := 25) ?hr ?_; (case hd => rfl); (case hg => rfl); (case hr => first | (go_simp; done) | (go_simp; rfl)); intro gb159 hg w4 hbox hb; have n0_ := Aside0.mk (below_step (belN HB) hb); have n1_ := Aside0.mk (hbox); have n2_ := Aside0.mk ((by rw [hg]; exact (below_size (belN HB)) : w.heap.size ≤ gb159)); have n3_ := Aside0.mk ((by rw [hg]; exact (below_size (belN HB)) : w.heap.size ≤ gb159)); clear HB; have HB := n0_; have BK159 := n1_; have GW159 := n2_; have GE159 := n3_; clear n0_ n1_ n2_ n3_; clear hb hbox hg; obtain ⟨hcz5_0, hcz5_1, hcz5_2, hcz5_3, hcz5_4, hcz5_5, hcz5_6, hfz5_0, hfz5_1, hfz5_2, hfz5_3, hfz5_4, hfz5_5, hfz5_6⟩ := cz7_ (w := w4) BK159.out) | ((with_reducible refine gate_callee (f := 129) rfl ?_); refine goesL_ (some 8) rfl rfl Try.func129 (by kernel_rfl) rfl #[.int .u64 a0_0, .int .u64 a1] rfl (by (try simp only [List.map_toArray, List.map_cons, List.map_nil]); first | done | rfl | (simp only [List.length_drop, List.length_take]; rfl)) ?_; (with_reducible refine (cmp_Compare_uint64.calls a0_0 a1 t160 _ A3.out).mono ?_); rintro e w' ⟨rfl, ⟨nd, rfl⟩⟩; refine ⟨_, rfl, ?_⟩))
  go_ret
  exact ⟨by first | rfl | (simp [errW_none, errW_some] <;> rfl) | (simp [*, errW_none, errW_some] <;> rfl), by repeat (first | (with_reducible first | exact HB.out | apply below_alloc | apply pw_below_drewN | apply below_drew1 | refine below_set ?_ GE159.out) | exact HB.out)⟩

end Go.Proofs.Ytcfbcoinbecdfaa.P
