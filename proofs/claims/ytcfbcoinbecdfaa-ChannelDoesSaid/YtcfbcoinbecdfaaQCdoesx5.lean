-- written by a program of this session (wip/print)
import Derived.Test.YtcfbcoinbecdfaaQCdoesx0
import Derived.Test.YtcfbcoinbecdfaaQCdoesx2
import Derived.Test.YtcfbcoinbecdfaaQCdoesx3
import Derived.Test.YtcfbcoinbecdfaaQCdoesx4
namespace Go.Proofs.Ytcfbcoinbecdfaa.P
open Go.RowKit Go.Proofs.YtcfbcoinbecdfaaW.PrintWords Go.Proofs.YtcfbcoinbecdfaaW.PrintLast Go.Proofs.YtcfbcoinbecdfaaW.PrintMore
attribute [local go_sem] max2_int min2_int max_two min_two max_three min_three max_four min_four run_sub64_   -- for this text's walks alone
set_option linter.unusedVariables false
set_option linter.unusedSimpArgs false

/-! ### channel_Hold: function 23 -/
mutual
def channel_Hold.j0 : Nat → Int → Int → Int → Int → Bool → Bool → Int → Int → Int → Int → Int → List (S44) → Bool → Option (Int × Int × Int × Int × Int × (List (S44)) × Bool × Int)
 | 0, _, _, _, _, _, _, _, _, _, _, _, _, _ => none
 | k + 1, x1, x2, x8, x11, x12, x26, x134000, x134001, x134002, x134003, x134004, x134005, x134006 => if x26 = true then (some (0, 0, 0, 0, 0, ([] : List (S44)), false, 1)) else (if x134006 = true then (if x12 = true then (some (0, 0, 0, 0, 0, ([] : List (S44)), false, 6)) else (if (x134005.length : Int) = 64 then (some (0, 0, 0, 0, 0, ([] : List (S44)), false, 7)) else (if x134001 < x134003 then (channel_Hold.j1 k x1 x2 x8 x11 true x134000 x134001 x134002 x134003 x134004 x134005 x134006) else (channel_Hold.j1 k x1 x2 x8 x11 (decide (x2 > (IntKind.u64.wrap (x134001 - x134003)))) x134000 x134001 x134002 x134003 x134004 x134005 x134006)))) else (some (0, 0, 0, 0, 0, ([] : List (S44)), false, 14)))
def channel_Hold.j1 : Nat → Int → Int → Int → Int → Bool → Int → Int → Int → Int → Int → List (S44) → Bool → Option (Int × Int × Int × Int × Int × (List (S44)) × Bool × Int)
 | 0, _, _, _, _, _, _, _, _, _, _, _, _ => none
 | k + 1, x1, x2, x8, x11, x54, x134000, x134001, x134002, x134003, x134004, x134005, x134006 => if x54 = true then (some (0, 0, 0, 0, 0, ([] : List (S44)), false, 9)) else (if x2 > (IntKind.u64.wrap (x134004 - x8)) then (some (0, 0, 0, 0, 0, ([] : List (S44)), false, 8)) else ((slices_Clone_Hold.f x134005).bind fun t144 => ((slices_Insert_Hold.f t144 x11 (([(⟨x1, x2⟩ : S44)] : List (S44)))).bind fun t150 => (some (x134000, IntKind.u64.wrap (x134001 - x2), x134002, x134003, x134004, t150, x134006, 0)))))
end
def channel_Hold.f (k : Nat) (a0_0 : Int) (a0_1 : Int) (a0_2 : Int) (a0_3 : Int) (a0_4 : Int) (l0_5 : List (S44)) (a0_6 : Bool) (a1 : Int) (a2 : Int) : Option (Int × Int × Int × Int × Int × (List (S44)) × Bool × Int) := (channel_sums.f k a0_0 a0_1 a0_2 a0_3 a0_4 l0_5 a0_6).bind fun bt135 => ((slices_BinarySearchFunc_uint64_at_channel_order.f k l0_5 a1).bind fun bt138 => (if bt135.2.2 = 0 then (if a2 = 0 then (channel_Hold.j0 k a1 a2 bt135.1 bt138.1 bt138.2 true a0_0 a0_1 a0_2 a0_3 a0_4 l0_5 a0_6) else ((money_Check.f k (([a2] : List Int))).bind fun t143 => (channel_Hold.j0 k a1 a2 bt135.1 bt138.1 bt138.2 (t143 != 0) a0_0 a0_1 a0_2 a0_3 a0_4 l0_5 a0_6))) else (channel_Hold.j0 k a1 a2 bt135.1 bt138.1 bt138.2 true a0_0 a0_1 a0_2 a0_3 a0_4 l0_5 a0_6)))
theorem channel_Hold.mono_l : ∀ k, (∀ y0 y1 y2 y3 y4 y5 y6 y7 y8 y9 y10 y11 y12, LeO (channel_Hold.j0 k y0 y1 y2 y3 y4 y5 y6 y7 y8 y9 y10 y11 y12) (channel_Hold.j0 (k + 1) y0 y1 y2 y3 y4 y5 y6 y7 y8 y9 y10 y11 y12)) ∧ (∀ y0 y1 y2 y3 y4 y5 y6 y7 y8 y9 y10 y11, LeO (channel_Hold.j1 k y0 y1 y2 y3 y4 y5 y6 y7 y8 y9 y10 y11) (channel_Hold.j1 (k + 1) y0 y1 y2 y3 y4 y5 y6 y7 y8 y9 y10 y11))
 | 0 => ⟨fun _ _ _ _ _ _ _ _ _ _ _ _ _ r h => by simp [channel_Hold.j0] at h, fun _ _ _ _ _ _ _ _ _ _ _ _ r h => by simp [channel_Hold.j1] at h⟩
 | k + 1 => by
  obtain ⟨ih0, ih1⟩ := channel_Hold.mono_l k
  refine ⟨?_, ?_⟩
  ·intro y0 y1 y2 y3 y4 y5 y6 y7 y8 y9 y10 y11 y12
   unfold channel_Hold.j0
   repeat' first
   | (with_reducible exact ih0 _ _ _ _ _ _ _ _ _ _ _ _ _)
   | (with_reducible exact ih1 _ _ _ _ _ _ _ _ _ _ _ _)
   | (with_reducible exact channel_sums.mono _ _ _ _ _ _ _ _)
   | (with_reducible exact money_Check.mono _ _)
   | (with_reducible exact slices_BinarySearchFunc_uint64_at_channel_order.mono _ _ _)
   | (with_reducible exact LeO.refl _)
   | (with_reducible exact LeO.none _)
   | (with_reducible refine LeO.ite ?_ ?_)
   | (with_reducible refine LeO.bind ?_ (fun _ => ?_))
   | exact ih0 _ _ _ _ _ _ _ _ _ _ _ _ _
   | exact ih1 _ _ _ _ _ _ _ _ _ _ _ _
   | exact channel_sums.mono _ _ _ _ _ _ _ _
   | exact money_Check.mono _ _
   | exact slices_BinarySearchFunc_uint64_at_channel_order.mono _ _ _
   | exact LeO.none _
   | refine LeO.ite ?_ ?_
   | refine LeO.bind ?_ (fun _ => ?_)
  ·intro y0 y1 y2 y3 y4 y5 y6 y7 y8 y9 y10 y11
   unfold channel_Hold.j1
   repeat' first
   | (with_reducible exact ih0 _ _ _ _ _ _ _ _ _ _ _ _ _)
   | (with_reducible exact ih1 _ _ _ _ _ _ _ _ _ _ _ _)
   | (with_reducible exact channel_sums.mono _ _ _ _ _ _ _ _)
   | (with_reducible exact money_Check.mono _ _)
   | (with_reducible exact slices_BinarySearchFunc_uint64_at_channel_order.mono _ _ _)
   | (with_reducible exact LeO.refl _)
   | (with_reducible exact LeO.none _)
   | (with_reducible refine LeO.ite ?_ ?_)
   | (with_reducible refine LeO.bind ?_ (fun _ => ?_))
   | exact ih0 _ _ _ _ _ _ _ _ _ _ _ _ _
   | exact ih1 _ _ _ _ _ _ _ _ _ _ _ _
   | exact channel_sums.mono _ _ _ _ _ _ _ _
   | exact money_Check.mono _ _
   | exact slices_BinarySearchFunc_uint64_at_channel_order.mono _ _ _
   | exact LeO.none _
   | refine LeO.ite ?_ ?_
   | refine LeO.bind ?_ (fun _ => ?_)
theorem channel_Hold.mono : ∀ a0 a1 a2 a3 a4 a5 a6 a7 a8 k, LeO (channel_Hold.f k a0 a1 a2 a3 a4 a5 a6 a7 a8) (channel_Hold.f (k + 1) a0 a1 a2 a3 a4 a5 a6 a7 a8) := by
 intro a0 a1 a2 a3 a4 a5 a6 a7 a8 k
 obtain ⟨ih0, ih1⟩ := channel_Hold.mono_l k
 unfold channel_Hold.f
 repeat' first
   | (with_reducible exact ih0 _ _ _ _ _ _ _ _ _ _ _ _ _)
   | (with_reducible exact ih1 _ _ _ _ _ _ _ _ _ _ _ _)
   | (with_reducible exact channel_sums.mono _ _ _ _ _ _ _ _)
   | (with_reducible exact money_Check.mono _ _)
   | (with_reducible exact slices_BinarySearchFunc_uint64_at_channel_order.mono _ _ _)
   | (with_reducible exact LeO.refl _)
   | (with_reducible exact LeO.none _)
   | (with_reducible refine LeO.ite ?_ ?_)
   | (with_reducible refine LeO.bind ?_ (fun _ => ?_))
   | exact ih0 _ _ _ _ _ _ _ _ _ _ _ _ _
   | exact ih1 _ _ _ _ _ _ _ _ _ _ _ _
   | exact channel_sums.mono _ _ _ _ _ _ _ _
   | exact money_Check.mono _ _
   | exact slices_BinarySearchFunc_uint64_at_channel_order.mono _ _ _
   | exact LeO.none _
   | refine LeO.ite ?_ ?_
   | refine LeO.bind ?_ (fun _ => ?_)
set_option maxHeartbeats 8000000 in
set_option maxRecDepth 100000 in
theorem channel_Hold.calls (k : Nat) (a0_0 : Int) (a0_1 : Int) (a0_2 : Int) (a0_3 : Int) (a0_4 : Int) (A0_5 : Option Addr) (c0_5 : Nat) (l0_5 : List (S44)) (a0_6 : Bool) (a1 : Int) (a2 : Int) (r1 : Int) (r2 : Int) (r3 : Int) (r4 : Int) (r5 : Int) (r6 : List (S44)) (r7 : Bool) (r8 : Int) (w : World) (hr0_5 : Kd.C k44 w A0_5 l0_5.length l0_5) (hc0_5 : l0_5.length ≤ c0_5) (h : channel_Hold.f k a0_0 a0_1 a0_2 a0_3 a0_4 l0_5 a0_6 a1 a2 = some (r1, r2, r3, r4, r5, r6, r7, r8)) :
  Calls Try.prog 23 #[.agg #[.int .u64 a0_0, .int .u64 a0_1, .int .u64 a0_2, .int .u64 a0_3, .int .u64 a0_4, .slice A0_5 l0_5.length c0_5, .bool a0_6], .int .u64 a1, .int .u64 a2] w fun e w' => ∃ v5_ : Value, e = .returned (.tuple #[.agg #[.int .u64 r1, .int .u64 r2, .int .u64 r3, .int .u64 r4, .int .u64 r5, v5_, .bool r7], .int .i64 r8]) ∧ Kd.R k44 44 w' w.heap.size (fun _ => True) v5_ r6 ∧ Below w.heap.size w w' := by
 have hu25 := Try.underlying25
 have hu44 := Try.underlying44
 have HR0_5 := Aside0.mk hr0_5
 have HC0_5 := Aside0.mk hc0_5
 clear hr0_5 hc0_5
 have HB := Aside0.mk (Below.refl w.heap.size w)
 have H : ((channel_sums.f k a0_0 a0_1 a0_2 a0_3 a0_4 l0_5 a0_6).bind fun bt135 => ((slices_BinarySearchFunc_uint64_at_channel_order.f k l0_5 a1).bind fun bt138 => (if bt135.2.2 = 0 then (if a2 = 0 then (channel_Hold.j0 k a1 a2 bt135.1 bt138.1 bt138.2 true a0_0 a0_1 a0_2 a0_3 a0_4 l0_5 a0_6) else ((money_Check.f k (([a2] : List Int))).bind fun t143 => (channel_Hold.j0 k a1 a2 bt135.1 bt138.1 bt138.2 (t143 != 0) a0_0 a0_1 a0_2 a0_3 a0_4 l0_5 a0_6))) else (channel_Hold.j0 k a1 a2 bt135.1 bt138.1 bt138.2 true a0_0 a0_1 a0_2 a0_3 a0_4 l0_5 a0_6)))) = some (r1, r2, r3, r4, r5, r6, r7, r8) := h
 clear h
 replace H := Option.bind_eq_some_iff.mp H
 obtain ⟨⟨t135, t136, t137⟩, A40, H⟩ := H
 replace H : ((slices_BinarySearchFunc_uint64_at_channel_order.f k l0_5 a1).bind fun bt138 => (if t137 = 0 then (if a2 = 0 then (channel_Hold.j0 k a1 a2 t135 bt138.1 bt138.2 true a0_0 a0_1 a0_2 a0_3 a0_4 l0_5 a0_6) else ((money_Check.f k (([a2] : List Int))).bind fun t143 => (channel_Hold.j0 k a1 a2 t135 bt138.1 bt138.2 (t143 != 0) a0_0 a0_1 a0_2 a0_3 a0_4 l0_5 a0_6))) else (channel_Hold.j0 k a1 a2 t135 bt138.1 bt138.2 true a0_0 a0_1 a0_2 a0_3 a0_4 l0_5 a0_6))) = some (r1, r2, r3, r4, r5, r6, r7, r8) := H
 have A4 := Aside0.mk A40
 clear A40
 replace H := Option.bind_eq_some_iff.mp H
 obtain ⟨⟨t138, t139⟩, A50, H⟩ := H
 replace H : (if t137 = 0 then (if a2 = 0 then (channel_Hold.j0 k a1 a2 t135 t138 t139 true a0_0 a0_1 a0_2 a0_3 a0_4 l0_5 a0_6) else ((money_Check.f k (([a2] : List Int))).bind fun t143 => (channel_Hold.j0 k a1 a2 t135 t138 t139 (t143 != 0) a0_0 a0_1 a0_2 a0_3 a0_4 l0_5 a0_6))) else (channel_Hold.j0 k a1 a2 t135 t138 t139 true a0_0 a0_1 a0_2 a0_3 a0_4 l0_5 a0_6)) = some (r1, r2, r3, r4, r5, r6, r7, r8) := H
 have A5 := Aside0.mk A50
 clear A50
 have HC6 := Aside0.mk H
 clear H
 go_enter Try.func23, Try.ntmps23
 go_upto_region 3 with (first | ((with_reducible refine gate_dst (N := 3) rfl ?_); (try (refine gate_guard (by rfl) ?_; dsimp only)); refine box_event ?hg (N := 3) ?hd (cs := #[.int .u64 a0_0, .int .u64 a0_1, .int .u64 a0_2, .int .u64 a0_3, .int .u64 a0_4, .slice A0_5 l0_5.length c0_5, .bool a0_6]) (t := 25) ?hr ?_; (case hd => rfl); (case hg => rfl); (case hr => first | (go_simp; done) | (go_simp; rfl)); intro gb133 hg w7 hbox hb; have n0_ := Aside0.mk (below_step (belN HB) hb); have n1_ := Aside0.mk (hbox); have n2_ := Aside0.mk ((by rw [hg]; exact (below_size (belN HB)) : w.heap.size ≤ gb133)); have n3_ := Aside0.mk ((by rw [hg]; exact (below_size (belN HB)) : w.heap.size ≤ gb133)); clear HB; have HB := n0_; have BK133 := n1_; have GW133 := n2_; have GE133 := n3_; clear n0_ n1_ n2_ n3_; clear hb hbox hg) | ((with_reducible refine gate_dst (N := 6) rfl ?_); (try (refine gate_guard (by rfl) ?_; dsimp only)); refine box_event ?hg (N := 6) ?hd (cs := #[.int .u64 0, .int .u64 0, .int .u64 0, .int .u64 0, .int .u64 0, .slice none 0 0, .bool false]) (t := 25) ?hr ?_; (case hd => rfl); (case hg => rfl); (case hr => first | (go_simp; done) | (go_simp; rfl)); intro gb134 hg w8 hbox hb; have n0_ := Aside0.mk (blk_below (g := gb133) (blkN BK133) hb); have n1_ := Aside0.mk (below_step (belN HB) hb); have n2_ := Aside0.mk (hbox); have n3_ := Aside0.mk ((by rw [hg]; exact (below_size (belN HB)) : w.heap.size ≤ gb134)); have n4_ := Aside0.mk ((by rw [hg]; exact (below_size (belN HB)) : w.heap.size ≤ gb134)); have n5_ := Aside0.mk ((by rw [hg]; exact Nat.ne_of_lt (blk_lt (g := gb133) (blkN BK133)) : gb133 ≠ gb134)); have n6_ := Aside0.mk ((by rw [hg]; exact Nat.ne_of_gt (blk_lt (g := gb133) (blkN BK133)) : gb134 ≠ gb133)); clear BK133; clear HB; have BK133 := n0_; have HB := n1_; have BK134 := n2_; have GW134 := n3_; have GE134 := n4_; have NB133_134 := n5_; have NB134_133 := n6_; clear n0_ n1_ n2_ n3_ n4_ n5_ n6_; clear hb hbox hg; have hnb9 := NB133_134.out; have hnc9 := NB134_133.out; obtain ⟨hcz10_0, hcz10_1, hcz10_2, hcz10_3, hcz10_4, hcz10_5, hcz10_6, hfz10_0, hfz10_1, hfz10_2, hfz10_3, hfz10_4, hfz10_5, hfz10_6⟩ := cz7_ (w := w8) BK133.out) | ((with_reducible refine gate_callee (f := 83) rfl ?_); refine goesL_ (some 15) rfl rfl Try.func83 (by kernel_rfl) rfl #[.agg #[.int .u64 a0_0, .int .u64 a0_1, .int .u64 a0_2, .int .u64 a0_3, .int .u64 a0_4, .slice A0_5 l0_5.length c0_5, .bool a0_6]] rfl (by (try simp only [List.map_toArray, List.map_cons, List.map_nil]); first | done | rfl | (simp only [List.length_drop, List.length_take]; rfl)) ?_; (with_reducible refine (channel_sums.calls k a0_0 a0_1 a0_2 a0_3 a0_4 _ _ l0_5 a0_6 t135 t136 t137 _ ?side1 ?side2 A4.out).mono ?_); (case side1 => repeat (first | exact (Kd.C_below HR0_5.out HB.out) | (with_reducible refine Kd.C_alloc ?_ _) | (with_reducible refine Kd.C_drewN ?_ _) | (with_reducible refine Kd.C_drew ?_))); (case side2 => exact HC0_5.out); rintro e w11 ⟨rfl, hb⟩; refine ⟨_, rfl, ?_⟩; have n0_ := Aside0.mk (blk_below (g := gb133) (blkN BK133) hb); have n1_ := Aside0.mk (blk_below (g := gb134) (blkN BK134) hb); have n2_ := Aside0.mk (below_step (belN HB) hb); clear BK133; clear BK134; clear HB; have BK133 := n0_; have BK134 := n1_; have HB := n2_; clear n0_ n1_ n2_; (try clear hb); (try clear hb2); (try clear hk); (try clear hi); obtain ⟨hcz12_0, hcz12_1, hcz12_2, hcz12_3, hcz12_4, hcz12_5, hcz12_6, hfz12_0, hfz12_1, hfz12_2, hfz12_3, hfz12_4, hfz12_5, hfz12_6⟩ := cz7_ (w := w11) BK133.out) | ((with_reducible refine gate_callee (f := 85) rfl ?_); refine goesL_ (some 23) rfl rfl Try.func85 (by kernel_rfl) rfl #[.slice A0_5 l0_5.length c0_5, .int .u64 a1, .func (.func 86) #[] #[]] rfl (by (try simp only [List.map_toArray, List.map_cons, List.map_nil]); first | done | rfl | (simp only [List.length_drop, List.length_take]; rfl)) ?_; (with_reducible refine (slices_BinarySearchFunc_uint64_at_channel_order.calls k _ _ l0_5 a1  t138 t139 _ ?side1 ?side2 A5.out).mono ?_); (case side1 => repeat (first | exact (Kd.C_below HR0_5.out HB.out) | (with_reducible refine Kd.C_alloc ?_ _) | (with_reducible refine Kd.C_drewN ?_ _) | (with_reducible refine Kd.C_drew ?_))); (case side2 => exact HC0_5.out); rintro e w13 ⟨rfl, hb⟩; refine ⟨_, rfl, ?_⟩; have n0_ := Aside0.mk (blk_below (g := gb133) (blkN BK133) hb); have n1_ := Aside0.mk (blk_below (g := gb134) (blkN BK134) hb); have n2_ := Aside0.mk (below_step (belN HB) hb); clear BK133; clear BK134; clear HB; have BK133 := n0_; have BK134 := n1_; have HB := n2_; clear n0_ n1_ n2_; (try clear hb); (try clear hb2); (try clear hk); (try clear hi)))
 (try simp only [Act.put, List.setIfInBounds_toArray, List.set_cons_zero, List.set_cons_succ])
 go_cut [26] (fun v26 wc => ∃ (kq : Nat) (x26_5 : Bool), v26 = .bool x26_5 ∧ Aside0 (channel_Hold.j0 kq a1 a2 t135 t138 t139 x26_5 a0_0 a0_1 a0_2 a0_3 a0_4 l0_5 a0_6 = some (r1, r2, r3, r4, r5, r6, r7, r8)) ∧ Aside0 (kq ≤ k) ∧ Aside0 (wc.heap[gb133]? = some (.cells #[.int .u64 a0_0, .int .u64 a0_1, .int .u64 a0_2, .int .u64 a0_3, .int .u64 a0_4, (.slice A0_5 l0_5.length c0_5), .bool a0_6] 25 (0, 0))) ∧ Aside0 (wc.heap[gb134]? = some (.cells #[.int .u64 0, .int .u64 0, .int .u64 0, .int .u64 0, .int .u64 0, (.slice none 0 0), .bool false] 25 (0, 0))) ∧ Aside0 (Below w.heap.size w wc))
 case first =>
  have H := HC6.out
  clear HC6
  by_cases c14 : t137 = 0
  ·rw [if_pos c14] at H
   have c14b0 : (t137 == 0) = true := beq_iff_eq.mpr c14
   have c14b1 : (t137 != 0) = false := bne_eq_false_iff_eq.mpr c14
   clear c14
   (first | rw [c14b0] | (simp only [i64_w, i32_w]; rw [c14b0]) | skip)
   by_cases c15 : a2 = 0
   ·rw [if_pos c15] at H
    have c15b0 : (a2 == 0) = true := beq_iff_eq.mpr c15
    have c15b1 : (a2 != 0) = false := bne_eq_false_iff_eq.mpr c15
    clear c15
    have H' := Aside0.mk H
    clear H
    go_wp2
    go_meet
    case rel => exact ⟨_, (true), (by first | rfl | (simp; done) | (simp [*]; done)), H', ⟨by first | omega | exact Nat.le_refl _⟩, ⟨by (with_reducible repeat (first | refine blk_drewN ?_ _ | refine blk_drew ?_ | refine blk_alloc ?_ _)); exact BK133.out⟩, ⟨by (with_reducible repeat (first | refine blk_drewN ?_ _ | refine blk_drew ?_ | refine blk_alloc ?_ _)); exact BK134.out⟩, ⟨by repeat (first | (with_reducible first | exact HB.out | apply below_alloc | apply pw_below_drewN | apply below_drew1 | refine below_set ?_ GE133.out | refine below_set ?_ GE134.out) | exact HB.out)⟩⟩
   ·rw [if_neg c15] at H
    have c15b0 : (a2 == 0) = false := beq_eq_false_iff_ne.mpr c15
    have c15b1 : (a2 != 0) = true := bne_iff_ne.mpr c15
    obtain ⟨y140, hy140⟩ : ∃ y_ : List Int, y_ = (([a2] : List Int)) := ⟨_, rfl⟩
    replace H : ((money_Check.f k y140).bind fun t143 => (channel_Hold.j0 k a1 a2 t135 t138 t139 (t143 != 0) a0_0 a0_1 a0_2 a0_3 a0_4 l0_5 a0_6)) = some (r1, r2, r3, r4, r5, r6, r7, r8) := by first | (rw [hy140]; with_reducible exact H) | (have H2_ := (Option.bind_some _ _).symm.trans H; rw [hy140]; with_reducible exact H2_) | (have H2_ := (Option.bind_some _ _).symm.trans H; with_reducible exact H2_) | with_reducible exact H | (rw [hy140]; exact H) | exact H
    have Ny140 := Aside0.mk hy140
    clear hy140
    replace H := Option.bind_eq_some_iff.mp H
    obtain ⟨t143, A160, H⟩ := H
    replace H : (channel_Hold.j0 k a1 a2 t135 t138 t139 (t143 != 0) a0_0 a0_1 a0_2 a0_3 a0_4 l0_5 a0_6) = some (r1, r2, r3, r4, r5, r6, r7, r8) := H
    have A16 := Aside0.mk A160
    clear A160
    have H' := Aside0.mk H
    clear H
    go_wp2_with (first | ((with_reducible refine gate_dst (N := 35) rfl ?_); (try (refine gate_guard (by rfl) ?_; dsimp only)); refine Kd.R_lit (Kd.int .u64) _ 22 ?hg (N := 35) ?hd (xs := ([a2] : List Int)) (inner := [.int .u64 a2]) (ok := fun _ => True) (okp := fun _ => True) ?hr ?hp (fun _ hk => hk) trivial (Below.refl _ _) (Nat.le_refl _) (by simp) ?_; (case hd => rfl); (case hg => rfl); (case hr => first | (go_simp; done) | (go_simp; rfl)); (case hp => exact (Reps.one (show Kd.M (Kd.int .u64) _ _ _ a2 [.int .u64 a2] from rfl) (Reps.none _ _))); intro v141 w17 ho18 hb hg_ hnew_; clear hg_ hnew_; (first | rw [← Ny140.out] at ho18 | (simp only [Int.reduceToNat] at ho18; rw [← Ny140.out] at ho18)); have n0_ := Aside0.mk (Kd.R_lower ho18 (below_size (belN HB))); have n1_ := Aside0.mk (blk_below (g := gb133) (blkN BK133) hb); have n2_ := Aside0.mk (blk_below (g := gb134) (blkN BK134) hb); have n3_ := Aside0.mk (below_step (belN HB) hb); clear BK133; clear BK134; clear HB; have HO142 := n0_; have BK133 := n1_; have BK134 := n2_; have HB := n3_; clear n0_ n1_ n2_ n3_; clear hb ho18; obtain ⟨Ao19, co19, eo19⟩ := Kd.R_slice HO142.out; subst eo19) | (go_at_call 87; (with_reducible refine (money_Check.calls k _ _ y140 t143 _ ?side1 ?side2 A16.out).mono ?_); (case side1 => exact Kd.CN (Kd.R_reads' HO142.out).2.2); (case side2 => exact (Kd.R_reads' HO142.out).2.1); rintro e w20 ⟨rfl, hb⟩; have n0_ := Aside0.mk (Kd.R_below (Kd.RN HO142) hb); have n1_ := Aside0.mk (blk_below (g := gb133) (blkN BK133) hb); have n2_ := Aside0.mk (blk_below (g := gb134) (blkN BK134) hb); have n3_ := Aside0.mk (below_step (belN HB) hb); clear HO142; clear BK133; clear BK134; clear HB; have HO142 := n0_; have BK133 := n1_; have BK134 := n2_; have HB := n3_; clear n0_ n1_ n2_ n3_; (try clear hb); (try clear hb2); (try clear hk); (try clear hi)))
    go_meet
    case rel => exact ⟨_, ((t143 != 0)), (by first | rfl | (simp; done) | (simp [*]; done)), H', ⟨by first | omega | exact Nat.le_refl _⟩, ⟨by (with_reducible repeat (first | refine blk_drewN ?_ _ | refine blk_drew ?_ | refine blk_alloc ?_ _)); exact BK133.out⟩, ⟨by (with_reducible repeat (first | refine blk_drewN ?_ _ | refine blk_drew ?_ | refine blk_alloc ?_ _)); exact BK134.out⟩, ⟨by repeat (first | (with_reducible first | exact HB.out | apply below_alloc | apply pw_below_drewN | apply below_drew1 | refine below_set ?_ GE133.out | refine below_set ?_ GE134.out) | exact HB.out)⟩⟩
  ·rw [if_neg c14] at H
   have c14b0 : (t137 == 0) = false := beq_eq_false_iff_ne.mpr c14
   have c14b1 : (t137 != 0) = true := bne_iff_ne.mpr c14
   (first | rw [c14b0] | (simp only [i64_w, i32_w]; rw [c14b0]) | skip)
   have H' := Aside0.mk H
   clear H
   go_wp2
   go_meet
   case rel => exact ⟨_, (true), (by first | rfl | (simp; done) | (simp [*]; done)), H', ⟨by first | omega | exact Nat.le_refl _⟩, ⟨by (with_reducible repeat (first | refine blk_drewN ?_ _ | refine blk_drew ?_ | refine blk_alloc ?_ _)); exact BK133.out⟩, ⟨by (with_reducible repeat (first | refine blk_drewN ?_ _ | refine blk_drew ?_ | refine blk_alloc ?_ _)); exact BK134.out⟩, ⟨by repeat (first | (with_reducible first | exact HB.out | apply below_alloc | apply pw_below_drewN | apply below_drew1 | refine below_set ?_ GE133.out | refine below_set ?_ GE134.out) | exact HB.out)⟩⟩
 case rest =>
  clear HC6
  try clear c1
  try clear c2
  try clear p2
  try clear c8
  try clear c9
  try clear c14
  try clear c14b0
  try clear c14b1
  try clear c15
  try clear c15b0
  try clear c15b1
  try clear hcz10_0
  try clear hcz10_1
  try clear hcz10_2
  try clear hcz10_3
  try clear hcz10_4
  try clear hcz10_5
  try clear hcz10_6
  try clear hcz12_0
  try clear hcz12_1
  try clear hcz12_2
  try clear hcz12_3
  try clear hcz12_4
  try clear hcz12_5
  try clear hcz12_6
  try clear hfz10_0
  try clear hfz10_1
  try clear hfz10_2
  try clear hfz10_3
  try clear hfz10_4
  try clear hfz10_5
  try clear hfz10_6
  try clear hfz12_0
  try clear hfz12_1
  try clear hfz12_2
  try clear hfz12_3
  try clear hfz12_4
  try clear hfz12_5
  try clear hfz12_6
  obtain ⟨kq, x26_5, rfl, HA, HJ5, BK133, BK134, HB⟩ := hcut
  cases kq with
  | zero => exact absurd HA.out (by simp [channel_Hold.j0])
  | succ kj5 =>
   have H := HA.out
   clear HA
   simp only [channel_Hold.j0] at H
   by_cases c21 : x26_5 = true
   ·subst c21
    have H1 : (some (0, 0, 0, 0, 0, ([] : List (S44)), false, 1)) = some (r1, r2, r3, r4, r5, r6, r7, r8) := by rw [if_pos rfl] at H; exact H
    clear H
    have H := H1
    clear H1
    simp only [Option.some.injEq, Prod.mk.injEq] at H
    obtain ⟨rfl, rfl, rfl, rfl, rfl, rfl, rfl, rfl⟩ := H
    have hnb22 := NB134_133.out
    have hnc22 := NB133_134.out
    obtain ⟨hcz23_0, hcz23_1, hcz23_2, hcz23_3, hcz23_4, hcz23_5, hcz23_6, hfz23_0, hfz23_1, hfz23_2, hfz23_3, hfz23_4, hfz23_5, hfz23_6⟩ := cz7_ (w := wc) BK134.out
    go_wp2
    refine bodyPost_ret (results_ct rfl _ _ gb134 25 #[.int .u64 0, .int .u64 0, .int .u64 0, .int .u64 0, .int .u64 0, .slice none 0 0, .bool false] (0, 0) _ rfl (by (with_reducible repeat (first | refine blk_drewN ?_ _ | refine blk_drew ?_ | refine blk_alloc ?_ _)); refine blk_put (cs := #[.int .u64 0, .int .u64 0, .int .u64 0, .int .u64 0, .int .u64 0, .slice none 0 0, .bool false]) ?_ 6 _ rfl; refine blk_put (cs := #[.int .u64 0, .int .u64 0, .int .u64 0, .int .u64 0, .int .u64 0, .slice none 0 0, .bool false]) ?_ 5 _ rfl; refine blk_put (cs := #[.int .u64 0, .int .u64 0, .int .u64 0, .int .u64 0, .int .u64 0, .slice none 0 0, .bool false]) ?_ 4 _ rfl; refine blk_put (cs := #[.int .u64 0, .int .u64 0, .int .u64 0, .int .u64 0, .int .u64 0, .slice none 0 0, .bool false]) ?_ 3 _ rfl; refine blk_put (cs := #[.int .u64 0, .int .u64 0, .int .u64 0, .int .u64 0, .int .u64 0, .slice none 0 0, .bool false]) ?_ 2 _ rfl; refine blk_put (cs := #[.int .u64 0, .int .u64 0, .int .u64 0, .int .u64 0, .int .u64 0, .slice none 0 0, .bool false]) ?_ 1 _ rfl; refine blk_put (cs := #[.int .u64 0, .int .u64 0, .int .u64 0, .int .u64 0, .int .u64 0, .slice none 0 0, .bool false]) ?_ 0 _ rfl; (with_reducible repeat (first | refine blk_drewN ?_ _ | refine blk_drew ?_ | refine blk_alloc ?_ _)); exact BK134.out) Try.underlying25 rfl (by kernel_rfl)) rfl ?_
    exact ⟨_, by first | rfl | (simp [errW_none, errW_some] <;> rfl) | (simp [*, errW_none, errW_some] <;> rfl), by first | exact Kd.R_nil _ _ _ _ _ | exact Kd.N_nil _ _ _ _ _ | exact Kd.V_nil _ _ _ _ _ | exact Kd.Q_nil _ _ _ _ _ | exact Kd.S_nil _ _ _ _ _, by repeat (first | (with_reducible first | exact HB.out | apply below_alloc | apply pw_below_drewN | apply below_drew1 | refine below_set ?_ GE133.out | refine below_set ?_ GE134.out) | exact HB.out)⟩
   ·replace c21 := Bool.eq_false_iff.mpr c21
    subst c21
    have H1 : (if a0_6 = true then (if t139 = true then (some (0, 0, 0, 0, 0, ([] : List (S44)), false, 6)) else (if (l0_5.length : Int) = 64 then (some (0, 0, 0, 0, 0, ([] : List (S44)), false, 7)) else (if a0_1 < a0_3 then (channel_Hold.j1 kj5 a1 a2 t135 t138 true a0_0 a0_1 a0_2 a0_3 a0_4 l0_5 a0_6) else (channel_Hold.j1 kj5 a1 a2 t135 t138 (decide (a2 > (IntKind.u64.wrap (a0_1 - a0_3)))) a0_0 a0_1 a0_2 a0_3 a0_4 l0_5 a0_6)))) else (some (0, 0, 0, 0, 0, ([] : List (S44)), false, 14))) = some (r1, r2, r3, r4, r5, r6, r7, r8) := by rw [if_neg (show ¬ (false = true) by decide)] at H; exact H
    clear H
    have H := H1
    clear H1
    by_cases c24 : a0_6 = true
    ·subst c24
     have H1 : (if t139 = true then (some (0, 0, 0, 0, 0, ([] : List (S44)), false, 6)) else (if (l0_5.length : Int) = 64 then (some (0, 0, 0, 0, 0, ([] : List (S44)), false, 7)) else (if a0_1 < a0_3 then (channel_Hold.j1 kj5 a1 a2 t135 t138 true a0_0 a0_1 a0_2 a0_3 a0_4 l0_5 true) else (channel_Hold.j1 kj5 a1 a2 t135 t138 (decide (a2 > (IntKind.u64.wrap (a0_1 - a0_3)))) a0_0 a0_1 a0_2 a0_3 a0_4 l0_5 true)))) = some (r1, r2, r3, r4, r5, r6, r7, r8) := by rw [if_pos rfl] at H; exact H
     clear H
     have H := H1
     clear H1
     by_cases c25 : t139 = true
     ·subst c25
      have H1 : (some (0, 0, 0, 0, 0, ([] : List (S44)), false, 6)) = some (r1, r2, r3, r4, r5, r6, r7, r8) := by rw [if_pos rfl] at H; exact H
      clear H
      have H := H1
      clear H1
      simp only [Option.some.injEq, Prod.mk.injEq] at H
      obtain ⟨rfl, rfl, rfl, rfl, rfl, rfl, rfl, rfl⟩ := H
      have hnb26 := NB133_134.out
      have hnc26 := NB134_133.out
      obtain ⟨hcz27_0, hcz27_1, hcz27_2, hcz27_3, hcz27_4, hcz27_5, hcz27_6, hfz27_0, hfz27_1, hfz27_2, hfz27_3, hfz27_4, hfz27_5, hfz27_6⟩ := cz7_ (w := wc) BK133.out
      obtain ⟨hcz28_0, hcz28_1, hcz28_2, hcz28_3, hcz28_4, hcz28_5, hcz28_6, hfz28_0, hfz28_1, hfz28_2, hfz28_3, hfz28_4, hfz28_5, hfz28_6⟩ := cz7_ (w := wc) BK134.out
      go_wp2
      refine bodyPost_ret (results_ct rfl _ _ gb134 25 #[.int .u64 0, .int .u64 0, .int .u64 0, .int .u64 0, .int .u64 0, .slice none 0 0, .bool false] (0, 0) _ rfl (by (with_reducible repeat (first | refine blk_drewN ?_ _ | refine blk_drew ?_ | refine blk_alloc ?_ _)); refine blk_put (cs := #[.int .u64 0, .int .u64 0, .int .u64 0, .int .u64 0, .int .u64 0, .slice none 0 0, .bool false]) ?_ 6 _ rfl; refine blk_put (cs := #[.int .u64 0, .int .u64 0, .int .u64 0, .int .u64 0, .int .u64 0, .slice none 0 0, .bool false]) ?_ 5 _ rfl; refine blk_put (cs := #[.int .u64 0, .int .u64 0, .int .u64 0, .int .u64 0, .int .u64 0, .slice none 0 0, .bool false]) ?_ 4 _ rfl; refine blk_put (cs := #[.int .u64 0, .int .u64 0, .int .u64 0, .int .u64 0, .int .u64 0, .slice none 0 0, .bool false]) ?_ 3 _ rfl; refine blk_put (cs := #[.int .u64 0, .int .u64 0, .int .u64 0, .int .u64 0, .int .u64 0, .slice none 0 0, .bool false]) ?_ 2 _ rfl; refine blk_put (cs := #[.int .u64 0, .int .u64 0, .int .u64 0, .int .u64 0, .int .u64 0, .slice none 0 0, .bool false]) ?_ 1 _ rfl; refine blk_put (cs := #[.int .u64 0, .int .u64 0, .int .u64 0, .int .u64 0, .int .u64 0, .slice none 0 0, .bool false]) ?_ 0 _ rfl; (with_reducible repeat (first | refine blk_drewN ?_ _ | refine blk_drew ?_ | refine blk_alloc ?_ _)); exact BK134.out) Try.underlying25 rfl (by kernel_rfl)) rfl ?_
      exact ⟨_, by first | rfl | (simp [errW_none, errW_some] <;> rfl) | (simp [*, errW_none, errW_some] <;> rfl), by first | exact Kd.R_nil _ _ _ _ _ | exact Kd.N_nil _ _ _ _ _ | exact Kd.V_nil _ _ _ _ _ | exact Kd.Q_nil _ _ _ _ _ | exact Kd.S_nil _ _ _ _ _, by repeat (first | (with_reducible first | exact HB.out | apply below_alloc | apply pw_below_drewN | apply below_drew1 | refine below_set ?_ GE133.out | refine below_set ?_ GE134.out) | exact HB.out)⟩
     ·replace c25 := Bool.eq_false_iff.mpr c25
      subst c25
      have H1 : (if (l0_5.length : Int) = 64 then (some (0, 0, 0, 0, 0, ([] : List (S44)), false, 7)) else (if a0_1 < a0_3 then (channel_Hold.j1 kj5 a1 a2 t135 t138 true a0_0 a0_1 a0_2 a0_3 a0_4 l0_5 true) else (channel_Hold.j1 kj5 a1 a2 t135 t138 (decide (a2 > (IntKind.u64.wrap (a0_1 - a0_3)))) a0_0 a0_1 a0_2 a0_3 a0_4 l0_5 true))) = some (r1, r2, r3, r4, r5, r6, r7, r8) := by rw [if_neg (show ¬ (false = true) by decide)] at H; exact H
      clear H
      have H := H1
      clear H1
      by_cases c29 : (l0_5.length : Int) = 64
      ·rw [if_pos c29] at H
       have c29b0 : ((l0_5.length : Int) == 64) = true := beq_iff_eq.mpr c29
       have c29b1 : ((l0_5.length : Int) != 64) = false := bne_eq_false_iff_eq.mpr c29
       clear c29
       simp only [Option.some.injEq, Prod.mk.injEq] at H
       obtain ⟨rfl, rfl, rfl, rfl, rfl, rfl, rfl, rfl⟩ := H
       have hnb30 := NB133_134.out
       have hnc30 := NB134_133.out
       obtain ⟨hcz31_0, hcz31_1, hcz31_2, hcz31_3, hcz31_4, hcz31_5, hcz31_6, hfz31_0, hfz31_1, hfz31_2, hfz31_3, hfz31_4, hfz31_5, hfz31_6⟩ := cz7_ (w := wc) BK133.out
       obtain ⟨hcz32_0, hcz32_1, hcz32_2, hcz32_3, hcz32_4, hcz32_5, hcz32_6, hfz32_0, hfz32_1, hfz32_2, hfz32_3, hfz32_4, hfz32_5, hfz32_6⟩ := cz7_ (w := wc) BK134.out
       go_wp2
       refine bodyPost_ret (results_ct rfl _ _ gb134 25 #[.int .u64 0, .int .u64 0, .int .u64 0, .int .u64 0, .int .u64 0, .slice none 0 0, .bool false] (0, 0) _ rfl (by (with_reducible repeat (first | refine blk_drewN ?_ _ | refine blk_drew ?_ | refine blk_alloc ?_ _)); refine blk_put (cs := #[.int .u64 0, .int .u64 0, .int .u64 0, .int .u64 0, .int .u64 0, .slice none 0 0, .bool false]) ?_ 6 _ rfl; refine blk_put (cs := #[.int .u64 0, .int .u64 0, .int .u64 0, .int .u64 0, .int .u64 0, .slice none 0 0, .bool false]) ?_ 5 _ rfl; refine blk_put (cs := #[.int .u64 0, .int .u64 0, .int .u64 0, .int .u64 0, .int .u64 0, .slice none 0 0, .bool false]) ?_ 4 _ rfl; refine blk_put (cs := #[.int .u64 0, .int .u64 0, .int .u64 0, .int .u64 0, .int .u64 0, .slice none 0 0, .bool false]) ?_ 3 _ rfl; refine blk_put (cs := #[.int .u64 0, .int .u64 0, .int .u64 0, .int .u64 0, .int .u64 0, .slice none 0 0, .bool false]) ?_ 2 _ rfl; refine blk_put (cs := #[.int .u64 0, .int .u64 0, .int .u64 0, .int .u64 0, .int .u64 0, .slice none 0 0, .bool false]) ?_ 1 _ rfl; refine blk_put (cs := #[.int .u64 0, .int .u64 0, .int .u64 0, .int .u64 0, .int .u64 0, .slice none 0 0, .bool false]) ?_ 0 _ rfl; (with_reducible repeat (first | refine blk_drewN ?_ _ | refine blk_drew ?_ | refine blk_alloc ?_ _)); exact BK134.out) Try.underlying25 rfl (by kernel_rfl)) rfl ?_
       exact ⟨_, by first | rfl | (simp [errW_none, errW_some] <;> rfl) | (simp [*, errW_none, errW_some] <;> rfl), by first | exact Kd.R_nil _ _ _ _ _ | exact Kd.N_nil _ _ _ _ _ | exact Kd.V_nil _ _ _ _ _ | exact Kd.Q_nil _ _ _ _ _ | exact Kd.S_nil _ _ _ _ _, by repeat (first | (with_reducible first | exact HB.out | apply below_alloc | apply pw_below_drewN | apply below_drew1 | refine below_set ?_ GE133.out | refine below_set ?_ GE134.out) | exact HB.out)⟩
      ·rw [if_neg c29] at H
       have c29b0 : ((l0_5.length : Int) == 64) = false := beq_eq_false_iff_ne.mpr c29
       have c29b1 : ((l0_5.length : Int) != 64) = true := bne_iff_ne.mpr c29
       have HC33 := Aside0.mk H
       clear H
       have hnb34 := NB133_134.out
       have hnc34 := NB134_133.out
       obtain ⟨hcz35_0, hcz35_1, hcz35_2, hcz35_3, hcz35_4, hcz35_5, hcz35_6, hfz35_0, hfz35_1, hfz35_2, hfz35_3, hfz35_4, hfz35_5, hfz35_6⟩ := cz7_ (w := wc) BK133.out
       go_upto_region 11 with (fail)
       go_cut [54] (fun v54 wc => ∃ (kq : Nat) (x54_32 : Bool), v54 = .bool x54_32 ∧ Aside0 (channel_Hold.j1 kq a1 a2 t135 t138 x54_32 a0_0 a0_1 a0_2 a0_3 a0_4 l0_5 true = some (r1, r2, r3, r4, r5, r6, r7, r8)) ∧ Aside0 (kq ≤ kj5) ∧ Aside0 (wc.heap[gb133]? = some (.cells #[.int .u64 a0_0, .int .u64 a0_1, .int .u64 a0_2, .int .u64 a0_3, .int .u64 a0_4, (.slice A0_5 l0_5.length c0_5), .bool true] 25 (0, 0))) ∧ Aside0 (wc.heap[gb134]? = some (.cells #[.int .u64 0, .int .u64 0, .int .u64 0, .int .u64 0, .int .u64 0, (.slice none 0 0), .bool false] 25 (0, 0))) ∧ Aside0 (Below w.heap.size w wc))
       case first =>
        have H := HC33.out
        clear HC33
        by_cases c36 : a0_1 < a0_3
        ·rw [if_pos c36] at H
         have c36b0 : decide (a0_1 < a0_3) = true := decide_eq_true c36
         clear c36
         (first | rw [c36b0] | (simp only [i64_w, i32_w]; rw [c36b0]) | skip)
         have H' := Aside0.mk H
         clear H
         have hnb37 := NB133_134.out
         have hnc37 := NB134_133.out
         obtain ⟨hcz38_0, hcz38_1, hcz38_2, hcz38_3, hcz38_4, hcz38_5, hcz38_6, hfz38_0, hfz38_1, hfz38_2, hfz38_3, hfz38_4, hfz38_5, hfz38_6⟩ := cz7_ (w := wc) BK133.out
         go_wp2
         go_meet
         case rel => exact ⟨_, (true), (by first | rfl | (simp; done) | (simp [*]; done)), H', ⟨by have := HJ5.out; first | omega | exact Nat.le_refl _⟩, ⟨by (with_reducible repeat (first | refine blk_drewN ?_ _ | refine blk_drew ?_ | refine blk_alloc ?_ _)); exact BK133.out⟩, ⟨by (with_reducible repeat (first | refine blk_drewN ?_ _ | refine blk_drew ?_ | refine blk_alloc ?_ _)); exact BK134.out⟩, ⟨by repeat (first | (with_reducible first | exact HB.out | apply below_alloc | apply pw_below_drewN | apply below_drew1 | refine below_set ?_ GE133.out | refine below_set ?_ GE134.out) | exact HB.out)⟩⟩
        ·rw [if_neg c36] at H
         have c36b0 : decide (a0_1 < a0_3) = false := decide_eq_false c36
         clear c36
         (first | rw [c36b0] | (simp only [i64_w, i32_w]; rw [c36b0]) | skip)
         have H' := Aside0.mk H
         clear H
         have hnb39 := NB133_134.out
         have hnc39 := NB134_133.out
         obtain ⟨hcz40_0, hcz40_1, hcz40_2, hcz40_3, hcz40_4, hcz40_5, hcz40_6, hfz40_0, hfz40_1, hfz40_2, hfz40_3, hfz40_4, hfz40_5, hfz40_6⟩ := cz7_ (w := wc) BK133.out
         go_wp2
         go_meet
         case rel => exact ⟨_, (decide (a2 > (IntKind.u64.wrap (a0_1 - a0_3)))), (by first | rfl | (simp; done) | (simp [*]; done)), H', ⟨by have := HJ5.out; first | omega | exact Nat.le_refl _⟩, ⟨by (with_reducible repeat (first | refine blk_drewN ?_ _ | refine blk_drew ?_ | refine blk_alloc ?_ _)); exact BK133.out⟩, ⟨by (with_reducible repeat (first | refine blk_drewN ?_ _ | refine blk_drew ?_ | refine blk_alloc ?_ _)); exact BK134.out⟩, ⟨by repeat (first | (with_reducible first | exact HB.out | apply below_alloc | apply pw_below_drewN | apply below_drew1 | refine below_set ?_ GE133.out | refine below_set ?_ GE134.out) | exact HB.out)⟩⟩
       case rest =>
        clear HC33
        try clear c1
        try clear c2
        try clear p2
        try clear c3
        try clear c8
        try clear c9
        try clear c14
        try clear c14b0
        try clear c14b1
        try clear c15
        try clear c15b0
        try clear c15b1
        try clear c21
        try clear c22
        try clear c23
        try clear c24
        try clear c25
        try clear c26
        try clear c29
        try clear c29b0
        try clear c29b1
        try clear c30
        try clear c34
        try clear c36
        try clear c36b0
        try clear c37
        try clear c39
        try clear hcz10_0
        try clear hcz10_1
        try clear hcz10_2
        try clear hcz10_3
        try clear hcz10_4
        try clear hcz10_5
        try clear hcz10_6
        try clear hcz12_0
        try clear hcz12_1
        try clear hcz12_2
        try clear hcz12_3
        try clear hcz12_4
        try clear hcz12_5
        try clear hcz12_6
        try clear hcz23_0
        try clear hcz23_1
        try clear hcz23_2
        try clear hcz23_3
        try clear hcz23_4
        try clear hcz23_5
        try clear hcz23_6
        try clear hcz27_0
        try clear hcz27_1
        try clear hcz27_2
        try clear hcz27_3
        try clear hcz27_4
        try clear hcz27_5
        try clear hcz27_6
        try clear hcz28_0
        try clear hcz28_1
        try clear hcz28_2
        try clear hcz28_3
        try clear hcz28_4
        try clear hcz28_5
        try clear hcz28_6
        try clear hcz31_0
        try clear hcz31_1
        try clear hcz31_2
        try clear hcz31_3
        try clear hcz31_4
        try clear hcz31_5
        try clear hcz31_6
        try clear hcz32_0
        try clear hcz32_1
        try clear hcz32_2
        try clear hcz32_3
        try clear hcz32_4
        try clear hcz32_5
        try clear hcz32_6
        try clear hcz35_0
        try clear hcz35_1
        try clear hcz35_2
        try clear hcz35_3
        try clear hcz35_4
        try clear hcz35_5
        try clear hcz35_6
        try clear hcz38_0
        try clear hcz38_1
        try clear hcz38_2
        try clear hcz38_3
        try clear hcz38_4
        try clear hcz38_5
        try clear hcz38_6
        try clear hcz40_0
        try clear hcz40_1
        try clear hcz40_2
        try clear hcz40_3
        try clear hcz40_4
        try clear hcz40_5
        try clear hcz40_6
        try clear hfz10_0
        try clear hfz10_1
        try clear hfz10_2
        try clear hfz10_3
        try clear hfz10_4
        try clear hfz10_5
        try clear hfz10_6
        try clear hfz12_0
        try clear hfz12_1
        try clear hfz12_2
        try clear hfz12_3
        try clear hfz12_4
        try clear hfz12_5
        try clear hfz12_6
        try clear hfz23_0
        try clear hfz23_1
        try clear hfz23_2
        try clear hfz23_3
        try clear hfz23_4
        try clear hfz23_5
        try clear hfz23_6
        try clear hfz27_0
        try clear hfz27_1
        try clear hfz27_2
        try clear hfz27_3
        try clear hfz27_4
        try clear hfz27_5
        try clear hfz27_6
        try clear hfz28_0
        try clear hfz28_1
        try clear hfz28_2
        try clear hfz28_3
        try clear hfz28_4
        try clear hfz28_5
        try clear hfz28_6
        try clear hfz31_0
        try clear hfz31_1
        try clear hfz31_2
        try clear hfz31_3
        try clear hfz31_4
        try clear hfz31_5
        try clear hfz31_6
        try clear hfz32_0
        try clear hfz32_1
        try clear hfz32_2
        try clear hfz32_3
        try clear hfz32_4
        try clear hfz32_5
        try clear hfz32_6
        try clear hfz35_0
        try clear hfz35_1
        try clear hfz35_2
        try clear hfz35_3
        try clear hfz35_4
        try clear hfz35_5
        try clear hfz35_6
        try clear hfz38_0
        try clear hfz38_1
        try clear hfz38_2
        try clear hfz38_3
        try clear hfz38_4
        try clear hfz38_5
        try clear hfz38_6
        try clear hfz40_0
        try clear hfz40_1
        try clear hfz40_2
        try clear hfz40_3
        try clear hfz40_4
        try clear hfz40_5
        try clear hfz40_6
        try clear p2
        obtain ⟨kq, x54_32, rfl, HA, HJ32, BK133, BK134, HB⟩ := hcut
        cases kq with
        | zero => exact absurd HA.out (by simp [channel_Hold.j1])
        | succ kj32 =>
         have H := HA.out
         clear HA
         simp only [channel_Hold.j1] at H
         by_cases c41 : x54_32 = true
         ·subst c41
          have H1 : (some (0, 0, 0, 0, 0, ([] : List (S44)), false, 9)) = some (r1, r2, r3, r4, r5, r6, r7, r8) := by rw [if_pos rfl] at H; exact H
          clear H
          have H := H1
          clear H1
          simp only [Option.some.injEq, Prod.mk.injEq] at H
          obtain ⟨rfl, rfl, rfl, rfl, rfl, rfl, rfl, rfl⟩ := H
          have hnb42 := NB134_133.out
          have hnc42 := NB133_134.out
          obtain ⟨hcz43_0, hcz43_1, hcz43_2, hcz43_3, hcz43_4, hcz43_5, hcz43_6, hfz43_0, hfz43_1, hfz43_2, hfz43_3, hfz43_4, hfz43_5, hfz43_6⟩ := cz7_ (w := wc) BK134.out
          go_wp2
          refine bodyPost_ret (results_ct rfl _ _ gb134 25 #[.int .u64 0, .int .u64 0, .int .u64 0, .int .u64 0, .int .u64 0, .slice none 0 0, .bool false] (0, 0) _ rfl (by (with_reducible repeat (first | refine blk_drewN ?_ _ | refine blk_drew ?_ | refine blk_alloc ?_ _)); refine blk_put (cs := #[.int .u64 0, .int .u64 0, .int .u64 0, .int .u64 0, .int .u64 0, .slice none 0 0, .bool false]) ?_ 6 _ rfl; refine blk_put (cs := #[.int .u64 0, .int .u64 0, .int .u64 0, .int .u64 0, .int .u64 0, .slice none 0 0, .bool false]) ?_ 5 _ rfl; refine blk_put (cs := #[.int .u64 0, .int .u64 0, .int .u64 0, .int .u64 0, .int .u64 0, .slice none 0 0, .bool false]) ?_ 4 _ rfl; refine blk_put (cs := #[.int .u64 0, .int .u64 0, .int .u64 0, .int .u64 0, .int .u64 0, .slice none 0 0, .bool false]) ?_ 3 _ rfl; refine blk_put (cs := #[.int .u64 0, .int .u64 0, .int .u64 0, .int .u64 0, .int .u64 0, .slice none 0 0, .bool false]) ?_ 2 _ rfl; refine blk_put (cs := #[.int .u64 0, .int .u64 0, .int .u64 0, .int .u64 0, .int .u64 0, .slice none 0 0, .bool false]) ?_ 1 _ rfl; refine blk_put (cs := #[.int .u64 0, .int .u64 0, .int .u64 0, .int .u64 0, .int .u64 0, .slice none 0 0, .bool false]) ?_ 0 _ rfl; (with_reducible repeat (first | refine blk_drewN ?_ _ | refine blk_drew ?_ | refine blk_alloc ?_ _)); exact BK134.out) Try.underlying25 rfl (by kernel_rfl)) rfl ?_
          exact ⟨_, by first | rfl | (simp [errW_none, errW_some] <;> rfl) | (simp [*, errW_none, errW_some] <;> rfl), by first | exact Kd.R_nil _ _ _ _ _ | exact Kd.N_nil _ _ _ _ _ | exact Kd.V_nil _ _ _ _ _ | exact Kd.Q_nil _ _ _ _ _ | exact Kd.S_nil _ _ _ _ _, by repeat (first | (with_reducible first | exact HB.out | apply below_alloc | apply pw_below_drewN | apply below_drew1 | refine below_set ?_ GE133.out | refine below_set ?_ GE134.out) | exact HB.out)⟩
         ·replace c41 := Bool.eq_false_iff.mpr c41
          subst c41
          have H1 : (if a2 > (IntKind.u64.wrap (a0_4 - t135)) then (some (0, 0, 0, 0, 0, ([] : List (S44)), false, 8)) else ((slices_Clone_Hold.f l0_5).bind fun t144 => ((slices_Insert_Hold.f t144 t138 (([(⟨a1, a2⟩ : S44)] : List (S44)))).bind fun t150 => (some (a0_0, IntKind.u64.wrap (a0_1 - a2), a0_2, a0_3, a0_4, t150, true, 0))))) = some (r1, r2, r3, r4, r5, r6, r7, r8) := by rw [if_neg (show ¬ (false = true) by decide)] at H; exact H
          clear H
          have H := H1
          clear H1
          by_cases c44 : a2 > (IntKind.u64.wrap (a0_4 - t135))
          ·rw [if_pos c44] at H
           have c44b0 : decide ((IntKind.u64.wrap (a0_4 - t135)) < a2) = true := decide_eq_true c44
           clear c44
           simp only [Option.some.injEq, Prod.mk.injEq] at H
           obtain ⟨rfl, rfl, rfl, rfl, rfl, rfl, rfl, rfl⟩ := H
           have hnb45 := NB133_134.out
           have hnc45 := NB134_133.out
           obtain ⟨hcz46_0, hcz46_1, hcz46_2, hcz46_3, hcz46_4, hcz46_5, hcz46_6, hfz46_0, hfz46_1, hfz46_2, hfz46_3, hfz46_4, hfz46_5, hfz46_6⟩ := cz7_ (w := wc) BK133.out
           obtain ⟨hcz47_0, hcz47_1, hcz47_2, hcz47_3, hcz47_4, hcz47_5, hcz47_6, hfz47_0, hfz47_1, hfz47_2, hfz47_3, hfz47_4, hfz47_5, hfz47_6⟩ := cz7_ (w := wc) BK134.out
           go_wp2
           refine bodyPost_ret (results_ct rfl _ _ gb134 25 #[.int .u64 0, .int .u64 0, .int .u64 0, .int .u64 0, .int .u64 0, .slice none 0 0, .bool false] (0, 0) _ rfl (by (with_reducible repeat (first | refine blk_drewN ?_ _ | refine blk_drew ?_ | refine blk_alloc ?_ _)); refine blk_put (cs := #[.int .u64 0, .int .u64 0, .int .u64 0, .int .u64 0, .int .u64 0, .slice none 0 0, .bool false]) ?_ 6 _ rfl; refine blk_put (cs := #[.int .u64 0, .int .u64 0, .int .u64 0, .int .u64 0, .int .u64 0, .slice none 0 0, .bool false]) ?_ 5 _ rfl; refine blk_put (cs := #[.int .u64 0, .int .u64 0, .int .u64 0, .int .u64 0, .int .u64 0, .slice none 0 0, .bool false]) ?_ 4 _ rfl; refine blk_put (cs := #[.int .u64 0, .int .u64 0, .int .u64 0, .int .u64 0, .int .u64 0, .slice none 0 0, .bool false]) ?_ 3 _ rfl; refine blk_put (cs := #[.int .u64 0, .int .u64 0, .int .u64 0, .int .u64 0, .int .u64 0, .slice none 0 0, .bool false]) ?_ 2 _ rfl; refine blk_put (cs := #[.int .u64 0, .int .u64 0, .int .u64 0, .int .u64 0, .int .u64 0, .slice none 0 0, .bool false]) ?_ 1 _ rfl; refine blk_put (cs := #[.int .u64 0, .int .u64 0, .int .u64 0, .int .u64 0, .int .u64 0, .slice none 0 0, .bool false]) ?_ 0 _ rfl; (with_reducible repeat (first | refine blk_drewN ?_ _ | refine blk_drew ?_ | refine blk_alloc ?_ _)); exact BK134.out) Try.underlying25 rfl (by kernel_rfl)) rfl ?_
           exact ⟨_, by first | rfl | (simp [errW_none, errW_some] <;> rfl) | (simp [*, errW_none, errW_some] <;> rfl), by first | exact Kd.R_nil _ _ _ _ _ | exact Kd.N_nil _ _ _ _ _ | exact Kd.V_nil _ _ _ _ _ | exact Kd.Q_nil _ _ _ _ _ | exact Kd.S_nil _ _ _ _ _, by repeat (first | (with_reducible first | exact HB.out | apply below_alloc | apply pw_below_drewN | apply below_drew1 | refine below_set ?_ GE133.out | refine below_set ?_ GE134.out) | exact HB.out)⟩
          ·rw [if_neg c44] at H
           have c44b0 : decide ((IntKind.u64.wrap (a0_4 - t135)) < a2) = false := decide_eq_false c44
           clear c44
           replace H := Option.bind_eq_some_iff.mp H
           obtain ⟨t144, A480, H⟩ := H
           replace H : ((slices_Insert_Hold.f t144 t138 (([(⟨a1, a2⟩ : S44)] : List (S44)))).bind fun t150 => (some (a0_0, IntKind.u64.wrap (a0_1 - a2), a0_2, a0_3, a0_4, t150, true, 0))) = some (r1, r2, r3, r4, r5, r6, r7, r8) := H
           have A48 := Aside0.mk A480
           clear A480
           obtain ⟨y147, hy147⟩ : ∃ y_ : List (S44), y_ = (([(⟨a1, a2⟩ : S44)] : List (S44))) := ⟨_, rfl⟩
           replace H : ((slices_Insert_Hold.f t144 t138 y147).bind fun t150 => (some (a0_0, IntKind.u64.wrap (a0_1 - a2), a0_2, a0_3, a0_4, t150, true, 0))) = some (r1, r2, r3, r4, r5, r6, r7, r8) := by first | (rw [hy147]; with_reducible exact H) | (have H2_ := (Option.bind_some _ _).symm.trans H; rw [hy147]; with_reducible exact H2_) | (have H2_ := (Option.bind_some _ _).symm.trans H; with_reducible exact H2_) | with_reducible exact H | (rw [hy147]; exact H) | exact H
           have Ny147 := Aside0.mk hy147
           clear hy147
           replace H := Option.bind_eq_some_iff.mp H
           obtain ⟨t150, A490, H⟩ := H
           replace H : (some (a0_0, IntKind.u64.wrap (a0_1 - a2), a0_2, a0_3, a0_4, t150, true, 0)) = some (r1, r2, r3, r4, r5, r6, r7, r8) := H
           have A49 := Aside0.mk A490
           clear A490
           simp only [Option.some.injEq, Prod.mk.injEq] at H
           obtain ⟨rfl, rfl, rfl, rfl, rfl, rfl, rfl, rfl⟩ := H
           have hnb50 := NB133_134.out
           have hnc50 := NB134_133.out
           obtain ⟨hcz51_0, hcz51_1, hcz51_2, hcz51_3, hcz51_4, hcz51_5, hcz51_6, hfz51_0, hfz51_1, hfz51_2, hfz51_3, hfz51_4, hfz51_5, hfz51_6⟩ := cz7_ (w := wc) BK133.out
           go_wp2_with (first | ((with_reducible refine gate_callee (f := 89) rfl ?_); refine goesL_ (some 85) rfl rfl Try.func89 (by kernel_rfl) rfl #[.slice A0_5 l0_5.length c0_5] rfl (by (try simp only [List.map_toArray, List.map_cons, List.map_nil]); first | done | rfl | (simp only [List.length_drop, List.length_take]; rfl)) ?_; (with_reducible refine (slices_Clone_Hold.calls _ _ l0_5 t144 _ ?side1 ?side2 A48.out).mono ?_); (case side1 => exact Kd.C_below HR0_5.out (belN HB)); (case side2 => exact HC0_5.out); rintro e w52 ⟨v145, rfl, ho0, hb⟩; refine ⟨_, rfl, ?_⟩; have n0_ := Aside0.mk (Kd.R_lower ho0 (below_size (belN HB))); have n1_ := Aside0.mk (blk_below (g := gb133) (o := .cells #[.int .u64 a0_0, .int .u64 (IntKind.u64.wrap (a0_1 - a2)), .int .u64 a0_2, .int .u64 a0_3, .int .u64 a0_4, .slice A0_5 l0_5.length c0_5, .bool true] 25 (0, 0)) (by (with_reducible repeat (first | refine blk_drewN ?_ _ | refine blk_drew ?_ | refine blk_alloc ?_ _)); refine blk_put (cs := #[.int .u64 a0_0, .int .u64 a0_1, .int .u64 a0_2, .int .u64 a0_3, .int .u64 a0_4, .slice A0_5 l0_5.length c0_5, .bool true]) ?_ 1 _ rfl; (with_reducible repeat (first | refine blk_drewN ?_ _ | refine blk_drew ?_ | refine blk_alloc ?_ _)); exact BK133.out) hb); have n2_ := Aside0.mk (blk_below (g := gb134) (blkF BK134) hb); have n3_ := Aside0.mk (below_step (belN HB) hb); clear BK133; clear BK134; clear HB; have HO146 := n0_; have BK133 := n1_; have BK134 := n2_; have HB := n3_; clear n0_ n1_ n2_ n3_; (try clear hb); (try clear hb2); (try clear hk); (try clear hi); (try clear ho0)) | ((with_reducible refine gate_dst (N := 90) rfl ?_); (try (refine gate_guard (by rfl) ?_; dsimp only)); refine Kd.R_lit k44 _ 44 ?hg (N := 90) ?hd (xs := ([(⟨a1, a2⟩ : S44)] : List (S44))) (inner := [.int .u64 a1, .int .u64 a2]) (ok := fun _ => True) (okp := fun _ => True) ?hr ?hp (fun _ hk => hk) trivial (Below.refl _ _) (Nat.le_refl _) (by simp) ?_; (case hd => rfl); (case hg => rfl); (case hr => first | (go_simp; done) | (go_simp; rfl)); (case hp => exact (Reps.c2 (show Kd.M k44 _ _ _ (⟨a1, a2⟩ : S44) [.int .u64 a1, .int .u64 a2] from (k44_mkM _ _ _ (⟨a1, a2⟩ : S44) )) (Reps.none _ _))); intro v148 w53 ho54 hb hg_ hnew_; clear hg_ hnew_; (first | rw [← Ny147.out] at ho54 | (simp only [Int.reduceToNat] at ho54; rw [← Ny147.out] at ho54)); have n0_ := Aside0.mk (Kd.R_elder' (Kd.RN HO146) (Kd.R_base ho54) hb); have n1_ := Aside0.mk (Kd.R_lower (Kd.R_new' ho54 (Kd.R_lt (Kd.RN HO146))) (below_size (belN HB))); have n2_ := Aside0.mk (blk_below (g := gb133) (blkN BK133) hb); have n3_ := Aside0.mk (blk_below (g := gb134) (blkN BK134) hb); have n4_ := Aside0.mk (below_step (belN HB) hb); clear HO146; clear BK133; clear BK134; clear HB; have HO146 := n0_; have HO149 := n1_; have BK133 := n2_; have BK134 := n3_; have HB := n4_; clear n0_ n1_ n2_ n3_ n4_; clear hb ho54; obtain ⟨Ao55, co55, eo55⟩ := Kd.R_slice HO146.out; subst eo55; obtain ⟨Ao56, co56, eo56⟩ := Kd.R_slice HO149.out; subst eo56) | ((with_reducible refine gate_callee (f := 88) rfl ?_); refine goesL_ (some 91) rfl rfl Try.func88 (by kernel_rfl) rfl #[.slice Ao55 t144.length co55, .int .i64 t138, .slice Ao56 y147.length co56] rfl (by (try simp only [List.map_toArray, List.map_cons, List.map_nil]); first | done | rfl | (simp only [List.length_drop, List.length_take]; rfl)) ?_; (with_reducible refine (slices_Insert_Hold.calls (fun k_ => some k_ = (.slice Ao55 t144.length co55 : Value).ownBlock) (.slice Ao55 t144.length co55) t144 t138 (fun k_ => some k_ = (.slice Ao56 y147.length co56 : Value).ownBlock) (.slice Ao56 y147.length co56) y147 t150 w _ ?side1 ?side2 ?side3 ?side4 ?side5 A49.out).mono ?_); (case side1 => repeat (first | (with_reducible first | exact HB.out | apply below_alloc | apply pw_below_drewN | apply below_drew1 | refine below_set ?_ GE133.out | refine below_set ?_ GE134.out) | exact HB.out)); (case side2 => exact Kd.R_tight rfl HO146.out); (case side3 => exact fun k_ e_ => (HO146.out.1 k_ e_.symm).2); (case side4 => exact Kd.R_tight rfl HO149.out); (case side5 => exact fun k_ e_ => (HO149.out.1 k_ e_.symm).2); rintro e w57 ⟨v151, rfl, ho0, hb, hkp⟩; refine ⟨_, rfl, ?_⟩; have n0_ := Aside0.mk (blk_kept (blkN BK133) hkp (fun hs_ => Or.elim hs_ (fun e_ => (fun e_ => (Kd.R_ne HO146.out BK133.out (by decide)) e_) e_) (fun e_ => (fun e_ => (Kd.R_ne HO149.out BK133.out (by decide)) e_) e_))); have n1_ := Aside0.mk (blk_kept (blkN BK134) hkp (fun hs_ => Or.elim hs_ (fun e_ => (fun e_ => (Kd.R_ne HO146.out BK134.out (by decide)) e_) e_) (fun e_ => (fun e_ => (Kd.R_ne HO149.out BK134.out (by decide)) e_) e_))); have n2_ := Aside0.mk (Kd.R_mono (ok' := fun k_ => True) ho0 (fun k_ hk_ => trivial)); have n3_ := Aside0.mk (hb); clear BK133; clear BK134; clear HB; clear HO146; clear HO149; have BK133 := n0_; have BK134 := n1_; have HO152 := n2_; have HB := n3_; clear n0_ n1_ n2_ n3_; (try clear hb); (try clear hkp); (try clear ho0); obtain ⟨Ao58, co58, eo58⟩ := Kd.R_slice HO152.out; subst eo58; obtain ⟨hcz59_0, hcz59_1, hcz59_2, hcz59_3, hcz59_4, hcz59_5, hcz59_6, hfz59_0, hfz59_1, hfz59_2, hfz59_3, hfz59_4, hfz59_5, hfz59_6⟩ := cz7_ (w := w57) BK133.out; obtain ⟨hcz60_0, hcz60_1, hcz60_2, hcz60_3, hcz60_4, hcz60_5, hcz60_6, hfz60_0, hfz60_1, hfz60_2, hfz60_3, hfz60_4, hfz60_5, hfz60_6⟩ := cz7_ (w := w57) BK134.out))
           refine bodyPost_ret (results_ct rfl _ _ gb134 25 #[.int .u64 a0_0, .int .u64 (IntKind.u64.wrap (a0_1 - a2)), .int .u64 a0_2, .int .u64 a0_3, .int .u64 a0_4, .slice Ao58 t150.length co58, .bool true] (0, 0) _ rfl (by (with_reducible repeat (first | refine blk_drewN ?_ _ | refine blk_drew ?_ | refine blk_alloc ?_ _)); refine blk_put (cs := #[.int .u64 a0_0, .int .u64 (IntKind.u64.wrap (a0_1 - a2)), .int .u64 a0_2, .int .u64 a0_3, .int .u64 a0_4, .slice Ao58 t150.length co58, .bool false]) ?_ 6 _ rfl; refine blk_put (cs := #[.int .u64 a0_0, .int .u64 (IntKind.u64.wrap (a0_1 - a2)), .int .u64 a0_2, .int .u64 a0_3, .int .u64 a0_4, .slice none 0 0, .bool false]) ?_ 5 _ rfl; refine blk_put (cs := #[.int .u64 a0_0, .int .u64 (IntKind.u64.wrap (a0_1 - a2)), .int .u64 a0_2, .int .u64 a0_3, .int .u64 0, .slice none 0 0, .bool false]) ?_ 4 _ rfl; refine blk_put (cs := #[.int .u64 a0_0, .int .u64 (IntKind.u64.wrap (a0_1 - a2)), .int .u64 a0_2, .int .u64 0, .int .u64 0, .slice none 0 0, .bool false]) ?_ 3 _ rfl; refine blk_put (cs := #[.int .u64 a0_0, .int .u64 (IntKind.u64.wrap (a0_1 - a2)), .int .u64 0, .int .u64 0, .int .u64 0, .slice none 0 0, .bool false]) ?_ 2 _ rfl; refine blk_put (cs := #[.int .u64 a0_0, .int .u64 0, .int .u64 0, .int .u64 0, .int .u64 0, .slice none 0 0, .bool false]) ?_ 1 _ rfl; refine blk_put (cs := #[.int .u64 0, .int .u64 0, .int .u64 0, .int .u64 0, .int .u64 0, .slice none 0 0, .bool false]) ?_ 0 _ rfl; (with_reducible repeat (first | refine blk_drewN ?_ _ | refine blk_drew ?_ | refine blk_alloc ?_ _)); refine blk_far ?_ NB134_133.out _; (with_reducible repeat (first | refine blk_drewN ?_ _ | refine blk_drew ?_ | refine blk_alloc ?_ _)); exact BK134.out) Try.underlying25 rfl (by kernel_rfl)) rfl ?_
           exact ⟨_, by first | rfl | (simp [errW_none, errW_some] <;> rfl) | (simp [*, errW_none, errW_some] <;> rfl), by (with_reducible repeat (first | apply Kd.R_alloc | apply Kd.R_drewN | apply Kd.R_drew)); exact Kd.R_mono (Kd.R_far (p := ⟨gb134, 6, none⟩) (Kd.R_far (p := ⟨gb134, 5, none⟩) (Kd.R_far (p := ⟨gb134, 4, none⟩) (Kd.R_far (p := ⟨gb134, 3, none⟩) (Kd.R_far (p := ⟨gb134, 2, none⟩) (Kd.R_far (p := ⟨gb134, 1, none⟩) (Kd.R_far (p := ⟨gb134, 0, none⟩) (Kd.R_far (p := ⟨gb133, 5, none⟩) (Kd.R_types (Kd.R_types HO152.out BK133.out (by decide)) BK134.out (by decide)) (fun _ hk => hk.1.2) (.slice Ao58 t150.length co58)) (fun _ hk => hk.2) (.int .u64 a0_0)) (fun _ hk => hk.2) (.int .u64 (IntKind.u64.wrap (a0_1 - a2)))) (fun _ hk => hk.2) (.int .u64 a0_2)) (fun _ hk => hk.2) (.int .u64 a0_3)) (fun _ hk => hk.2) (.int .u64 a0_4)) (fun _ hk => hk.2) (.slice Ao58 t150.length co58)) (fun _ hk => hk.2) (.bool true)) (fun _ hk => trivial), by repeat (first | (with_reducible first | exact HB.out | apply below_alloc | apply pw_below_drewN | apply below_drew1 | refine below_set ?_ GE133.out | refine below_set ?_ GE134.out) | exact HB.out)⟩
    ·replace c24 := Bool.eq_false_iff.mpr c24
     subst c24
     have H1 : (some (0, 0, 0, 0, 0, ([] : List (S44)), false, 14)) = some (r1, r2, r3, r4, r5, r6, r7, r8) := by rw [if_neg (show ¬ (false = true) by decide)] at H; exact H
     clear H
     have H := H1
     clear H1
     simp only [Option.some.injEq, Prod.mk.injEq] at H
     obtain ⟨rfl, rfl, rfl, rfl, rfl, rfl, rfl, rfl⟩ := H
     have hnb61 := NB133_134.out
     have hnc61 := NB134_133.out
     obtain ⟨hcz62_0, hcz62_1, hcz62_2, hcz62_3, hcz62_4, hcz62_5, hcz62_6, hfz62_0, hfz62_1, hfz62_2, hfz62_3, hfz62_4, hfz62_5, hfz62_6⟩ := cz7_ (w := wc) BK133.out
     obtain ⟨hcz63_0, hcz63_1, hcz63_2, hcz63_3, hcz63_4, hcz63_5, hcz63_6, hfz63_0, hfz63_1, hfz63_2, hfz63_3, hfz63_4, hfz63_5, hfz63_6⟩ := cz7_ (w := wc) BK134.out
     go_wp2
     refine bodyPost_ret (results_ct rfl _ _ gb134 25 #[.int .u64 0, .int .u64 0, .int .u64 0, .int .u64 0, .int .u64 0, .slice none 0 0, .bool false] (0, 0) _ rfl (by (with_reducible repeat (first | refine blk_drewN ?_ _ | refine blk_drew ?_ | refine blk_alloc ?_ _)); refine blk_put (cs := #[.int .u64 0, .int .u64 0, .int .u64 0, .int .u64 0, .int .u64 0, .slice none 0 0, .bool false]) ?_ 6 _ rfl; refine blk_put (cs := #[.int .u64 0, .int .u64 0, .int .u64 0, .int .u64 0, .int .u64 0, .slice none 0 0, .bool false]) ?_ 5 _ rfl; refine blk_put (cs := #[.int .u64 0, .int .u64 0, .int .u64 0, .int .u64 0, .int .u64 0, .slice none 0 0, .bool false]) ?_ 4 _ rfl; refine blk_put (cs := #[.int .u64 0, .int .u64 0, .int .u64 0, .int .u64 0, .int .u64 0, .slice none 0 0, .bool false]) ?_ 3 _ rfl; refine blk_put (cs := #[.int .u64 0, .int .u64 0, .int .u64 0, .int .u64 0, .int .u64 0, .slice none 0 0, .bool false]) ?_ 2 _ rfl; refine blk_put (cs := #[.int .u64 0, .int .u64 0, .int .u64 0, .int .u64 0, .int .u64 0, .slice none 0 0, .bool false]) ?_ 1 _ rfl; refine blk_put (cs := #[.int .u64 0, .int .u64 0, .int .u64 0, .int .u64 0, .int .u64 0, .slice none 0 0, .bool false]) ?_ 0 _ rfl; (with_reducible repeat (first | refine blk_drewN ?_ _ | refine blk_drew ?_ | refine blk_alloc ?_ _)); exact BK134.out) Try.underlying25 rfl (by kernel_rfl)) rfl ?_
     exact ⟨_, by first | rfl | (simp [errW_none, errW_some] <;> rfl) | (simp [*, errW_none, errW_some] <;> rfl), by first | exact Kd.R_nil _ _ _ _ _ | exact Kd.N_nil _ _ _ _ _ | exact Kd.V_nil _ _ _ _ _ | exact Kd.Q_nil _ _ _ _ _ | exact Kd.S_nil _ _ _ _ _, by repeat (first | (with_reducible first | exact HB.out | apply below_alloc | apply pw_below_drewN | apply below_drew1 | refine below_set ?_ GE133.out | refine below_set ?_ GE134.out) | exact HB.out)⟩

/-! ### damsonlaw09_live: function 21 -/
def damsonlaw09_live.f (k : Nat)  : Option (Bool) := (channel_Hold.f k 0 10 0 2 100 ([] : List (S44)) true 1 8).bind fun bt154 => ((channel_Hold.f k 0 10 0 2 100 ([] : List (S44)) true 1 9).bind fun bt165 => (if bt154.2.2.2.2.2.2.2 = 0 then (if bt154.2.1 = 2 then (if (bt154.2.2.2.2.2.1.length : Int) = 1 then (some (bt165.2.2.2.2.2.2.2 == 9)) else (some false)) else (some false)) else (some false)))
theorem damsonlaw09_live.mono : ∀ k, LeO (damsonlaw09_live.f k ) (damsonlaw09_live.f (k + 1) ) := by
 intro  k
 unfold damsonlaw09_live.f
 repeat' first
   | (with_reducible exact channel_Hold.mono _ _ _ _ _ _ _ _ _ _)
   | (with_reducible exact LeO.refl _)
   | (with_reducible exact LeO.none _)
   | (with_reducible refine LeO.ite ?_ ?_)
   | (with_reducible refine LeO.bind ?_ (fun _ => ?_))
   | exact channel_Hold.mono _ _ _ _ _ _ _ _ _ _
   | exact LeO.none _
   | refine LeO.ite ?_ ?_
   | refine LeO.bind ?_ (fun _ => ?_)
set_option maxHeartbeats 8000000 in
set_option maxRecDepth 100000 in
theorem damsonlaw09_live.calls (k : Nat)  (r : Bool) (w : World) (h : damsonlaw09_live.f k  = some r) :
  Calls Try.prog 21 #[] w fun e w' => e = .returned (.bool r) ∧ Below w.heap.size w w' := by
 have hu25 := Try.underlying25
 have HB := Aside0.mk (Below.refl w.heap.size w)
 have H : ((channel_Hold.f k 0 10 0 2 100 ([] : List (S44)) true 1 8).bind fun bt154 => ((channel_Hold.f k 0 10 0 2 100 ([] : List (S44)) true 1 9).bind fun bt165 => (if bt154.2.2.2.2.2.2.2 = 0 then (if bt154.2.1 = 2 then (if (bt154.2.2.2.2.2.1.length : Int) = 1 then (some (bt165.2.2.2.2.2.2.2 == 9)) else (some false)) else (some false)) else (some false)))) = some r := h
 clear h
 replace H := Option.bind_eq_some_iff.mp H
 obtain ⟨⟨t154, t155, t156, t157, t158, t159, t162, t163⟩, A10, H⟩ := H
 replace H : ((channel_Hold.f k 0 10 0 2 100 ([] : List (S44)) true 1 9).bind fun bt165 => (if t163 = 0 then (if t155 = 2 then (if (t159.length : Int) = 1 then (some (bt165.2.2.2.2.2.2.2 == 9)) else (some false)) else (some false)) else (some false))) = some r := H
 have A1 := Aside0.mk A10
 clear A10
 replace H := Option.bind_eq_some_iff.mp H
 obtain ⟨⟨t165, t166, t167, t168, t169, t170, t173, t174⟩, A20, H⟩ := H
 replace H : (if t163 = 0 then (if t155 = 2 then (if (t159.length : Int) = 1 then (some (t174 == 9)) else (some false)) else (some false)) else (some false)) = some r := H
 have A2 := Aside0.mk A20
 clear A20
 by_cases c3 : t163 = 0
 ·rw [if_pos c3] at H
  have c3b0 : (t163 == 0) = true := beq_iff_eq.mpr c3
  have c3b1 : (t163 != 0) = false := bne_eq_false_iff_eq.mpr c3
  clear c3
  by_cases c4 : t155 = 2
  ·rw [if_pos c4] at H
   have c4b0 : (t155 == 2) = true := beq_iff_eq.mpr c4
   have c4b1 : (t155 != 2) = false := bne_eq_false_iff_eq.mpr c4
   clear c4
   by_cases c5 : (t159.length : Int) = 1
   ·rw [if_pos c5] at H
    have c5b0 : ((t159.length : Int) == 1) = true := beq_iff_eq.mpr c5
    have c5b1 : ((t159.length : Int) != 1) = false := bne_eq_false_iff_eq.mpr c5
    clear c5
    obtain rfl := Option.some.inj H
    go_enter Try.func21, Try.ntmps21
    go_wp2_with (first | ((with_reducible refine gate_dst (N := 1) rfl ?_); (try (refine gate_guard (by rfl) ?_; dsimp only)); refine box_event ?hg (N := 1) ?hd (cs := #[.int .u64 0, .int .u64 0, .int .u64 0, .int .u64 0, .int .u64 0, .slice none 0 0, .bool false]) (t := 25) ?hr ?_; (case hd => rfl); (case hg => rfl); (case hr => first | (go_simp; done) | (go_simp; rfl)); intro gb153 hg w6 hbox hb; have n0_ := Aside0.mk (below_step (belN HB) hb); have n1_ := Aside0.mk (hbox); have n2_ := Aside0.mk ((by rw [hg]; exact (below_size (belN HB)) : w.heap.size ≤ gb153)); have n3_ := Aside0.mk ((by rw [hg]; exact (below_size (belN HB)) : w.heap.size ≤ gb153)); clear HB; have HB := n0_; have BK153 := n1_; have GW153 := n2_; have GE153 := n3_; clear n0_ n1_ n2_ n3_; clear hb hbox hg; obtain ⟨hcz7_0, hcz7_1, hcz7_2, hcz7_3, hcz7_4, hcz7_5, hcz7_6, hfz7_0, hfz7_1, hfz7_2, hfz7_3, hfz7_4, hfz7_5, hfz7_6⟩ := cz7_ (w := w6) BK153.out) | ((with_reducible refine gate_callee (f := 23) rfl ?_); refine goesL_ (some 9) rfl rfl Try.func23 (by kernel_rfl) rfl #[.agg #[.int .u64 0, .int .u64 10, .int .u64 0, .int .u64 2, .int .u64 100, .slice none 0 0, .bool true], .int .u64 1, .int .u64 8] rfl (by (try simp only [List.map_toArray, List.map_cons, List.map_nil]); first | done | rfl | (simp only [List.length_drop, List.length_take]; rfl)) ?_; (refine (channel_Hold.calls k 0 10 0 2 100 _ _ ([] : List (S44)) true 1 8 t154 t155 t156 t157 t158 t159 t162 t163 _ ?side1 ?side2 A1.out).mono ?_); (case side1 => exact Kd.C_nil _ _); (case side2 => exact Nat.le_refl _); rintro e w8 ⟨v160, rfl, ho0, hb⟩; refine ⟨_, rfl, ?_⟩; have n0_ := Aside0.mk (Kd.R_lower ho0 (below_size (belN HB))); have n1_ := Aside0.mk (blk_below (g := gb153) (o := .cells #[.int .u64 0, .int .u64 10, .int .u64 0, .int .u64 2, .int .u64 100, .slice none 0 0, .bool true] 25 (0, 0)) (by (with_reducible repeat (first | refine blk_drewN ?_ _ | refine blk_drew ?_ | refine blk_alloc ?_ _)); refine blk_put (cs := #[.int .u64 0, .int .u64 10, .int .u64 0, .int .u64 2, .int .u64 100, .slice none 0 0, .bool false]) ?_ 6 _ rfl; refine blk_put (cs := #[.int .u64 0, .int .u64 10, .int .u64 0, .int .u64 2, .int .u64 100, .slice none 0 0, .bool false]) ?_ 5 _ rfl; refine blk_put (cs := #[.int .u64 0, .int .u64 10, .int .u64 0, .int .u64 2, .int .u64 0, .slice none 0 0, .bool false]) ?_ 4 _ rfl; refine blk_put (cs := #[.int .u64 0, .int .u64 10, .int .u64 0, .int .u64 0, .int .u64 0, .slice none 0 0, .bool false]) ?_ 3 _ rfl; refine blk_put (cs := #[.int .u64 0, .int .u64 10, .int .u64 0, .int .u64 0, .int .u64 0, .slice none 0 0, .bool false]) ?_ 2 _ rfl; refine blk_put (cs := #[.int .u64 0, .int .u64 0, .int .u64 0, .int .u64 0, .int .u64 0, .slice none 0 0, .bool false]) ?_ 1 _ rfl; refine blk_put (cs := #[.int .u64 0, .int .u64 0, .int .u64 0, .int .u64 0, .int .u64 0, .slice none 0 0, .bool false]) ?_ 0 _ rfl; (with_reducible repeat (first | refine blk_drewN ?_ _ | refine blk_drew ?_ | refine blk_alloc ?_ _)); exact BK153.out) hb); have n2_ := Aside0.mk (below_step (belN HB) hb); clear BK153; clear HB; have HO161 := n0_; have BK153 := n1_; have HB := n2_; clear n0_ n1_ n2_; (try clear hb); (try clear hb2); (try clear hk); (try clear hi); (try clear ho0)) | ((with_reducible refine gate_dst (N := 2) rfl ?_); (try (refine gate_guard (by rfl) ?_; dsimp only)); refine box_event ?hg (N := 2) ?hd (cs := #[.int .u64 0, .int .u64 0, .int .u64 0, .int .u64 0, .int .u64 0, .slice none 0 0, .bool false]) (t := 25) ?hr ?_; (case hd => rfl); (case hg => rfl); (case hr => first | (go_simp; done) | (go_simp; rfl)); intro gb164 hg w9 hbox hb; have n0_ := Aside0.mk (Kd.R_below (Kd.RN HO161) hb); have n1_ := Aside0.mk (blk_below (g := gb153) (blkN BK153) hb); have n2_ := Aside0.mk (below_step (belN HB) hb); have n3_ := Aside0.mk (hbox); have n4_ := Aside0.mk ((by rw [hg]; exact (below_size (belN HB)) : w.heap.size ≤ gb164)); have n5_ := Aside0.mk ((by rw [hg]; exact (below_size (belN HB)) : w.heap.size ≤ gb164)); have n6_ := Aside0.mk ((by rw [hg]; exact Nat.ne_of_lt (blk_lt (g := gb153) (blkN BK153)) : gb153 ≠ gb164)); have n7_ := Aside0.mk ((by rw [hg]; exact Nat.ne_of_gt (blk_lt (g := gb153) (blkN BK153)) : gb164 ≠ gb153)); clear HO161; clear BK153; clear HB; have HO161 := n0_; have BK153 := n1_; have HB := n2_; have BK164 := n3_; have GW164 := n4_; have GE164 := n5_; have NB153_164 := n6_; have NB164_153 := n7_; clear n0_ n1_ n2_ n3_ n4_ n5_ n6_ n7_; clear hb hbox hg; have hnb10 := NB164_153.out; have hnc10 := NB153_164.out; obtain ⟨hcz11_0, hcz11_1, hcz11_2, hcz11_3, hcz11_4, hcz11_5, hcz11_6, hfz11_0, hfz11_1, hfz11_2, hfz11_3, hfz11_4, hfz11_5, hfz11_6⟩ := cz7_ (w := w9) BK164.out; obtain ⟨Ao12, co12, eo12⟩ := Kd.R_slice HO161.out; subst eo12; obtain ⟨hcz13_0, hcz13_1, hcz13_2, hcz13_3, hcz13_4, hcz13_5, hcz13_6, hfz13_0, hfz13_1, hfz13_2, hfz13_3, hfz13_4, hfz13_5, hfz13_6⟩ := cz7_ (w := w9) BK153.out) | ((with_reducible refine gate_callee (f := 23) rfl ?_); refine goesL_ (some 14) rfl rfl Try.func23 (by kernel_rfl) rfl #[.agg #[.int .u64 0, .int .u64 10, .int .u64 0, .int .u64 2, .int .u64 100, .slice none 0 0, .bool true], .int .u64 1, .int .u64 9] rfl (by (try simp only [List.map_toArray, List.map_cons, List.map_nil]); first | done | rfl | (simp only [List.length_drop, List.length_take]; rfl)) ?_; (refine (channel_Hold.calls k 0 10 0 2 100 _ _ ([] : List (S44)) true 1 9 t165 t166 t167 t168 t169 t170 t173 t174 _ ?side1 ?side2 A2.out).mono ?_); (case side1 => exact Kd.C_nil _ _); (case side2 => exact Nat.le_refl _); rintro e w14 ⟨v171, rfl, ho0, hb⟩; refine ⟨_, rfl, ?_⟩; have n0_ := Aside0.mk (Kd.R_elder' (Kd.RF HO161 BK164) (Kd.R_base ho0) hb); have n1_ := Aside0.mk (Kd.R_lower (Kd.R_new' ho0 (Kd.R_lt (Kd.RF HO161 BK164))) (below_size (belN HB))); have n2_ := Aside0.mk (blk_below (g := gb153) (blkF BK153) hb); have n3_ := Aside0.mk (blk_below (g := gb164) (o := .cells #[.int .u64 t154, .int .u64 t155, .int .u64 t156, .int .u64 t157, .int .u64 t158, .slice Ao12 t159.length co12, .bool t162] 25 (0, 0)) (by (with_reducible repeat (first | refine blk_drewN ?_ _ | refine blk_drew ?_ | refine blk_alloc ?_ _)); refine blk_put (cs := #[.int .u64 t154, .int .u64 t155, .int .u64 t156, .int .u64 t157, .int .u64 t158, .slice Ao12 t159.length co12, .bool false]) ?_ 6 _ rfl; refine blk_put (cs := #[.int .u64 t154, .int .u64 t155, .int .u64 t156, .int .u64 t157, .int .u64 t158, .slice none 0 0, .bool false]) ?_ 5 _ rfl; refine blk_put (cs := #[.int .u64 t154, .int .u64 t155, .int .u64 t156, .int .u64 t157, .int .u64 0, .slice none 0 0, .bool false]) ?_ 4 _ rfl; refine blk_put (cs := #[.int .u64 t154, .int .u64 t155, .int .u64 t156, .int .u64 0, .int .u64 0, .slice none 0 0, .bool false]) ?_ 3 _ rfl; refine blk_put (cs := #[.int .u64 t154, .int .u64 t155, .int .u64 0, .int .u64 0, .int .u64 0, .slice none 0 0, .bool false]) ?_ 2 _ rfl; refine blk_put (cs := #[.int .u64 t154, .int .u64 0, .int .u64 0, .int .u64 0, .int .u64 0, .slice none 0 0, .bool false]) ?_ 1 _ rfl; refine blk_put (cs := #[.int .u64 0, .int .u64 0, .int .u64 0, .int .u64 0, .int .u64 0, .slice none 0 0, .bool false]) ?_ 0 _ rfl; (with_reducible repeat (first | refine blk_drewN ?_ _ | refine blk_drew ?_ | refine blk_alloc ?_ _)); exact BK164.out) hb); have n4_ := Aside0.mk (below_step (belN HB) hb); clear HO161; clear BK153; clear BK164; clear HB; have HO161 := n0_; have HO172 := n1_; have BK153 := n2_; have BK164 := n3_; have HB := n4_; clear n0_ n1_ n2_ n3_ n4_; (try clear hb); (try clear hb2); (try clear hk); (try clear hi); (try clear ho0)) | ((with_reducible refine gate_dst (N := 4) rfl ?_); (try (refine gate_guard (by rfl) ?_; dsimp only)); refine box_event ?hg (N := 4) ?hd (cs := #[.int .u64 0, .int .u64 0, .int .u64 0, .int .u64 0, .int .u64 0, .slice none 0 0, .bool false]) (t := 25) ?hr ?_; (case hd => rfl); (case hg => rfl); (case hr => first | (go_simp; done) | (go_simp; rfl)); intro gb175 hg w15 hbox hb; have n0_ := Aside0.mk (Kd.R_below (Kd.RN HO161) hb); have n1_ := Aside0.mk (Kd.R_below (Kd.RN HO172) hb); have n2_ := Aside0.mk (blk_below (g := gb153) (blkN BK153) hb); have n3_ := Aside0.mk (blk_below (g := gb164) (blkN BK164) hb); have n4_ := Aside0.mk (below_step (belN HB) hb); have n5_ := Aside0.mk (hbox); have n6_ := Aside0.mk ((by rw [hg]; exact (below_size (belN HB)) : w.heap.size ≤ gb175)); have n7_ := Aside0.mk ((by rw [hg]; exact (below_size (belN HB)) : w.heap.size ≤ gb175)); have n8_ := Aside0.mk ((by rw [hg]; exact Nat.ne_of_lt (blk_lt (g := gb153) (blkN BK153)) : gb153 ≠ gb175)); have n9_ := Aside0.mk ((by rw [hg]; exact Nat.ne_of_gt (blk_lt (g := gb153) (blkN BK153)) : gb175 ≠ gb153)); have n10_ := Aside0.mk ((by rw [hg]; exact Nat.ne_of_lt (blk_lt (g := gb164) (blkN BK164)) : gb164 ≠ gb175)); have n11_ := Aside0.mk ((by rw [hg]; exact Nat.ne_of_gt (blk_lt (g := gb164) (blkN BK164)) : gb175 ≠ gb164)); clear HO161; clear HO172; clear BK153; clear BK164; clear HB; have HO161 := n0_; have HO172 := n1_; have BK153 := n2_; have BK164 := n3_; have HB := n4_; have BK175 := n5_; have GW175 := n6_; have GE175 := n7_; have NB153_175 := n8_; have NB175_153 := n9_; have NB164_175 := n10_; have NB175_164 := n11_; clear n0_ n1_ n2_ n3_ n4_ n5_ n6_ n7_ n8_ n9_ n10_ n11_; clear hb hbox hg; have hnb16 := NB175_153.out; have hnc16 := NB153_175.out; have hnb17 := NB175_164.out; have hnc17 := NB164_175.out; obtain ⟨hcz18_0, hcz18_1, hcz18_2, hcz18_3, hcz18_4, hcz18_5, hcz18_6, hfz18_0, hfz18_1, hfz18_2, hfz18_3, hfz18_4, hfz18_5, hfz18_6⟩ := cz7_ (w := w15) BK175.out; obtain ⟨Ao19, co19, eo19⟩ := Kd.R_slice HO172.out; subst eo19; obtain ⟨hcz20_0, hcz20_1, hcz20_2, hcz20_3, hcz20_4, hcz20_5, hcz20_6, hfz20_0, hfz20_1, hfz20_2, hfz20_3, hfz20_4, hfz20_5, hfz20_6⟩ := cz7_ (w := w15) BK164.out))
    go_ret
    exact ⟨by first | rfl | (simp [errW_none, errW_some] <;> rfl) | (simp [*, errW_none, errW_some] <;> rfl), by repeat (first | (with_reducible first | exact HB.out | apply below_alloc | apply pw_below_drewN | apply below_drew1 | refine below_set ?_ GE153.out | refine below_set ?_ GE164.out | refine below_set ?_ GE175.out) | exact HB.out)⟩
   ·rw [if_neg c5] at H
    have c5b0 : ((t159.length : Int) == 1) = false := beq_eq_false_iff_ne.mpr c5
    have c5b1 : ((t159.length : Int) != 1) = true := bne_iff_ne.mpr c5
    obtain rfl := Option.some.inj H
    go_enter Try.func21, Try.ntmps21
    go_wp2_with (first | ((with_reducible refine gate_dst (N := 1) rfl ?_); (try (refine gate_guard (by rfl) ?_; dsimp only)); refine box_event ?hg (N := 1) ?hd (cs := #[.int .u64 0, .int .u64 0, .int .u64 0, .int .u64 0, .int .u64 0, .slice none 0 0, .bool false]) (t := 25) ?hr ?_; (case hd => rfl); (case hg => rfl); (case hr => first | (go_simp; done) | (go_simp; rfl)); intro gb153 hg w21 hbox hb; have n0_ := Aside0.mk (below_step (belN HB) hb); have n1_ := Aside0.mk (hbox); have n2_ := Aside0.mk ((by rw [hg]; exact (below_size (belN HB)) : w.heap.size ≤ gb153)); have n3_ := Aside0.mk ((by rw [hg]; exact (below_size (belN HB)) : w.heap.size ≤ gb153)); clear HB; have HB := n0_; have BK153 := n1_; have GW153 := n2_; have GE153 := n3_; clear n0_ n1_ n2_ n3_; clear hb hbox hg; obtain ⟨hcz22_0, hcz22_1, hcz22_2, hcz22_3, hcz22_4, hcz22_5, hcz22_6, hfz22_0, hfz22_1, hfz22_2, hfz22_3, hfz22_4, hfz22_5, hfz22_6⟩ := cz7_ (w := w21) BK153.out) | ((with_reducible refine gate_callee (f := 23) rfl ?_); refine goesL_ (some 9) rfl rfl Try.func23 (by kernel_rfl) rfl #[.agg #[.int .u64 0, .int .u64 10, .int .u64 0, .int .u64 2, .int .u64 100, .slice none 0 0, .bool true], .int .u64 1, .int .u64 8] rfl (by (try simp only [List.map_toArray, List.map_cons, List.map_nil]); first | done | rfl | (simp only [List.length_drop, List.length_take]; rfl)) ?_; (refine (channel_Hold.calls k 0 10 0 2 100 _ _ ([] : List (S44)) true 1 8 t154 t155 t156 t157 t158 t159 t162 t163 _ ?side1 ?side2 A1.out).mono ?_); (case side1 => exact Kd.C_nil _ _); (case side2 => exact Nat.le_refl _); rintro e w23 ⟨v160, rfl, ho0, hb⟩; refine ⟨_, rfl, ?_⟩; have n0_ := Aside0.mk (Kd.R_lower ho0 (below_size (belN HB))); have n1_ := Aside0.mk (blk_below (g := gb153) (o := .cells #[.int .u64 0, .int .u64 10, .int .u64 0, .int .u64 2, .int .u64 100, .slice none 0 0, .bool true] 25 (0, 0)) (by (with_reducible repeat (first | refine blk_drewN ?_ _ | refine blk_drew ?_ | refine blk_alloc ?_ _)); refine blk_put (cs := #[.int .u64 0, .int .u64 10, .int .u64 0, .int .u64 2, .int .u64 100, .slice none 0 0, .bool false]) ?_ 6 _ rfl; refine blk_put (cs := #[.int .u64 0, .int .u64 10, .int .u64 0, .int .u64 2, .int .u64 100, .slice none 0 0, .bool false]) ?_ 5 _ rfl; refine blk_put (cs := #[.int .u64 0, .int .u64 10, .int .u64 0, .int .u64 2, .int .u64 0, .slice none 0 0, .bool false]) ?_ 4 _ rfl; refine blk_put (cs := #[.int .u64 0, .int .u64 10, .int .u64 0, .int .u64 0, .int .u64 0, .slice none 0 0, .bool false]) ?_ 3 _ rfl; refine blk_put (cs := #[.int .u64 0, .int .u64 10, .int .u64 0, .int .u64 0, .int .u64 0, .slice none 0 0, .bool false]) ?_ 2 _ rfl; refine blk_put (cs := #[.int .u64 0, .int .u64 0, .int .u64 0, .int .u64 0, .int .u64 0, .slice none 0 0, .bool false]) ?_ 1 _ rfl; refine blk_put (cs := #[.int .u64 0, .int .u64 0, .int .u64 0, .int .u64 0, .int .u64 0, .slice none 0 0, .bool false]) ?_ 0 _ rfl; (with_reducible repeat (first | refine blk_drewN ?_ _ | refine blk_drew ?_ | refine blk_alloc ?_ _)); exact BK153.out) hb); have n2_ := Aside0.mk (below_step (belN HB) hb); clear BK153; clear HB; have HO161 := n0_; have BK153 := n1_; have HB := n2_; clear n0_ n1_ n2_; (try clear hb); (try clear hb2); (try clear hk); (try clear hi); (try clear ho0)) | ((with_reducible refine gate_dst (N := 2) rfl ?_); (try (refine gate_guard (by rfl) ?_; dsimp only)); refine box_event ?hg (N := 2) ?hd (cs := #[.int .u64 0, .int .u64 0, .int .u64 0, .int .u64 0, .int .u64 0, .slice none 0 0, .bool false]) (t := 25) ?hr ?_; (case hd => rfl); (case hg => rfl); (case hr => first | (go_simp; done) | (go_simp; rfl)); intro gb164 hg w24 hbox hb; have n0_ := Aside0.mk (Kd.R_below (Kd.RN HO161) hb); have n1_ := Aside0.mk (blk_below (g := gb153) (blkN BK153) hb); have n2_ := Aside0.mk (below_step (belN HB) hb); have n3_ := Aside0.mk (hbox); have n4_ := Aside0.mk ((by rw [hg]; exact (below_size (belN HB)) : w.heap.size ≤ gb164)); have n5_ := Aside0.mk ((by rw [hg]; exact (below_size (belN HB)) : w.heap.size ≤ gb164)); have n6_ := Aside0.mk ((by rw [hg]; exact Nat.ne_of_lt (blk_lt (g := gb153) (blkN BK153)) : gb153 ≠ gb164)); have n7_ := Aside0.mk ((by rw [hg]; exact Nat.ne_of_gt (blk_lt (g := gb153) (blkN BK153)) : gb164 ≠ gb153)); clear HO161; clear BK153; clear HB; have HO161 := n0_; have BK153 := n1_; have HB := n2_; have BK164 := n3_; have GW164 := n4_; have GE164 := n5_; have NB153_164 := n6_; have NB164_153 := n7_; clear n0_ n1_ n2_ n3_ n4_ n5_ n6_ n7_; clear hb hbox hg; have hnb25 := NB164_153.out; have hnc25 := NB153_164.out; obtain ⟨hcz26_0, hcz26_1, hcz26_2, hcz26_3, hcz26_4, hcz26_5, hcz26_6, hfz26_0, hfz26_1, hfz26_2, hfz26_3, hfz26_4, hfz26_5, hfz26_6⟩ := cz7_ (w := w24) BK164.out; obtain ⟨Ao27, co27, eo27⟩ := Kd.R_slice HO161.out; subst eo27; obtain ⟨hcz28_0, hcz28_1, hcz28_2, hcz28_3, hcz28_4, hcz28_5, hcz28_6, hfz28_0, hfz28_1, hfz28_2, hfz28_3, hfz28_4, hfz28_5, hfz28_6⟩ := cz7_ (w := w24) BK153.out) | ((with_reducible refine gate_callee (f := 23) rfl ?_); refine goesL_ (some 14) rfl rfl Try.func23 (by kernel_rfl) rfl #[.agg #[.int .u64 0, .int .u64 10, .int .u64 0, .int .u64 2, .int .u64 100, .slice none 0 0, .bool true], .int .u64 1, .int .u64 9] rfl (by (try simp only [List.map_toArray, List.map_cons, List.map_nil]); first | done | rfl | (simp only [List.length_drop, List.length_take]; rfl)) ?_; (refine (channel_Hold.calls k 0 10 0 2 100 _ _ ([] : List (S44)) true 1 9 t165 t166 t167 t168 t169 t170 t173 t174 _ ?side1 ?side2 A2.out).mono ?_); (case side1 => exact Kd.C_nil _ _); (case side2 => exact Nat.le_refl _); rintro e w29 ⟨v171, rfl, ho0, hb⟩; refine ⟨_, rfl, ?_⟩; have n0_ := Aside0.mk (Kd.R_elder' (Kd.RF HO161 BK164) (Kd.R_base ho0) hb); have n1_ := Aside0.mk (Kd.R_lower (Kd.R_new' ho0 (Kd.R_lt (Kd.RF HO161 BK164))) (below_size (belN HB))); have n2_ := Aside0.mk (blk_below (g := gb153) (blkF BK153) hb); have n3_ := Aside0.mk (blk_below (g := gb164) (o := .cells #[.int .u64 t154, .int .u64 t155, .int .u64 t156, .int .u64 t157, .int .u64 t158, .slice Ao27 t159.length co27, .bool t162] 25 (0, 0)) (by (with_reducible repeat (first | refine blk_drewN ?_ _ | refine blk_drew ?_ | refine blk_alloc ?_ _)); refine blk_put (cs := #[.int .u64 t154, .int .u64 t155, .int .u64 t156, .int .u64 t157, .int .u64 t158, .slice Ao27 t159.length co27, .bool false]) ?_ 6 _ rfl; refine blk_put (cs := #[.int .u64 t154, .int .u64 t155, .int .u64 t156, .int .u64 t157, .int .u64 t158, .slice none 0 0, .bool false]) ?_ 5 _ rfl; refine blk_put (cs := #[.int .u64 t154, .int .u64 t155, .int .u64 t156, .int .u64 t157, .int .u64 0, .slice none 0 0, .bool false]) ?_ 4 _ rfl; refine blk_put (cs := #[.int .u64 t154, .int .u64 t155, .int .u64 t156, .int .u64 0, .int .u64 0, .slice none 0 0, .bool false]) ?_ 3 _ rfl; refine blk_put (cs := #[.int .u64 t154, .int .u64 t155, .int .u64 0, .int .u64 0, .int .u64 0, .slice none 0 0, .bool false]) ?_ 2 _ rfl; refine blk_put (cs := #[.int .u64 t154, .int .u64 0, .int .u64 0, .int .u64 0, .int .u64 0, .slice none 0 0, .bool false]) ?_ 1 _ rfl; refine blk_put (cs := #[.int .u64 0, .int .u64 0, .int .u64 0, .int .u64 0, .int .u64 0, .slice none 0 0, .bool false]) ?_ 0 _ rfl; (with_reducible repeat (first | refine blk_drewN ?_ _ | refine blk_drew ?_ | refine blk_alloc ?_ _)); exact BK164.out) hb); have n4_ := Aside0.mk (below_step (belN HB) hb); clear HO161; clear BK153; clear BK164; clear HB; have HO161 := n0_; have HO172 := n1_; have BK153 := n2_; have BK164 := n3_; have HB := n4_; clear n0_ n1_ n2_ n3_ n4_; (try clear hb); (try clear hb2); (try clear hk); (try clear hi); (try clear ho0)) | ((with_reducible refine gate_dst (N := 4) rfl ?_); (try (refine gate_guard (by rfl) ?_; dsimp only)); refine box_event ?hg (N := 4) ?hd (cs := #[.int .u64 0, .int .u64 0, .int .u64 0, .int .u64 0, .int .u64 0, .slice none 0 0, .bool false]) (t := 25) ?hr ?_; (case hd => rfl); (case hg => rfl); (case hr => first | (go_simp; done) | (go_simp; rfl)); intro gb175 hg w30 hbox hb; have n0_ := Aside0.mk (Kd.R_below (Kd.RN HO161) hb); have n1_ := Aside0.mk (Kd.R_below (Kd.RN HO172) hb); have n2_ := Aside0.mk (blk_below (g := gb153) (blkN BK153) hb); have n3_ := Aside0.mk (blk_below (g := gb164) (blkN BK164) hb); have n4_ := Aside0.mk (below_step (belN HB) hb); have n5_ := Aside0.mk (hbox); have n6_ := Aside0.mk ((by rw [hg]; exact (below_size (belN HB)) : w.heap.size ≤ gb175)); have n7_ := Aside0.mk ((by rw [hg]; exact (below_size (belN HB)) : w.heap.size ≤ gb175)); have n8_ := Aside0.mk ((by rw [hg]; exact Nat.ne_of_lt (blk_lt (g := gb153) (blkN BK153)) : gb153 ≠ gb175)); have n9_ := Aside0.mk ((by rw [hg]; exact Nat.ne_of_gt (blk_lt (g := gb153) (blkN BK153)) : gb175 ≠ gb153)); have n10_ := Aside0.mk ((by rw [hg]; exact Nat.ne_of_lt (blk_lt (g := gb164) (blkN BK164)) : gb164 ≠ gb175)); have n11_ := Aside0.mk ((by rw [hg]; exact Nat.ne_of_gt (blk_lt (g := gb164) (blkN BK164)) : gb175 ≠ gb164)); clear HO161; clear HO172; clear BK153; clear BK164; clear HB; have HO161 := n0_; have HO172 := n1_; have BK153 := n2_; have BK164 := n3_; have HB := n4_; have BK175 := n5_; have GW175 := n6_; have GE175 := n7_; have NB153_175 := n8_; have NB175_153 := n9_; have NB164_175 := n10_; have NB175_164 := n11_; clear n0_ n1_ n2_ n3_ n4_ n5_ n6_ n7_ n8_ n9_ n10_ n11_; clear hb hbox hg; have hnb31 := NB175_153.out; have hnc31 := NB153_175.out; have hnb32 := NB175_164.out; have hnc32 := NB164_175.out; obtain ⟨hcz33_0, hcz33_1, hcz33_2, hcz33_3, hcz33_4, hcz33_5, hcz33_6, hfz33_0, hfz33_1, hfz33_2, hfz33_3, hfz33_4, hfz33_5, hfz33_6⟩ := cz7_ (w := w30) BK175.out; obtain ⟨Ao34, co34, eo34⟩ := Kd.R_slice HO172.out; subst eo34; obtain ⟨hcz35_0, hcz35_1, hcz35_2, hcz35_3, hcz35_4, hcz35_5, hcz35_6, hfz35_0, hfz35_1, hfz35_2, hfz35_3, hfz35_4, hfz35_5, hfz35_6⟩ := cz7_ (w := w30) BK164.out))
    go_ret
    exact ⟨by first | rfl | (simp [errW_none, errW_some] <;> rfl) | (simp [*, errW_none, errW_some] <;> rfl), by repeat (first | (with_reducible first | exact HB.out | apply below_alloc | apply pw_below_drewN | apply below_drew1 | refine below_set ?_ GE153.out | refine below_set ?_ GE164.out | refine below_set ?_ GE175.out) | exact HB.out)⟩
  ·rw [if_neg c4] at H
   have c4b0 : (t155 == 2) = false := beq_eq_false_iff_ne.mpr c4
   have c4b1 : (t155 != 2) = true := bne_iff_ne.mpr c4
   obtain rfl := Option.some.inj H
   go_enter Try.func21, Try.ntmps21
   go_wp2_with (first | ((with_reducible refine gate_dst (N := 1) rfl ?_); (try (refine gate_guard (by rfl) ?_; dsimp only)); refine box_event ?hg (N := 1) ?hd (cs := #[.int .u64 0, .int .u64 0, .int .u64 0, .int .u64 0, .int .u64 0, .slice none 0 0, .bool false]) (t := 25) ?hr ?_; (case hd => rfl); (case hg => rfl); (case hr => first | (go_simp; done) | (go_simp; rfl)); intro gb153 hg w36 hbox hb; have n0_ := Aside0.mk (below_step (belN HB) hb); have n1_ := Aside0.mk (hbox); have n2_ := Aside0.mk ((by rw [hg]; exact (below_size (belN HB)) : w.heap.size ≤ gb153)); have n3_ := Aside0.mk ((by rw [hg]; exact (below_size (belN HB)) : w.heap.size ≤ gb153)); clear HB; have HB := n0_; have BK153 := n1_; have GW153 := n2_; have GE153 := n3_; clear n0_ n1_ n2_ n3_; clear hb hbox hg; obtain ⟨hcz37_0, hcz37_1, hcz37_2, hcz37_3, hcz37_4, hcz37_5, hcz37_6, hfz37_0, hfz37_1, hfz37_2, hfz37_3, hfz37_4, hfz37_5, hfz37_6⟩ := cz7_ (w := w36) BK153.out) | ((with_reducible refine gate_callee (f := 23) rfl ?_); refine goesL_ (some 9) rfl rfl Try.func23 (by kernel_rfl) rfl #[.agg #[.int .u64 0, .int .u64 10, .int .u64 0, .int .u64 2, .int .u64 100, .slice none 0 0, .bool true], .int .u64 1, .int .u64 8] rfl (by (try simp only [List.map_toArray, List.map_cons, List.map_nil]); first | done | rfl | (simp only [List.length_drop, List.length_take]; rfl)) ?_; (refine (channel_Hold.calls k 0 10 0 2 100 _ _ ([] : List (S44)) true 1 8 t154 t155 t156 t157 t158 t159 t162 t163 _ ?side1 ?side2 A1.out).mono ?_); (case side1 => exact Kd.C_nil _ _); (case side2 => exact Nat.le_refl _); rintro e w38 ⟨v160, rfl, ho0, hb⟩; refine ⟨_, rfl, ?_⟩; have n0_ := Aside0.mk (Kd.R_lower ho0 (below_size (belN HB))); have n1_ := Aside0.mk (blk_below (g := gb153) (o := .cells #[.int .u64 0, .int .u64 10, .int .u64 0, .int .u64 2, .int .u64 100, .slice none 0 0, .bool true] 25 (0, 0)) (by (with_reducible repeat (first | refine blk_drewN ?_ _ | refine blk_drew ?_ | refine blk_alloc ?_ _)); refine blk_put (cs := #[.int .u64 0, .int .u64 10, .int .u64 0, .int .u64 2, .int .u64 100, .slice none 0 0, .bool false]) ?_ 6 _ rfl; refine blk_put (cs := #[.int .u64 0, .int .u64 10, .int .u64 0, .int .u64 2, .int .u64 100, .slice none 0 0, .bool false]) ?_ 5 _ rfl; refine blk_put (cs := #[.int .u64 0, .int .u64 10, .int .u64 0, .int .u64 2, .int .u64 0, .slice none 0 0, .bool false]) ?_ 4 _ rfl; refine blk_put (cs := #[.int .u64 0, .int .u64 10, .int .u64 0, .int .u64 0, .int .u64 0, .slice none 0 0, .bool false]) ?_ 3 _ rfl; refine blk_put (cs := #[.int .u64 0, .int .u64 10, .int .u64 0, .int .u64 0, .int .u64 0, .slice none 0 0, .bool false]) ?_ 2 _ rfl; refine blk_put (cs := #[.int .u64 0, .int .u64 0, .int .u64 0, .int .u64 0, .int .u64 0, .slice none 0 0, .bool false]) ?_ 1 _ rfl; refine blk_put (cs := #[.int .u64 0, .int .u64 0, .int .u64 0, .int .u64 0, .int .u64 0, .slice none 0 0, .bool false]) ?_ 0 _ rfl; (with_reducible repeat (first | refine blk_drewN ?_ _ | refine blk_drew ?_ | refine blk_alloc ?_ _)); exact BK153.out) hb); have n2_ := Aside0.mk (below_step (belN HB) hb); clear BK153; clear HB; have HO161 := n0_; have BK153 := n1_; have HB := n2_; clear n0_ n1_ n2_; (try clear hb); (try clear hb2); (try clear hk); (try clear hi); (try clear ho0)) | ((with_reducible refine gate_dst (N := 2) rfl ?_); (try (refine gate_guard (by rfl) ?_; dsimp only)); refine box_event ?hg (N := 2) ?hd (cs := #[.int .u64 0, .int .u64 0, .int .u64 0, .int .u64 0, .int .u64 0, .slice none 0 0, .bool false]) (t := 25) ?hr ?_; (case hd => rfl); (case hg => rfl); (case hr => first | (go_simp; done) | (go_simp; rfl)); intro gb164 hg w39 hbox hb; have n0_ := Aside0.mk (Kd.R_below (Kd.RN HO161) hb); have n1_ := Aside0.mk (blk_below (g := gb153) (blkN BK153) hb); have n2_ := Aside0.mk (below_step (belN HB) hb); have n3_ := Aside0.mk (hbox); have n4_ := Aside0.mk ((by rw [hg]; exact (below_size (belN HB)) : w.heap.size ≤ gb164)); have n5_ := Aside0.mk ((by rw [hg]; exact (below_size (belN HB)) : w.heap.size ≤ gb164)); have n6_ := Aside0.mk ((by rw [hg]; exact Nat.ne_of_lt (blk_lt (g := gb153) (blkN BK153)) : gb153 ≠ gb164)); have n7_ := Aside0.mk ((by rw [hg]; exact Nat.ne_of_gt (blk_lt (g := gb153) (blkN BK153)) : gb164 ≠ gb153)); clear HO161; clear BK153; clear HB; have HO161 := n0_; have BK153 := n1_; have HB := n2_; have BK164 := n3_; have GW164 := n4_; have GE164 := n5_; have NB153_164 := n6_; have NB164_153 := n7_; clear n0_ n1_ n2_ n3_ n4_ n5_ n6_ n7_; clear hb hbox hg; have hnb40 := NB164_153.out; have hnc40 := NB153_164.out; obtain ⟨hcz41_0, hcz41_1, hcz41_2, hcz41_3, hcz41_4, hcz41_5, hcz41_6, hfz41_0, hfz41_1, hfz41_2, hfz41_3, hfz41_4, hfz41_5, hfz41_6⟩ := cz7_ (w := w39) BK164.out; obtain ⟨Ao42, co42, eo42⟩ := Kd.R_slice HO161.out; subst eo42; obtain ⟨hcz43_0, hcz43_1, hcz43_2, hcz43_3, hcz43_4, hcz43_5, hcz43_6, hfz43_0, hfz43_1, hfz43_2, hfz43_3, hfz43_4, hfz43_5, hfz43_6⟩ := cz7_ (w := w39) BK153.out) | ((with_reducible refine gate_callee (f := 23) rfl ?_); refine goesL_ (some 14) rfl rfl Try.func23 (by kernel_rfl) rfl #[.agg #[.int .u64 0, .int .u64 10, .int .u64 0, .int .u64 2, .int .u64 100, .slice none 0 0, .bool true], .int .u64 1, .int .u64 9] rfl (by (try simp only [List.map_toArray, List.map_cons, List.map_nil]); first | done | rfl | (simp only [List.length_drop, List.length_take]; rfl)) ?_; (refine (channel_Hold.calls k 0 10 0 2 100 _ _ ([] : List (S44)) true 1 9 t165 t166 t167 t168 t169 t170 t173 t174 _ ?side1 ?side2 A2.out).mono ?_); (case side1 => exact Kd.C_nil _ _); (case side2 => exact Nat.le_refl _); rintro e w44 ⟨v171, rfl, ho0, hb⟩; refine ⟨_, rfl, ?_⟩; have n0_ := Aside0.mk (Kd.R_elder' (Kd.RF HO161 BK164) (Kd.R_base ho0) hb); have n1_ := Aside0.mk (Kd.R_lower (Kd.R_new' ho0 (Kd.R_lt (Kd.RF HO161 BK164))) (below_size (belN HB))); have n2_ := Aside0.mk (blk_below (g := gb153) (blkF BK153) hb); have n3_ := Aside0.mk (blk_below (g := gb164) (o := .cells #[.int .u64 t154, .int .u64 t155, .int .u64 t156, .int .u64 t157, .int .u64 t158, .slice Ao42 t159.length co42, .bool t162] 25 (0, 0)) (by (with_reducible repeat (first | refine blk_drewN ?_ _ | refine blk_drew ?_ | refine blk_alloc ?_ _)); refine blk_put (cs := #[.int .u64 t154, .int .u64 t155, .int .u64 t156, .int .u64 t157, .int .u64 t158, .slice Ao42 t159.length co42, .bool false]) ?_ 6 _ rfl; refine blk_put (cs := #[.int .u64 t154, .int .u64 t155, .int .u64 t156, .int .u64 t157, .int .u64 t158, .slice none 0 0, .bool false]) ?_ 5 _ rfl; refine blk_put (cs := #[.int .u64 t154, .int .u64 t155, .int .u64 t156, .int .u64 t157, .int .u64 0, .slice none 0 0, .bool false]) ?_ 4 _ rfl; refine blk_put (cs := #[.int .u64 t154, .int .u64 t155, .int .u64 t156, .int .u64 0, .int .u64 0, .slice none 0 0, .bool false]) ?_ 3 _ rfl; refine blk_put (cs := #[.int .u64 t154, .int .u64 t155, .int .u64 0, .int .u64 0, .int .u64 0, .slice none 0 0, .bool false]) ?_ 2 _ rfl; refine blk_put (cs := #[.int .u64 t154, .int .u64 0, .int .u64 0, .int .u64 0, .int .u64 0, .slice none 0 0, .bool false]) ?_ 1 _ rfl; refine blk_put (cs := #[.int .u64 0, .int .u64 0, .int .u64 0, .int .u64 0, .int .u64 0, .slice none 0 0, .bool false]) ?_ 0 _ rfl; (with_reducible repeat (first | refine blk_drewN ?_ _ | refine blk_drew ?_ | refine blk_alloc ?_ _)); exact BK164.out) hb); have n4_ := Aside0.mk (below_step (belN HB) hb); clear HO161; clear BK153; clear BK164; clear HB; have HO161 := n0_; have HO172 := n1_; have BK153 := n2_; have BK164 := n3_; have HB := n4_; clear n0_ n1_ n2_ n3_ n4_; (try clear hb); (try clear hb2); (try clear hk); (try clear hi); (try clear ho0)) | ((with_reducible refine gate_dst (N := 4) rfl ?_); (try (refine gate_guard (by rfl) ?_; dsimp only)); refine box_event ?hg (N := 4) ?hd (cs := #[.int .u64 0, .int .u64 0, .int .u64 0, .int .u64 0, .int .u64 0, .slice none 0 0, .bool false]) (t := 25) ?hr ?_; (case hd => rfl); (case hg => rfl); (case hr => first | (go_simp; done) | (go_simp; rfl)); intro gb175 hg w45 hbox hb; have n0_ := Aside0.mk (Kd.R_below (Kd.RN HO161) hb); have n1_ := Aside0.mk (Kd.R_below (Kd.RN HO172) hb); have n2_ := Aside0.mk (blk_below (g := gb153) (blkN BK153) hb); have n3_ := Aside0.mk (blk_below (g := gb164) (blkN BK164) hb); have n4_ := Aside0.mk (below_step (belN HB) hb); have n5_ := Aside0.mk (hbox); have n6_ := Aside0.mk ((by rw [hg]; exact (below_size (belN HB)) : w.heap.size ≤ gb175)); have n7_ := Aside0.mk ((by rw [hg]; exact (below_size (belN HB)) : w.heap.size ≤ gb175)); have n8_ := Aside0.mk ((by rw [hg]; exact Nat.ne_of_lt (blk_lt (g := gb153) (blkN BK153)) : gb153 ≠ gb175)); have n9_ := Aside0.mk ((by rw [hg]; exact Nat.ne_of_gt (blk_lt (g := gb153) (blkN BK153)) : gb175 ≠ gb153)); have n10_ := Aside0.mk ((by rw [hg]; exact Nat.ne_of_lt (blk_lt (g := gb164) (blkN BK164)) : gb164 ≠ gb175)); have n11_ := Aside0.mk ((by rw [hg]; exact Nat.ne_of_gt (blk_lt (g := gb164) (blkN BK164)) : gb175 ≠ gb164)); clear HO161; clear HO172; clear BK153; clear BK164; clear HB; have HO161 := n0_; have HO172 := n1_; have BK153 := n2_; have BK164 := n3_; have HB := n4_; have BK175 := n5_; have GW175 := n6_; have GE175 := n7_; have NB153_175 := n8_; have NB175_153 := n9_; have NB164_175 := n10_; have NB175_164 := n11_; clear n0_ n1_ n2_ n3_ n4_ n5_ n6_ n7_ n8_ n9_ n10_ n11_; clear hb hbox hg; have hnb46 := NB175_153.out; have hnc46 := NB153_175.out; have hnb47 := NB175_164.out; have hnc47 := NB164_175.out; obtain ⟨hcz48_0, hcz48_1, hcz48_2, hcz48_3, hcz48_4, hcz48_5, hcz48_6, hfz48_0, hfz48_1, hfz48_2, hfz48_3, hfz48_4, hfz48_5, hfz48_6⟩ := cz7_ (w := w45) BK175.out; obtain ⟨Ao49, co49, eo49⟩ := Kd.R_slice HO172.out; subst eo49; obtain ⟨hcz50_0, hcz50_1, hcz50_2, hcz50_3, hcz50_4, hcz50_5, hcz50_6, hfz50_0, hfz50_1, hfz50_2, hfz50_3, hfz50_4, hfz50_5, hfz50_6⟩ := cz7_ (w := w45) BK164.out))
   go_ret
   exact ⟨by first | rfl | (simp [errW_none, errW_some] <;> rfl) | (simp [*, errW_none, errW_some] <;> rfl), by repeat (first | (with_reducible first | exact HB.out | apply below_alloc | apply pw_below_drewN | apply below_drew1 | refine below_set ?_ GE153.out | refine below_set ?_ GE164.out | refine below_set ?_ GE175.out) | exact HB.out)⟩
 ·rw [if_neg c3] at H
  have c3b0 : (t163 == 0) = false := beq_eq_false_iff_ne.mpr c3
  have c3b1 : (t163 != 0) = true := bne_iff_ne.mpr c3
  obtain rfl := Option.some.inj H
  go_enter Try.func21, Try.ntmps21
  go_wp2_with (first | ((with_reducible refine gate_dst (N := 1) rfl ?_); (try (refine gate_guard (by rfl) ?_; dsimp only)); refine box_event ?hg (N := 1) ?hd (cs := #[.int .u64 0, .int .u64 0, .int .u64 0, .int .u64 0, .int .u64 0, .slice none 0 0, .bool false]) (t := 25) ?hr ?_; (case hd => rfl); (case hg => rfl); (case hr => first | (go_simp; done) | (go_simp; rfl)); intro gb153 hg w51 hbox hb; have n0_ := Aside0.mk (below_step (belN HB) hb); have n1_ := Aside0.mk (hbox); have n2_ := Aside0.mk ((by rw [hg]; exact (below_size (belN HB)) : w.heap.size ≤ gb153)); have n3_ := Aside0.mk ((by rw [hg]; exact (below_size (belN HB)) : w.heap.size ≤ gb153)); clear HB; have HB := n0_; have BK153 := n1_; have GW153 := n2_; have GE153 := n3_; clear n0_ n1_ n2_ n3_; clear hb hbox hg; obtain ⟨hcz52_0, hcz52_1, hcz52_2, hcz52_3, hcz52_4, hcz52_5, hcz52_6, hfz52_0, hfz52_1, hfz52_2, hfz52_3, hfz52_4, hfz52_5, hfz52_6⟩ := cz7_ (w := w51) BK153.out) | ((with_reducible refine gate_callee (f := 23) rfl ?_); refine goesL_ (some 9) rfl rfl Try.func23 (by kernel_rfl) rfl #[.agg #[.int .u64 0, .int .u64 10, .int .u64 0, .int .u64 2, .int .u64 100, .slice none 0 0, .bool true], .int .u64 1, .int .u64 8] rfl (by (try simp only [List.map_toArray, List.map_cons, List.map_nil]); first | done | rfl | (simp only [List.length_drop, List.length_take]; rfl)) ?_; (refine (channel_Hold.calls k 0 10 0 2 100 _ _ ([] : List (S44)) true 1 8 t154 t155 t156 t157 t158 t159 t162 t163 _ ?side1 ?side2 A1.out).mono ?_); (case side1 => exact Kd.C_nil _ _); (case side2 => exact Nat.le_refl _); rintro e w53 ⟨v160, rfl, ho0, hb⟩; refine ⟨_, rfl, ?_⟩; have n0_ := Aside0.mk (Kd.R_lower ho0 (below_size (belN HB))); have n1_ := Aside0.mk (blk_below (g := gb153) (o := .cells #[.int .u64 0, .int .u64 10, .int .u64 0, .int .u64 2, .int .u64 100, .slice none 0 0, .bool true] 25 (0, 0)) (by (with_reducible repeat (first | refine blk_drewN ?_ _ | refine blk_drew ?_ | refine blk_alloc ?_ _)); refine blk_put (cs := #[.int .u64 0, .int .u64 10, .int .u64 0, .int .u64 2, .int .u64 100, .slice none 0 0, .bool false]) ?_ 6 _ rfl; refine blk_put (cs := #[.int .u64 0, .int .u64 10, .int .u64 0, .int .u64 2, .int .u64 100, .slice none 0 0, .bool false]) ?_ 5 _ rfl; refine blk_put (cs := #[.int .u64 0, .int .u64 10, .int .u64 0, .int .u64 2, .int .u64 0, .slice none 0 0, .bool false]) ?_ 4 _ rfl; refine blk_put (cs := #[.int .u64 0, .int .u64 10, .int .u64 0, .int .u64 0, .int .u64 0, .slice none 0 0, .bool false]) ?_ 3 _ rfl; refine blk_put (cs := #[.int .u64 0, .int .u64 10, .int .u64 0, .int .u64 0, .int .u64 0, .slice none 0 0, .bool false]) ?_ 2 _ rfl; refine blk_put (cs := #[.int .u64 0, .int .u64 0, .int .u64 0, .int .u64 0, .int .u64 0, .slice none 0 0, .bool false]) ?_ 1 _ rfl; refine blk_put (cs := #[.int .u64 0, .int .u64 0, .int .u64 0, .int .u64 0, .int .u64 0, .slice none 0 0, .bool false]) ?_ 0 _ rfl; (with_reducible repeat (first | refine blk_drewN ?_ _ | refine blk_drew ?_ | refine blk_alloc ?_ _)); exact BK153.out) hb); have n2_ := Aside0.mk (below_step (belN HB) hb); clear BK153; clear HB; have HO161 := n0_; have BK153 := n1_; have HB := n2_; clear n0_ n1_ n2_; (try clear hb); (try clear hb2); (try clear hk); (try clear hi); (try clear ho0)) | ((with_reducible refine gate_dst (N := 2) rfl ?_); (try (refine gate_guard (by rfl) ?_; dsimp only)); refine box_event ?hg (N := 2) ?hd (cs := #[.int .u64 0, .int .u64 0, .int .u64 0, .int .u64 0, .int .u64 0, .slice none 0 0, .bool false]) (t := 25) ?hr ?_; (case hd => rfl); (case hg => rfl); (case hr => first | (go_simp; done) | (go_simp; rfl)); intro gb164 hg w54 hbox hb; have n0_ := Aside0.mk (Kd.R_below (Kd.RN HO161) hb); have n1_ := Aside0.mk (blk_below (g := gb153) (blkN BK153) hb); have n2_ := Aside0.mk (below_step (belN HB) hb); have n3_ := Aside0.mk (hbox); have n4_ := Aside0.mk ((by rw [hg]; exact (below_size (belN HB)) : w.heap.size ≤ gb164)); have n5_ := Aside0.mk ((by rw [hg]; exact (below_size (belN HB)) : w.heap.size ≤ gb164)); have n6_ := Aside0.mk ((by rw [hg]; exact Nat.ne_of_lt (blk_lt (g := gb153) (blkN BK153)) : gb153 ≠ gb164)); have n7_ := Aside0.mk ((by rw [hg]; exact Nat.ne_of_gt (blk_lt (g := gb153) (blkN BK153)) : gb164 ≠ gb153)); clear HO161; clear BK153; clear HB; have HO161 := n0_; have BK153 := n1_; have HB := n2_; have BK164 := n3_; have GW164 := n4_; have GE164 := n5_; have NB153_164 := n6_; have NB164_153 := n7_; clear n0_ n1_ n2_ n3_ n4_ n5_ n6_ n7_; clear hb hbox hg; have hnb55 := NB164_153.out; have hnc55 := NB153_164.out; obtain ⟨hcz56_0, hcz56_1, hcz56_2, hcz56_3, hcz56_4, hcz56_5, hcz56_6, hfz56_0, hfz56_1, hfz56_2, hfz56_3, hfz56_4, hfz56_5, hfz56_6⟩ := cz7_ (w := w54) BK164.out; obtain ⟨Ao57, co57, eo57⟩ := Kd.R_slice HO161.out; subst eo57; obtain ⟨hcz58_0, hcz58_1, hcz58_2, hcz58_3, hcz58_4, hcz58_5, hcz58_6, hfz58_0, hfz58_1, hfz58_2, hfz58_3, hfz58_4, hfz58_5, hfz58_6⟩ := cz7_ (w := w54) BK153.out) | ((with_reducible refine gate_callee (f := 23) rfl ?_); refine goesL_ (some 14) rfl rfl Try.func23 (by kernel_rfl) rfl #[.agg #[.int .u64 0, .int .u64 10, .int .u64 0, .int .u64 2, .int .u64 100, .slice none 0 0, .bool true], .int .u64 1, .int .u64 9] rfl (by (try simp only [List.map_toArray, List.map_cons, List.map_nil]); first | done | rfl | (simp only [List.length_drop, List.length_take]; rfl)) ?_; (refine (channel_Hold.calls k 0 10 0 2 100 _ _ ([] : List (S44)) true 1 9 t165 t166 t167 t168 t169 t170 t173 t174 _ ?side1 ?side2 A2.out).mono ?_); (case side1 => exact Kd.C_nil _ _); (case side2 => exact Nat.le_refl _); rintro e w59 ⟨v171, rfl, ho0, hb⟩; refine ⟨_, rfl, ?_⟩; have n0_ := Aside0.mk (Kd.R_elder' (Kd.RF HO161 BK164) (Kd.R_base ho0) hb); have n1_ := Aside0.mk (Kd.R_lower (Kd.R_new' ho0 (Kd.R_lt (Kd.RF HO161 BK164))) (below_size (belN HB))); have n2_ := Aside0.mk (blk_below (g := gb153) (blkF BK153) hb); have n3_ := Aside0.mk (blk_below (g := gb164) (o := .cells #[.int .u64 t154, .int .u64 t155, .int .u64 t156, .int .u64 t157, .int .u64 t158, .slice Ao57 t159.length co57, .bool t162] 25 (0, 0)) (by (with_reducible repeat (first | refine blk_drewN ?_ _ | refine blk_drew ?_ | refine blk_alloc ?_ _)); refine blk_put (cs := #[.int .u64 t154, .int .u64 t155, .int .u64 t156, .int .u64 t157, .int .u64 t158, .slice Ao57 t159.length co57, .bool false]) ?_ 6 _ rfl; refine blk_put (cs := #[.int .u64 t154, .int .u64 t155, .int .u64 t156, .int .u64 t157, .int .u64 t158, .slice none 0 0, .bool false]) ?_ 5 _ rfl; refine blk_put (cs := #[.int .u64 t154, .int .u64 t155, .int .u64 t156, .int .u64 t157, .int .u64 0, .slice none 0 0, .bool false]) ?_ 4 _ rfl; refine blk_put (cs := #[.int .u64 t154, .int .u64 t155, .int .u64 t156, .int .u64 0, .int .u64 0, .slice none 0 0, .bool false]) ?_ 3 _ rfl; refine blk_put (cs := #[.int .u64 t154, .int .u64 t155, .int .u64 0, .int .u64 0, .int .u64 0, .slice none 0 0, .bool false]) ?_ 2 _ rfl; refine blk_put (cs := #[.int .u64 t154, .int .u64 0, .int .u64 0, .int .u64 0, .int .u64 0, .slice none 0 0, .bool false]) ?_ 1 _ rfl; refine blk_put (cs := #[.int .u64 0, .int .u64 0, .int .u64 0, .int .u64 0, .int .u64 0, .slice none 0 0, .bool false]) ?_ 0 _ rfl; (with_reducible repeat (first | refine blk_drewN ?_ _ | refine blk_drew ?_ | refine blk_alloc ?_ _)); exact BK164.out) hb); have n4_ := Aside0.mk (below_step (belN HB) hb); clear HO161; clear BK153; clear BK164; clear HB; have HO161 := n0_; have HO172 := n1_; have BK153 := n2_; have BK164 := n3_; have HB := n4_; clear n0_ n1_ n2_ n3_ n4_; (try clear hb); (try clear hb2); (try clear hk); (try clear hi); (try clear ho0)) | ((with_reducible refine gate_dst (N := 4) rfl ?_); (try (refine gate_guard (by rfl) ?_; dsimp only)); refine box_event ?hg (N := 4) ?hd (cs := #[.int .u64 0, .int .u64 0, .int .u64 0, .int .u64 0, .int .u64 0, .slice none 0 0, .bool false]) (t := 25) ?hr ?_; (case hd => rfl); (case hg => rfl); (case hr => first | (go_simp; done) | (go_simp; rfl)); intro gb175 hg w60 hbox hb; have n0_ := Aside0.mk (Kd.R_below (Kd.RN HO161) hb); have n1_ := Aside0.mk (Kd.R_below (Kd.RN HO172) hb); have n2_ := Aside0.mk (blk_below (g := gb153) (blkN BK153) hb); have n3_ := Aside0.mk (blk_below (g := gb164) (blkN BK164) hb); have n4_ := Aside0.mk (below_step (belN HB) hb); have n5_ := Aside0.mk (hbox); have n6_ := Aside0.mk ((by rw [hg]; exact (below_size (belN HB)) : w.heap.size ≤ gb175)); have n7_ := Aside0.mk ((by rw [hg]; exact (below_size (belN HB)) : w.heap.size ≤ gb175)); have n8_ := Aside0.mk ((by rw [hg]; exact Nat.ne_of_lt (blk_lt (g := gb153) (blkN BK153)) : gb153 ≠ gb175)); have n9_ := Aside0.mk ((by rw [hg]; exact Nat.ne_of_gt (blk_lt (g := gb153) (blkN BK153)) : gb175 ≠ gb153)); have n10_ := Aside0.mk ((by rw [hg]; exact Nat.ne_of_lt (blk_lt (g := gb164) (blkN BK164)) : gb164 ≠ gb175)); have n11_ := Aside0.mk ((by rw [hg]; exact Nat.ne_of_gt (blk_lt (g := gb164) (blkN BK164)) : gb175 ≠ gb164)); clear HO161; clear HO172; clear BK153; clear BK164; clear HB; have HO161 := n0_; have HO172 := n1_; have BK153 := n2_; have BK164 := n3_; have HB := n4_; have BK175 := n5_; have GW175 := n6_; have GE175 := n7_; have NB153_175 := n8_; have NB175_153 := n9_; have NB164_175 := n10_; have NB175_164 := n11_; clear n0_ n1_ n2_ n3_ n4_ n5_ n6_ n7_ n8_ n9_ n10_ n11_; clear hb hbox hg; have hnb61 := NB175_153.out; have hnc61 := NB153_175.out; have hnb62 := NB175_164.out; have hnc62 := NB164_175.out; obtain ⟨hcz63_0, hcz63_1, hcz63_2, hcz63_3, hcz63_4, hcz63_5, hcz63_6, hfz63_0, hfz63_1, hfz63_2, hfz63_3, hfz63_4, hfz63_5, hfz63_6⟩ := cz7_ (w := w60) BK175.out; obtain ⟨Ao64, co64, eo64⟩ := Kd.R_slice HO172.out; subst eo64))
  go_ret
  exact ⟨by first | rfl | (simp [errW_none, errW_some] <;> rfl) | (simp [*, errW_none, errW_some] <;> rfl), by repeat (first | (with_reducible first | exact HB.out | apply below_alloc | apply pw_below_drewN | apply below_drew1 | refine below_set ?_ GE153.out | refine below_set ?_ GE164.out | refine below_set ?_ GE175.out) | exact HB.out)⟩

/-! ### channel_Check: function 33 -/
def channel_Check.f (k : Nat) (a0_0 : Int) (a0_1 : Int) (a0_2 : Int) (a0_3 : Int) (a0_4 : Int) (l0_5 : List (S44)) (a0_6 : Bool) : Option (Int) := (channel_sums.f k a0_0 a0_1 a0_2 a0_3 a0_4 l0_5 a0_6).bind fun bt177 => (some bt177.2.2)
theorem channel_Check.mono : ∀ a0 a1 a2 a3 a4 a5 a6 k, LeO (channel_Check.f k a0 a1 a2 a3 a4 a5 a6) (channel_Check.f (k + 1) a0 a1 a2 a3 a4 a5 a6) := by
  intro a0 a1 a2 a3 a4 a5 a6 k
  unfold channel_Check.f
  repeat' first
      | (with_reducible exact channel_sums.mono _ _ _ _ _ _ _ _)
      | (with_reducible exact LeO.refl _)
      | (with_reducible exact LeO.none _)
      | (with_reducible refine LeO.ite ?_ ?_)
      | (with_reducible refine LeO.bind ?_ (fun _ => ?_))
      | exact channel_sums.mono _ _ _ _ _ _ _ _
      | exact LeO.none _
      | refine LeO.ite ?_ ?_
      | refine LeO.bind ?_ (fun _ => ?_)
set_option maxHeartbeats 8000000 in
set_option maxRecDepth 100000 in
theorem channel_Check.calls (k : Nat) (a0_0 : Int) (a0_1 : Int) (a0_2 : Int) (a0_3 : Int) (a0_4 : Int) (A0_5 : Option Addr) (c0_5 : Nat) (l0_5 : List (S44)) (a0_6 : Bool) (r : Int) (w : World) (hr0_5 : Kd.C k44 w A0_5 l0_5.length l0_5) (hc0_5 : l0_5.length ≤ c0_5) (h : channel_Check.f k a0_0 a0_1 a0_2 a0_3 a0_4 l0_5 a0_6 = some r) :
    Calls Try.prog 33 #[.agg #[.int .u64 a0_0, .int .u64 a0_1, .int .u64 a0_2, .int .u64 a0_3, .int .u64 a0_4, .slice A0_5 l0_5.length c0_5, .bool a0_6]] w fun e w' => e = .returned (.int .i64 r) ∧ Below w.heap.size w w' := by
  have hu25 := Try.underlying25
  have HR0_5 := Aside0.mk hr0_5
  have HC0_5 := Aside0.mk hc0_5
  clear hr0_5 hc0_5
  have HB := Aside0.mk (Below.refl w.heap.size w)
  have H : ((channel_sums.f k a0_0 a0_1 a0_2 a0_3 a0_4 l0_5 a0_6).bind fun bt177 => (some bt177.2.2)) = some r := h
  clear h
  replace H := Option.bind_eq_some_iff.mp H
  obtain ⟨⟨t177, t178, t179⟩, A20, H⟩ := H
  replace H : (some t179) = some r := H
  have A2 := Aside0.mk A20
  clear A20
  obtain rfl := Option.some.inj H
  go_enter Try.func33, Try.ntmps33
  go_wp2_with (first | ((with_reducible refine gate_dst (N := 1) rfl ?_); refine box_event ?hg (N := 1) ?hd (cs := #[.int .u64 a0_0, .int .u64 a0_1, .int .u64 a0_2, .int .u64 a0_3, .int .u64 a0_4, .slice A0_5 l0_5.length c0_5, .bool a0_6]) (t := 25) ?hr ?_; (case hd => rfl); (case hg => rfl); (case hr => first | (go_simp; done) | (go_simp; rfl)); intro gb176 hg w3 hbox hb; have n0_ := Aside0.mk (below_step (belN HB) hb); have n1_ := Aside0.mk (hbox); have n2_ := Aside0.mk ((by rw [hg]; exact (below_size (belN HB)) : w.heap.size ≤ gb176)); have n3_ := Aside0.mk ((by rw [hg]; exact (below_size (belN HB)) : w.heap.size ≤ gb176)); clear HB; have HB := n0_; have BK176 := n1_; have GW176 := n2_; have GE176 := n3_; clear n0_ n1_ n2_ n3_; clear hb hbox hg; obtain ⟨hcz4_0, hcz4_1, hcz4_2, hcz4_3, hcz4_4, hcz4_5, hcz4_6, hfz4_0, hfz4_1, hfz4_2, hfz4_3, hfz4_4, hfz4_5, hfz4_6⟩ := cz7_ (w := w3) BK176.out) | ((with_reducible refine gate_callee (f := 83) rfl ?_); refine goesL_ (some 8) rfl rfl Try.func83 (by kernel_rfl) rfl #[.agg #[.int .u64 a0_0, .int .u64 a0_1, .int .u64 a0_2, .int .u64 a0_3, .int .u64 a0_4, .slice A0_5 l0_5.length c0_5, .bool a0_6]] rfl (by (try simp only [List.map_toArray, List.map_cons, List.map_nil]); first | done | rfl | (simp only [List.length_drop, List.length_take]; rfl)) ?_; (with_reducible refine (channel_sums.calls k a0_0 a0_1 a0_2 a0_3 a0_4 _ _ l0_5 a0_6 t177 t178 t179 _ ?side1 ?side2 A2.out).mono ?_); (case side1 => repeat (first | exact (Kd.C_below HR0_5.out HB.out) | (with_reducible refine Kd.C_alloc ?_ _) | (with_reducible refine Kd.C_drewN ?_ _) | (with_reducible refine Kd.C_drew ?_))); (case side2 => exact HC0_5.out); rintro e w5 ⟨rfl, hb⟩; refine ⟨_, rfl, ?_⟩; have n0_ := Aside0.mk (blk_below (g := gb176) (blkN BK176) hb); have n1_ := Aside0.mk (below_step (belN HB) hb); clear BK176; clear HB; have BK176 := n0_; have HB := n1_; clear n0_ n1_; (try clear hb); (try clear hb2); (try clear hk); (try clear hi)))
  go_ret
  exact ⟨by first | rfl | (simp [errW_none, errW_some] <;> rfl) | (simp [*, errW_none, errW_some] <;> rfl), by repeat (first | (with_reducible first | exact HB.out | apply below_alloc | apply pw_below_drewN | apply below_drew1 | refine below_set ?_ GE176.out) | exact HB.out)⟩

/-! ### slices_Delete_Hold: function 133 (by hand) -/
def slices_Delete_Hold.f (l0 : List (S44)) (a1 : Int) (a2 : Int) : Option (List (S44)) := if 0 ≤ a1 ∧ a1 < (l0.length : Int) ∧ a2 = wrap64 (a1 + 1) ∧ l0.length ≤ 140737488355328 then (some (l0.eraseIdx a1.toNat)) else (none)
set_option maxHeartbeats 8000000 in
set_option maxRecDepth 100000 in
theorem slices_Delete_Hold.calls (P0_ : Nat → Prop) (u9000_ : Value) (l0 : List (S44)) (a1 : Int) (a2 : Int) (r : List (S44)) (w0 w : World) (hB : Below w0.heap.size w0 w) (ho0 : Kd.R k44 44 w w0.heap.size P0_ u9000_ l0) (h : slices_Delete_Hold.f l0 a1 a2 = some r) :
    Calls Try.prog 133 #[u9000_, .int .i64 a1, .int .i64 a2] w fun e w' => ∃ v0_ : Value, e = .returned (v0_) ∧ Kd.R k44 44 w' w0.heap.size (fun k_ => (P0_ k_ ∨ w.heap.size ≤ k_)) v0_ r ∧ Below w0.heap.size w0 w' ∧ Kept w w' (fun k_ => P0_ k_) := by
  unfold slices_Delete_Hold.f at h
  by_cases hc : 0 ≤ a1 ∧ a1 < (l0.length : Int) ∧ a2 = wrap64 (a1 + 1) ∧ l0.length ≤ 140737488355328
  · rw [if_pos hc] at h
    obtain ⟨c1, c2, c3, c4⟩ := hc
    obtain rfl := Option.some.inj h
    clear h
    obtain ⟨i, rfl⟩ := Int.eq_ofNat_of_zero_le c1
    have hi : i < l0.length := by omega
    have c5 : a2 = (i : Int) + 1 := by rw [c3]; unfold wrap64; omega
    subst c5
    rw [Int.toNat_natCast]
    obtain ⟨i0, hi0, _, hsz0, _⟩ := info_parts info44
    have hsz : Kd.sz k44 = 2 := rfl
    have ho := ho0
    obtain ⟨hb0, in0, hown0, hr0⟩ := ho0
    obtain ⟨n, hn⟩ : ∃ n, n = l0.length := ⟨_, rfl⟩
    rcases hown0 with ⟨hl0, ⟨rfl, h0⟩ | ⟨g, cap, cur, rfl, hgb, hg, hnc, hcm, hcs, hct⟩⟩
    · omega
    · have hA : (if cap = i + 1 then some (⟨g, 0, none⟩ : Addr) else some ⟨g, (i + 1) * 2, none⟩) = if cap = i + 1 then some ⟨g, 0, none⟩ else (some (⟨g, 0, none⟩ : Addr)).map (·.add ((i + 1) * Kd.sz k44)) := by
        split
        · rfl
        · simp [hsz, Addr.add]
      obtain ⟨w1, hrun, hR1, hgr1⟩ := Kd.R_delete_run (P := Try.prog) k44 w0.heap.size 23 23 44 i0 Try.underlying23 hi0 (by rw [hsz0]; rfl) (W := w.drew) (Kd.R_drew ho) hi hA (cap - (i + 1))
      have hR1' := hR1
      obtain ⟨_, in1, hown1, _⟩ := hR1'
      rcases hown1 with ⟨hl1, ⟨e1, _⟩ | ⟨g1, cap1, cur1, e1, hgb1, hg1, hnc1, hcm1, hcs1, hct1⟩⟩
      · cases e1
      injection e1 with e1 _ e2
      injection e1 with e1
      injection e1 with e1
      subst e1; subst e2
      obtain ⟨zs, hzs⟩ : ∃ zs, zs = (Builtin.zeroCells ((.agg #[(.int .u64 0), (.int .u64 0)]) : Value).cells 1).toList := ⟨_, rfl⟩
      have hzl : zs.length = 2 := by rw [hzs]; simp [Builtin.zeroCells, Value.cells]
      have hz1 : ∀ v ∈ zs, v.oneCell' = true := by
        have hall : (Builtin.zeroCells ((.agg #[(.int .u64 0), (.int .u64 0)]) : Value).cells 1).toList.all (fun v => v.oneCell') = true := by simp [Builtin.zeroCells, Value.cells]; decide
        rw [hzs]; exact List.all_eq_true.1 hall
      have hzv : ∀ w, (zeroValue 44).run Try.prog w = .ok ((.agg #[(.int .u64 0), (.int .u64 0)])) w := fun _ => by kernel_rfl
      obtain ⟨cur2, hcur2⟩ : ∃ cur2, cur2 = (cur1.toList.take ((l0.length - 1) * 2) ++ zs ++ cur1.toList.drop ((l0.length - 1) * 2 + zs.length)).toArray := ⟨_, rfl⟩
      rw [hsz] at hcs1
      have hclr : ∀ ty c, (Builtin.clear_ #[23] ty #[.slice (some ⟨g, (l0.length - 1) * 2, none⟩) 1 c]).run Try.prog w1 = .ok (.tuple #[]) (w1.setRow g cur2) := fun ty c => by
        rw [hcur2]
        exact run_clear_rowK w1 23 44 ty _ Try.underlying23 hzv g ((l0.length - 1) * 2) 1 c (by omega) cur1 44 hg1 zs hzs (by rw [hzl, hcs1]; omega) hz1
      have hc2s : cur2.size = cur1.size := by have hq := Array.length_toList (xs := cur1); rw [hcur2]; simp only [List.size_toArray, List.length_append, List.length_take, List.length_drop]; omega
      have hc2t : cur2.toList.take ((l0.length - 1) * Kd.sz k44) = cur1.toList.take ((l0.length - 1) * Kd.sz k44) := by
        rw [hsz, hcur2]
        show List.take _ (List.take _ cur1.toList ++ zs ++ _) = _
        rw [List.append_assoc, List.take_append_of_le_length (by rw [List.length_take, Array.length_toList (xs := cur1)]; omega), List.take_take, Nat.min_self]
      have hR2 := Kd_R_past hR1 hg1 hc2s hc2t
      have hgr : w.grownBy (w1.setRow g cur2) (some g) := grown_trans (show w.grownBy w1 (some g) from ⟨hgr1.os, hgr1.tape, hgr1.output, hgr1.size, hgr1.block⟩) (grown_setRow w1 g cur2)
      have hBf : Below w0.heap.size w0 (w1.setRow g cur2) := hB.grown hgr hB.size (fun k hk => by injection hk with hk; omega)
      have hKf : Kept w (w1.setRow g cur2) (fun k_ => P0_ k_) := Kept.of_grown (S := fun k_ => P0_ k_) hgr (Kept.refl w _) (fun k_ e_ => .inl (hb0 k_ e_))
      have hRf := Kd.R_mono (ok' := fun k_ => P0_ k_ ∨ w.heap.size ≤ k_) hR2 (fun k_ hk => .inl hk)
      rw [← hn] at hi hnc hrun hclr hRf ⊢
      unfold maxLen at hcm
      have q1 : (0 : Int) ≤ (i : Int) := by omega
      have q2 : (0 : Int) ≤ (i : Int) + 1 := by omega
      have q3 : (i : Int) + 1 ≤ (n : Int) := by omega
      have q4 : (i : Int) ≤ (i : Int) + 1 := by omega
      have q5 : (i : Int) ≤ (n : Int) := by omega
      have q6 : ((i : Int) + 1).toNat = i + 1 := by omega
      have q7 : ¬ ((i : Int) = (i : Int) + 1) := by omega
      have q8 : ¬ (cap = n - 1) := by omega
      have q9 : ¬ (n = i) := by omega
      have q10 : n - (n - 1) = 1 := by omega
      have q11 : (i : Int) ≤ (cap : Int) := by omega
      have q12 : ((n - 1 : Nat) : Int) ≤ (n : Int) := by omega
      have q13 : (n : Int) ≤ (cap : Int) := by omega
      have q14 : i ≤ n := by omega
      clear hcur2 hc2s hc2t hR2 hgr hR1 hgr1 hg1 hcs1 hct1 hl1 hzs hzl hz1 hg hcs hct hl0 hr0 ho hb0 c1 c2 c3 c4 hn hA
      by_cases q15 : cap = i + 1
      · subst q15
        have q16 : n - (i + 1) = 0 := by omega
        go_enter Try.func133, Try.ntmps133
        go_wp2
        go_region_law (refine step_append_run rfl _ _ 23 23 rfl _ _ (by simp [Act.eval, Act.put, q16]) (by simp [Act.eval, Act.put, q16]) (hrun) ?_)
        go_wp2_with (at_builtin; refine wpList_clear_run _ rfl _ 23 rfl _ rfl (hclr _ _) ?_)
        go_ret
        exact ⟨_, rfl, hRf, hBf, hKf⟩
      · skip
        go_enter Try.func133, Try.ntmps133
        go_wp2
        go_region_law (refine step_append_run rfl _ _ 23 23 rfl _ _ (by simp [Act.eval, Act.put, q15]) (by simp [Act.eval, Act.put, q15]) (hrun) ?_)
        go_wp2_with (at_builtin; refine wpList_clear_run _ rfl _ 23 rfl _ rfl (hclr _ _) ?_)
        go_ret
        exact ⟨_, rfl, hRf, hBf, hKf⟩
  · rw [if_neg hc] at h
    exact absurd h (by simp)

-- NOT PRINTED: function 90 (channel_end)

/-! ### channel_Fail_1: function 91 (by hand) -/
def channel_Fail_1.f : Option (Unit) := some ()
theorem channel_Fail_1.calls {g : Nat} (w : World) (h : channel_Fail_1.f = some ()) :
    Calls Try.prog 91 #[.pointer (some ⟨g, 0, none⟩)] w fun e w' => e = .returned (.pointer (some ⟨g, 1, none⟩)) ∧ Drawn0 w w' := by
  go_enter Try.func91, Try.ntmps91
  go_wp2
  go_ret
  exact ⟨rfl, 0, rfl⟩

/-! ### channel_end_at_channel_Fail_1: function 164 -/
def channel_end_at_channel_Fail_1.f (k : Nat) (a0_0 : Int) (a0_1 : Int) (a0_2 : Int) (a0_3 : Int) (a0_4 : Int) (l0_5 : List (S44)) (a0_6 : Bool) (a1 : Int)  : Option (Int × Int × Int × Int × Int × (List (S44)) × Bool × Int × Int) := (channel_Check.f k a0_0 a0_1 a0_2 a0_3 a0_4 l0_5 a0_6).bind fun t182 => (if t182 = 0 then ((slices_BinarySearchFunc_uint64_at_channel_order.f k l0_5 a1).bind fun bt183 => (if bt183.2 = true then (if 0 ≤ bt183.1 then (if bt183.1 < (l0_5.length : Int) then ((slices_Clone_Hold.f l0_5).bind fun t186 => ((slices_Delete_Hold.f t186 bt183.1 (wrap64 (bt183.1 + 1))).bind fun t189 => ((channel_Fail_1.f).bind fun _ => (some (a0_0, IntKind.u64.wrap (a0_1 + ((rd_T44 l0_5 bt183.1).f1)), a0_2, a0_3, a0_4, t189, a0_6, (rd_T44 l0_5 bt183.1).f1, 0))))) else (none)) else (none)) else (some (0, 0, 0, 0, 0, ([] : List (S44)), false, 0, 5)))) else (some (0, 0, 0, 0, 0, ([] : List (S44)), false, 0, t182)))
theorem channel_end_at_channel_Fail_1.mono : ∀ a0 a1 a2 a3 a4 a5 a6 a7 k, LeO (channel_end_at_channel_Fail_1.f k a0 a1 a2 a3 a4 a5 a6 a7) (channel_end_at_channel_Fail_1.f (k + 1) a0 a1 a2 a3 a4 a5 a6 a7) := by
 intro a0 a1 a2 a3 a4 a5 a6 a7 k
 unfold channel_end_at_channel_Fail_1.f
 repeat' first
   | (with_reducible exact channel_Check.mono _ _ _ _ _ _ _ _)
   | (with_reducible exact slices_BinarySearchFunc_uint64_at_channel_order.mono _ _ _)
   | (with_reducible exact LeO.refl _)
   | (with_reducible exact LeO.none _)
   | (with_reducible refine LeO.ite ?_ ?_)
   | (with_reducible refine LeO.bind ?_ (fun _ => ?_))
   | exact channel_Check.mono _ _ _ _ _ _ _ _
   | exact slices_BinarySearchFunc_uint64_at_channel_order.mono _ _ _
   | exact LeO.none _
   | refine LeO.ite ?_ ?_
   | refine LeO.bind ?_ (fun _ => ?_)
set_option maxHeartbeats 8000000 in
set_option maxRecDepth 100000 in
theorem channel_end_at_channel_Fail_1.calls (k : Nat) (a0_0 : Int) (a0_1 : Int) (a0_2 : Int) (a0_3 : Int) (a0_4 : Int) (A0_5 : Option Addr) (c0_5 : Nat) (l0_5 : List (S44)) (a0_6 : Bool) (a1 : Int)  (r1 : Int) (r2 : Int) (r3 : Int) (r4 : Int) (r5 : Int) (r6 : List (S44)) (r7 : Bool) (r8 : Int) (r9 : Int) (w : World) (hr0_5 : Kd.C k44 w A0_5 l0_5.length l0_5) (hc0_5 : l0_5.length ≤ c0_5) (h : channel_end_at_channel_Fail_1.f k a0_0 a0_1 a0_2 a0_3 a0_4 l0_5 a0_6 a1 = some (r1, r2, r3, r4, r5, r6, r7, r8, r9)) :
  Calls Try.prog 90 #[.agg #[.int .u64 a0_0, .int .u64 a0_1, .int .u64 a0_2, .int .u64 a0_3, .int .u64 a0_4, .slice A0_5 l0_5.length c0_5, .bool a0_6], .int .u64 a1, .func (.func 91) #[] #[]] w fun e w' => ∃ v5_ : Value, e = .returned (.tuple #[.agg #[.int .u64 r1, .int .u64 r2, .int .u64 r3, .int .u64 r4, .int .u64 r5, v5_, .bool r7], .int .u64 r8, .int .i64 r9]) ∧ Kd.R k44 44 w' w.heap.size (fun _ => True) v5_ r6 ∧ Below w.heap.size w w' := by
 have hu25 := Try.underlying25
 have HR0_5 := Aside0.mk hr0_5
 have HC0_5 := Aside0.mk hc0_5
 clear hr0_5 hc0_5
 have HB := Aside0.mk (Below.refl w.heap.size w)
 have H : ((channel_Check.f k a0_0 a0_1 a0_2 a0_3 a0_4 l0_5 a0_6).bind fun t182 => (if t182 = 0 then ((slices_BinarySearchFunc_uint64_at_channel_order.f k l0_5 a1).bind fun bt183 => (if bt183.2 = true then (if 0 ≤ bt183.1 then (if bt183.1 < (l0_5.length : Int) then ((slices_Clone_Hold.f l0_5).bind fun t186 => ((slices_Delete_Hold.f t186 bt183.1 (wrap64 (bt183.1 + 1))).bind fun t189 => ((channel_Fail_1.f).bind fun _ => (some (a0_0, IntKind.u64.wrap (a0_1 + ((rd_T44 l0_5 bt183.1).f1)), a0_2, a0_3, a0_4, t189, a0_6, (rd_T44 l0_5 bt183.1).f1, 0))))) else (none)) else (none)) else (some (0, 0, 0, 0, 0, ([] : List (S44)), false, 0, 5)))) else (some (0, 0, 0, 0, 0, ([] : List (S44)), false, 0, t182)))) = some (r1, r2, r3, r4, r5, r6, r7, r8, r9) := h
 clear h
 replace H := Option.bind_eq_some_iff.mp H
 obtain ⟨t182, A40, H⟩ := H
 replace H : (if t182 = 0 then ((slices_BinarySearchFunc_uint64_at_channel_order.f k l0_5 a1).bind fun bt183 => (if bt183.2 = true then (if 0 ≤ bt183.1 then (if bt183.1 < (l0_5.length : Int) then ((slices_Clone_Hold.f l0_5).bind fun t186 => ((slices_Delete_Hold.f t186 bt183.1 (wrap64 (bt183.1 + 1))).bind fun t189 => ((channel_Fail_1.f).bind fun _ => (some (a0_0, IntKind.u64.wrap (a0_1 + ((rd_T44 l0_5 bt183.1).f1)), a0_2, a0_3, a0_4, t189, a0_6, (rd_T44 l0_5 bt183.1).f1, 0))))) else (none)) else (none)) else (some (0, 0, 0, 0, 0, ([] : List (S44)), false, 0, 5)))) else (some (0, 0, 0, 0, 0, ([] : List (S44)), false, 0, t182))) = some (r1, r2, r3, r4, r5, r6, r7, r8, r9) := H
 have A4 := Aside0.mk A40
 clear A40
 by_cases c5 : t182 = 0
 ·rw [if_pos c5] at H
  have c5b0 : (t182 == 0) = true := beq_iff_eq.mpr c5
  have c5b1 : (t182 != 0) = false := bne_eq_false_iff_eq.mpr c5
  clear c5
  replace H := Option.bind_eq_some_iff.mp H
  obtain ⟨⟨t183, t184⟩, A60, H⟩ := H
  replace H : (if t184 = true then (if 0 ≤ t183 then (if t183 < (l0_5.length : Int) then ((slices_Clone_Hold.f l0_5).bind fun t186 => ((slices_Delete_Hold.f t186 t183 (wrap64 (t183 + 1))).bind fun t189 => ((channel_Fail_1.f).bind fun _ => (some (a0_0, IntKind.u64.wrap (a0_1 + ((rd_T44 l0_5 t183).f1)), a0_2, a0_3, a0_4, t189, a0_6, (rd_T44 l0_5 t183).f1, 0))))) else (none)) else (none)) else (some (0, 0, 0, 0, 0, ([] : List (S44)), false, 0, 5))) = some (r1, r2, r3, r4, r5, r6, r7, r8, r9) := H
  have A6 := Aside0.mk A60
  clear A60
  by_cases c7 : t184 = true
  ·subst c7
   have H1 : (if 0 ≤ t183 then (if t183 < (l0_5.length : Int) then ((slices_Clone_Hold.f l0_5).bind fun t186 => ((slices_Delete_Hold.f t186 t183 (wrap64 (t183 + 1))).bind fun t189 => ((channel_Fail_1.f).bind fun _ => (some (a0_0, IntKind.u64.wrap (a0_1 + ((rd_T44 l0_5 t183).f1)), a0_2, a0_3, a0_4, t189, a0_6, (rd_T44 l0_5 t183).f1, 0))))) else (none)) else (none)) = some (r1, r2, r3, r4, r5, r6, r7, r8, r9) := by rw [if_pos rfl] at H; exact H
   clear H
   have H := H1
   clear H1
   by_cases c8 : 0 ≤ t183
   ·rw [if_pos c8] at H
    have c8b0 : decide (0 ≤ t183) = true := decide_eq_true c8
    clear c8
    by_cases c9 : t183 < (l0_5.length : Int)
    ·rw [if_pos c9] at H
     have c9b0 : decide (t183 < (l0_5.length : Int)) = true := decide_eq_true c9
     clear c9
     replace H := Option.bind_eq_some_iff.mp H
     obtain ⟨t186, A100, H⟩ := H
     replace H : ((slices_Delete_Hold.f t186 t183 (wrap64 (t183 + 1))).bind fun t189 => ((channel_Fail_1.f).bind fun _ => (some (a0_0, IntKind.u64.wrap (a0_1 + ((rd_T44 l0_5 t183).f1)), a0_2, a0_3, a0_4, t189, a0_6, (rd_T44 l0_5 t183).f1, 0)))) = some (r1, r2, r3, r4, r5, r6, r7, r8, r9) := H
     have A10 := Aside0.mk A100
     clear A100
     replace H := Option.bind_eq_some_iff.mp H
     obtain ⟨t189, A110, H⟩ := H
     replace H : ((channel_Fail_1.f).bind fun _ => (some (a0_0, IntKind.u64.wrap (a0_1 + ((rd_T44 l0_5 t183).f1)), a0_2, a0_3, a0_4, t189, a0_6, (rd_T44 l0_5 t183).f1, 0))) = some (r1, r2, r3, r4, r5, r6, r7, r8, r9) := H
     have A11 := Aside0.mk A110
     clear A110
     replace H := Option.bind_eq_some_iff.mp H
     obtain ⟨_, A120, H⟩ := H
     replace H : (some (a0_0, IntKind.u64.wrap (a0_1 + ((rd_T44 l0_5 t183).f1)), a0_2, a0_3, a0_4, t189, a0_6, (rd_T44 l0_5 t183).f1, 0)) = some (r1, r2, r3, r4, r5, r6, r7, r8, r9) := H
     have A12 := Aside0.mk A120
     clear A120
     simp only [Option.some.injEq, Prod.mk.injEq] at H
     obtain ⟨rfl, rfl, rfl, rfl, rfl, rfl, rfl, rfl, rfl⟩ := H
     go_enter Try.func90, Try.ntmps90
     go_wp2_with (first | ((with_reducible refine gate_dst (N := 3) rfl ?_); refine box_event ?hg (N := 3) ?hd (cs := #[.int .u64 a0_0, .int .u64 a0_1, .int .u64 a0_2, .int .u64 a0_3, .int .u64 a0_4, .slice A0_5 l0_5.length c0_5, .bool a0_6]) (t := 25) ?hr ?_; (case hd => rfl); (case hg => rfl); (case hr => first | (go_simp; done) | (go_simp; rfl)); intro gb180 hg w13 hbox hb; have n0_ := Aside0.mk (below_step (belN HB) hb); have n1_ := Aside0.mk (hbox); have n2_ := Aside0.mk ((by rw [hg]; exact (below_size (belN HB)) : w.heap.size ≤ gb180)); have n3_ := Aside0.mk ((by rw [hg]; exact (below_size (belN HB)) : w.heap.size ≤ gb180)); clear HB; have HB := n0_; have BK180 := n1_; have GW180 := n2_; have GE180 := n3_; clear n0_ n1_ n2_ n3_; clear hb hbox hg) | ((with_reducible refine gate_dst (N := 6) rfl ?_); refine box_event ?hg (N := 6) ?hd (cs := #[.int .u64 0, .int .u64 0, .int .u64 0, .int .u64 0, .int .u64 0, .slice none 0 0, .bool false]) (t := 25) ?hr ?_; (case hd => rfl); (case hg => rfl); (case hr => first | (go_simp; done) | (go_simp; rfl)); intro gb181 hg w14 hbox hb; have n0_ := Aside0.mk (blk_below (g := gb180) (blkN BK180) hb); have n1_ := Aside0.mk (below_step (belN HB) hb); have n2_ := Aside0.mk (hbox); have n3_ := Aside0.mk ((by rw [hg]; exact (below_size (belN HB)) : w.heap.size ≤ gb181)); have n4_ := Aside0.mk ((by rw [hg]; exact (below_size (belN HB)) : w.heap.size ≤ gb181)); have n5_ := Aside0.mk ((by rw [hg]; exact Nat.ne_of_lt (blk_lt (g := gb180) (blkN BK180)) : gb180 ≠ gb181)); have n6_ := Aside0.mk ((by rw [hg]; exact Nat.ne_of_gt (blk_lt (g := gb180) (blkN BK180)) : gb181 ≠ gb180)); clear BK180; clear HB; have BK180 := n0_; have HB := n1_; have BK181 := n2_; have GW181 := n3_; have GE181 := n4_; have NB180_181 := n5_; have NB181_180 := n6_; clear n0_ n1_ n2_ n3_ n4_ n5_ n6_; clear hb hbox hg; have hnb15 := NB180_181.out; have hnc15 := NB181_180.out; obtain ⟨hcz16_0, hcz16_1, hcz16_2, hcz16_3, hcz16_4, hcz16_5, hcz16_6, hfz16_0, hfz16_1, hfz16_2, hfz16_3, hfz16_4, hfz16_5, hfz16_6⟩ := cz7_ (w := w14) BK180.out) | ((with_reducible refine gate_callee (f := 33) rfl ?_); refine goesL_ (some 14) rfl rfl Try.func33 (by kernel_rfl) rfl #[.agg #[.int .u64 a0_0, .int .u64 a0_1, .int .u64 a0_2, .int .u64 a0_3, .int .u64 a0_4, .slice A0_5 l0_5.length c0_5, .bool a0_6]] rfl (by (try simp only [List.map_toArray, List.map_cons, List.map_nil]); first | done | rfl | (simp only [List.length_drop, List.length_take]; rfl)) ?_; (with_reducible refine (channel_Check.calls k a0_0 a0_1 a0_2 a0_3 a0_4 _ _ l0_5 a0_6 t182 _ ?side1 ?side2 A4.out).mono ?_); (case side1 => repeat (first | exact (Kd.C_below HR0_5.out HB.out) | (with_reducible refine Kd.C_alloc ?_ _) | (with_reducible refine Kd.C_drewN ?_ _) | (with_reducible refine Kd.C_drew ?_))); (case side2 => exact HC0_5.out); rintro e w17 ⟨rfl, hb⟩; refine ⟨_, rfl, ?_⟩; have n0_ := Aside0.mk (blk_below (g := gb180) (blkN BK180) hb); have n1_ := Aside0.mk (blk_below (g := gb181) (blkN BK181) hb); have n2_ := Aside0.mk (below_step (belN HB) hb); clear BK180; clear BK181; clear HB; have BK180 := n0_; have BK181 := n1_; have HB := n2_; clear n0_ n1_ n2_; (try clear hb); (try clear hb2); (try clear hk); (try clear hi); obtain ⟨hcz18_0, hcz18_1, hcz18_2, hcz18_3, hcz18_4, hcz18_5, hcz18_6, hfz18_0, hfz18_1, hfz18_2, hfz18_3, hfz18_4, hfz18_5, hfz18_6⟩ := cz7_ (w := w17) BK180.out) | ((with_reducible refine gate_callee (f := 85) rfl ?_); refine goesL_ (some 23) rfl rfl Try.func85 (by kernel_rfl) rfl #[.slice A0_5 l0_5.length c0_5, .int .u64 a1, .func (.func 86) #[] #[]] rfl (by (try simp only [List.map_toArray, List.map_cons, List.map_nil]); first | done | rfl | (simp only [List.length_drop, List.length_take]; rfl)) ?_; (with_reducible refine (slices_BinarySearchFunc_uint64_at_channel_order.calls k _ _ l0_5 a1  t183 true _ ?side1 ?side2 A6.out).mono ?_); (case side1 => repeat (first | exact (Kd.C_below HR0_5.out HB.out) | (with_reducible refine Kd.C_alloc ?_ _) | (with_reducible refine Kd.C_drewN ?_ _) | (with_reducible refine Kd.C_drew ?_))); (case side2 => exact HC0_5.out); rintro e w19 ⟨rfl, hb⟩; refine ⟨_, rfl, ?_⟩; have n0_ := Aside0.mk (blk_below (g := gb180) (blkN BK180) hb); have n1_ := Aside0.mk (blk_below (g := gb181) (blkN BK181) hb); have n2_ := Aside0.mk (below_step (belN HB) hb); clear BK180; clear BK181; clear HB; have BK180 := n0_; have BK181 := n1_; have HB := n2_; clear n0_ n1_ n2_; (try clear hb); (try clear hb2); (try clear hk); (try clear hi); obtain ⟨hcz20_0, hcz20_1, hcz20_2, hcz20_3, hcz20_4, hcz20_5, hcz20_6, hfz20_0, hfz20_1, hfz20_2, hfz20_3, hfz20_4, hfz20_5, hfz20_6⟩ := cz7_ (w := w19) BK180.out; have p185 : 0 ≤ (t183 : Int) := of_decide_eq_true (by first | (with_reducible assumption) | assumption); have q185 : t183 < (l0_5.length : Int) := of_decide_eq_true (by first | (with_reducible assumption) | assumption); obtain ⟨ad185, e185, hx185_0, hx185_1⟩ := at_T44 HR0_5.out t183 p185 q185; cases e185; replace hx185_0 := (HB.out.cell (World.block_lt_of_cell? w _ hx185_0)).trans hx185_0; replace hx185_1 := (HB.out.cell (World.block_lt_of_cell? w _ hx185_1)).trans hx185_1; replace p185 := eq_true p185; replace q185 := eq_true q185) | ((with_reducible refine gate_callee (f := 89) rfl ?_); refine goesL_ (some 37) rfl rfl Try.func89 (by kernel_rfl) rfl #[.slice (some ad185) l0_5.length c0_5] rfl (by (try simp only [List.map_toArray, List.map_cons, List.map_nil]); first | done | rfl | (simp only [List.length_drop, List.length_take]; rfl)) ?_; (with_reducible refine (slices_Clone_Hold.calls _ _ l0_5 t186 _ ?side1 ?side2 A10.out).mono ?_); (case side1 => repeat (first | exact (Kd.C_below HR0_5.out HB.out) | (with_reducible refine Kd.C_alloc ?_ _) | (with_reducible refine Kd.C_drewN ?_ _) | (with_reducible refine Kd.C_drew ?_))); (case side2 => exact HC0_5.out); rintro e w21 ⟨v187, rfl, ho0, hb⟩; refine ⟨_, rfl, ?_⟩; have n0_ := Aside0.mk (Kd.R_lower ho0 (below_size (belN HB))); have n1_ := Aside0.mk (blk_below (g := gb180) (blkN BK180) hb); have n2_ := Aside0.mk (blk_below (g := gb181) (blkN BK181) hb); have n3_ := Aside0.mk (below_step (belN HB) hb); clear BK180; clear BK181; clear HB; have HO188 := n0_; have BK180 := n1_; have BK181 := n2_; have HB := n3_; clear n0_ n1_ n2_ n3_; (try clear hb); (try clear hb2); (try clear hk); (try clear hi); (try clear ho0); obtain ⟨Ao22, co22, eo22⟩ := Kd.R_slice HO188.out; subst eo22) | ((with_reducible refine gate_callee (f := 133) rfl ?_); refine goesL_ (some 41) rfl rfl Try.func133 (by kernel_rfl) rfl #[.slice Ao22 t186.length co22, .int .i64 t183, .int .i64 (wrap64 (t183 + 1))] rfl (by (try simp only [List.map_toArray, List.map_cons, List.map_nil]); first | done | rfl | (simp only [List.length_drop, List.length_take]; rfl)) ?_; (with_reducible refine (slices_Delete_Hold.calls (fun k_ => some k_ = (.slice Ao22 t186.length co22 : Value).ownBlock) (.slice Ao22 t186.length co22) t186 t183 (wrap64 (t183 + 1)) t189 w _ ?side1 ?side2 A11.out).mono ?_); (case side1 => repeat (first | (with_reducible first | exact HB.out | apply below_alloc | apply pw_below_drewN | apply below_drew1 | refine below_set ?_ GE180.out | refine below_set ?_ GE181.out) | exact HB.out)); (case side2 => exact Kd.R_tight rfl HO188.out); rintro e w23 ⟨v190, rfl, ho0, hb, hkp⟩; refine ⟨_, rfl, ?_⟩; have n0_ := Aside0.mk (blk_kept (blkN BK180) hkp (fun hs_ => (fun e_ => (Kd.R_ne HO188.out BK180.out (by decide)) e_) hs_)); have n1_ := Aside0.mk (blk_kept (blkN BK181) hkp (fun hs_ => (fun e_ => (Kd.R_ne HO188.out BK181.out (by decide)) e_) hs_)); have n2_ := Aside0.mk (Kd.R_mono (ok' := fun k_ => True) ho0 (fun k_ hk_ => trivial)); have n3_ := Aside0.mk (hb); clear BK180; clear BK181; clear HB; clear HO188; have BK180 := n0_; have BK181 := n1_; have HO191 := n2_; have HB := n3_; clear n0_ n1_ n2_ n3_; (try clear hb); (try clear hkp); (try clear ho0); obtain ⟨Ao24, co24, eo24⟩ := Kd.R_slice HO191.out; subst eo24; obtain ⟨hcz25_0, hcz25_1, hcz25_2, hcz25_3, hcz25_4, hcz25_5, hcz25_6, hfz25_0, hfz25_1, hfz25_2, hfz25_3, hfz25_4, hfz25_5, hfz25_6⟩ := cz7_ (w := w23) BK180.out) | ((with_reducible refine gate_tmp (t_ := 43) rfl ?_); refine goesT_ (some 44) rfl rfl Try.func91 (by kernel_rfl) rfl #[.pointer (some ⟨gb180, 0, none⟩)] rfl rfl (by (try simp only [List.map_toArray, List.map_cons, List.map_nil]); first | done | rfl | (simp only [List.length_drop, List.length_take]; rfl)) ?_; (with_reducible refine (channel_Fail_1.calls   _ A12.out).mono ?_); rintro e w' ⟨rfl, ⟨nd, rfl⟩⟩; refine ⟨_, rfl, ?_⟩; obtain ⟨hcz26_0, hcz26_1, hcz26_2, hcz26_3, hcz26_4, hcz26_5, hcz26_6, hfz26_0, hfz26_1, hfz26_2, hfz26_3, hfz26_4, hfz26_5, hfz26_6⟩ := cz7_ (w := w23) BK181.out))
     refine bodyPost_ret (results_ctt rfl _ _ gb181 25 #[.int .u64 a0_0, .int .u64 (IntKind.u64.wrap (a0_1 + ((rd_T44 l0_5 t183).f1))), .int .u64 a0_2, .int .u64 a0_3, .int .u64 a0_4, .slice Ao24 t189.length co24, .bool a0_6] (0, 0) _ rfl (by (with_reducible repeat (first | refine blk_drewN ?_ _ | refine blk_drew ?_ | refine blk_alloc ?_ _)); refine blk_put (cs := #[.int .u64 a0_0, .int .u64 (IntKind.u64.wrap (a0_1 + ((rd_T44 l0_5 t183).f1))), .int .u64 a0_2, .int .u64 a0_3, .int .u64 a0_4, .slice Ao24 t189.length co24, .bool false]) ?_ 6 _ rfl; refine blk_put (cs := #[.int .u64 a0_0, .int .u64 (IntKind.u64.wrap (a0_1 + ((rd_T44 l0_5 t183).f1))), .int .u64 a0_2, .int .u64 a0_3, .int .u64 a0_4, .slice none 0 0, .bool false]) ?_ 5 _ rfl; refine blk_put (cs := #[.int .u64 a0_0, .int .u64 (IntKind.u64.wrap (a0_1 + ((rd_T44 l0_5 t183).f1))), .int .u64 a0_2, .int .u64 a0_3, .int .u64 0, .slice none 0 0, .bool false]) ?_ 4 _ rfl; refine blk_put (cs := #[.int .u64 a0_0, .int .u64 (IntKind.u64.wrap (a0_1 + ((rd_T44 l0_5 t183).f1))), .int .u64 a0_2, .int .u64 0, .int .u64 0, .slice none 0 0, .bool false]) ?_ 3 _ rfl; refine blk_put (cs := #[.int .u64 a0_0, .int .u64 (IntKind.u64.wrap (a0_1 + ((rd_T44 l0_5 t183).f1))), .int .u64 0, .int .u64 0, .int .u64 0, .slice none 0 0, .bool false]) ?_ 2 _ rfl; refine blk_put (cs := #[.int .u64 a0_0, .int .u64 0, .int .u64 0, .int .u64 0, .int .u64 0, .slice none 0 0, .bool false]) ?_ 1 _ rfl; refine blk_put (cs := #[.int .u64 0, .int .u64 0, .int .u64 0, .int .u64 0, .int .u64 0, .slice none 0 0, .bool false]) ?_ 0 _ rfl; (with_reducible repeat (first | refine blk_drewN ?_ _ | refine blk_drew ?_ | refine blk_alloc ?_ _)); refine blk_far ?_ NB181_180.out _; (with_reducible repeat (first | refine blk_drewN ?_ _ | refine blk_drew ?_ | refine blk_alloc ?_ _)); refine blk_far ?_ NB181_180.out _; (with_reducible repeat (first | refine blk_drewN ?_ _ | refine blk_drew ?_ | refine blk_alloc ?_ _)); exact BK181.out) Try.underlying25 rfl (by kernel_rfl)) rfl ?_
     exact ⟨_, by first | rfl | (simp [errW_none, errW_some] <;> rfl) | (simp [*, errW_none, errW_some] <;> rfl), by (with_reducible repeat (first | apply Kd.R_alloc | apply Kd.R_drewN | apply Kd.R_drew)); exact Kd.R_mono (Kd.R_far (p := ⟨gb181, 6, none⟩) (Kd.R_far (p := ⟨gb181, 5, none⟩) (Kd.R_far (p := ⟨gb181, 4, none⟩) (Kd.R_far (p := ⟨gb181, 3, none⟩) (Kd.R_far (p := ⟨gb181, 2, none⟩) (Kd.R_far (p := ⟨gb181, 1, none⟩) (Kd.R_far (p := ⟨gb181, 0, none⟩) (Kd.R_far (p := ⟨gb180, 1, none⟩) (Kd.R_far (p := ⟨gb180, 5, none⟩) (Kd.R_types (Kd.R_types HO191.out BK180.out (by decide)) BK181.out (by decide)) (fun _ hk => hk.1.2) (.slice Ao24 t189.length co24)) (fun _ hk => hk.1.2) (.int .u64 (IntKind.u64.wrap (a0_1 + ((rd_T44 l0_5 t183).f1))))) (fun _ hk => hk.2) (.int .u64 a0_0)) (fun _ hk => hk.2) (.int .u64 (IntKind.u64.wrap (a0_1 + ((rd_T44 l0_5 t183).f1))))) (fun _ hk => hk.2) (.int .u64 a0_2)) (fun _ hk => hk.2) (.int .u64 a0_3)) (fun _ hk => hk.2) (.int .u64 a0_4)) (fun _ hk => hk.2) (.slice Ao24 t189.length co24)) (fun _ hk => hk.2) (.bool a0_6)) (fun _ hk => trivial), by repeat (first | (with_reducible first | exact HB.out | apply below_alloc | apply pw_below_drewN | apply below_drew1 | refine below_set ?_ GE180.out | refine below_set ?_ GE181.out) | exact HB.out)⟩
    ·rw [if_neg c9] at H
     exact absurd H (by simp)
   ·rw [if_neg c8] at H
    exact absurd H (by simp)
  ·replace c7 := Bool.eq_false_iff.mpr c7
   subst c7
   have H1 : (some (0, 0, 0, 0, 0, ([] : List (S44)), false, 0, 5)) = some (r1, r2, r3, r4, r5, r6, r7, r8, r9) := by rw [if_neg (show ¬ (false = true) by decide)] at H; exact H
   clear H
   have H := H1
   clear H1
   simp only [Option.some.injEq, Prod.mk.injEq] at H
   obtain ⟨rfl, rfl, rfl, rfl, rfl, rfl, rfl, rfl, rfl⟩ := H
   go_enter Try.func90, Try.ntmps90
   go_wp2_with (first | ((with_reducible refine gate_dst (N := 3) rfl ?_); refine box_event ?hg (N := 3) ?hd (cs := #[.int .u64 a0_0, .int .u64 a0_1, .int .u64 a0_2, .int .u64 a0_3, .int .u64 a0_4, .slice A0_5 l0_5.length c0_5, .bool a0_6]) (t := 25) ?hr ?_; (case hd => rfl); (case hg => rfl); (case hr => first | (go_simp; done) | (go_simp; rfl)); intro gb180 hg w27 hbox hb; have n0_ := Aside0.mk (below_step (belN HB) hb); have n1_ := Aside0.mk (hbox); have n2_ := Aside0.mk ((by rw [hg]; exact (below_size (belN HB)) : w.heap.size ≤ gb180)); have n3_ := Aside0.mk ((by rw [hg]; exact (below_size (belN HB)) : w.heap.size ≤ gb180)); clear HB; have HB := n0_; have BK180 := n1_; have GW180 := n2_; have GE180 := n3_; clear n0_ n1_ n2_ n3_; clear hb hbox hg) | ((with_reducible refine gate_dst (N := 6) rfl ?_); refine box_event ?hg (N := 6) ?hd (cs := #[.int .u64 0, .int .u64 0, .int .u64 0, .int .u64 0, .int .u64 0, .slice none 0 0, .bool false]) (t := 25) ?hr ?_; (case hd => rfl); (case hg => rfl); (case hr => first | (go_simp; done) | (go_simp; rfl)); intro gb181 hg w28 hbox hb; have n0_ := Aside0.mk (blk_below (g := gb180) (blkN BK180) hb); have n1_ := Aside0.mk (below_step (belN HB) hb); have n2_ := Aside0.mk (hbox); have n3_ := Aside0.mk ((by rw [hg]; exact (below_size (belN HB)) : w.heap.size ≤ gb181)); have n4_ := Aside0.mk ((by rw [hg]; exact (below_size (belN HB)) : w.heap.size ≤ gb181)); have n5_ := Aside0.mk ((by rw [hg]; exact Nat.ne_of_lt (blk_lt (g := gb180) (blkN BK180)) : gb180 ≠ gb181)); have n6_ := Aside0.mk ((by rw [hg]; exact Nat.ne_of_gt (blk_lt (g := gb180) (blkN BK180)) : gb181 ≠ gb180)); clear BK180; clear HB; have BK180 := n0_; have HB := n1_; have BK181 := n2_; have GW181 := n3_; have GE181 := n4_; have NB180_181 := n5_; have NB181_180 := n6_; clear n0_ n1_ n2_ n3_ n4_ n5_ n6_; clear hb hbox hg; have hnb29 := NB180_181.out; have hnc29 := NB181_180.out; obtain ⟨hcz30_0, hcz30_1, hcz30_2, hcz30_3, hcz30_4, hcz30_5, hcz30_6, hfz30_0, hfz30_1, hfz30_2, hfz30_3, hfz30_4, hfz30_5, hfz30_6⟩ := cz7_ (w := w28) BK180.out) | ((with_reducible refine gate_callee (f := 33) rfl ?_); refine goesL_ (some 14) rfl rfl Try.func33 (by kernel_rfl) rfl #[.agg #[.int .u64 a0_0, .int .u64 a0_1, .int .u64 a0_2, .int .u64 a0_3, .int .u64 a0_4, .slice A0_5 l0_5.length c0_5, .bool a0_6]] rfl (by (try simp only [List.map_toArray, List.map_cons, List.map_nil]); first | done | rfl | (simp only [List.length_drop, List.length_take]; rfl)) ?_; (with_reducible refine (channel_Check.calls k a0_0 a0_1 a0_2 a0_3 a0_4 _ _ l0_5 a0_6 t182 _ ?side1 ?side2 A4.out).mono ?_); (case side1 => repeat (first | exact (Kd.C_below HR0_5.out HB.out) | (with_reducible refine Kd.C_alloc ?_ _) | (with_reducible refine Kd.C_drewN ?_ _) | (with_reducible refine Kd.C_drew ?_))); (case side2 => exact HC0_5.out); rintro e w31 ⟨rfl, hb⟩; refine ⟨_, rfl, ?_⟩; have n0_ := Aside0.mk (blk_below (g := gb180) (blkN BK180) hb); have n1_ := Aside0.mk (blk_below (g := gb181) (blkN BK181) hb); have n2_ := Aside0.mk (below_step (belN HB) hb); clear BK180; clear BK181; clear HB; have BK180 := n0_; have BK181 := n1_; have HB := n2_; clear n0_ n1_ n2_; (try clear hb); (try clear hb2); (try clear hk); (try clear hi); obtain ⟨hcz32_0, hcz32_1, hcz32_2, hcz32_3, hcz32_4, hcz32_5, hcz32_6, hfz32_0, hfz32_1, hfz32_2, hfz32_3, hfz32_4, hfz32_5, hfz32_6⟩ := cz7_ (w := w31) BK180.out) | ((with_reducible refine gate_callee (f := 85) rfl ?_); refine goesL_ (some 23) rfl rfl Try.func85 (by kernel_rfl) rfl #[.slice A0_5 l0_5.length c0_5, .int .u64 a1, .func (.func 86) #[] #[]] rfl (by (try simp only [List.map_toArray, List.map_cons, List.map_nil]); first | done | rfl | (simp only [List.length_drop, List.length_take]; rfl)) ?_; (with_reducible refine (slices_BinarySearchFunc_uint64_at_channel_order.calls k _ _ l0_5 a1  t183 false _ ?side1 ?side2 A6.out).mono ?_); (case side1 => repeat (first | exact (Kd.C_below HR0_5.out HB.out) | (with_reducible refine Kd.C_alloc ?_ _) | (with_reducible refine Kd.C_drewN ?_ _) | (with_reducible refine Kd.C_drew ?_))); (case side2 => exact HC0_5.out); rintro e w33 ⟨rfl, hb⟩; refine ⟨_, rfl, ?_⟩; have n0_ := Aside0.mk (blk_below (g := gb180) (blkN BK180) hb); have n1_ := Aside0.mk (blk_below (g := gb181) (blkN BK181) hb); have n2_ := Aside0.mk (below_step (belN HB) hb); clear BK180; clear BK181; clear HB; have BK180 := n0_; have BK181 := n1_; have HB := n2_; clear n0_ n1_ n2_; (try clear hb); (try clear hb2); (try clear hk); (try clear hi); obtain ⟨hcz34_0, hcz34_1, hcz34_2, hcz34_3, hcz34_4, hcz34_5, hcz34_6, hfz34_0, hfz34_1, hfz34_2, hfz34_3, hfz34_4, hfz34_5, hfz34_6⟩ := cz7_ (w := w33) BK181.out))
   refine bodyPost_ret (results_ctt rfl _ _ gb181 25 #[.int .u64 0, .int .u64 0, .int .u64 0, .int .u64 0, .int .u64 0, .slice none 0 0, .bool false] (0, 0) _ rfl (by (with_reducible repeat (first | refine blk_drewN ?_ _ | refine blk_drew ?_ | refine blk_alloc ?_ _)); refine blk_put (cs := #[.int .u64 0, .int .u64 0, .int .u64 0, .int .u64 0, .int .u64 0, .slice none 0 0, .bool false]) ?_ 6 _ rfl; refine blk_put (cs := #[.int .u64 0, .int .u64 0, .int .u64 0, .int .u64 0, .int .u64 0, .slice none 0 0, .bool false]) ?_ 5 _ rfl; refine blk_put (cs := #[.int .u64 0, .int .u64 0, .int .u64 0, .int .u64 0, .int .u64 0, .slice none 0 0, .bool false]) ?_ 4 _ rfl; refine blk_put (cs := #[.int .u64 0, .int .u64 0, .int .u64 0, .int .u64 0, .int .u64 0, .slice none 0 0, .bool false]) ?_ 3 _ rfl; refine blk_put (cs := #[.int .u64 0, .int .u64 0, .int .u64 0, .int .u64 0, .int .u64 0, .slice none 0 0, .bool false]) ?_ 2 _ rfl; refine blk_put (cs := #[.int .u64 0, .int .u64 0, .int .u64 0, .int .u64 0, .int .u64 0, .slice none 0 0, .bool false]) ?_ 1 _ rfl; refine blk_put (cs := #[.int .u64 0, .int .u64 0, .int .u64 0, .int .u64 0, .int .u64 0, .slice none 0 0, .bool false]) ?_ 0 _ rfl; (with_reducible repeat (first | refine blk_drewN ?_ _ | refine blk_drew ?_ | refine blk_alloc ?_ _)); exact BK181.out) Try.underlying25 rfl (by kernel_rfl)) rfl ?_
   exact ⟨_, by first | rfl | (simp [errW_none, errW_some] <;> rfl) | (simp [*, errW_none, errW_some] <;> rfl), by first | exact Kd.R_nil _ _ _ _ _ | exact Kd.N_nil _ _ _ _ _ | exact Kd.V_nil _ _ _ _ _ | exact Kd.Q_nil _ _ _ _ _ | exact Kd.S_nil _ _ _ _ _, by repeat (first | (with_reducible first | exact HB.out | apply below_alloc | apply pw_below_drewN | apply below_drew1 | refine below_set ?_ GE180.out | refine below_set ?_ GE181.out) | exact HB.out)⟩
 ·rw [if_neg c5] at H
  have c5b0 : (t182 == 0) = false := beq_eq_false_iff_ne.mpr c5
  have c5b1 : (t182 != 0) = true := bne_iff_ne.mpr c5
  simp only [Option.some.injEq, Prod.mk.injEq] at H
  obtain ⟨rfl, rfl, rfl, rfl, rfl, rfl, rfl, rfl, rfl⟩ := H
  go_enter Try.func90, Try.ntmps90
  go_wp2_with (first | ((with_reducible refine gate_dst (N := 3) rfl ?_); refine box_event ?hg (N := 3) ?hd (cs := #[.int .u64 a0_0, .int .u64 a0_1, .int .u64 a0_2, .int .u64 a0_3, .int .u64 a0_4, .slice A0_5 l0_5.length c0_5, .bool a0_6]) (t := 25) ?hr ?_; (case hd => rfl); (case hg => rfl); (case hr => first | (go_simp; done) | (go_simp; rfl)); intro gb180 hg w35 hbox hb; have n0_ := Aside0.mk (below_step (belN HB) hb); have n1_ := Aside0.mk (hbox); have n2_ := Aside0.mk ((by rw [hg]; exact (below_size (belN HB)) : w.heap.size ≤ gb180)); have n3_ := Aside0.mk ((by rw [hg]; exact (below_size (belN HB)) : w.heap.size ≤ gb180)); clear HB; have HB := n0_; have BK180 := n1_; have GW180 := n2_; have GE180 := n3_; clear n0_ n1_ n2_ n3_; clear hb hbox hg) | ((with_reducible refine gate_dst (N := 6) rfl ?_); refine box_event ?hg (N := 6) ?hd (cs := #[.int .u64 0, .int .u64 0, .int .u64 0, .int .u64 0, .int .u64 0, .slice none 0 0, .bool false]) (t := 25) ?hr ?_; (case hd => rfl); (case hg => rfl); (case hr => first | (go_simp; done) | (go_simp; rfl)); intro gb181 hg w36 hbox hb; have n0_ := Aside0.mk (blk_below (g := gb180) (blkN BK180) hb); have n1_ := Aside0.mk (below_step (belN HB) hb); have n2_ := Aside0.mk (hbox); have n3_ := Aside0.mk ((by rw [hg]; exact (below_size (belN HB)) : w.heap.size ≤ gb181)); have n4_ := Aside0.mk ((by rw [hg]; exact (below_size (belN HB)) : w.heap.size ≤ gb181)); have n5_ := Aside0.mk ((by rw [hg]; exact Nat.ne_of_lt (blk_lt (g := gb180) (blkN BK180)) : gb180 ≠ gb181)); have n6_ := Aside0.mk ((by rw [hg]; exact Nat.ne_of_gt (blk_lt (g := gb180) (blkN BK180)) : gb181 ≠ gb180)); clear BK180; clear HB; have BK180 := n0_; have HB := n1_; have BK181 := n2_; have GW181 := n3_; have GE181 := n4_; have NB180_181 := n5_; have NB181_180 := n6_; clear n0_ n1_ n2_ n3_ n4_ n5_ n6_; clear hb hbox hg; have hnb37 := NB180_181.out; have hnc37 := NB181_180.out; obtain ⟨hcz38_0, hcz38_1, hcz38_2, hcz38_3, hcz38_4, hcz38_5, hcz38_6, hfz38_0, hfz38_1, hfz38_2, hfz38_3, hfz38_4, hfz38_5, hfz38_6⟩ := cz7_ (w := w36) BK180.out) | ((with_reducible refine gate_callee (f := 33) rfl ?_); refine goesL_ (some 14) rfl rfl Try.func33 (by kernel_rfl) rfl #[.agg #[.int .u64 a0_0, .int .u64 a0_1, .int .u64 a0_2, .int .u64 a0_3, .int .u64 a0_4, .slice A0_5 l0_5.length c0_5, .bool a0_6]] rfl (by (try simp only [List.map_toArray, List.map_cons, List.map_nil]); first | done | rfl | (simp only [List.length_drop, List.length_take]; rfl)) ?_; (with_reducible refine (channel_Check.calls k a0_0 a0_1 a0_2 a0_3 a0_4 _ _ l0_5 a0_6 t182 _ ?side1 ?side2 A4.out).mono ?_); (case side1 => repeat (first | exact (Kd.C_below HR0_5.out HB.out) | (with_reducible refine Kd.C_alloc ?_ _) | (with_reducible refine Kd.C_drewN ?_ _) | (with_reducible refine Kd.C_drew ?_))); (case side2 => exact HC0_5.out); rintro e w39 ⟨rfl, hb⟩; refine ⟨_, rfl, ?_⟩; have n0_ := Aside0.mk (blk_below (g := gb180) (blkN BK180) hb); have n1_ := Aside0.mk (blk_below (g := gb181) (blkN BK181) hb); have n2_ := Aside0.mk (below_step (belN HB) hb); clear BK180; clear BK181; clear HB; have BK180 := n0_; have BK181 := n1_; have HB := n2_; clear n0_ n1_ n2_; (try clear hb); (try clear hb2); (try clear hk); (try clear hi); obtain ⟨hcz40_0, hcz40_1, hcz40_2, hcz40_3, hcz40_4, hcz40_5, hcz40_6, hfz40_0, hfz40_1, hfz40_2, hfz40_3, hfz40_4, hfz40_5, hfz40_6⟩ := cz7_ (w := w39) BK181.out))
  refine bodyPost_ret (results_ctt rfl _ _ gb181 25 #[.int .u64 0, .int .u64 0, .int .u64 0, .int .u64 0, .int .u64 0, .slice none 0 0, .bool false] (0, 0) _ rfl (by (with_reducible repeat (first | refine blk_drewN ?_ _ | refine blk_drew ?_ | refine blk_alloc ?_ _)); refine blk_put (cs := #[.int .u64 0, .int .u64 0, .int .u64 0, .int .u64 0, .int .u64 0, .slice none 0 0, .bool false]) ?_ 6 _ rfl; refine blk_put (cs := #[.int .u64 0, .int .u64 0, .int .u64 0, .int .u64 0, .int .u64 0, .slice none 0 0, .bool false]) ?_ 5 _ rfl; refine blk_put (cs := #[.int .u64 0, .int .u64 0, .int .u64 0, .int .u64 0, .int .u64 0, .slice none 0 0, .bool false]) ?_ 4 _ rfl; refine blk_put (cs := #[.int .u64 0, .int .u64 0, .int .u64 0, .int .u64 0, .int .u64 0, .slice none 0 0, .bool false]) ?_ 3 _ rfl; refine blk_put (cs := #[.int .u64 0, .int .u64 0, .int .u64 0, .int .u64 0, .int .u64 0, .slice none 0 0, .bool false]) ?_ 2 _ rfl; refine blk_put (cs := #[.int .u64 0, .int .u64 0, .int .u64 0, .int .u64 0, .int .u64 0, .slice none 0 0, .bool false]) ?_ 1 _ rfl; refine blk_put (cs := #[.int .u64 0, .int .u64 0, .int .u64 0, .int .u64 0, .int .u64 0, .slice none 0 0, .bool false]) ?_ 0 _ rfl; (with_reducible repeat (first | refine blk_drewN ?_ _ | refine blk_drew ?_ | refine blk_alloc ?_ _)); exact BK181.out) Try.underlying25 rfl (by kernel_rfl)) rfl ?_
  exact ⟨_, by first | rfl | (simp [errW_none, errW_some] <;> rfl) | (simp [*, errW_none, errW_some] <;> rfl), by first | exact Kd.R_nil _ _ _ _ _ | exact Kd.N_nil _ _ _ _ _ | exact Kd.V_nil _ _ _ _ _ | exact Kd.Q_nil _ _ _ _ _ | exact Kd.S_nil _ _ _ _ _, by repeat (first | (with_reducible first | exact HB.out | apply below_alloc | apply pw_below_drewN | apply below_drew1 | refine below_set ?_ GE180.out | refine below_set ?_ GE181.out) | exact HB.out)⟩

end Go.Proofs.Ytcfbcoinbecdfaa.P
