-- written by a program of this session (wip/print)
import Derived.Test.YtcfbcoinbecdfaaQPholdsx0
import Derived.Test.YtcfbcoinbecdfaaQPholdsx1
namespace Go.Proofs.Ytcfbcoinbecdfaa.P
open Go.RowKit Go.Proofs.YtcfbcoinbecdfaaW.PrintWords Go.Proofs.YtcfbcoinbecdfaaW.PrintLast Go.Proofs.YtcfbcoinbecdfaaW.PrintMore
attribute [local go_sem] max2_int min2_int max_two min_two max_three min_three max_four min_four run_sub64_   -- for this text's walks alone
set_option linter.unusedVariables false
set_option linter.unusedSimpArgs false

/-! ### channel_sums: function 83 -/
mutual
def channel_sums.j0 : Nat → Int → Bool → Int → Int → Int → Int → Int → List (S44) → Bool → Option (Int × Int × Int)
 | 0, _, _, _, _, _, _, _, _, _ => none
 | k + 1, x2, x30, x113000, x113001, x113002, x113003, x113004, x113005, x113006 => if x30 = true then (some (0, 0, 1)) else (channel_sums.l0 k x2 x113005 (x113005.length : Int) 0 x113000 x113001 x113002 x113003 x113004 x113005 x113006)
def channel_sums.l0 : Nat → Int → List (S44) → Int → Int → Int → Int → Int → Int → Int → List (S44) → Bool → Option (Int × Int × Int)
 | 0, _, _, _, _, _, _, _, _, _, _, _ => none
 | k + 1, x2, x32, x33, x34, x113000, x113001, x113002, x113003, x113004, x113005, x113006 => if x34 < x33 then (if 0 ≤ x34 then (if x34 < (x32.length : Int) then (if ((rd_T44 x32 x34).f1) = 0 then (channel_sums.j2 k x2 x32 x33 x34 true x113000 x113001 x113002 x113003 x113004 x113005 x113006 ((rd_T44 x32 x34).f0) ((rd_T44 x32 x34).f1)) else (if x34 > 0 then (if 0 ≤ (wrap64 (x34 - 1)) then (if (wrap64 (x34 - 1)) < (x113005.length : Int) then ((channel_order.f ((rd_T44 x113005 (wrap64 (x34 - 1))).f0) ((rd_T44 x113005 (wrap64 (x34 - 1))).f1) ((rd_T44 x32 x34).f0)).bind fun t125 => (channel_sums.j2 k x2 x32 x33 x34 (decide (t125 ≥ 0)) x113000 x113001 x113002 x113003 x113004 x113005 x113006 ((rd_T44 x32 x34).f0) ((rd_T44 x32 x34).f1))) else (none)) else (none)) else (channel_sums.j2 k x2 x32 x33 x34 false x113000 x113001 x113002 x113003 x113004 x113005 x113006 ((rd_T44 x32 x34).f0) ((rd_T44 x32 x34).f1)))) else (none)) else (none)) else ((money_Add.f k (([x2, x113001, x113002] : List Int))).bind fun bt120 => (if bt120.2 = 0 then (some (x2, bt120.1, 0)) else (some (0, 0, 1))))
def channel_sums.j2 : Nat → Int → List (S44) → Int → Int → Bool → Int → Int → Int → Int → Int → List (S44) → Bool → Int → Int → Option (Int × Int × Int)
 | 0, _, _, _, _, _, _, _, _, _, _, _, _, _, _ => none
 | k + 1, x2, x32, x33, x34, x57, x113000, x113001, x113002, x113003, x113004, x113005, x113006, x124000, x124001 => if x57 = true then (some (0, 0, 1)) else ((money_Add.f k (([x2, x124001] : List Int))).bind fun bt129 => (if bt129.2 = 0 then (if bt129.1 > x113004 then (some (0, 0, 1)) else (channel_sums.l0 k bt129.1 x32 x33 (wrap64 (x34 + 1)) x113000 x113001 x113002 x113003 x113004 x113005 x113006)) else (some (0, 0, 1))))
end
def channel_sums.f (k : Nat) (a0_0 : Int) (a0_1 : Int) (a0_2 : Int) (a0_3 : Int) (a0_4 : Int) (l0_5 : List (S44)) (a0_6 : Bool) : Option (Int × Int × Int) := (money_Check.f k (([a0_3, a0_4] : List Int))).bind fun t116 => (if t116 = 0 then (if (l0_5.length : Int) > 64 then (channel_sums.j0 k 0 true a0_0 a0_1 a0_2 a0_3 a0_4 l0_5 a0_6) else (if a0_6 = true then (channel_sums.j0 k 0 false a0_0 a0_1 a0_2 a0_3 a0_4 l0_5 a0_6) else (channel_sums.j0 k 0 (decide ((l0_5.length : Int) > 0)) a0_0 a0_1 a0_2 a0_3 a0_4 l0_5 a0_6))) else (channel_sums.j0 k 0 true a0_0 a0_1 a0_2 a0_3 a0_4 l0_5 a0_6))
theorem channel_sums.mono_l : ∀ k, (∀ y0 y1 y2 y3 y4 y5 y6 y7 y8, LeO (channel_sums.j0 k y0 y1 y2 y3 y4 y5 y6 y7 y8) (channel_sums.j0 (k + 1) y0 y1 y2 y3 y4 y5 y6 y7 y8)) ∧ (∀ y0 y1 y2 y3 y4 y5 y6 y7 y8 y9 y10, LeO (channel_sums.l0 k y0 y1 y2 y3 y4 y5 y6 y7 y8 y9 y10) (channel_sums.l0 (k + 1) y0 y1 y2 y3 y4 y5 y6 y7 y8 y9 y10)) ∧ (∀ y0 y1 y2 y3 y4 y5 y6 y7 y8 y9 y10 y11 y12 y13, LeO (channel_sums.j2 k y0 y1 y2 y3 y4 y5 y6 y7 y8 y9 y10 y11 y12 y13) (channel_sums.j2 (k + 1) y0 y1 y2 y3 y4 y5 y6 y7 y8 y9 y10 y11 y12 y13))
 | 0 => ⟨fun _ _ _ _ _ _ _ _ _ r h => by simp [channel_sums.j0] at h, fun _ _ _ _ _ _ _ _ _ _ _ r h => by simp [channel_sums.l0] at h, fun _ _ _ _ _ _ _ _ _ _ _ _ _ _ r h => by simp [channel_sums.j2] at h⟩
 | k + 1 => by
  obtain ⟨ih0, ih1, ih2⟩ := channel_sums.mono_l k
  refine ⟨?_, ?_, ?_⟩
  ·intro y0 y1 y2 y3 y4 y5 y6 y7 y8
   unfold channel_sums.j0
   repeat' first
   | (with_reducible exact ih0 _ _ _ _ _ _ _ _ _)
   | (with_reducible exact ih1 _ _ _ _ _ _ _ _ _ _ _)
   | (with_reducible exact ih2 _ _ _ _ _ _ _ _ _ _ _ _ _ _)
   | (with_reducible exact money_Add.mono _ _)
   | (with_reducible exact money_Check.mono _ _)
   | (with_reducible exact LeO.refl _)
   | (with_reducible exact LeO.none _)
   | (with_reducible refine LeO.ite ?_ ?_)
   | (with_reducible refine LeO.bind ?_ (fun _ => ?_))
   | exact ih0 _ _ _ _ _ _ _ _ _
   | exact ih1 _ _ _ _ _ _ _ _ _ _ _
   | exact ih2 _ _ _ _ _ _ _ _ _ _ _ _ _ _
   | exact money_Add.mono _ _
   | exact money_Check.mono _ _
   | exact LeO.none _
   | refine LeO.ite ?_ ?_
   | refine LeO.bind ?_ (fun _ => ?_)
  ·intro y0 y1 y2 y3 y4 y5 y6 y7 y8 y9 y10
   unfold channel_sums.l0
   repeat' first
   | (with_reducible exact ih0 _ _ _ _ _ _ _ _ _)
   | (with_reducible exact ih1 _ _ _ _ _ _ _ _ _ _ _)
   | (with_reducible exact ih2 _ _ _ _ _ _ _ _ _ _ _ _ _ _)
   | (with_reducible exact money_Add.mono _ _)
   | (with_reducible exact money_Check.mono _ _)
   | (with_reducible exact LeO.refl _)
   | (with_reducible exact LeO.none _)
   | (with_reducible refine LeO.ite ?_ ?_)
   | (with_reducible refine LeO.bind ?_ (fun _ => ?_))
   | exact ih0 _ _ _ _ _ _ _ _ _
   | exact ih1 _ _ _ _ _ _ _ _ _ _ _
   | exact ih2 _ _ _ _ _ _ _ _ _ _ _ _ _ _
   | exact money_Add.mono _ _
   | exact money_Check.mono _ _
   | exact LeO.none _
   | refine LeO.ite ?_ ?_
   | refine LeO.bind ?_ (fun _ => ?_)
  ·intro y0 y1 y2 y3 y4 y5 y6 y7 y8 y9 y10 y11 y12 y13
   unfold channel_sums.j2
   repeat' first
   | (with_reducible exact ih0 _ _ _ _ _ _ _ _ _)
   | (with_reducible exact ih1 _ _ _ _ _ _ _ _ _ _ _)
   | (with_reducible exact ih2 _ _ _ _ _ _ _ _ _ _ _ _ _ _)
   | (with_reducible exact money_Add.mono _ _)
   | (with_reducible exact money_Check.mono _ _)
   | (with_reducible exact LeO.refl _)
   | (with_reducible exact LeO.none _)
   | (with_reducible refine LeO.ite ?_ ?_)
   | (with_reducible refine LeO.bind ?_ (fun _ => ?_))
   | exact ih0 _ _ _ _ _ _ _ _ _
   | exact ih1 _ _ _ _ _ _ _ _ _ _ _
   | exact ih2 _ _ _ _ _ _ _ _ _ _ _ _ _ _
   | exact money_Add.mono _ _
   | exact money_Check.mono _ _
   | exact LeO.none _
   | refine LeO.ite ?_ ?_
   | refine LeO.bind ?_ (fun _ => ?_)
theorem channel_sums.mono : ∀ a0 a1 a2 a3 a4 a5 a6 k, LeO (channel_sums.f k a0 a1 a2 a3 a4 a5 a6) (channel_sums.f (k + 1) a0 a1 a2 a3 a4 a5 a6) := by
 intro a0 a1 a2 a3 a4 a5 a6 k
 obtain ⟨ih0, ih1, ih2⟩ := channel_sums.mono_l k
 unfold channel_sums.f
 repeat' first
   | (with_reducible exact ih0 _ _ _ _ _ _ _ _ _)
   | (with_reducible exact ih1 _ _ _ _ _ _ _ _ _ _ _)
   | (with_reducible exact ih2 _ _ _ _ _ _ _ _ _ _ _ _ _ _)
   | (with_reducible exact money_Add.mono _ _)
   | (with_reducible exact money_Check.mono _ _)
   | (with_reducible exact LeO.refl _)
   | (with_reducible exact LeO.none _)
   | (with_reducible refine LeO.ite ?_ ?_)
   | (with_reducible refine LeO.bind ?_ (fun _ => ?_))
   | exact ih0 _ _ _ _ _ _ _ _ _
   | exact ih1 _ _ _ _ _ _ _ _ _ _ _
   | exact ih2 _ _ _ _ _ _ _ _ _ _ _ _ _ _
   | exact money_Add.mono _ _
   | exact money_Check.mono _ _
   | exact LeO.none _
   | refine LeO.ite ?_ ?_
   | refine LeO.bind ?_ (fun _ => ?_)
def channel_sums.T6 : Bool × List (List Nat × List Nat) := (true, [([], []), ([0], [0]), ([1], [1]), ([2], [2]), ([3], [3]), ([4, 3], [3, 4]), ([5, 3, 3], [3, 5]), ([6], [6]), ([7, 6], [6, 7]), ([6], [6]), ([9, 6], [6, 9]), ([8, 10, 6], [6, 8, 10]), ([11, 6], [6, 11]), ([6], [6]), ([13, 6], [6, 13]), ([12, 14, 6, 6], [6, 12, 14]), ([15, 6], [6, 15]), ([6, 16, 3], [3, 6, 16]), ([3, 17], [3, 17])])
def channel_sums.B6 : List Nat := [0, 1, 3, 7, 15, 31, 63, 127, 255, 127, 639, 2047, 4095, 127, 8319, 32767, 65535, 131071, 262143]
theorem channel_sums.tab6 : rtab .any (opsOf Try.f83 6) = channel_sums.T6 := by kernel_rfl
theorem channel_sums.bits6 : waitsOk channel_sums.T6.2 channel_sums.B6 = true := by kernel_rfl
set_option maxHeartbeats 8000000 in
set_option maxRecDepth 100000 in
theorem channel_sums.calls (k : Nat) (a0_0 : Int) (a0_1 : Int) (a0_2 : Int) (a0_3 : Int) (a0_4 : Int) (A0_5 : Option Addr) (c0_5 : Nat) (l0_5 : List (S44)) (a0_6 : Bool) (r1 : Int) (r2 : Int) (r3 : Int) (w : World) (hr0_5 : Kd.C k44 w A0_5 l0_5.length l0_5) (hc0_5 : l0_5.length ≤ c0_5) (h : channel_sums.f k a0_0 a0_1 a0_2 a0_3 a0_4 l0_5 a0_6 = some (r1, r2, r3)) :
  Calls Try.prog 83 #[.agg #[.int .u64 a0_0, .int .u64 a0_1, .int .u64 a0_2, .int .u64 a0_3, .int .u64 a0_4, .slice A0_5 l0_5.length c0_5, .bool a0_6]] w fun e w' => e = .returned (.tuple #[.int .u64 r1, .int .u64 r2, .int .i64 r3]) ∧ Below w.heap.size w w' := by
 have hu25 := Try.underlying25
 have hu44 := Try.underlying44
 have HR0_5 := Aside0.mk hr0_5
 have HC0_5 := Aside0.mk hc0_5
 clear hr0_5 hc0_5
 have HB := Aside0.mk (Below.refl w.heap.size w)
 have H : ((money_Check.f k (([a0_3, a0_4] : List Int))).bind fun t116 => (if t116 = 0 then (if (l0_5.length : Int) > 64 then (channel_sums.j0 k 0 true a0_0 a0_1 a0_2 a0_3 a0_4 l0_5 a0_6) else (if a0_6 = true then (channel_sums.j0 k 0 false a0_0 a0_1 a0_2 a0_3 a0_4 l0_5 a0_6) else (channel_sums.j0 k 0 (decide ((l0_5.length : Int) > 0)) a0_0 a0_1 a0_2 a0_3 a0_4 l0_5 a0_6))) else (channel_sums.j0 k 0 true a0_0 a0_1 a0_2 a0_3 a0_4 l0_5 a0_6))) = some (r1, r2, r3) := h
 clear h
 have HC2 := Aside0.mk H
 clear H
 go_enter Try.func83, Try.ntmps83
 go_upto_region 1 with (first | ((with_reducible refine gate_dst (N := 1) rfl ?_); (try (refine gate_guard (by rfl) ?_; dsimp only)); refine box_event ?hg (N := 1) ?hd (cs := #[.int .u64 a0_0, .int .u64 a0_1, .int .u64 a0_2, .int .u64 a0_3, .int .u64 a0_4, .slice A0_5 l0_5.length c0_5, .bool a0_6]) (t := 25) ?hr ?_; (case hd => rfl); (case hg => rfl); (case hr => first | (go_simp; done) | (go_simp; rfl)); intro gb112 hg w3 hbox hb; have n0_ := Aside0.mk (below_step (belN HB) hb); have n1_ := Aside0.mk (hbox); have n2_ := Aside0.mk ((by rw [hg]; exact (below_size (belN HB)) : w.heap.size ≤ gb112)); have n3_ := Aside0.mk ((by rw [hg]; exact (below_size (belN HB)) : w.heap.size ≤ gb112)); clear HB; have HB := n0_; have BK112 := n1_; have GW112 := n2_; have GE112 := n3_; clear n0_ n1_ n2_ n3_; clear hb hbox hg))
 (try simp only [Act.put, List.setIfInBounds_toArray, List.set_cons_zero, List.set_cons_succ])
 go_cut [30] (fun v30 wc => ∃ (kq : Nat) (x30_1 : Bool), v30 = .bool x30_1 ∧ Aside0 (channel_sums.j0 kq 0 x30_1 a0_0 a0_1 a0_2 a0_3 a0_4 l0_5 a0_6 = some (r1, r2, r3)) ∧ Aside0 (kq ≤ k) ∧ Aside0 (wc.heap[gb112]? = some (.cells #[.int .u64 a0_0, .int .u64 a0_1, .int .u64 a0_2, .int .u64 a0_3, .int .u64 a0_4, (.slice A0_5 l0_5.length c0_5), .bool a0_6] 25 (0, 0))) ∧ Aside0 (Below w.heap.size w wc))
 case first =>
  have H := HC2.out
  clear HC2
  obtain ⟨y113, hy113⟩ : ∃ y_ : List Int, y_ = (([a0_3, a0_4] : List Int)) := ⟨_, rfl⟩
  replace H : ((money_Check.f k y113).bind fun t116 => (if t116 = 0 then (if (l0_5.length : Int) > 64 then (channel_sums.j0 k 0 true a0_0 a0_1 a0_2 a0_3 a0_4 l0_5 a0_6) else (if a0_6 = true then (channel_sums.j0 k 0 false a0_0 a0_1 a0_2 a0_3 a0_4 l0_5 a0_6) else (channel_sums.j0 k 0 (decide ((l0_5.length : Int) > 0)) a0_0 a0_1 a0_2 a0_3 a0_4 l0_5 a0_6))) else (channel_sums.j0 k 0 true a0_0 a0_1 a0_2 a0_3 a0_4 l0_5 a0_6))) = some (r1, r2, r3) := by first | (rw [hy113]; with_reducible exact H) | (have H2_ := (Option.bind_some _ _).symm.trans H; rw [hy113]; with_reducible exact H2_) | (have H2_ := (Option.bind_some _ _).symm.trans H; with_reducible exact H2_) | with_reducible exact H | (rw [hy113]; exact H) | exact H
  have Ny113 := Aside0.mk hy113
  clear hy113
  replace H := Option.bind_eq_some_iff.mp H
  obtain ⟨t116, A40, H⟩ := H
  replace H : (if t116 = 0 then (if (l0_5.length : Int) > 64 then (channel_sums.j0 k 0 true a0_0 a0_1 a0_2 a0_3 a0_4 l0_5 a0_6) else (if a0_6 = true then (channel_sums.j0 k 0 false a0_0 a0_1 a0_2 a0_3 a0_4 l0_5 a0_6) else (channel_sums.j0 k 0 (decide ((l0_5.length : Int) > 0)) a0_0 a0_1 a0_2 a0_3 a0_4 l0_5 a0_6))) else (channel_sums.j0 k 0 true a0_0 a0_1 a0_2 a0_3 a0_4 l0_5 a0_6)) = some (r1, r2, r3) := H
  have A4 := Aside0.mk A40
  clear A40
  by_cases c5 : t116 = 0
  ·rw [if_pos c5] at H
   have c5b0 : (t116 == 0) = true := beq_iff_eq.mpr c5
   have c5b1 : (t116 != 0) = false := bne_eq_false_iff_eq.mpr c5
   clear c5
   (first | rw [c5b0] | (simp only [i64_w, i32_w]; rw [c5b0]) | skip)
   by_cases c6 : (l0_5.length : Int) > 64
   ·rw [if_pos c6] at H
    have c6b0 : decide (64 < (l0_5.length : Int)) = true := decide_eq_true c6
    have c6b1 : decide (64 < l0_5.length) = true := decide_eq_true (by omega)
    clear c6
    have H' := Aside0.mk H
    clear H
    obtain ⟨hcz7_0, hcz7_1, hcz7_2, hcz7_3, hcz7_4, hcz7_5, hcz7_6, hfz7_0, hfz7_1, hfz7_2, hfz7_3, hfz7_4, hfz7_5, hfz7_6⟩ := cz7_ (w := w3) BK112.out
    go_wp2_with (first | ((with_reducible refine gate_dst (N := 11) rfl ?_); (try (refine gate_guard (by rfl) ?_; dsimp only)); refine Kd.R_lit (Kd.int .u64) _ 22 ?hg (N := 11) ?hd (xs := ([a0_3, a0_4] : List Int)) (inner := [.int .u64 a0_3, .int .u64 a0_4]) (ok := fun _ => True) (okp := fun _ => True) ?hr ?hp (fun _ hk => hk) trivial (Below.refl _ _) (Nat.le_refl _) (by simp) ?_; (case hd => rfl); (case hg => rfl); (case hr => first | (go_simp; done) | (go_simp; rfl)); (case hp => exact (Reps.one (show Kd.M (Kd.int .u64) _ _ _ a0_3 [.int .u64 a0_3] from rfl) (Reps.one (show Kd.M (Kd.int .u64) _ _ _ a0_4 [.int .u64 a0_4] from rfl) (Reps.none _ _)))); intro v114 w8 ho9 hb hg_ hnew_; clear hg_ hnew_; (first | rw [← Ny113.out] at ho9 | (simp only [Int.reduceToNat] at ho9; rw [← Ny113.out] at ho9)); have n0_ := Aside0.mk (Kd.R_lower ho9 (below_size (belN HB))); have n1_ := Aside0.mk (blk_below (g := gb112) (blkN BK112) hb); have n2_ := Aside0.mk (below_step (belN HB) hb); clear BK112; clear HB; have HO115 := n0_; have BK112 := n1_; have HB := n2_; clear n0_ n1_ n2_; clear hb ho9; obtain ⟨Ao10, co10, eo10⟩ := Kd.R_slice HO115.out; subst eo10) | ((with_reducible refine gate_callee (f := 87) rfl ?_); refine goesL_ (some 12) rfl rfl Try.func87 (by kernel_rfl) rfl #[.slice Ao10 y113.length co10] rfl (by (try simp only [List.map_toArray, List.map_cons, List.map_nil]); first | done | rfl | (simp only [List.length_drop, List.length_take]; rfl)) ?_; (with_reducible refine (money_Check.calls k _ _ y113 t116 _ ?side1 ?side2 A4.out).mono ?_); (case side1 => exact Kd.CN (Kd.R_reads' HO115.out).2.2); (case side2 => exact (Kd.R_reads' HO115.out).2.1); rintro e w11 ⟨rfl, hb⟩; refine ⟨_, rfl, ?_⟩; have n0_ := Aside0.mk (Kd.R_below (Kd.RN HO115) hb); have n1_ := Aside0.mk (blk_below (g := gb112) (blkN BK112) hb); have n2_ := Aside0.mk (below_step (belN HB) hb); clear HO115; clear BK112; clear HB; have HO115 := n0_; have BK112 := n1_; have HB := n2_; clear n0_ n1_ n2_; (try clear hb); (try clear hb2); (try clear hk); (try clear hi); obtain ⟨hcz12_0, hcz12_1, hcz12_2, hcz12_3, hcz12_4, hcz12_5, hcz12_6, hfz12_0, hfz12_1, hfz12_2, hfz12_3, hfz12_4, hfz12_5, hfz12_6⟩ := cz7_ (w := w11) BK112.out))
    go_meet
    case rel => exact ⟨_, (true), (by first | rfl | (simp; done) | (simp [*]; done)), H', ⟨by first | omega | exact Nat.le_refl _⟩, ⟨by (with_reducible repeat (first | refine blk_drewN ?_ _ | refine blk_drew ?_ | refine blk_alloc ?_ _)); exact BK112.out⟩, ⟨by repeat (first | (with_reducible first | exact HB.out | apply below_alloc | apply pw_below_drewN | apply below_drew1 | refine below_set ?_ GE112.out) | exact HB.out)⟩⟩
   ·rw [if_neg c6] at H
    have c6b0 : decide (64 < (l0_5.length : Int)) = false := decide_eq_false c6
    have c6b1 : decide (64 < l0_5.length) = false := decide_eq_false (by omega)
    clear c6
    by_cases c13 : a0_6 = true
    ·subst c13
     have H1 : (channel_sums.j0 k 0 false a0_0 a0_1 a0_2 a0_3 a0_4 l0_5 true) = some (r1, r2, r3) := by rw [if_pos rfl] at H; exact H
     clear H
     have H := H1
     clear H1
     have H' := Aside0.mk H
     clear H
     obtain ⟨hcz14_0, hcz14_1, hcz14_2, hcz14_3, hcz14_4, hcz14_5, hcz14_6, hfz14_0, hfz14_1, hfz14_2, hfz14_3, hfz14_4, hfz14_5, hfz14_6⟩ := cz7_ (w := w3) BK112.out
     go_wp2_with (first | ((with_reducible refine gate_dst (N := 11) rfl ?_); (try (refine gate_guard (by rfl) ?_; dsimp only)); refine Kd.R_lit (Kd.int .u64) _ 22 ?hg (N := 11) ?hd (xs := ([a0_3, a0_4] : List Int)) (inner := [.int .u64 a0_3, .int .u64 a0_4]) (ok := fun _ => True) (okp := fun _ => True) ?hr ?hp (fun _ hk => hk) trivial (Below.refl _ _) (Nat.le_refl _) (by simp) ?_; (case hd => rfl); (case hg => rfl); (case hr => first | (go_simp; done) | (go_simp; rfl)); (case hp => exact (Reps.one (show Kd.M (Kd.int .u64) _ _ _ a0_3 [.int .u64 a0_3] from rfl) (Reps.one (show Kd.M (Kd.int .u64) _ _ _ a0_4 [.int .u64 a0_4] from rfl) (Reps.none _ _)))); intro v114 w15 ho16 hb hg_ hnew_; clear hg_ hnew_; (first | rw [← Ny113.out] at ho16 | (simp only [Int.reduceToNat] at ho16; rw [← Ny113.out] at ho16)); have n0_ := Aside0.mk (Kd.R_lower ho16 (below_size (belN HB))); have n1_ := Aside0.mk (blk_below (g := gb112) (blkN BK112) hb); have n2_ := Aside0.mk (below_step (belN HB) hb); clear BK112; clear HB; have HO115 := n0_; have BK112 := n1_; have HB := n2_; clear n0_ n1_ n2_; clear hb ho16; obtain ⟨Ao17, co17, eo17⟩ := Kd.R_slice HO115.out; subst eo17) | ((with_reducible refine gate_callee (f := 87) rfl ?_); refine goesL_ (some 12) rfl rfl Try.func87 (by kernel_rfl) rfl #[.slice Ao17 y113.length co17] rfl (by (try simp only [List.map_toArray, List.map_cons, List.map_nil]); first | done | rfl | (simp only [List.length_drop, List.length_take]; rfl)) ?_; (with_reducible refine (money_Check.calls k _ _ y113 t116 _ ?side1 ?side2 A4.out).mono ?_); (case side1 => exact Kd.CN (Kd.R_reads' HO115.out).2.2); (case side2 => exact (Kd.R_reads' HO115.out).2.1); rintro e w18 ⟨rfl, hb⟩; refine ⟨_, rfl, ?_⟩; have n0_ := Aside0.mk (Kd.R_below (Kd.RN HO115) hb); have n1_ := Aside0.mk (blk_below (g := gb112) (blkN BK112) hb); have n2_ := Aside0.mk (below_step (belN HB) hb); clear HO115; clear BK112; clear HB; have HO115 := n0_; have BK112 := n1_; have HB := n2_; clear n0_ n1_ n2_; (try clear hb); (try clear hb2); (try clear hk); (try clear hi); obtain ⟨hcz19_0, hcz19_1, hcz19_2, hcz19_3, hcz19_4, hcz19_5, hcz19_6, hfz19_0, hfz19_1, hfz19_2, hfz19_3, hfz19_4, hfz19_5, hfz19_6⟩ := cz7_ (w := w18) BK112.out))
     go_meet
     case rel => exact ⟨_, (false), (by first | rfl | (simp; done) | (simp [*]; done)), H', ⟨by first | omega | exact Nat.le_refl _⟩, ⟨by (with_reducible repeat (first | refine blk_drewN ?_ _ | refine blk_drew ?_ | refine blk_alloc ?_ _)); exact BK112.out⟩, ⟨by repeat (first | (with_reducible first | exact HB.out | apply below_alloc | apply pw_below_drewN | apply below_drew1 | refine below_set ?_ GE112.out) | exact HB.out)⟩⟩
    ·replace c13 := Bool.eq_false_iff.mpr c13
     subst c13
     have H1 : (channel_sums.j0 k 0 (decide ((l0_5.length : Int) > 0)) a0_0 a0_1 a0_2 a0_3 a0_4 l0_5 false) = some (r1, r2, r3) := by rw [if_neg (show ¬ (false = true) by decide)] at H; exact H
     clear H
     have H := H1
     clear H1
     have H' := Aside0.mk H
     clear H
     obtain ⟨hcz20_0, hcz20_1, hcz20_2, hcz20_3, hcz20_4, hcz20_5, hcz20_6, hfz20_0, hfz20_1, hfz20_2, hfz20_3, hfz20_4, hfz20_5, hfz20_6⟩ := cz7_ (w := w3) BK112.out
     go_wp2_with (first | ((with_reducible refine gate_dst (N := 11) rfl ?_); (try (refine gate_guard (by rfl) ?_; dsimp only)); refine Kd.R_lit (Kd.int .u64) _ 22 ?hg (N := 11) ?hd (xs := ([a0_3, a0_4] : List Int)) (inner := [.int .u64 a0_3, .int .u64 a0_4]) (ok := fun _ => True) (okp := fun _ => True) ?hr ?hp (fun _ hk => hk) trivial (Below.refl _ _) (Nat.le_refl _) (by simp) ?_; (case hd => rfl); (case hg => rfl); (case hr => first | (go_simp; done) | (go_simp; rfl)); (case hp => exact (Reps.one (show Kd.M (Kd.int .u64) _ _ _ a0_3 [.int .u64 a0_3] from rfl) (Reps.one (show Kd.M (Kd.int .u64) _ _ _ a0_4 [.int .u64 a0_4] from rfl) (Reps.none _ _)))); intro v114 w21 ho22 hb hg_ hnew_; clear hg_ hnew_; (first | rw [← Ny113.out] at ho22 | (simp only [Int.reduceToNat] at ho22; rw [← Ny113.out] at ho22)); have n0_ := Aside0.mk (Kd.R_lower ho22 (below_size (belN HB))); have n1_ := Aside0.mk (blk_below (g := gb112) (blkN BK112) hb); have n2_ := Aside0.mk (below_step (belN HB) hb); clear BK112; clear HB; have HO115 := n0_; have BK112 := n1_; have HB := n2_; clear n0_ n1_ n2_; clear hb ho22; obtain ⟨Ao23, co23, eo23⟩ := Kd.R_slice HO115.out; subst eo23) | ((with_reducible refine gate_callee (f := 87) rfl ?_); refine goesL_ (some 12) rfl rfl Try.func87 (by kernel_rfl) rfl #[.slice Ao23 y113.length co23] rfl (by (try simp only [List.map_toArray, List.map_cons, List.map_nil]); first | done | rfl | (simp only [List.length_drop, List.length_take]; rfl)) ?_; (with_reducible refine (money_Check.calls k _ _ y113 t116 _ ?side1 ?side2 A4.out).mono ?_); (case side1 => exact Kd.CN (Kd.R_reads' HO115.out).2.2); (case side2 => exact (Kd.R_reads' HO115.out).2.1); rintro e w24 ⟨rfl, hb⟩; refine ⟨_, rfl, ?_⟩; have n0_ := Aside0.mk (Kd.R_below (Kd.RN HO115) hb); have n1_ := Aside0.mk (blk_below (g := gb112) (blkN BK112) hb); have n2_ := Aside0.mk (below_step (belN HB) hb); clear HO115; clear BK112; clear HB; have HO115 := n0_; have BK112 := n1_; have HB := n2_; clear n0_ n1_ n2_; (try clear hb); (try clear hb2); (try clear hk); (try clear hi); obtain ⟨hcz25_0, hcz25_1, hcz25_2, hcz25_3, hcz25_4, hcz25_5, hcz25_6, hfz25_0, hfz25_1, hfz25_2, hfz25_3, hfz25_4, hfz25_5, hfz25_6⟩ := cz7_ (w := w24) BK112.out))
     go_meet
     case rel => exact ⟨_, (decide ((l0_5.length : Int) > 0)), (by first | rfl | (simp; done) | (simp [*]; done)), H', ⟨by first | omega | exact Nat.le_refl _⟩, ⟨by (with_reducible repeat (first | refine blk_drewN ?_ _ | refine blk_drew ?_ | refine blk_alloc ?_ _)); exact BK112.out⟩, ⟨by repeat (first | (with_reducible first | exact HB.out | apply below_alloc | apply pw_below_drewN | apply below_drew1 | refine below_set ?_ GE112.out) | exact HB.out)⟩⟩
  ·rw [if_neg c5] at H
   have c5b0 : (t116 == 0) = false := beq_eq_false_iff_ne.mpr c5
   have c5b1 : (t116 != 0) = true := bne_iff_ne.mpr c5
   (first | rw [c5b0] | (simp only [i64_w, i32_w]; rw [c5b0]) | skip)
   have H' := Aside0.mk H
   clear H
   obtain ⟨hcz26_0, hcz26_1, hcz26_2, hcz26_3, hcz26_4, hcz26_5, hcz26_6, hfz26_0, hfz26_1, hfz26_2, hfz26_3, hfz26_4, hfz26_5, hfz26_6⟩ := cz7_ (w := w3) BK112.out
   go_wp2_with (first | ((with_reducible refine gate_dst (N := 11) rfl ?_); (try (refine gate_guard (by rfl) ?_; dsimp only)); refine Kd.R_lit (Kd.int .u64) _ 22 ?hg (N := 11) ?hd (xs := ([a0_3, a0_4] : List Int)) (inner := [.int .u64 a0_3, .int .u64 a0_4]) (ok := fun _ => True) (okp := fun _ => True) ?hr ?hp (fun _ hk => hk) trivial (Below.refl _ _) (Nat.le_refl _) (by simp) ?_; (case hd => rfl); (case hg => rfl); (case hr => first | (go_simp; done) | (go_simp; rfl)); (case hp => exact (Reps.one (show Kd.M (Kd.int .u64) _ _ _ a0_3 [.int .u64 a0_3] from rfl) (Reps.one (show Kd.M (Kd.int .u64) _ _ _ a0_4 [.int .u64 a0_4] from rfl) (Reps.none _ _)))); intro v114 w27 ho28 hb hg_ hnew_; clear hg_ hnew_; (first | rw [← Ny113.out] at ho28 | (simp only [Int.reduceToNat] at ho28; rw [← Ny113.out] at ho28)); have n0_ := Aside0.mk (Kd.R_lower ho28 (below_size (belN HB))); have n1_ := Aside0.mk (blk_below (g := gb112) (blkN BK112) hb); have n2_ := Aside0.mk (below_step (belN HB) hb); clear BK112; clear HB; have HO115 := n0_; have BK112 := n1_; have HB := n2_; clear n0_ n1_ n2_; clear hb ho28; obtain ⟨Ao29, co29, eo29⟩ := Kd.R_slice HO115.out; subst eo29) | ((with_reducible refine gate_callee (f := 87) rfl ?_); refine goesL_ (some 12) rfl rfl Try.func87 (by kernel_rfl) rfl #[.slice Ao29 y113.length co29] rfl (by (try simp only [List.map_toArray, List.map_cons, List.map_nil]); first | done | rfl | (simp only [List.length_drop, List.length_take]; rfl)) ?_; (with_reducible refine (money_Check.calls k _ _ y113 t116 _ ?side1 ?side2 A4.out).mono ?_); (case side1 => exact Kd.CN (Kd.R_reads' HO115.out).2.2); (case side2 => exact (Kd.R_reads' HO115.out).2.1); rintro e w30 ⟨rfl, hb⟩; refine ⟨_, rfl, ?_⟩; have n0_ := Aside0.mk (Kd.R_below (Kd.RN HO115) hb); have n1_ := Aside0.mk (blk_below (g := gb112) (blkN BK112) hb); have n2_ := Aside0.mk (below_step (belN HB) hb); clear HO115; clear BK112; clear HB; have HO115 := n0_; have BK112 := n1_; have HB := n2_; clear n0_ n1_ n2_; (try clear hb); (try clear hb2); (try clear hk); (try clear hi)))
   go_meet
   case rel => exact ⟨_, (true), (by first | rfl | (simp; done) | (simp [*]; done)), H', ⟨by first | omega | exact Nat.le_refl _⟩, ⟨by (with_reducible repeat (first | refine blk_drewN ?_ _ | refine blk_drew ?_ | refine blk_alloc ?_ _)); exact BK112.out⟩, ⟨by repeat (first | (with_reducible first | exact HB.out | apply below_alloc | apply pw_below_drewN | apply below_drew1 | refine below_set ?_ GE112.out) | exact HB.out)⟩⟩
 case rest =>
  clear HC2
  try clear c1
  try clear p2
  try clear c5
  try clear c5b0
  try clear c5b1
  try clear c6
  try clear c6b0
  try clear c6b1
  try clear c8
  try clear c13
  try clear hcz12_0
  try clear hcz12_1
  try clear hcz12_2
  try clear hcz12_3
  try clear hcz12_4
  try clear hcz12_5
  try clear hcz12_6
  try clear hcz14_0
  try clear hcz14_1
  try clear hcz14_2
  try clear hcz14_3
  try clear hcz14_4
  try clear hcz14_5
  try clear hcz14_6
  try clear hcz19_0
  try clear hcz19_1
  try clear hcz19_2
  try clear hcz19_3
  try clear hcz19_4
  try clear hcz19_5
  try clear hcz19_6
  try clear hcz20_0
  try clear hcz20_1
  try clear hcz20_2
  try clear hcz20_3
  try clear hcz20_4
  try clear hcz20_5
  try clear hcz20_6
  try clear hcz25_0
  try clear hcz25_1
  try clear hcz25_2
  try clear hcz25_3
  try clear hcz25_4
  try clear hcz25_5
  try clear hcz25_6
  try clear hcz26_0
  try clear hcz26_1
  try clear hcz26_2
  try clear hcz26_3
  try clear hcz26_4
  try clear hcz26_5
  try clear hcz26_6
  try clear hcz7_0
  try clear hcz7_1
  try clear hcz7_2
  try clear hcz7_3
  try clear hcz7_4
  try clear hcz7_5
  try clear hcz7_6
  try clear hfz12_0
  try clear hfz12_1
  try clear hfz12_2
  try clear hfz12_3
  try clear hfz12_4
  try clear hfz12_5
  try clear hfz12_6
  try clear hfz14_0
  try clear hfz14_1
  try clear hfz14_2
  try clear hfz14_3
  try clear hfz14_4
  try clear hfz14_5
  try clear hfz14_6
  try clear hfz19_0
  try clear hfz19_1
  try clear hfz19_2
  try clear hfz19_3
  try clear hfz19_4
  try clear hfz19_5
  try clear hfz19_6
  try clear hfz20_0
  try clear hfz20_1
  try clear hfz20_2
  try clear hfz20_3
  try clear hfz20_4
  try clear hfz20_5
  try clear hfz20_6
  try clear hfz25_0
  try clear hfz25_1
  try clear hfz25_2
  try clear hfz25_3
  try clear hfz25_4
  try clear hfz25_5
  try clear hfz25_6
  try clear hfz26_0
  try clear hfz26_1
  try clear hfz26_2
  try clear hfz26_3
  try clear hfz26_4
  try clear hfz26_5
  try clear hfz26_6
  try clear hfz7_0
  try clear hfz7_1
  try clear hfz7_2
  try clear hfz7_3
  try clear hfz7_4
  try clear hfz7_5
  try clear hfz7_6
  obtain ⟨kq, x30_1, rfl, HA, HJ1, BK112, HB⟩ := hcut
  cases kq with
  | zero => exact absurd HA.out (by simp [channel_sums.j0])
  | succ kj1 =>
   have H := HA.out
   clear HA
   simp only [channel_sums.j0] at H
   by_cases c31 : x30_1 = true
   ·subst c31
    have H1 : (some (0, 0, 1)) = some (r1, r2, r3) := by rw [if_pos rfl] at H; exact H
    clear H
    have H := H1
    clear H1
    simp only [Option.some.injEq, Prod.mk.injEq] at H
    obtain ⟨rfl, rfl, rfl⟩ := H
    go_wp2
    go_ret3
    exact ⟨by first | rfl | (simp [errW_none, errW_some] <;> rfl) | (simp [*, errW_none, errW_some] <;> rfl), by repeat (first | (with_reducible first | exact HB.out | apply below_alloc | apply pw_below_drewN | apply below_drew1 | refine below_set ?_ GE112.out) | exact HB.out)⟩
   ·replace c31 := Bool.eq_false_iff.mpr c31
    subst c31
    have H1 : (channel_sums.l0 kj1 0 l0_5 (l0_5.length : Int) 0 a0_0 a0_1 a0_2 a0_3 a0_4 l0_5 a0_6) = some (r1, r2, r3) := by rw [if_neg (show ¬ (false = true) by decide)] at H; exact H
    clear H
    have H := H1
    clear H1
    have H' := Aside0.mk H
    clear H
    obtain ⟨hcz32_0, hcz32_1, hcz32_2, hcz32_3, hcz32_4, hcz32_5, hcz32_6, hfz32_0, hfz32_1, hfz32_2, hfz32_3, hfz32_4, hfz32_5, hfz32_6⟩ := cz7_ (w := wc) BK112.out
    go_wp2
    go_loopg [2, 34] kj1 (fun kq v2 v34 w' => ∃ (x2_2 : Int) (x34_2 : Int), v2 = .int .u64 x2_2 ∧ v34 = .int .i64 x34_2 ∧ Aside0 (channel_sums.l0 kq x2_2 l0_5 (l0_5.length : Int) x34_2 a0_0 a0_1 a0_2 a0_3 a0_4 l0_5 a0_6 = some (r1, r2, r3)) ∧ Aside0 (kq ≤ kj1) ∧ Aside0 (w'.heap[gb112]? = some (.cells #[.int .u64 a0_0, .int .u64 a0_1, .int .u64 a0_2, .int .u64 a0_3, .int .u64 a0_4, (.slice A0_5 l0_5.length c0_5), .bool a0_6] 25 (0, 0))) ∧ Aside0 (Below w.heap.size w w'))
    case atStart => exact ⟨(0), (0), (by first | rfl | (simp; done) | (simp [*]; done)), (by first | rfl | (simp; done) | (simp [*]; done)), H', ⟨Nat.le_refl _⟩, ⟨by (with_reducible repeat (first | refine blk_drewN ?_ _ | refine blk_drew ?_ | refine blk_alloc ?_ _)); exact BK112.out⟩, ⟨by repeat (first | (with_reducible first | exact HB.out | apply below_alloc | apply pw_below_drewN | apply below_drew1 | refine below_set ?_ GE112.out) | exact HB.out)⟩⟩
    case round =>
     clear H'
     try clear c1
     try clear p2
     try clear c3
     try clear c5
     try clear c5b0
     try clear c5b1
     try clear c6
     try clear c6b0
     try clear c6b1
     try clear c8
     try clear c13
     try clear c31
     try clear hcz12_0
     try clear hcz12_1
     try clear hcz12_2
     try clear hcz12_3
     try clear hcz12_4
     try clear hcz12_5
     try clear hcz12_6
     try clear hcz14_0
     try clear hcz14_1
     try clear hcz14_2
     try clear hcz14_3
     try clear hcz14_4
     try clear hcz14_5
     try clear hcz14_6
     try clear hcz19_0
     try clear hcz19_1
     try clear hcz19_2
     try clear hcz19_3
     try clear hcz19_4
     try clear hcz19_5
     try clear hcz19_6
     try clear hcz20_0
     try clear hcz20_1
     try clear hcz20_2
     try clear hcz20_3
     try clear hcz20_4
     try clear hcz20_5
     try clear hcz20_6
     try clear hcz25_0
     try clear hcz25_1
     try clear hcz25_2
     try clear hcz25_3
     try clear hcz25_4
     try clear hcz25_5
     try clear hcz25_6
     try clear hcz26_0
     try clear hcz26_1
     try clear hcz26_2
     try clear hcz26_3
     try clear hcz26_4
     try clear hcz26_5
     try clear hcz26_6
     try clear hcz32_0
     try clear hcz32_1
     try clear hcz32_2
     try clear hcz32_3
     try clear hcz32_4
     try clear hcz32_5
     try clear hcz32_6
     try clear hcz7_0
     try clear hcz7_1
     try clear hcz7_2
     try clear hcz7_3
     try clear hcz7_4
     try clear hcz7_5
     try clear hcz7_6
     try clear hfz12_0
     try clear hfz12_1
     try clear hfz12_2
     try clear hfz12_3
     try clear hfz12_4
     try clear hfz12_5
     try clear hfz12_6
     try clear hfz14_0
     try clear hfz14_1
     try clear hfz14_2
     try clear hfz14_3
     try clear hfz14_4
     try clear hfz14_5
     try clear hfz14_6
     try clear hfz19_0
     try clear hfz19_1
     try clear hfz19_2
     try clear hfz19_3
     try clear hfz19_4
     try clear hfz19_5
     try clear hfz19_6
     try clear hfz20_0
     try clear hfz20_1
     try clear hfz20_2
     try clear hfz20_3
     try clear hfz20_4
     try clear hfz20_5
     try clear hfz20_6
     try clear hfz25_0
     try clear hfz25_1
     try clear hfz25_2
     try clear hfz25_3
     try clear hfz25_4
     try clear hfz25_5
     try clear hfz25_6
     try clear hfz26_0
     try clear hfz26_1
     try clear hfz26_2
     try clear hfz26_3
     try clear hfz26_4
     try clear hfz26_5
     try clear hfz26_6
     try clear hfz32_0
     try clear hfz32_1
     try clear hfz32_2
     try clear hfz32_3
     try clear hfz32_4
     try clear hfz32_5
     try clear hfz32_6
     try clear hfz7_0
     try clear hfz7_1
     try clear hfz7_2
     try clear hfz7_3
     try clear hfz7_4
     try clear hfz7_5
     try clear hfz7_6
     try clear p2
     obtain ⟨x2_2, x34_2, rfl, rfl, HA, HK2, BK112, HB⟩ := hrel
     cases gk with
     | zero => exact absurd HA.out (by simp [channel_sums.l0])
     | succ k2 =>
      have H := HA.out
      clear HA
      simp only [channel_sums.l0] at H
      by_cases c33 : x34_2 < (l0_5.length : Int)
      ·rw [if_pos c33] at H
       have c33b0 : decide (x34_2 < (l0_5.length : Int)) = true := decide_eq_true c33
       clear c33
       by_cases c34 : 0 ≤ x34_2
       ·rw [if_pos c34] at H
        have c34b0 : decide (0 ≤ x34_2) = true := decide_eq_true c34
        clear c34
        by_cases c35 : x34_2 < (l0_5.length : Int)
        ·rw [if_pos c35] at H
         have c35b0 : decide (x34_2 < (l0_5.length : Int)) = true := decide_eq_true c35
         clear c35
         have HC36 := Aside0.mk H
         clear H
         have p122 : 0 ≤ (x34_2 : Int) := of_decide_eq_true (by first | (with_reducible assumption) | assumption)
         have q122 : x34_2 < (l0_5.length : Int) := of_decide_eq_true (by first | (with_reducible assumption) | assumption)
         obtain ⟨ad122, e122, hx122_0, hx122_1⟩ := at_T44 HR0_5.out x34_2 p122 q122
         cases e122
         replace hx122_0 := (HB.out.cell (World.block_lt_of_cell? w _ hx122_0)).trans hx122_0
         replace hx122_1 := (HB.out.cell (World.block_lt_of_cell? w _ hx122_1)).trans hx122_1
         replace p122 := eq_true p122
         replace q122 := eq_true q122
         go_upto_region 6 with (first | ((with_reducible refine gate_dst (N := 6) rfl ?_); (try (refine gate_guard (by rfl) ?_; dsimp only)); refine box_event ?hg (N := 6) ?hd (cs := #[.int .u64 0, .int .u64 0]) (t := 44) ?hr ?_; (case hd => rfl); (case hg => rfl); (case hr => first | (go_simp; done) | (go_simp; rfl)); intro gb123 hg w37 hbox hb; have n0_ := Aside0.mk (blk_below (g := gb112) (blkN BK112) hb); have n1_ := Aside0.mk (below_step (belN HB) hb); have n2_ := Aside0.mk (hbox); have n3_ := Aside0.mk ((by rw [hg]; exact (below_size (belN HB)) : w.heap.size ≤ gb123)); have n4_ := Aside0.mk ((by rw [hg]; exact (below_size (belN HB)) : w.heap.size ≤ gb123)); have n5_ := Aside0.mk ((by rw [hg]; exact Nat.ne_of_lt (blk_lt (g := gb112) (blkN BK112)) : gb112 ≠ gb123)); have n6_ := Aside0.mk ((by rw [hg]; exact Nat.ne_of_gt (blk_lt (g := gb112) (blkN BK112)) : gb123 ≠ gb112)); clear BK112; clear HB; have BK112 := n0_; have HB := n1_; have BK123 := n2_; have GW123 := n3_; have GE123 := n4_; have NB112_123 := n5_; have NB123_112 := n6_; clear n0_ n1_ n2_ n3_ n4_ n5_ n6_; clear hb hbox hg; have hnb38 := NB123_112.out; have hnc38 := NB112_123.out; obtain ⟨hcz39_0, hcz39_1, hfz39_0, hfz39_1⟩ := cz2_ (w := w37) BK123.out))
         (try simp only [Act.put, List.setIfInBounds_toArray, List.set_cons_zero, List.set_cons_succ])
         go_cut [57] (fun v57 wc => ∃ (kq : Nat) (x57_35 : Bool), v57 = .bool x57_35 ∧ Aside0 (channel_sums.j2 kq x2_2 l0_5 (l0_5.length : Int) x34_2 x57_35 a0_0 a0_1 a0_2 a0_3 a0_4 l0_5 a0_6 ((rd_T44 l0_5 x34_2).f0) ((rd_T44 l0_5 x34_2).f1) = some (r1, r2, r3)) ∧ Aside0 (kq ≤ k2) ∧ Aside0 (wc.heap[gb112]? = some (.cells #[.int .u64 a0_0, .int .u64 a0_1, .int .u64 a0_2, .int .u64 a0_3, .int .u64 a0_4, (.slice (some ad122) l0_5.length c0_5), .bool a0_6] 25 (0, 0))) ∧ Aside0 (wc.heap[gb123]? = some (.cells #[.int .u64 ((rd_T44 l0_5 x34_2).f0), .int .u64 ((rd_T44 l0_5 x34_2).f1)] 44 (0, 0))) ∧ Aside0 (Below w.heap.size w wc))
         case first =>
          have H := HC36.out
          clear HC36
          by_cases c40 : ((rd_T44 l0_5 x34_2).f1) = 0
          ·rw [if_pos c40] at H
           have c40b0 : (((rd_T44 l0_5 x34_2).f1) == 0) = true := beq_iff_eq.mpr c40
           have c40b1 : (((rd_T44 l0_5 x34_2).f1) != 0) = false := bne_eq_false_iff_eq.mpr c40
           clear c40
           (first | rw [c40b0] | (simp only [i64_w, i32_w]; rw [c40b0]) | skip)
           have H' := Aside0.mk H
           clear H
           try go_wp2
           have n0_ : Aside0 (((w37.setCell ⟨gb123, 0, none⟩ (.int .u64 ((rd_T44 l0_5 x34_2).f0))).setCell ⟨gb123, 1, none⟩ (.int .u64 ((rd_T44 l0_5 x34_2).f1))).heap[gb112]? = some (.cells #[.int .u64 a0_0, .int .u64 a0_1, .int .u64 a0_2, .int .u64 a0_3, .int .u64 a0_4, .slice (some ad122) l0_5.length c0_5, .bool a0_6] 25 (0, 0))) := ⟨by (with_reducible repeat (first | refine blk_drewN ?_ _ | refine blk_drew ?_ | refine blk_alloc ?_ _)); refine blk_far ?_ NB112_123.out _; (with_reducible repeat (first | refine blk_drewN ?_ _ | refine blk_drew ?_ | refine blk_alloc ?_ _)); refine blk_far ?_ NB112_123.out _; (with_reducible repeat (first | refine blk_drewN ?_ _ | refine blk_drew ?_ | refine blk_alloc ?_ _)); exact BK112.out⟩
           have n1_ : Aside0 (((w37.setCell ⟨gb123, 0, none⟩ (.int .u64 ((rd_T44 l0_5 x34_2).f0))).setCell ⟨gb123, 1, none⟩ (.int .u64 ((rd_T44 l0_5 x34_2).f1))).heap[gb123]? = some (.cells #[.int .u64 ((rd_T44 l0_5 x34_2).f0), .int .u64 ((rd_T44 l0_5 x34_2).f1)] 44 (0, 0))) := ⟨by (with_reducible repeat (first | refine blk_drewN ?_ _ | refine blk_drew ?_ | refine blk_alloc ?_ _)); refine blk_put (cs := #[.int .u64 ((rd_T44 l0_5 x34_2).f0), .int .u64 0]) ?_ 1 _ rfl; refine blk_put (cs := #[.int .u64 0, .int .u64 0]) ?_ 0 _ rfl; (with_reducible repeat (first | refine blk_drewN ?_ _ | refine blk_drew ?_ | refine blk_alloc ?_ _)); exact BK123.out⟩
           have n2_ : Aside0 (Below w.heap.size w ((w37.setCell ⟨gb123, 0, none⟩ (.int .u64 ((rd_T44 l0_5 x34_2).f0))).setCell ⟨gb123, 1, none⟩ (.int .u64 ((rd_T44 l0_5 x34_2).f1)))) := ⟨by repeat (first | (with_reducible first | exact HB.out | apply below_alloc | apply pw_below_drewN | apply below_drew1 | refine below_set ?_ GE112.out | refine below_set ?_ GE123.out) | exact HB.out)⟩
           (try clear BK112)
           (try clear BK123)
           (try clear HB)
           generalize ((w37.setCell ⟨gb123, 0, none⟩ (.int .u64 ((rd_T44 l0_5 x34_2).f0))).setCell ⟨gb123, 1, none⟩ (.int .u64 ((rd_T44 l0_5 x34_2).f1))) = w41 at n0_ n1_ n2_ ⊢
           have BK112 := n0_
           have BK123 := n1_
           have HB := n2_
           clear n0_ n1_ n2_
           have n0_ := Aside0.mk (blk_drew BK112.out)
           have n1_ := Aside0.mk (blk_drew BK123.out)
           have n2_ := Aside0.mk (below_drew1 HB.out)
           clear BK112
           clear BK123
           clear HB
           have BK112 := n0_
           have BK123 := n1_
           have HB := n2_
           clear n0_ n1_ n2_
           refine start_ (n := 19) (S := fun w' => w'.cell? ⟨gb123, 0, none⟩ = some (.int .u64 ((rd_T44 l0_5 x34_2).f0)) ∧ w'.cell? ⟨gb123, 1, none⟩ = some (.int .u64 ((rd_T44 l0_5 x34_2).f1))) (ds := []) #[false, false, false, false, false, false, false, false, false, false, false, false, false, false, false, false, false, false, false] (by kernel_rfl) rfl rfl ⟨(blk_cell BK123.out 0).trans rfl, (blk_cell BK123.out 1).trans rfl⟩ (fun hHeld => ?_); refine with_tabW channel_sums.tab6 channel_sums.bits6 (fun HT_ HW_ => ?_)
           generalize w41.drew = w42 at BK112 BK123 HB hHeld ⊢
           refine pureA_ 0 39 (bm 19 1) ?_
           refine take_ (i := 1) (N := some 40) (v := ?_) (a' := ?_) #[true, true, false, false, false, false, false, false, false, false, false, false, false, false, false, false, false, false, false] rfl rfl (take_ofW HT_.out HW_.out (by kernel_rfl)) (fun _ _ _ h => h) (Or.inl ⟨by rfl, ?_⟩) hHeld ?_ ?_
           rotate_left
           ·rintro w' ⟨s0, s1⟩
            go_simp
            with_reducible rfl
           rotate_left
           ·simp only [Act.put, List.setIfInBounds_toArray, List.set_cons_zero, List.set_cons_succ, i64_w, i32_w]
            rfl
           refine pureA_ 2 41 (bm 19 7) ?_
           refine pureA_ 3 42 (bm 19 15) ?_
           refine pureU_ 4 43 (bm 19 31) ?_
           refine pureU_ 5 44 (bm 19 63) ?_
           refine pureU_ 6 45 (bm 19 127) ?_
           refine pureU_ 7 46 (bm 19 255) ?_
           refine pureU_ 8 47 (bm 19 511) ?_
           refine pureU_ 9 48 (bm 19 1023) ?_
           refine pureU_ 10 49 (bm 19 2047) ?_
           refine pureU_ 11 50 (bm 19 4095) ?_
           refine pureU_ 12 51 (bm 19 8191) ?_
           refine pureU_ 13 52 (bm 19 16383) ?_
           refine pureU_ 14 53 (bm 19 32767) ?_
           refine pureU_ 15 54 (bm 19 65535) ?_
           refine pureU_ 16 55 (bm 19 131071) ?_
           refine pureU_ 17 56 (bm 19 262143) ?_
           refine pureA_ 18 57 (bm 19 524287) ?_
           refine done_ (done_of HT_.out (by kernel_rfl)) ?_
           try go_wp2
           go_meet
           case rel => exact ⟨_, (true), (by first | rfl | (simp; done) | (simp [*]; done)), H', ⟨by have := HJ1.out; have := HK2.out; first | omega | exact Nat.le_refl _⟩, ⟨by (with_reducible repeat (first | refine blk_drewN ?_ _ | refine blk_drew ?_ | refine blk_alloc ?_ _)); exact BK112.out⟩, ⟨by (with_reducible repeat (first | refine blk_drewN ?_ _ | refine blk_drew ?_ | refine blk_alloc ?_ _)); exact BK123.out⟩, ⟨by repeat (first | (with_reducible first | exact HB.out | apply below_alloc | apply pw_below_drewN | apply below_drew1 | refine below_set ?_ GE112.out | refine below_set ?_ GE123.out) | exact HB.out)⟩⟩
          ·rw [if_neg c40] at H
           have c40b0 : (((rd_T44 l0_5 x34_2).f1) == 0) = false := beq_eq_false_iff_ne.mpr c40
           have c40b1 : (((rd_T44 l0_5 x34_2).f1) != 0) = true := bne_iff_ne.mpr c40
           (first | rw [c40b0] | (simp only [i64_w, i32_w]; rw [c40b0]) | skip)
           by_cases c43 : x34_2 > 0
           ·rw [if_pos c43] at H
            have c43b0 : decide (0 < x34_2) = true := decide_eq_true c43
            clear c43
            obtain ⟨ji44, hji44⟩ : ∃ j_ : Int, (wrap64 (x34_2 - 1)) = j_ := ⟨_, rfl⟩
            replace H : (if 0 ≤ (ji44) then (if (ji44) < (l0_5.length : Int) then ((channel_order.f ((rd_T44 l0_5 (ji44)).f0) ((rd_T44 l0_5 (ji44)).f1) ((rd_T44 l0_5 x34_2).f0)).bind fun t125 => (channel_sums.j2 k2 x2_2 l0_5 (l0_5.length : Int) x34_2 (decide (t125 ≥ 0)) a0_0 a0_1 a0_2 a0_3 a0_4 l0_5 a0_6 ((rd_T44 l0_5 x34_2).f0) ((rd_T44 l0_5 x34_2).f1))) else (none)) else (none)) = some (r1, r2, r3) := by first | (rw [hji44] at H; exact H) | (simp only [hji44] at H ⊢; exact H)
            have hji44w : (IntKind.i64.wrap (x34_2 - 1)) = ji44 := (i64_w _).trans hji44
            by_cases c45 : 0 ≤ (ji44)
            ·rw [if_pos c45] at H
             have c45b0 : decide (0 ≤ (ji44)) = true := decide_eq_true c45
             clear c45
             by_cases c46 : (ji44) < (l0_5.length : Int)
             ·rw [if_pos c46] at H
              have c46b0 : decide ((ji44) < (l0_5.length : Int)) = true := decide_eq_true c46
              clear c46
              replace H := Option.bind_eq_some_iff.mp H
              obtain ⟨t125, A470, H⟩ := H
              replace H : (channel_sums.j2 k2 x2_2 l0_5 (l0_5.length : Int) x34_2 (decide (t125 ≥ 0)) a0_0 a0_1 a0_2 a0_3 a0_4 l0_5 a0_6 ((rd_T44 l0_5 x34_2).f0) ((rd_T44 l0_5 x34_2).f1)) = some (r1, r2, r3) := H
              have A47 := Aside0.mk A470
              clear A470
              have H' := Aside0.mk H
              clear H
              try go_wp2
              have n0_ : Aside0 (((w37.setCell ⟨gb123, 0, none⟩ (.int .u64 ((rd_T44 l0_5 x34_2).f0))).setCell ⟨gb123, 1, none⟩ (.int .u64 ((rd_T44 l0_5 x34_2).f1))).heap[gb112]? = some (.cells #[.int .u64 a0_0, .int .u64 a0_1, .int .u64 a0_2, .int .u64 a0_3, .int .u64 a0_4, .slice (some ad122) l0_5.length c0_5, .bool a0_6] 25 (0, 0))) := ⟨by (with_reducible repeat (first | refine blk_drewN ?_ _ | refine blk_drew ?_ | refine blk_alloc ?_ _)); refine blk_far ?_ NB112_123.out _; (with_reducible repeat (first | refine blk_drewN ?_ _ | refine blk_drew ?_ | refine blk_alloc ?_ _)); refine blk_far ?_ NB112_123.out _; (with_reducible repeat (first | refine blk_drewN ?_ _ | refine blk_drew ?_ | refine blk_alloc ?_ _)); exact BK112.out⟩
              have n1_ : Aside0 (((w37.setCell ⟨gb123, 0, none⟩ (.int .u64 ((rd_T44 l0_5 x34_2).f0))).setCell ⟨gb123, 1, none⟩ (.int .u64 ((rd_T44 l0_5 x34_2).f1))).heap[gb123]? = some (.cells #[.int .u64 ((rd_T44 l0_5 x34_2).f0), .int .u64 ((rd_T44 l0_5 x34_2).f1)] 44 (0, 0))) := ⟨by (with_reducible repeat (first | refine blk_drewN ?_ _ | refine blk_drew ?_ | refine blk_alloc ?_ _)); refine blk_put (cs := #[.int .u64 ((rd_T44 l0_5 x34_2).f0), .int .u64 0]) ?_ 1 _ rfl; refine blk_put (cs := #[.int .u64 0, .int .u64 0]) ?_ 0 _ rfl; (with_reducible repeat (first | refine blk_drewN ?_ _ | refine blk_drew ?_ | refine blk_alloc ?_ _)); exact BK123.out⟩
              have n2_ : Aside0 (Below w.heap.size w ((w37.setCell ⟨gb123, 0, none⟩ (.int .u64 ((rd_T44 l0_5 x34_2).f0))).setCell ⟨gb123, 1, none⟩ (.int .u64 ((rd_T44 l0_5 x34_2).f1)))) := ⟨by repeat (first | (with_reducible first | exact HB.out | apply below_alloc | apply pw_below_drewN | apply below_drew1 | refine below_set ?_ GE112.out | refine below_set ?_ GE123.out) | exact HB.out)⟩
              (try clear BK112)
              (try clear BK123)
              (try clear HB)
              generalize ((w37.setCell ⟨gb123, 0, none⟩ (.int .u64 ((rd_T44 l0_5 x34_2).f0))).setCell ⟨gb123, 1, none⟩ (.int .u64 ((rd_T44 l0_5 x34_2).f1))) = w48 at n0_ n1_ n2_ ⊢
              have BK112 := n0_
              have BK123 := n1_
              have HB := n2_
              clear n0_ n1_ n2_
              have n0_ := Aside0.mk (blk_drew BK112.out)
              have n1_ := Aside0.mk (blk_drew BK123.out)
              have n2_ := Aside0.mk (below_drew1 HB.out)
              clear BK112
              clear BK123
              clear HB
              have BK112 := n0_
              have BK123 := n1_
              have HB := n2_
              clear n0_ n1_ n2_
              have p124 : 0 ≤ ((ji44) : Int) := of_decide_eq_true (by first | (with_reducible assumption) | assumption)
              have q124 : (ji44) < (l0_5.length : Int) := of_decide_eq_true (by first | (with_reducible assumption) | assumption)
              obtain ⟨ad124, e124, hx124_0, hx124_1⟩ := at_T44 HR0_5.out (ji44) p124 q124
              have hw124_1 := hx124_1
              have hw124_0 := hx124_0
              obtain rfl : ad122 = ad124 := (by injection e124)
              replace hx124_0 := (HB.out.cell (World.block_lt_of_cell? w _ hx124_0)).trans hx124_0
              replace hx124_1 := (HB.out.cell (World.block_lt_of_cell? w _ hx124_1)).trans hx124_1
              replace p124 := eq_true p124
              replace q124 := eq_true q124
              refine start_ (n := 19) (S := fun w' => w'.cell? ⟨gb123, 0, none⟩ = some (.int .u64 ((rd_T44 l0_5 x34_2).f0)) ∧ w'.cell? ⟨gb123, 1, none⟩ = some (.int .u64 ((rd_T44 l0_5 x34_2).f1)) ∧ w'.cell? ⟨gb112, 0, none⟩ = some (.int .u64 a0_0) ∧ w'.cell? ⟨gb112, 1, none⟩ = some (.int .u64 a0_1) ∧ w'.cell? ⟨gb112, 2, none⟩ = some (.int .u64 a0_2) ∧ w'.cell? ⟨gb112, 3, none⟩ = some (.int .u64 a0_3) ∧ w'.cell? ⟨gb112, 4, none⟩ = some (.int .u64 a0_4) ∧ w'.cell? ⟨gb112, 5, none⟩ = some (.slice (some ad122) l0_5.length c0_5) ∧ w'.cell? ⟨gb112, 6, none⟩ = some (.bool a0_6) ∧ w'.cell? (ad122.add (((ji44)).toNat * 2)) = some (.int .u64 ((rd_T44 l0_5 (ji44)).f0)) ∧ w'.cell? ⟨(ad122.add (((ji44)).toNat * 2)).block, (ad122.add (((ji44)).toNat * 2)).off + 1, none⟩ = some (.int .u64 ((rd_T44 l0_5 (ji44)).f1))) (ds := []) #[false, false, false, false, false, false, false, false, false, false, false, false, false, false, false, false, false, false, false] (by kernel_rfl) rfl rfl ⟨(blk_cell BK123.out 0).trans rfl, (blk_cell BK123.out 1).trans rfl, (blk_cell BK112.out 0).trans rfl, (blk_cell BK112.out 1).trans rfl, (blk_cell BK112.out 2).trans rfl, (blk_cell BK112.out 3).trans rfl, (blk_cell BK112.out 4).trans rfl, (blk_cell BK112.out 5).trans rfl, (blk_cell BK112.out 6).trans rfl, ((HB.out.cell (World.block_lt_of_cell? w _ hw124_0)).trans hw124_0), ((HB.out.cell (World.block_lt_of_cell? w _ hw124_1)).trans hw124_1)⟩ (fun hHeld => ?_); refine with_tabW channel_sums.tab6 channel_sums.bits6 (fun HT_ HW_ => ?_)
              generalize w48.drew = w49 at BK112 BK123 HB hx124_0 hx124_1 hHeld ⊢
              refine pureA_ 0 39 (bm 19 1) ?_
              refine take_ (i := 1) (N := some 40) (v := ?_) (a' := ?_) #[true, true, false, false, false, false, false, false, false, false, false, false, false, false, false, false, false, false, false] rfl rfl (take_ofW HT_.out HW_.out (by kernel_rfl)) (fun _ _ _ h => h) (Or.inl ⟨by rfl, ?_⟩) hHeld ?_ ?_
              rotate_left
              ·rintro w' ⟨s0, s1, s2, s3, s4, s5, s6, s7, s8, s9, s10⟩
               go_simp
               with_reducible rfl
              rotate_left
              ·simp only [Act.put, List.setIfInBounds_toArray, List.set_cons_zero, List.set_cons_succ, i64_w, i32_w]
               rfl
              refine pureA_ 2 41 (bm 19 7) ?_
              refine pureA_ 3 42 (bm 19 15) ?_
              refine pureA_ 4 43 (bm 19 31) ?_
              refine pureA_ 5 44 (bm 19 63) ?_
              refine pureA_ 6 45 (bm 19 127) ?_
              refine pureA_ 7 46 (bm 19 255) ?_
              refine pureA_ 9 48 (bm 19 767) ?_
              refine pureA_ 10 49 (bm 19 1791) ?_
              refine pureA_ 13 52 (bm 19 9983) ?_
              refine take_ (i := 8) (N := some 47) (v := ?_) (a' := ?_) #[true, true, true, true, true, true, true, true, true, true, true, false, false, true, false, false, false, false, false] rfl rfl (take_ofW HT_.out HW_.out (by kernel_rfl)) (fun _ _ _ h => h) (Or.inl ⟨by rfl, ?_⟩) hHeld ?_ ?_
              rotate_left
              ·rintro w' ⟨s0, s1, s2, s3, s4, s5, s6, s7, s8, s9, s10⟩
               go_simp
               with_reducible rfl
              rotate_left
              ·simp only [Act.put, List.setIfInBounds_toArray, List.set_cons_zero, List.set_cons_succ, i64_w, i32_w]
               rfl
              refine pureA_ 11 50 (bm 19 12287) ?_
              refine take_ (i := 12) (N := some 51) (v := ?_) (a' := ?_) #[true, true, true, true, true, true, true, true, true, true, true, true, true, true, false, false, false, false, false] rfl rfl (take_ofW HT_.out HW_.out (by kernel_rfl)) (fun _ _ _ h => h) (Or.inl ⟨by rfl, ?_⟩) hHeld ?_ ?_
              rotate_left
              ·rintro w' ⟨s0, s1, s2, s3, s4, s5, s6, s7, s8, s9, s10⟩
               go_simp
               with_reducible rfl
              rotate_left
              ·simp only [Act.put, List.setIfInBounds_toArray, List.set_cons_zero, List.set_cons_succ, i64_w, i32_w]
               rfl
              refine take_ (i := 14) (N := some 53) (v := ?_) (a' := ?_) #[true, true, true, true, true, true, true, true, true, true, true, true, true, true, true, false, false, false, false] rfl rfl (take_ofW HT_.out HW_.out (by kernel_rfl)) (fun _ _ _ h => h) (Or.inl ⟨by rfl, ?_⟩) hHeld ?_ ?_
              rotate_left
              ·rintro w' ⟨s0, s1, s2, s3, s4, s5, s6, s7, s8, s9, s10⟩
               go_simp
               with_reducible rfl
              rotate_left
              ·simp only [Act.put, List.setIfInBounds_toArray, List.set_cons_zero, List.set_cons_succ, i64_w, i32_w]
               rfl
              refine one_ (i := 15) (N := some 54) #[true, true, true, true, true, true, true, true, true, true, true, true, true, true, true, true, false, false, false] rfl rfl (one_of HT_.out (by kernel_rfl)) (by decide) (fun K hK => ?_)
              refine goes_ Try.func86 (by kernel_rfl) rfl #[.agg #[.int .u64 ((rd_T44 l0_5 (ji44)).f0), .int .u64 ((rd_T44 l0_5 (ji44)).f1)], .int .u64 ((rd_T44 l0_5 x34_2).f0)] (by rfl) rfl rfl (by (try simp only [List.map_toArray, List.map_cons, List.map_nil]); first | done | (simp only [hji44]; rfl) | rfl | (simp only [List.length_drop, List.length_take]; rfl)) ?_
              with_reducible refine (channel_order.calls ((rd_T44 l0_5 (ji44)).f0) ((rd_T44 l0_5 (ji44)).f1) ((rd_T44 l0_5 x34_2).f0) t125 _ A47.out).mono ?_
              rintro e w50 ⟨rfl, hb⟩
              refine ⟨_, rfl, ?_⟩
              have n0_ := Aside0.mk (blk_below (g := gb112) (blkN BK112) hb)
              have n1_ := Aside0.mk (blk_below (g := gb123) (blkN BK123) hb)
              have n2_ := Aside0.mk (below_step (belN HB) hb)
              clear BK112
              clear BK123
              clear HB
              have BK112 := n0_
              have BK123 := n1_
              have HB := n2_
              clear n0_ n1_ n2_
              (try clear hb)
              (try clear hb2)
              (try clear hk)
              (try clear hi)
              refine hK.out _ _ ⟨(blk_cell BK123.out 0).trans rfl, (blk_cell BK123.out 1).trans rfl, (blk_cell BK112.out 0).trans rfl, (blk_cell BK112.out 1).trans rfl, (blk_cell BK112.out 2).trans rfl, (blk_cell BK112.out 3).trans rfl, (blk_cell BK112.out 4).trans rfl, (blk_cell BK112.out 5).trans rfl, (blk_cell BK112.out 6).trans rfl, ((HB.out.cell (World.block_lt_of_cell? w _ hw124_0)).trans hw124_0), ((HB.out.cell (World.block_lt_of_cell? w _ hw124_1)).trans hw124_1)⟩ (fun hHeld => ?_)
              clear hK K
              refine norm_ (a' := ?_) ?_ ?_
              rotate_left
              ·show Act.put _ (some 54) _ = _
               simp only [Act.put, List.setIfInBounds_toArray, List.set_cons_zero, List.set_cons_succ, i64_w, i32_w]
               rfl
              refine pureA_ 16 55 (bm 19 131071) ?_
              refine pureA_ 17 56 (bm 19 262143) ?_
              refine pureA_ 18 57 (bm 19 524287) ?_
              refine done_ (done_of HT_.out (by kernel_rfl)) ?_
              try go_wp2
              go_meet
              case rel => exact ⟨_, (decide (t125 ≥ 0)), (by first | rfl | (simp; done) | (simp [*]; done)), H', ⟨by have := HJ1.out; have := HK2.out; first | omega | exact Nat.le_refl _⟩, ⟨by (with_reducible repeat (first | refine blk_drewN ?_ _ | refine blk_drew ?_ | refine blk_alloc ?_ _)); exact BK112.out⟩, ⟨by (with_reducible repeat (first | refine blk_drewN ?_ _ | refine blk_drew ?_ | refine blk_alloc ?_ _)); exact BK123.out⟩, ⟨by repeat (first | (with_reducible first | exact HB.out | apply below_alloc | apply pw_below_drewN | apply below_drew1 | refine below_set ?_ GE112.out | refine below_set ?_ GE123.out) | exact HB.out)⟩⟩
             ·rw [if_neg c46] at H
              exact absurd H (by simp)
            ·rw [if_neg c45] at H
             exact absurd H (by simp)
           ·rw [if_neg c43] at H
            have c43b0 : decide (0 < x34_2) = false := decide_eq_false c43
            clear c43
            have H' := Aside0.mk H
            clear H
            try go_wp2
            have n0_ : Aside0 (((w37.setCell ⟨gb123, 0, none⟩ (.int .u64 ((rd_T44 l0_5 x34_2).f0))).setCell ⟨gb123, 1, none⟩ (.int .u64 ((rd_T44 l0_5 x34_2).f1))).heap[gb112]? = some (.cells #[.int .u64 a0_0, .int .u64 a0_1, .int .u64 a0_2, .int .u64 a0_3, .int .u64 a0_4, .slice (some ad122) l0_5.length c0_5, .bool a0_6] 25 (0, 0))) := ⟨by (with_reducible repeat (first | refine blk_drewN ?_ _ | refine blk_drew ?_ | refine blk_alloc ?_ _)); refine blk_far ?_ NB112_123.out _; (with_reducible repeat (first | refine blk_drewN ?_ _ | refine blk_drew ?_ | refine blk_alloc ?_ _)); refine blk_far ?_ NB112_123.out _; (with_reducible repeat (first | refine blk_drewN ?_ _ | refine blk_drew ?_ | refine blk_alloc ?_ _)); exact BK112.out⟩
            have n1_ : Aside0 (((w37.setCell ⟨gb123, 0, none⟩ (.int .u64 ((rd_T44 l0_5 x34_2).f0))).setCell ⟨gb123, 1, none⟩ (.int .u64 ((rd_T44 l0_5 x34_2).f1))).heap[gb123]? = some (.cells #[.int .u64 ((rd_T44 l0_5 x34_2).f0), .int .u64 ((rd_T44 l0_5 x34_2).f1)] 44 (0, 0))) := ⟨by (with_reducible repeat (first | refine blk_drewN ?_ _ | refine blk_drew ?_ | refine blk_alloc ?_ _)); refine blk_put (cs := #[.int .u64 ((rd_T44 l0_5 x34_2).f0), .int .u64 0]) ?_ 1 _ rfl; refine blk_put (cs := #[.int .u64 0, .int .u64 0]) ?_ 0 _ rfl; (with_reducible repeat (first | refine blk_drewN ?_ _ | refine blk_drew ?_ | refine blk_alloc ?_ _)); exact BK123.out⟩
            have n2_ : Aside0 (Below w.heap.size w ((w37.setCell ⟨gb123, 0, none⟩ (.int .u64 ((rd_T44 l0_5 x34_2).f0))).setCell ⟨gb123, 1, none⟩ (.int .u64 ((rd_T44 l0_5 x34_2).f1)))) := ⟨by repeat (first | (with_reducible first | exact HB.out | apply below_alloc | apply pw_below_drewN | apply below_drew1 | refine below_set ?_ GE112.out | refine below_set ?_ GE123.out) | exact HB.out)⟩
            (try clear BK112)
            (try clear BK123)
            (try clear HB)
            generalize ((w37.setCell ⟨gb123, 0, none⟩ (.int .u64 ((rd_T44 l0_5 x34_2).f0))).setCell ⟨gb123, 1, none⟩ (.int .u64 ((rd_T44 l0_5 x34_2).f1))) = w51 at n0_ n1_ n2_ ⊢
            have BK112 := n0_
            have BK123 := n1_
            have HB := n2_
            clear n0_ n1_ n2_
            have n0_ := Aside0.mk (blk_drew BK112.out)
            have n1_ := Aside0.mk (blk_drew BK123.out)
            have n2_ := Aside0.mk (below_drew1 HB.out)
            clear BK112
            clear BK123
            clear HB
            have BK112 := n0_
            have BK123 := n1_
            have HB := n2_
            clear n0_ n1_ n2_
            refine start_ (n := 19) (S := fun w' => w'.cell? ⟨gb123, 0, none⟩ = some (.int .u64 ((rd_T44 l0_5 x34_2).f0)) ∧ w'.cell? ⟨gb123, 1, none⟩ = some (.int .u64 ((rd_T44 l0_5 x34_2).f1))) (ds := []) #[false, false, false, false, false, false, false, false, false, false, false, false, false, false, false, false, false, false, false] (by kernel_rfl) rfl rfl ⟨(blk_cell BK123.out 0).trans rfl, (blk_cell BK123.out 1).trans rfl⟩ (fun hHeld => ?_); refine with_tabW channel_sums.tab6 channel_sums.bits6 (fun HT_ HW_ => ?_)
            generalize w51.drew = w52 at BK112 BK123 HB hHeld ⊢
            refine pureA_ 0 39 (bm 19 1) ?_
            refine take_ (i := 1) (N := some 40) (v := ?_) (a' := ?_) #[true, true, false, false, false, false, false, false, false, false, false, false, false, false, false, false, false, false, false] rfl rfl (take_ofW HT_.out HW_.out (by kernel_rfl)) (fun _ _ _ h => h) (Or.inl ⟨by rfl, ?_⟩) hHeld ?_ ?_
            rotate_left
            ·rintro w' ⟨s0, s1⟩
             go_simp
             with_reducible rfl
            rotate_left
            ·simp only [Act.put, List.setIfInBounds_toArray, List.set_cons_zero, List.set_cons_succ, i64_w, i32_w]
             rfl
            refine pureA_ 2 41 (bm 19 7) ?_
            refine pureA_ 3 42 (bm 19 15) ?_
            refine pureA_ 4 43 (bm 19 31) ?_
            refine pureA_ 5 44 (bm 19 63) ?_
            refine pureA_ 6 45 (bm 19 127) ?_
            refine pureU_ 7 46 (bm 19 255) ?_
            refine pureU_ 8 47 (bm 19 511) ?_
            refine pureU_ 9 48 (bm 19 1023) ?_
            refine pureU_ 10 49 (bm 19 2047) ?_
            refine pureU_ 11 50 (bm 19 4095) ?_
            refine pureU_ 12 51 (bm 19 8191) ?_
            refine pureU_ 13 52 (bm 19 16383) ?_
            refine pureU_ 14 53 (bm 19 32767) ?_
            refine pureU_ 15 54 (bm 19 65535) ?_
            refine pureU_ 16 55 (bm 19 131071) ?_
            refine pureA_ 17 56 (bm 19 262143) ?_
            refine pureA_ 18 57 (bm 19 524287) ?_
            refine done_ (done_of HT_.out (by kernel_rfl)) ?_
            try go_wp2
            go_meet
            case rel => exact ⟨_, (false), (by first | rfl | (simp; done) | (simp [*]; done)), H', ⟨by have := HJ1.out; have := HK2.out; first | omega | exact Nat.le_refl _⟩, ⟨by (with_reducible repeat (first | refine blk_drewN ?_ _ | refine blk_drew ?_ | refine blk_alloc ?_ _)); exact BK112.out⟩, ⟨by (with_reducible repeat (first | refine blk_drewN ?_ _ | refine blk_drew ?_ | refine blk_alloc ?_ _)); exact BK123.out⟩, ⟨by repeat (first | (with_reducible first | exact HB.out | apply below_alloc | apply pw_below_drewN | apply below_drew1 | refine below_set ?_ GE112.out | refine below_set ?_ GE123.out) | exact HB.out)⟩⟩
         case rest =>
          clear HC36
          try clear p1
          try clear q1
          try clear hx1
          try clear p2
          try clear c3
          try clear c4
          try clear p6
          try clear c8
          try clear p12
          try clear q12
          try clear hx12
          try clear c33
          try clear c33b0
          try clear c34
          try clear c34b0
          try clear c35
          try clear c35b0
          try clear c38
          try clear c40
          try clear c40b0
          try clear c40b1
          try clear c43
          try clear c43b0
          try clear c45
          try clear c45b0
          try clear c46
          try clear c46b0
          try clear hcz39_0
          try clear hcz39_1
          try clear hfz14_2
          try clear hfz14_3
          try clear hfz14_4
          try clear hfz14_5
          try clear hfz14_6
          try clear hfz19_0
          try clear hfz19_1
          try clear hfz19_2
          try clear hfz19_3
          try clear hfz19_4
          try clear hfz19_5
          try clear hfz19_6
          try clear hfz20_0
          try clear hfz20_1
          try clear hfz20_2
          try clear hfz20_3
          try clear hfz20_4
          try clear hfz20_5
          try clear hfz20_6
          try clear hfz25_0
          try clear hfz25_1
          try clear hfz25_2
          try clear hfz25_3
          try clear hfz25_4
          try clear hfz25_5
          try clear hfz25_6
          try clear hfz26_0
          try clear hfz26_1
          try clear hfz26_2
          try clear hfz26_3
          try clear hfz26_4
          try clear hfz26_5
          try clear hfz26_6
          try clear hfz32_0
          try clear hfz32_1
          try clear hfz32_2
          try clear hfz32_3
          try clear hfz32_4
          try clear hfz32_5
          try clear hfz32_6
          try clear hfz39_0
          try clear hfz39_1
          try clear hfz7_0
          try clear hfz7_1
          try clear hfz7_2
          try clear hfz7_3
          try clear hfz7_4
          try clear hfz7_5
          try clear hfz7_6
          try clear hx122_0
          try clear hx122_1
          try clear hx124_0
          try clear hx124_1
          try clear p122
          try clear p124
          try clear p2
          try clear q122
          try clear q124
          obtain ⟨kq, x57_35, rfl, HA, HJ35, BK112, BK123, HB⟩ := hcut
          cases kq with
          | zero => exact absurd HA.out (by simp [channel_sums.j2])
          | succ kj35 =>
           have H := HA.out
           clear HA
           simp only [channel_sums.j2] at H
           by_cases c53 : x57_35 = true
           ·subst c53
            have H1 : (some (0, 0, 1)) = some (r1, r2, r3) := by rw [if_pos rfl] at H; exact H
            clear H
            have H := H1
            clear H1
            simp only [Option.some.injEq, Prod.mk.injEq] at H
            obtain ⟨rfl, rfl, rfl⟩ := H
            go_wp2
            go_ret3
            exact ⟨by first | rfl | (simp [errW_none, errW_some] <;> rfl) | (simp [*, errW_none, errW_some] <;> rfl), by repeat (first | (with_reducible first | exact HB.out | apply below_alloc | apply pw_below_drewN | apply below_drew1 | refine below_set ?_ GE112.out | refine below_set ?_ GE123.out) | exact HB.out)⟩
           ·replace c53 := Bool.eq_false_iff.mpr c53
            subst c53
            have H1 : ((money_Add.f kj35 (([x2_2, ((rd_T44 l0_5 x34_2).f1)] : List Int))).bind fun bt129 => (if bt129.2 = 0 then (if bt129.1 > a0_4 then (some (0, 0, 1)) else (channel_sums.l0 kj35 bt129.1 l0_5 (l0_5.length : Int) (wrap64 (x34_2 + 1)) a0_0 a0_1 a0_2 a0_3 a0_4 l0_5 a0_6)) else (some (0, 0, 1)))) = some (r1, r2, r3) := by rw [if_neg (show ¬ (false = true) by decide)] at H; exact H
            clear H
            have H := H1
            clear H1
            obtain ⟨y126, hy126⟩ : ∃ y_ : List Int, y_ = (([x2_2, ((rd_T44 l0_5 x34_2).f1)] : List Int)) := ⟨_, rfl⟩
            replace H : ((money_Add.f kj35 y126).bind fun bt129 => (if bt129.2 = 0 then (if bt129.1 > a0_4 then (some (0, 0, 1)) else (channel_sums.l0 kj35 bt129.1 l0_5 (l0_5.length : Int) (wrap64 (x34_2 + 1)) a0_0 a0_1 a0_2 a0_3 a0_4 l0_5 a0_6)) else (some (0, 0, 1)))) = some (r1, r2, r3) := by first | (rw [hy126]; with_reducible exact H) | (have H2_ := (Option.bind_some _ _).symm.trans H; rw [hy126]; with_reducible exact H2_) | (have H2_ := (Option.bind_some _ _).symm.trans H; with_reducible exact H2_) | with_reducible exact H | (rw [hy126]; exact H) | exact H
            have Ny126 := Aside0.mk hy126
            clear hy126
            replace H := Option.bind_eq_some_iff.mp H
            obtain ⟨⟨t129, t130⟩, A540, H⟩ := H
            replace H : (if t130 = 0 then (if t129 > a0_4 then (some (0, 0, 1)) else (channel_sums.l0 kj35 t129 l0_5 (l0_5.length : Int) (wrap64 (x34_2 + 1)) a0_0 a0_1 a0_2 a0_3 a0_4 l0_5 a0_6)) else (some (0, 0, 1))) = some (r1, r2, r3) := H
            have A54 := Aside0.mk A540
            clear A540
            by_cases c55 : t130 = 0
            ·rw [if_pos c55] at H
             have c55b0 : (t130 == 0) = true := beq_iff_eq.mpr c55
             have c55b1 : (t130 != 0) = false := bne_eq_false_iff_eq.mpr c55
             clear c55
             by_cases c56 : t129 > a0_4
             ·rw [if_pos c56] at H
              have c56b0 : decide (a0_4 < t129) = true := decide_eq_true c56
              clear c56
              simp only [Option.some.injEq, Prod.mk.injEq] at H
              obtain ⟨rfl, rfl, rfl⟩ := H
              have hnb57 := NB123_112.out
              have hnc57 := NB112_123.out
              obtain ⟨hcz58_0, hcz58_1, hfz58_0, hfz58_1⟩ := cz2_ (w := wc) BK123.out
              go_wp2_with (first | ((with_reducible refine gate_dst (N := 62) rfl ?_); (try (refine gate_guard (by rfl) ?_; dsimp only)); refine Kd.R_lit (Kd.int .u64) _ 22 ?hg (N := 62) ?hd (xs := ([x2_2, ((rd_T44 l0_5 x34_2).f1)] : List Int)) (inner := [.int .u64 x2_2, .int .u64 ((rd_T44 l0_5 x34_2).f1)]) (ok := fun _ => True) (okp := fun _ => True) ?hr ?hp (fun _ hk => hk) trivial (Below.refl _ _) (Nat.le_refl _) (by simp) ?_; (case hd => rfl); (case hg => rfl); (case hr => first | (go_simp; done) | (go_simp; rfl)); (case hp => exact (Reps.one (show Kd.M (Kd.int .u64) _ _ _ x2_2 [.int .u64 x2_2] from rfl) (Reps.one (show Kd.M (Kd.int .u64) _ _ _ ((rd_T44 l0_5 x34_2).f1) [.int .u64 ((rd_T44 l0_5 x34_2).f1)] from rfl) (Reps.none _ _)))); intro v127 w59 ho60 hb hg_ hnew_; clear hg_ hnew_; (first | rw [← Ny126.out] at ho60 | (simp only [Int.reduceToNat] at ho60; rw [← Ny126.out] at ho60)); have n0_ := Aside0.mk (Kd.R_lower ho60 (below_size (belN HB))); have n1_ := Aside0.mk (blk_below (g := gb112) (blkN BK112) hb); have n2_ := Aside0.mk (blk_below (g := gb123) (blkN BK123) hb); have n3_ := Aside0.mk (below_step (belN HB) hb); clear BK112; clear BK123; clear HB; have HO128 := n0_; have BK112 := n1_; have BK123 := n2_; have HB := n3_; clear n0_ n1_ n2_ n3_; clear hb ho60; obtain ⟨Ao61, co61, eo61⟩ := Kd.R_slice HO128.out; subst eo61) | ((with_reducible refine gate_callee (f := 124) rfl ?_); refine goesL_ (some 63) rfl rfl Try.func124 (by kernel_rfl) rfl #[.slice Ao61 y126.length co61] rfl (by (try simp only [List.map_toArray, List.map_cons, List.map_nil]); first | done | rfl | (simp only [List.length_drop, List.length_take]; rfl)) ?_; (with_reducible refine (money_Add.calls kj35 _ _ y126 t129 t130 _ ?side1 ?side2 A54.out).mono ?_); (case side1 => exact Kd.CN (Kd.R_reads' HO128.out).2.2); (case side2 => exact (Kd.R_reads' HO128.out).2.1); rintro e w62 ⟨rfl, hb⟩; refine ⟨_, rfl, ?_⟩; have n0_ := Aside0.mk (Kd.R_below (Kd.RN HO128) hb); have n1_ := Aside0.mk (blk_below (g := gb112) (blkN BK112) hb); have n2_ := Aside0.mk (blk_below (g := gb123) (blkN BK123) hb); have n3_ := Aside0.mk (below_step (belN HB) hb); clear HO128; clear BK112; clear BK123; clear HB; have HO128 := n0_; have BK112 := n1_; have BK123 := n2_; have HB := n3_; clear n0_ n1_ n2_ n3_; (try clear hb); (try clear hb2); (try clear hk); (try clear hi); obtain ⟨hcz63_0, hcz63_1, hcz63_2, hcz63_3, hcz63_4, hcz63_5, hcz63_6, hfz63_0, hfz63_1, hfz63_2, hfz63_3, hfz63_4, hfz63_5, hfz63_6⟩ := cz7_ (w := w62) BK112.out))
              go_ret3
              exact ⟨by first | rfl | (simp [errW_none, errW_some] <;> rfl) | (simp [*, errW_none, errW_some] <;> rfl), by repeat (first | (with_reducible first | exact HB.out | apply below_alloc | apply pw_below_drewN | apply below_drew1 | refine below_set ?_ GE112.out | refine below_set ?_ GE123.out) | exact HB.out)⟩
             ·rw [if_neg c56] at H
              have c56b0 : decide (a0_4 < t129) = false := decide_eq_false c56
              clear c56
              have H' := Aside0.mk H
              clear H
              have hnb64 := NB123_112.out
              have hnc64 := NB112_123.out
              obtain ⟨hcz65_0, hcz65_1, hfz65_0, hfz65_1⟩ := cz2_ (w := wc) BK123.out
              go_wp2_with (first | ((with_reducible refine gate_dst (N := 62) rfl ?_); (try (refine gate_guard (by rfl) ?_; dsimp only)); refine Kd.R_lit (Kd.int .u64) _ 22 ?hg (N := 62) ?hd (xs := ([x2_2, ((rd_T44 l0_5 x34_2).f1)] : List Int)) (inner := [.int .u64 x2_2, .int .u64 ((rd_T44 l0_5 x34_2).f1)]) (ok := fun _ => True) (okp := fun _ => True) ?hr ?hp (fun _ hk => hk) trivial (Below.refl _ _) (Nat.le_refl _) (by simp) ?_; (case hd => rfl); (case hg => rfl); (case hr => first | (go_simp; done) | (go_simp; rfl)); (case hp => exact (Reps.one (show Kd.M (Kd.int .u64) _ _ _ x2_2 [.int .u64 x2_2] from rfl) (Reps.one (show Kd.M (Kd.int .u64) _ _ _ ((rd_T44 l0_5 x34_2).f1) [.int .u64 ((rd_T44 l0_5 x34_2).f1)] from rfl) (Reps.none _ _)))); intro v127 w66 ho67 hb hg_ hnew_; clear hg_ hnew_; (first | rw [← Ny126.out] at ho67 | (simp only [Int.reduceToNat] at ho67; rw [← Ny126.out] at ho67)); have n0_ := Aside0.mk (Kd.R_lower ho67 (below_size (belN HB))); have n1_ := Aside0.mk (blk_below (g := gb112) (blkN BK112) hb); have n2_ := Aside0.mk (blk_below (g := gb123) (blkN BK123) hb); have n3_ := Aside0.mk (below_step (belN HB) hb); clear BK112; clear BK123; clear HB; have HO128 := n0_; have BK112 := n1_; have BK123 := n2_; have HB := n3_; clear n0_ n1_ n2_ n3_; clear hb ho67; obtain ⟨Ao68, co68, eo68⟩ := Kd.R_slice HO128.out; subst eo68) | ((with_reducible refine gate_callee (f := 124) rfl ?_); refine goesL_ (some 63) rfl rfl Try.func124 (by kernel_rfl) rfl #[.slice Ao68 y126.length co68] rfl (by (try simp only [List.map_toArray, List.map_cons, List.map_nil]); first | done | rfl | (simp only [List.length_drop, List.length_take]; rfl)) ?_; (with_reducible refine (money_Add.calls kj35 _ _ y126 t129 t130 _ ?side1 ?side2 A54.out).mono ?_); (case side1 => exact Kd.CN (Kd.R_reads' HO128.out).2.2); (case side2 => exact (Kd.R_reads' HO128.out).2.1); rintro e w69 ⟨rfl, hb⟩; refine ⟨_, rfl, ?_⟩; have n0_ := Aside0.mk (Kd.R_below (Kd.RN HO128) hb); have n1_ := Aside0.mk (blk_below (g := gb112) (blkN BK112) hb); have n2_ := Aside0.mk (blk_below (g := gb123) (blkN BK123) hb); have n3_ := Aside0.mk (below_step (belN HB) hb); clear HO128; clear BK112; clear BK123; clear HB; have HO128 := n0_; have BK112 := n1_; have BK123 := n2_; have HB := n3_; clear n0_ n1_ n2_ n3_; (try clear hb); (try clear hb2); (try clear hk); (try clear hi); obtain ⟨hcz70_0, hcz70_1, hcz70_2, hcz70_3, hcz70_4, hcz70_5, hcz70_6, hfz70_0, hfz70_1, hfz70_2, hfz70_3, hfz70_4, hfz70_5, hfz70_6⟩ := cz7_ (w := w69) BK112.out))
              go_roundg kj35
              case measure => have := HJ1.out; have := HK2.out; have := HJ35.out; omega
              case rel => exact ⟨(t129), (wrap64 (x34_2 + 1)), (by first | rfl | (simp; done) | (simp [*]; done)), (by first | rfl | (simp; done) | (simp [*]; done)), H', ⟨by have := HJ1.out; have := HK2.out; have := HJ35.out; omega⟩, ⟨by (with_reducible repeat (first | refine blk_drewN ?_ _ | refine blk_drew ?_ | refine blk_alloc ?_ _)); exact BK112.out⟩, ⟨by repeat (first | (with_reducible first | exact HB.out | apply below_alloc | apply pw_below_drewN | apply below_drew1 | refine below_set ?_ GE112.out | refine below_set ?_ GE123.out) | exact HB.out)⟩⟩
            ·rw [if_neg c55] at H
             have c55b0 : (t130 == 0) = false := beq_eq_false_iff_ne.mpr c55
             have c55b1 : (t130 != 0) = true := bne_iff_ne.mpr c55
             simp only [Option.some.injEq, Prod.mk.injEq] at H
             obtain ⟨rfl, rfl, rfl⟩ := H
             have hnb71 := NB123_112.out
             have hnc71 := NB112_123.out
             obtain ⟨hcz72_0, hcz72_1, hfz72_0, hfz72_1⟩ := cz2_ (w := wc) BK123.out
             go_wp2_with (first | ((with_reducible refine gate_dst (N := 62) rfl ?_); (try (refine gate_guard (by rfl) ?_; dsimp only)); refine Kd.R_lit (Kd.int .u64) _ 22 ?hg (N := 62) ?hd (xs := ([x2_2, ((rd_T44 l0_5 x34_2).f1)] : List Int)) (inner := [.int .u64 x2_2, .int .u64 ((rd_T44 l0_5 x34_2).f1)]) (ok := fun _ => True) (okp := fun _ => True) ?hr ?hp (fun _ hk => hk) trivial (Below.refl _ _) (Nat.le_refl _) (by simp) ?_; (case hd => rfl); (case hg => rfl); (case hr => first | (go_simp; done) | (go_simp; rfl)); (case hp => exact (Reps.one (show Kd.M (Kd.int .u64) _ _ _ x2_2 [.int .u64 x2_2] from rfl) (Reps.one (show Kd.M (Kd.int .u64) _ _ _ ((rd_T44 l0_5 x34_2).f1) [.int .u64 ((rd_T44 l0_5 x34_2).f1)] from rfl) (Reps.none _ _)))); intro v127 w73 ho74 hb hg_ hnew_; clear hg_ hnew_; (first | rw [← Ny126.out] at ho74 | (simp only [Int.reduceToNat] at ho74; rw [← Ny126.out] at ho74)); have n0_ := Aside0.mk (Kd.R_lower ho74 (below_size (belN HB))); have n1_ := Aside0.mk (blk_below (g := gb112) (blkN BK112) hb); have n2_ := Aside0.mk (blk_below (g := gb123) (blkN BK123) hb); have n3_ := Aside0.mk (below_step (belN HB) hb); clear BK112; clear BK123; clear HB; have HO128 := n0_; have BK112 := n1_; have BK123 := n2_; have HB := n3_; clear n0_ n1_ n2_ n3_; clear hb ho74; obtain ⟨Ao75, co75, eo75⟩ := Kd.R_slice HO128.out; subst eo75) | ((with_reducible refine gate_callee (f := 124) rfl ?_); refine goesL_ (some 63) rfl rfl Try.func124 (by kernel_rfl) rfl #[.slice Ao75 y126.length co75] rfl (by (try simp only [List.map_toArray, List.map_cons, List.map_nil]); first | done | rfl | (simp only [List.length_drop, List.length_take]; rfl)) ?_; (with_reducible refine (money_Add.calls kj35 _ _ y126 t129 t130 _ ?side1 ?side2 A54.out).mono ?_); (case side1 => exact Kd.CN (Kd.R_reads' HO128.out).2.2); (case side2 => exact (Kd.R_reads' HO128.out).2.1); rintro e w76 ⟨rfl, hb⟩; refine ⟨_, rfl, ?_⟩; have n0_ := Aside0.mk (Kd.R_below (Kd.RN HO128) hb); have n1_ := Aside0.mk (blk_below (g := gb112) (blkN BK112) hb); have n2_ := Aside0.mk (blk_below (g := gb123) (blkN BK123) hb); have n3_ := Aside0.mk (below_step (belN HB) hb); clear HO128; clear BK112; clear BK123; clear HB; have HO128 := n0_; have BK112 := n1_; have BK123 := n2_; have HB := n3_; clear n0_ n1_ n2_ n3_; (try clear hb); (try clear hb2); (try clear hk); (try clear hi)))
             go_ret3
             exact ⟨by first | rfl | (simp [errW_none, errW_some] <;> rfl) | (simp [*, errW_none, errW_some] <;> rfl), by repeat (first | (with_reducible first | exact HB.out | apply below_alloc | apply pw_below_drewN | apply below_drew1 | refine below_set ?_ GE112.out | refine below_set ?_ GE123.out) | exact HB.out)⟩
        ·rw [if_neg c35] at H
         exact absurd H (by simp)
       ·rw [if_neg c34] at H
        exact absurd H (by simp)
      ·rw [if_neg c33] at H
       have c33b0 : decide (x34_2 < (l0_5.length : Int)) = false := decide_eq_false c33
       clear c33
       obtain ⟨y117, hy117⟩ : ∃ y_ : List Int, y_ = (([x2_2, a0_1, a0_2] : List Int)) := ⟨_, rfl⟩
       replace H : ((money_Add.f k2 y117).bind fun bt120 => (if bt120.2 = 0 then (some (x2_2, bt120.1, 0)) else (some (0, 0, 1)))) = some (r1, r2, r3) := by first | (rw [hy117]; with_reducible exact H) | (have H2_ := (Option.bind_some _ _).symm.trans H; rw [hy117]; with_reducible exact H2_) | (have H2_ := (Option.bind_some _ _).symm.trans H; with_reducible exact H2_) | with_reducible exact H | (rw [hy117]; exact H) | exact H
       have Ny117 := Aside0.mk hy117
       clear hy117
       replace H := Option.bind_eq_some_iff.mp H
       obtain ⟨⟨t120, t121⟩, A770, H⟩ := H
       replace H : (if t121 = 0 then (some (x2_2, t120, 0)) else (some (0, 0, 1))) = some (r1, r2, r3) := H
       have A77 := Aside0.mk A770
       clear A770
       by_cases c78 : t121 = 0
       ·rw [if_pos c78] at H
        have c78b0 : (t121 == 0) = true := beq_iff_eq.mpr c78
        have c78b1 : (t121 != 0) = false := bne_eq_false_iff_eq.mpr c78
        clear c78
        simp only [Option.some.injEq, Prod.mk.injEq] at H
        obtain ⟨rfl, rfl, rfl⟩ := H
        obtain ⟨hcz79_0, hcz79_1, hcz79_2, hcz79_3, hcz79_4, hcz79_5, hcz79_6, hfz79_0, hfz79_1, hfz79_2, hfz79_3, hfz79_4, hfz79_5, hfz79_6⟩ := cz7_ (w := wr) BK112.out
        go_wp2_with (first | ((with_reducible refine gate_dst (N := 81) rfl ?_); (try (refine gate_guard (by rfl) ?_; dsimp only)); refine Kd.R_lit (Kd.int .u64) _ 22 ?hg (N := 81) ?hd (xs := ([x2_2, a0_1, a0_2] : List Int)) (inner := [.int .u64 x2_2, .int .u64 a0_1, .int .u64 a0_2]) (ok := fun _ => True) (okp := fun _ => True) ?hr ?hp (fun _ hk => hk) trivial (Below.refl _ _) (Nat.le_refl _) (by simp) ?_; (case hd => rfl); (case hg => rfl); (case hr => first | (go_simp; done) | (go_simp; rfl)); (case hp => exact (Reps.one (show Kd.M (Kd.int .u64) _ _ _ x2_2 [.int .u64 x2_2] from rfl) (Reps.one (show Kd.M (Kd.int .u64) _ _ _ a0_1 [.int .u64 a0_1] from rfl) (Reps.one (show Kd.M (Kd.int .u64) _ _ _ a0_2 [.int .u64 a0_2] from rfl) (Reps.none _ _))))); intro v118 w80 ho81 hb hg_ hnew_; clear hg_ hnew_; (first | rw [← Ny117.out] at ho81 | (simp only [Int.reduceToNat] at ho81; rw [← Ny117.out] at ho81)); have n0_ := Aside0.mk (Kd.R_lower ho81 (below_size (belN HB))); have n1_ := Aside0.mk (blk_below (g := gb112) (blkN BK112) hb); have n2_ := Aside0.mk (below_step (belN HB) hb); clear BK112; clear HB; have HO119 := n0_; have BK112 := n1_; have HB := n2_; clear n0_ n1_ n2_; clear hb ho81; obtain ⟨Ao82, co82, eo82⟩ := Kd.R_slice HO119.out; subst eo82) | ((with_reducible refine gate_callee (f := 124) rfl ?_); refine goesL_ (some 82) rfl rfl Try.func124 (by kernel_rfl) rfl #[.slice Ao82 y117.length co82] rfl (by (try simp only [List.map_toArray, List.map_cons, List.map_nil]); first | done | rfl | (simp only [List.length_drop, List.length_take]; rfl)) ?_; (with_reducible refine (money_Add.calls k2 _ _ y117 t120 t121 _ ?side1 ?side2 A77.out).mono ?_); (case side1 => exact Kd.CN (Kd.R_reads' HO119.out).2.2); (case side2 => exact (Kd.R_reads' HO119.out).2.1); rintro e w83 ⟨rfl, hb⟩; refine ⟨_, rfl, ?_⟩; have n0_ := Aside0.mk (Kd.R_below (Kd.RN HO119) hb); have n1_ := Aside0.mk (blk_below (g := gb112) (blkN BK112) hb); have n2_ := Aside0.mk (below_step (belN HB) hb); clear HO119; clear BK112; clear HB; have HO119 := n0_; have BK112 := n1_; have HB := n2_; clear n0_ n1_ n2_; (try clear hb); (try clear hb2); (try clear hk); (try clear hi)))
        go_ret3
        exact ⟨by first | rfl | (simp [errW_none, errW_some] <;> rfl) | (simp [*, errW_none, errW_some] <;> rfl), by repeat (first | (with_reducible first | exact HB.out | apply below_alloc | apply pw_below_drewN | apply below_drew1 | refine below_set ?_ GE112.out) | exact HB.out)⟩
       ·rw [if_neg c78] at H
        have c78b0 : (t121 == 0) = false := beq_eq_false_iff_ne.mpr c78
        have c78b1 : (t121 != 0) = true := bne_iff_ne.mpr c78
        simp only [Option.some.injEq, Prod.mk.injEq] at H
        obtain ⟨rfl, rfl, rfl⟩ := H
        obtain ⟨hcz84_0, hcz84_1, hcz84_2, hcz84_3, hcz84_4, hcz84_5, hcz84_6, hfz84_0, hfz84_1, hfz84_2, hfz84_3, hfz84_4, hfz84_5, hfz84_6⟩ := cz7_ (w := wr) BK112.out
        go_wp2_with (first | ((with_reducible refine gate_dst (N := 81) rfl ?_); (try (refine gate_guard (by rfl) ?_; dsimp only)); refine Kd.R_lit (Kd.int .u64) _ 22 ?hg (N := 81) ?hd (xs := ([x2_2, a0_1, a0_2] : List Int)) (inner := [.int .u64 x2_2, .int .u64 a0_1, .int .u64 a0_2]) (ok := fun _ => True) (okp := fun _ => True) ?hr ?hp (fun _ hk => hk) trivial (Below.refl _ _) (Nat.le_refl _) (by simp) ?_; (case hd => rfl); (case hg => rfl); (case hr => first | (go_simp; done) | (go_simp; rfl)); (case hp => exact (Reps.one (show Kd.M (Kd.int .u64) _ _ _ x2_2 [.int .u64 x2_2] from rfl) (Reps.one (show Kd.M (Kd.int .u64) _ _ _ a0_1 [.int .u64 a0_1] from rfl) (Reps.one (show Kd.M (Kd.int .u64) _ _ _ a0_2 [.int .u64 a0_2] from rfl) (Reps.none _ _))))); intro v118 w85 ho86 hb hg_ hnew_; clear hg_ hnew_; (first | rw [← Ny117.out] at ho86 | (simp only [Int.reduceToNat] at ho86; rw [← Ny117.out] at ho86)); have n0_ := Aside0.mk (Kd.R_lower ho86 (below_size (belN HB))); have n1_ := Aside0.mk (blk_below (g := gb112) (blkN BK112) hb); have n2_ := Aside0.mk (below_step (belN HB) hb); clear BK112; clear HB; have HO119 := n0_; have BK112 := n1_; have HB := n2_; clear n0_ n1_ n2_; clear hb ho86; obtain ⟨Ao87, co87, eo87⟩ := Kd.R_slice HO119.out; subst eo87) | ((with_reducible refine gate_callee (f := 124) rfl ?_); refine goesL_ (some 82) rfl rfl Try.func124 (by kernel_rfl) rfl #[.slice Ao87 y117.length co87] rfl (by (try simp only [List.map_toArray, List.map_cons, List.map_nil]); first | done | rfl | (simp only [List.length_drop, List.length_take]; rfl)) ?_; (with_reducible refine (money_Add.calls k2 _ _ y117 t120 t121 _ ?side1 ?side2 A77.out).mono ?_); (case side1 => exact Kd.CN (Kd.R_reads' HO119.out).2.2); (case side2 => exact (Kd.R_reads' HO119.out).2.1); rintro e w88 ⟨rfl, hb⟩; refine ⟨_, rfl, ?_⟩; have n0_ := Aside0.mk (Kd.R_below (Kd.RN HO119) hb); have n1_ := Aside0.mk (blk_below (g := gb112) (blkN BK112) hb); have n2_ := Aside0.mk (below_step (belN HB) hb); clear HO119; clear BK112; clear HB; have HO119 := n0_; have BK112 := n1_; have HB := n2_; clear n0_ n1_ n2_; (try clear hb); (try clear hb2); (try clear hk); (try clear hi)))
        go_ret3
        exact ⟨by first | rfl | (simp [errW_none, errW_some] <;> rfl) | (simp [*, errW_none, errW_some] <;> rfl), by repeat (first | (with_reducible first | exact HB.out | apply below_alloc | apply pw_below_drewN | apply below_drew1 | refine below_set ?_ GE112.out) | exact HB.out)⟩

end Go.Proofs.Ytcfbcoinbecdfaa.P
