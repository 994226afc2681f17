-- written by a program of this session (wip/print)
import Derived.Test.YtcfbcoinbecdfaaQLdoesx0
import Derived.Test.YtcfbcoinbecdfaaQLdoesx2
namespace Go.Proofs.Ytcfbcoinbecdfaa.P
open Go.RowKit Go.Proofs.YtcfbcoinbecdfaaW.PrintWords Go.Proofs.YtcfbcoinbecdfaaW.PrintLast Go.Proofs.YtcfbcoinbecdfaaW.PrintMore
attribute [local go_sem] max2_int min2_int max_two min_two max_three min_three max_four min_four run_sub64_   -- for this text's walks alone
set_option linter.unusedVariables false
set_option linter.unusedSimpArgs false

/-! ### channel_sums: function 83 -/
mutual
def channel_sums.j0 : Nat → Int → Bool → Int → Int → Int → Int → Int → List (S44) → Bool → Option (Int × Int × Int)
 | 0, _, _, _, _, _, _, _, _, _ => none
 | k + 1, x2, x30, x111000, x111001, x111002, x111003, x111004, x111005, x111006 => if x30 = true then (some (0, 0, 1)) else (channel_sums.l0 k x2 x111005 (x111005.length : Int) 0 x111000 x111001 x111002 x111003 x111004 x111005 x111006)
def channel_sums.l0 : Nat → Int → List (S44) → Int → Int → Int → Int → Int → Int → Int → List (S44) → Bool → Option (Int × Int × Int)
 | 0, _, _, _, _, _, _, _, _, _, _, _ => none
 | k + 1, x2, x32, x33, x34, x111000, x111001, x111002, x111003, x111004, x111005, x111006 => if x34 < x33 then (if 0 ≤ x34 then (if x34 < (x32.length : Int) then (if ((rd_T44 x32 x34).f1) = 0 then (channel_sums.j2 k x2 x32 x33 x34 true x111000 x111001 x111002 x111003 x111004 x111005 x111006 ((rd_T44 x32 x34).f0) ((rd_T44 x32 x34).f1)) else (if x34 > 0 then (if 0 ≤ (wrap64 (x34 - 1)) then (if (wrap64 (x34 - 1)) < (x111005.length : Int) then ((channel_order.f ((rd_T44 x111005 (wrap64 (x34 - 1))).f0) ((rd_T44 x111005 (wrap64 (x34 - 1))).f1) ((rd_T44 x32 x34).f0)).bind fun t123 => (channel_sums.j2 k x2 x32 x33 x34 (decide (t123 ≥ 0)) x111000 x111001 x111002 x111003 x111004 x111005 x111006 ((rd_T44 x32 x34).f0) ((rd_T44 x32 x34).f1))) else (none)) else (none)) else (channel_sums.j2 k x2 x32 x33 x34 false x111000 x111001 x111002 x111003 x111004 x111005 x111006 ((rd_T44 x32 x34).f0) ((rd_T44 x32 x34).f1)))) else (none)) else (none)) else ((money_Add.f k (([x2, x111001, x111002] : List Int))).bind fun bt118 => (if bt118.2 = 0 then (some (x2, bt118.1, 0)) else (some (0, 0, 1))))
def channel_sums.j2 : Nat → Int → List (S44) → Int → Int → Bool → Int → Int → Int → Int → Int → List (S44) → Bool → Int → Int → Option (Int × Int × Int)
 | 0, _, _, _, _, _, _, _, _, _, _, _, _, _, _ => none
 | k + 1, x2, x32, x33, x34, x57, x111000, x111001, x111002, x111003, x111004, x111005, x111006, x122000, x122001 => if x57 = true then (some (0, 0, 1)) else ((money_Add.f k (([x2, x122001] : List Int))).bind fun bt127 => (if bt127.2 = 0 then (if bt127.1 > x111004 then (some (0, 0, 1)) else (channel_sums.l0 k bt127.1 x32 x33 (wrap64 (x34 + 1)) x111000 x111001 x111002 x111003 x111004 x111005 x111006)) else (some (0, 0, 1))))
end
def channel_sums.f (k : Nat) (a0_0 : Int) (a0_1 : Int) (a0_2 : Int) (a0_3 : Int) (a0_4 : Int) (l0_5 : List (S44)) (a0_6 : Bool) : Option (Int × Int × Int) := (money_Check.f k (([a0_3, a0_4] : List Int))).bind fun t114 => (if t114 = 0 then (if (l0_5.length : Int) > 64 then (channel_sums.j0 k 0 true a0_0 a0_1 a0_2 a0_3 a0_4 l0_5 a0_6) else (if a0_6 = true then (channel_sums.j0 k 0 false a0_0 a0_1 a0_2 a0_3 a0_4 l0_5 a0_6) else (channel_sums.j0 k 0 (decide ((l0_5.length : Int) > 0)) a0_0 a0_1 a0_2 a0_3 a0_4 l0_5 a0_6))) else (channel_sums.j0 k 0 true a0_0 a0_1 a0_2 a0_3 a0_4 l0_5 a0_6))
theorem channel_sums.mono_l : ∀ k, (∀ y0 y1 y2 y3 y4 y5 y6 y7 y8, LeO (channel_sums.j0 k y0 y1 y2 y3 y4 y5 y6 y7 y8) (channel_sums.j0 (k + 1) y0 y1 y2 y3 y4 y5 y6 y7 y8)) ∧ (∀ y0 y1 y2 y3 y4 y5 y6 y7 y8 y9 y10, LeO (channel_sums.l0 k y0 y1 y2 y3 y4 y5 y6 y7 y8 y9 y10) (channel_sums.l0 (k + 1) y0 y1 y2 y3 y4 y5 y6 y7 y8 y9 y10)) ∧ (∀ y0 y1 y2 y3 y4 y5 y6 y7 y8 y9 y10 y11 y12 y13, LeO (channel_sums.j2 k y0 y1 y2 y3 y4 y5 y6 y7 y8 y9 y10 y11 y12 y13) (channel_sums.j2 (k + 1) y0 y1 y2 y3 y4 y5 y6 y7 y8 y9 y10 y11 y12 y13))
 | 0 => ⟨fun _ _ _ _ _ _ _ _ _ r h => by simp [channel_sums.j0] at h, fun _ _ _ _ _ _ _ _ _ _ _ r h => by simp [channel_sums.l0] at h, fun _ _ _ _ _ _ _ _ _ _ _ _ _ _ r h => by simp [channel_sums.j2] at h⟩
 | k + 1 => by
  obtain ⟨ih0, ih1, ih2⟩ := channel_sums.mono_l k
  refine ⟨?_, ?_, ?_⟩
  ·intro y0 y1 y2 y3 y4 y5 y6 y7 y8
   unfold channel_sums.j0
   repeat' first
   | (with_reducible exact ih1 _ _ _ _ _ _ _ _ _ _ _)
   | (with_reducible exact LeO.refl _)
   | (with_reducible refine LeO.ite ?_ ?_)
   | exact ih0 _ _ _ _ _ _ _ _ _
   | exact ih1 _ _ _ _ _ _ _ _ _ _ _
   | exact ih2 _ _ _ _ _ _ _ _ _ _ _ _ _ _
   | exact money_Add.mono _ _
   | exact money_Check.mono _ _
   | exact LeO.none _
   | refine LeO.ite ?_ ?_
   | refine LeO.bind ?_ (fun _ => ?_)
  ·intro y0 y1 y2 y3 y4 y5 y6 y7 y8 y9 y10
   unfold channel_sums.l0
   repeat' first
   | (with_reducible exact ih2 _ _ _ _ _ _ _ _ _ _ _ _ _ _)
   | (with_reducible exact money_Add.mono _ _)
   | (with_reducible exact LeO.refl _)
   | (with_reducible refine LeO.ite ?_ ?_)
   | (with_reducible refine LeO.bind ?_ (fun _ => ?_))
   | exact ih0 _ _ _ _ _ _ _ _ _
   | exact ih1 _ _ _ _ _ _ _ _ _ _ _
   | exact ih2 _ _ _ _ _ _ _ _ _ _ _ _ _ _
   | exact money_Add.mono _ _
   | exact money_Check.mono _ _
   | exact LeO.none _
   | refine LeO.ite ?_ ?_
   | refine LeO.bind ?_ (fun _ => ?_)
  ·intro y0 y1 y2 y3 y4 y5 y6 y7 y8 y9 y10 y11 y12 y13
   unfold channel_sums.j2
   repeat' first
   | (with_reducible exact ih1 _ _ _ _ _ _ _ _ _ _ _)
   | (with_reducible exact money_Add.mono _ _)
   | (with_reducible exact LeO.refl _)
   | (with_reducible refine LeO.ite ?_ ?_)
   | (with_reducible refine LeO.bind ?_ (fun _ => ?_))
   | exact ih0 _ _ _ _ _ _ _ _ _
   | exact ih1 _ _ _ _ _ _ _ _ _ _ _
   | exact ih2 _ _ _ _ _ _ _ _ _ _ _ _ _ _
   | exact money_Add.mono _ _
   | exact money_Check.mono _ _
   | exact LeO.none _
   | refine LeO.ite ?_ ?_
   | refine LeO.bind ?_ (fun _ => ?_)
theorem channel_sums.mono : ∀ a0 a1 a2 a3 a4 a5 a6 k, LeO (channel_sums.f k a0 a1 a2 a3 a4 a5 a6) (channel_sums.f (k + 1) a0 a1 a2 a3 a4 a5 a6) := by
 intro a0 a1 a2 a3 a4 a5 a6 k
 obtain ⟨ih0, ih1, ih2⟩ := channel_sums.mono_l k
 unfold channel_sums.f
 repeat' first
   | (with_reducible exact ih0 _ _ _ _ _ _ _ _ _)
   | (with_reducible exact money_Check.mono _ _)
   | (with_reducible refine LeO.ite ?_ ?_)
   | (with_reducible refine LeO.bind ?_ (fun _ => ?_))
   | exact ih0 _ _ _ _ _ _ _ _ _
   | exact ih1 _ _ _ _ _ _ _ _ _ _ _
   | exact ih2 _ _ _ _ _ _ _ _ _ _ _ _ _ _
   | exact money_Add.mono _ _
   | exact money_Check.mono _ _
   | exact LeO.none _
   | refine LeO.ite ?_ ?_
   | refine LeO.bind ?_ (fun _ => ?_)
def channel_sums.T6 : Bool × List (List Nat × List Nat) := (true, [([], []), ([0], [0]), ([1], [1]), ([2], [2]), ([3], [3]), ([4, 3], [3, 4]), ([5, 3, 3], [3, 5]), ([6], [6]), ([7, 6], [6, 7]), ([6], [6]), ([9, 6], [6, 9]), ([8, 10, 6], [6, 8, 10]), ([11, 6], [6, 11]), ([6], [6]), ([13, 6], [6, 13]), ([12, 14, 6, 6], [6, 12, 14]), ([15, 6], [6, 15]), ([6, 16, 3], [3, 6, 16]), ([3, 17], [3, 17])])
def channel_sums.B6 : List Nat := [0, 1, 3, 7, 15, 31, 63, 127, 255, 127, 639, 2047, 4095, 127, 8319, 32767, 65535, 131071, 262143]
theorem channel_sums.tab6 : rtab .any (opsOf Try.f83 6) = channel_sums.T6 := by kernel_rfl
theorem channel_sums.bits6 : waitsOk channel_sums.T6.2 channel_sums.B6 = true := by kernel_rfl
set_option maxHeartbeats 8000000 in
set_option maxRecDepth 100000 in
theorem channel_sums.calls (k : Nat) (a0_0 : Int) (a0_1 : Int) (a0_2 : Int) (a0_3 : Int) (a0_4 : Int) (A0_5 : Option Addr) (c0_5 : Nat) (l0_5 : List (S44)) (a0_6 : Bool) (r1 : Int) (r2 : Int) (r3 : Int) (w : World) (hr0_5 : Kd.C k44 w A0_5 l0_5.length l0_5) (hc0_5 : l0_5.length ≤ c0_5) (h : channel_sums.f k a0_0 a0_1 a0_2 a0_3 a0_4 l0_5 a0_6 = some (r1, r2, r3)) :
  Calls Try.prog 83 #[.agg #[.int .u64 a0_0, .int .u64 a0_1, .int .u64 a0_2, .int .u64 a0_3, .int .u64 a0_4, .slice A0_5 l0_5.length c0_5, .bool a0_6]] w fun e w' => e = .returned (.tuple #[.int .u64 r1, .int .u64 r2, .int .i64 r3]) ∧ Below w.heap.size w w' := by
 have hu25 := Try.underlying25
 have hu44 := Try.underlying44
 have HR0_5 := aM_ hr0_5
 have HC0_5 := aM_ hc0_5
 clear hr0_5 hc0_5
 have HB := aM_ (Below.refl w.heap.size w)
 have H : ((money_Check.f k (([a0_3, a0_4] : List Int))).bind fun t114 => (if t114 = 0 then (if (l0_5.length : Int) > 64 then (channel_sums.j0 k 0 true a0_0 a0_1 a0_2 a0_3 a0_4 l0_5 a0_6) else (if a0_6 = true then (channel_sums.j0 k 0 false a0_0 a0_1 a0_2 a0_3 a0_4 l0_5 a0_6) else (channel_sums.j0 k 0 (decide ((l0_5.length : Int) > 0)) a0_0 a0_1 a0_2 a0_3 a0_4 l0_5 a0_6))) else (channel_sums.j0 k 0 true a0_0 a0_1 a0_2 a0_3 a0_4 l0_5 a0_6))) = some (r1, r2, r3) := h
 clear h
 have HC2 := aM_ H
 clear H
 go_enter Try.func83, Try.ntmps83
 go_upto_region 1 with ((((with_reducible refine gate_dst (N := 1) rfl ?_); (try (refine gate_guard (by rfl) ?_; dsimp only)); refine box_event ?hg (N := 1) ?hd (cs := #[.int .u64 a0_0, .int .u64 a0_1, .int .u64 a0_2, .int .u64 a0_3, .int .u64 a0_4, .slice A0_5 l0_5.length c0_5, .bool a0_6]) (t := 25) ?hr ?_; (case hd => rfl); (case hg => rfl); (case hr => ((go_simp; done))); intro gb110 hg w3 hbox hb; have BK110 := aM_ (hbox); have GW110 := aM_ (geN HB hg); have GE110 := aM_ (geN HB hg); replace HB := bsA_ HB hb; clear hb hbox hg)))
 go_cut [30] (fun v30 wc => ∃ (kq : Nat) (x30_1 : Bool), v30 = .bool x30_1 ∧ Aside0 (channel_sums.j0 kq 0 x30_1 a0_0 a0_1 a0_2 a0_3 a0_4 l0_5 a0_6 = some (r1, r2, r3)) ∧ Aside0 (kq ≤ k) ∧ Aside0 (wc.heap[gb110]? = some (.cells #[.int .u64 a0_0, .int .u64 a0_1, .int .u64 a0_2, .int .u64 a0_3, .int .u64 a0_4, (.slice A0_5 l0_5.length c0_5), .bool a0_6] 25 (0, 0))) ∧ Aside0 (Below w.heap.size w wc))
 case first =>
  have H := HC2.out
  clear HC2
  obtain ⟨y111, hy111⟩ : ∃ y_ : List Int, y_ = (([a0_3, a0_4] : List Int)) := ⟨_, rfl⟩
  replace H : ((money_Check.f k y111).bind fun t114 => (if t114 = 0 then (if (l0_5.length : Int) > 64 then (channel_sums.j0 k 0 true a0_0 a0_1 a0_2 a0_3 a0_4 l0_5 a0_6) else (if a0_6 = true then (channel_sums.j0 k 0 false a0_0 a0_1 a0_2 a0_3 a0_4 l0_5 a0_6) else (channel_sums.j0 k 0 (decide ((l0_5.length : Int) > 0)) a0_0 a0_1 a0_2 a0_3 a0_4 l0_5 a0_6))) else (channel_sums.j0 k 0 true a0_0 a0_1 a0_2 a0_3 a0_4 l0_5 a0_6))) = some (r1, r2, r3) := by ((rw [hy111]; with_reducible exact H))
  have Ny111 := aM_ hy111
  clear hy111
  replace H := oB_ H
  obtain ⟨t114, A40, H⟩ := H
  replace H : (if t114 = 0 then (if (l0_5.length : Int) > 64 then (channel_sums.j0 k 0 true a0_0 a0_1 a0_2 a0_3 a0_4 l0_5 a0_6) else (if a0_6 = true then (channel_sums.j0 k 0 false a0_0 a0_1 a0_2 a0_3 a0_4 l0_5 a0_6) else (channel_sums.j0 k 0 (decide ((l0_5.length : Int) > 0)) a0_0 a0_1 a0_2 a0_3 a0_4 l0_5 a0_6))) else (channel_sums.j0 k 0 true a0_0 a0_1 a0_2 a0_3 a0_4 l0_5 a0_6)) = some (r1, r2, r3) := H
  have A4 := aM_ A40
  clear A40
  by_cases c5 : t114 = 0
  ·rw [if_pos c5] at H
   have c5b0 : (t114 == 0) = true := beq_iff_eq.mpr c5
   have c5b1 : (t114 != 0) = false := bne_eq_false_iff_eq.mpr c5
   clear c5
   ((skip))
   by_cases c6 : (l0_5.length : Int) > 64
   ·rw [if_pos c6] at H
    have c6b0 : decide (64 < (l0_5.length : Int)) = true := decide_eq_true c6
    have c6b1 : decide (64 < l0_5.length) = true := decide_eq_true (by omega)
    clear c6
    have H' := aM_ H
    clear H
    obtain ⟨hcz7_0, hcz7_1, hcz7_2, hcz7_3, hcz7_4, hcz7_5, hcz7_6, hfz7_0, hfz7_1, hfz7_2, hfz7_3, hfz7_4, hfz7_5, hfz7_6⟩ := cz7_ (w := w3) BK110.out
    go_wp2_with (first | ((with_reducible refine gate_dst (N := 11) rfl ?_); (try (refine gate_guard (by rfl) ?_; dsimp only)); refine Kd.R_lit (Kd.int .u64) _ 22 ?hg (N := 11) ?hd (xs := ([a0_3, a0_4] : List Int)) (inner := [.int .u64 a0_3, .int .u64 a0_4]) (ok := fun _ => True) (okp := fun _ => True) ?hr ?hp (fun _ hk => hk) trivial (Below.refl _ _) (Nat.le_refl _) (by simp) ?_; (case hd => rfl); (case hg => rfl); (case hr => ((go_simp; done))); (case hp => exact (Reps.one (show Kd.M (Kd.int .u64) _ _ _ a0_3 [.int .u64 a0_3] from rfl) (Reps.one (show Kd.M (Kd.int .u64) _ _ _ a0_4 [.int .u64 a0_4] from rfl) (Reps.none _ _)))); intro v112 w8 ho9 hb hg_ hnew_; clear hg_ hnew_; ((rw [← Ny111.out] at ho9)); have HO113 := aM_ (Kd.R_lower ho9 (below_size (belN HB))); replace BK110 := bbA_ BK110 hb; replace HB := bsA_ HB hb; clear hb ho9; obtain ⟨Ao10, co10, eo10⟩ := Kd.R_slice HO113.out; subst eo10) | ((with_reducible refine gate_callee (f := 87) rfl ?_); refine gL_ 12 Try.func87 #[.slice Ao10 y111.length co10] ?_; (with_reducible refine (money_Check.calls k _ _ y111 t114 _ ?side1 ?side2 A4.out).mono ?_); (case side1 => exact Kd.CN (Kd.R_reads' HO113.out).2.2); (case side2 => exact (Kd.R_reads' HO113.out).2.1); rintro e w11 ⟨rfl, hb⟩; refine ⟨_, rfl, ?_⟩; replace HO113 := aM_ (Kd.R_below (Kd.RN HO113) hb); replace BK110 := bbA_ BK110 hb; replace HB := bsA_ HB hb; (try clear hb); obtain ⟨hcz12_0, hcz12_1, hcz12_2, hcz12_3, hcz12_4, hcz12_5, hcz12_6, hfz12_0, hfz12_1, hfz12_2, hfz12_3, hfz12_4, hfz12_5, hfz12_6⟩ := cz7_ (w := w11) BK110.out))
    go_meet
    case rel => exact ⟨_, (true), (by (rfl)), H', ⟨by (omega)⟩, ⟨by exact BK110.out⟩, ⟨by repeat (((with_reducible (exact HB.out))))⟩⟩
   ·rw [if_neg c6] at H
    have c6b0 : decide (64 < (l0_5.length : Int)) = false := decide_eq_false c6
    have c6b1 : decide (64 < l0_5.length) = false := decide_eq_false (by omega)
    clear c6
    by_cases c13 : a0_6 = true
    ·subst c13
     have H1 : (channel_sums.j0 k 0 false a0_0 a0_1 a0_2 a0_3 a0_4 l0_5 true) = some (r1, r2, r3) := by rw [if_pos rfl] at H; exact H
     clear H
     have H := H1
     clear H1
     have H' := aM_ H
     clear H
     obtain ⟨hcz14_0, hcz14_1, hcz14_2, hcz14_3, hcz14_4, hcz14_5, hcz14_6, hfz14_0, hfz14_1, hfz14_2, hfz14_3, hfz14_4, hfz14_5, hfz14_6⟩ := cz7_ (w := w3) BK110.out
     go_wp2_with (first | ((with_reducible refine gate_dst (N := 11) rfl ?_); (try (refine gate_guard (by rfl) ?_; dsimp only)); refine Kd.R_lit (Kd.int .u64) _ 22 ?hg (N := 11) ?hd (xs := ([a0_3, a0_4] : List Int)) (inner := [.int .u64 a0_3, .int .u64 a0_4]) (ok := fun _ => True) (okp := fun _ => True) ?hr ?hp (fun _ hk => hk) trivial (Below.refl _ _) (Nat.le_refl _) (by simp) ?_; (case hd => rfl); (case hg => rfl); (case hr => ((go_simp; done))); (case hp => exact (Reps.one (show Kd.M (Kd.int .u64) _ _ _ a0_3 [.int .u64 a0_3] from rfl) (Reps.one (show Kd.M (Kd.int .u64) _ _ _ a0_4 [.int .u64 a0_4] from rfl) (Reps.none _ _)))); intro v112 w15 ho16 hb hg_ hnew_; clear hg_ hnew_; ((rw [← Ny111.out] at ho16)); have HO113 := aM_ (Kd.R_lower ho16 (below_size (belN HB))); replace BK110 := bbA_ BK110 hb; replace HB := bsA_ HB hb; clear hb ho16; obtain ⟨Ao17, co17, eo17⟩ := Kd.R_slice HO113.out; subst eo17) | ((with_reducible refine gate_callee (f := 87) rfl ?_); refine gL_ 12 Try.func87 #[.slice Ao17 y111.length co17] ?_; (with_reducible refine (money_Check.calls k _ _ y111 t114 _ ?side1 ?side2 A4.out).mono ?_); (case side1 => exact Kd.CN (Kd.R_reads' HO113.out).2.2); (case side2 => exact (Kd.R_reads' HO113.out).2.1); rintro e w18 ⟨rfl, hb⟩; refine ⟨_, rfl, ?_⟩; replace HO113 := aM_ (Kd.R_below (Kd.RN HO113) hb); replace BK110 := bbA_ BK110 hb; replace HB := bsA_ HB hb; (try clear hb); obtain ⟨hcz19_0, hcz19_1, hcz19_2, hcz19_3, hcz19_4, hcz19_5, hcz19_6, hfz19_0, hfz19_1, hfz19_2, hfz19_3, hfz19_4, hfz19_5, hfz19_6⟩ := cz7_ (w := w18) BK110.out))
     go_meet
     case rel => exact ⟨_, (false), (by (rfl)), H', ⟨by (omega)⟩, ⟨by exact BK110.out⟩, ⟨by repeat (((with_reducible (exact HB.out))))⟩⟩
    ·replace c13 := Bool.eq_false_iff.mpr c13
     subst c13
     have H1 : (channel_sums.j0 k 0 (decide ((l0_5.length : Int) > 0)) a0_0 a0_1 a0_2 a0_3 a0_4 l0_5 false) = some (r1, r2, r3) := by rw [if_neg (show ¬ (false = true) by decide)] at H; exact H
     clear H
     have H := H1
     clear H1
     have H' := aM_ H
     clear H
     obtain ⟨hcz20_0, hcz20_1, hcz20_2, hcz20_3, hcz20_4, hcz20_5, hcz20_6, hfz20_0, hfz20_1, hfz20_2, hfz20_3, hfz20_4, hfz20_5, hfz20_6⟩ := cz7_ (w := w3) BK110.out
     go_wp2_with (first | ((with_reducible refine gate_dst (N := 11) rfl ?_); (try (refine gate_guard (by rfl) ?_; dsimp only)); refine Kd.R_lit (Kd.int .u64) _ 22 ?hg (N := 11) ?hd (xs := ([a0_3, a0_4] : List Int)) (inner := [.int .u64 a0_3, .int .u64 a0_4]) (ok := fun _ => True) (okp := fun _ => True) ?hr ?hp (fun _ hk => hk) trivial (Below.refl _ _) (Nat.le_refl _) (by simp) ?_; (case hd => rfl); (case hg => rfl); (case hr => ((go_simp; done))); (case hp => exact (Reps.one (show Kd.M (Kd.int .u64) _ _ _ a0_3 [.int .u64 a0_3] from rfl) (Reps.one (show Kd.M (Kd.int .u64) _ _ _ a0_4 [.int .u64 a0_4] from rfl) (Reps.none _ _)))); intro v112 w21 ho22 hb hg_ hnew_; clear hg_ hnew_; ((rw [← Ny111.out] at ho22)); have HO113 := aM_ (Kd.R_lower ho22 (below_size (belN HB))); replace BK110 := bbA_ BK110 hb; replace HB := bsA_ HB hb; clear hb ho22; obtain ⟨Ao23, co23, eo23⟩ := Kd.R_slice HO113.out; subst eo23) | ((with_reducible refine gate_callee (f := 87) rfl ?_); refine gL_ 12 Try.func87 #[.slice Ao23 y111.length co23] ?_; (with_reducible refine (money_Check.calls k _ _ y111 t114 _ ?side1 ?side2 A4.out).mono ?_); (case side1 => exact Kd.CN (Kd.R_reads' HO113.out).2.2); (case side2 => exact (Kd.R_reads' HO113.out).2.1); rintro e w24 ⟨rfl, hb⟩; refine ⟨_, rfl, ?_⟩; replace HO113 := aM_ (Kd.R_below (Kd.RN HO113) hb); replace BK110 := bbA_ BK110 hb; replace HB := bsA_ HB hb; (try clear hb); obtain ⟨hcz25_0, hcz25_1, hcz25_2, hcz25_3, hcz25_4, hcz25_5, hcz25_6, hfz25_0, hfz25_1, hfz25_2, hfz25_3, hfz25_4, hfz25_5, hfz25_6⟩ := cz7_ (w := w24) BK110.out))
     go_meet
     case rel => exact ⟨_, (decide ((l0_5.length : Int) > 0)), (by ((simp; done))), H', ⟨by (omega)⟩, ⟨by exact BK110.out⟩, ⟨by repeat (((with_reducible (exact HB.out))))⟩⟩
  ·rw [if_neg c5] at H
   have c5b0 : (t114 == 0) = false := beq_eq_false_iff_ne.mpr c5
   have c5b1 : (t114 != 0) = true := bne_iff_ne.mpr c5
   ((skip))
   have H' := aM_ H
   clear H
   obtain ⟨hcz26_0, hcz26_1, hcz26_2, hcz26_3, hcz26_4, hcz26_5, hcz26_6, hfz26_0, hfz26_1, hfz26_2, hfz26_3, hfz26_4, hfz26_5, hfz26_6⟩ := cz7_ (w := w3) BK110.out
   go_wp2_with (first | ((with_reducible refine gate_dst (N := 11) rfl ?_); (try (refine gate_guard (by rfl) ?_; dsimp only)); refine Kd.R_lit (Kd.int .u64) _ 22 ?hg (N := 11) ?hd (xs := ([a0_3, a0_4] : List Int)) (inner := [.int .u64 a0_3, .int .u64 a0_4]) (ok := fun _ => True) (okp := fun _ => True) ?hr ?hp (fun _ hk => hk) trivial (Below.refl _ _) (Nat.le_refl _) (by simp) ?_; (case hd => rfl); (case hg => rfl); (case hr => ((go_simp; done))); (case hp => exact (Reps.one (show Kd.M (Kd.int .u64) _ _ _ a0_3 [.int .u64 a0_3] from rfl) (Reps.one (show Kd.M (Kd.int .u64) _ _ _ a0_4 [.int .u64 a0_4] from rfl) (Reps.none _ _)))); intro v112 w27 ho28 hb hg_ hnew_; clear hg_ hnew_; ((rw [← Ny111.out] at ho28)); have HO113 := aM_ (Kd.R_lower ho28 (below_size (belN HB))); replace BK110 := bbA_ BK110 hb; replace HB := bsA_ HB hb; clear hb ho28; obtain ⟨Ao29, co29, eo29⟩ := Kd.R_slice HO113.out; subst eo29) | ((with_reducible refine gate_callee (f := 87) rfl ?_); refine gL_ 12 Try.func87 #[.slice Ao29 y111.length co29] ?_; (with_reducible refine (money_Check.calls k _ _ y111 t114 _ ?side1 ?side2 A4.out).mono ?_); (case side1 => exact Kd.CN (Kd.R_reads' HO113.out).2.2); (case side2 => exact (Kd.R_reads' HO113.out).2.1); rintro e w30 ⟨rfl, hb⟩; refine ⟨_, rfl, ?_⟩; replace HO113 := aM_ (Kd.R_below (Kd.RN HO113) hb); replace BK110 := bbA_ BK110 hb; replace HB := bsA_ HB hb; (try clear hb)))
   go_meet
   case rel => exact ⟨_, (true), (by (rfl)), H', ⟨by (omega)⟩, ⟨by exact BK110.out⟩, ⟨by repeat (((with_reducible (exact HB.out))))⟩⟩
 case rest =>
  clear HC2
  obtain ⟨kq, x30_1, rfl, HA, HJ1, BK110, HB⟩ := hcut
  cases kq with
  | zero => exact absurd HA.out (by simp [channel_sums.j0])
  | succ kj1 =>
   have H := HA.out
   clear HA
   simp only [channel_sums.j0] at H
   by_cases c31 : x30_1 = true
   ·subst c31
    have H1 : (some (0, 0, 1)) = some (r1, r2, r3) := by rw [if_pos rfl] at H; exact H
    clear H
    have H := H1
    clear H1
    simp only [Option.some.injEq, Prod.mk.injEq] at H
    obtain ⟨rfl, rfl, rfl⟩ := H
    go_wp2
    go_ret3
    exact ⟨by (rfl), by repeat (((with_reducible (exact HB.out))))⟩
   ·replace c31 := Bool.eq_false_iff.mpr c31
    subst c31
    have H1 : (channel_sums.l0 kj1 0 l0_5 (l0_5.length : Int) 0 a0_0 a0_1 a0_2 a0_3 a0_4 l0_5 a0_6) = some (r1, r2, r3) := by rw [if_neg (show ¬ (false = true) by decide)] at H; exact H
    clear H
    have H := H1
    clear H1
    have H' := aM_ H
    clear H
    obtain ⟨hcz32_0, hcz32_1, hcz32_2, hcz32_3, hcz32_4, hcz32_5, hcz32_6, hfz32_0, hfz32_1, hfz32_2, hfz32_3, hfz32_4, hfz32_5, hfz32_6⟩ := cz7_ (w := wc) BK110.out
    go_wp2
    go_loopg [2, 34] kj1 (fun kq v2 v34 w' => ∃ (x2_2 : Int) (x34_2 : Int), v2 = .int .u64 x2_2 ∧ v34 = .int .i64 x34_2 ∧ Aside0 (channel_sums.l0 kq x2_2 l0_5 (l0_5.length : Int) x34_2 a0_0 a0_1 a0_2 a0_3 a0_4 l0_5 a0_6 = some (r1, r2, r3)) ∧ Aside0 (kq ≤ kj1) ∧ Aside0 (w'.heap[gb110]? = some (.cells #[.int .u64 a0_0, .int .u64 a0_1, .int .u64 a0_2, .int .u64 a0_3, .int .u64 a0_4, (.slice A0_5 l0_5.length c0_5), .bool a0_6] 25 (0, 0))) ∧ Aside0 (Below w.heap.size w w'))
    case atStart => exact ⟨(0), (0), (by (rfl)), (by (rfl)), H', ⟨Nat.le_refl _⟩, ⟨by exact BK110.out⟩, ⟨by repeat (((with_reducible (exact HB.out))))⟩⟩
    case round =>
     clear H'
     try clear hcz32_0
     try clear hcz32_1
     try clear hcz32_2
     try clear hcz32_3
     try clear hcz32_4
     try clear hcz32_5
     try clear hcz32_6
     try clear hfz32_0
     try clear hfz32_1
     try clear hfz32_2
     try clear hfz32_3
     try clear hfz32_4
     try clear hfz32_5
     try clear hfz32_6
     obtain ⟨x2_2, x34_2, rfl, rfl, HA, HK2, BK110, HB⟩ := hrel
     cases gk with
     | zero => exact absurd HA.out (by simp [channel_sums.l0])
     | succ k2 =>
      have H := HA.out
      clear HA
      simp only [channel_sums.l0] at H
      by_cases c33 : x34_2 < (l0_5.length : Int)
      ·rw [if_pos c33] at H
       have c33b0 := decide_eq_true c33
       clear c33
       by_cases c34 : 0 ≤ x34_2
       ·rw [if_pos c34] at H
        have c34b0 := decide_eq_true c34
        clear c34
        by_cases c35 : x34_2 < (l0_5.length : Int)
        ·rw [if_pos c35] at H
         have c35b0 := decide_eq_true c35
         clear c35
         have HC36 := aM_ H
         clear H
         have p120 : 0 ≤ (x34_2 : Int) := of_decide_eq_true (by ((with_reducible assumption)))
         have q120 : x34_2 < (l0_5.length : Int) := of_decide_eq_true (by ((with_reducible assumption)))
         obtain ⟨ad120, e120, hx120_0, hx120_1⟩ := at_T44 HR0_5.out x34_2 p120 q120
         cases e120
         replace hx120_0 := cN_ HB hx120_0
         replace hx120_1 := cN_ HB hx120_1
         replace p120 := eq_true p120
         replace q120 := eq_true q120
         go_upto_region 6 with ((((with_reducible refine gate_dst (N := 6) rfl ?_); (try (refine gate_guard (by rfl) ?_; dsimp only)); refine box_event ?hg (N := 6) ?hd (cs := #[.int .u64 0, .int .u64 0]) (t := 44) ?hr ?_; (case hd => rfl); (case hg => rfl); (case hr => ((go_simp; done))); intro gb121 hg w37 hbox hb; have BK121 := aM_ (hbox); have GW121 := aM_ (geN HB hg); have GE121 := aM_ (geN HB hg); replace HB := bsA_ HB hb; have NB110_121 := aM_ (neN BK110 hg); have NB121_110 := aM_ (neN' BK110 hg); replace BK110 := bbA_ BK110 hb; clear hb hbox hg; have hnb38 := NB121_110.out; have hnc38 := NB110_121.out; obtain ⟨hcz39_0, hcz39_1, hfz39_0, hfz39_1⟩ := cz2_ (w := w37) BK121.out)))
         go_cut [57] (fun v57 wc => ∃ (kq : Nat) (x57_35 : Bool), v57 = .bool x57_35 ∧ Aside0 (channel_sums.j2 kq x2_2 l0_5 (l0_5.length : Int) x34_2 x57_35 a0_0 a0_1 a0_2 a0_3 a0_4 l0_5 a0_6 ((rd_T44 l0_5 x34_2).f0) ((rd_T44 l0_5 x34_2).f1) = some (r1, r2, r3)) ∧ Aside0 (kq ≤ k2) ∧ Aside0 (wc.heap[gb110]? = some (.cells #[.int .u64 a0_0, .int .u64 a0_1, .int .u64 a0_2, .int .u64 a0_3, .int .u64 a0_4, (.slice (some ad120) l0_5.length c0_5), .bool a0_6] 25 (0, 0))) ∧ Aside0 (wc.heap[gb121]? = some (.cells #[.int .u64 ((rd_T44 l0_5 x34_2).f0), .int .u64 ((rd_T44 l0_5 x34_2).f1)] 44 (0, 0))) ∧ Aside0 (Below w.heap.size w wc))
         case first =>
          have H := HC36.out
          clear HC36
          by_cases c40 : ((rd_T44 l0_5 x34_2).f1) = 0
          ·rw [if_pos c40] at H
           have c40b0 : (((rd_T44 l0_5 x34_2).f1) == 0) = true := beq_iff_eq.mpr c40
           have c40b1 : (((rd_T44 l0_5 x34_2).f1) != 0) = false := bne_eq_false_iff_eq.mpr c40
           clear c40
           ((skip))
           have H' := aM_ H
           clear H
           try go_wp2
           have n0_ : Aside0 (((w37.setCell ⟨gb121, 0, none⟩ (.int .u64 ((rd_T44 l0_5 x34_2).f0))).setCell ⟨gb121, 1, none⟩ (.int .u64 ((rd_T44 l0_5 x34_2).f1))).heap[gb110]? = some (.cells #[.int .u64 a0_0, .int .u64 a0_1, .int .u64 a0_2, .int .u64 a0_3, .int .u64 a0_4, .slice (some ad120) l0_5.length c0_5, .bool a0_6] 25 (0, 0))) := ⟨by refine blk_far ?_ NB110_121.out _; refine blk_far ?_ NB110_121.out _; exact BK110.out⟩
           have n1_ : Aside0 (((w37.setCell ⟨gb121, 0, none⟩ (.int .u64 ((rd_T44 l0_5 x34_2).f0))).setCell ⟨gb121, 1, none⟩ (.int .u64 ((rd_T44 l0_5 x34_2).f1))).heap[gb121]? = some (.cells #[.int .u64 ((rd_T44 l0_5 x34_2).f0), .int .u64 ((rd_T44 l0_5 x34_2).f1)] 44 (0, 0))) := ⟨by apply bp2_; exact BK121.out⟩
           have n2_ : Aside0 (Below w.heap.size w ((w37.setCell ⟨gb121, 0, none⟩ (.int .u64 ((rd_T44 l0_5 x34_2).f0))).setCell ⟨gb121, 1, none⟩ (.int .u64 ((rd_T44 l0_5 x34_2).f1)))) := ⟨by repeat (((with_reducible first | exact HB.out | refine below_set ?_ GE121.out)))⟩
           (try clear BK110)
           (try clear BK121)
           (try clear HB)
           generalize ((w37.setCell ⟨gb121, 0, none⟩ (.int .u64 ((rd_T44 l0_5 x34_2).f0))).setCell ⟨gb121, 1, none⟩ (.int .u64 ((rd_T44 l0_5 x34_2).f1))) = w41 at n0_ n1_ n2_ ⊢
           have BK110 := n0_
           have BK121 := n1_
           have HB := n2_
           clear n0_ n1_ n2_
           replace BK110 := aM_ (blk_drew BK110.out)
           replace BK121 := aM_ (blk_drew BK121.out)
           replace HB := aM_ (below_drew1 HB.out)
           refine start_ (n := 19) (S := fun w' => w'.cell? ⟨gb121, 0, none⟩ = some (.int .u64 ((rd_T44 l0_5 x34_2).f0)) ∧ w'.cell? ⟨gb121, 1, none⟩ = some (.int .u64 ((rd_T44 l0_5 x34_2).f1))) (ds := []) #[false, false, false, false, false, false, false, false, false, false, false, false, false, false, false, false, false, false, false] (by kernel_rfl) rfl rfl ⟨(blk_cell BK121.out 0).trans rfl, (blk_cell BK121.out 1).trans rfl⟩ (fun hHeld => ?_); refine with_tabW channel_sums.tab6 channel_sums.bits6 (fun HT_ HW_ => ?_)
           generalize w41.drew = w42 at BK110 BK121 HB hHeld ⊢
           refine pureA_ 0 39 (bm 19 1) ?_
           refine take_ (i := 1) (N := some 40) (v := ?_) (a' := ?_) #[true, true, false, false, false, false, false, false, false, false, false, false, false, false, false, false, false, false, false] rfl rfl (take_ofW HT_.out HW_.out (by kernel_rfl)) (fun _ _ _ h => h) (Or.inl ⟨by rfl, ?_⟩) hHeld ?_ ?_
           rotate_left
           ·rintro w' ⟨s0, s1⟩
            go_simp
            with_reducible rfl
           rotate_left
           ·simp only [Act.put, List.setIfInBounds_toArray, List.set_cons_zero, List.set_cons_succ, i64_w, i32_w]
            rfl
           refine pureA_ 2 41 (bm 19 7) ?_
           refine pureA_ 3 42 (bm 19 15) ?_
           refine pureU_ 4 43 (bm 19 31) ?_
           refine pureU_ 5 44 (bm 19 63) ?_
           refine pureU_ 6 45 (bm 19 127) ?_
           refine pureU_ 7 46 (bm 19 255) ?_
           refine pureU_ 8 47 (bm 19 511) ?_
           refine pureU_ 9 48 (bm 19 1023) ?_
           refine pureU_ 10 49 (bm 19 2047) ?_
           refine pureU_ 11 50 (bm 19 4095) ?_
           refine pureU_ 12 51 (bm 19 8191) ?_
           refine pureU_ 13 52 (bm 19 16383) ?_
           refine pureU_ 14 53 (bm 19 32767) ?_
           refine pureU_ 15 54 (bm 19 65535) ?_
           refine pureU_ 16 55 (bm 19 131071) ?_
           refine pureU_ 17 56 (bm 19 262143) ?_
           refine pureA_ 18 57 (bm 19 524287) ?_
           refine done_ (done_of HT_.out (by kernel_rfl)) ?_
           try go_wp2
           go_meet
           case rel => exact ⟨_, (true), (by (rfl)), H', ⟨by have := HJ1.out; have := HK2.out; (omega)⟩, ⟨by exact BK110.out⟩, ⟨by exact BK121.out⟩, ⟨by repeat (((with_reducible (exact HB.out))))⟩⟩
          ·rw [if_neg c40] at H
           have c40b0 : (((rd_T44 l0_5 x34_2).f1) == 0) = false := beq_eq_false_iff_ne.mpr c40
           have c40b1 : (((rd_T44 l0_5 x34_2).f1) != 0) = true := bne_iff_ne.mpr c40
           ((skip))
           by_cases c43 : x34_2 > 0
           ·rw [if_pos c43] at H
            have c43b0 : decide (0 < x34_2) = true := decide_eq_true c43
            clear c43
            obtain ⟨ji44, hji44⟩ : ∃ j_ : Int, (wrap64 (x34_2 - 1)) = j_ := ⟨_, rfl⟩
            replace H : (if 0 ≤ (ji44) then (if (ji44) < (l0_5.length : Int) then ((channel_order.f ((rd_T44 l0_5 (ji44)).f0) ((rd_T44 l0_5 (ji44)).f1) ((rd_T44 l0_5 x34_2).f0)).bind fun t123 => (channel_sums.j2 k2 x2_2 l0_5 (l0_5.length : Int) x34_2 (decide (t123 ≥ 0)) a0_0 a0_1 a0_2 a0_3 a0_4 l0_5 a0_6 ((rd_T44 l0_5 x34_2).f0) ((rd_T44 l0_5 x34_2).f1))) else (none)) else (none)) = some (r1, r2, r3) := by ((rw [hji44] at H; exact H))
            have hji44w : (IntKind.i64.wrap (x34_2 - 1)) = ji44 := (i64_w _).trans hji44
            by_cases c45 : 0 ≤ (ji44)
            ·rw [if_pos c45] at H
             have c45b0 := decide_eq_true c45
             clear c45
             by_cases c46 : (ji44) < (l0_5.length : Int)
             ·rw [if_pos c46] at H
              have c46b0 := decide_eq_true c46
              clear c46
              replace H := oB_ H
              obtain ⟨t123, A470, H⟩ := H
              replace H : (channel_sums.j2 k2 x2_2 l0_5 (l0_5.length : Int) x34_2 (decide (t123 ≥ 0)) a0_0 a0_1 a0_2 a0_3 a0_4 l0_5 a0_6 ((rd_T44 l0_5 x34_2).f0) ((rd_T44 l0_5 x34_2).f1)) = some (r1, r2, r3) := H
              have A47 := aM_ A470
              clear A470
              have H' := aM_ H
              clear H
              try go_wp2
              have n0_ : Aside0 (((w37.setCell ⟨gb121, 0, none⟩ (.int .u64 ((rd_T44 l0_5 x34_2).f0))).setCell ⟨gb121, 1, none⟩ (.int .u64 ((rd_T44 l0_5 x34_2).f1))).heap[gb110]? = some (.cells #[.int .u64 a0_0, .int .u64 a0_1, .int .u64 a0_2, .int .u64 a0_3, .int .u64 a0_4, .slice (some ad120) l0_5.length c0_5, .bool a0_6] 25 (0, 0))) := ⟨by refine blk_far ?_ NB110_121.out _; refine blk_far ?_ NB110_121.out _; exact BK110.out⟩
              have n1_ : Aside0 (((w37.setCell ⟨gb121, 0, none⟩ (.int .u64 ((rd_T44 l0_5 x34_2).f0))).setCell ⟨gb121, 1, none⟩ (.int .u64 ((rd_T44 l0_5 x34_2).f1))).heap[gb121]? = some (.cells #[.int .u64 ((rd_T44 l0_5 x34_2).f0), .int .u64 ((rd_T44 l0_5 x34_2).f1)] 44 (0, 0))) := ⟨by apply bp2_; exact BK121.out⟩
              have n2_ : Aside0 (Below w.heap.size w ((w37.setCell ⟨gb121, 0, none⟩ (.int .u64 ((rd_T44 l0_5 x34_2).f0))).setCell ⟨gb121, 1, none⟩ (.int .u64 ((rd_T44 l0_5 x34_2).f1)))) := ⟨by repeat (((with_reducible first | exact HB.out | refine below_set ?_ GE121.out)))⟩
              (try clear BK110)
              (try clear BK121)
              (try clear HB)
              generalize ((w37.setCell ⟨gb121, 0, none⟩ (.int .u64 ((rd_T44 l0_5 x34_2).f0))).setCell ⟨gb121, 1, none⟩ (.int .u64 ((rd_T44 l0_5 x34_2).f1))) = w48 at n0_ n1_ n2_ ⊢
              have BK110 := n0_
              have BK121 := n1_
              have HB := n2_
              clear n0_ n1_ n2_
              replace BK110 := aM_ (blk_drew BK110.out)
              replace BK121 := aM_ (blk_drew BK121.out)
              replace HB := aM_ (below_drew1 HB.out)
              have p122 : 0 ≤ ((ji44) : Int) := of_decide_eq_true (by ((with_reducible assumption)))
              have q122 : (ji44) < (l0_5.length : Int) := of_decide_eq_true (by ((with_reducible assumption)))
              obtain ⟨ad122, e122, hx122_0, hx122_1⟩ := at_T44 HR0_5.out (ji44) p122 q122
              have hw122_1 := hx122_1
              have hw122_0 := hx122_0
              obtain rfl : ad120 = ad122 := (by injection e122)
              replace hx122_0 := cN_ HB hx122_0
              replace hx122_1 := cN_ HB hx122_1
              replace p122 := eq_true p122
              replace q122 := eq_true q122
              refine start_ (n := 19) (S := fun w' => w'.cell? ⟨gb121, 0, none⟩ = some (.int .u64 ((rd_T44 l0_5 x34_2).f0)) ∧ w'.cell? ⟨gb121, 1, none⟩ = some (.int .u64 ((rd_T44 l0_5 x34_2).f1)) ∧ w'.cell? ⟨gb110, 0, none⟩ = some (.int .u64 a0_0) ∧ w'.cell? ⟨gb110, 1, none⟩ = some (.int .u64 a0_1) ∧ w'.cell? ⟨gb110, 2, none⟩ = some (.int .u64 a0_2) ∧ w'.cell? ⟨gb110, 3, none⟩ = some (.int .u64 a0_3) ∧ w'.cell? ⟨gb110, 4, none⟩ = some (.int .u64 a0_4) ∧ w'.cell? ⟨gb110, 5, none⟩ = some (.slice (some ad120) l0_5.length c0_5) ∧ w'.cell? ⟨gb110, 6, none⟩ = some (.bool a0_6) ∧ w'.cell? (ad120.add (((ji44)).toNat * 2)) = some (.int .u64 ((rd_T44 l0_5 (ji44)).f0)) ∧ w'.cell? ⟨(ad120.add (((ji44)).toNat * 2)).block, (ad120.add (((ji44)).toNat * 2)).off + 1, none⟩ = some (.int .u64 ((rd_T44 l0_5 (ji44)).f1))) (ds := []) #[false, false, false, false, false, false, false, false, false, false, false, false, false, false, false, false, false, false, false] (by kernel_rfl) rfl rfl ⟨(blk_cell BK121.out 0).trans rfl, (blk_cell BK121.out 1).trans rfl, (blk_cell BK110.out 0).trans rfl, (blk_cell BK110.out 1).trans rfl, (blk_cell BK110.out 2).trans rfl, (blk_cell BK110.out 3).trans rfl, (blk_cell BK110.out 4).trans rfl, (blk_cell BK110.out 5).trans rfl, (blk_cell BK110.out 6).trans rfl, (cN_ HB hw122_0), (cN_ HB hw122_1)⟩ (fun hHeld => ?_); refine with_tabW channel_sums.tab6 channel_sums.bits6 (fun HT_ HW_ => ?_)
              generalize w48.drew = w49 at BK110 BK121 HB hx122_0 hx122_1 hHeld ⊢
              refine pureA_ 0 39 (bm 19 1) ?_
              refine take_ (i := 1) (N := some 40) (v := ?_) (a' := ?_) #[true, true, false, false, false, false, false, false, false, false, false, false, false, false, false, false, false, false, false] rfl rfl (take_ofW HT_.out HW_.out (by kernel_rfl)) (fun _ _ _ h => h) (Or.inl ⟨by rfl, ?_⟩) hHeld ?_ ?_
              rotate_left
              ·rintro w' ⟨s0, s1, s2, s3, s4, s5, s6, s7, s8, s9, s10⟩
               go_simp
               with_reducible rfl
              rotate_left
              ·simp only [Act.put, List.setIfInBounds_toArray, List.set_cons_zero, List.set_cons_succ, i64_w, i32_w]
               rfl
              refine pureA_ 2 41 (bm 19 7) ?_
              refine pureA_ 3 42 (bm 19 15) ?_
              refine pureA_ 4 43 (bm 19 31) ?_
              refine pureA_ 5 44 (bm 19 63) ?_
              refine pureA_ 6 45 (bm 19 127) ?_
              refine pureA_ 7 46 (bm 19 255) ?_
              refine pureA_ 9 48 (bm 19 767) ?_
              refine pureA_ 10 49 (bm 19 1791) ?_
              refine pureA_ 13 52 (bm 19 9983) ?_
              refine take_ (i := 8) (N := some 47) (v := ?_) (a' := ?_) #[true, true, true, true, true, true, true, true, true, true, true, false, false, true, false, false, false, false, false] rfl rfl (take_ofW HT_.out HW_.out (by kernel_rfl)) (fun _ _ _ h => h) (Or.inl ⟨by rfl, ?_⟩) hHeld ?_ ?_
              rotate_left
              ·rintro w' ⟨s0, s1, s2, s3, s4, s5, s6, s7, s8, s9, s10⟩
               go_simp
               with_reducible rfl
              rotate_left
              ·simp only [Act.put, List.setIfInBounds_toArray, List.set_cons_zero, List.set_cons_succ, i64_w, i32_w]
               rfl
              refine pureA_ 11 50 (bm 19 12287) ?_
              refine take_ (i := 12) (N := some 51) (v := ?_) (a' := ?_) #[true, true, true, true, true, true, true, true, true, true, true, true, true, true, false, false, false, false, false] rfl rfl (take_ofW HT_.out HW_.out (by kernel_rfl)) (fun _ _ _ h => h) (Or.inl ⟨by rfl, ?_⟩) hHeld ?_ ?_
              rotate_left
              ·rintro w' ⟨s0, s1, s2, s3, s4, s5, s6, s7, s8, s9, s10⟩
               go_simp
               with_reducible rfl
              rotate_left
              ·simp only [Act.put, List.setIfInBounds_toArray, List.set_cons_zero, List.set_cons_succ, i64_w, i32_w]
               rfl
              refine take_ (i := 14) (N := some 53) (v := ?_) (a' := ?_) #[true, true, true, true, true, true, true, true, true, true, true, true, true, true, true, false, false, false, false] rfl rfl (take_ofW HT_.out HW_.out (by kernel_rfl)) (fun _ _ _ h => h) (Or.inl ⟨by rfl, ?_⟩) hHeld ?_ ?_
              rotate_left
              ·rintro w' ⟨s0, s1, s2, s3, s4, s5, s6, s7, s8, s9, s10⟩
               go_simp
               with_reducible rfl
              rotate_left
              ·simp only [Act.put, List.setIfInBounds_toArray, List.set_cons_zero, List.set_cons_succ, i64_w, i32_w]
               rfl
              refine one_ (i := 15) (N := some 54) #[true, true, true, true, true, true, true, true, true, true, true, true, true, true, true, true, false, false, false] rfl rfl (one_of HT_.out (by kernel_rfl)) (by decide) (fun K hK => ?_)
              refine goes_ Try.func86 (by kernel_rfl) rfl #[.agg #[.int .u64 ((rd_T44 l0_5 (ji44)).f0), .int .u64 ((rd_T44 l0_5 (ji44)).f1)], .int .u64 ((rd_T44 l0_5 x34_2).f0)] (by rfl) rfl rfl (by (try simp only [List.map_toArray, List.map_cons, List.map_nil]); (rfl)) ?_
              with_reducible refine (channel_order.calls ((rd_T44 l0_5 (ji44)).f0) ((rd_T44 l0_5 (ji44)).f1) ((rd_T44 l0_5 x34_2).f0) t123 _ A47.out).mono ?_
              rintro e w50 ⟨rfl, hb⟩
              refine ⟨_, rfl, ?_⟩
              replace BK110 := bbA_ BK110 hb
              replace BK121 := bbA_ BK121 hb
              replace HB := bsA_ HB hb
              (try clear hb)
              refine hK.out _ _ ⟨(blk_cell BK121.out 0).trans rfl, (blk_cell BK121.out 1).trans rfl, (blk_cell BK110.out 0).trans rfl, (blk_cell BK110.out 1).trans rfl, (blk_cell BK110.out 2).trans rfl, (blk_cell BK110.out 3).trans rfl, (blk_cell BK110.out 4).trans rfl, (blk_cell BK110.out 5).trans rfl, (blk_cell BK110.out 6).trans rfl, (cN_ HB hw122_0), (cN_ HB hw122_1)⟩ (fun hHeld => ?_)
              clear hK K
              refine norm_ (a' := ?_) ?_ ?_
              rotate_left
              ·show Act.put _ (some 54) _ = _
               simp only [Act.put, List.setIfInBounds_toArray, List.set_cons_zero, List.set_cons_succ, i64_w, i32_w]
               rfl
              refine pureA_ 16 55 (bm 19 131071) ?_
              refine pureA_ 17 56 (bm 19 262143) ?_
              refine pureA_ 18 57 (bm 19 524287) ?_
              refine done_ (done_of HT_.out (by kernel_rfl)) ?_
              try go_wp2
              go_meet
              case rel => exact ⟨_, (decide (t123 ≥ 0)), (by (rfl)), H', ⟨by have := HJ1.out; have := HK2.out; (omega)⟩, ⟨by exact BK110.out⟩, ⟨by exact BK121.out⟩, ⟨by repeat (((with_reducible (exact HB.out))))⟩⟩
             ·rw [if_neg c46] at H
              exact absurd H (by simp)
            ·rw [if_neg c45] at H
             exact absurd H (by simp)
           ·rw [if_neg c43] at H
            have c43b0 : decide (0 < x34_2) = false := decide_eq_false c43
            clear c43
            have H' := aM_ H
            clear H
            try go_wp2
            have n0_ : Aside0 (((w37.setCell ⟨gb121, 0, none⟩ (.int .u64 ((rd_T44 l0_5 x34_2).f0))).setCell ⟨gb121, 1, none⟩ (.int .u64 ((rd_T44 l0_5 x34_2).f1))).heap[gb110]? = some (.cells #[.int .u64 a0_0, .int .u64 a0_1, .int .u64 a0_2, .int .u64 a0_3, .int .u64 a0_4, .slice (some ad120) l0_5.length c0_5, .bool a0_6] 25 (0, 0))) := ⟨by refine blk_far ?_ NB110_121.out _; refine blk_far ?_ NB110_121.out _; exact BK110.out⟩
            have n1_ : Aside0 (((w37.setCell ⟨gb121, 0, none⟩ (.int .u64 ((rd_T44 l0_5 x34_2).f0))).setCell ⟨gb121, 1, none⟩ (.int .u64 ((rd_T44 l0_5 x34_2).f1))).heap[gb121]? = some (.cells #[.int .u64 ((rd_T44 l0_5 x34_2).f0), .int .u64 ((rd_T44 l0_5 x34_2).f1)] 44 (0, 0))) := ⟨by apply bp2_; exact BK121.out⟩
            have n2_ : Aside0 (Below w.heap.size w ((w37.setCell ⟨gb121, 0, none⟩ (.int .u64 ((rd_T44 l0_5 x34_2).f0))).setCell ⟨gb121, 1, none⟩ (.int .u64 ((rd_T44 l0_5 x34_2).f1)))) := ⟨by repeat (((with_reducible first | exact HB.out | refine below_set ?_ GE121.out)))⟩
            (try clear BK110)
            (try clear BK121)
            (try clear HB)
            generalize ((w37.setCell ⟨gb121, 0, none⟩ (.int .u64 ((rd_T44 l0_5 x34_2).f0))).setCell ⟨gb121, 1, none⟩ (.int .u64 ((rd_T44 l0_5 x34_2).f1))) = w51 at n0_ n1_ n2_ ⊢
            have BK110 := n0_
            have BK121 := n1_
            have HB := n2_
            clear n0_ n1_ n2_
            replace BK110 := aM_ (blk_drew BK110.out)
            replace BK121 := aM_ (blk_drew BK121.out)
            replace HB := aM_ (below_drew1 HB.out)
            refine start_ (n := 19) (S := fun w' => w'.cell? ⟨gb121, 0, none⟩ = some (.int .u64 ((rd_T44 l0_5 x34_2).f0)) ∧ w'.cell? ⟨gb121, 1, none⟩ = some (.int .u64 ((rd_T44 l0_5 x34_2).f1))) (ds := []) #[false, false, false, false, false, false, false, false, false, false, false, false, false, false, false, false, false, false, false] (by kernel_rfl) rfl rfl ⟨(blk_cell BK121.out 0).trans rfl, (blk_cell BK121.out 1).trans rfl⟩ (fun hHeld => ?_); refine with_tabW channel_sums.tab6 channel_sums.bits6 (fun HT_ HW_ => ?_)
            generalize w51.drew = w52 at BK110 BK121 HB hHeld ⊢
            refine pureA_ 0 39 (bm 19 1) ?_
            refine take_ (i := 1) (N := some 40) (v := ?_) (a' := ?_) #[true, true, false, false, false, false, false, false, false, false, false, false, false, false, false, false, false, false, false] rfl rfl (take_ofW HT_.out HW_.out (by kernel_rfl)) (fun _ _ _ h => h) (Or.inl ⟨by rfl, ?_⟩) hHeld ?_ ?_
            rotate_left
            ·rintro w' ⟨s0, s1⟩
             go_simp
             with_reducible rfl
            rotate_left
            ·simp only [Act.put, List.setIfInBounds_toArray, List.set_cons_zero, List.set_cons_succ, i64_w, i32_w]
             rfl
            refine pureA_ 2 41 (bm 19 7) ?_
            refine pureA_ 3 42 (bm 19 15) ?_
            refine pureA_ 4 43 (bm 19 31) ?_
            refine pureA_ 5 44 (bm 19 63) ?_
            refine pureA_ 6 45 (bm 19 127) ?_
            refine pureU_ 7 46 (bm 19 255) ?_
            refine pureU_ 8 47 (bm 19 511) ?_
            refine pureU_ 9 48 (bm 19 1023) ?_
            refine pureU_ 10 49 (bm 19 2047) ?_
            refine pureU_ 11 50 (bm 19 4095) ?_
            refine pureU_ 12 51 (bm 19 8191) ?_
            refine pureU_ 13 52 (bm 19 16383) ?_
            refine pureU_ 14 53 (bm 19 32767) ?_
            refine pureU_ 15 54 (bm 19 65535) ?_
            refine pureU_ 16 55 (bm 19 131071) ?_
            refine pureA_ 17 56 (bm 19 262143) ?_
            refine pureA_ 18 57 (bm 19 524287) ?_
            refine done_ (done_of HT_.out (by kernel_rfl)) ?_
            try go_wp2
            go_meet
            case rel => exact ⟨_, (false), (by (rfl)), H', ⟨by have := HJ1.out; have := HK2.out; (omega)⟩, ⟨by exact BK110.out⟩, ⟨by exact BK121.out⟩, ⟨by repeat (((with_reducible (exact HB.out))))⟩⟩
         case rest =>
          clear HC36
          try clear c33b0
          try clear c34b0
          try clear c35b0
          try clear hcz39_0
          try clear hcz39_1
          try clear hfz39_0
          try clear hfz39_1
          try clear hx120_0
          try clear hx120_1
          try clear p120
          try clear q120
          obtain ⟨kq, x57_35, rfl, HA, HJ35, BK110, BK121, HB⟩ := hcut
          cases kq with
          | zero => exact absurd HA.out (by simp [channel_sums.j2])
          | succ kj35 =>
           have H := HA.out
           clear HA
           simp only [channel_sums.j2] at H
           by_cases c53 : x57_35 = true
           ·subst c53
            have H1 : (some (0, 0, 1)) = some (r1, r2, r3) := by rw [if_pos rfl] at H; exact H
            clear H
            have H := H1
            clear H1
            simp only [Option.some.injEq, Prod.mk.injEq] at H
            obtain ⟨rfl, rfl, rfl⟩ := H
            go_wp2
            go_ret3
            exact ⟨by (rfl), by repeat (((with_reducible (exact HB.out))))⟩
           ·replace c53 := Bool.eq_false_iff.mpr c53
            subst c53
            have H1 : ((money_Add.f kj35 (([x2_2, ((rd_T44 l0_5 x34_2).f1)] : List Int))).bind fun bt127 => (if bt127.2 = 0 then (if bt127.1 > a0_4 then (some (0, 0, 1)) else (channel_sums.l0 kj35 bt127.1 l0_5 (l0_5.length : Int) (wrap64 (x34_2 + 1)) a0_0 a0_1 a0_2 a0_3 a0_4 l0_5 a0_6)) else (some (0, 0, 1)))) = some (r1, r2, r3) := by rw [if_neg (show ¬ (false = true) by decide)] at H; exact H
            clear H
            have H := H1
            clear H1
            obtain ⟨y124, hy124⟩ : ∃ y_ : List Int, y_ = (([x2_2, ((rd_T44 l0_5 x34_2).f1)] : List Int)) := ⟨_, rfl⟩
            replace H : ((money_Add.f kj35 y124).bind fun bt127 => (if bt127.2 = 0 then (if bt127.1 > a0_4 then (some (0, 0, 1)) else (channel_sums.l0 kj35 bt127.1 l0_5 (l0_5.length : Int) (wrap64 (x34_2 + 1)) a0_0 a0_1 a0_2 a0_3 a0_4 l0_5 a0_6)) else (some (0, 0, 1)))) = some (r1, r2, r3) := by ((rw [hy124]; with_reducible exact H))
            have Ny124 := aM_ hy124
            clear hy124
            replace H := oB_ H
            obtain ⟨⟨t127, t128⟩, A540, H⟩ := H
            replace H : (if t128 = 0 then (if t127 > a0_4 then (some (0, 0, 1)) else (channel_sums.l0 kj35 t127 l0_5 (l0_5.length : Int) (wrap64 (x34_2 + 1)) a0_0 a0_1 a0_2 a0_3 a0_4 l0_5 a0_6)) else (some (0, 0, 1))) = some (r1, r2, r3) := H
            have A54 := aM_ A540
            clear A540
            by_cases c55 : t128 = 0
            ·rw [if_pos c55] at H
             have c55b0 : (t128 == 0) = true := beq_iff_eq.mpr c55
             have c55b1 : (t128 != 0) = false := bne_eq_false_iff_eq.mpr c55
             clear c55
             by_cases c56 : t127 > a0_4
             ·rw [if_pos c56] at H
              have c56b0 : decide (a0_4 < t127) = true := decide_eq_true c56
              clear c56
              simp only [Option.some.injEq, Prod.mk.injEq] at H
              obtain ⟨rfl, rfl, rfl⟩ := H
              have hnb57 := NB121_110.out
              have hnc57 := NB110_121.out
              obtain ⟨hcz58_0, hcz58_1, hfz58_0, hfz58_1⟩ := cz2_ (w := wc) BK121.out
              go_wp2_with (first | ((with_reducible refine gate_dst (N := 62) rfl ?_); (try (refine gate_guard (by rfl) ?_; dsimp only)); refine Kd.R_lit (Kd.int .u64) _ 22 ?hg (N := 62) ?hd (xs := ([x2_2, ((rd_T44 l0_5 x34_2).f1)] : List Int)) (inner := [.int .u64 x2_2, .int .u64 ((rd_T44 l0_5 x34_2).f1)]) (ok := fun _ => True) (okp := fun _ => True) ?hr ?hp (fun _ hk => hk) trivial (Below.refl _ _) (Nat.le_refl _) (by simp) ?_; (case hd => rfl); (case hg => rfl); (case hr => ((go_simp; done))); (case hp => exact (Reps.one (show Kd.M (Kd.int .u64) _ _ _ x2_2 [.int .u64 x2_2] from rfl) (Reps.one (show Kd.M (Kd.int .u64) _ _ _ ((rd_T44 l0_5 x34_2).f1) [.int .u64 ((rd_T44 l0_5 x34_2).f1)] from rfl) (Reps.none _ _)))); intro v125 w59 ho60 hb hg_ hnew_; clear hg_ hnew_; ((rw [← Ny124.out] at ho60)); have HO126 := aM_ (Kd.R_lower ho60 (below_size (belN HB))); replace BK110 := bbA_ BK110 hb; replace BK121 := bbA_ BK121 hb; replace HB := bsA_ HB hb; clear hb ho60; obtain ⟨Ao61, co61, eo61⟩ := Kd.R_slice HO126.out; subst eo61) | ((with_reducible refine gate_callee (f := 124) rfl ?_); refine gL_ 63 Try.func124 #[.slice Ao61 y124.length co61] ?_; (with_reducible refine (money_Add.calls kj35 _ _ y124 t127 t128 _ ?side1 ?side2 A54.out).mono ?_); (case side1 => exact Kd.CN (Kd.R_reads' HO126.out).2.2); (case side2 => exact (Kd.R_reads' HO126.out).2.1); rintro e w62 ⟨rfl, hb⟩; refine ⟨_, rfl, ?_⟩; replace HO126 := aM_ (Kd.R_below (Kd.RN HO126) hb); replace BK110 := bbA_ BK110 hb; replace BK121 := bbA_ BK121 hb; replace HB := bsA_ HB hb; (try clear hb); obtain ⟨hcz63_0, hcz63_1, hcz63_2, hcz63_3, hcz63_4, hcz63_5, hcz63_6, hfz63_0, hfz63_1, hfz63_2, hfz63_3, hfz63_4, hfz63_5, hfz63_6⟩ := cz7_ (w := w62) BK110.out))
              go_ret3
              exact ⟨by (rfl), by repeat (((with_reducible (exact HB.out))))⟩
             ·rw [if_neg c56] at H
              have c56b0 : decide (a0_4 < t127) = false := decide_eq_false c56
              clear c56
              have H' := aM_ H
              clear H
              have hnb64 := NB121_110.out
              have hnc64 := NB110_121.out
              obtain ⟨hcz65_0, hcz65_1, hfz65_0, hfz65_1⟩ := cz2_ (w := wc) BK121.out
              go_wp2_with (first | ((with_reducible refine gate_dst (N := 62) rfl ?_); (try (refine gate_guard (by rfl) ?_; dsimp only)); refine Kd.R_lit (Kd.int .u64) _ 22 ?hg (N := 62) ?hd (xs := ([x2_2, ((rd_T44 l0_5 x34_2).f1)] : List Int)) (inner := [.int .u64 x2_2, .int .u64 ((rd_T44 l0_5 x34_2).f1)]) (ok := fun _ => True) (okp := fun _ => True) ?hr ?hp (fun _ hk => hk) trivial (Below.refl _ _) (Nat.le_refl _) (by simp) ?_; (case hd => rfl); (case hg => rfl); (case hr => ((go_simp; done))); (case hp => exact (Reps.one (show Kd.M (Kd.int .u64) _ _ _ x2_2 [.int .u64 x2_2] from rfl) (Reps.one (show Kd.M (Kd.int .u64) _ _ _ ((rd_T44 l0_5 x34_2).f1) [.int .u64 ((rd_T44 l0_5 x34_2).f1)] from rfl) (Reps.none _ _)))); intro v125 w66 ho67 hb hg_ hnew_; clear hg_ hnew_; ((rw [← Ny124.out] at ho67)); have HO126 := aM_ (Kd.R_lower ho67 (below_size (belN HB))); replace BK110 := bbA_ BK110 hb; replace BK121 := bbA_ BK121 hb; replace HB := bsA_ HB hb; clear hb ho67; obtain ⟨Ao68, co68, eo68⟩ := Kd.R_slice HO126.out; subst eo68) | ((with_reducible refine gate_callee (f := 124) rfl ?_); refine gL_ 63 Try.func124 #[.slice Ao68 y124.length co68] ?_; (with_reducible refine (money_Add.calls kj35 _ _ y124 t127 t128 _ ?side1 ?side2 A54.out).mono ?_); (case side1 => exact Kd.CN (Kd.R_reads' HO126.out).2.2); (case side2 => exact (Kd.R_reads' HO126.out).2.1); rintro e w69 ⟨rfl, hb⟩; refine ⟨_, rfl, ?_⟩; replace HO126 := aM_ (Kd.R_below (Kd.RN HO126) hb); replace BK110 := bbA_ BK110 hb; replace BK121 := bbA_ BK121 hb; replace HB := bsA_ HB hb; (try clear hb); obtain ⟨hcz70_0, hcz70_1, hcz70_2, hcz70_3, hcz70_4, hcz70_5, hcz70_6, hfz70_0, hfz70_1, hfz70_2, hfz70_3, hfz70_4, hfz70_5, hfz70_6⟩ := cz7_ (w := w69) BK110.out))
              go_roundg kj35
              case measure => have := HJ1.out; have := HK2.out; have := HJ35.out; omega
              case rel => exact ⟨(t127), (wrap64 (x34_2 + 1)), (by (rfl)), (by (rfl)), H', ⟨by have := HJ1.out; have := HK2.out; have := HJ35.out; omega⟩, ⟨by exact BK110.out⟩, ⟨by repeat (((with_reducible (exact HB.out))))⟩⟩
            ·rw [if_neg c55] at H
             have c55b0 : (t128 == 0) = false := beq_eq_false_iff_ne.mpr c55
             have c55b1 : (t128 != 0) = true := bne_iff_ne.mpr c55
             simp only [Option.some.injEq, Prod.mk.injEq] at H
             obtain ⟨rfl, rfl, rfl⟩ := H
             have hnb71 := NB121_110.out
             have hnc71 := NB110_121.out
             obtain ⟨hcz72_0, hcz72_1, hfz72_0, hfz72_1⟩ := cz2_ (w := wc) BK121.out
             go_wp2_with (first | ((with_reducible refine gate_dst (N := 62) rfl ?_); (try (refine gate_guard (by rfl) ?_; dsimp only)); refine Kd.R_lit (Kd.int .u64) _ 22 ?hg (N := 62) ?hd (xs := ([x2_2, ((rd_T44 l0_5 x34_2).f1)] : List Int)) (inner := [.int .u64 x2_2, .int .u64 ((rd_T44 l0_5 x34_2).f1)]) (ok := fun _ => True) (okp := fun _ => True) ?hr ?hp (fun _ hk => hk) trivial (Below.refl _ _) (Nat.le_refl _) (by simp) ?_; (case hd => rfl); (case hg => rfl); (case hr => ((go_simp; done))); (case hp => exact (Reps.one (show Kd.M (Kd.int .u64) _ _ _ x2_2 [.int .u64 x2_2] from rfl) (Reps.one (show Kd.M (Kd.int .u64) _ _ _ ((rd_T44 l0_5 x34_2).f1) [.int .u64 ((rd_T44 l0_5 x34_2).f1)] from rfl) (Reps.none _ _)))); intro v125 w73 ho74 hb hg_ hnew_; clear hg_ hnew_; ((rw [← Ny124.out] at ho74)); have HO126 := aM_ (Kd.R_lower ho74 (below_size (belN HB))); replace BK110 := bbA_ BK110 hb; replace BK121 := bbA_ BK121 hb; replace HB := bsA_ HB hb; clear hb ho74; obtain ⟨Ao75, co75, eo75⟩ := Kd.R_slice HO126.out; subst eo75) | ((with_reducible refine gate_callee (f := 124) rfl ?_); refine gL_ 63 Try.func124 #[.slice Ao75 y124.length co75] ?_; (with_reducible refine (money_Add.calls kj35 _ _ y124 t127 t128 _ ?side1 ?side2 A54.out).mono ?_); (case side1 => exact Kd.CN (Kd.R_reads' HO126.out).2.2); (case side2 => exact (Kd.R_reads' HO126.out).2.1); rintro e w76 ⟨rfl, hb⟩; refine ⟨_, rfl, ?_⟩; replace HO126 := aM_ (Kd.R_below (Kd.RN HO126) hb); replace BK110 := bbA_ BK110 hb; replace BK121 := bbA_ BK121 hb; replace HB := bsA_ HB hb; (try clear hb)))
             go_ret3
             exact ⟨by (rfl), by repeat (((with_reducible (exact HB.out))))⟩
        ·rw [if_neg c35] at H
         exact absurd H (by simp)
       ·rw [if_neg c34] at H
        exact absurd H (by simp)
      ·rw [if_neg c33] at H
       have c33b0 := decide_eq_false c33
       clear c33
       obtain ⟨y115, hy115⟩ : ∃ y_ : List Int, y_ = (([x2_2, a0_1, a0_2] : List Int)) := ⟨_, rfl⟩
       replace H : ((money_Add.f k2 y115).bind fun bt118 => (if bt118.2 = 0 then (some (x2_2, bt118.1, 0)) else (some (0, 0, 1)))) = some (r1, r2, r3) := by ((rw [hy115]; with_reducible exact H))
       have Ny115 := aM_ hy115
       clear hy115
       replace H := oB_ H
       obtain ⟨⟨t118, t119⟩, A770, H⟩ := H
       replace H : (if t119 = 0 then (some (x2_2, t118, 0)) else (some (0, 0, 1))) = some (r1, r2, r3) := H
       have A77 := aM_ A770
       clear A770
       by_cases c78 : t119 = 0
       ·rw [if_pos c78] at H
        have c78b0 : (t119 == 0) = true := beq_iff_eq.mpr c78
        have c78b1 : (t119 != 0) = false := bne_eq_false_iff_eq.mpr c78
        clear c78
        simp only [Option.some.injEq, Prod.mk.injEq] at H
        obtain ⟨rfl, rfl, rfl⟩ := H
        obtain ⟨hcz79_0, hcz79_1, hcz79_2, hcz79_3, hcz79_4, hcz79_5, hcz79_6, hfz79_0, hfz79_1, hfz79_2, hfz79_3, hfz79_4, hfz79_5, hfz79_6⟩ := cz7_ (w := wr) BK110.out
        go_wp2_with (first | ((with_reducible refine gate_dst (N := 81) rfl ?_); (try (refine gate_guard (by rfl) ?_; dsimp only)); refine Kd.R_lit (Kd.int .u64) _ 22 ?hg (N := 81) ?hd (xs := ([x2_2, a0_1, a0_2] : List Int)) (inner := [.int .u64 x2_2, .int .u64 a0_1, .int .u64 a0_2]) (ok := fun _ => True) (okp := fun _ => True) ?hr ?hp (fun _ hk => hk) trivial (Below.refl _ _) (Nat.le_refl _) (by simp) ?_; (case hd => rfl); (case hg => rfl); (case hr => ((go_simp; done))); (case hp => exact (Reps.one (show Kd.M (Kd.int .u64) _ _ _ x2_2 [.int .u64 x2_2] from rfl) (Reps.one (show Kd.M (Kd.int .u64) _ _ _ a0_1 [.int .u64 a0_1] from rfl) (Reps.one (show Kd.M (Kd.int .u64) _ _ _ a0_2 [.int .u64 a0_2] from rfl) (Reps.none _ _))))); intro v116 w80 ho81 hb hg_ hnew_; clear hg_ hnew_; ((rw [← Ny115.out] at ho81)); have HO117 := aM_ (Kd.R_lower ho81 (below_size (belN HB))); replace BK110 := bbA_ BK110 hb; replace HB := bsA_ HB hb; clear hb ho81; obtain ⟨Ao82, co82, eo82⟩ := Kd.R_slice HO117.out; subst eo82) | ((with_reducible refine gate_callee (f := 124) rfl ?_); refine gL_ 82 Try.func124 #[.slice Ao82 y115.length co82] ?_; (with_reducible refine (money_Add.calls k2 _ _ y115 t118 t119 _ ?side1 ?side2 A77.out).mono ?_); (case side1 => exact Kd.CN (Kd.R_reads' HO117.out).2.2); (case side2 => exact (Kd.R_reads' HO117.out).2.1); rintro e w83 ⟨rfl, hb⟩; refine ⟨_, rfl, ?_⟩; replace HO117 := aM_ (Kd.R_below (Kd.RN HO117) hb); replace BK110 := bbA_ BK110 hb; replace HB := bsA_ HB hb; (try clear hb)))
        go_ret3
        exact ⟨by (rfl), by repeat (((with_reducible (exact HB.out))))⟩
       ·rw [if_neg c78] at H
        have c78b0 : (t119 == 0) = false := beq_eq_false_iff_ne.mpr c78
        have c78b1 : (t119 != 0) = true := bne_iff_ne.mpr c78
        simp only [Option.some.injEq, Prod.mk.injEq] at H
        obtain ⟨rfl, rfl, rfl⟩ := H
        obtain ⟨hcz84_0, hcz84_1, hcz84_2, hcz84_3, hcz84_4, hcz84_5, hcz84_6, hfz84_0, hfz84_1, hfz84_2, hfz84_3, hfz84_4, hfz84_5, hfz84_6⟩ := cz7_ (w := wr) BK110.out
        go_wp2_with (first | ((with_reducible refine gate_dst (N := 81) rfl ?_); (try (refine gate_guard (by rfl) ?_; dsimp only)); refine Kd.R_lit (Kd.int .u64) _ 22 ?hg (N := 81) ?hd (xs := ([x2_2, a0_1, a0_2] : List Int)) (inner := [.int .u64 x2_2, .int .u64 a0_1, .int .u64 a0_2]) (ok := fun _ => True) (okp := fun _ => True) ?hr ?hp (fun _ hk => hk) trivial (Below.refl _ _) (Nat.le_refl _) (by simp) ?_; (case hd => rfl); (case hg => rfl); (case hr => ((go_simp; done))); (case hp => exact (Reps.one (show Kd.M (Kd.int .u64) _ _ _ x2_2 [.int .u64 x2_2] from rfl) (Reps.one (show Kd.M (Kd.int .u64) _ _ _ a0_1 [.int .u64 a0_1] from rfl) (Reps.one (show Kd.M (Kd.int .u64) _ _ _ a0_2 [.int .u64 a0_2] from rfl) (Reps.none _ _))))); intro v116 w85 ho86 hb hg_ hnew_; clear hg_ hnew_; ((rw [← Ny115.out] at ho86)); have HO117 := aM_ (Kd.R_lower ho86 (below_size (belN HB))); replace BK110 := bbA_ BK110 hb; replace HB := bsA_ HB hb; clear hb ho86; obtain ⟨Ao87, co87, eo87⟩ := Kd.R_slice HO117.out; subst eo87) | ((with_reducible refine gate_callee (f := 124) rfl ?_); refine gL_ 82 Try.func124 #[.slice Ao87 y115.length co87] ?_; (with_reducible refine (money_Add.calls k2 _ _ y115 t118 t119 _ ?side1 ?side2 A77.out).mono ?_); (case side1 => exact Kd.CN (Kd.R_reads' HO117.out).2.2); (case side2 => exact (Kd.R_reads' HO117.out).2.1); rintro e w88 ⟨rfl, hb⟩; refine ⟨_, rfl, ?_⟩; replace HO117 := aM_ (Kd.R_below (Kd.RN HO117) hb); replace BK110 := bbA_ BK110 hb; replace HB := bsA_ HB hb; (try clear hb)))
        go_ret3
        exact ⟨by (rfl), by repeat (((with_reducible (exact HB.out))))⟩

end Go.Proofs.Ytcfbcoinbecdfaa.P
