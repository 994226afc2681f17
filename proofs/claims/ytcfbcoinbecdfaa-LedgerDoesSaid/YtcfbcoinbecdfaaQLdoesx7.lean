-- written by a program of this session (wip/print)
import Derived.Test.YtcfbcoinbecdfaaQLdoesx0
import Derived.Test.YtcfbcoinbecdfaaQLdoesx2
import Derived.Test.YtcfbcoinbecdfaaQLdoesx3
import Derived.Test.YtcfbcoinbecdfaaQLdoesx4
import Derived.Test.YtcfbcoinbecdfaaQLdoesx5
import Derived.Test.YtcfbcoinbecdfaaQLdoesx6
namespace Go.Proofs.Ytcfbcoinbecdfaa.P
open Go.RowKit Go.Proofs.YtcfbcoinbecdfaaW.PrintWords Go.Proofs.YtcfbcoinbecdfaaW.PrintLast Go.Proofs.YtcfbcoinbecdfaaW.PrintMore
attribute [local go_sem] max2_int min2_int max_two min_two max_three min_three max_four min_four run_sub64_   -- for this text's walks alone
set_option linter.unusedVariables false
set_option linter.unusedSimpArgs false

/-! ### channel_Hold: function 23 -/
mutual
def channel_Hold.j0 : Nat → Int → Int → Int → Int → Bool → Bool → Int → Int → Int → Int → Int → List (S44) → Bool → Option (Int × Int × Int × Int × Int × (List (S44)) × Bool × Int)
 | 0, _, _, _, _, _, _, _, _, _, _, _, _, _ => none
 | k + 1, x1, x2, x8, x11, x12, x26, x156000, x156001, x156002, x156003, x156004, x156005, x156006 => if x26 = true then (some (0, 0, 0, 0, 0, ([] : List (S44)), false, 1)) else (if x156006 = true then (if x12 = true then (some (0, 0, 0, 0, 0, ([] : List (S44)), false, 6)) else (if (x156005.length : Int) = 64 then (some (0, 0, 0, 0, 0, ([] : List (S44)), false, 7)) else (if x156001 < x156003 then (channel_Hold.j1 k x1 x2 x8 x11 true x156000 x156001 x156002 x156003 x156004 x156005 x156006) else (channel_Hold.j1 k x1 x2 x8 x11 (decide (x2 > (IntKind.u64.wrap (x156001 - x156003)))) x156000 x156001 x156002 x156003 x156004 x156005 x156006)))) else (some (0, 0, 0, 0, 0, ([] : List (S44)), false, 14)))
def channel_Hold.j1 : Nat → Int → Int → Int → Int → Bool → Int → Int → Int → Int → Int → List (S44) → Bool → Option (Int × Int × Int × Int × Int × (List (S44)) × Bool × Int)
 | 0, _, _, _, _, _, _, _, _, _, _, _, _ => none
 | k + 1, x1, x2, x8, x11, x54, x156000, x156001, x156002, x156003, x156004, x156005, x156006 => if x54 = true then (some (0, 0, 0, 0, 0, ([] : List (S44)), false, 9)) else (if x2 > (IntKind.u64.wrap (x156004 - x8)) then (some (0, 0, 0, 0, 0, ([] : List (S44)), false, 8)) else ((slices_Clone_Hold.f x156005).bind fun t166 => ((slices_Insert_Hold.f t166 x11 (([(⟨x1, x2⟩ : S44)] : List (S44)))).bind fun t172 => (some (x156000, IntKind.u64.wrap (x156001 - x2), x156002, x156003, x156004, t172, x156006, 0)))))
end
def channel_Hold.f (k : Nat) (a0_0 : Int) (a0_1 : Int) (a0_2 : Int) (a0_3 : Int) (a0_4 : Int) (l0_5 : List (S44)) (a0_6 : Bool) (a1 : Int) (a2 : Int) : Option (Int × Int × Int × Int × Int × (List (S44)) × Bool × Int) := (channel_sums.f k a0_0 a0_1 a0_2 a0_3 a0_4 l0_5 a0_6).bind fun bt157 => ((slices_BinarySearchFunc_uint64_at_channel_order.f k l0_5 a1).bind fun bt160 => (if bt157.2.2 = 0 then (if a2 = 0 then (channel_Hold.j0 k a1 a2 bt157.1 bt160.1 bt160.2 true a0_0 a0_1 a0_2 a0_3 a0_4 l0_5 a0_6) else ((money_Check.f k (([a2] : List Int))).bind fun t165 => (channel_Hold.j0 k a1 a2 bt157.1 bt160.1 bt160.2 (t165 != 0) a0_0 a0_1 a0_2 a0_3 a0_4 l0_5 a0_6))) else (channel_Hold.j0 k a1 a2 bt157.1 bt160.1 bt160.2 true a0_0 a0_1 a0_2 a0_3 a0_4 l0_5 a0_6)))
theorem channel_Hold.mono_l : ∀ k, (∀ y0 y1 y2 y3 y4 y5 y6 y7 y8 y9 y10 y11 y12, LeO (channel_Hold.j0 k y0 y1 y2 y3 y4 y5 y6 y7 y8 y9 y10 y11 y12) (channel_Hold.j0 (k + 1) y0 y1 y2 y3 y4 y5 y6 y7 y8 y9 y10 y11 y12)) ∧ (∀ y0 y1 y2 y3 y4 y5 y6 y7 y8 y9 y10 y11, LeO (channel_Hold.j1 k y0 y1 y2 y3 y4 y5 y6 y7 y8 y9 y10 y11) (channel_Hold.j1 (k + 1) y0 y1 y2 y3 y4 y5 y6 y7 y8 y9 y10 y11))
 | 0 => ⟨fun _ _ _ _ _ _ _ _ _ _ _ _ _ r h => by simp [channel_Hold.j0] at h, fun _ _ _ _ _ _ _ _ _ _ _ _ r h => by simp [channel_Hold.j1] at h⟩
 | k + 1 => by
  obtain ⟨ih0, ih1⟩ := channel_Hold.mono_l k
  refine ⟨?_, ?_⟩
  ·intro y0 y1 y2 y3 y4 y5 y6 y7 y8 y9 y10 y11 y12
   unfold channel_Hold.j0
   repeat' first
   | (with_reducible exact ih1 _ _ _ _ _ _ _ _ _ _ _ _)
   | (with_reducible exact LeO.refl _)
   | (with_reducible refine LeO.ite ?_ ?_)
   | exact ih0 _ _ _ _ _ _ _ _ _ _ _ _ _
   | exact ih1 _ _ _ _ _ _ _ _ _ _ _ _
   | exact channel_sums.mono _ _ _ _ _ _ _ _
   | exact money_Check.mono _ _
   | exact slices_BinarySearchFunc_uint64_at_channel_order.mono _ _ _
   | exact LeO.none _
   | refine LeO.ite ?_ ?_
   | refine LeO.bind ?_ (fun _ => ?_)
  ·intro y0 y1 y2 y3 y4 y5 y6 y7 y8 y9 y10 y11
   unfold channel_Hold.j1
   repeat' first
   | (with_reducible exact LeO.refl _)
   | exact ih0 _ _ _ _ _ _ _ _ _ _ _ _ _
   | exact ih1 _ _ _ _ _ _ _ _ _ _ _ _
   | exact channel_sums.mono _ _ _ _ _ _ _ _
   | exact money_Check.mono _ _
   | exact slices_BinarySearchFunc_uint64_at_channel_order.mono _ _ _
   | exact LeO.none _
   | refine LeO.ite ?_ ?_
   | refine LeO.bind ?_ (fun _ => ?_)
theorem channel_Hold.mono : ∀ a0 a1 a2 a3 a4 a5 a6 a7 a8 k, LeO (channel_Hold.f k a0 a1 a2 a3 a4 a5 a6 a7 a8) (channel_Hold.f (k + 1) a0 a1 a2 a3 a4 a5 a6 a7 a8) := by
 intro a0 a1 a2 a3 a4 a5 a6 a7 a8 k
 obtain ⟨ih0, ih1⟩ := channel_Hold.mono_l k
 unfold channel_Hold.f
 repeat' first
   | (with_reducible exact ih0 _ _ _ _ _ _ _ _ _ _ _ _ _)
   | (with_reducible exact channel_sums.mono _ _ _ _ _ _ _ _)
   | (with_reducible exact money_Check.mono _ _)
   | (with_reducible exact slices_BinarySearchFunc_uint64_at_channel_order.mono _ _ _)
   | (with_reducible refine LeO.ite ?_ ?_)
   | (with_reducible refine LeO.bind ?_ (fun _ => ?_))
   | exact ih0 _ _ _ _ _ _ _ _ _ _ _ _ _
   | exact ih1 _ _ _ _ _ _ _ _ _ _ _ _
   | exact channel_sums.mono _ _ _ _ _ _ _ _
   | exact money_Check.mono _ _
   | exact slices_BinarySearchFunc_uint64_at_channel_order.mono _ _ _
   | exact LeO.none _
   | refine LeO.ite ?_ ?_
   | refine LeO.bind ?_ (fun _ => ?_)
set_option maxHeartbeats 8000000 in
set_option maxRecDepth 100000 in
theorem channel_Hold.calls (k : Nat) (a0_0 : Int) (a0_1 : Int) (a0_2 : Int) (a0_3 : Int) (a0_4 : Int) (A0_5 : Option Addr) (c0_5 : Nat) (l0_5 : List (S44)) (a0_6 : Bool) (a1 : Int) (a2 : Int) (r1 : Int) (r2 : Int) (r3 : Int) (r4 : Int) (r5 : Int) (r6 : List (S44)) (r7 : Bool) (r8 : Int) (w : World) (hr0_5 : Kd.C k44 w A0_5 l0_5.length l0_5) (hc0_5 : l0_5.length ≤ c0_5) (h : channel_Hold.f k a0_0 a0_1 a0_2 a0_3 a0_4 l0_5 a0_6 a1 a2 = some (r1, r2, r3, r4, r5, r6, r7, r8)) :
  Calls Try.prog 23 #[.agg #[.int .u64 a0_0, .int .u64 a0_1, .int .u64 a0_2, .int .u64 a0_3, .int .u64 a0_4, .slice A0_5 l0_5.length c0_5, .bool a0_6], .int .u64 a1, .int .u64 a2] w fun e w' => ∃ v5_ : Value, e = .returned (.tuple #[.agg #[.int .u64 r1, .int .u64 r2, .int .u64 r3, .int .u64 r4, .int .u64 r5, v5_, .bool r7], .int .i64 r8]) ∧ Kd.R k44 44 w' w.heap.size (fun _ => True) v5_ r6 ∧ Below w.heap.size w w' := by
 have hu25 := Try.underlying25
 have hu44 := Try.underlying44
 have HR0_5 := aM_ hr0_5
 have HC0_5 := aM_ hc0_5
 clear hr0_5 hc0_5
 have HB := aM_ (Below.refl w.heap.size w)
 have H : ((channel_sums.f k a0_0 a0_1 a0_2 a0_3 a0_4 l0_5 a0_6).bind fun bt157 => ((slices_BinarySearchFunc_uint64_at_channel_order.f k l0_5 a1).bind fun bt160 => (if bt157.2.2 = 0 then (if a2 = 0 then (channel_Hold.j0 k a1 a2 bt157.1 bt160.1 bt160.2 true a0_0 a0_1 a0_2 a0_3 a0_4 l0_5 a0_6) else ((money_Check.f k (([a2] : List Int))).bind fun t165 => (channel_Hold.j0 k a1 a2 bt157.1 bt160.1 bt160.2 (t165 != 0) a0_0 a0_1 a0_2 a0_3 a0_4 l0_5 a0_6))) else (channel_Hold.j0 k a1 a2 bt157.1 bt160.1 bt160.2 true a0_0 a0_1 a0_2 a0_3 a0_4 l0_5 a0_6)))) = some (r1, r2, r3, r4, r5, r6, r7, r8) := h
 clear h
 replace H := oB_ H
 obtain ⟨⟨t157, t158, t159⟩, A40, H⟩ := H
 replace H : ((slices_BinarySearchFunc_uint64_at_channel_order.f k l0_5 a1).bind fun bt160 => (if t159 = 0 then (if a2 = 0 then (channel_Hold.j0 k a1 a2 t157 bt160.1 bt160.2 true a0_0 a0_1 a0_2 a0_3 a0_4 l0_5 a0_6) else ((money_Check.f k (([a2] : List Int))).bind fun t165 => (channel_Hold.j0 k a1 a2 t157 bt160.1 bt160.2 (t165 != 0) a0_0 a0_1 a0_2 a0_3 a0_4 l0_5 a0_6))) else (channel_Hold.j0 k a1 a2 t157 bt160.1 bt160.2 true a0_0 a0_1 a0_2 a0_3 a0_4 l0_5 a0_6))) = some (r1, r2, r3, r4, r5, r6, r7, r8) := H
 have A4 := aM_ A40
 clear A40
 replace H := oB_ H
 obtain ⟨⟨t160, t161⟩, A50, H⟩ := H
 replace H : (if t159 = 0 then (if a2 = 0 then (channel_Hold.j0 k a1 a2 t157 t160 t161 true a0_0 a0_1 a0_2 a0_3 a0_4 l0_5 a0_6) else ((money_Check.f k (([a2] : List Int))).bind fun t165 => (channel_Hold.j0 k a1 a2 t157 t160 t161 (t165 != 0) a0_0 a0_1 a0_2 a0_3 a0_4 l0_5 a0_6))) else (channel_Hold.j0 k a1 a2 t157 t160 t161 true a0_0 a0_1 a0_2 a0_3 a0_4 l0_5 a0_6)) = some (r1, r2, r3, r4, r5, r6, r7, r8) := H
 have A5 := aM_ A50
 clear A50
 have HC6 := aM_ H
 clear H
 go_enter Try.func23, Try.ntmps23
 go_upto_region 3 with (first | ((with_reducible refine gate_dst (N := 3) rfl ?_); (try (refine gate_guard (by rfl) ?_; dsimp only)); refine box_event ?hg (N := 3) ?hd (cs := #[.int .u64 a0_0, .int .u64 a0_1, .int .u64 a0_2, .int .u64 a0_3, .int .u64 a0_4, .slice A0_5 l0_5.length c0_5, .bool a0_6]) (t := 25) ?hr ?_; (case hd => rfl); (case hg => rfl); (case hr => ((go_simp; done))); intro gb155 hg w7 hbox hb; have BK155 := aM_ (hbox); have GW155 := aM_ (geN HB hg); have GE155 := aM_ (geN HB hg); replace HB := bsA_ HB hb; clear hb hbox hg) | ((with_reducible refine gate_dst (N := 6) rfl ?_); (try (refine gate_guard (by rfl) ?_; dsimp only)); refine box_event ?hg (N := 6) ?hd (cs := #[.int .u64 0, .int .u64 0, .int .u64 0, .int .u64 0, .int .u64 0, .slice none 0 0, .bool false]) (t := 25) ?hr ?_; (case hd => rfl); (case hg => rfl); (case hr => ((go_simp; done))); intro gb156 hg w8 hbox hb; have BK156 := aM_ (hbox); have GW156 := aM_ (geN HB hg); have GE156 := aM_ (geN HB hg); replace HB := bsA_ HB hb; have NB155_156 := aM_ (neN BK155 hg); have NB156_155 := aM_ (neN' BK155 hg); replace BK155 := bbA_ BK155 hb; clear hb hbox hg; have hnb9 := NB155_156.out; have hnc9 := NB156_155.out; obtain ⟨hcz10_0, hcz10_1, hcz10_2, hcz10_3, hcz10_4, hcz10_5, hcz10_6, hfz10_0, hfz10_1, hfz10_2, hfz10_3, hfz10_4, hfz10_5, hfz10_6⟩ := cz7_ (w := w8) BK155.out) | ((with_reducible refine gate_callee (f := 83) rfl ?_); refine gL_ 15 Try.func83 #[.agg #[.int .u64 a0_0, .int .u64 a0_1, .int .u64 a0_2, .int .u64 a0_3, .int .u64 a0_4, .slice A0_5 l0_5.length c0_5, .bool a0_6]] ?_; (with_reducible refine (channel_sums.calls k a0_0 a0_1 a0_2 a0_3 a0_4 _ _ l0_5 a0_6 t157 t158 t159 _ ?side1 ?side2 A4.out).mono ?_); (case side1 => repeat ((exact (Kd.C_below HR0_5.out HB.out)))); (case side2 => exact HC0_5.out); rintro e w11 ⟨rfl, hb⟩; refine ⟨_, rfl, ?_⟩; replace BK155 := bbA_ BK155 hb; replace BK156 := bbA_ BK156 hb; replace HB := bsA_ HB hb; (try clear hb); obtain ⟨hcz12_0, hcz12_1, hcz12_2, hcz12_3, hcz12_4, hcz12_5, hcz12_6, hfz12_0, hfz12_1, hfz12_2, hfz12_3, hfz12_4, hfz12_5, hfz12_6⟩ := cz7_ (w := w11) BK155.out) | ((with_reducible refine gate_callee (f := 85) rfl ?_); refine gL_ 23 Try.func85 #[.slice A0_5 l0_5.length c0_5, .int .u64 a1, .func (.func 86) #[] #[]] ?_; (with_reducible refine (slices_BinarySearchFunc_uint64_at_channel_order.calls k _ _ l0_5 a1  t160 t161 _ ?side1 ?side2 A5.out).mono ?_); (case side1 => repeat ((exact (Kd.C_below HR0_5.out HB.out)))); (case side2 => exact HC0_5.out); rintro e w13 ⟨rfl, hb⟩; refine ⟨_, rfl, ?_⟩; replace BK155 := bbA_ BK155 hb; replace BK156 := bbA_ BK156 hb; replace HB := bsA_ HB hb; (try clear hb)))
 go_cut [26] (fun v26 wc => ∃ (kq : Nat) (x26_5 : Bool), v26 = .bool x26_5 ∧ Aside0 (channel_Hold.j0 kq a1 a2 t157 t160 t161 x26_5 a0_0 a0_1 a0_2 a0_3 a0_4 l0_5 a0_6 = some (r1, r2, r3, r4, r5, r6, r7, r8)) ∧ Aside0 (kq ≤ k) ∧ Aside0 (wc.heap[gb155]? = some (.cells #[.int .u64 a0_0, .int .u64 a0_1, .int .u64 a0_2, .int .u64 a0_3, .int .u64 a0_4, (.slice A0_5 l0_5.length c0_5), .bool a0_6] 25 (0, 0))) ∧ Aside0 (wc.heap[gb156]? = some (.cells #[.int .u64 0, .int .u64 0, .int .u64 0, .int .u64 0, .int .u64 0, (.slice none 0 0), .bool false] 25 (0, 0))) ∧ Aside0 (Below w.heap.size w wc))
 case first =>
  have H := HC6.out
  clear HC6
  by_cases c14 : t159 = 0
  ·rw [if_pos c14] at H
   have c14b0 : (t159 == 0) = true := beq_iff_eq.mpr c14
   have c14b1 : (t159 != 0) = false := bne_eq_false_iff_eq.mpr c14
   clear c14
   ((skip))
   by_cases c15 : a2 = 0
   ·rw [if_pos c15] at H
    have c15b0 : (a2 == 0) = true := beq_iff_eq.mpr c15
    have c15b1 : (a2 != 0) = false := bne_eq_false_iff_eq.mpr c15
    clear c15
    have H' := aM_ H
    clear H
    go_wp2
    go_meet
    case rel => exact ⟨_, (true), (by (rfl)), H', ⟨by (omega)⟩, ⟨by exact BK155.out⟩, ⟨by exact BK156.out⟩, ⟨by repeat (((with_reducible (exact HB.out))))⟩⟩
   ·rw [if_neg c15] at H
    have c15b0 : (a2 == 0) = false := beq_eq_false_iff_ne.mpr c15
    have c15b1 : (a2 != 0) = true := bne_iff_ne.mpr c15
    obtain ⟨y162, hy162⟩ : ∃ y_ : List Int, y_ = (([a2] : List Int)) := ⟨_, rfl⟩
    replace H : ((money_Check.f k y162).bind fun t165 => (channel_Hold.j0 k a1 a2 t157 t160 t161 (t165 != 0) a0_0 a0_1 a0_2 a0_3 a0_4 l0_5 a0_6)) = some (r1, r2, r3, r4, r5, r6, r7, r8) := by ((rw [hy162]; with_reducible exact H))
    have Ny162 := aM_ hy162
    clear hy162
    replace H := oB_ H
    obtain ⟨t165, A160, H⟩ := H
    replace H : (channel_Hold.j0 k a1 a2 t157 t160 t161 (t165 != 0) a0_0 a0_1 a0_2 a0_3 a0_4 l0_5 a0_6) = some (r1, r2, r3, r4, r5, r6, r7, r8) := H
    have A16 := aM_ A160
    clear A160
    have H' := aM_ H
    clear H
    go_wp2_with (first | ((with_reducible refine gate_dst (N := 35) rfl ?_); (try (refine gate_guard (by rfl) ?_; dsimp only)); refine Kd.R_lit (Kd.int .u64) _ 22 ?hg (N := 35) ?hd (xs := ([a2] : List Int)) (inner := [.int .u64 a2]) (ok := fun _ => True) (okp := fun _ => True) ?hr ?hp (fun _ hk => hk) trivial (Below.refl _ _) (Nat.le_refl _) (by simp) ?_; (case hd => rfl); (case hg => rfl); (case hr => ((go_simp; done))); (case hp => exact (Reps.one (show Kd.M (Kd.int .u64) _ _ _ a2 [.int .u64 a2] from rfl) (Reps.none _ _))); intro v163 w17 ho18 hb hg_ hnew_; clear hg_ hnew_; ((rw [← Ny162.out] at ho18)); have HO164 := aM_ (Kd.R_lower ho18 (below_size (belN HB))); replace BK155 := bbA_ BK155 hb; replace BK156 := bbA_ BK156 hb; replace HB := bsA_ HB hb; clear hb ho18; obtain ⟨Ao19, co19, eo19⟩ := Kd.R_slice HO164.out; subst eo19) | (go_at_call 87; (with_reducible refine (money_Check.calls k _ _ y162 t165 _ ?side1 ?side2 A16.out).mono ?_); (case side1 => exact Kd.CN (Kd.R_reads' HO164.out).2.2); (case side2 => exact (Kd.R_reads' HO164.out).2.1); rintro e w20 ⟨rfl, hb⟩; replace HO164 := aM_ (Kd.R_below (Kd.RN HO164) hb); replace BK155 := bbA_ BK155 hb; replace BK156 := bbA_ BK156 hb; replace HB := bsA_ HB hb; (try clear hb)))
    go_meet
    case rel => exact ⟨_, ((t165 != 0)), (by (rfl)), H', ⟨by (omega)⟩, ⟨by exact BK155.out⟩, ⟨by exact BK156.out⟩, ⟨by repeat (((with_reducible (exact HB.out))))⟩⟩
  ·rw [if_neg c14] at H
   have c14b0 : (t159 == 0) = false := beq_eq_false_iff_ne.mpr c14
   have c14b1 : (t159 != 0) = true := bne_iff_ne.mpr c14
   ((skip))
   have H' := aM_ H
   clear H
   go_wp2
   go_meet
   case rel => exact ⟨_, (true), (by (rfl)), H', ⟨by (omega)⟩, ⟨by exact BK155.out⟩, ⟨by exact BK156.out⟩, ⟨by repeat (((with_reducible (exact HB.out))))⟩⟩
 case rest =>
  clear HC6
  try clear hcz10_0
  try clear hcz10_1
  try clear hcz10_2
  try clear hcz10_3
  try clear hcz10_4
  try clear hcz10_5
  try clear hcz10_6
  try clear hcz12_0
  try clear hcz12_1
  try clear hcz12_2
  try clear hcz12_3
  try clear hcz12_4
  try clear hcz12_5
  try clear hcz12_6
  try clear hfz10_0
  try clear hfz10_1
  try clear hfz10_2
  try clear hfz10_3
  try clear hfz10_4
  try clear hfz10_5
  try clear hfz10_6
  try clear hfz12_0
  try clear hfz12_1
  try clear hfz12_2
  try clear hfz12_3
  try clear hfz12_4
  try clear hfz12_5
  try clear hfz12_6
  obtain ⟨kq, x26_5, rfl, HA, HJ5, BK155, BK156, HB⟩ := hcut
  cases kq with
  | zero => exact absurd HA.out (by simp [channel_Hold.j0])
  | succ kj5 =>
   have H := HA.out
   clear HA
   simp only [channel_Hold.j0] at H
   by_cases c21 : x26_5 = true
   ·subst c21
    have H1 : (some (0, 0, 0, 0, 0, ([] : List (S44)), false, 1)) = some (r1, r2, r3, r4, r5, r6, r7, r8) := by rw [if_pos rfl] at H; exact H
    clear H
    have H := H1
    clear H1
    simp only [Option.some.injEq, Prod.mk.injEq] at H
    obtain ⟨rfl, rfl, rfl, rfl, rfl, rfl, rfl, rfl⟩ := H
    have hnb22 := NB156_155.out
    have hnc22 := NB155_156.out
    obtain ⟨hcz23_0, hcz23_1, hcz23_2, hcz23_3, hcz23_4, hcz23_5, hcz23_6, hfz23_0, hfz23_1, hfz23_2, hfz23_3, hfz23_4, hfz23_5, hfz23_6⟩ := cz7_ (w := wc) BK156.out
    go_wp2
    refine bodyPost_ret (results_ct rfl _ _ gb156 25 #[.int .u64 0, .int .u64 0, .int .u64 0, .int .u64 0, .int .u64 0, .slice none 0 0, .bool false] (0, 0) _ rfl (by apply bp7_; exact BK156.out) Try.underlying25 rfl (by kernel_rfl)) rfl ?_
    exact ⟨_, by (rfl), by (exact Kd.R_nil _ _ _ _ _), by repeat (((with_reducible first | exact HB.out | refine below_set ?_ GE156.out)))⟩
   ·replace c21 := Bool.eq_false_iff.mpr c21
    subst c21
    have H1 : (if a0_6 = true then (if t161 = true then (some (0, 0, 0, 0, 0, ([] : List (S44)), false, 6)) else (if (l0_5.length : Int) = 64 then (some (0, 0, 0, 0, 0, ([] : List (S44)), false, 7)) else (if a0_1 < a0_3 then (channel_Hold.j1 kj5 a1 a2 t157 t160 true a0_0 a0_1 a0_2 a0_3 a0_4 l0_5 a0_6) else (channel_Hold.j1 kj5 a1 a2 t157 t160 (decide (a2 > (IntKind.u64.wrap (a0_1 - a0_3)))) a0_0 a0_1 a0_2 a0_3 a0_4 l0_5 a0_6)))) else (some (0, 0, 0, 0, 0, ([] : List (S44)), false, 14))) = some (r1, r2, r3, r4, r5, r6, r7, r8) := by rw [if_neg (show ¬ (false = true) by decide)] at H; exact H
    clear H
    have H := H1
    clear H1
    by_cases c24 : a0_6 = true
    ·subst c24
     have H1 : (if t161 = true then (some (0, 0, 0, 0, 0, ([] : List (S44)), false, 6)) else (if (l0_5.length : Int) = 64 then (some (0, 0, 0, 0, 0, ([] : List (S44)), false, 7)) else (if a0_1 < a0_3 then (channel_Hold.j1 kj5 a1 a2 t157 t160 true a0_0 a0_1 a0_2 a0_3 a0_4 l0_5 true) else (channel_Hold.j1 kj5 a1 a2 t157 t160 (decide (a2 > (IntKind.u64.wrap (a0_1 - a0_3)))) a0_0 a0_1 a0_2 a0_3 a0_4 l0_5 true)))) = some (r1, r2, r3, r4, r5, r6, r7, r8) := by rw [if_pos rfl] at H; exact H
     clear H
     have H := H1
     clear H1
     by_cases c25 : t161 = true
     ·subst c25
      have H1 : (some (0, 0, 0, 0, 0, ([] : List (S44)), false, 6)) = some (r1, r2, r3, r4, r5, r6, r7, r8) := by rw [if_pos rfl] at H; exact H
      clear H
      have H := H1
      clear H1
      simp only [Option.some.injEq, Prod.mk.injEq] at H
      obtain ⟨rfl, rfl, rfl, rfl, rfl, rfl, rfl, rfl⟩ := H
      have hnb26 := NB155_156.out
      have hnc26 := NB156_155.out
      obtain ⟨hcz27_0, hcz27_1, hcz27_2, hcz27_3, hcz27_4, hcz27_5, hcz27_6, hfz27_0, hfz27_1, hfz27_2, hfz27_3, hfz27_4, hfz27_5, hfz27_6⟩ := cz7_ (w := wc) BK155.out
      obtain ⟨hcz28_0, hcz28_1, hcz28_2, hcz28_3, hcz28_4, hcz28_5, hcz28_6, hfz28_0, hfz28_1, hfz28_2, hfz28_3, hfz28_4, hfz28_5, hfz28_6⟩ := cz7_ (w := wc) BK156.out
      go_wp2
      refine bodyPost_ret (results_ct rfl _ _ gb156 25 #[.int .u64 0, .int .u64 0, .int .u64 0, .int .u64 0, .int .u64 0, .slice none 0 0, .bool false] (0, 0) _ rfl (by apply bp7_; exact BK156.out) Try.underlying25 rfl (by kernel_rfl)) rfl ?_
      exact ⟨_, by (rfl), by (exact Kd.R_nil _ _ _ _ _), by repeat (((with_reducible first | exact HB.out | refine below_set ?_ GE156.out)))⟩
     ·replace c25 := Bool.eq_false_iff.mpr c25
      subst c25
      have H1 : (if (l0_5.length : Int) = 64 then (some (0, 0, 0, 0, 0, ([] : List (S44)), false, 7)) else (if a0_1 < a0_3 then (channel_Hold.j1 kj5 a1 a2 t157 t160 true a0_0 a0_1 a0_2 a0_3 a0_4 l0_5 true) else (channel_Hold.j1 kj5 a1 a2 t157 t160 (decide (a2 > (IntKind.u64.wrap (a0_1 - a0_3)))) a0_0 a0_1 a0_2 a0_3 a0_4 l0_5 true))) = some (r1, r2, r3, r4, r5, r6, r7, r8) := by rw [if_neg (show ¬ (false = true) by decide)] at H; exact H
      clear H
      have H := H1
      clear H1
      by_cases c29 : (l0_5.length : Int) = 64
      ·rw [if_pos c29] at H
       have c29b0 : ((l0_5.length : Int) == 64) = true := beq_iff_eq.mpr c29
       have c29b1 : ((l0_5.length : Int) != 64) = false := bne_eq_false_iff_eq.mpr c29
       clear c29
       simp only [Option.some.injEq, Prod.mk.injEq] at H
       obtain ⟨rfl, rfl, rfl, rfl, rfl, rfl, rfl, rfl⟩ := H
       have hnb30 := NB155_156.out
       have hnc30 := NB156_155.out
       obtain ⟨hcz31_0, hcz31_1, hcz31_2, hcz31_3, hcz31_4, hcz31_5, hcz31_6, hfz31_0, hfz31_1, hfz31_2, hfz31_3, hfz31_4, hfz31_5, hfz31_6⟩ := cz7_ (w := wc) BK155.out
       obtain ⟨hcz32_0, hcz32_1, hcz32_2, hcz32_3, hcz32_4, hcz32_5, hcz32_6, hfz32_0, hfz32_1, hfz32_2, hfz32_3, hfz32_4, hfz32_5, hfz32_6⟩ := cz7_ (w := wc) BK156.out
       go_wp2
       refine bodyPost_ret (results_ct rfl _ _ gb156 25 #[.int .u64 0, .int .u64 0, .int .u64 0, .int .u64 0, .int .u64 0, .slice none 0 0, .bool false] (0, 0) _ rfl (by apply bp7_; exact BK156.out) Try.underlying25 rfl (by kernel_rfl)) rfl ?_
       exact ⟨_, by (rfl), by (exact Kd.R_nil _ _ _ _ _), by repeat (((with_reducible first | exact HB.out | refine below_set ?_ GE156.out)))⟩
      ·rw [if_neg c29] at H
       have c29b0 : ((l0_5.length : Int) == 64) = false := beq_eq_false_iff_ne.mpr c29
       have c29b1 : ((l0_5.length : Int) != 64) = true := bne_iff_ne.mpr c29
       have HC33 := aM_ H
       clear H
       have hnb34 := NB155_156.out
       have hnc34 := NB156_155.out
       obtain ⟨hcz35_0, hcz35_1, hcz35_2, hcz35_3, hcz35_4, hcz35_5, hcz35_6, hfz35_0, hfz35_1, hfz35_2, hfz35_3, hfz35_4, hfz35_5, hfz35_6⟩ := cz7_ (w := wc) BK155.out
       go_upto_region 11 with (fail)
       go_cut [54] (fun v54 wc => ∃ (kq : Nat) (x54_32 : Bool), v54 = .bool x54_32 ∧ Aside0 (channel_Hold.j1 kq a1 a2 t157 t160 x54_32 a0_0 a0_1 a0_2 a0_3 a0_4 l0_5 true = some (r1, r2, r3, r4, r5, r6, r7, r8)) ∧ Aside0 (kq ≤ kj5) ∧ Aside0 (wc.heap[gb155]? = some (.cells #[.int .u64 a0_0, .int .u64 a0_1, .int .u64 a0_2, .int .u64 a0_3, .int .u64 a0_4, (.slice A0_5 l0_5.length c0_5), .bool true] 25 (0, 0))) ∧ Aside0 (wc.heap[gb156]? = some (.cells #[.int .u64 0, .int .u64 0, .int .u64 0, .int .u64 0, .int .u64 0, (.slice none 0 0), .bool false] 25 (0, 0))) ∧ Aside0 (Below w.heap.size w wc))
       case first =>
        have H := HC33.out
        clear HC33
        by_cases c36 : a0_1 < a0_3
        ·rw [if_pos c36] at H
         have c36b0 := decide_eq_true c36
         clear c36
         ((skip))
         have H' := aM_ H
         clear H
         have hnb37 := NB155_156.out
         have hnc37 := NB156_155.out
         obtain ⟨hcz38_0, hcz38_1, hcz38_2, hcz38_3, hcz38_4, hcz38_5, hcz38_6, hfz38_0, hfz38_1, hfz38_2, hfz38_3, hfz38_4, hfz38_5, hfz38_6⟩ := cz7_ (w := wc) BK155.out
         go_wp2
         go_meet
         case rel => exact ⟨_, (true), (by (rfl)), H', ⟨by have := HJ5.out; (omega)⟩, ⟨by exact BK155.out⟩, ⟨by exact BK156.out⟩, ⟨by repeat (((with_reducible (exact HB.out))))⟩⟩
        ·rw [if_neg c36] at H
         have c36b0 := decide_eq_false c36
         clear c36
         ((skip))
         have H' := aM_ H
         clear H
         have hnb39 := NB155_156.out
         have hnc39 := NB156_155.out
         obtain ⟨hcz40_0, hcz40_1, hcz40_2, hcz40_3, hcz40_4, hcz40_5, hcz40_6, hfz40_0, hfz40_1, hfz40_2, hfz40_3, hfz40_4, hfz40_5, hfz40_6⟩ := cz7_ (w := wc) BK155.out
         go_wp2
         go_meet
         case rel => exact ⟨_, (decide (a2 > (IntKind.u64.wrap (a0_1 - a0_3)))), (by (rfl)), H', ⟨by have := HJ5.out; (omega)⟩, ⟨by exact BK155.out⟩, ⟨by exact BK156.out⟩, ⟨by repeat (((with_reducible (exact HB.out))))⟩⟩
       case rest =>
        clear HC33
        try clear c29
        try clear c29b0
        try clear c29b1
        try clear hcz35_0
        try clear hcz35_1
        try clear hcz35_2
        try clear hcz35_3
        try clear hcz35_4
        try clear hcz35_5
        try clear hcz35_6
        try clear hfz35_0
        try clear hfz35_1
        try clear hfz35_2
        try clear hfz35_3
        try clear hfz35_4
        try clear hfz35_5
        try clear hfz35_6
        obtain ⟨kq, x54_32, rfl, HA, HJ32, BK155, BK156, HB⟩ := hcut
        cases kq with
        | zero => exact absurd HA.out (by simp [channel_Hold.j1])
        | succ kj32 =>
         have H := HA.out
         clear HA
         simp only [channel_Hold.j1] at H
         by_cases c41 : x54_32 = true
         ·subst c41
          have H1 : (some (0, 0, 0, 0, 0, ([] : List (S44)), false, 9)) = some (r1, r2, r3, r4, r5, r6, r7, r8) := by rw [if_pos rfl] at H; exact H
          clear H
          have H := H1
          clear H1
          simp only [Option.some.injEq, Prod.mk.injEq] at H
          obtain ⟨rfl, rfl, rfl, rfl, rfl, rfl, rfl, rfl⟩ := H
          have hnb42 := NB156_155.out
          have hnc42 := NB155_156.out
          obtain ⟨hcz43_0, hcz43_1, hcz43_2, hcz43_3, hcz43_4, hcz43_5, hcz43_6, hfz43_0, hfz43_1, hfz43_2, hfz43_3, hfz43_4, hfz43_5, hfz43_6⟩ := cz7_ (w := wc) BK156.out
          go_wp2
          refine bodyPost_ret (results_ct rfl _ _ gb156 25 #[.int .u64 0, .int .u64 0, .int .u64 0, .int .u64 0, .int .u64 0, .slice none 0 0, .bool false] (0, 0) _ rfl (by apply bp7_; exact BK156.out) Try.underlying25 rfl (by kernel_rfl)) rfl ?_
          exact ⟨_, by (rfl), by (exact Kd.R_nil _ _ _ _ _), by repeat (((with_reducible first | exact HB.out | refine below_set ?_ GE156.out)))⟩
         ·replace c41 := Bool.eq_false_iff.mpr c41
          subst c41
          have H1 : (if a2 > (IntKind.u64.wrap (a0_4 - t157)) then (some (0, 0, 0, 0, 0, ([] : List (S44)), false, 8)) else ((slices_Clone_Hold.f l0_5).bind fun t166 => ((slices_Insert_Hold.f t166 t160 (([(⟨a1, a2⟩ : S44)] : List (S44)))).bind fun t172 => (some (a0_0, IntKind.u64.wrap (a0_1 - a2), a0_2, a0_3, a0_4, t172, true, 0))))) = some (r1, r2, r3, r4, r5, r6, r7, r8) := by rw [if_neg (show ¬ (false = true) by decide)] at H; exact H
          clear H
          have H := H1
          clear H1
          by_cases c44 : a2 > (IntKind.u64.wrap (a0_4 - t157))
          ·rw [if_pos c44] at H
           have c44b0 : decide ((IntKind.u64.wrap (a0_4 - t157)) < a2) = true := decide_eq_true c44
           clear c44
           simp only [Option.some.injEq, Prod.mk.injEq] at H
           obtain ⟨rfl, rfl, rfl, rfl, rfl, rfl, rfl, rfl⟩ := H
           have hnb45 := NB155_156.out
           have hnc45 := NB156_155.out
           obtain ⟨hcz46_0, hcz46_1, hcz46_2, hcz46_3, hcz46_4, hcz46_5, hcz46_6, hfz46_0, hfz46_1, hfz46_2, hfz46_3, hfz46_4, hfz46_5, hfz46_6⟩ := cz7_ (w := wc) BK155.out
           obtain ⟨hcz47_0, hcz47_1, hcz47_2, hcz47_3, hcz47_4, hcz47_5, hcz47_6, hfz47_0, hfz47_1, hfz47_2, hfz47_3, hfz47_4, hfz47_5, hfz47_6⟩ := cz7_ (w := wc) BK156.out
           go_wp2
           refine bodyPost_ret (results_ct rfl _ _ gb156 25 #[.int .u64 0, .int .u64 0, .int .u64 0, .int .u64 0, .int .u64 0, .slice none 0 0, .bool false] (0, 0) _ rfl (by apply bp7_; exact BK156.out) Try.underlying25 rfl (by kernel_rfl)) rfl ?_
           exact ⟨_, by (rfl), by (exact Kd.R_nil _ _ _ _ _), by repeat (((with_reducible first | exact HB.out | refine below_set ?_ GE156.out)))⟩
          ·rw [if_neg c44] at H
           have c44b0 : decide ((IntKind.u64.wrap (a0_4 - t157)) < a2) = false := decide_eq_false c44
           clear c44
           replace H := oB_ H
           obtain ⟨t166, A480, H⟩ := H
           replace H : ((slices_Insert_Hold.f t166 t160 (([(⟨a1, a2⟩ : S44)] : List (S44)))).bind fun t172 => (some (a0_0, IntKind.u64.wrap (a0_1 - a2), a0_2, a0_3, a0_4, t172, true, 0))) = some (r1, r2, r3, r4, r5, r6, r7, r8) := H
           have A48 := aM_ A480
           clear A480
           obtain ⟨y169, hy169⟩ : ∃ y_ : List (S44), y_ = (([(⟨a1, a2⟩ : S44)] : List (S44))) := ⟨_, rfl⟩
           replace H : ((slices_Insert_Hold.f t166 t160 y169).bind fun t172 => (some (a0_0, IntKind.u64.wrap (a0_1 - a2), a0_2, a0_3, a0_4, t172, true, 0))) = some (r1, r2, r3, r4, r5, r6, r7, r8) := by ((rw [hy169]; with_reducible exact H))
           have Ny169 := aM_ hy169
           clear hy169
           replace H := oB_ H
           obtain ⟨t172, A490, H⟩ := H
           replace H : (some (a0_0, IntKind.u64.wrap (a0_1 - a2), a0_2, a0_3, a0_4, t172, true, 0)) = some (r1, r2, r3, r4, r5, r6, r7, r8) := H
           have A49 := aM_ A490
           clear A490
           simp only [Option.some.injEq, Prod.mk.injEq] at H
           obtain ⟨rfl, rfl, rfl, rfl, rfl, rfl, rfl, rfl⟩ := H
           have hnb50 := NB155_156.out
           have hnc50 := NB156_155.out
           obtain ⟨hcz51_0, hcz51_1, hcz51_2, hcz51_3, hcz51_4, hcz51_5, hcz51_6, hfz51_0, hfz51_1, hfz51_2, hfz51_3, hfz51_4, hfz51_5, hfz51_6⟩ := cz7_ (w := wc) BK155.out
           go_wp2_with (first | ((with_reducible refine gate_callee (f := 89) rfl ?_); refine gL_ 85 Try.func89 #[.slice A0_5 l0_5.length c0_5] ?_; (with_reducible refine (slices_Clone_Hold.calls _ _ l0_5 t166 _ ?side1 ?side2 A48.out).mono ?_); (case side1 => exact Kd.C_below HR0_5.out (belN HB)); (case side2 => exact HC0_5.out); rintro e w52 ⟨v167, rfl, ho0, hb⟩; refine ⟨_, rfl, ?_⟩; have HO168 := aM_ (Kd.R_lower ho0 (below_size (belN HB))); replace BK155 := aM_ (blk_below (g := gb155) (o := .cells #[.int .u64 a0_0, .int .u64 (IntKind.u64.wrap (a0_1 - a2)), .int .u64 a0_2, .int .u64 a0_3, .int .u64 a0_4, .slice A0_5 l0_5.length c0_5, .bool true] 25 (0, 0)) (by refine blk_put (cs := #[.int .u64 a0_0, .int .u64 a0_1, .int .u64 a0_2, .int .u64 a0_3, .int .u64 a0_4, .slice A0_5 l0_5.length c0_5, .bool true]) ?_ 1 _ rfl; exact BK155.out) hb); replace BK156 := aM_ (blk_below (g := gb156) (blkF BK156) hb); replace HB := bsA_ HB hb; (try clear hb); (try clear ho0)) | ((with_reducible refine gate_dst (N := 90) rfl ?_); (try (refine gate_guard (by rfl) ?_; dsimp only)); refine Kd.R_lit k44 _ 44 ?hg (N := 90) ?hd (xs := ([(⟨a1, a2⟩ : S44)] : List (S44))) (inner := [.int .u64 a1, .int .u64 a2]) (ok := fun _ => True) (okp := fun _ => True) ?hr ?hp (fun _ hk => hk) trivial (Below.refl _ _) (Nat.le_refl _) (by simp) ?_; (case hd => rfl); (case hg => rfl); (case hr => ((go_simp; done))); (case hp => exact (Reps.c2 (show Kd.M k44 _ _ _ (⟨a1, a2⟩ : S44) [.int .u64 a1, .int .u64 a2] from (k44_mkM _ _ _ (⟨a1, a2⟩ : S44) )) (Reps.none _ _))); intro v170 w53 ho54 hb hg_ hnew_; clear hg_ hnew_; ((rw [← Ny169.out] at ho54)); have HO171 := aM_ (Kd.R_lower (Kd.R_new' ho54 (Kd.R_lt (Kd.RN HO168))) (below_size (belN HB))); replace HO168 := aM_ (Kd.R_elder' (Kd.RN HO168) (Kd.R_base ho54) hb); replace BK155 := bbA_ BK155 hb; replace BK156 := bbA_ BK156 hb; replace HB := bsA_ HB hb; clear hb ho54; obtain ⟨Ao55, co55, eo55⟩ := Kd.R_slice HO168.out; subst eo55; obtain ⟨Ao56, co56, eo56⟩ := Kd.R_slice HO171.out; subst eo56) | ((with_reducible refine gate_callee (f := 88) rfl ?_); refine gL_ 91 Try.func88 #[.slice Ao55 t166.length co55, .int .i64 t160, .slice Ao56 y169.length co56] ?_; (with_reducible refine (slices_Insert_Hold.calls (fun k_ => some k_ = (.slice Ao55 t166.length co55 : Value).ownBlock) (.slice Ao55 t166.length co55) t166 t160 (fun k_ => some k_ = (.slice Ao56 y169.length co56 : Value).ownBlock) (.slice Ao56 y169.length co56) y169 t172 w _ ?side1 ?side2 ?side3 ?side4 ?side5 A49.out).mono ?_); (case side1 => repeat (((with_reducible (exact HB.out))))); (case side2 => exact Kd.R_tight rfl HO168.out); (case side3 => exact fun k_ e_ => (HO168.out.1 k_ e_.symm).2); (case side4 => exact Kd.R_tight rfl HO171.out); (case side5 => exact fun k_ e_ => (HO171.out.1 k_ e_.symm).2); rintro e w57 ⟨v173, rfl, ho0, hb, hkp⟩; refine ⟨_, rfl, ?_⟩; replace BK155 := aM_ (blk_kept (blkN BK155) hkp (fun hs_ => Or.elim hs_ (fun e_ => (fun e_ => (Kd.R_ne HO168.out BK155.out (by decide)) e_) e_) (fun e_ => (fun e_ => (Kd.R_ne HO171.out BK155.out (by decide)) e_) e_))); replace BK156 := aM_ (blk_kept (blkN BK156) hkp (fun hs_ => Or.elim hs_ (fun e_ => (fun e_ => (Kd.R_ne HO168.out BK156.out (by decide)) e_) e_) (fun e_ => (fun e_ => (Kd.R_ne HO171.out BK156.out (by decide)) e_) e_))); have HO174 := aM_ (Kd.R_mono (ok' := fun k_ => True) ho0 (fun k_ hk_ => trivial)); replace HB := aM_ (hb); clear HO168 HO171; (try clear hb); (try clear hkp); (try clear ho0); obtain ⟨Ao58, co58, eo58⟩ := Kd.R_slice HO174.out; subst eo58; obtain ⟨hcz59_0, hcz59_1, hcz59_2, hcz59_3, hcz59_4, hcz59_5, hcz59_6, hfz59_0, hfz59_1, hfz59_2, hfz59_3, hfz59_4, hfz59_5, hfz59_6⟩ := cz7_ (w := w57) BK155.out; obtain ⟨hcz60_0, hcz60_1, hcz60_2, hcz60_3, hcz60_4, hcz60_5, hcz60_6, hfz60_0, hfz60_1, hfz60_2, hfz60_3, hfz60_4, hfz60_5, hfz60_6⟩ := cz7_ (w := w57) BK156.out))
           refine bodyPost_ret (results_ct rfl _ _ gb156 25 #[.int .u64 a0_0, .int .u64 (IntKind.u64.wrap (a0_1 - a2)), .int .u64 a0_2, .int .u64 a0_3, .int .u64 a0_4, .slice Ao58 t172.length co58, .bool true] (0, 0) _ rfl (by apply bp7_; refine blk_far ?_ NB156_155.out _; exact BK156.out) Try.underlying25 rfl (by kernel_rfl)) rfl ?_
           exact ⟨_, by (rfl), by exact Kd.R_mono (Kd.R_far (p := ⟨gb156, 6, none⟩) (Kd.R_far (p := ⟨gb156, 5, none⟩) (Kd.R_far (p := ⟨gb156, 4, none⟩) (Kd.R_far (p := ⟨gb156, 3, none⟩) (Kd.R_far (p := ⟨gb156, 2, none⟩) (Kd.R_far (p := ⟨gb156, 1, none⟩) (Kd.R_far (p := ⟨gb156, 0, none⟩) (Kd.R_far (p := ⟨gb155, 5, none⟩) (Kd.R_types (Kd.R_types HO174.out BK155.out (by decide)) BK156.out (by decide)) (fun _ hk => hk.1.2) (.slice Ao58 t172.length co58)) (fun _ hk => hk.2) (.int .u64 a0_0)) (fun _ hk => hk.2) (.int .u64 (IntKind.u64.wrap (a0_1 - a2)))) (fun _ hk => hk.2) (.int .u64 a0_2)) (fun _ hk => hk.2) (.int .u64 a0_3)) (fun _ hk => hk.2) (.int .u64 a0_4)) (fun _ hk => hk.2) (.slice Ao58 t172.length co58)) (fun _ hk => hk.2) (.bool true)) (fun _ hk => trivial), by repeat (((with_reducible first | exact HB.out | refine below_set ?_ GE155.out | refine below_set ?_ GE156.out)))⟩
    ·replace c24 := Bool.eq_false_iff.mpr c24
     subst c24
     have H1 : (some (0, 0, 0, 0, 0, ([] : List (S44)), false, 14)) = some (r1, r2, r3, r4, r5, r6, r7, r8) := by rw [if_neg (show ¬ (false = true) by decide)] at H; exact H
     clear H
     have H := H1
     clear H1
     simp only [Option.some.injEq, Prod.mk.injEq] at H
     obtain ⟨rfl, rfl, rfl, rfl, rfl, rfl, rfl, rfl⟩ := H
     have hnb61 := NB155_156.out
     have hnc61 := NB156_155.out
     obtain ⟨hcz62_0, hcz62_1, hcz62_2, hcz62_3, hcz62_4, hcz62_5, hcz62_6, hfz62_0, hfz62_1, hfz62_2, hfz62_3, hfz62_4, hfz62_5, hfz62_6⟩ := cz7_ (w := wc) BK155.out
     obtain ⟨hcz63_0, hcz63_1, hcz63_2, hcz63_3, hcz63_4, hcz63_5, hcz63_6, hfz63_0, hfz63_1, hfz63_2, hfz63_3, hfz63_4, hfz63_5, hfz63_6⟩ := cz7_ (w := wc) BK156.out
     go_wp2
     refine bodyPost_ret (results_ct rfl _ _ gb156 25 #[.int .u64 0, .int .u64 0, .int .u64 0, .int .u64 0, .int .u64 0, .slice none 0 0, .bool false] (0, 0) _ rfl (by apply bp7_; exact BK156.out) Try.underlying25 rfl (by kernel_rfl)) rfl ?_
     exact ⟨_, by (rfl), by (exact Kd.R_nil _ _ _ _ _), by repeat (((with_reducible first | exact HB.out | refine below_set ?_ GE156.out)))⟩

/-! ### ledger_Where: function 50 (by hand) -/
/-- The index that is kept at a key. -/
def ledger_Where.at_ (h : Int) (ps : List (Int × Int)) : Option Int := ps.foldl (fun o p => if p.1 = h then some p.2 else o) none
theorem ledger_Where.mp_at (h : Int) (z : DataW Unit) (ps : List (Int × Int)) : (ledger_read.mp ps).atKey (.int .u64 h) z = (ledger_Where.at_ h ps).elim z (fun v => .lit (.int .i64 v)) := by
  have : ∀ (ps : List (Int × Int)) (D : DataW Unit) (o : Option Int), Go.Maps.IsMap D → D.atKey (.int .u64 h) z = o.elim z (fun v => .lit (.int .i64 v)) → (ps.foldl (fun D p => D.put (.int .u64 p.1) (.lit (.int .i64 p.2))) D).atKey (.int .u64 h) z = (ps.foldl (fun o p => if p.1 = h then some p.2 else o) o).elim z (fun v => .lit (.int .i64 v)) := by
    intro ps
    induction ps with
    | nil => intro D o _ e; exact e
    | cons p ps ih =>
      intro D o hD e
      rw [List.foldl_cons, List.foldl_cons]
      refine ih _ _ (hD.put _ _) ?_
      by_cases c : p.1 = h
      · rw [if_pos c, c, Go.Maps.atKey_put_same hD (k := .int .u64 h) trivial]; rfl
      · rw [if_neg c, Go.Maps.atKey_put_other (by intro h1; injection h1 with h1 h2; exact c h2.symm)]
        exact e
  exact this ps _ none Go.Maps.isMap_empty rfl
theorem ledger_Where.mp_is (h : Int) (ps : List (Int × Int)) : Go.Maps.has (ledger_read.mp ps) (.int .u64 h) = (ledger_Where.at_ h ps).isSome := by
  rw [ledger_read.mp_has]
  have : ∀ (ps : List (Int × Int)) (o : Option Int), (ps.foldl (fun o p => if p.1 = h then some p.2 else o) o).isSome = (o.isSome || ps.any (fun p => p.1 == h)) := by
    intro ps
    induction ps with
    | nil => intro o; simp
    | cons p ps ih =>
      intro o
      rw [List.foldl_cons, ih, List.any_cons]
      by_cases c : p.1 = h
      · rw [if_pos c, (beq_iff_eq.mpr c : (p.1 == h) = true)]; simp
      · rw [if_neg c, (beq_eq_false_iff_ne.mpr c : (p.1 == h) = false), Bool.false_or]
  unfold ledger_Where.at_
  rw [this]; rfl
def ledger_Where.f (k : Nat) (l0 : List S25) (a1 : Int) : Option (Int × Int) := (ledger_read.f k l0).bind fun r => if r.2 = 0 then (if 0 ≤ a1 ∧ a1 < 18446744073709551616 then (ledger_Where.at_ a1 r.1).elim (some (0, 5)) (fun i => if 0 ≤ i ∧ i < l0.length then some ((rd_T25 l0 i).f0, 0) else none) else none) else some (0, r.2)
theorem ledger_Where.mono : ∀ a0 a1 k, LeO (ledger_Where.f k a0 a1) (ledger_Where.f (k + 1) a0 a1) := by
  intro a0 a1 k
  unfold ledger_Where.f
  exact LeO.bind (ledger_read.mono _ _) (fun _ => LeO.refl _)
set_option maxHeartbeats 4000000 in
set_option maxRecDepth 100000 in
theorem ledger_Where.calls (k : Nat) (A0 : Option Addr) (c0 : Nat) (l0 : List (S25)) (a1 : Int) (r1 : Int) (r2 : Int) (w : World) (hr0 : Kd.C k25 w A0 l0.length l0) (hc0 : l0.length ≤ c0) (h : ledger_Where.f k l0 a1 = some (r1, r2)) :
    Calls Try.prog 50 #[.slice A0 l0.length c0, .int .u64 a1] w fun e w' => e = .returned (.tuple #[.int .u64 r1, .int .i64 r2]) ∧ Below w.heap.size w w' := by
  have HR0 := aM_ hr0
  have HC0 := aM_ hc0
  clear hr0 hc0
  unfold ledger_Where.f at h
  obtain ⟨q, h1, h_⟩ := oB_ h
  replace h := h_
  clear h_
  have HF := aM_ h1
  clear h1
  by_cases hq : q.2 = 0
  case neg =>
    rw [if_neg hq] at h
    injection h with h
    injection h with h2 h3
    subst h2 h3
    have HQ := aM_ hq
    have hqb : (q.2 != 0) = true := bne_iff_ne.mpr hq
    clear hq
    go_enter Try.func50, Try.ntmps50
    go_wp2_with (go_at_call 107; refine (ledger_read.calls k A0 c0 l0 q _ HR0.out HC0.out HF.out).mono ?_; rintro e w1 ⟨_, hp, hb⟩; have he := hp HQ.out; subst he; have HB := aM_ hb; clear hp hb HF)
    go_ret2
    exact ⟨rfl, HB.out⟩
  rw [if_pos hq] at h
  by_cases hwf : 0 ≤ a1 ∧ a1 < 18446744073709551616
  case neg => rw [if_neg hwf] at h; cases h
  rw [if_pos hwf] at h
  have HWF : Aside0 ((Lit.int .u64 a1).wf = true) := ⟨by simp [Lit.wf, IntKind.min, IntKind.max, IntKind.signed, IntKind.bits]; omega⟩
  have HQ := aM_ hq
  clear hq hwf
  have zeroE : ∀ w, (zeroValue 3).run Try.prog w = .ok (.int .i64 0) w := fun _ => by kernel_rfl
  have his := ledger_Where.mp_is a1 q.1
  have hat0 := ledger_Where.mp_at a1 (.lit (.int .i64 0)) q.1
  cases hA : ledger_Where.at_ a1 q.1 with
  | none =>
    rw [hA] at h his
    injection h with h
    injection h with h2 h3
    subst h2 h3
    have hhas : Go.Maps.has (ledger_read.mp q.1) (.int .u64 a1) = false := his
    clear his hA hat0
    go_enter Try.func50, Try.ntmps50
    go_wp2_with (first | (go_at_call 107; refine (ledger_read.calls k A0 c0 l0 q _ HR0.out HC0.out HF.out).mono ?_; rintro e w1 ⟨hp, _, hb⟩; obtain ⟨B, hB, he, hown⟩ := hp HQ.out; subst he; have HO := aM_ hown; have HB := aM_ hb; clear hp hb hB hown HF) | (at_lookup; refine wpList_lookup_own_ok_int _ rfl _ _ 114 rfl 22 3 .i64 (Go.Maps.int_keyed Try.underlying22) Try.underlying114 Try.underlying3 (zeroE _) B q.1.length (ledger_read.mp q.1) rfl HO.out _ _ rfl (Go.Maps.keyOf_int_mk Try.underlying22 HWF.out) ?_; intro cv hat hwc; clear hat hwc))
    go_ret2
    exact ⟨rfl, HB.out⟩
  | some i =>
    rw [hA] at h his hat0
    have h2 : (if 0 ≤ i ∧ i < (l0.length : Int) then some ((rd_T25 l0 i).f0, (0 : Int)) else none) = some (r1, r2) := h
    clear h
    by_cases hi : 0 ≤ i ∧ i < (l0.length : Int)
    case neg => rw [if_neg hi] at h2; cases h2
    rw [if_pos hi] at h2
    injection h2 with h2
    injection h2 with h2 h3
    subst h2 h3
    have hhas : Go.Maps.has (ledger_read.mp q.1) (.int .u64 a1) = true := his
    have HAT : Aside0 ((ledger_read.mp q.1).atKey (.int .u64 a1) (.lit (.int .i64 0)) = .lit (.int .i64 i)) := ⟨hat0⟩
    clear his hA hat0
    obtain ⟨hi1, hi2⟩ := hi
    obtain ⟨n, rfl⟩ := Int.eq_ofNat_of_zero_le hi1
    have hn : n < l0.length := by omega
    clear hi1 hi2
    obtain ⟨ad, A5, c5, ea, hx0, _, _, _, _, _, _, _, _⟩ := at_T25 HR0.out (n : Int) (by omega) (by omega)
    subst ea
    obtain ⟨c, hc⟩ : ∃ c, c = rd_T25 l0 (n : Int) := ⟨_, rfl⟩
    simp only [← hc, Int.toNat_natCast] at hx0
    have HX := aM_ hx0
    rw [← hc]
    clear hx0 hc
    go_enter Try.func50, Try.ntmps50
    go_wp2_with (first | (go_at_call 107; refine (ledger_read.calls k (some ad) c0 l0 q _ HR0.out HC0.out HF.out).mono ?_; rintro e w1 ⟨hp, _, hb⟩; obtain ⟨B, hB, he, hown⟩ := hp HQ.out; subst he; have HO := aM_ hown; have HB := aM_ hb; have hx0 := (hb.cell (World.block_lt_of_cell? w _ HX.out)).trans HX.out; clear hp hb hB hown HF) | (at_lookup; refine wpList_lookup_own_ok_int _ rfl _ _ 114 rfl 22 3 .i64 (Go.Maps.int_keyed Try.underlying22) Try.underlying114 Try.underlying3 (zeroE _) B q.1.length (ledger_read.mp q.1) rfl HO.out _ _ rfl (Go.Maps.keyOf_int_mk Try.underlying22 HWF.out) ?_; intro cv hat hwc; have hcv : cv = (n : Int) := (Lit.int.inj (DataW.lit.inj (hat.symm.trans HAT.out))).2; subst hcv; clear hat hwc))
    go_ret2
    exact ⟨rfl, HB.out⟩

end Go.Proofs.Ytcfbcoinbecdfaa.P
