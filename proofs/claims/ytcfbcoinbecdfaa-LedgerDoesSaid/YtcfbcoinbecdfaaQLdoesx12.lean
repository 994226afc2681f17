-- written by a program of this session (wip/print)
import Derived.Test.YtcfbcoinbecdfaaQLdoesx0
import Derived.Test.YtcfbcoinbecdfaaQLdoesx11
namespace Go.Proofs.Ytcfbcoinbecdfaa.P
open Go.RowKit Go.Proofs.YtcfbcoinbecdfaaW.PrintWords Go.Proofs.YtcfbcoinbecdfaaW.PrintLast Go.Proofs.YtcfbcoinbecdfaaW.PrintMore
attribute [local go_sem] max2_int min2_int max_two min_two max_three min_three max_four min_four run_sub64_   -- for this text's walks alone
set_option linter.unusedVariables false
set_option linter.unusedSimpArgs false

/-! ### damsonref09_Check: function 34 -/
mutual
def damsonref09_Check.j0 : Nat → Bool → Int → Int → Int → Int → Int → List (S44) → Bool → Option (Int)
 | 0, _, _, _, _, _, _, _, _ => none
 | k + 1, x32, x262000, x262001, x262002, x262003, x262004, x262005, x262006 => if x32 = true then (some 1) else (damsonref09_Check.l0 k x262005 (x262005.length : Int) 0 x262000 x262001 x262002 x262003 x262004 x262005 x262006)
def damsonref09_Check.l0 : Nat → List (S44) → Int → Int → Int → Int → Int → Int → Int → List (S44) → Bool → Option (Int)
 | 0, _, _, _, _, _, _, _, _, _, _ => none
 | k + 1, x34, x35, x36, x262000, x262001, x262002, x262003, x262004, x262005, x262006 => if x36 < x35 then (if 0 ≤ x36 then (if x36 < (x34.length : Int) then (if ((rd_T44 x34 x36).f1) = 0 then (some 1) else (if x36 > 0 then (if 0 ≤ (wrap64 (x36 - 1)) then (if (wrap64 (x36 - 1)) < (x262005.length : Int) then (if ((rd_T44 x262005 (wrap64 (x36 - 1))).f0) ≥ ((rd_T44 x34 x36).f0) then (some 1) else (damsonref09_Check.l0 k x34 x35 (wrap64 (x36 + 1)) x262000 x262001 x262002 x262003 x262004 x262005 x262006)) else (none)) else (none)) else (damsonref09_Check.l0 k x34 x35 (wrap64 (x36 + 1)) x262000 x262001 x262002 x262003 x262004 x262005 x262006))) else (none)) else (none)) else ((damsonref09_amounts.f k x262005).bind fun t269 => ((damsonref04_Add.f k t269).bind fun bt272 => (if bt272.2 = 0 then (damsonref09_Check.j2 k bt272.1 (decide (bt272.1 > x262004)) x262000 x262001 x262002 x262003 x262004 x262005 x262006) else (damsonref09_Check.j2 k bt272.1 true x262000 x262001 x262002 x262003 x262004 x262005 x262006))))
def damsonref09_Check.j2 : Nat → Int → Bool → Int → Int → Int → Int → Int → List (S44) → Bool → Option (Int)
 | 0, _, _, _, _, _, _, _, _, _ => none
 | k + 1, x5, x75, x262000, x262001, x262002, x262003, x262004, x262005, x262006 => if x75 = true then (some 1) else ((damsonref04_Add.f k (([x262001, x262002, x5] : List Int))).bind fun bt277 => (if bt277.2 = 0 then (some 0) else (some 1)))
end
def damsonref09_Check.f (k : Nat) (a0_0 : Int) (a0_1 : Int) (a0_2 : Int) (a0_3 : Int) (a0_4 : Int) (l0_5 : List (S44)) (a0_6 : Bool) : Option (Int) := (damsonref04_Check.f k (([a0_3, a0_4] : List Int))).bind fun t265 => (if t265 = 0 then (if (l0_5.length : Int) > 64 then (damsonref09_Check.j0 k true a0_0 a0_1 a0_2 a0_3 a0_4 l0_5 a0_6) else (if a0_6 = true then (damsonref09_Check.j0 k false a0_0 a0_1 a0_2 a0_3 a0_4 l0_5 a0_6) else (damsonref09_Check.j0 k (decide ((l0_5.length : Int) > 0)) a0_0 a0_1 a0_2 a0_3 a0_4 l0_5 a0_6))) else (damsonref09_Check.j0 k true a0_0 a0_1 a0_2 a0_3 a0_4 l0_5 a0_6))
theorem damsonref09_Check.mono_l : ∀ k, (∀ y0 y1 y2 y3 y4 y5 y6 y7, LeO (damsonref09_Check.j0 k y0 y1 y2 y3 y4 y5 y6 y7) (damsonref09_Check.j0 (k + 1) y0 y1 y2 y3 y4 y5 y6 y7)) ∧ (∀ y0 y1 y2 y3 y4 y5 y6 y7 y8 y9, LeO (damsonref09_Check.l0 k y0 y1 y2 y3 y4 y5 y6 y7 y8 y9) (damsonref09_Check.l0 (k + 1) y0 y1 y2 y3 y4 y5 y6 y7 y8 y9)) ∧ (∀ y0 y1 y2 y3 y4 y5 y6 y7 y8, LeO (damsonref09_Check.j2 k y0 y1 y2 y3 y4 y5 y6 y7 y8) (damsonref09_Check.j2 (k + 1) y0 y1 y2 y3 y4 y5 y6 y7 y8))
 | 0 => ⟨fun _ _ _ _ _ _ _ _ r h => by simp [damsonref09_Check.j0] at h, fun _ _ _ _ _ _ _ _ _ _ r h => by simp [damsonref09_Check.l0] at h, fun _ _ _ _ _ _ _ _ _ r h => by simp [damsonref09_Check.j2] at h⟩
 | k + 1 => by
  obtain ⟨ih0, ih1, ih2⟩ := damsonref09_Check.mono_l k
  refine ⟨?_, ?_, ?_⟩
  ·intro y0 y1 y2 y3 y4 y5 y6 y7
   unfold damsonref09_Check.j0
   repeat' first
   | (with_reducible exact ih1 _ _ _ _ _ _ _ _ _ _)
   | (with_reducible exact LeO.refl _)
   | (with_reducible refine LeO.ite ?_ ?_)
   | exact ih0 _ _ _ _ _ _ _ _
   | exact ih1 _ _ _ _ _ _ _ _ _ _
   | exact ih2 _ _ _ _ _ _ _ _ _
   | exact damsonref04_Add.mono _ _
   | exact damsonref04_Check.mono _ _
   | exact damsonref09_amounts.mono _ _
   | exact LeO.none _
   | refine LeO.ite ?_ ?_
   | refine LeO.bind ?_ (fun _ => ?_)
  ·intro y0 y1 y2 y3 y4 y5 y6 y7 y8 y9
   unfold damsonref09_Check.l0
   repeat' first
   | (with_reducible exact ih1 _ _ _ _ _ _ _ _ _ _)
   | (with_reducible exact ih2 _ _ _ _ _ _ _ _ _)
   | (with_reducible exact damsonref04_Add.mono _ _)
   | (with_reducible exact damsonref09_amounts.mono _ _)
   | (with_reducible exact LeO.refl _)
   | (with_reducible refine LeO.ite ?_ ?_)
   | (with_reducible refine LeO.bind ?_ (fun _ => ?_))
   | exact ih0 _ _ _ _ _ _ _ _
   | exact ih1 _ _ _ _ _ _ _ _ _ _
   | exact ih2 _ _ _ _ _ _ _ _ _
   | exact damsonref04_Add.mono _ _
   | exact damsonref04_Check.mono _ _
   | exact damsonref09_amounts.mono _ _
   | exact LeO.none _
   | refine LeO.ite ?_ ?_
   | refine LeO.bind ?_ (fun _ => ?_)
  ·intro y0 y1 y2 y3 y4 y5 y6 y7 y8
   unfold damsonref09_Check.j2
   repeat' first
   | (with_reducible exact damsonref04_Add.mono _ _)
   | (with_reducible exact LeO.refl _)
   | (with_reducible refine LeO.ite ?_ ?_)
   | (with_reducible refine LeO.bind ?_ (fun _ => ?_))
   | exact ih0 _ _ _ _ _ _ _ _
   | exact ih1 _ _ _ _ _ _ _ _ _ _
   | exact ih2 _ _ _ _ _ _ _ _ _
   | exact damsonref04_Add.mono _ _
   | exact damsonref04_Check.mono _ _
   | exact damsonref09_amounts.mono _ _
   | exact LeO.none _
   | refine LeO.ite ?_ ?_
   | refine LeO.bind ?_ (fun _ => ?_)
theorem damsonref09_Check.mono : ∀ a0 a1 a2 a3 a4 a5 a6 k, LeO (damsonref09_Check.f k a0 a1 a2 a3 a4 a5 a6) (damsonref09_Check.f (k + 1) a0 a1 a2 a3 a4 a5 a6) := by
 intro a0 a1 a2 a3 a4 a5 a6 k
 obtain ⟨ih0, ih1, ih2⟩ := damsonref09_Check.mono_l k
 unfold damsonref09_Check.f
 repeat' first
   | (with_reducible exact ih0 _ _ _ _ _ _ _ _)
   | (with_reducible exact damsonref04_Check.mono _ _)
   | (with_reducible refine LeO.ite ?_ ?_)
   | (with_reducible refine LeO.bind ?_ (fun _ => ?_))
   | exact ih0 _ _ _ _ _ _ _ _
   | exact ih1 _ _ _ _ _ _ _ _ _ _
   | exact ih2 _ _ _ _ _ _ _ _ _
   | exact damsonref04_Add.mono _ _
   | exact damsonref04_Check.mono _ _
   | exact damsonref09_amounts.mono _ _
   | exact LeO.none _
   | refine LeO.ite ?_ ?_
   | refine LeO.bind ?_ (fun _ => ?_)
set_option maxHeartbeats 8000000 in
set_option maxRecDepth 100000 in
theorem damsonref09_Check.calls (k : Nat) (a0_0 : Int) (a0_1 : Int) (a0_2 : Int) (a0_3 : Int) (a0_4 : Int) (A0_5 : Option Addr) (c0_5 : Nat) (l0_5 : List (S44)) (a0_6 : Bool) (r : Int) (w : World) (hr0_5 : Kd.C k44 w A0_5 l0_5.length l0_5) (hc0_5 : l0_5.length ≤ c0_5) (h : damsonref09_Check.f k a0_0 a0_1 a0_2 a0_3 a0_4 l0_5 a0_6 = some r) :
  Calls Try.prog 34 #[.agg #[.int .u64 a0_0, .int .u64 a0_1, .int .u64 a0_2, .int .u64 a0_3, .int .u64 a0_4, .slice A0_5 l0_5.length c0_5, .bool a0_6]] w fun e w' => e = .returned (.int .i64 r) ∧ Below w.heap.size w w' := by
 have hu25 := Try.underlying25
 have hu44 := Try.underlying44
 have HR0_5 := aM_ hr0_5
 have HC0_5 := aM_ hc0_5
 clear hr0_5 hc0_5
 have HB := aM_ (Below.refl w.heap.size w)
 have H : ((damsonref04_Check.f k (([a0_3, a0_4] : List Int))).bind fun t265 => (if t265 = 0 then (if (l0_5.length : Int) > 64 then (damsonref09_Check.j0 k true a0_0 a0_1 a0_2 a0_3 a0_4 l0_5 a0_6) else (if a0_6 = true then (damsonref09_Check.j0 k false a0_0 a0_1 a0_2 a0_3 a0_4 l0_5 a0_6) else (damsonref09_Check.j0 k (decide ((l0_5.length : Int) > 0)) a0_0 a0_1 a0_2 a0_3 a0_4 l0_5 a0_6))) else (damsonref09_Check.j0 k true a0_0 a0_1 a0_2 a0_3 a0_4 l0_5 a0_6))) = some r := h
 clear h
 have HC2 := aM_ H
 clear H
 go_enter Try.func34, Try.ntmps34
 go_upto_region 1 with ((((with_reducible refine gate_dst (N := 1) rfl ?_); (try (refine gate_guard (by rfl) ?_; dsimp only)); refine box_event ?hg (N := 1) ?hd (cs := #[.int .u64 a0_0, .int .u64 a0_1, .int .u64 a0_2, .int .u64 a0_3, .int .u64 a0_4, .slice A0_5 l0_5.length c0_5, .bool a0_6]) (t := 25) ?hr ?_; (case hd => rfl); (case hg => rfl); (case hr => ((go_simp; done))); intro gb261 hg w3 hbox hb; have BK261 := aM_ (hbox); have GW261 := aM_ (geN HB hg); have GE261 := aM_ (geN HB hg); replace HB := bsA_ HB hb; clear hb hbox hg)))
 go_cut [32] (fun v32 wc => ∃ (kq : Nat) (x32_1 : Bool), v32 = .bool x32_1 ∧ Aside0 (damsonref09_Check.j0 kq x32_1 a0_0 a0_1 a0_2 a0_3 a0_4 l0_5 a0_6 = some r) ∧ Aside0 (kq ≤ k) ∧ Aside0 (wc.heap[gb261]? = some (.cells #[.int .u64 a0_0, .int .u64 a0_1, .int .u64 a0_2, .int .u64 a0_3, .int .u64 a0_4, (.slice A0_5 l0_5.length c0_5), .bool a0_6] 25 (0, 0))) ∧ Aside0 (Below w.heap.size w wc))
 case first =>
  have H := HC2.out
  clear HC2
  obtain ⟨y262, hy262⟩ : ∃ y_ : List Int, y_ = (([a0_3, a0_4] : List Int)) := ⟨_, rfl⟩
  replace H : ((damsonref04_Check.f k y262).bind fun t265 => (if t265 = 0 then (if (l0_5.length : Int) > 64 then (damsonref09_Check.j0 k true a0_0 a0_1 a0_2 a0_3 a0_4 l0_5 a0_6) else (if a0_6 = true then (damsonref09_Check.j0 k false a0_0 a0_1 a0_2 a0_3 a0_4 l0_5 a0_6) else (damsonref09_Check.j0 k (decide ((l0_5.length : Int) > 0)) a0_0 a0_1 a0_2 a0_3 a0_4 l0_5 a0_6))) else (damsonref09_Check.j0 k true a0_0 a0_1 a0_2 a0_3 a0_4 l0_5 a0_6))) = some r := by ((rw [hy262]; with_reducible exact H))
  have Ny262 := aM_ hy262
  clear hy262
  replace H := oB_ H
  obtain ⟨t265, A40, H⟩ := H
  replace H : (if t265 = 0 then (if (l0_5.length : Int) > 64 then (damsonref09_Check.j0 k true a0_0 a0_1 a0_2 a0_3 a0_4 l0_5 a0_6) else (if a0_6 = true then (damsonref09_Check.j0 k false a0_0 a0_1 a0_2 a0_3 a0_4 l0_5 a0_6) else (damsonref09_Check.j0 k (decide ((l0_5.length : Int) > 0)) a0_0 a0_1 a0_2 a0_3 a0_4 l0_5 a0_6))) else (damsonref09_Check.j0 k true a0_0 a0_1 a0_2 a0_3 a0_4 l0_5 a0_6)) = some r := H
  have A4 := aM_ A40
  clear A40
  by_cases c5 : t265 = 0
  ·rw [if_pos c5] at H
   have c5b0 : (t265 == 0) = true := beq_iff_eq.mpr c5
   have c5b1 : (t265 != 0) = false := bne_eq_false_iff_eq.mpr c5
   clear c5
   ((skip))
   by_cases c6 : (l0_5.length : Int) > 64
   ·rw [if_pos c6] at H
    have c6b0 : decide (64 < (l0_5.length : Int)) = true := decide_eq_true c6
    have c6b1 : decide (64 < l0_5.length) = true := decide_eq_true (by omega)
    clear c6
    have H' := aM_ H
    clear H
    obtain ⟨hcz7_0, hcz7_1, hcz7_2, hcz7_3, hcz7_4, hcz7_5, hcz7_6, hfz7_0, hfz7_1, hfz7_2, hfz7_3, hfz7_4, hfz7_5, hfz7_6⟩ := cz7_ (w := w3) BK261.out
    go_wp2_with (first | ((with_reducible refine gate_dst (N := 13) rfl ?_); (try (refine gate_guard (by rfl) ?_; dsimp only)); refine Kd.R_lit (Kd.int .u64) _ 22 ?hg (N := 13) ?hd (xs := ([a0_3, a0_4] : List Int)) (inner := [.int .u64 a0_3, .int .u64 a0_4]) (ok := fun _ => True) (okp := fun _ => True) ?hr ?hp (fun _ hk => hk) trivial (Below.refl _ _) (Nat.le_refl _) (by simp) ?_; (case hd => rfl); (case hg => rfl); (case hr => ((go_simp; done))); (case hp => exact (Reps.one (show Kd.M (Kd.int .u64) _ _ _ a0_3 [.int .u64 a0_3] from rfl) (Reps.one (show Kd.M (Kd.int .u64) _ _ _ a0_4 [.int .u64 a0_4] from rfl) (Reps.none _ _)))); intro v263 w8 ho9 hb hg_ hnew_; clear hg_ hnew_; ((rw [← Ny262.out] at ho9)); have HO264 := aM_ (Kd.R_lower ho9 (below_size (belN HB))); replace BK261 := bbA_ BK261 hb; replace HB := bsA_ HB hb; clear hb ho9; obtain ⟨Ao10, co10, eo10⟩ := Kd.R_slice HO264.out; subst eo10) | (go_at_call 96; (with_reducible refine (damsonref04_Check.calls k _ _ y262 t265 _ ?side1 ?side2 A4.out).mono ?_); (case side1 => exact Kd.CN (Kd.R_reads' HO264.out).2.2); (case side2 => exact (Kd.R_reads' HO264.out).2.1); rintro e w' ⟨rfl, ⟨nd, rfl⟩⟩; obtain ⟨hcz11_0, hcz11_1, hcz11_2, hcz11_3, hcz11_4, hcz11_5, hcz11_6, hfz11_0, hfz11_1, hfz11_2, hfz11_3, hfz11_4, hfz11_5, hfz11_6⟩ := cz7_ (w := w8) BK261.out))
    go_meet
    case rel => exact ⟨_, (true), (by (rfl)), H', ⟨by (omega)⟩, ⟨by (with_reducible repeat ((refine blk_drewN ?_ _))); exact BK261.out⟩, ⟨by repeat (((with_reducible first | exact HB.out | apply pw_below_drewN)))⟩⟩
   ·rw [if_neg c6] at H
    have c6b0 : decide (64 < (l0_5.length : Int)) = false := decide_eq_false c6
    have c6b1 : decide (64 < l0_5.length) = false := decide_eq_false (by omega)
    clear c6
    by_cases c12 : a0_6 = true
    ·subst c12
     have H1 : (damsonref09_Check.j0 k false a0_0 a0_1 a0_2 a0_3 a0_4 l0_5 true) = some r := by rw [if_pos rfl] at H; exact H
     clear H
     have H := H1
     clear H1
     have H' := aM_ H
     clear H
     obtain ⟨hcz13_0, hcz13_1, hcz13_2, hcz13_3, hcz13_4, hcz13_5, hcz13_6, hfz13_0, hfz13_1, hfz13_2, hfz13_3, hfz13_4, hfz13_5, hfz13_6⟩ := cz7_ (w := w3) BK261.out
     go_wp2_with (first | ((with_reducible refine gate_dst (N := 13) rfl ?_); (try (refine gate_guard (by rfl) ?_; dsimp only)); refine Kd.R_lit (Kd.int .u64) _ 22 ?hg (N := 13) ?hd (xs := ([a0_3, a0_4] : List Int)) (inner := [.int .u64 a0_3, .int .u64 a0_4]) (ok := fun _ => True) (okp := fun _ => True) ?hr ?hp (fun _ hk => hk) trivial (Below.refl _ _) (Nat.le_refl _) (by simp) ?_; (case hd => rfl); (case hg => rfl); (case hr => ((go_simp; done))); (case hp => exact (Reps.one (show Kd.M (Kd.int .u64) _ _ _ a0_3 [.int .u64 a0_3] from rfl) (Reps.one (show Kd.M (Kd.int .u64) _ _ _ a0_4 [.int .u64 a0_4] from rfl) (Reps.none _ _)))); intro v263 w14 ho15 hb hg_ hnew_; clear hg_ hnew_; ((rw [← Ny262.out] at ho15)); have HO264 := aM_ (Kd.R_lower ho15 (below_size (belN HB))); replace BK261 := bbA_ BK261 hb; replace HB := bsA_ HB hb; clear hb ho15; obtain ⟨Ao16, co16, eo16⟩ := Kd.R_slice HO264.out; subst eo16) | (go_at_call 96; (with_reducible refine (damsonref04_Check.calls k _ _ y262 t265 _ ?side1 ?side2 A4.out).mono ?_); (case side1 => exact Kd.CN (Kd.R_reads' HO264.out).2.2); (case side2 => exact (Kd.R_reads' HO264.out).2.1); rintro e w' ⟨rfl, ⟨nd, rfl⟩⟩; obtain ⟨hcz17_0, hcz17_1, hcz17_2, hcz17_3, hcz17_4, hcz17_5, hcz17_6, hfz17_0, hfz17_1, hfz17_2, hfz17_3, hfz17_4, hfz17_5, hfz17_6⟩ := cz7_ (w := w14) BK261.out))
     go_meet
     case rel => exact ⟨_, (false), (by (rfl)), H', ⟨by (omega)⟩, ⟨by (with_reducible repeat ((refine blk_drewN ?_ _))); exact BK261.out⟩, ⟨by repeat (((with_reducible first | exact HB.out | apply pw_below_drewN)))⟩⟩
    ·replace c12 := Bool.eq_false_iff.mpr c12
     subst c12
     have H1 : (damsonref09_Check.j0 k (decide ((l0_5.length : Int) > 0)) a0_0 a0_1 a0_2 a0_3 a0_4 l0_5 false) = some r := by rw [if_neg (show ¬ (false = true) by decide)] at H; exact H
     clear H
     have H := H1
     clear H1
     have H' := aM_ H
     clear H
     obtain ⟨hcz18_0, hcz18_1, hcz18_2, hcz18_3, hcz18_4, hcz18_5, hcz18_6, hfz18_0, hfz18_1, hfz18_2, hfz18_3, hfz18_4, hfz18_5, hfz18_6⟩ := cz7_ (w := w3) BK261.out
     go_wp2_with (first | ((with_reducible refine gate_dst (N := 13) rfl ?_); (try (refine gate_guard (by rfl) ?_; dsimp only)); refine Kd.R_lit (Kd.int .u64) _ 22 ?hg (N := 13) ?hd (xs := ([a0_3, a0_4] : List Int)) (inner := [.int .u64 a0_3, .int .u64 a0_4]) (ok := fun _ => True) (okp := fun _ => True) ?hr ?hp (fun _ hk => hk) trivial (Below.refl _ _) (Nat.le_refl _) (by simp) ?_; (case hd => rfl); (case hg => rfl); (case hr => ((go_simp; done))); (case hp => exact (Reps.one (show Kd.M (Kd.int .u64) _ _ _ a0_3 [.int .u64 a0_3] from rfl) (Reps.one (show Kd.M (Kd.int .u64) _ _ _ a0_4 [.int .u64 a0_4] from rfl) (Reps.none _ _)))); intro v263 w19 ho20 hb hg_ hnew_; clear hg_ hnew_; ((rw [← Ny262.out] at ho20)); have HO264 := aM_ (Kd.R_lower ho20 (below_size (belN HB))); replace BK261 := bbA_ BK261 hb; replace HB := bsA_ HB hb; clear hb ho20; obtain ⟨Ao21, co21, eo21⟩ := Kd.R_slice HO264.out; subst eo21) | (go_at_call 96; (with_reducible refine (damsonref04_Check.calls k _ _ y262 t265 _ ?side1 ?side2 A4.out).mono ?_); (case side1 => exact Kd.CN (Kd.R_reads' HO264.out).2.2); (case side2 => exact (Kd.R_reads' HO264.out).2.1); rintro e w' ⟨rfl, ⟨nd, rfl⟩⟩; obtain ⟨hcz22_0, hcz22_1, hcz22_2, hcz22_3, hcz22_4, hcz22_5, hcz22_6, hfz22_0, hfz22_1, hfz22_2, hfz22_3, hfz22_4, hfz22_5, hfz22_6⟩ := cz7_ (w := w19) BK261.out))
     go_meet
     case rel => exact ⟨_, (decide ((l0_5.length : Int) > 0)), (by ((simp; done))), H', ⟨by (omega)⟩, ⟨by (with_reducible repeat ((refine blk_drewN ?_ _))); exact BK261.out⟩, ⟨by repeat (((with_reducible first | exact HB.out | apply pw_below_drewN)))⟩⟩
  ·rw [if_neg c5] at H
   have c5b0 : (t265 == 0) = false := beq_eq_false_iff_ne.mpr c5
   have c5b1 : (t265 != 0) = true := bne_iff_ne.mpr c5
   ((skip))
   have H' := aM_ H
   clear H
   obtain ⟨hcz23_0, hcz23_1, hcz23_2, hcz23_3, hcz23_4, hcz23_5, hcz23_6, hfz23_0, hfz23_1, hfz23_2, hfz23_3, hfz23_4, hfz23_5, hfz23_6⟩ := cz7_ (w := w3) BK261.out
   go_wp2_with (first | ((with_reducible refine gate_dst (N := 13) rfl ?_); (try (refine gate_guard (by rfl) ?_; dsimp only)); refine Kd.R_lit (Kd.int .u64) _ 22 ?hg (N := 13) ?hd (xs := ([a0_3, a0_4] : List Int)) (inner := [.int .u64 a0_3, .int .u64 a0_4]) (ok := fun _ => True) (okp := fun _ => True) ?hr ?hp (fun _ hk => hk) trivial (Below.refl _ _) (Nat.le_refl _) (by simp) ?_; (case hd => rfl); (case hg => rfl); (case hr => ((go_simp; done))); (case hp => exact (Reps.one (show Kd.M (Kd.int .u64) _ _ _ a0_3 [.int .u64 a0_3] from rfl) (Reps.one (show Kd.M (Kd.int .u64) _ _ _ a0_4 [.int .u64 a0_4] from rfl) (Reps.none _ _)))); intro v263 w24 ho25 hb hg_ hnew_; clear hg_ hnew_; ((rw [← Ny262.out] at ho25)); have HO264 := aM_ (Kd.R_lower ho25 (below_size (belN HB))); replace BK261 := bbA_ BK261 hb; replace HB := bsA_ HB hb; clear hb ho25; obtain ⟨Ao26, co26, eo26⟩ := Kd.R_slice HO264.out; subst eo26) | (go_at_call 96; (with_reducible refine (damsonref04_Check.calls k _ _ y262 t265 _ ?side1 ?side2 A4.out).mono ?_); (case side1 => exact Kd.CN (Kd.R_reads' HO264.out).2.2); (case side2 => exact (Kd.R_reads' HO264.out).2.1); rintro e w' ⟨rfl, ⟨nd, rfl⟩⟩))
   go_meet
   case rel => exact ⟨_, (true), (by (rfl)), H', ⟨by (omega)⟩, ⟨by (with_reducible repeat ((refine blk_drewN ?_ _))); exact BK261.out⟩, ⟨by repeat (((with_reducible first | exact HB.out | apply pw_below_drewN)))⟩⟩
 case rest =>
  clear HC2
  obtain ⟨kq, x32_1, rfl, HA, HJ1, BK261, HB⟩ := hcut
  cases kq with
  | zero => exact absurd HA.out (by simp [damsonref09_Check.j0])
  | succ kj1 =>
   have H := HA.out
   clear HA
   simp only [damsonref09_Check.j0] at H
   by_cases c27 : x32_1 = true
   ·subst c27
    have H1 : (some 1) = some r := by rw [if_pos rfl] at H; exact H
    clear H
    have H := H1
    clear H1
    obtain rfl := Option.some.inj H
    go_wp2
    go_ret
    exact ⟨by (rfl), by repeat (((with_reducible (exact HB.out))))⟩
   ·replace c27 := Bool.eq_false_iff.mpr c27
    subst c27
    have H1 : (damsonref09_Check.l0 kj1 l0_5 (l0_5.length : Int) 0 a0_0 a0_1 a0_2 a0_3 a0_4 l0_5 a0_6) = some r := by rw [if_neg (show ¬ (false = true) by decide)] at H; exact H
    clear H
    have H := H1
    clear H1
    have H' := aM_ H
    clear H
    obtain ⟨hcz28_0, hcz28_1, hcz28_2, hcz28_3, hcz28_4, hcz28_5, hcz28_6, hfz28_0, hfz28_1, hfz28_2, hfz28_3, hfz28_4, hfz28_5, hfz28_6⟩ := cz7_ (w := wc) BK261.out
    go_wp2
    go_loopg [36] kj1 (fun kq v36 w' => ∃ (x36_2 : Int), v36 = .int .i64 x36_2 ∧ Aside0 (damsonref09_Check.l0 kq l0_5 (l0_5.length : Int) x36_2 a0_0 a0_1 a0_2 a0_3 a0_4 l0_5 a0_6 = some r) ∧ Aside0 (kq ≤ kj1) ∧ Aside0 (w'.heap[gb261]? = some (.cells #[.int .u64 a0_0, .int .u64 a0_1, .int .u64 a0_2, .int .u64 a0_3, .int .u64 a0_4, (.slice A0_5 l0_5.length c0_5), .bool a0_6] 25 (0, 0))) ∧ Aside0 (Below w.heap.size w w'))
    case atStart => exact ⟨(0), (by (rfl)), H', ⟨Nat.le_refl _⟩, ⟨by exact BK261.out⟩, ⟨by repeat (((with_reducible (exact HB.out))))⟩⟩
    case round =>
     clear H'
     try clear hcz28_0
     try clear hcz28_1
     try clear hcz28_2
     try clear hcz28_3
     try clear hcz28_4
     try clear hcz28_5
     try clear hcz28_6
     try clear hfz28_0
     try clear hfz28_1
     try clear hfz28_2
     try clear hfz28_3
     try clear hfz28_4
     try clear hfz28_5
     try clear hfz28_6
     obtain ⟨x36_2, rfl, HA, HK2, BK261, HB⟩ := hrel
     cases gk with
     | zero => exact absurd HA.out (by simp [damsonref09_Check.l0])
     | succ k2 =>
      have H := HA.out
      clear HA
      simp only [damsonref09_Check.l0] at H
      by_cases c29 : x36_2 < (l0_5.length : Int)
      ·rw [if_pos c29] at H
       have c29b0 := decide_eq_true c29
       clear c29
       by_cases c30 : 0 ≤ x36_2
       ·rw [if_pos c30] at H
        have c30b0 := decide_eq_true c30
        clear c30
        by_cases c31 : x36_2 < (l0_5.length : Int)
        ·rw [if_pos c31] at H
         have c31b0 := decide_eq_true c31
         clear c31
         by_cases c32 : ((rd_T44 l0_5 x36_2).f1) = 0
         ·rw [if_pos c32] at H
          have c32b0 : (((rd_T44 l0_5 x36_2).f1) == 0) = true := beq_iff_eq.mpr c32
          have c32b1 : (((rd_T44 l0_5 x36_2).f1) != 0) = false := bne_eq_false_iff_eq.mpr c32
          clear c32
          obtain rfl := Option.some.inj H
          have p266 : 0 ≤ (x36_2 : Int) := of_decide_eq_true (by ((with_reducible assumption)))
          have q266 : x36_2 < (l0_5.length : Int) := of_decide_eq_true (by ((with_reducible assumption)))
          obtain ⟨ad266, e266, hx266_0, hx266_1⟩ := at_T44 HR0_5.out x36_2 p266 q266
          cases e266
          replace hx266_0 := cN_ HB hx266_0
          replace hx266_1 := cN_ HB hx266_1
          replace p266 := eq_true p266
          replace q266 := eq_true q266
          go_wp2_with ((((with_reducible refine gate_dst (N := 4) rfl ?_); (try (refine gate_guard (by rfl) ?_; dsimp only)); refine box_event ?hg (N := 4) ?hd (cs := #[.int .u64 0, .int .u64 0]) (t := 44) ?hr ?_; (case hd => rfl); (case hg => rfl); (case hr => ((go_simp; done))); intro gb267 hg w33 hbox hb; have BK267 := aM_ (hbox); have GW267 := aM_ (geN HB hg); have GE267 := aM_ (geN HB hg); replace HB := bsA_ HB hb; have NB261_267 := aM_ (neN BK261 hg); have NB267_261 := aM_ (neN' BK261 hg); replace BK261 := bbA_ BK261 hb; clear hb hbox hg; have hnb34 := NB267_261.out; have hnc34 := NB261_267.out; obtain ⟨hcz35_0, hcz35_1, hfz35_0, hfz35_1⟩ := cz2_ (w := w33) BK267.out)))
          repeat (go_quiet (first | ((with_reducible refine gate_dst (N := 4) rfl ?_); refine box_event ?hg (N := 4) ?hd (cs := #[.int .u64 0, .int .u64 0]) (t := 44) ?hr ?_; (case hd => rfl); (case hg => rfl); (case hr => first | (go_simp; done) | (go_simp; rfl)); intro gb267 hg w33 hbox hb; have BK267 := aM_ (hbox); have GW267 := aM_ (geN HB hg); have GE267 := aM_ (geN HB hg); replace HB := bsA_ HB hb; have NB261_267 := aM_ (neN BK261 hg); have NB267_261 := aM_ (neN' BK261 hg); replace BK261 := bbA_ BK261 hb; clear hb hbox hg; have hnb34 := NB267_261.out; have hnc34 := NB261_267.out; obtain ⟨hcz35_0, hcz35_1, hfz35_0, hfz35_1⟩ := cz2_ (w := w33) BK267.out)); try go_wp2_with (first | ((with_reducible refine gate_dst (N := 4) rfl ?_); refine box_event ?hg (N := 4) ?hd (cs := #[.int .u64 0, .int .u64 0]) (t := 44) ?hr ?_; (case hd => rfl); (case hg => rfl); (case hr => first | (go_simp; done) | (go_simp; rfl)); intro gb267 hg w33 hbox hb; have BK267 := aM_ (hbox); have GW267 := aM_ (geN HB hg); have GE267 := aM_ (geN HB hg); replace HB := bsA_ HB hb; have NB261_267 := aM_ (neN BK261 hg); have NB267_261 := aM_ (neN' BK261 hg); replace BK261 := bbA_ BK261 hb; clear hb hbox hg; have hnb34 := NB267_261.out; have hnc34 := NB261_267.out; obtain ⟨hcz35_0, hcz35_1, hfz35_0, hfz35_1⟩ := cz2_ (w := w33) BK267.out)))
          go_ret
          exact ⟨by (rfl), by repeat (((with_reducible first | exact HB.out | apply pw_below_drewN | refine below_set ?_ GE267.out)))⟩
         ·rw [if_neg c32] at H
          have c32b0 : (((rd_T44 l0_5 x36_2).f1) == 0) = false := beq_eq_false_iff_ne.mpr c32
          have c32b1 : (((rd_T44 l0_5 x36_2).f1) != 0) = true := bne_iff_ne.mpr c32
          by_cases c36 : x36_2 > 0
          ·rw [if_pos c36] at H
           have c36b0 : decide (0 < x36_2) = true := decide_eq_true c36
           clear c36
           obtain ⟨ji37, hji37⟩ : ∃ j_ : Int, (wrap64 (x36_2 - 1)) = j_ := ⟨_, rfl⟩
           replace H : (if 0 ≤ (ji37) then (if (ji37) < (l0_5.length : Int) then (if ((rd_T44 l0_5 (ji37)).f0) ≥ ((rd_T44 l0_5 x36_2).f0) then (some 1) else (damsonref09_Check.l0 k2 l0_5 (l0_5.length : Int) (wrap64 (x36_2 + 1)) a0_0 a0_1 a0_2 a0_3 a0_4 l0_5 a0_6)) else (none)) else (none)) = some r := by ((rw [hji37] at H; exact H))
           have hji37w : (IntKind.i64.wrap (x36_2 - 1)) = ji37 := (i64_w _).trans hji37
           by_cases c38 : 0 ≤ (ji37)
           ·rw [if_pos c38] at H
            have c38b0 := decide_eq_true c38
            clear c38
            by_cases c39 : (ji37) < (l0_5.length : Int)
            ·rw [if_pos c39] at H
             have c39b0 := decide_eq_true c39
             clear c39
             by_cases c40 : ((rd_T44 l0_5 (ji37)).f0) ≥ ((rd_T44 l0_5 x36_2).f0)
             ·rw [if_pos c40] at H
              have c40b0 : decide (((rd_T44 l0_5 x36_2).f0) ≤ ((rd_T44 l0_5 (ji37)).f0)) = true := decide_eq_true c40
              clear c40
              obtain rfl := Option.some.inj H
              have p266 : 0 ≤ (x36_2 : Int) := of_decide_eq_true (by ((with_reducible assumption)))
              have q266 : x36_2 < (l0_5.length : Int) := of_decide_eq_true (by ((with_reducible assumption)))
              obtain ⟨ad266, e266, hx266_0, hx266_1⟩ := at_T44 HR0_5.out x36_2 p266 q266
              cases e266
              replace hx266_0 := cN_ HB hx266_0
              replace hx266_1 := cN_ HB hx266_1
              replace p266 := eq_true p266
              replace q266 := eq_true q266
              go_wp2_with ((((with_reducible refine gate_dst (N := 4) rfl ?_); (try (refine gate_guard (by rfl) ?_; dsimp only)); refine box_event ?hg (N := 4) ?hd (cs := #[.int .u64 0, .int .u64 0]) (t := 44) ?hr ?_; (case hd => rfl); (case hg => rfl); (case hr => ((go_simp; done))); intro gb267 hg w41 hbox hb; have BK267 := aM_ (hbox); have GW267 := aM_ (geN HB hg); have GE267 := aM_ (geN HB hg); replace HB := bsA_ HB hb; have NB261_267 := aM_ (neN BK261 hg); have NB267_261 := aM_ (neN' BK261 hg); replace BK261 := bbA_ BK261 hb; clear hb hbox hg; have hnb42 := NB267_261.out; have hnc42 := NB261_267.out; obtain ⟨hcz43_0, hcz43_1, hfz43_0, hfz43_1⟩ := cz2_ (w := w41) BK267.out; obtain ⟨hcz44_0, hcz44_1, hcz44_2, hcz44_3, hcz44_4, hcz44_5, hcz44_6, hfz44_0, hfz44_1, hfz44_2, hfz44_3, hfz44_4, hfz44_5, hfz44_6⟩ := cz7_ (w := w41) BK261.out; have p268 : 0 ≤ ((ji37) : Int) := of_decide_eq_true (by ((with_reducible assumption))); have q268 : (ji37) < (l0_5.length : Int) := of_decide_eq_true (by ((with_reducible assumption))); obtain ⟨ad268, e268, hx268_0, hx268_1⟩ := at_T44 HR0_5.out (ji37) p268 q268; obtain rfl : ad266 = ad268 := (by injection e268); have hn268_0 : ad266.block ≠ gb267 := Nat.ne_of_lt (Nat.lt_of_lt_of_le (by have := World.block_lt_of_cell? _ _ hx268_0; (rwa [add_block] at this)) GW267.out); have hn268_1 : ad266.block ≠ gb267 := Nat.ne_of_lt (Nat.lt_of_lt_of_le (by have := World.block_lt_of_cell? _ _ hx268_0; (rwa [add_block] at this)) GW267.out); replace hx268_0 := cN_ HB hx268_0; replace hx268_1 := cN_ HB hx268_1; replace hx268_0 := (cell_far (p := ⟨gb267, 0, none⟩) (by ((rw [add_block]; exact hn268_0))) (.int .u64 ((rd_T44 l0_5 x36_2).f0))).trans hx268_0; replace hx268_1 := (cell_far (p := ⟨gb267, 0, none⟩) (by ((rw [add_block]; exact hn268_0))) (.int .u64 ((rd_T44 l0_5 x36_2).f0))).trans hx268_1; replace hx268_0 := (cell_far (p := ⟨gb267, 1, none⟩) (by ((rw [add_block]; exact hn268_1))) (.int .u64 ((rd_T44 l0_5 x36_2).f1))).trans hx268_0; replace hx268_1 := (cell_far (p := ⟨gb267, 1, none⟩) (by ((rw [add_block]; exact hn268_1))) (.int .u64 ((rd_T44 l0_5 x36_2).f1))).trans hx268_1; (try have hy268_0 := fun (n_ : Nat) => (show ((((w41.drewN n_).setCell ⟨gb267, 0, none⟩ (.int .u64 ((rd_T44 l0_5 x36_2).f0))).setCell ⟨gb267, 1, none⟩ (.int .u64 ((rd_T44 l0_5 x36_2).f1)))).cell? _ = some _ from hx268_0)); (try have hy268_1 := fun (n_ : Nat) => (show ((((w41.drewN n_).setCell ⟨gb267, 0, none⟩ (.int .u64 ((rd_T44 l0_5 x36_2).f0))).setCell ⟨gb267, 1, none⟩ (.int .u64 ((rd_T44 l0_5 x36_2).f1)))).cell? _ = some _ from hx268_1)); clear hn268_0; clear hn268_1; replace p268 := eq_true p268; replace q268 := eq_true q268)))
              repeat (go_quiet (first | ((with_reducible refine gate_dst (N := 4) rfl ?_); refine box_event ?hg (N := 4) ?hd (cs := #[.int .u64 0, .int .u64 0]) (t := 44) ?hr ?_; (case hd => rfl); (case hg => rfl); (case hr => first | (go_simp; done) | (go_simp; rfl)); intro gb267 hg w41 hbox hb; have BK267 := aM_ (hbox); have GW267 := aM_ (geN HB hg); have GE267 := aM_ (geN HB hg); replace HB := bsA_ HB hb; have NB261_267 := aM_ (neN BK261 hg); have NB267_261 := aM_ (neN' BK261 hg); replace BK261 := bbA_ BK261 hb; clear hb hbox hg; have hnb42 := NB267_261.out; have hnc42 := NB261_267.out; obtain ⟨hcz43_0, hcz43_1, hfz43_0, hfz43_1⟩ := cz2_ (w := w41) BK267.out; obtain ⟨hcz44_0, hcz44_1, hcz44_2, hcz44_3, hcz44_4, hcz44_5, hcz44_6, hfz44_0, hfz44_1, hfz44_2, hfz44_3, hfz44_4, hfz44_5, hfz44_6⟩ := cz7_ (w := w41) BK261.out; have p268 : 0 ≤ ((ji37) : Int) := of_decide_eq_true (by assumption); have q268 : (ji37) < (l0_5.length : Int) := oD_; obtain ⟨ad268, e268, hx268_0, hx268_1⟩ := at_T44 HR0_5.out (ji37) p268 q268; obtain rfl : ad266 = ad268 := (by injection e268); have hn268_0 : ad266.block ≠ gb267 := Nat.ne_of_lt (Nat.lt_of_lt_of_le (by have := World.block_lt_of_cell? _ _ hx268_0; first | rwa [add_block] at this | exact this) GW267.out); have hn268_1 : ad266.block ≠ gb267 := Nat.ne_of_lt (Nat.lt_of_lt_of_le (by have := World.block_lt_of_cell? _ _ hx268_0; first | rwa [add_block] at this | exact this) GW267.out); replace hx268_0 := cN_ HB hx268_0; replace hx268_1 := cN_ HB hx268_1; replace hx268_0 := (cell_far (p := ⟨gb267, 0, none⟩) (by first | (rw [add_block]; exact hn268_0) | (show (Addr.add _ _).block ≠ _; rw [add_block]; exact hn268_0) | exact hn268_0) (.int .u64 ((rd_T44 l0_5 x36_2).f0))).trans hx268_0; replace hx268_1 := (cell_far (p := ⟨gb267, 0, none⟩) (by first | (rw [add_block]; exact hn268_0) | (show (Addr.add _ _).block ≠ _; rw [add_block]; exact hn268_0) | exact hn268_0) (.int .u64 ((rd_T44 l0_5 x36_2).f0))).trans hx268_1; replace hx268_0 := (cell_far (p := ⟨gb267, 1, none⟩) (by first | (rw [add_block]; exact hn268_1) | (show (Addr.add _ _).block ≠ _; rw [add_block]; exact hn268_1) | exact hn268_1) (.int .u64 ((rd_T44 l0_5 x36_2).f1))).trans hx268_0; replace hx268_1 := (cell_far (p := ⟨gb267, 1, none⟩) (by first | (rw [add_block]; exact hn268_1) | (show (Addr.add _ _).block ≠ _; rw [add_block]; exact hn268_1) | exact hn268_1) (.int .u64 ((rd_T44 l0_5 x36_2).f1))).trans hx268_1; clear hn268_0; clear hn268_1; replace p268 := eq_true p268; replace q268 := eq_true q268)); try go_wp2_with (first | ((with_reducible refine gate_dst (N := 4) rfl ?_); refine box_event ?hg (N := 4) ?hd (cs := #[.int .u64 0, .int .u64 0]) (t := 44) ?hr ?_; (case hd => rfl); (case hg => rfl); (case hr => first | (go_simp; done) | (go_simp; rfl)); intro gb267 hg w41 hbox hb; have BK267 := aM_ (hbox); have GW267 := aM_ (geN HB hg); have GE267 := aM_ (geN HB hg); replace HB := bsA_ HB hb; have NB261_267 := aM_ (neN BK261 hg); have NB267_261 := aM_ (neN' BK261 hg); replace BK261 := bbA_ BK261 hb; clear hb hbox hg; have hnb42 := NB267_261.out; have hnc42 := NB261_267.out; obtain ⟨hcz43_0, hcz43_1, hfz43_0, hfz43_1⟩ := cz2_ (w := w41) BK267.out; obtain ⟨hcz44_0, hcz44_1, hcz44_2, hcz44_3, hcz44_4, hcz44_5, hcz44_6, hfz44_0, hfz44_1, hfz44_2, hfz44_3, hfz44_4, hfz44_5, hfz44_6⟩ := cz7_ (w := w41) BK261.out; have p268 : 0 ≤ ((ji37) : Int) := of_decide_eq_true (by assumption); have q268 : (ji37) < (l0_5.length : Int) := oD_; obtain ⟨ad268, e268, hx268_0, hx268_1⟩ := at_T44 HR0_5.out (ji37) p268 q268; obtain rfl : ad266 = ad268 := (by injection e268); have hn268_0 : ad266.block ≠ gb267 := Nat.ne_of_lt (Nat.lt_of_lt_of_le (by have := World.block_lt_of_cell? _ _ hx268_0; first | rwa [add_block] at this | exact this) GW267.out); have hn268_1 : ad266.block ≠ gb267 := Nat.ne_of_lt (Nat.lt_of_lt_of_le (by have := World.block_lt_of_cell? _ _ hx268_0; first | rwa [add_block] at this | exact this) GW267.out); replace hx268_0 := cN_ HB hx268_0; replace hx268_1 := cN_ HB hx268_1; replace hx268_0 := (cell_far (p := ⟨gb267, 0, none⟩) (by first | (rw [add_block]; exact hn268_0) | (show (Addr.add _ _).block ≠ _; rw [add_block]; exact hn268_0) | exact hn268_0) (.int .u64 ((rd_T44 l0_5 x36_2).f0))).trans hx268_0; replace hx268_1 := (cell_far (p := ⟨gb267, 0, none⟩) (by first | (rw [add_block]; exact hn268_0) | (show (Addr.add _ _).block ≠ _; rw [add_block]; exact hn268_0) | exact hn268_0) (.int .u64 ((rd_T44 l0_5 x36_2).f0))).trans hx268_1; replace hx268_0 := (cell_far (p := ⟨gb267, 1, none⟩) (by first | (rw [add_block]; exact hn268_1) | (show (Addr.add _ _).block ≠ _; rw [add_block]; exact hn268_1) | exact hn268_1) (.int .u64 ((rd_T44 l0_5 x36_2).f1))).trans hx268_0; replace hx268_1 := (cell_far (p := ⟨gb267, 1, none⟩) (by first | (rw [add_block]; exact hn268_1) | (show (Addr.add _ _).block ≠ _; rw [add_block]; exact hn268_1) | exact hn268_1) (.int .u64 ((rd_T44 l0_5 x36_2).f1))).trans hx268_1; clear hn268_0; clear hn268_1; replace p268 := eq_true p268; replace q268 := eq_true q268)))
              go_ret
              exact ⟨by (rfl), by repeat (((with_reducible first | exact HB.out | apply pw_below_drewN | refine below_set ?_ GE267.out)))⟩
             ·rw [if_neg c40] at H
              have c40b0 : decide (((rd_T44 l0_5 x36_2).f0) ≤ ((rd_T44 l0_5 (ji37)).f0)) = false := decide_eq_false c40
              clear c40
              have H' := aM_ H
              clear H
              have p266 : 0 ≤ (x36_2 : Int) := of_decide_eq_true (by ((with_reducible assumption)))
              have q266 : x36_2 < (l0_5.length : Int) := of_decide_eq_true (by ((with_reducible assumption)))
              obtain ⟨ad266, e266, hx266_0, hx266_1⟩ := at_T44 HR0_5.out x36_2 p266 q266
              cases e266
              replace hx266_0 := cN_ HB hx266_0
              replace hx266_1 := cN_ HB hx266_1
              replace p266 := eq_true p266
              replace q266 := eq_true q266
              go_wp2_with ((((with_reducible refine gate_dst (N := 4) rfl ?_); (try (refine gate_guard (by rfl) ?_; dsimp only)); refine box_event ?hg (N := 4) ?hd (cs := #[.int .u64 0, .int .u64 0]) (t := 44) ?hr ?_; (case hd => rfl); (case hg => rfl); (case hr => ((go_simp; done))); intro gb267 hg w45 hbox hb; have BK267 := aM_ (hbox); have GW267 := aM_ (geN HB hg); have GE267 := aM_ (geN HB hg); replace HB := bsA_ HB hb; have NB261_267 := aM_ (neN BK261 hg); have NB267_261 := aM_ (neN' BK261 hg); replace BK261 := bbA_ BK261 hb; clear hb hbox hg; have hnb46 := NB267_261.out; have hnc46 := NB261_267.out; obtain ⟨hcz47_0, hcz47_1, hfz47_0, hfz47_1⟩ := cz2_ (w := w45) BK267.out; obtain ⟨hcz48_0, hcz48_1, hcz48_2, hcz48_3, hcz48_4, hcz48_5, hcz48_6, hfz48_0, hfz48_1, hfz48_2, hfz48_3, hfz48_4, hfz48_5, hfz48_6⟩ := cz7_ (w := w45) BK261.out; have p268 : 0 ≤ ((ji37) : Int) := of_decide_eq_true (by ((with_reducible assumption))); have q268 : (ji37) < (l0_5.length : Int) := of_decide_eq_true (by ((with_reducible assumption))); obtain ⟨ad268, e268, hx268_0, hx268_1⟩ := at_T44 HR0_5.out (ji37) p268 q268; obtain rfl : ad266 = ad268 := (by injection e268); have hn268_0 : ad266.block ≠ gb267 := Nat.ne_of_lt (Nat.lt_of_lt_of_le (by have := World.block_lt_of_cell? _ _ hx268_0; (rwa [add_block] at this)) GW267.out); have hn268_1 : ad266.block ≠ gb267 := Nat.ne_of_lt (Nat.lt_of_lt_of_le (by have := World.block_lt_of_cell? _ _ hx268_0; (rwa [add_block] at this)) GW267.out); replace hx268_0 := cN_ HB hx268_0; replace hx268_1 := cN_ HB hx268_1; replace hx268_0 := (cell_far (p := ⟨gb267, 0, none⟩) (by ((rw [add_block]; exact hn268_0))) (.int .u64 ((rd_T44 l0_5 x36_2).f0))).trans hx268_0; replace hx268_1 := (cell_far (p := ⟨gb267, 0, none⟩) (by ((rw [add_block]; exact hn268_0))) (.int .u64 ((rd_T44 l0_5 x36_2).f0))).trans hx268_1; replace hx268_0 := (cell_far (p := ⟨gb267, 1, none⟩) (by ((rw [add_block]; exact hn268_1))) (.int .u64 ((rd_T44 l0_5 x36_2).f1))).trans hx268_0; replace hx268_1 := (cell_far (p := ⟨gb267, 1, none⟩) (by ((rw [add_block]; exact hn268_1))) (.int .u64 ((rd_T44 l0_5 x36_2).f1))).trans hx268_1; (try have hy268_0 := fun (n_ : Nat) => (show ((((w45.drewN n_).setCell ⟨gb267, 0, none⟩ (.int .u64 ((rd_T44 l0_5 x36_2).f0))).setCell ⟨gb267, 1, none⟩ (.int .u64 ((rd_T44 l0_5 x36_2).f1)))).cell? _ = some _ from hx268_0)); (try have hy268_1 := fun (n_ : Nat) => (show ((((w45.drewN n_).setCell ⟨gb267, 0, none⟩ (.int .u64 ((rd_T44 l0_5 x36_2).f0))).setCell ⟨gb267, 1, none⟩ (.int .u64 ((rd_T44 l0_5 x36_2).f1)))).cell? _ = some _ from hx268_1)); clear hn268_0; clear hn268_1; replace p268 := eq_true p268; replace q268 := eq_true q268)))
              repeat (go_quiet (first | ((with_reducible refine gate_dst (N := 4) rfl ?_); refine box_event ?hg (N := 4) ?hd (cs := #[.int .u64 0, .int .u64 0]) (t := 44) ?hr ?_; (case hd => rfl); (case hg => rfl); (case hr => first | (go_simp; done) | (go_simp; rfl)); intro gb267 hg w45 hbox hb; have BK267 := aM_ (hbox); have GW267 := aM_ (geN HB hg); have GE267 := aM_ (geN HB hg); replace HB := bsA_ HB hb; have NB261_267 := aM_ (neN BK261 hg); have NB267_261 := aM_ (neN' BK261 hg); replace BK261 := bbA_ BK261 hb; clear hb hbox hg; have hnb46 := NB267_261.out; have hnc46 := NB261_267.out; obtain ⟨hcz47_0, hcz47_1, hfz47_0, hfz47_1⟩ := cz2_ (w := w45) BK267.out; obtain ⟨hcz48_0, hcz48_1, hcz48_2, hcz48_3, hcz48_4, hcz48_5, hcz48_6, hfz48_0, hfz48_1, hfz48_2, hfz48_3, hfz48_4, hfz48_5, hfz48_6⟩ := cz7_ (w := w45) BK261.out; have p268 : 0 ≤ ((ji37) : Int) := of_decide_eq_true (by assumption); have q268 : (ji37) < (l0_5.length : Int) := oD_; obtain ⟨ad268, e268, hx268_0, hx268_1⟩ := at_T44 HR0_5.out (ji37) p268 q268; obtain rfl : ad266 = ad268 := (by injection e268); have hn268_0 : ad266.block ≠ gb267 := Nat.ne_of_lt (Nat.lt_of_lt_of_le (by have := World.block_lt_of_cell? _ _ hx268_0; first | rwa [add_block] at this | exact this) GW267.out); have hn268_1 : ad266.block ≠ gb267 := Nat.ne_of_lt (Nat.lt_of_lt_of_le (by have := World.block_lt_of_cell? _ _ hx268_0; first | rwa [add_block] at this | exact this) GW267.out); replace hx268_0 := cN_ HB hx268_0; replace hx268_1 := cN_ HB hx268_1; replace hx268_0 := (cell_far (p := ⟨gb267, 0, none⟩) (by first | (rw [add_block]; exact hn268_0) | (show (Addr.add _ _).block ≠ _; rw [add_block]; exact hn268_0) | exact hn268_0) (.int .u64 ((rd_T44 l0_5 x36_2).f0))).trans hx268_0; replace hx268_1 := (cell_far (p := ⟨gb267, 0, none⟩) (by first | (rw [add_block]; exact hn268_0) | (show (Addr.add _ _).block ≠ _; rw [add_block]; exact hn268_0) | exact hn268_0) (.int .u64 ((rd_T44 l0_5 x36_2).f0))).trans hx268_1; replace hx268_0 := (cell_far (p := ⟨gb267, 1, none⟩) (by first | (rw [add_block]; exact hn268_1) | (show (Addr.add _ _).block ≠ _; rw [add_block]; exact hn268_1) | exact hn268_1) (.int .u64 ((rd_T44 l0_5 x36_2).f1))).trans hx268_0; replace hx268_1 := (cell_far (p := ⟨gb267, 1, none⟩) (by first | (rw [add_block]; exact hn268_1) | (show (Addr.add _ _).block ≠ _; rw [add_block]; exact hn268_1) | exact hn268_1) (.int .u64 ((rd_T44 l0_5 x36_2).f1))).trans hx268_1; clear hn268_0; clear hn268_1; replace p268 := eq_true p268; replace q268 := eq_true q268)); try go_wp2_with (first | ((with_reducible refine gate_dst (N := 4) rfl ?_); refine box_event ?hg (N := 4) ?hd (cs := #[.int .u64 0, .int .u64 0]) (t := 44) ?hr ?_; (case hd => rfl); (case hg => rfl); (case hr => first | (go_simp; done) | (go_simp; rfl)); intro gb267 hg w45 hbox hb; have BK267 := aM_ (hbox); have GW267 := aM_ (geN HB hg); have GE267 := aM_ (geN HB hg); replace HB := bsA_ HB hb; have NB261_267 := aM_ (neN BK261 hg); have NB267_261 := aM_ (neN' BK261 hg); replace BK261 := bbA_ BK261 hb; clear hb hbox hg; have hnb46 := NB267_261.out; have hnc46 := NB261_267.out; obtain ⟨hcz47_0, hcz47_1, hfz47_0, hfz47_1⟩ := cz2_ (w := w45) BK267.out; obtain ⟨hcz48_0, hcz48_1, hcz48_2, hcz48_3, hcz48_4, hcz48_5, hcz48_6, hfz48_0, hfz48_1, hfz48_2, hfz48_3, hfz48_4, hfz48_5, hfz48_6⟩ := cz7_ (w := w45) BK261.out; have p268 : 0 ≤ ((ji37) : Int) := of_decide_eq_true (by assumption); have q268 : (ji37) < (l0_5.length : Int) := oD_; obtain ⟨ad268, e268, hx268_0, hx268_1⟩ := at_T44 HR0_5.out (ji37) p268 q268; obtain rfl : ad266 = ad268 := (by injection e268); have hn268_0 : ad266.block ≠ gb267 := Nat.ne_of_lt (Nat.lt_of_lt_of_le (by have := World.block_lt_of_cell? _ _ hx268_0; first | rwa [add_block] at this | exact this) GW267.out); have hn268_1 : ad266.block ≠ gb267 := Nat.ne_of_lt (Nat.lt_of_lt_of_le (by have := World.block_lt_of_cell? _ _ hx268_0; first | rwa [add_block] at this | exact this) GW267.out); replace hx268_0 := cN_ HB hx268_0; replace hx268_1 := cN_ HB hx268_1; replace hx268_0 := (cell_far (p := ⟨gb267, 0, none⟩) (by first | (rw [add_block]; exact hn268_0) | (show (Addr.add _ _).block ≠ _; rw [add_block]; exact hn268_0) | exact hn268_0) (.int .u64 ((rd_T44 l0_5 x36_2).f0))).trans hx268_0; replace hx268_1 := (cell_far (p := ⟨gb267, 0, none⟩) (by first | (rw [add_block]; exact hn268_0) | (show (Addr.add _ _).block ≠ _; rw [add_block]; exact hn268_0) | exact hn268_0) (.int .u64 ((rd_T44 l0_5 x36_2).f0))).trans hx268_1; replace hx268_0 := (cell_far (p := ⟨gb267, 1, none⟩) (by first | (rw [add_block]; exact hn268_1) | (show (Addr.add _ _).block ≠ _; rw [add_block]; exact hn268_1) | exact hn268_1) (.int .u64 ((rd_T44 l0_5 x36_2).f1))).trans hx268_0; replace hx268_1 := (cell_far (p := ⟨gb267, 1, none⟩) (by first | (rw [add_block]; exact hn268_1) | (show (Addr.add _ _).block ≠ _; rw [add_block]; exact hn268_1) | exact hn268_1) (.int .u64 ((rd_T44 l0_5 x36_2).f1))).trans hx268_1; clear hn268_0; clear hn268_1; replace p268 := eq_true p268; replace q268 := eq_true q268)))
              go_roundg k2
              case measure => have := HJ1.out; have := HK2.out; omega
              case rel => exact ⟨(wrap64 (x36_2 + 1)), (by (rfl)), H', ⟨by have := HJ1.out; have := HK2.out; omega⟩, ⟨by (with_reducible repeat ((refine blk_drewN ?_ _))); refine blk_far ?_ NB261_267.out _; refine blk_far ?_ NB261_267.out _; exact BK261.out⟩, ⟨by repeat (((with_reducible first | exact HB.out | apply pw_below_drewN | refine below_set ?_ GE267.out)))⟩⟩
            ·rw [if_neg c39] at H
             exact absurd H (by simp)
           ·rw [if_neg c38] at H
            exact absurd H (by simp)
          ·rw [if_neg c36] at H
           have c36b0 : decide (0 < x36_2) = false := decide_eq_false c36
           clear c36
           have H' := aM_ H
           clear H
           have p266 : 0 ≤ (x36_2 : Int) := of_decide_eq_true (by ((with_reducible assumption)))
           have q266 : x36_2 < (l0_5.length : Int) := of_decide_eq_true (by ((with_reducible assumption)))
           obtain ⟨ad266, e266, hx266_0, hx266_1⟩ := at_T44 HR0_5.out x36_2 p266 q266
           cases e266
           replace hx266_0 := cN_ HB hx266_0
           replace hx266_1 := cN_ HB hx266_1
           replace p266 := eq_true p266
           replace q266 := eq_true q266
           go_wp2_with ((((with_reducible refine gate_dst (N := 4) rfl ?_); (try (refine gate_guard (by rfl) ?_; dsimp only)); refine box_event ?hg (N := 4) ?hd (cs := #[.int .u64 0, .int .u64 0]) (t := 44) ?hr ?_; (case hd => rfl); (case hg => rfl); (case hr => ((go_simp; done))); intro gb267 hg w49 hbox hb; have BK267 := aM_ (hbox); have GW267 := aM_ (geN HB hg); have GE267 := aM_ (geN HB hg); replace HB := bsA_ HB hb; have NB261_267 := aM_ (neN BK261 hg); have NB267_261 := aM_ (neN' BK261 hg); replace BK261 := bbA_ BK261 hb; clear hb hbox hg; have hnb50 := NB267_261.out; have hnc50 := NB261_267.out; obtain ⟨hcz51_0, hcz51_1, hfz51_0, hfz51_1⟩ := cz2_ (w := w49) BK267.out)))
           repeat (go_quiet (first | ((with_reducible refine gate_dst (N := 4) rfl ?_); refine box_event ?hg (N := 4) ?hd (cs := #[.int .u64 0, .int .u64 0]) (t := 44) ?hr ?_; (case hd => rfl); (case hg => rfl); (case hr => first | (go_simp; done) | (go_simp; rfl)); intro gb267 hg w49 hbox hb; have BK267 := aM_ (hbox); have GW267 := aM_ (geN HB hg); have GE267 := aM_ (geN HB hg); replace HB := bsA_ HB hb; have NB261_267 := aM_ (neN BK261 hg); have NB267_261 := aM_ (neN' BK261 hg); replace BK261 := bbA_ BK261 hb; clear hb hbox hg; have hnb50 := NB267_261.out; have hnc50 := NB261_267.out; obtain ⟨hcz51_0, hcz51_1, hfz51_0, hfz51_1⟩ := cz2_ (w := w49) BK267.out)); try go_wp2_with (first | ((with_reducible refine gate_dst (N := 4) rfl ?_); refine box_event ?hg (N := 4) ?hd (cs := #[.int .u64 0, .int .u64 0]) (t := 44) ?hr ?_; (case hd => rfl); (case hg => rfl); (case hr => first | (go_simp; done) | (go_simp; rfl)); intro gb267 hg w49 hbox hb; have BK267 := aM_ (hbox); have GW267 := aM_ (geN HB hg); have GE267 := aM_ (geN HB hg); replace HB := bsA_ HB hb; have NB261_267 := aM_ (neN BK261 hg); have NB267_261 := aM_ (neN' BK261 hg); replace BK261 := bbA_ BK261 hb; clear hb hbox hg; have hnb50 := NB267_261.out; have hnc50 := NB261_267.out; obtain ⟨hcz51_0, hcz51_1, hfz51_0, hfz51_1⟩ := cz2_ (w := w49) BK267.out)))
           go_roundg k2
           case measure => have := HJ1.out; have := HK2.out; omega
           case rel => exact ⟨(wrap64 (x36_2 + 1)), (by (rfl)), H', ⟨by have := HJ1.out; have := HK2.out; omega⟩, ⟨by (with_reducible repeat ((refine blk_drewN ?_ _))); refine blk_far ?_ NB261_267.out _; refine blk_far ?_ NB261_267.out _; exact BK261.out⟩, ⟨by repeat (((with_reducible first | exact HB.out | apply pw_below_drewN | refine below_set ?_ GE267.out)))⟩⟩
        ·rw [if_neg c31] at H
         exact absurd H (by simp)
       ·rw [if_neg c30] at H
        exact absurd H (by simp)
      ·rw [if_neg c29] at H
       have c29b0 := decide_eq_false c29
       clear c29
       replace H := oB_ H
       obtain ⟨t269, A520, H⟩ := H
       replace H : ((damsonref04_Add.f k2 t269).bind fun bt272 => (if bt272.2 = 0 then (damsonref09_Check.j2 k2 bt272.1 (decide (bt272.1 > a0_4)) a0_0 a0_1 a0_2 a0_3 a0_4 l0_5 a0_6) else (damsonref09_Check.j2 k2 bt272.1 true a0_0 a0_1 a0_2 a0_3 a0_4 l0_5 a0_6))) = some r := H
       have A52 := aM_ A520
       clear A520
       replace H := oB_ H
       obtain ⟨⟨t272, t273⟩, A530, H⟩ := H
       replace H : (if t273 = 0 then (damsonref09_Check.j2 k2 t272 (decide (t272 > a0_4)) a0_0 a0_1 a0_2 a0_3 a0_4 l0_5 a0_6) else (damsonref09_Check.j2 k2 t272 true a0_0 a0_1 a0_2 a0_3 a0_4 l0_5 a0_6)) = some r := H
       have A53 := aM_ A530
       clear A530
       have HC54 := aM_ H
       clear H
       obtain ⟨hcz55_0, hcz55_1, hcz55_2, hcz55_3, hcz55_4, hcz55_5, hcz55_6, hfz55_0, hfz55_1, hfz55_2, hfz55_3, hfz55_4, hfz55_5, hfz55_6⟩ := cz7_ (w := wr) BK261.out
       go_upto_region 10 with (first | (go_at_call 95; (with_reducible refine (damsonref09_amounts.calls k2 _ _ l0_5 t269 _ ?side1 ?side2 A52.out).mono ?_); (case side1 => repeat ((exact (Kd.C_below HR0_5.out HB.out)))); (case side2 => exact HC0_5.out); rintro e w56 ⟨v270, rfl, ho0, hb⟩; have HO271 := aM_ (Kd.R_lower ho0 (below_size (belN HB))); replace BK261 := bbA_ BK261 hb; replace HB := bsA_ HB hb; (try clear hb); (try clear ho0); obtain ⟨Ao57, co57, eo57⟩ := Kd.R_slice HO271.out; subst eo57) | (go_at_call 94; (with_reducible refine (damsonref04_Add.calls k2 _ _ t269 t272 t273 _ ?side1 ?side2 A53.out).mono ?_); (case side1 => exact Kd.CN (Kd.R_reads' HO271.out).2.2); (case side2 => exact (Kd.R_reads' HO271.out).2.1); rintro e w' ⟨rfl, ⟨nd, rfl⟩⟩))
       go_cut [75] (fun v75 wc => ∃ (kq : Nat) (x75_53 : Bool), v75 = .bool x75_53 ∧ Aside0 (damsonref09_Check.j2 kq t272 x75_53 a0_0 a0_1 a0_2 a0_3 a0_4 l0_5 a0_6 = some r) ∧ Aside0 (kq ≤ k2) ∧ Aside0 (wc.heap[gb261]? = some (.cells #[.int .u64 a0_0, .int .u64 a0_1, .int .u64 a0_2, .int .u64 a0_3, .int .u64 a0_4, (.slice A0_5 l0_5.length c0_5), .bool a0_6] 25 (0, 0))) ∧ Aside0 (Below w.heap.size w wc))
       case first =>
        have H := HC54.out
        clear HC54
        by_cases c58 : t273 = 0
        ·rw [if_pos c58] at H
         have c58b0 : (t273 == 0) = true := beq_iff_eq.mpr c58
         have c58b1 : (t273 != 0) = false := bne_eq_false_iff_eq.mpr c58
         clear c58
         ((skip))
         have H' := aM_ H
         clear H
         obtain ⟨hcz59_0, hcz59_1, hcz59_2, hcz59_3, hcz59_4, hcz59_5, hcz59_6, hfz59_0, hfz59_1, hfz59_2, hfz59_3, hfz59_4, hfz59_5, hfz59_6⟩ := cz7_ (w := w56) BK261.out
         go_wp2
         go_meet
         case rel => exact ⟨_, (decide (t272 > a0_4)), (by (rfl)), H', ⟨by have := HJ1.out; have := HK2.out; (omega)⟩, ⟨by (with_reducible repeat ((refine blk_drewN ?_ _))); exact BK261.out⟩, ⟨by repeat (((with_reducible first | exact HB.out | apply pw_below_drewN)))⟩⟩
        ·rw [if_neg c58] at H
         have c58b0 : (t273 == 0) = false := beq_eq_false_iff_ne.mpr c58
         have c58b1 : (t273 != 0) = true := bne_iff_ne.mpr c58
         ((skip))
         have H' := aM_ H
         clear H
         go_wp2
         go_meet
         case rel => exact ⟨_, (true), (by (rfl)), H', ⟨by have := HJ1.out; have := HK2.out; (omega)⟩, ⟨by (with_reducible repeat ((refine blk_drewN ?_ _))); exact BK261.out⟩, ⟨by repeat (((with_reducible first | exact HB.out | apply pw_below_drewN)))⟩⟩
       case rest =>
        clear HC54
        try clear c29b0
        try clear hcz55_0
        try clear hcz55_1
        try clear hcz55_2
        try clear hcz55_3
        try clear hcz55_4
        try clear hcz55_5
        try clear hcz55_6
        try clear hfz55_0
        try clear hfz55_1
        try clear hfz55_2
        try clear hfz55_3
        try clear hfz55_4
        try clear hfz55_5
        try clear hfz55_6
        obtain ⟨kq, x75_53, rfl, HA, HJ53, BK261, HB⟩ := hcut
        cases kq with
        | zero => exact absurd HA.out (by simp [damsonref09_Check.j2])
        | succ kj53 =>
         have H := HA.out
         clear HA
         simp only [damsonref09_Check.j2] at H
         by_cases c60 : x75_53 = true
         ·subst c60
          have H1 : (some 1) = some r := by rw [if_pos rfl] at H; exact H
          clear H
          have H := H1
          clear H1
          obtain rfl := Option.some.inj H
          go_wp2
          go_ret
          exact ⟨by (rfl), by repeat (((with_reducible (exact HB.out))))⟩
         ·replace c60 := Bool.eq_false_iff.mpr c60
          subst c60
          have H1 : ((damsonref04_Add.f kj53 (([a0_1, a0_2, t272] : List Int))).bind fun bt277 => (if bt277.2 = 0 then (some 0) else (some 1))) = some r := by rw [if_neg (show ¬ (false = true) by decide)] at H; exact H
          clear H
          have H := H1
          clear H1
          obtain ⟨y274, hy274⟩ : ∃ y_ : List Int, y_ = (([a0_1, a0_2, t272] : List Int)) := ⟨_, rfl⟩
          replace H : ((damsonref04_Add.f kj53 y274).bind fun bt277 => (if bt277.2 = 0 then (some 0) else (some 1))) = some r := by ((rw [hy274]; with_reducible exact H))
          have Ny274 := aM_ hy274
          clear hy274
          replace H := oB_ H
          obtain ⟨⟨t277, t278⟩, A610, H⟩ := H
          replace H : (if t278 = 0 then (some 0) else (some 1)) = some r := H
          have A61 := aM_ A610
          clear A610
          by_cases c62 : t278 = 0
          ·rw [if_pos c62] at H
           have c62b0 : (t278 == 0) = true := beq_iff_eq.mpr c62
           have c62b1 : (t278 != 0) = false := bne_eq_false_iff_eq.mpr c62
           clear c62
           obtain rfl := Option.some.inj H
           obtain ⟨hcz63_0, hcz63_1, hcz63_2, hcz63_3, hcz63_4, hcz63_5, hcz63_6, hfz63_0, hfz63_1, hfz63_2, hfz63_3, hfz63_4, hfz63_5, hfz63_6⟩ := cz7_ (w := wc) BK261.out
           go_wp2_with (first | ((with_reducible refine gate_dst (N := 82) rfl ?_); (try (refine gate_guard (by rfl) ?_; dsimp only)); refine Kd.R_lit (Kd.int .u64) _ 22 ?hg (N := 82) ?hd (xs := ([a0_1, a0_2, t272] : List Int)) (inner := [.int .u64 a0_1, .int .u64 a0_2, .int .u64 t272]) (ok := fun _ => True) (okp := fun _ => True) ?hr ?hp (fun _ hk => hk) trivial (Below.refl _ _) (Nat.le_refl _) (by simp) ?_; (case hd => rfl); (case hg => rfl); (case hr => ((go_simp; done))); (case hp => exact (Reps.one (show Kd.M (Kd.int .u64) _ _ _ a0_1 [.int .u64 a0_1] from rfl) (Reps.one (show Kd.M (Kd.int .u64) _ _ _ a0_2 [.int .u64 a0_2] from rfl) (Reps.one (show Kd.M (Kd.int .u64) _ _ _ t272 [.int .u64 t272] from rfl) (Reps.none _ _))))); intro v275 w64 ho65 hb hg_ hnew_; clear hg_ hnew_; ((rw [← Ny274.out] at ho65)); have HO276 := aM_ (Kd.R_lower ho65 (below_size (belN HB))); replace BK261 := bbA_ BK261 hb; replace HB := bsA_ HB hb; clear hb ho65; obtain ⟨Ao66, co66, eo66⟩ := Kd.R_slice HO276.out; subst eo66) | (go_at_call 94; (with_reducible refine (damsonref04_Add.calls kj53 _ _ y274 t277 t278 _ ?side1 ?side2 A61.out).mono ?_); (case side1 => exact Kd.CN (Kd.R_reads' HO276.out).2.2); (case side2 => exact (Kd.R_reads' HO276.out).2.1); rintro e w' ⟨rfl, ⟨nd, rfl⟩⟩))
           go_ret
           exact ⟨by (rfl), by repeat (((with_reducible first | exact HB.out | apply pw_below_drewN)))⟩
          ·rw [if_neg c62] at H
           have c62b0 : (t278 == 0) = false := beq_eq_false_iff_ne.mpr c62
           have c62b1 : (t278 != 0) = true := bne_iff_ne.mpr c62
           obtain rfl := Option.some.inj H
           obtain ⟨hcz67_0, hcz67_1, hcz67_2, hcz67_3, hcz67_4, hcz67_5, hcz67_6, hfz67_0, hfz67_1, hfz67_2, hfz67_3, hfz67_4, hfz67_5, hfz67_6⟩ := cz7_ (w := wc) BK261.out
           go_wp2_with (first | ((with_reducible refine gate_dst (N := 82) rfl ?_); (try (refine gate_guard (by rfl) ?_; dsimp only)); refine Kd.R_lit (Kd.int .u64) _ 22 ?hg (N := 82) ?hd (xs := ([a0_1, a0_2, t272] : List Int)) (inner := [.int .u64 a0_1, .int .u64 a0_2, .int .u64 t272]) (ok := fun _ => True) (okp := fun _ => True) ?hr ?hp (fun _ hk => hk) trivial (Below.refl _ _) (Nat.le_refl _) (by simp) ?_; (case hd => rfl); (case hg => rfl); (case hr => ((go_simp; done))); (case hp => exact (Reps.one (show Kd.M (Kd.int .u64) _ _ _ a0_1 [.int .u64 a0_1] from rfl) (Reps.one (show Kd.M (Kd.int .u64) _ _ _ a0_2 [.int .u64 a0_2] from rfl) (Reps.one (show Kd.M (Kd.int .u64) _ _ _ t272 [.int .u64 t272] from rfl) (Reps.none _ _))))); intro v275 w68 ho69 hb hg_ hnew_; clear hg_ hnew_; ((rw [← Ny274.out] at ho69)); have HO276 := aM_ (Kd.R_lower ho69 (below_size (belN HB))); replace BK261 := bbA_ BK261 hb; replace HB := bsA_ HB hb; clear hb ho69; obtain ⟨Ao70, co70, eo70⟩ := Kd.R_slice HO276.out; subst eo70) | (go_at_call 94; (with_reducible refine (damsonref04_Add.calls kj53 _ _ y274 t277 t278 _ ?side1 ?side2 A61.out).mono ?_); (case side1 => exact Kd.CN (Kd.R_reads' HO276.out).2.2); (case side2 => exact (Kd.R_reads' HO276.out).2.1); rintro e w' ⟨rfl, ⟨nd, rfl⟩⟩))
           go_ret
           exact ⟨by (rfl), by repeat (((with_reducible first | exact HB.out | apply pw_below_drewN)))⟩

end Go.Proofs.Ytcfbcoinbecdfaa.P
