-- written by a program of this session (wip/print)
import Derived.Test.YtcfbcoinbecdfaaQLdoesx0
import Derived.Test.YtcfbcoinbecdfaaQLdoesx2
import Derived.Test.YtcfbcoinbecdfaaQLdoesx4
import Derived.Test.YtcfbcoinbecdfaaQLdoesx5
import Derived.Test.YtcfbcoinbecdfaaQLdoesx8
import Derived.Test.YtcfbcoinbecdfaaQLdoesx11
import Derived.Test.YtcfbcoinbecdfaaQLdoesx12
import Derived.Test.YtcfbcoinbecdfaaQLdoesx15
namespace Go.Proofs.Ytcfbcoinbecdfaa.P
open Go.RowKit Go.Proofs.YtcfbcoinbecdfaaW.PrintWords Go.Proofs.YtcfbcoinbecdfaaW.PrintLast Go.Proofs.YtcfbcoinbecdfaaW.PrintMore
attribute [local go_sem] max2_int min2_int max_two min_two max_three min_three max_four min_four run_sub64_   -- for this text's walks alone
set_option linter.unusedVariables false
set_option linter.unusedSimpArgs false

/-! ### damsonref10_Close: function 62 (by hand) -/
def damsonref10_Close.g (k : Nat) (l : List S25) (id : Int) : Option (List S25 × Int) := (damsonref10_Get.f k l id).bind fun t => if t.2.2.2.2.2.2.2 = 0 then (damsonref09_Close.f k t.1 t.2.1 t.2.2.1 t.2.2.2.1 t.2.2.2.2.1 t.2.2.2.2.2.1 t.2.2.2.2.2.2.1 ).bind fun d => if d.2.2.2.2.2.2.2 = 0 then (damsonref10_with.g k l ⟨d.1, d.2.1, d.2.2.1, d.2.2.2.1, d.2.2.2.2.1, d.2.2.2.2.2.1, d.2.2.2.2.2.2.1⟩).bind fun x => some (x, 0) else some ([], d.2.2.2.2.2.2.2) else some ([], t.2.2.2.2.2.2.2)
theorem damsonref10_Close.mono_g (l : List S25) (id : Int) (k : Nat) : LeO (damsonref10_Close.g k l id) (damsonref10_Close.g (k + 1) l id) := by
  unfold damsonref10_Close.g
  repeat' first
    | (with_reducible exact LeO.refl _)
    | apply damsonref10_Get.mono
    | apply damsonref09_Close.mono
    | apply damsonref10_with.mono_g
    | (with_reducible refine LeO.ite ?_ ?_)
    | (with_reducible refine LeO.bind ?_ (fun _ => ?_))
set_option maxHeartbeats 16000000 in
set_option maxRecDepth 100000 in
theorem damsonref10_Close.callsS (k : Nat) (A0 : Option Addr) (c0 : Nat) (l : List S25) (id : Int) (r : List S25) (er : Int) (w : World) (hr0 : Kd.C k25 w A0 l.length l) (hc0 : l.length ≤ c0) (h : damsonref10_Close.g k l id = some (r, er)) :
    Calls Try.prog 62 #[.slice A0 l.length c0, .int .u64 id] w fun e w' => ∃ A c, e = .returned (.tuple #[.slice A r.length c, .int .i64 er]) ∧ r.length ≤ c ∧ Kd.C k25 w' A r.length r ∧ Below w.heap.size w w' := by
  have HR0 := aM_ hr0
  have HC0 := aM_ hc0
  have HB := aM_ (Below.refl w.heap.size w)
  clear hr0 hc0
  unfold damsonref10_Close.g at h
  obtain ⟨⟨t0, t1, t2, t3, t4, t5, t6, te⟩, h1, h_⟩ := oB_ h
  replace h := h_
  clear h_
  have HF1 := aM_ h1
  clear h1
  try dsimp only at h
  by_cases hc : te = 0
  case neg =>
    rw [if_neg hc] at h
    have he1 : (te != 0) = true := bne_iff_ne.mpr hc
    clear hc
    injection h with h
    injection h with h1 h2
    subst h1 h2
    go_enter Try.func62, Try.ntmps62
    go_wp2_with (((go_at_call 49; refine (damsonref10_Get.calls k A0 c0 l id t0 t1 t2 t3 t4 t5 t6 te _ (Kd.C_below HR0.out HB.out) HC0.out HF1.out).mono ?_; rintro e w1 ⟨v, rfl, ho, hb⟩; clear HF1; replace HB := aM_ (below_then HB.out HB.out.size hb); obtain ⟨At, ct, hv⟩ := Kd.R_slice ho; subst hv; have HCt := aM_ (Kd.R_reads' ho).2.1; have HRt := aM_ (Kd.R_reads' ho).2.2; clear hb ho)))
    go_ret2
    exact ⟨none, 0, rfl, Nat.zero_le _, ag_nil25 _, HB.out.alloc HB.out.size _⟩
  rw [if_pos hc] at h
  subst hc
  obtain ⟨⟨d0, d1, d2, d3, d4, d5, d6, de⟩, h1, h_⟩ := oB_ h
  replace h := h_
  clear h_
  have HF3 := aM_ h1
  clear h1
  try dsimp only at h
  by_cases hc : de = 0
  case neg =>
    rw [if_neg hc] at h
    have he2 : (de != 0) = true := bne_iff_ne.mpr hc
    clear hc
    injection h with h
    injection h with h1 h2
    subst h1 h2
    go_enter Try.func62, Try.ntmps62
    go_wp2_with (first | (go_at_call 49; refine (damsonref10_Get.calls k A0 c0 l id t0 t1 t2 t3 t4 t5 t6 0 _ (Kd.C_below HR0.out HB.out) HC0.out HF1.out).mono ?_; rintro e w1 ⟨v, rfl, ho, hb⟩; clear HF1; replace HB := aM_ (below_then HB.out HB.out.size hb); obtain ⟨At, ct, hv⟩ := Kd.R_slice ho; subst hv; have HCt := aM_ (Kd.R_reads' ho).2.1; have HRt := aM_ (Kd.R_reads' ho).2.2; clear hb ho) | (go_at_call 43; have hal := (Below.refl w1.heap.size w1).alloc (Nat.le_refl _) (.cells #[.int .u64 t0, .int .u64 t1, .int .u64 t2, .int .u64 t3, .int .u64 t4, .slice At t5.length ct, .bool t6] 25); replace HB := aM_ (below_then HB.out HB.out.size hal); replace HRt := aM_ (Kd.C_below HRt.out hal); have KBt := aM_ (blk_new w1 (.cells #[.int .u64 t0, .int .u64 t1, .int .u64 t2, .int .u64 t3, .int .u64 t4, .slice At t5.length ct, .bool t6] 25)); clear hal; obtain ⟨hy0, hy1, hy2, hy3, hy4, hy5, hy6, hy7, hy8, hy9, hy10, hy11, hy12, hy13⟩ := cz7_ KBt.out; refine (damsonref09_Close.calls k t0 t1 t2 t3 t4 At ct t5 t6  d0 d1 d2 d3 d4 d5 d6 de _ HRt.out HCt.out HF3.out).mono ?_; rintro e w2 ⟨v, rfl, ho, hb⟩; clear HF3; replace HB := aM_ (below_then HB.out HB.out.size hb); replace HRt := aM_ (Kd.C_below HRt.out hb); replace KBt := aM_ (blk_below KBt.out hb); obtain ⟨Ad, cd, hv⟩ := Kd.R_slice ho; subst hv; have HCd := aM_ (Kd.R_reads' ho).2.1; have HRd := aM_ (Kd.R_reads' ho).2.2; clear hb ho))
    go_ret2
    exact ⟨none, 0, rfl, Nat.zero_le _, ag_nil25 _, HB.out.alloc HB.out.size _⟩
  rw [if_pos hc] at h
  subst hc
  obtain ⟨x, h1, h_⟩ := oB_ h
  replace h := h_
  clear h_
  have HF4 := aM_ h1
  clear h1
  injection h with h
  injection h with h1 h2
  subst h1 h2
  go_enter Try.func62, Try.ntmps62
  go_wp2_with (first | (go_at_call 49; refine (damsonref10_Get.calls k A0 c0 l id t0 t1 t2 t3 t4 t5 t6 0 _ (Kd.C_below HR0.out HB.out) HC0.out HF1.out).mono ?_; rintro e w1 ⟨v, rfl, ho, hb⟩; clear HF1; replace HB := aM_ (below_then HB.out HB.out.size hb); obtain ⟨At, ct, hv⟩ := Kd.R_slice ho; subst hv; have HCt := aM_ (Kd.R_reads' ho).2.1; have HRt := aM_ (Kd.R_reads' ho).2.2; clear hb ho) | (go_at_call 43; have hal := (Below.refl w1.heap.size w1).alloc (Nat.le_refl _) (.cells #[.int .u64 t0, .int .u64 t1, .int .u64 t2, .int .u64 t3, .int .u64 t4, .slice At t5.length ct, .bool t6] 25); replace HB := aM_ (below_then HB.out HB.out.size hal); replace HRt := aM_ (Kd.C_below HRt.out hal); have KBt := aM_ (blk_new w1 (.cells #[.int .u64 t0, .int .u64 t1, .int .u64 t2, .int .u64 t3, .int .u64 t4, .slice At t5.length ct, .bool t6] 25)); clear hal; obtain ⟨hy0, hy1, hy2, hy3, hy4, hy5, hy6, hy7, hy8, hy9, hy10, hy11, hy12, hy13⟩ := cz7_ KBt.out; refine (damsonref09_Close.calls k t0 t1 t2 t3 t4 At ct t5 t6  d0 d1 d2 d3 d4 d5 d6 0 _ HRt.out HCt.out HF3.out).mono ?_; rintro e w2 ⟨v, rfl, ho, hb⟩; clear HF3; replace HB := aM_ (below_then HB.out HB.out.size hb); replace HRt := aM_ (Kd.C_below HRt.out hb); replace KBt := aM_ (blk_below KBt.out hb); obtain ⟨Ad, cd, hv⟩ := Kd.R_slice ho; subst hv; have HCd := aM_ (Kd.R_reads' ho).2.1; have HRd := aM_ (Kd.R_reads' ho).2.2; clear hb ho) | (go_at_call 113; have hal := (Below.refl w2.heap.size w2).alloc (Nat.le_refl _) (.cells #[.int .u64 d0, .int .u64 d1, .int .u64 d2, .int .u64 d3, .int .u64 d4, .slice Ad d5.length cd, .bool d6] 25); replace HB := aM_ (below_then HB.out HB.out.size hal); replace HRt := aM_ (Kd.C_below HRt.out hal); replace KBt := aM_ (blk_below KBt.out hal); replace HRd := aM_ (Kd.C_below HRd.out hal); have KBd := aM_ (blk_new w2 (.cells #[.int .u64 d0, .int .u64 d1, .int .u64 d2, .int .u64 d3, .int .u64 d4, .slice Ad d5.length cd, .bool d6] 25)); clear hal; refine (damsonref10_with.callsS k A0 c0 l ⟨d0, d1, d2, d3, d4, d5, d6⟩ Ad cd x _ (Kd.C_below HR0.out HB.out) HC0.out HRd.out HCd.out HF4.out).mono ?_; rintro e w3 ⟨Ax, cx, rfl, hcx, hx, hb⟩; clear HF4; replace HB := aM_ (below_then HB.out HB.out.size hb); replace HRt := aM_ (Kd.C_below HRt.out hb); replace KBt := aM_ (blk_below KBt.out hb); replace HRd := aM_ (Kd.C_below HRd.out hb); replace KBd := aM_ (blk_below KBd.out hb); have HCx := aM_ hcx; have HRx := aM_ hx; clear hb hcx hx))
  go_ret2
  exact ⟨Ax, cx, rfl, HCx.out, HRx.out, HB.out⟩

/-! ### money_Sub: function 84 -/
def money_Sub.f (k : Nat) (a0 : Int) (a1 : Int) : Option (Int × Int) := (money_Check.f k (([a0, a1] : List Int))).bind fun t341 => (if t341 = 0 then (if (sub64b a0 a1) > 0 then (some (0, 9)) else (some (sub64d a0 a1, 0))) else (some (0, 1)))
theorem money_Sub.mono : ∀ a0 a1 k, LeO (money_Sub.f k a0 a1) (money_Sub.f (k + 1) a0 a1) := by
  intro a0 a1 k
  unfold money_Sub.f
  repeat' first
      | (with_reducible exact money_Check.mono _ _)
      | (with_reducible exact LeO.refl _)
      | (with_reducible refine LeO.bind ?_ (fun _ => ?_))
      | exact money_Check.mono _ _
      | exact LeO.none _
      | refine LeO.ite ?_ ?_
      | refine LeO.bind ?_ (fun _ => ?_)
set_option maxHeartbeats 8000000 in
set_option maxRecDepth 100000 in
theorem money_Sub.calls (k : Nat) (a0 : Int) (a1 : Int) (r1 : Int) (r2 : Int) (w : World) (h : money_Sub.f k a0 a1 = some (r1, r2)) :
    Calls Try.prog 84 #[.int .u64 a0, .int .u64 a1] w fun e w' => e = .returned (.tuple #[.int .u64 r1, .int .i64 r2]) ∧ Below w.heap.size w w' := by
  have HB := aM_ (Below.refl w.heap.size w)
  have H : ((money_Check.f k (([a0, a1] : List Int))).bind fun t341 => (if t341 = 0 then (if (sub64b a0 a1) > 0 then (some (0, 9)) else (some (sub64d a0 a1, 0))) else (some (0, 1)))) = some (r1, r2) := h
  clear h
  obtain ⟨y338, hy338⟩ : ∃ y_ : List Int, y_ = (([a0, a1] : List Int)) := ⟨_, rfl⟩
  replace H : ((money_Check.f k y338).bind fun t341 => (if t341 = 0 then (if (sub64b a0 a1) > 0 then (some (0, 9)) else (some (sub64d a0 a1, 0))) else (some (0, 1)))) = some (r1, r2) := by ((rw [hy338]; with_reducible exact H))
  have Ny338 := aM_ hy338
  clear hy338
  replace H := oB_ H
  obtain ⟨t341, A30, H⟩ := H
  replace H : (if t341 = 0 then (if (sub64b a0 a1) > 0 then (some (0, 9)) else (some (sub64d a0 a1, 0))) else (some (0, 1))) = some (r1, r2) := H
  have A3 := aM_ A30
  clear A30
  by_cases c4 : t341 = 0
  · rw [if_pos c4] at H
    have c4b0 : (t341 == 0) = true := beq_iff_eq.mpr c4
    have c4b1 : (t341 != 0) = false := bne_eq_false_iff_eq.mpr c4
    clear c4
    by_cases c5 : (sub64b a0 a1) > 0
    · rw [if_pos c5] at H
      have c5b0 : decide (0 < (sub64b a0 a1)) = true := decide_eq_true c5
      clear c5
      simp only [Option.some.injEq, Prod.mk.injEq] at H
      obtain ⟨rfl, rfl⟩ := H
      go_enter Try.func84, Try.ntmps84
      go_wp2_with (first | ((with_reducible refine gate_dst (N := 17) rfl ?_); refine Kd.R_lit (Kd.int .u64) _ 22 ?hg (N := 17) ?hd (xs := ([a0, a1] : List Int)) (inner := [.int .u64 a0, .int .u64 a1]) (ok := fun _ => True) (okp := fun _ => True) ?hr ?hp (fun _ hk => hk) trivial (Below.refl _ _) (Nat.le_refl _) (by simp) ?_; (case hd => rfl); (case hg => rfl); (case hr => ((go_simp; done))); (case hp => exact (Reps.one (show Kd.M (Kd.int .u64) _ _ _ a0 [.int .u64 a0] from rfl) (Reps.one (show Kd.M (Kd.int .u64) _ _ _ a1 [.int .u64 a1] from rfl) (Reps.none _ _)))); intro v339 w6 ho7 hb hg_ hnew_; clear hg_ hnew_; ((rw [← Ny338.out] at ho7)); have HO340 := aM_ (Kd.R_lower ho7 (below_size (belN HB))); replace HB := bsA_ HB hb; clear hb ho7; obtain ⟨Ao8, co8, eo8⟩ := Kd.R_slice HO340.out; subst eo8) | ((with_reducible refine gate_callee (f := 87) rfl ?_); refine gL_ 18 Try.func87 #[.slice Ao8 y338.length co8] ?_; (with_reducible refine (money_Check.calls k _ _ y338 t341 _ ?side1 ?side2 A3.out).mono ?_); (case side1 => exact Kd.CN (Kd.R_reads' HO340.out).2.2); (case side2 => exact (Kd.R_reads' HO340.out).2.1); rintro e w9 ⟨rfl, hb⟩; refine ⟨_, rfl, ?_⟩; replace HO340 := aM_ (Kd.R_below (Kd.RN HO340) hb); replace HB := bsA_ HB hb; (try clear hb); (try clear hb2); (try clear hk); (try clear hi)))
      go_ret2
      exact ⟨by (rfl), by repeat (((with_reducible (exact HB.out))))⟩
    · rw [if_neg c5] at H
      have c5b0 : decide (0 < (sub64b a0 a1)) = false := decide_eq_false c5
      clear c5
      simp only [Option.some.injEq, Prod.mk.injEq] at H
      obtain ⟨rfl, rfl⟩ := H
      go_enter Try.func84, Try.ntmps84
      go_wp2_with (first | ((with_reducible refine gate_dst (N := 17) rfl ?_); refine Kd.R_lit (Kd.int .u64) _ 22 ?hg (N := 17) ?hd (xs := ([a0, a1] : List Int)) (inner := [.int .u64 a0, .int .u64 a1]) (ok := fun _ => True) (okp := fun _ => True) ?hr ?hp (fun _ hk => hk) trivial (Below.refl _ _) (Nat.le_refl _) (by simp) ?_; (case hd => rfl); (case hg => rfl); (case hr => ((go_simp; done))); (case hp => exact (Reps.one (show Kd.M (Kd.int .u64) _ _ _ a0 [.int .u64 a0] from rfl) (Reps.one (show Kd.M (Kd.int .u64) _ _ _ a1 [.int .u64 a1] from rfl) (Reps.none _ _)))); intro v339 w10 ho11 hb hg_ hnew_; clear hg_ hnew_; ((rw [← Ny338.out] at ho11)); have HO340 := aM_ (Kd.R_lower ho11 (below_size (belN HB))); replace HB := bsA_ HB hb; clear hb ho11; obtain ⟨Ao12, co12, eo12⟩ := Kd.R_slice HO340.out; subst eo12) | ((with_reducible refine gate_callee (f := 87) rfl ?_); refine gL_ 18 Try.func87 #[.slice Ao12 y338.length co12] ?_; (with_reducible refine (money_Check.calls k _ _ y338 t341 _ ?side1 ?side2 A3.out).mono ?_); (case side1 => exact Kd.CN (Kd.R_reads' HO340.out).2.2); (case side2 => exact (Kd.R_reads' HO340.out).2.1); rintro e w13 ⟨rfl, hb⟩; refine ⟨_, rfl, ?_⟩; replace HO340 := aM_ (Kd.R_below (Kd.RN HO340) hb); replace HB := bsA_ HB hb; (try clear hb); (try clear hb2); (try clear hk); (try clear hi)))
      go_ret2
      exact ⟨by (rfl), by repeat (((with_reducible (exact HB.out))))⟩
  · rw [if_neg c4] at H
    have c4b0 : (t341 == 0) = false := beq_eq_false_iff_ne.mpr c4
    have c4b1 : (t341 != 0) = true := bne_iff_ne.mpr c4
    simp only [Option.some.injEq, Prod.mk.injEq] at H
    obtain ⟨rfl, rfl⟩ := H
    go_enter Try.func84, Try.ntmps84
    go_wp2_with (first | ((with_reducible refine gate_dst (N := 17) rfl ?_); refine Kd.R_lit (Kd.int .u64) _ 22 ?hg (N := 17) ?hd (xs := ([a0, a1] : List Int)) (inner := [.int .u64 a0, .int .u64 a1]) (ok := fun _ => True) (okp := fun _ => True) ?hr ?hp (fun _ hk => hk) trivial (Below.refl _ _) (Nat.le_refl _) (by simp) ?_; (case hd => rfl); (case hg => rfl); (case hr => ((go_simp; done))); (case hp => exact (Reps.one (show Kd.M (Kd.int .u64) _ _ _ a0 [.int .u64 a0] from rfl) (Reps.one (show Kd.M (Kd.int .u64) _ _ _ a1 [.int .u64 a1] from rfl) (Reps.none _ _)))); intro v339 w14 ho15 hb hg_ hnew_; clear hg_ hnew_; ((rw [← Ny338.out] at ho15)); have HO340 := aM_ (Kd.R_lower ho15 (below_size (belN HB))); replace HB := bsA_ HB hb; clear hb ho15; obtain ⟨Ao16, co16, eo16⟩ := Kd.R_slice HO340.out; subst eo16) | ((with_reducible refine gate_callee (f := 87) rfl ?_); refine gL_ 18 Try.func87 #[.slice Ao16 y338.length co16] ?_; (with_reducible refine (money_Check.calls k _ _ y338 t341 _ ?side1 ?side2 A3.out).mono ?_); (case side1 => exact Kd.CN (Kd.R_reads' HO340.out).2.2); (case side2 => exact (Kd.R_reads' HO340.out).2.1); rintro e w17 ⟨rfl, hb⟩; refine ⟨_, rfl, ?_⟩; replace HO340 := aM_ (Kd.R_below (Kd.RN HO340) hb); replace HB := bsA_ HB hb; (try clear hb); (try clear hb2); (try clear hk); (try clear hi)))
    go_ret2
    exact ⟨by (rfl), by repeat (((with_reducible (exact HB.out))))⟩

/-! ### channel_Push: function 36 -/
def channel_Push.j0 : Nat → Int → Bool → Int → Int → Int → Int → Int → List (S44) → Bool → Option (Int × Int × Int × Int × Int × (List (S44)) × Bool × Int)
 | 0, _, _, _, _, _, _, _, _, _ => none
 | k + 1, x1, x16, x343000, x343001, x343002, x343003, x343004, x343005, x343006 => if x16 = true then (some (0, 0, 0, 0, 0, ([] : List (S44)), false, 1)) else ((money_Sub.f k x343002 x1).bind fun bt349 => (if x343006 = true then (if bt349.2 = 0 then ((slices_Clone_Hold.f x343005).bind fun t351 => (some (x343000, IntKind.u64.wrap (x343001 + x1), bt349.1, x343003, x343004, t351, x343006, 0))) else (some (0, 0, 0, 0, 0, ([] : List (S44)), false, bt349.2))) else (some (0, 0, 0, 0, 0, ([] : List (S44)), false, 14))))
def channel_Push.f (k : Nat) (a0_0 : Int) (a0_1 : Int) (a0_2 : Int) (a0_3 : Int) (a0_4 : Int) (l0_5 : List (S44)) (a0_6 : Bool) (a1 : Int) : Option (Int × Int × Int × Int × Int × (List (S44)) × Bool × Int) := (channel_Check.f k a0_0 a0_1 a0_2 a0_3 a0_4 l0_5 a0_6).bind fun t344 => (if t344 = 0 then ((money_Check.f k (([a1] : List Int))).bind fun t348 => (channel_Push.j0 k a1 (t348 != 0) a0_0 a0_1 a0_2 a0_3 a0_4 l0_5 a0_6)) else (channel_Push.j0 k a1 true a0_0 a0_1 a0_2 a0_3 a0_4 l0_5 a0_6))
theorem channel_Push.mono_l : ∀ k, (∀ y0 y1 y2 y3 y4 y5 y6 y7 y8, LeO (channel_Push.j0 k y0 y1 y2 y3 y4 y5 y6 y7 y8) (channel_Push.j0 (k + 1) y0 y1 y2 y3 y4 y5 y6 y7 y8))
 | 0 => fun _ _ _ _ _ _ _ _ _ r h => by simp [channel_Push.j0] at h
 | k + 1 => by
  have ih0 := channel_Push.mono_l k
  ·intro y0 y1 y2 y3 y4 y5 y6 y7 y8
   unfold channel_Push.j0
   repeat' first
   | (with_reducible exact money_Sub.mono _ _ _)
   | (with_reducible exact LeO.refl _)
   | (with_reducible refine LeO.ite ?_ ?_)
   | (with_reducible refine LeO.bind ?_ (fun _ => ?_))
   | exact ih0 _ _ _ _ _ _ _ _ _
   | exact channel_Check.mono _ _ _ _ _ _ _ _
   | exact money_Check.mono _ _
   | exact money_Sub.mono _ _ _
   | exact LeO.none _
   | refine LeO.ite ?_ ?_
   | refine LeO.bind ?_ (fun _ => ?_)
theorem channel_Push.mono : ∀ a0 a1 a2 a3 a4 a5 a6 a7 k, LeO (channel_Push.f k a0 a1 a2 a3 a4 a5 a6 a7) (channel_Push.f (k + 1) a0 a1 a2 a3 a4 a5 a6 a7) := by
 intro a0 a1 a2 a3 a4 a5 a6 a7 k
 have ih0 := channel_Push.mono_l k
 unfold channel_Push.f
 repeat' first
   | (with_reducible exact ih0 _ _ _ _ _ _ _ _ _)
   | (with_reducible exact channel_Check.mono _ _ _ _ _ _ _ _)
   | (with_reducible exact money_Check.mono _ _)
   | (with_reducible refine LeO.ite ?_ ?_)
   | (with_reducible refine LeO.bind ?_ (fun _ => ?_))
   | exact ih0 _ _ _ _ _ _ _ _ _
   | exact channel_Check.mono _ _ _ _ _ _ _ _
   | exact money_Check.mono _ _
   | exact money_Sub.mono _ _ _
   | exact LeO.none _
   | refine LeO.ite ?_ ?_
   | refine LeO.bind ?_ (fun _ => ?_)
set_option maxHeartbeats 8000000 in
set_option maxRecDepth 100000 in
theorem channel_Push.calls (k : Nat) (a0_0 : Int) (a0_1 : Int) (a0_2 : Int) (a0_3 : Int) (a0_4 : Int) (A0_5 : Option Addr) (c0_5 : Nat) (l0_5 : List (S44)) (a0_6 : Bool) (a1 : Int) (r1 : Int) (r2 : Int) (r3 : Int) (r4 : Int) (r5 : Int) (r6 : List (S44)) (r7 : Bool) (r8 : Int) (w : World) (hr0_5 : Kd.C k44 w A0_5 l0_5.length l0_5) (hc0_5 : l0_5.length ≤ c0_5) (h : channel_Push.f k a0_0 a0_1 a0_2 a0_3 a0_4 l0_5 a0_6 a1 = some (r1, r2, r3, r4, r5, r6, r7, r8)) :
  Calls Try.prog 36 #[.agg #[.int .u64 a0_0, .int .u64 a0_1, .int .u64 a0_2, .int .u64 a0_3, .int .u64 a0_4, .slice A0_5 l0_5.length c0_5, .bool a0_6], .int .u64 a1] w fun e w' => ∃ v5_ : Value, e = .returned (.tuple #[.agg #[.int .u64 r1, .int .u64 r2, .int .u64 r3, .int .u64 r4, .int .u64 r5, v5_, .bool r7], .int .i64 r8]) ∧ Kd.R k44 44 w' w.heap.size (fun _ => True) v5_ r6 ∧ Below w.heap.size w w' := by
 have hu25 := Try.underlying25
 have HR0_5 := aM_ hr0_5
 have HC0_5 := aM_ hc0_5
 clear hr0_5 hc0_5
 have HB := aM_ (Below.refl w.heap.size w)
 have H : ((channel_Check.f k a0_0 a0_1 a0_2 a0_3 a0_4 l0_5 a0_6).bind fun t344 => (if t344 = 0 then ((money_Check.f k (([a1] : List Int))).bind fun t348 => (channel_Push.j0 k a1 (t348 != 0) a0_0 a0_1 a0_2 a0_3 a0_4 l0_5 a0_6)) else (channel_Push.j0 k a1 true a0_0 a0_1 a0_2 a0_3 a0_4 l0_5 a0_6))) = some (r1, r2, r3, r4, r5, r6, r7, r8) := h
 clear h
 have HC3 := aM_ H
 clear H
 go_enter Try.func36, Try.ntmps36
 go_upto_region 1 with (first | ((with_reducible refine gate_dst (N := 2) rfl ?_); (try (refine gate_guard (by rfl) ?_; dsimp only)); refine box_event ?hg (N := 2) ?hd (cs := #[.int .u64 a0_0, .int .u64 a0_1, .int .u64 a0_2, .int .u64 a0_3, .int .u64 a0_4, .slice A0_5 l0_5.length c0_5, .bool a0_6]) (t := 25) ?hr ?_; (case hd => rfl); (case hg => rfl); (case hr => ((go_simp; done))); intro gb342 hg w4 hbox hb; have BK342 := aM_ (hbox); have GW342 := aM_ (geN HB hg); have GE342 := aM_ (geN HB hg); replace HB := bsA_ HB hb; clear hb hbox hg) | ((with_reducible refine gate_dst (N := 4) rfl ?_); (try (refine gate_guard (by rfl) ?_; dsimp only)); refine box_event ?hg (N := 4) ?hd (cs := #[.int .u64 0, .int .u64 0, .int .u64 0, .int .u64 0, .int .u64 0, .slice none 0 0, .bool false]) (t := 25) ?hr ?_; (case hd => rfl); (case hg => rfl); (case hr => ((go_simp; done))); intro gb343 hg w5 hbox hb; have BK343 := aM_ (hbox); have GW343 := aM_ (geN HB hg); have GE343 := aM_ (geN HB hg); replace HB := bsA_ HB hb; have NB342_343 := aM_ (neN BK342 hg); have NB343_342 := aM_ (neN' BK342 hg); replace BK342 := bbA_ BK342 hb; clear hb hbox hg))
 (try simp only [Act.put, List.setIfInBounds_toArray, List.set_cons_zero, List.set_cons_succ])
 go_cut [16] (fun v16 wc => ∃ (kq : Nat) (x16_2 : Bool), v16 = .bool x16_2 ∧ Aside0 (channel_Push.j0 kq a1 x16_2 a0_0 a0_1 a0_2 a0_3 a0_4 l0_5 a0_6 = some (r1, r2, r3, r4, r5, r6, r7, r8)) ∧ Aside0 (kq ≤ k) ∧ Aside0 (wc.heap[gb342]? = some (.cells #[.int .u64 a0_0, .int .u64 a0_1, .int .u64 a0_2, .int .u64 a0_3, .int .u64 a0_4, (.slice A0_5 l0_5.length c0_5), .bool a0_6] 25 (0, 0))) ∧ Aside0 (wc.heap[gb343]? = some (.cells #[.int .u64 0, .int .u64 0, .int .u64 0, .int .u64 0, .int .u64 0, (.slice none 0 0), .bool false] 25 (0, 0))) ∧ Aside0 (Below w.heap.size w wc))
 case first =>
  have H := HC3.out
  clear HC3
  replace H := oB_ H
  obtain ⟨t344, A60, H⟩ := H
  replace H : (if t344 = 0 then ((money_Check.f k (([a1] : List Int))).bind fun t348 => (channel_Push.j0 k a1 (t348 != 0) a0_0 a0_1 a0_2 a0_3 a0_4 l0_5 a0_6)) else (channel_Push.j0 k a1 true a0_0 a0_1 a0_2 a0_3 a0_4 l0_5 a0_6)) = some (r1, r2, r3, r4, r5, r6, r7, r8) := H
  have A6 := aM_ A60
  clear A60
  by_cases c7 : t344 = 0
  ·rw [if_pos c7] at H
   have c7b0 : (t344 == 0) = true := beq_iff_eq.mpr c7
   have c7b1 : (t344 != 0) = false := bne_eq_false_iff_eq.mpr c7
   clear c7
   ((skip))
   obtain ⟨y345, hy345⟩ : ∃ y_ : List Int, y_ = (([a1] : List Int)) := ⟨_, rfl⟩
   replace H : ((money_Check.f k y345).bind fun t348 => (channel_Push.j0 k a1 (t348 != 0) a0_0 a0_1 a0_2 a0_3 a0_4 l0_5 a0_6)) = some (r1, r2, r3, r4, r5, r6, r7, r8) := by ((rw [hy345]; with_reducible exact H))
   have Ny345 := aM_ hy345
   clear hy345
   replace H := oB_ H
   obtain ⟨t348, A80, H⟩ := H
   replace H : (channel_Push.j0 k a1 (t348 != 0) a0_0 a0_1 a0_2 a0_3 a0_4 l0_5 a0_6) = some (r1, r2, r3, r4, r5, r6, r7, r8) := H
   have A8 := aM_ A80
   clear A80
   have H' := aM_ H
   clear H
   have hnb9 := NB342_343.out
   have hnc9 := NB343_342.out
   obtain ⟨hcz10_0, hcz10_1, hcz10_2, hcz10_3, hcz10_4, hcz10_5, hcz10_6, hfz10_0, hfz10_1, hfz10_2, hfz10_3, hfz10_4, hfz10_5, hfz10_6⟩ := cz7_ (w := w5) BK342.out
   go_wp2_with (first | ((with_reducible refine gate_callee (f := 33) rfl ?_); refine gL_ 9 Try.func33 #[.agg #[.int .u64 a0_0, .int .u64 a0_1, .int .u64 a0_2, .int .u64 a0_3, .int .u64 a0_4, .slice A0_5 l0_5.length c0_5, .bool a0_6]] ?_; (with_reducible refine (channel_Check.calls k a0_0 a0_1 a0_2 a0_3 a0_4 _ _ l0_5 a0_6 t344 _ ?side1 ?side2 A6.out).mono ?_); (case side1 => repeat ((exact (Kd.C_below HR0_5.out HB.out)))); (case side2 => exact HC0_5.out); rintro e w11 ⟨rfl, hb⟩; refine ⟨_, rfl, ?_⟩; replace BK342 := bbA_ BK342 hb; replace BK343 := bbA_ BK343 hb; replace HB := bsA_ HB hb; (try clear hb); (try clear hb2); (try clear hk); (try clear hi)) | ((with_reducible refine gate_dst (N := 13) rfl ?_); (try (refine gate_guard (by rfl) ?_; dsimp only)); refine Kd.R_lit (Kd.int .u64) _ 22 ?hg (N := 13) ?hd (xs := ([a1] : List Int)) (inner := [.int .u64 a1]) (ok := fun _ => True) (okp := fun _ => True) ?hr ?hp (fun _ hk => hk) trivial (Below.refl _ _) (Nat.le_refl _) (by simp) ?_; (case hd => rfl); (case hg => rfl); (case hr => ((go_simp; done))); (case hp => exact (Reps.one (show Kd.M (Kd.int .u64) _ _ _ a1 [.int .u64 a1] from rfl) (Reps.none _ _))); intro v346 w12 ho13 hb hg_ hnew_; clear hg_ hnew_; ((rw [← Ny345.out] at ho13)); have HO347 := aM_ (Kd.R_lower ho13 (below_size (belN HB))); replace BK342 := bbA_ BK342 hb; replace BK343 := bbA_ BK343 hb; replace HB := bsA_ HB hb; clear hb ho13; obtain ⟨Ao14, co14, eo14⟩ := Kd.R_slice HO347.out; subst eo14) | (go_at_call 87; (with_reducible refine (money_Check.calls k _ _ y345 t348 _ ?side1 ?side2 A8.out).mono ?_); (case side1 => exact Kd.CN (Kd.R_reads' HO347.out).2.2); (case side2 => exact (Kd.R_reads' HO347.out).2.1); rintro e w15 ⟨rfl, hb⟩; replace HO347 := aM_ (Kd.R_below (Kd.RN HO347) hb); replace BK342 := bbA_ BK342 hb; replace BK343 := bbA_ BK343 hb; replace HB := bsA_ HB hb; (try clear hb); (try clear hb2); (try clear hk); (try clear hi)))
   go_meet
   case rel => exact ⟨_, ((t348 != 0)), (by (rfl)), H', ⟨by (omega)⟩, ⟨by (with_reducible repeat (first | refine blk_drewN ?_ _ | refine blk_drew ?_ | refine blk_alloc ?_ _)); exact BK342.out⟩, ⟨by (with_reducible repeat (first | refine blk_drewN ?_ _ | refine blk_drew ?_ | refine blk_alloc ?_ _)); exact BK343.out⟩, ⟨by repeat (((with_reducible (exact HB.out))))⟩⟩
  ·rw [if_neg c7] at H
   have c7b0 : (t344 == 0) = false := beq_eq_false_iff_ne.mpr c7
   have c7b1 : (t344 != 0) = true := bne_iff_ne.mpr c7
   ((skip))
   have H' := aM_ H
   clear H
   have hnb16 := NB342_343.out
   have hnc16 := NB343_342.out
   obtain ⟨hcz17_0, hcz17_1, hcz17_2, hcz17_3, hcz17_4, hcz17_5, hcz17_6, hfz17_0, hfz17_1, hfz17_2, hfz17_3, hfz17_4, hfz17_5, hfz17_6⟩ := cz7_ (w := w5) BK342.out
   go_wp2_with ((((with_reducible refine gate_callee (f := 33) rfl ?_); refine gL_ 9 Try.func33 #[.agg #[.int .u64 a0_0, .int .u64 a0_1, .int .u64 a0_2, .int .u64 a0_3, .int .u64 a0_4, .slice A0_5 l0_5.length c0_5, .bool a0_6]] ?_; (with_reducible refine (channel_Check.calls k a0_0 a0_1 a0_2 a0_3 a0_4 _ _ l0_5 a0_6 t344 _ ?side1 ?side2 A6.out).mono ?_); (case side1 => repeat ((exact (Kd.C_below HR0_5.out HB.out)))); (case side2 => exact HC0_5.out); rintro e w18 ⟨rfl, hb⟩; refine ⟨_, rfl, ?_⟩; replace BK342 := bbA_ BK342 hb; replace BK343 := bbA_ BK343 hb; replace HB := bsA_ HB hb; (try clear hb); (try clear hb2); (try clear hk); (try clear hi))))
   go_meet
   case rel => exact ⟨_, (true), (by (rfl)), H', ⟨by (omega)⟩, ⟨by (with_reducible repeat (first | refine blk_drewN ?_ _ | refine blk_drew ?_ | refine blk_alloc ?_ _)); exact BK342.out⟩, ⟨by (with_reducible repeat (first | refine blk_drewN ?_ _ | refine blk_drew ?_ | refine blk_alloc ?_ _)); exact BK343.out⟩, ⟨by repeat (((with_reducible (exact HB.out))))⟩⟩
 case rest =>
  clear HC3
  obtain ⟨kq, x16_2, rfl, HA, HJ2, BK342, BK343, HB⟩ := hcut
  cases kq with
  | zero => exact absurd HA.out (by simp [channel_Push.j0])
  | succ kj2 =>
   have H := HA.out
   clear HA
   simp only [channel_Push.j0] at H
   by_cases c19 : x16_2 = true
   ·subst c19
    have H1 : (some (0, 0, 0, 0, 0, ([] : List (S44)), false, 1)) = some (r1, r2, r3, r4, r5, r6, r7, r8) := by rw [if_pos rfl] at H; exact H
    clear H
    have H := H1
    clear H1
    simp only [Option.some.injEq, Prod.mk.injEq] at H
    obtain ⟨rfl, rfl, rfl, rfl, rfl, rfl, rfl, rfl⟩ := H
    have hnb20 := NB343_342.out
    have hnc20 := NB342_343.out
    obtain ⟨hcz21_0, hcz21_1, hcz21_2, hcz21_3, hcz21_4, hcz21_5, hcz21_6, hfz21_0, hfz21_1, hfz21_2, hfz21_3, hfz21_4, hfz21_5, hfz21_6⟩ := cz7_ (w := wc) BK343.out
    go_wp2
    refine bodyPost_ret (results_ct rfl _ _ gb343 25 #[.int .u64 0, .int .u64 0, .int .u64 0, .int .u64 0, .int .u64 0, .slice none 0 0, .bool false] (0, 0) _ rfl (by (with_reducible repeat (first | refine blk_drewN ?_ _ | refine blk_drew ?_ | refine blk_alloc ?_ _)); apply bp7_; (with_reducible repeat (first | refine blk_drewN ?_ _ | refine blk_drew ?_ | refine blk_alloc ?_ _)); exact BK343.out) Try.underlying25 rfl (by kernel_rfl)) rfl ?_
    exact ⟨_, by (rfl), by (exact Kd.R_nil _ _ _ _ _), by repeat (((with_reducible first | exact HB.out | refine below_set ?_ GE343.out)))⟩
   ·replace c19 := Bool.eq_false_iff.mpr c19
    subst c19
    have H1 : ((money_Sub.f kj2 a0_2 a1).bind fun bt349 => (if a0_6 = true then (if bt349.2 = 0 then ((slices_Clone_Hold.f l0_5).bind fun t351 => (some (a0_0, IntKind.u64.wrap (a0_1 + a1), bt349.1, a0_3, a0_4, t351, a0_6, 0))) else (some (0, 0, 0, 0, 0, ([] : List (S44)), false, bt349.2))) else (some (0, 0, 0, 0, 0, ([] : List (S44)), false, 14)))) = some (r1, r2, r3, r4, r5, r6, r7, r8) := by rw [if_neg (show ¬ (false = true) by decide)] at H; exact H
    clear H
    have H := H1
    clear H1
    replace H := oB_ H
    obtain ⟨⟨t349, t350⟩, A220, H⟩ := H
    replace H : (if a0_6 = true then (if t350 = 0 then ((slices_Clone_Hold.f l0_5).bind fun t351 => (some (a0_0, IntKind.u64.wrap (a0_1 + a1), t349, a0_3, a0_4, t351, a0_6, 0))) else (some (0, 0, 0, 0, 0, ([] : List (S44)), false, t350))) else (some (0, 0, 0, 0, 0, ([] : List (S44)), false, 14))) = some (r1, r2, r3, r4, r5, r6, r7, r8) := H
    have A22 := aM_ A220
    clear A220
    by_cases c23 : a0_6 = true
    ·subst c23
     have H1 : (if t350 = 0 then ((slices_Clone_Hold.f l0_5).bind fun t351 => (some (a0_0, IntKind.u64.wrap (a0_1 + a1), t349, a0_3, a0_4, t351, true, 0))) else (some (0, 0, 0, 0, 0, ([] : List (S44)), false, t350))) = some (r1, r2, r3, r4, r5, r6, r7, r8) := by rw [if_pos rfl] at H; exact H
     clear H
     have H := H1
     clear H1
     by_cases c24 : t350 = 0
     ·rw [if_pos c24] at H
      have c24b0 : (t350 == 0) = true := beq_iff_eq.mpr c24
      have c24b1 : (t350 != 0) = false := bne_eq_false_iff_eq.mpr c24
      clear c24
      replace H := oB_ H
      obtain ⟨t351, A250, H⟩ := H
      replace H : (some (a0_0, IntKind.u64.wrap (a0_1 + a1), t349, a0_3, a0_4, t351, true, 0)) = some (r1, r2, r3, r4, r5, r6, r7, r8) := H
      have A25 := aM_ A250
      clear A250
      simp only [Option.some.injEq, Prod.mk.injEq] at H
      obtain ⟨rfl, rfl, rfl, rfl, rfl, rfl, rfl, rfl⟩ := H
      have hnb26 := NB342_343.out
      have hnc26 := NB343_342.out
      obtain ⟨hcz27_0, hcz27_1, hcz27_2, hcz27_3, hcz27_4, hcz27_5, hcz27_6, hfz27_0, hfz27_1, hfz27_2, hfz27_3, hfz27_4, hfz27_5, hfz27_6⟩ := cz7_ (w := wc) BK342.out
      go_wp2_with (first | ((with_reducible refine gate_callee (f := 84) rfl ?_); refine gL_ 22 Try.func84 #[.int .u64 a0_2, .int .u64 a1] ?_; (with_reducible refine (money_Sub.calls kj2 a0_2 a1 t349 t350 _ A22.out).mono ?_); rintro e w28 ⟨rfl, hb⟩; refine ⟨_, rfl, ?_⟩; replace BK342 := bbA_ BK342 hb; replace BK343 := bbA_ BK343 hb; replace HB := bsA_ HB hb; (try clear hb); (try clear hb2); (try clear hk); (try clear hi); obtain ⟨hcz29_0, hcz29_1, hcz29_2, hcz29_3, hcz29_4, hcz29_5, hcz29_6, hfz29_0, hfz29_1, hfz29_2, hfz29_3, hfz29_4, hfz29_5, hfz29_6⟩ := cz7_ (w := w28) BK342.out) | ((with_reducible refine gate_callee (f := 89) rfl ?_); refine gL_ 37 Try.func89 #[.slice A0_5 l0_5.length c0_5] ?_; (with_reducible refine (slices_Clone_Hold.calls _ _ l0_5 t351 _ ?side1 ?side2 A25.out).mono ?_); (case side1 => repeat ((exact (Kd.C_below HR0_5.out HB.out)))); (case side2 => exact HC0_5.out); rintro e w30 ⟨v352, rfl, ho0, hb⟩; refine ⟨_, rfl, ?_⟩; have HO353 := aM_ (Kd.R_lower ho0 (below_size (belN HB))); replace BK342 := bbA_ BK342 hb; replace BK343 := bbA_ BK343 hb; replace HB := bsA_ HB hb; (try clear hb); (try clear hb2); (try clear hk); (try clear hi); (try clear ho0); obtain ⟨Ao31, co31, eo31⟩ := Kd.R_slice HO353.out; subst eo31; obtain ⟨hcz32_0, hcz32_1, hcz32_2, hcz32_3, hcz32_4, hcz32_5, hcz32_6, hfz32_0, hfz32_1, hfz32_2, hfz32_3, hfz32_4, hfz32_5, hfz32_6⟩ := cz7_ (w := w30) BK342.out; obtain ⟨hcz33_0, hcz33_1, hcz33_2, hcz33_3, hcz33_4, hcz33_5, hcz33_6, hfz33_0, hfz33_1, hfz33_2, hfz33_3, hfz33_4, hfz33_5, hfz33_6⟩ := cz7_ (w := w30) BK343.out))
      refine bodyPost_ret (results_ct rfl _ _ gb343 25 #[.int .u64 a0_0, .int .u64 (IntKind.u64.wrap (a0_1 + a1)), .int .u64 t349, .int .u64 a0_3, .int .u64 a0_4, .slice Ao31 t351.length co31, .bool true] (0, 0) _ rfl (by (with_reducible repeat (first | refine blk_drewN ?_ _ | refine blk_drew ?_ | refine blk_alloc ?_ _)); apply bp7_; (with_reducible repeat (first | refine blk_drewN ?_ _ | refine blk_drew ?_ | refine blk_alloc ?_ _)); refine blk_far ?_ NB343_342.out _; (with_reducible repeat (first | refine blk_drewN ?_ _ | refine blk_drew ?_ | refine blk_alloc ?_ _)); refine blk_far ?_ NB343_342.out _; (with_reducible repeat (first | refine blk_drewN ?_ _ | refine blk_drew ?_ | refine blk_alloc ?_ _)); refine blk_far ?_ NB343_342.out _; (with_reducible repeat (first | refine blk_drewN ?_ _ | refine blk_drew ?_ | refine blk_alloc ?_ _)); exact BK343.out) Try.underlying25 rfl (by kernel_rfl)) rfl ?_
      exact ⟨_, by (rfl), by (with_reducible repeat (first | apply Kd.R_alloc | apply Kd.R_drewN | apply Kd.R_drew)); exact Kd.R_mono (Kd.R_far (p := ⟨gb343, 6, none⟩) (Kd.R_far (p := ⟨gb343, 5, none⟩) (Kd.R_far (p := ⟨gb343, 4, none⟩) (Kd.R_far (p := ⟨gb343, 3, none⟩) (Kd.R_far (p := ⟨gb343, 2, none⟩) (Kd.R_far (p := ⟨gb343, 1, none⟩) (Kd.R_far (p := ⟨gb343, 0, none⟩) (Kd.R_far (p := ⟨gb342, 1, none⟩) (Kd.R_far (p := ⟨gb342, 2, none⟩) (Kd.R_far (p := ⟨gb342, 5, none⟩) (Kd.R_types (Kd.R_types HO353.out BK342.out (by decide)) BK343.out (by decide)) (fun _ hk => hk.1.2) (.slice Ao31 t351.length co31)) (fun _ hk => hk.1.2) (.int .u64 t349)) (fun _ hk => hk.1.2) (.int .u64 (IntKind.u64.wrap (a0_1 + a1)))) (fun _ hk => hk.2) (.int .u64 a0_0)) (fun _ hk => hk.2) (.int .u64 (IntKind.u64.wrap (a0_1 + a1)))) (fun _ hk => hk.2) (.int .u64 t349)) (fun _ hk => hk.2) (.int .u64 a0_3)) (fun _ hk => hk.2) (.int .u64 a0_4)) (fun _ hk => hk.2) (.slice Ao31 t351.length co31)) (fun _ hk => hk.2) (.bool true)) (fun _ hk => trivial), by repeat (((with_reducible first | exact HB.out | refine below_set ?_ GE342.out | refine below_set ?_ GE343.out)))⟩
     ·rw [if_neg c24] at H
      have c24b0 : (t350 == 0) = false := beq_eq_false_iff_ne.mpr c24
      have c24b1 : (t350 != 0) = true := bne_iff_ne.mpr c24
      simp only [Option.some.injEq, Prod.mk.injEq] at H
      obtain ⟨rfl, rfl, rfl, rfl, rfl, rfl, rfl, rfl⟩ := H
      have hnb34 := NB342_343.out
      have hnc34 := NB343_342.out
      obtain ⟨hcz35_0, hcz35_1, hcz35_2, hcz35_3, hcz35_4, hcz35_5, hcz35_6, hfz35_0, hfz35_1, hfz35_2, hfz35_3, hfz35_4, hfz35_5, hfz35_6⟩ := cz7_ (w := wc) BK342.out
      go_wp2_with ((((with_reducible refine gate_callee (f := 84) rfl ?_); refine gL_ 22 Try.func84 #[.int .u64 a0_2, .int .u64 a1] ?_; (with_reducible refine (money_Sub.calls kj2 a0_2 a1 t349 t350 _ A22.out).mono ?_); rintro e w36 ⟨rfl, hb⟩; refine ⟨_, rfl, ?_⟩; replace BK342 := bbA_ BK342 hb; replace BK343 := bbA_ BK343 hb; replace HB := bsA_ HB hb; (try clear hb); (try clear hb2); (try clear hk); (try clear hi); obtain ⟨hcz37_0, hcz37_1, hcz37_2, hcz37_3, hcz37_4, hcz37_5, hcz37_6, hfz37_0, hfz37_1, hfz37_2, hfz37_3, hfz37_4, hfz37_5, hfz37_6⟩ := cz7_ (w := w36) BK342.out; obtain ⟨hcz38_0, hcz38_1, hcz38_2, hcz38_3, hcz38_4, hcz38_5, hcz38_6, hfz38_0, hfz38_1, hfz38_2, hfz38_3, hfz38_4, hfz38_5, hfz38_6⟩ := cz7_ (w := w36) BK343.out)))
      refine bodyPost_ret (results_ct rfl _ _ gb343 25 #[.int .u64 0, .int .u64 0, .int .u64 0, .int .u64 0, .int .u64 0, .slice none 0 0, .bool false] (0, 0) _ rfl (by (with_reducible repeat (first | refine blk_drewN ?_ _ | refine blk_drew ?_ | refine blk_alloc ?_ _)); apply bp7_; (with_reducible repeat (first | refine blk_drewN ?_ _ | refine blk_drew ?_ | refine blk_alloc ?_ _)); exact BK343.out) Try.underlying25 rfl (by kernel_rfl)) rfl ?_
      exact ⟨_, by (rfl), by (exact Kd.R_nil _ _ _ _ _), by repeat (((with_reducible first | exact HB.out | refine below_set ?_ GE343.out)))⟩
    ·replace c23 := Bool.eq_false_iff.mpr c23
     subst c23
     have H1 : (some (0, 0, 0, 0, 0, ([] : List (S44)), false, 14)) = some (r1, r2, r3, r4, r5, r6, r7, r8) := by rw [if_neg (show ¬ (false = true) by decide)] at H; exact H
     clear H
     have H := H1
     clear H1
     simp only [Option.some.injEq, Prod.mk.injEq] at H
     obtain ⟨rfl, rfl, rfl, rfl, rfl, rfl, rfl, rfl⟩ := H
     have hnb39 := NB342_343.out
     have hnc39 := NB343_342.out
     obtain ⟨hcz40_0, hcz40_1, hcz40_2, hcz40_3, hcz40_4, hcz40_5, hcz40_6, hfz40_0, hfz40_1, hfz40_2, hfz40_3, hfz40_4, hfz40_5, hfz40_6⟩ := cz7_ (w := wc) BK342.out
     go_wp2_with ((((with_reducible refine gate_callee (f := 84) rfl ?_); refine gL_ 22 Try.func84 #[.int .u64 a0_2, .int .u64 a1] ?_; (with_reducible refine (money_Sub.calls kj2 a0_2 a1 t349 t350 _ A22.out).mono ?_); rintro e w41 ⟨rfl, hb⟩; refine ⟨_, rfl, ?_⟩; replace BK342 := bbA_ BK342 hb; replace BK343 := bbA_ BK343 hb; replace HB := bsA_ HB hb; (try clear hb); (try clear hb2); (try clear hk); (try clear hi); obtain ⟨hcz42_0, hcz42_1, hcz42_2, hcz42_3, hcz42_4, hcz42_5, hcz42_6, hfz42_0, hfz42_1, hfz42_2, hfz42_3, hfz42_4, hfz42_5, hfz42_6⟩ := cz7_ (w := w41) BK342.out; obtain ⟨hcz43_0, hcz43_1, hcz43_2, hcz43_3, hcz43_4, hcz43_5, hcz43_6, hfz43_0, hfz43_1, hfz43_2, hfz43_3, hfz43_4, hfz43_5, hfz43_6⟩ := cz7_ (w := w41) BK343.out)))
     refine bodyPost_ret (results_ct rfl _ _ gb343 25 #[.int .u64 0, .int .u64 0, .int .u64 0, .int .u64 0, .int .u64 0, .slice none 0 0, .bool false] (0, 0) _ rfl (by (with_reducible repeat (first | refine blk_drewN ?_ _ | refine blk_drew ?_ | refine blk_alloc ?_ _)); apply bp7_; (with_reducible repeat (first | refine blk_drewN ?_ _ | refine blk_drew ?_ | refine blk_alloc ?_ _)); exact BK343.out) Try.underlying25 rfl (by kernel_rfl)) rfl ?_
     exact ⟨_, by (rfl), by (exact Kd.R_nil _ _ _ _ _), by repeat (((with_reducible first | exact HB.out | refine below_set ?_ GE343.out)))⟩

/-! ### ledger_Push: function 63 (by hand) -/
def ledger_Push.how (k : Nat) (n : Int) (c : S25) : Option (S25 × Int) := (channel_Push.f k c.f0 c.f1 c.f2 c.f3 c.f4 c.f5 c.f6 n).bind fun r => some (⟨r.1, r.2.1, r.2.2.1, r.2.2.2.1, r.2.2.2.2.1, r.2.2.2.2.2.1, r.2.2.2.2.2.2.1⟩, r.2.2.2.2.2.2.2)
set_option maxHeartbeats 16000000 in
set_option maxRecDepth 100000 in
theorem ledger_Push.hows (k : Nat) (n : Int) (b3 : Nat) (w : World) (hb3 : w.cell? ⟨b3, 0, none⟩ = some (.int .u64 n)) :
    HowAt w 114 [.pointer (some ⟨b3, 0, none⟩)] (ledger_Push.how k n) := by
  intro c A1 c1 c2 e2 w1 hb hC hl h
  have HI5 := aM_ hC
  have HL5 := aM_ hl
  replace hb3 := (hb.cell (World.block_lt_of_cell? w _ hb3)).trans hb3
  have hlt3 : b3 < w1.heap.size := World.block_lt_of_cell? w1 _ hb3
  clear hC hl hb
  unfold ledger_Push.how at h
  obtain ⟨⟨r1, r2, r3, r4, r5, r6, r7, r8⟩, h1, h_⟩ := oB_ h
  replace h := h_
  clear h_
  have HF2 := aM_ h1
  clear h1
  injection h with h
  injection h with hh1 hh2
  dsimp only at hh1 hh2
  subst hh1 hh2
  show Calls Try.prog 114 #[.agg #[.int .u64 c.f0, .int .u64 c.f1, .int .u64 c.f2, .int .u64 c.f3, .int .u64 c.f4, .slice A1 c.f5.length c1, .bool c.f6], .pointer (some ⟨b3, 0, none⟩)] w1 _
  go_enter Try.func114, Try.ntmps114
  go_wp2_with (go_at_call 36; have hal := (Below.refl w1.heap.size w1).alloc (Nat.le_refl _) (.cells #[.int .u64 c.f0, .int .u64 c.f1, .int .u64 c.f2, .int .u64 c.f3, .int .u64 c.f4, .slice A1 c.f5.length c1, .bool c.f6] 25); have HB := aM_ (hal.alloc hal.size (.cells #[.int .u64 0, .int .u64 0, .int .u64 0, .int .u64 0, .int .u64 0, .slice none 0 0, .bool false] 25)); have HK5 := aM_ (blk_new2 w1 (.cells #[.int .u64 c.f0, .int .u64 c.f1, .int .u64 c.f2, .int .u64 c.f3, .int .u64 c.f4, .slice A1 c.f5.length c1, .bool c.f6] 25) (.cells #[.int .u64 0, .int .u64 0, .int .u64 0, .int .u64 0, .int .u64 0, .slice none 0 0, .bool false] 25)); refine (channel_Push.calls k c.f0 c.f1 c.f2 c.f3 c.f4 A1 c1 c.f5 c.f6 n r1 r2 r3 r4 r5 r6 r7 r8 _ (Kd.C_below HI5.out HB.out) HL5.out HF2.out).mono ?_; rintro e w3 ⟨v5, rfl, ho, hb⟩; clear HF2; obtain ⟨An, cn, hv⟩ := Kd.R_slice ho; subst hv; have HR := aM_ (Kd.R_bound ho); have HS := aM_ (blk_lt HK5.out); have HS2 := aM_ HB.out.size; replace HB := aM_ (below_then HB.out HB.out.size hb); replace HK5 := aM_ (blk_below HK5.out hb); obtain ⟨hy0, hy1, hy2, hy3, hy4, hy5, hy6, hy7, hy8, hy9, hy10, hy11, hy12, hy13⟩ := cz7_ HK5.out; clear hal ho hb)
  have hR7 := put7_R (w := w3) (g := w1.heap.size + 1) (c := (⟨r1, r2, r3, r4, r5, r6, r7⟩ : S25)) (v := .slice An r6.length cn) HR.out (fun k_ hk => by have := HS.out; omega)
  refine bodyPost_ret (results_ct rfl _ _ (w1.heap.size + 1) 25 #[.int .u64 r1, .int .u64 r2, .int .u64 r3, .int .u64 r4, .int .u64 r5, .slice An r6.length cn, .bool r7] (0, 0) _ rfl (put7_self (w := w3) (c := (⟨r1, r2, r3, r4, r5, r6, r7⟩ : S25)) (v := .slice An r6.length cn) HK5.out) Try.underlying25 rfl (by kernel_rfl)) rfl ?_
  exact ⟨An, cn, rfl, fun _ => ⟨An, cn, rfl, (Kd.R_reads' hR7).2.1, (Kd.R_reads' hR7).2.2, row44_of_R hR7 HS2.out⟩, put7_below (c := (⟨r1, r2, r3, r4, r5, r6, r7⟩ : S25)) (v := .slice An r6.length cn) HB.out (Nat.le_succ _)⟩
def ledger_Push.g (k : Nat) (l : List S25) (id n : Int) : Option (List S25 × Int) := ledger_change.g k l id (ledger_Push.how k n)
set_option maxHeartbeats 16000000 in
set_option maxRecDepth 100000 in
theorem ledger_Push.callsS (k : Nat) (A0 : Option Addr) (c0 : Nat) (l : List S25) (id n : Int) (r : List S25) (er : Int) (w : World) (hr0 : Kd.C k25 w A0 l.length l) (hc0 : l.length ≤ c0) (h : ledger_Push.g k l id n = some (r, er)) :
    Calls Try.prog 63 #[.slice A0 l.length c0, .int .u64 id, .int .u64 n] w fun e w' => ∃ v : Value, e = .returned (.tuple #[v, .int .i64 er]) ∧ Own25 w' w.heap.size v r ∧ Below w.heap.size w w' := by
  have HF := aM_ h
  have HR0 := aM_ hr0
  have HC0 := aM_ hc0
  have HX := aM_ ((Below.refl w.heap.size w).alloc (Nat.le_refl _) (.cells #[.int .u64 n] 22))
  have HX2 := aM_ ((blk_cell (blk_new w (.cells #[.int .u64 n] 22)) 0).trans rfl : (w.alloc (.cells #[.int .u64 n] 22)).cell? ⟨w.heap.size, 0, none⟩ = some (.int .u64 n))
  clear hr0 hc0 h
  go_enter Try.func63, Try.ntmps63
  go_wp2_with (go_at_call 110; refine (ledger_change.callsS_114 k A0 c0 l id (.pointer (some ⟨w.heap.size, 0, none⟩)) (ledger_Push.how k n) r er _ (Kd.C_below HR0.out HX.out) HC0.out (ledger_Push.hows k n w.heap.size _ HX2.out) HF.out).mono ?_; rintro e w1 ⟨v, rfl, ho, hb⟩; have HB := aM_ (below_then HX.out HX.out.size hb); have HO := aM_ (ho.lower HX.out.size); clear HX HX2 ho hb)
  go_ret2
  exact ⟨_, rfl, HO.out, HB.out⟩
theorem ledger_Push.mono_how (n : Int) (c : S25) (k : Nat) : LeO (ledger_Push.how k n c) (ledger_Push.how (k + 1) n c) := by
  unfold ledger_Push.how
  exact LeO.bind (channel_Push.mono _ _ _ _ _ _ _ _ _) (fun _ => LeO.refl _)
theorem ledger_Push.mono_g (l : List S25) (id n : Int) (k : Nat) : LeO (ledger_Push.g k l id n) (ledger_Push.g (k + 1) l id n) := ledger_change.mono_g l id _ _ (fun c => ledger_Push.mono_how n c k) k

/-! ### damsonref09_Push: function 42 (by hand) -/
theorem ag_oneC (w : World) (n : Int) : Kd.C (Kd.int .u64) (w.alloc (.cells #[.int .u64 n] 22)) (some ⟨w.heap.size, 0, none⟩) ([n] : List Int).length [n] := by
  refine ⟨rfl, (show (1 : Nat) ≤ 9223372036854775807 by decide), fun _ => ⟨_, rfl, fun j p hj => ?_⟩⟩
  match j with
  | 0 =>
    obtain rfl : n = p := by simpa using hj
    refine ⟨[.int .u64 n], rfl, rfl, fun i u hi => ?_⟩
    cases i with
    | zero =>
      obtain rfl : Value.int .u64 n = u := by simpa using hi
      rw [add_plain, blk_cell (blk_new w _)]
      rfl
    | succ i => simp at hi
  | j + 1 => simp at hj
def damsonref09_Push.j0 : Nat → Int → Bool → Int → Int → Int → Int → Int → List (S44) → Bool → Option (Int × Int × Int × Int × Int × (List (S44)) × Bool × Int)
  | 0, _, _, _, _, _, _, _, _, _ => none
  | k + 1, n, b_, c0, c1, c2, c3, c4, c5, c6 => if b_ = true then (some (0, 0, 0, 0, 0, ([] : List (S44)), false, 1)) else (if c6 = true then (if n > c2 then (some (0, 0, 0, 0, 0, ([] : List (S44)), false, 9)) else ((damsonref09_Copy.f c0 c1 c2 c3 c4 c5 c6).bind fun b => (some (b.1, IntKind.u64.wrap (b.2.1 + n), IntKind.u64.wrap (b.2.2.1 - n), b.2.2.2.1, b.2.2.2.2.1, b.2.2.2.2.2.1, b.2.2.2.2.2.2, 0)))) else (some (0, 0, 0, 0, 0, ([] : List (S44)), false, 14)))
def damsonref09_Push.f (k : Nat) (a0_0 : Int) (a0_1 : Int) (a0_2 : Int) (a0_3 : Int) (a0_4 : Int) (l0_5 : List (S44)) (a0_6 : Bool) (a1 : Int) : Option (Int × Int × Int × Int × Int × (List (S44)) × Bool × Int) := (damsonref09_Check.f k a0_0 a0_1 a0_2 a0_3 a0_4 l0_5 a0_6).bind fun t => (if t = 0 then ((damsonref04_Check.f k (([a1] : List Int))).bind fun u => (damsonref09_Push.j0 k a1 (u != 0) a0_0 a0_1 a0_2 a0_3 a0_4 l0_5 a0_6)) else (damsonref09_Push.j0 k a1 true a0_0 a0_1 a0_2 a0_3 a0_4 l0_5 a0_6))
theorem damsonref09_Push.mono_j (y0 : Int) (y1 : Bool) (y2 y3 y4 y5 y6 : Int) (y7 : List S44) (y8 : Bool) : ∀ k, LeO (damsonref09_Push.j0 k y0 y1 y2 y3 y4 y5 y6 y7 y8) (damsonref09_Push.j0 (k + 1) y0 y1 y2 y3 y4 y5 y6 y7 y8)
  | 0 => fun r h => by simp [damsonref09_Push.j0] at h
  | k + 1 => LeO.refl _
theorem damsonref09_Push.j0_some {k : Nat} {n : Int} {b_ : Bool} {c0 c1 c2 c3 c4 : Int} {c5 : List S44} {c6 : Bool} {r : Int × Int × Int × Int × Int × (List (S44)) × Bool × Int} (h : damsonref09_Push.j0 k n b_ c0 c1 c2 c3 c4 c5 c6 = some r) : (if b_ = true then (some (0, 0, 0, 0, 0, ([] : List (S44)), false, 1)) else (if c6 = true then (if n > c2 then (some (0, 0, 0, 0, 0, ([] : List (S44)), false, 9)) else ((damsonref09_Copy.f c0 c1 c2 c3 c4 c5 c6).bind fun b => (some (b.1, IntKind.u64.wrap (b.2.1 + n), IntKind.u64.wrap (b.2.2.1 - n), b.2.2.2.1, b.2.2.2.2.1, b.2.2.2.2.2.1, b.2.2.2.2.2.2, 0)))) else (some (0, 0, 0, 0, 0, ([] : List (S44)), false, 14)))) = some r := by
  cases k with
  | zero => simp [damsonref09_Push.j0] at h
  | succ k => exact h
theorem damsonref09_Push.mono : ∀ a0 a1 a2 a3 a4 a5 a6 a7 k, LeO (damsonref09_Push.f k a0 a1 a2 a3 a4 a5 a6 a7) (damsonref09_Push.f (k + 1) a0 a1 a2 a3 a4 a5 a6 a7) := by
  intro a0 a1 a2 a3 a4 a5 a6 a7 k
  unfold damsonref09_Push.f
  repeat' first
    | apply damsonref09_Check.mono
    | apply damsonref04_Check.mono
    | apply damsonref09_Push.mono_j
    | (with_reducible refine LeO.ite ?_ ?_)
    | (with_reducible refine LeO.bind ?_ (fun _ => ?_))
set_option maxHeartbeats 16000000 in
set_option maxRecDepth 100000 in
theorem damsonref09_Push.callsS (k : Nat) (c : S25) (A0 : Option Addr) (c0 : Nat) (n : Int) (r1 r2 r3 r4 r5 : Int) (r6 : List S44) (r7 : Bool) (r8 : Int) (w : World) (hr0 : Kd.C k44 w A0 c.f5.length c.f5) (hc0 : c.f5.length ≤ c0) (h : damsonref09_Push.f k c.f0 c.f1 c.f2 c.f3 c.f4 c.f5 c.f6 n = some (r1, r2, r3, r4, r5, r6, r7, r8)) :
    Calls Try.prog 42 #[.agg #[.int .u64 c.f0, .int .u64 c.f1, .int .u64 c.f2, .int .u64 c.f3, .int .u64 c.f4, .slice A0 c.f5.length c0, .bool c.f6], .int .u64 n] w fun e w' => ∃ v5_ : Value, e = .returned (.tuple #[.agg #[.int .u64 r1, .int .u64 r2, .int .u64 r3, .int .u64 r4, .int .u64 r5, v5_, .bool r7], .int .i64 r8]) ∧ Kd.R k44 44 w' w.heap.size (fun _ => True) v5_ r6 ∧ Below w.heap.size w w' := by
  have HR0 := aM_ hr0
  have HC0 := aM_ hc0
  clear hr0 hc0
  have HB := aM_ (((Below.refl w.heap.size w).alloc (Nat.le_refl _) (.cells #[.int .u64 c.f0, .int .u64 c.f1, .int .u64 c.f2, .int .u64 c.f3, .int .u64 c.f4, .slice A0 c.f5.length c0, .bool c.f6] 25)).alloc (by simp) (.cells #[.int .u64 0, .int .u64 0, .int .u64 0, .int .u64 0, .int .u64 0, .slice none 0 0, .bool false] 25))
  have HK := aM_ (blk_alloc (blk_new w (.cells #[.int .u64 c.f0, .int .u64 c.f1, .int .u64 c.f2, .int .u64 c.f3, .int .u64 c.f4, .slice A0 c.f5.length c0, .bool c.f6] 25)) (.cells #[.int .u64 0, .int .u64 0, .int .u64 0, .int .u64 0, .int .u64 0, .slice none 0 0, .bool false] 25))
  have HZ := aM_ (blk_new2 w (.cells #[.int .u64 c.f0, .int .u64 c.f1, .int .u64 c.f2, .int .u64 c.f3, .int .u64 c.f4, .slice A0 c.f5.length c0, .bool c.f6] 25) (.cells #[.int .u64 0, .int .u64 0, .int .u64 0, .int .u64 0, .int .u64 0, .slice none 0 0, .bool false] 25))
  unfold damsonref09_Push.f at h
  obtain ⟨t, h1, h_⟩ := oB_ h
  replace h := h_
  clear h_
  have HF1 := aM_ h1
  clear h1
  by_cases hc : t = 0
  case neg =>
    rw [if_neg hc] at h
    replace h := damsonref09_Push.j0_some h
    rw [if_pos rfl] at h
    have he1 : (t != 0) = true := bne_iff_ne.mpr hc
    clear hc
    injection h with h
    simp only [Prod.mk.injEq] at h
    obtain ⟨rfl, rfl, rfl, rfl, rfl, rfl, rfl, rfl⟩ := h
    go_enter Try.func42, Try.ntmps42
    go_wp2_with (((go_at_call 34; refine (damsonref09_Check.calls k c.f0 c.f1 c.f2 c.f3 c.f4 A0 c0 c.f5 c.f6 t _ (Kd.C_below HR0.out HB.out) HC0.out HF1.out).mono ?_; rintro e w1 ⟨rfl, hb⟩; clear HF1; replace HB := aM_ (below_then HB.out HB.out.size hb); replace HK := aM_ (blk_below HK.out hb); replace HZ := aM_ (blk_below HZ.out hb); obtain ⟨hy0, hy1, hy2, hy3, hy4, hy5, hy6, hy7, hy8, hy9, hy10, hy11, hy12, hy13⟩ := cz7_ HZ.out; obtain ⟨hz0, hz1, hz2, hz3, hz4, hz5, hz6, hz7, hz8, hz9, hz10, hz11, hz12, hz13⟩ := cz7_ HK.out; have HZF := HZ; have HBF := HB; clear hb)))
    refine bodyPost_ret (results_ct rfl _ _ (w.heap.size + 1) 25 #[.int .u64 0, .int .u64 0, .int .u64 0, .int .u64 0, .int .u64 0, .slice none 0 0, .bool false] (0, 0) _ rfl (zero7_self HZF.out) Try.underlying25 rfl (by kernel_rfl)) rfl ?_
    exact ⟨_, rfl, Kd.R_nil _ _ _ _ _, zero7_below HBF.out (Nat.le_succ _)⟩
  rw [if_pos hc] at h
  subst hc
  obtain ⟨u, h1, h_⟩ := oB_ h
  replace h := h_
  clear h_
  have HF3 := aM_ h1
  clear h1
  replace h := damsonref09_Push.j0_some h
  by_cases hu : (u != 0) = true
  case pos =>
    rw [if_pos hu] at h
    injection h with h
    simp only [Prod.mk.injEq] at h
    obtain ⟨rfl, rfl, rfl, rfl, rfl, rfl, rfl, rfl⟩ := h
    go_enter Try.func42, Try.ntmps42
    go_wp2_with (first | (go_at_call 34; refine (damsonref09_Check.calls k c.f0 c.f1 c.f2 c.f3 c.f4 A0 c0 c.f5 c.f6 0 _ (Kd.C_below HR0.out HB.out) HC0.out HF1.out).mono ?_; rintro e w1 ⟨rfl, hb⟩; clear HF1; replace HB := aM_ (below_then HB.out HB.out.size hb); replace HK := aM_ (blk_below HK.out hb); replace HZ := aM_ (blk_below HZ.out hb); obtain ⟨hy0, hy1, hy2, hy3, hy4, hy5, hy6, hy7, hy8, hy9, hy10, hy11, hy12, hy13⟩ := cz7_ HZ.out; obtain ⟨hz0, hz1, hz2, hz3, hz4, hz5, hz6, hz7, hz8, hz9, hz10, hz11, hz12, hz13⟩ := cz7_ HK.out; have HZF := HZ; have HBF := HB; clear hb) | (go_at_call 96; clear hy0 hy1 hy2 hy3 hy4 hy5 hy6 hy7 hy8 hy9 hy10 hy11 hy12 hy13; clear hz0 hz1 hz2 hz3 hz4 hz5 hz6 hz7 hz8 hz9 hz10 hz11 hz12 hz13; clear HZF HBF; refine (damsonref04_Check.calls k (some ⟨w1.heap.size, 0, none⟩) 1 [n] u _ (ag_oneC w1 n) (Nat.le_refl _) HF3.out).mono ?_; rintro e w2 ⟨rfl, hd⟩; clear HF3; have hb := ((Below.refl w1.heap.size w1).alloc (Nat.le_refl _) (.cells #[.int .u64 n] 22)).trans (hd.below.mono (by simp)); replace HB := aM_ (below_then HB.out HB.out.size hb); replace HK := aM_ (blk_below HK.out hb); replace HZ := aM_ (blk_below HZ.out hb); obtain ⟨hy0, hy1, hy2, hy3, hy4, hy5, hy6, hy7, hy8, hy9, hy10, hy11, hy12, hy13⟩ := cz7_ HZ.out; obtain ⟨hz0, hz1, hz2, hz3, hz4, hz5, hz6, hz7, hz8, hz9, hz10, hz11, hz12, hz13⟩ := cz7_ HK.out; have HZF := HZ; have HBF := HB; clear hb hd))
    refine bodyPost_ret (results_ct rfl _ _ (w.heap.size + 1) 25 #[.int .u64 0, .int .u64 0, .int .u64 0, .int .u64 0, .int .u64 0, .slice none 0 0, .bool false] (0, 0) _ rfl (zero7_self HZF.out) Try.underlying25 rfl (by kernel_rfl)) rfl ?_
    exact ⟨_, rfl, Kd.R_nil _ _ _ _ _, zero7_below HBF.out (Nat.le_succ _)⟩
  rw [if_neg hu] at h
  replace hu : (u != 0) = false := by simpa using hu
  by_cases hc : c.f6 = true
  case neg =>
    rw [if_neg hc] at h
    have hop : c.f6 = false := by simpa using hc
    have HOP := aM_ hop
    clear hc hop
    injection h with h
    simp only [Prod.mk.injEq] at h
    obtain ⟨rfl, rfl, rfl, rfl, rfl, rfl, rfl, rfl⟩ := h
    go_enter Try.func42, Try.ntmps42
    go_wp2_with (first | (go_at_call 34; refine (damsonref09_Check.calls k c.f0 c.f1 c.f2 c.f3 c.f4 A0 c0 c.f5 c.f6 0 _ (Kd.C_below HR0.out HB.out) HC0.out HF1.out).mono ?_; rintro e w1 ⟨rfl, hb⟩; clear HF1; replace HB := aM_ (below_then HB.out HB.out.size hb); replace HK := aM_ (blk_below HK.out hb); replace HZ := aM_ (blk_below HZ.out hb); obtain ⟨hy0, hy1, hy2, hy3, hy4, hy5, hy6, hy7, hy8, hy9, hy10, hy11, hy12, hy13⟩ := cz7_ HZ.out; obtain ⟨hz0, hz1, hz2, hz3, hz4, hz5, hz6, hz7, hz8, hz9, hz10, hz11, hz12, hz13⟩ := cz7_ HK.out; have HZF := HZ; have HBF := HB; clear hb) | (go_at_call 96; clear hy0 hy1 hy2 hy3 hy4 hy5 hy6 hy7 hy8 hy9 hy10 hy11 hy12 hy13; clear hz0 hz1 hz2 hz3 hz4 hz5 hz6 hz7 hz8 hz9 hz10 hz11 hz12 hz13; clear HZF HBF; refine (damsonref04_Check.calls k (some ⟨w1.heap.size, 0, none⟩) 1 [n] u _ (ag_oneC w1 n) (Nat.le_refl _) HF3.out).mono ?_; rintro e w2 ⟨rfl, hd⟩; clear HF3; have hb := ((Below.refl w1.heap.size w1).alloc (Nat.le_refl _) (.cells #[.int .u64 n] 22)).trans (hd.below.mono (by simp)); replace HB := aM_ (below_then HB.out HB.out.size hb); replace HK := aM_ (blk_below HK.out hb); replace HZ := aM_ (blk_below HZ.out hb); obtain ⟨hy0, hy1, hy2, hy3, hy4, hy5, hy6, hy7, hy8, hy9, hy10, hy11, hy12, hy13⟩ := cz7_ HZ.out; obtain ⟨hz0, hz1, hz2, hz3, hz4, hz5, hz6, hz7, hz8, hz9, hz10, hz11, hz12, hz13⟩ := cz7_ HK.out; have HZF := HZ; have HBF := HB; have hop := HOP.out; clear hb hd))
    refine bodyPost_ret (results_ct rfl _ _ (w.heap.size + 1) 25 #[.int .u64 0, .int .u64 0, .int .u64 0, .int .u64 0, .int .u64 0, .slice none 0 0, .bool false] (0, 0) _ rfl (zero7_self HZF.out) Try.underlying25 rfl (by kernel_rfl)) rfl ?_
    exact ⟨_, rfl, Kd.R_nil _ _ _ _ _, zero7_below HBF.out (Nat.le_succ _)⟩
  rw [if_pos hc] at h
  have HOP := aM_ hc
  clear hc
  by_cases hc : n > c.f2
  case pos =>
    rw [if_pos hc] at h
    have hl5b : decide (c.f2 < n) = true := decide_eq_true hc
    clear hc
    injection h with h
    simp only [Prod.mk.injEq] at h
    obtain ⟨rfl, rfl, rfl, rfl, rfl, rfl, rfl, rfl⟩ := h
    go_enter Try.func42, Try.ntmps42
    go_wp2_with (first | (go_at_call 34; refine (damsonref09_Check.calls k c.f0 c.f1 c.f2 c.f3 c.f4 A0 c0 c.f5 c.f6 0 _ (Kd.C_below HR0.out HB.out) HC0.out HF1.out).mono ?_; rintro e w1 ⟨rfl, hb⟩; clear HF1; replace HB := aM_ (below_then HB.out HB.out.size hb); replace HK := aM_ (blk_below HK.out hb); replace HZ := aM_ (blk_below HZ.out hb); obtain ⟨hy0, hy1, hy2, hy3, hy4, hy5, hy6, hy7, hy8, hy9, hy10, hy11, hy12, hy13⟩ := cz7_ HZ.out; obtain ⟨hz0, hz1, hz2, hz3, hz4, hz5, hz6, hz7, hz8, hz9, hz10, hz11, hz12, hz13⟩ := cz7_ HK.out; have HZF := HZ; have HBF := HB; clear hb) | (go_at_call 96; clear hy0 hy1 hy2 hy3 hy4 hy5 hy6 hy7 hy8 hy9 hy10 hy11 hy12 hy13; clear hz0 hz1 hz2 hz3 hz4 hz5 hz6 hz7 hz8 hz9 hz10 hz11 hz12 hz13; clear HZF HBF; refine (damsonref04_Check.calls k (some ⟨w1.heap.size, 0, none⟩) 1 [n] u _ (ag_oneC w1 n) (Nat.le_refl _) HF3.out).mono ?_; rintro e w2 ⟨rfl, hd⟩; clear HF3; have hb := ((Below.refl w1.heap.size w1).alloc (Nat.le_refl _) (.cells #[.int .u64 n] 22)).trans (hd.below.mono (by simp)); replace HB := aM_ (below_then HB.out HB.out.size hb); replace HK := aM_ (blk_below HK.out hb); replace HZ := aM_ (blk_below HZ.out hb); obtain ⟨hy0, hy1, hy2, hy3, hy4, hy5, hy6, hy7, hy8, hy9, hy10, hy11, hy12, hy13⟩ := cz7_ HZ.out; obtain ⟨hz0, hz1, hz2, hz3, hz4, hz5, hz6, hz7, hz8, hz9, hz10, hz11, hz12, hz13⟩ := cz7_ HK.out; have HZF := HZ; have HBF := HB; have hop := HOP.out; clear hb hd))
    refine bodyPost_ret (results_ct rfl _ _ (w.heap.size + 1) 25 #[.int .u64 0, .int .u64 0, .int .u64 0, .int .u64 0, .int .u64 0, .slice none 0 0, .bool false] (0, 0) _ rfl (zero7_self HZF.out) Try.underlying25 rfl (by kernel_rfl)) rfl ?_
    exact ⟨_, rfl, Kd.R_nil _ _ _ _ _, zero7_below HBF.out (Nat.le_succ _)⟩
  rw [if_neg hc] at h
  have hl5b : decide (c.f2 < n) = false := decide_eq_false hc
  clear hc
  obtain ⟨⟨b0, b1, b2, b3, b4, b5, b6⟩, h1, h_⟩ := oB_ h
  replace h := h_
  clear h_
  have HF2 := aM_ h1
  clear h1
  try dsimp only at h
  have hf2 := HF2.out
  rw [HOP.out] at hf2
  replace HF2 := aM_ hf2
  clear hf2
  injection h with h
  simp only [Prod.mk.injEq] at h
  obtain ⟨rfl, rfl, rfl, rfl, rfl, rfl, rfl, rfl⟩ := h
  go_enter Try.func42, Try.ntmps42
  go_upto_region 8 with (first | (go_at_call 34; refine (damsonref09_Check.calls k c.f0 c.f1 c.f2 c.f3 c.f4 A0 c0 c.f5 c.f6 0 _ (Kd.C_below HR0.out HB.out) HC0.out HF1.out).mono ?_; rintro e w1 ⟨rfl, hb⟩; clear HF1; replace HB := aM_ (below_then HB.out HB.out.size hb); replace HK := aM_ (blk_below HK.out hb); replace HZ := aM_ (blk_below HZ.out hb); obtain ⟨hy0, hy1, hy2, hy3, hy4, hy5, hy6, hy7, hy8, hy9, hy10, hy11, hy12, hy13⟩ := cz7_ HZ.out; obtain ⟨hz0, hz1, hz2, hz3, hz4, hz5, hz6, hz7, hz8, hz9, hz10, hz11, hz12, hz13⟩ := cz7_ HK.out; have HZF := HZ; have HBF := HB; clear hb) | (go_at_call 96; clear hy0 hy1 hy2 hy3 hy4 hy5 hy6 hy7 hy8 hy9 hy10 hy11 hy12 hy13; clear hz0 hz1 hz2 hz3 hz4 hz5 hz6 hz7 hz8 hz9 hz10 hz11 hz12 hz13; clear HZF HBF; refine (damsonref04_Check.calls k (some ⟨w1.heap.size, 0, none⟩) 1 [n] u _ (ag_oneC w1 n) (Nat.le_refl _) HF3.out).mono ?_; rintro e w2 ⟨rfl, hd⟩; clear HF3; have hb := ((Below.refl w1.heap.size w1).alloc (Nat.le_refl _) (.cells #[.int .u64 n] 22)).trans (hd.below.mono (by simp)); replace HB := aM_ (below_then HB.out HB.out.size hb); replace HK := aM_ (blk_below HK.out hb); replace HZ := aM_ (blk_below HZ.out hb); obtain ⟨hy0, hy1, hy2, hy3, hy4, hy5, hy6, hy7, hy8, hy9, hy10, hy11, hy12, hy13⟩ := cz7_ HZ.out; obtain ⟨hz0, hz1, hz2, hz3, hz4, hz5, hz6, hz7, hz8, hz9, hz10, hz11, hz12, hz13⟩ := cz7_ HK.out; have HZF := HZ; have HBF := HB; have hop := HOP.out; clear hb hd) | (go_at_call 38; clear hy0 hy1 hy2 hy3 hy4 hy5 hy6 hy7 hy8 hy9 hy10 hy11 hy12 hy13; clear hz0 hz1 hz2 hz3 hz4 hz5 hz6 hz7 hz8 hz9 hz10 hz11 hz12 hz13; clear hop HZF HBF; have HS := aM_ (blk_lt HZ.out); refine (damsonref09_Copy.calls c.f0 c.f1 c.f2 c.f3 c.f4 A0 c0 c.f5 true b0 b1 b2 b3 b4 b5 b6 _ (Kd.C_below HR0.out HB.out) HC0.out HF2.out).mono ?_; rintro e w3 ⟨v, rfl, ho, hb⟩; clear HF2; replace HB := aM_ (below_then HB.out HB.out.size hb); replace HK := aM_ (blk_below HK.out hb); replace HZ := aM_ (blk_below HZ.out hb); obtain ⟨Ab, cb, hv⟩ := Kd.R_slice ho; subst hv; have HRb := aM_ (Kd.R_bound ho); obtain ⟨hz0, hz1, hz2, hz3, hz4, hz5, hz6, hz7, hz8, hz9, hz10, hz11, hz12, hz13⟩ := cz7_ HK.out; clear hb ho))
  rw [show (((((((w3.setCell ⟨w.heap.size, 0, none⟩ (.int .u64 b0)).setCell ⟨w.heap.size, 1, none⟩ (.int .u64 b1)).setCell ⟨w.heap.size, 2, none⟩ (.int .u64 b2)).setCell ⟨w.heap.size, 3, none⟩ (.int .u64 b3)).setCell ⟨w.heap.size, 4, none⟩ (.int .u64 b4)).setCell ⟨w.heap.size, 5, none⟩ (.slice Ab b5.length cb)).setCell ⟨w.heap.size, 6, none⟩ (.bool b6)) = put7 w3 w.heap.size (⟨b0, b1, b2, b3, b4, b5, b6⟩ : S25) (.slice Ab b5.length cb) from rfl]
  have HR3 := aM_ (put7_R (g := w.heap.size) (c := (⟨b0, b1, b2, b3, b4, b5, b6⟩ : S25)) (v := (.slice Ab b5.length cb)) HRb.out (fun k_ hk => by have := HS.out; omega))
  have HG2 := aM_ HS.out
  replace HB := aM_ (put7_below (g := w.heap.size) (c := (⟨b0, b1, b2, b3, b4, b5, b6⟩ : S25)) (v := (.slice Ab b5.length cb)) HB.out (Nat.le_refl _))
  replace HZ := aM_ (put7_far (g := w.heap.size) (c := (⟨b0, b1, b2, b3, b4, b5, b6⟩ : S25)) (v := (.slice Ab b5.length cb)) HZ.out (by omega))
  replace HK := aM_ (put7_self (c := (⟨b0, b1, b2, b3, b4, b5, b6⟩ : S25)) (v := (.slice Ab b5.length cb)) HK.out)
  clear hz0 hz1 hz2 hz3 hz4 hz5 hz6 hz7 hz8 hz9 hz10 hz11 hz12 hz13 HRb
  generalize put7 w3 w.heap.size (⟨b0, b1, b2, b3, b4, b5, b6⟩ : S25) (.slice Ab b5.length cb) = w4 at HB HZ HK HR3 ⊢
  obtain ⟨hz0, hz1, hz2, hz3, hz4, hz5, hz6, hz7, hz8, hz9, hz10, hz11, hz12, hz13⟩ := cz7_ HK.out
  obtain ⟨hy0, hy1, hy2, hy3, hy4, hy5, hy6, hy7, hy8, hy9, hy10, hy11, hy12, hy13⟩ := cz7_ HZ.out
  go_wp2
  refine bodyPost_ret (results_ct rfl _ _ (w.heap.size + 1) 25 #[.int .u64 b0, .int .u64 (IntKind.u64.wrap (b1 + n)), .int .u64 (IntKind.u64.wrap (b2 - n)), .int .u64 b3, .int .u64 b4, (.slice Ab b5.length cb), .bool b6] (0, 0) _ rfl (put7_self (w := (w4.setCell ⟨w.heap.size, 2, none⟩ (.int .u64 (IntKind.u64.wrap (b2 - n)))).setCell ⟨w.heap.size, 1, none⟩ (.int .u64 (IntKind.u64.wrap (b1 + n)))) (c := (⟨b0, IntKind.u64.wrap (b1 + n), IntKind.u64.wrap (b2 - n), b3, b4, b5, b6⟩ : S25)) (v := (.slice Ab b5.length cb)) (blk_far (blk_far HZ.out (by show w.heap.size + 1 ≠ w.heap.size; omega) _) (by show w.heap.size + 1 ≠ w.heap.size; omega) _)) Try.underlying25 rfl (by kernel_rfl)) rfl ?_
  exact ⟨_, rfl, Kd.R_mono (Kd.R_lower (put7_R (g := w.heap.size + 1) (c := (⟨b0, IntKind.u64.wrap (b1 + n), IntKind.u64.wrap (b2 - n), b3, b4, b5, b6⟩ : S25)) (v := (.slice Ab b5.length cb)) (Kd.R_far (p := ⟨w.heap.size, 1, none⟩) (Kd.R_far (p := ⟨w.heap.size, 2, none⟩) HR3.out (fun k_ hk => by show k_ ≠ w.heap.size; have := HS.out; omega) _) (fun k_ hk => by show k_ ≠ w.heap.size; have := HS.out; omega) _) (fun k_ hk => by have := HS.out; omega)) (by have := HS.out; omega)) (fun _ _ => trivial), put7_below (c := (⟨b0, IntKind.u64.wrap (b1 + n), IntKind.u64.wrap (b2 - n), b3, b4, b5, b6⟩ : S25)) (v := (.slice Ab b5.length cb)) ((HB.out.setCell (Nat.le_refl _) _).setCell (Nat.le_refl _) _) (Nat.le_succ _)⟩
theorem damsonref09_Push.calls (k : Nat) (a0_0 : Int) (a0_1 : Int) (a0_2 : Int) (a0_3 : Int) (a0_4 : Int) (A0_5 : Option Addr) (c0_5 : Nat) (l0_5 : List (S44)) (a0_6 : Bool) (a1 : Int) (r1 : Int) (r2 : Int) (r3 : Int) (r4 : Int) (r5 : Int) (r6 : List (S44)) (r7 : Bool) (r8 : Int) (w : World) (hr0_5 : Kd.C k44 w A0_5 l0_5.length l0_5) (hc0_5 : l0_5.length ≤ c0_5) (h : damsonref09_Push.f k a0_0 a0_1 a0_2 a0_3 a0_4 l0_5 a0_6 a1 = some (r1, r2, r3, r4, r5, r6, r7, r8)) :
    Calls Try.prog 42 #[.agg #[.int .u64 a0_0, .int .u64 a0_1, .int .u64 a0_2, .int .u64 a0_3, .int .u64 a0_4, .slice A0_5 l0_5.length c0_5, .bool a0_6], .int .u64 a1] w fun e w' => ∃ v5_ : Value, e = .returned (.tuple #[.agg #[.int .u64 r1, .int .u64 r2, .int .u64 r3, .int .u64 r4, .int .u64 r5, v5_, .bool r7], .int .i64 r8]) ∧ Kd.R k44 44 w' w.heap.size (fun _ => True) v5_ r6 ∧ Below w.heap.size w w' :=
  damsonref09_Push.callsS k ⟨a0_0, a0_1, a0_2, a0_3, a0_4, l0_5, a0_6⟩ A0_5 c0_5 a1 r1 r2 r3 r4 r5 r6 r7 r8 w hr0_5 hc0_5 h

/-! ### damsonref10_Push: function 64 (by hand) -/
def damsonref10_Push.g (k : Nat) (l : List S25) (id : Int) (n : Int) : Option (List S25 × Int) := (damsonref10_Get.f k l id).bind fun t => if t.2.2.2.2.2.2.2 = 0 then (damsonref09_Push.f k t.1 t.2.1 t.2.2.1 t.2.2.2.1 t.2.2.2.2.1 t.2.2.2.2.2.1 t.2.2.2.2.2.2.1 n).bind fun d => if d.2.2.2.2.2.2.2 = 0 then (damsonref10_with.g k l ⟨d.1, d.2.1, d.2.2.1, d.2.2.2.1, d.2.2.2.2.1, d.2.2.2.2.2.1, d.2.2.2.2.2.2.1⟩).bind fun x => some (x, 0) else some ([], d.2.2.2.2.2.2.2) else some ([], t.2.2.2.2.2.2.2)
theorem damsonref10_Push.mono_g (l : List S25) (id : Int) (n : Int) (k : Nat) : LeO (damsonref10_Push.g k l id n) (damsonref10_Push.g (k + 1) l id n) := by
  unfold damsonref10_Push.g
  repeat' first
    | (with_reducible exact LeO.refl _)
    | apply damsonref10_Get.mono
    | apply damsonref09_Push.mono
    | apply damsonref10_with.mono_g
    | (with_reducible refine LeO.ite ?_ ?_)
    | (with_reducible refine LeO.bind ?_ (fun _ => ?_))
set_option maxHeartbeats 16000000 in
set_option maxRecDepth 100000 in
theorem damsonref10_Push.callsS (k : Nat) (A0 : Option Addr) (c0 : Nat) (l : List S25) (id : Int) (n : Int) (r : List S25) (er : Int) (w : World) (hr0 : Kd.C k25 w A0 l.length l) (hc0 : l.length ≤ c0) (h : damsonref10_Push.g k l id n = some (r, er)) :
    Calls Try.prog 64 #[.slice A0 l.length c0, .int .u64 id, .int .u64 n] w fun e w' => ∃ A c, e = .returned (.tuple #[.slice A r.length c, .int .i64 er]) ∧ r.length ≤ c ∧ Kd.C k25 w' A r.length r ∧ Below w.heap.size w w' := by
  have HR0 := aM_ hr0
  have HC0 := aM_ hc0
  have HB := aM_ (Below.refl w.heap.size w)
  clear hr0 hc0
  unfold damsonref10_Push.g at h
  obtain ⟨⟨t0, t1, t2, t3, t4, t5, t6, te⟩, h1, h_⟩ := oB_ h
  replace h := h_
  clear h_
  have HF1 := aM_ h1
  clear h1
  try dsimp only at h
  by_cases hc : te = 0
  case neg =>
    rw [if_neg hc] at h
    have he1 : (te != 0) = true := bne_iff_ne.mpr hc
    clear hc
    injection h with h
    injection h with h1 h2
    subst h1 h2
    go_enter Try.func64, Try.ntmps64
    go_wp2_with (((go_at_call 49; refine (damsonref10_Get.calls k A0 c0 l id t0 t1 t2 t3 t4 t5 t6 te _ (Kd.C_below HR0.out HB.out) HC0.out HF1.out).mono ?_; rintro e w1 ⟨v, rfl, ho, hb⟩; clear HF1; replace HB := aM_ (below_then HB.out HB.out.size hb); obtain ⟨At, ct, hv⟩ := Kd.R_slice ho; subst hv; have HCt := aM_ (Kd.R_reads' ho).2.1; have HRt := aM_ (Kd.R_reads' ho).2.2; clear hb ho)))
    go_ret2
    exact ⟨none, 0, rfl, Nat.zero_le _, ag_nil25 _, HB.out.alloc HB.out.size _⟩
  rw [if_pos hc] at h
  subst hc
  obtain ⟨⟨d0, d1, d2, d3, d4, d5, d6, de⟩, h1, h_⟩ := oB_ h
  replace h := h_
  clear h_
  have HF3 := aM_ h1
  clear h1
  try dsimp only at h
  by_cases hc : de = 0
  case neg =>
    rw [if_neg hc] at h
    have he2 : (de != 0) = true := bne_iff_ne.mpr hc
    clear hc
    injection h with h
    injection h with h1 h2
    subst h1 h2
    go_enter Try.func64, Try.ntmps64
    go_wp2_with (first | (go_at_call 49; refine (damsonref10_Get.calls k A0 c0 l id t0 t1 t2 t3 t4 t5 t6 0 _ (Kd.C_below HR0.out HB.out) HC0.out HF1.out).mono ?_; rintro e w1 ⟨v, rfl, ho, hb⟩; clear HF1; replace HB := aM_ (below_then HB.out HB.out.size hb); obtain ⟨At, ct, hv⟩ := Kd.R_slice ho; subst hv; have HCt := aM_ (Kd.R_reads' ho).2.1; have HRt := aM_ (Kd.R_reads' ho).2.2; clear hb ho) | (go_at_call 42; have hal := (Below.refl w1.heap.size w1).alloc (Nat.le_refl _) (.cells #[.int .u64 t0, .int .u64 t1, .int .u64 t2, .int .u64 t3, .int .u64 t4, .slice At t5.length ct, .bool t6] 25); replace HB := aM_ (below_then HB.out HB.out.size hal); replace HRt := aM_ (Kd.C_below HRt.out hal); have KBt := aM_ (blk_new w1 (.cells #[.int .u64 t0, .int .u64 t1, .int .u64 t2, .int .u64 t3, .int .u64 t4, .slice At t5.length ct, .bool t6] 25)); clear hal; obtain ⟨hy0, hy1, hy2, hy3, hy4, hy5, hy6, hy7, hy8, hy9, hy10, hy11, hy12, hy13⟩ := cz7_ KBt.out; refine (damsonref09_Push.calls k t0 t1 t2 t3 t4 At ct t5 t6 n d0 d1 d2 d3 d4 d5 d6 de _ HRt.out HCt.out HF3.out).mono ?_; rintro e w2 ⟨v, rfl, ho, hb⟩; clear HF3; replace HB := aM_ (below_then HB.out HB.out.size hb); replace HRt := aM_ (Kd.C_below HRt.out hb); replace KBt := aM_ (blk_below KBt.out hb); obtain ⟨Ad, cd, hv⟩ := Kd.R_slice ho; subst hv; have HCd := aM_ (Kd.R_reads' ho).2.1; have HRd := aM_ (Kd.R_reads' ho).2.2; clear hb ho))
    go_ret2
    exact ⟨none, 0, rfl, Nat.zero_le _, ag_nil25 _, HB.out.alloc HB.out.size _⟩
  rw [if_pos hc] at h
  subst hc
  obtain ⟨x, h1, h_⟩ := oB_ h
  replace h := h_
  clear h_
  have HF4 := aM_ h1
  clear h1
  injection h with h
  injection h with h1 h2
  subst h1 h2
  go_enter Try.func64, Try.ntmps64
  go_wp2_with (first | (go_at_call 49; refine (damsonref10_Get.calls k A0 c0 l id t0 t1 t2 t3 t4 t5 t6 0 _ (Kd.C_below HR0.out HB.out) HC0.out HF1.out).mono ?_; rintro e w1 ⟨v, rfl, ho, hb⟩; clear HF1; replace HB := aM_ (below_then HB.out HB.out.size hb); obtain ⟨At, ct, hv⟩ := Kd.R_slice ho; subst hv; have HCt := aM_ (Kd.R_reads' ho).2.1; have HRt := aM_ (Kd.R_reads' ho).2.2; clear hb ho) | (go_at_call 42; have hal := (Below.refl w1.heap.size w1).alloc (Nat.le_refl _) (.cells #[.int .u64 t0, .int .u64 t1, .int .u64 t2, .int .u64 t3, .int .u64 t4, .slice At t5.length ct, .bool t6] 25); replace HB := aM_ (below_then HB.out HB.out.size hal); replace HRt := aM_ (Kd.C_below HRt.out hal); have KBt := aM_ (blk_new w1 (.cells #[.int .u64 t0, .int .u64 t1, .int .u64 t2, .int .u64 t3, .int .u64 t4, .slice At t5.length ct, .bool t6] 25)); clear hal; obtain ⟨hy0, hy1, hy2, hy3, hy4, hy5, hy6, hy7, hy8, hy9, hy10, hy11, hy12, hy13⟩ := cz7_ KBt.out; refine (damsonref09_Push.calls k t0 t1 t2 t3 t4 At ct t5 t6 n d0 d1 d2 d3 d4 d5 d6 0 _ HRt.out HCt.out HF3.out).mono ?_; rintro e w2 ⟨v, rfl, ho, hb⟩; clear HF3; replace HB := aM_ (below_then HB.out HB.out.size hb); replace HRt := aM_ (Kd.C_below HRt.out hb); replace KBt := aM_ (blk_below KBt.out hb); obtain ⟨Ad, cd, hv⟩ := Kd.R_slice ho; subst hv; have HCd := aM_ (Kd.R_reads' ho).2.1; have HRd := aM_ (Kd.R_reads' ho).2.2; clear hb ho) | (go_at_call 113; have hal := (Below.refl w2.heap.size w2).alloc (Nat.le_refl _) (.cells #[.int .u64 d0, .int .u64 d1, .int .u64 d2, .int .u64 d3, .int .u64 d4, .slice Ad d5.length cd, .bool d6] 25); replace HB := aM_ (below_then HB.out HB.out.size hal); replace HRt := aM_ (Kd.C_below HRt.out hal); replace KBt := aM_ (blk_below KBt.out hal); replace HRd := aM_ (Kd.C_below HRd.out hal); have KBd := aM_ (blk_new w2 (.cells #[.int .u64 d0, .int .u64 d1, .int .u64 d2, .int .u64 d3, .int .u64 d4, .slice Ad d5.length cd, .bool d6] 25)); clear hal; refine (damsonref10_with.callsS k A0 c0 l ⟨d0, d1, d2, d3, d4, d5, d6⟩ Ad cd x _ (Kd.C_below HR0.out HB.out) HC0.out HRd.out HCd.out HF4.out).mono ?_; rintro e w3 ⟨Ax, cx, rfl, hcx, hx, hb⟩; clear HF4; replace HB := aM_ (below_then HB.out HB.out.size hb); replace HRt := aM_ (Kd.C_below HRt.out hb); replace KBt := aM_ (blk_below KBt.out hb); replace HRd := aM_ (Kd.C_below HRd.out hb); replace KBd := aM_ (blk_below KBd.out hb); have HCx := aM_ hcx; have HRx := aM_ hx; clear hb hcx hx))
  go_ret2
  exact ⟨Ax, cx, rfl, HCx.out, HRx.out, HB.out⟩

/-! ### damsonref09_find: function 97 -/
def damsonref09_find.l0 : Nat → Int → List (S44) → Int → Int → Option (Int × Int × Bool)
  | 0, _, _, _, _ => none
  | k + 1, x1, x8, x9, x10 => if x10 < x9 then (if 0 ≤ x10 then (if x10 < (x8.length : Int) then (if ((rd_T44 x8 x10).f0) = x1 then (some ((rd_T44 x8 x10).f0, (rd_T44 x8 x10).f1, true)) else (damsonref09_find.l0 k x1 x8 x9 (wrap64 (x10 + 1)))) else (none)) else (none)) else (some (0, 0, false))
def damsonref09_find.f (k : Nat) (l0 : List (S44)) (a1 : Int) : Option (Int × Int × Bool) := damsonref09_find.l0 k a1 l0 (l0.length : Int) 0
theorem damsonref09_find.mono_l : ∀ k, (∀ y0 y1 y2 y3, LeO (damsonref09_find.l0 k y0 y1 y2 y3) (damsonref09_find.l0 (k + 1) y0 y1 y2 y3))
  | 0 => fun _ _ _ _ r h => by simp [damsonref09_find.l0] at h
  | k + 1 => by
    have ih0 := damsonref09_find.mono_l k
    · intro y0 y1 y2 y3
      unfold damsonref09_find.l0
      repeat' first
      | (with_reducible exact ih0 _ _ _ _)
      | (with_reducible exact LeO.refl _)
      | (with_reducible refine LeO.ite ?_ ?_)
      | exact ih0 _ _ _ _
      | exact LeO.none _
      | refine LeO.ite ?_ ?_
      | refine LeO.bind ?_ (fun _ => ?_)
theorem damsonref09_find.mono : ∀ a0 a1 k, LeO (damsonref09_find.f k a0 a1) (damsonref09_find.f (k + 1) a0 a1) := by
  intro a0 a1 k
  have ih0 := damsonref09_find.mono_l k
  unfold damsonref09_find.f
  repeat' first
      | (with_reducible exact ih0 _ _ _ _)
      | exact ih0 _ _ _ _
      | exact LeO.none _
      | refine LeO.ite ?_ ?_
      | refine LeO.bind ?_ (fun _ => ?_)
set_option maxHeartbeats 8000000 in
set_option maxRecDepth 100000 in
theorem damsonref09_find.calls (k : Nat) (A0 : Option Addr) (c0 : Nat) (l0 : List (S44)) (a1 : Int) (r1 : Int) (r2 : Int) (r3 : Bool) (w : World) (hr0 : Kd.C k44 w A0 l0.length l0) (hc0 : l0.length ≤ c0) (h : damsonref09_find.f k l0 a1 = some (r1, r2, r3)) :
    Calls Try.prog 97 #[.slice A0 l0.length c0, .int .u64 a1] w fun e w' => e = .returned (.tuple #[.agg #[.int .u64 r1, .int .u64 r2], .bool r3]) ∧ Below w.heap.size w w' := by
  have hu44 := Try.underlying44
  have HR0 := aM_ hr0
  have HC0 := aM_ hc0
  clear hr0 hc0
  have HB := aM_ (Below.refl w.heap.size w)
  have H : (damsonref09_find.l0 k a1 l0 (l0.length : Int) 0) = some (r1, r2, r3) := h
  clear h
  have H' := aM_ H
  clear H
  go_enter Try.func97, Try.ntmps97
  go_wp2_with ((((with_reducible refine gate_dst (N := 4) rfl ?_); refine box_event ?hg (N := 4) ?hd (cs := #[.int .u64 0, .int .u64 0]) (t := 44) ?hr ?_; (case hd => rfl); (case hg => rfl); (case hr => ((go_simp; done))); intro gb354 hg w3 hbox hb; have BK354 := aM_ (hbox); have GW354 := aM_ (geN HB hg); have GE354 := aM_ (geN HB hg); replace HB := bsA_ HB hb; clear hb hbox hg)))
  go_loopg [10] k (fun kq v10 w' => ∃ (x10_1 : Int) (x355000_1 : Int) (x355001_1 : Int), v10 = .int .i64 x10_1 ∧ Aside0 (damsonref09_find.l0 kq a1 l0 (l0.length : Int) x10_1 = some (r1, r2, r3)) ∧ Aside0 (kq ≤ k) ∧ Aside0 (w'.heap[gb354]? = some (.cells #[.int .u64 x355000_1, .int .u64 x355001_1] 44 (0, 0))) ∧ Aside0 (Below w.heap.size w w'))
  case atStart => exact ⟨(0), (0), (0), (by (rfl)), H', ⟨Nat.le_refl _⟩, ⟨by (with_reducible repeat (first | refine blk_drewN ?_ _ | refine blk_drew ?_ | refine blk_alloc ?_ _)); exact BK354.out⟩, ⟨by repeat (((with_reducible (exact HB.out))))⟩⟩
  case round =>
    clear H'
    obtain ⟨x10_1, x355000_1, x355001_1, rfl, HA, HK1, BK354, HB⟩ := hrel
    cases gk with
    | zero => exact absurd HA.out (by simp [damsonref09_find.l0])
    | succ k1 =>
      have H := HA.out
      clear HA
      simp only [damsonref09_find.l0] at H
      by_cases c4 : x10_1 < (l0.length : Int)
      · rw [if_pos c4] at H
        have c4b0 := decide_eq_true c4
        clear c4
        by_cases c5 : 0 ≤ x10_1
        · rw [if_pos c5] at H
          have c5b0 := decide_eq_true c5
          clear c5
          by_cases c6 : x10_1 < (l0.length : Int)
          · rw [if_pos c6] at H
            have c6b0 := decide_eq_true c6
            clear c6
            by_cases c7 : ((rd_T44 l0 x10_1).f0) = a1
            · rw [if_pos c7] at H
              have c7b0 : (((rd_T44 l0 x10_1).f0) == a1) = true := beq_iff_eq.mpr c7
              have c7b1 : (((rd_T44 l0 x10_1).f0) != a1) = false := bne_eq_false_iff_eq.mpr c7
              clear c7
              simp only [Option.some.injEq, Prod.mk.injEq] at H
              obtain ⟨rfl, rfl, rfl⟩ := H
              have p355 : 0 ≤ (x10_1 : Int) := of_decide_eq_true (by ((with_reducible assumption)))
              have q355 : x10_1 < (l0.length : Int) := of_decide_eq_true (by ((with_reducible assumption)))
              obtain ⟨ad355, e355, hx355_0, hx355_1⟩ := at_T44 HR0.out x10_1 p355 q355
              cases e355
              replace hx355_0 := cN_ HB hx355_0
              replace hx355_1 := cN_ HB hx355_1
              replace p355 := eq_true p355
              replace q355 := eq_true q355
              go_wp2_with ((((with_reducible refine gate_dst (N := 7) rfl ?_); refine box_event ?hg (N := 7) ?hd (cs := #[.int .u64 0, .int .u64 0]) (t := 44) ?hr ?_; (case hd => rfl); (case hg => rfl); (case hr => ((go_simp; done))); intro gb356 hg w8 hbox hb; have BK356 := aM_ (hbox); have GW356 := aM_ (geN HB hg); have GE356 := aM_ (geN HB hg); replace HB := bsA_ HB hb; have NB354_356 := aM_ (neN BK354 hg); have NB356_354 := aM_ (neN' BK354 hg); replace BK354 := bbA_ BK354 hb; clear hb hbox hg; have hnb9 := NB356_354.out; have hnc9 := NB354_356.out; obtain ⟨hcz10_0, hcz10_1, hfz10_0, hfz10_1⟩ := cz2_ (w := w8) BK356.out; obtain ⟨hcz11_0, hcz11_1, hfz11_0, hfz11_1⟩ := cz2_ (w := w8) BK354.out)))
              refine bodyPost_ret (results_ct rfl _ _ gb354 44 #[.int .u64 ((rd_T44 l0 x10_1).f0), .int .u64 ((rd_T44 l0 x10_1).f1)] (0, 0) _ rfl (by (with_reducible repeat (first | refine blk_drewN ?_ _ | refine blk_drew ?_ | refine blk_alloc ?_ _)); apply bp2_; (with_reducible repeat (first | refine blk_drewN ?_ _ | refine blk_drew ?_ | refine blk_alloc ?_ _)); refine blk_far ?_ NB354_356.out _; (with_reducible repeat (first | refine blk_drewN ?_ _ | refine blk_drew ?_ | refine blk_alloc ?_ _)); refine blk_far ?_ NB354_356.out _; (with_reducible repeat (first | refine blk_drewN ?_ _ | refine blk_drew ?_ | refine blk_alloc ?_ _)); exact BK354.out) Try.underlying44 rfl (by kernel_rfl)) rfl ?_
              exact ⟨by (rfl), by repeat (((with_reducible first | exact HB.out | refine below_set ?_ GE354.out | refine below_set ?_ GE356.out)))⟩
            · rw [if_neg c7] at H
              have c7b0 : (((rd_T44 l0 x10_1).f0) == a1) = false := beq_eq_false_iff_ne.mpr c7
              have c7b1 : (((rd_T44 l0 x10_1).f0) != a1) = true := bne_iff_ne.mpr c7
              have H' := aM_ H
              clear H
              have p355 : 0 ≤ (x10_1 : Int) := of_decide_eq_true (by ((with_reducible assumption)))
              have q355 : x10_1 < (l0.length : Int) := of_decide_eq_true (by ((with_reducible assumption)))
              obtain ⟨ad355, e355, hx355_0, hx355_1⟩ := at_T44 HR0.out x10_1 p355 q355
              cases e355
              replace hx355_0 := cN_ HB hx355_0
              replace hx355_1 := cN_ HB hx355_1
              replace p355 := eq_true p355
              replace q355 := eq_true q355
              go_wp2_with ((((with_reducible refine gate_dst (N := 7) rfl ?_); refine box_event ?hg (N := 7) ?hd (cs := #[.int .u64 0, .int .u64 0]) (t := 44) ?hr ?_; (case hd => rfl); (case hg => rfl); (case hr => ((go_simp; done))); intro gb356 hg w12 hbox hb; have BK356 := aM_ (hbox); have GW356 := aM_ (geN HB hg); have GE356 := aM_ (geN HB hg); replace HB := bsA_ HB hb; have NB354_356 := aM_ (neN BK354 hg); have NB356_354 := aM_ (neN' BK354 hg); replace BK354 := bbA_ BK354 hb; clear hb hbox hg; have hnb13 := NB356_354.out; have hnc13 := NB354_356.out; obtain ⟨hcz14_0, hcz14_1, hfz14_0, hfz14_1⟩ := cz2_ (w := w12) BK356.out)))
              go_roundg k1
              case measure => have := HK1.out; omega
              case rel => exact ⟨(wrap64 (x10_1 + 1)), (x355000_1), (x355001_1), (by (rfl)), H', ⟨by have := HK1.out; omega⟩, ⟨by (with_reducible repeat (first | refine blk_drewN ?_ _ | refine blk_drew ?_ | refine blk_alloc ?_ _)); refine blk_far ?_ NB354_356.out _; (with_reducible repeat (first | refine blk_drewN ?_ _ | refine blk_drew ?_ | refine blk_alloc ?_ _)); refine blk_far ?_ NB354_356.out _; (with_reducible repeat (first | refine blk_drewN ?_ _ | refine blk_drew ?_ | refine blk_alloc ?_ _)); exact BK354.out⟩, ⟨by repeat (((with_reducible first | exact HB.out | refine below_set ?_ GE356.out)))⟩⟩
          · rw [if_neg c6] at H
            exact absurd H (by simp)
        · rw [if_neg c5] at H
          exact absurd H (by simp)
      · rw [if_neg c4] at H
        have c4b0 := decide_eq_false c4
        clear c4
        simp only [Option.some.injEq, Prod.mk.injEq] at H
        obtain ⟨rfl, rfl, rfl⟩ := H
        obtain ⟨hcz15_0, hcz15_1, hfz15_0, hfz15_1⟩ := cz2_ (w := wr) BK354.out
        go_wp2
        refine bodyPost_ret (results_ct rfl _ _ gb354 44 #[.int .u64 0, .int .u64 0] (0, 0) _ rfl (by (with_reducible repeat (first | refine blk_drewN ?_ _ | refine blk_drew ?_ | refine blk_alloc ?_ _)); apply bp2_; (with_reducible repeat (first | refine blk_drewN ?_ _ | refine blk_drew ?_ | refine blk_alloc ?_ _)); exact BK354.out) Try.underlying44 rfl (by kernel_rfl)) rfl ?_
        exact ⟨by (rfl), by repeat (((with_reducible first | exact HB.out | refine below_set ?_ GE354.out)))⟩

end Go.Proofs.Ytcfbcoinbecdfaa.P
