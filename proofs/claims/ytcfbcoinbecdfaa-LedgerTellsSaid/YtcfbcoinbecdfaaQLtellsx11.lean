-- written by a program of this session (wip/print)
import Derived.Test.YtcfbcoinbecdfaaQLtellsx0
import Derived.Test.YtcfbcoinbecdfaaQLtellsx10
namespace Go.Proofs.Ytcfbcoinbecdfaa.P
open Go.RowKit Go.Proofs.YtcfbcoinbecdfaaW.PrintWords Go.Proofs.YtcfbcoinbecdfaaW.PrintLast Go.Proofs.YtcfbcoinbecdfaaW.PrintMore
attribute [local go_sem] max2_int min2_int max_two min_two max_three min_three max_four min_four run_sub64_   -- for this text's walks alone
set_option linter.unusedVariables false
set_option linter.unusedSimpArgs false

/-! ### damsonref09_Check: function 34 -/
mutual
def damsonref09_Check.j0 : Nat → Bool → Int → Int → Int → Int → Int → List (S44) → Bool → Option (Int)
 | 0, _, _, _, _, _, _, _, _ => none
 | k + 1, x32, x219000, x219001, x219002, x219003, x219004, x219005, x219006 => if x32 = true then (some 1) else (damsonref09_Check.l0 k x219005 (x219005.length : Int) 0 x219000 x219001 x219002 x219003 x219004 x219005 x219006)
def damsonref09_Check.l0 : Nat → List (S44) → Int → Int → Int → Int → Int → Int → Int → List (S44) → Bool → Option (Int)
 | 0, _, _, _, _, _, _, _, _, _, _ => none
 | k + 1, x34, x35, x36, x219000, x219001, x219002, x219003, x219004, x219005, x219006 => if x36 < x35 then (if 0 ≤ x36 then (if x36 < (x34.length : Int) then (if ((rd_T44 x34 x36).f1) = 0 then (some 1) else (if x36 > 0 then (if 0 ≤ (wrap64 (x36 - 1)) then (if (wrap64 (x36 - 1)) < (x219005.length : Int) then (if ((rd_T44 x219005 (wrap64 (x36 - 1))).f0) ≥ ((rd_T44 x34 x36).f0) then (some 1) else (damsonref09_Check.l0 k x34 x35 (wrap64 (x36 + 1)) x219000 x219001 x219002 x219003 x219004 x219005 x219006)) else (none)) else (none)) else (damsonref09_Check.l0 k x34 x35 (wrap64 (x36 + 1)) x219000 x219001 x219002 x219003 x219004 x219005 x219006))) else (none)) else (none)) else ((damsonref09_amounts.f k x219005).bind fun t226 => ((damsonref04_Add.f k t226).bind fun bt229 => (if bt229.2 = 0 then (damsonref09_Check.j2 k bt229.1 (decide (bt229.1 > x219004)) x219000 x219001 x219002 x219003 x219004 x219005 x219006) else (damsonref09_Check.j2 k bt229.1 true x219000 x219001 x219002 x219003 x219004 x219005 x219006))))
def damsonref09_Check.j2 : Nat → Int → Bool → Int → Int → Int → Int → Int → List (S44) → Bool → Option (Int)
 | 0, _, _, _, _, _, _, _, _, _ => none
 | k + 1, x5, x75, x219000, x219001, x219002, x219003, x219004, x219005, x219006 => if x75 = true then (some 1) else ((damsonref04_Add.f k (([x219001, x219002, x5] : List Int))).bind fun bt234 => (if bt234.2 = 0 then (some 0) else (some 1)))
end
def damsonref09_Check.f (k : Nat) (a0_0 : Int) (a0_1 : Int) (a0_2 : Int) (a0_3 : Int) (a0_4 : Int) (l0_5 : List (S44)) (a0_6 : Bool) : Option (Int) := (damsonref04_Check.f k (([a0_3, a0_4] : List Int))).bind fun t222 => (if t222 = 0 then (if (l0_5.length : Int) > 64 then (damsonref09_Check.j0 k true a0_0 a0_1 a0_2 a0_3 a0_4 l0_5 a0_6) else (if a0_6 = true then (damsonref09_Check.j0 k false a0_0 a0_1 a0_2 a0_3 a0_4 l0_5 a0_6) else (damsonref09_Check.j0 k (decide ((l0_5.length : Int) > 0)) a0_0 a0_1 a0_2 a0_3 a0_4 l0_5 a0_6))) else (damsonref09_Check.j0 k true a0_0 a0_1 a0_2 a0_3 a0_4 l0_5 a0_6))
theorem damsonref09_Check.mono_l : ∀ k, (∀ y0 y1 y2 y3 y4 y5 y6 y7, LeO (damsonref09_Check.j0 k y0 y1 y2 y3 y4 y5 y6 y7) (damsonref09_Check.j0 (k + 1) y0 y1 y2 y3 y4 y5 y6 y7)) ∧ (∀ y0 y1 y2 y3 y4 y5 y6 y7 y8 y9, LeO (damsonref09_Check.l0 k y0 y1 y2 y3 y4 y5 y6 y7 y8 y9) (damsonref09_Check.l0 (k + 1) y0 y1 y2 y3 y4 y5 y6 y7 y8 y9)) ∧ (∀ y0 y1 y2 y3 y4 y5 y6 y7 y8, LeO (damsonref09_Check.j2 k y0 y1 y2 y3 y4 y5 y6 y7 y8) (damsonref09_Check.j2 (k + 1) y0 y1 y2 y3 y4 y5 y6 y7 y8))
 | 0 => ⟨fun _ _ _ _ _ _ _ _ r h => by simp [damsonref09_Check.j0] at h, fun _ _ _ _ _ _ _ _ _ _ r h => by simp [damsonref09_Check.l0] at h, fun _ _ _ _ _ _ _ _ _ r h => by simp [damsonref09_Check.j2] at h⟩
 | k + 1 => by
  obtain ⟨ih0, ih1, ih2⟩ := damsonref09_Check.mono_l k
  refine ⟨?_, ?_, ?_⟩
  ·intro y0 y1 y2 y3 y4 y5 y6 y7
   unfold damsonref09_Check.j0
   repeat' first
   | (with_reducible exact ih0 _ _ _ _ _ _ _ _)
   | (with_reducible exact ih1 _ _ _ _ _ _ _ _ _ _)
   | (with_reducible exact ih2 _ _ _ _ _ _ _ _ _)
   | (with_reducible exact damsonref04_Add.mono _ _)
   | (with_reducible exact damsonref04_Check.mono _ _)
   | (with_reducible exact damsonref09_amounts.mono _ _)
   | (with_reducible exact LeO.refl _)
   | (with_reducible exact LeO.none _)
   | (with_reducible refine LeO.ite ?_ ?_)
   | (with_reducible refine LeO.bind ?_ (fun _ => ?_))
   | exact ih0 _ _ _ _ _ _ _ _
   | exact ih1 _ _ _ _ _ _ _ _ _ _
   | exact ih2 _ _ _ _ _ _ _ _ _
   | exact damsonref04_Add.mono _ _
   | exact damsonref04_Check.mono _ _
   | exact damsonref09_amounts.mono _ _
   | exact LeO.none _
   | refine LeO.ite ?_ ?_
   | refine LeO.bind ?_ (fun _ => ?_)
  ·intro y0 y1 y2 y3 y4 y5 y6 y7 y8 y9
   unfold damsonref09_Check.l0
   repeat' first
   | (with_reducible exact ih0 _ _ _ _ _ _ _ _)
   | (with_reducible exact ih1 _ _ _ _ _ _ _ _ _ _)
   | (with_reducible exact ih2 _ _ _ _ _ _ _ _ _)
   | (with_reducible exact damsonref04_Add.mono _ _)
   | (with_reducible exact damsonref04_Check.mono _ _)
   | (with_reducible exact damsonref09_amounts.mono _ _)
   | (with_reducible exact LeO.refl _)
   | (with_reducible exact LeO.none _)
   | (with_reducible refine LeO.ite ?_ ?_)
   | (with_reducible refine LeO.bind ?_ (fun _ => ?_))
   | exact ih0 _ _ _ _ _ _ _ _
   | exact ih1 _ _ _ _ _ _ _ _ _ _
   | exact ih2 _ _ _ _ _ _ _ _ _
   | exact damsonref04_Add.mono _ _
   | exact damsonref04_Check.mono _ _
   | exact damsonref09_amounts.mono _ _
   | exact LeO.none _
   | refine LeO.ite ?_ ?_
   | refine LeO.bind ?_ (fun _ => ?_)
  ·intro y0 y1 y2 y3 y4 y5 y6 y7 y8
   unfold damsonref09_Check.j2
   repeat' first
   | (with_reducible exact ih0 _ _ _ _ _ _ _ _)
   | (with_reducible exact ih1 _ _ _ _ _ _ _ _ _ _)
   | (with_reducible exact ih2 _ _ _ _ _ _ _ _ _)
   | (with_reducible exact damsonref04_Add.mono _ _)
   | (with_reducible exact damsonref04_Check.mono _ _)
   | (with_reducible exact damsonref09_amounts.mono _ _)
   | (with_reducible exact LeO.refl _)
   | (with_reducible exact LeO.none _)
   | (with_reducible refine LeO.ite ?_ ?_)
   | (with_reducible refine LeO.bind ?_ (fun _ => ?_))
   | exact ih0 _ _ _ _ _ _ _ _
   | exact ih1 _ _ _ _ _ _ _ _ _ _
   | exact ih2 _ _ _ _ _ _ _ _ _
   | exact damsonref04_Add.mono _ _
   | exact damsonref04_Check.mono _ _
   | exact damsonref09_amounts.mono _ _
   | exact LeO.none _
   | refine LeO.ite ?_ ?_
   | refine LeO.bind ?_ (fun _ => ?_)
theorem damsonref09_Check.mono : ∀ a0 a1 a2 a3 a4 a5 a6 k, LeO (damsonref09_Check.f k a0 a1 a2 a3 a4 a5 a6) (damsonref09_Check.f (k + 1) a0 a1 a2 a3 a4 a5 a6) := by
 intro a0 a1 a2 a3 a4 a5 a6 k
 obtain ⟨ih0, ih1, ih2⟩ := damsonref09_Check.mono_l k
 unfold damsonref09_Check.f
 repeat' first
   | (with_reducible exact ih0 _ _ _ _ _ _ _ _)
   | (with_reducible exact ih1 _ _ _ _ _ _ _ _ _ _)
   | (with_reducible exact ih2 _ _ _ _ _ _ _ _ _)
   | (with_reducible exact damsonref04_Add.mono _ _)
   | (with_reducible exact damsonref04_Check.mono _ _)
   | (with_reducible exact damsonref09_amounts.mono _ _)
   | (with_reducible exact LeO.refl _)
   | (with_reducible exact LeO.none _)
   | (with_reducible refine LeO.ite ?_ ?_)
   | (with_reducible refine LeO.bind ?_ (fun _ => ?_))
   | exact ih0 _ _ _ _ _ _ _ _
   | exact ih1 _ _ _ _ _ _ _ _ _ _
   | exact ih2 _ _ _ _ _ _ _ _ _
   | exact damsonref04_Add.mono _ _
   | exact damsonref04_Check.mono _ _
   | exact damsonref09_amounts.mono _ _
   | exact LeO.none _
   | refine LeO.ite ?_ ?_
   | refine LeO.bind ?_ (fun _ => ?_)
set_option maxHeartbeats 8000000 in
set_option maxRecDepth 100000 in
theorem damsonref09_Check.calls (k : Nat) (a0_0 : Int) (a0_1 : Int) (a0_2 : Int) (a0_3 : Int) (a0_4 : Int) (A0_5 : Option Addr) (c0_5 : Nat) (l0_5 : List (S44)) (a0_6 : Bool) (r : Int) (w : World) (hr0_5 : Kd.C k44 w A0_5 l0_5.length l0_5) (hc0_5 : l0_5.length ≤ c0_5) (h : damsonref09_Check.f k a0_0 a0_1 a0_2 a0_3 a0_4 l0_5 a0_6 = some r) :
  Calls Try.prog 34 #[.agg #[.int .u64 a0_0, .int .u64 a0_1, .int .u64 a0_2, .int .u64 a0_3, .int .u64 a0_4, .slice A0_5 l0_5.length c0_5, .bool a0_6]] w fun e w' => e = .returned (.int .i64 r) ∧ Below w.heap.size w w' := by
 have hu25 := Try.underlying25
 have hu44 := Try.underlying44
 have HR0_5 := Aside0.mk hr0_5
 have HC0_5 := Aside0.mk hc0_5
 clear hr0_5 hc0_5
 have HB := Aside0.mk (Below.refl w.heap.size w)
 have H : ((damsonref04_Check.f k (([a0_3, a0_4] : List Int))).bind fun t222 => (if t222 = 0 then (if (l0_5.length : Int) > 64 then (damsonref09_Check.j0 k true a0_0 a0_1 a0_2 a0_3 a0_4 l0_5 a0_6) else (if a0_6 = true then (damsonref09_Check.j0 k false a0_0 a0_1 a0_2 a0_3 a0_4 l0_5 a0_6) else (damsonref09_Check.j0 k (decide ((l0_5.length : Int) > 0)) a0_0 a0_1 a0_2 a0_3 a0_4 l0_5 a0_6))) else (damsonref09_Check.j0 k true a0_0 a0_1 a0_2 a0_3 a0_4 l0_5 a0_6))) = some r := h
 clear h
 have HC2 := Aside0.mk H
 clear H
 go_enter Try.func34, Try.ntmps34
 go_upto_region 1 with (first | ((with_reducible refine gate_dst (N := 1) rfl ?_); (try (refine gate_guard (by rfl) ?_; dsimp only)); refine box_event ?hg (N := 1) ?hd (cs := #[.int .u64 a0_0, .int .u64 a0_1, .int .u64 a0_2, .int .u64 a0_3, .int .u64 a0_4, .slice A0_5 l0_5.length c0_5, .bool a0_6]) (t := 25) ?hr ?_; (case hd => rfl); (case hg => rfl); (case hr => first | (go_simp; done) | (go_simp; rfl)); intro gb218 hg w3 hbox hb; have n0_ := Aside0.mk (below_step (belN HB) hb); have n1_ := Aside0.mk (hbox); have n2_ := Aside0.mk ((by rw [hg]; exact (below_size (belN HB)) : w.heap.size ≤ gb218)); have n3_ := Aside0.mk ((by rw [hg]; exact (below_size (belN HB)) : w.heap.size ≤ gb218)); clear HB; have HB := n0_; have BK218 := n1_; have GW218 := n2_; have GE218 := n3_; clear n0_ n1_ n2_ n3_; clear hb hbox hg))
 repeat (go_quiet (first | ((with_reducible refine gate_dst (N := 1) rfl ?_); (try (refine gate_guard (by rfl) ?_; dsimp only)); refine box_event ?hg (N := 1) ?hd (cs := #[.int .u64 a0_0, .int .u64 a0_1, .int .u64 a0_2, .int .u64 a0_3, .int .u64 a0_4, .slice A0_5 l0_5.length c0_5, .bool a0_6]) (t := 25) ?hr ?_; (case hd => rfl); (case hg => rfl); (case hr => first | (go_simp; done) | (go_simp; rfl)); intro gb218 hg w3 hbox hb; have n0_ := Aside0.mk (below_step (belN HB) hb); have n1_ := Aside0.mk (hbox); have n2_ := Aside0.mk ((by rw [hg]; exact (below_size (belN HB)) : w.heap.size ≤ gb218)); have n3_ := Aside0.mk ((by rw [hg]; exact (below_size (belN HB)) : w.heap.size ≤ gb218)); clear HB; have HB := n0_; have BK218 := n1_; have GW218 := n2_; have GE218 := n3_; clear n0_ n1_ n2_ n3_; clear hb hbox hg)); go_upto_region 1 with (first | ((with_reducible refine gate_dst (N := 1) rfl ?_); (try (refine gate_guard (by rfl) ?_; dsimp only)); refine box_event ?hg (N := 1) ?hd (cs := #[.int .u64 a0_0, .int .u64 a0_1, .int .u64 a0_2, .int .u64 a0_3, .int .u64 a0_4, .slice A0_5 l0_5.length c0_5, .bool a0_6]) (t := 25) ?hr ?_; (case hd => rfl); (case hg => rfl); (case hr => first | (go_simp; done) | (go_simp; rfl)); intro gb218 hg w3 hbox hb; have n0_ := Aside0.mk (below_step (belN HB) hb); have n1_ := Aside0.mk (hbox); have n2_ := Aside0.mk ((by rw [hg]; exact (below_size (belN HB)) : w.heap.size ≤ gb218)); have n3_ := Aside0.mk ((by rw [hg]; exact (below_size (belN HB)) : w.heap.size ≤ gb218)); clear HB; have HB := n0_; have BK218 := n1_; have GW218 := n2_; have GE218 := n3_; clear n0_ n1_ n2_ n3_; clear hb hbox hg)))
 (try simp only [Act.put, List.setIfInBounds_toArray, List.set_cons_zero, List.set_cons_succ])
 go_cut [32] (fun v32 wc => ∃ (kq : Nat) (x32_1 : Bool), v32 = .bool x32_1 ∧ Aside0 (damsonref09_Check.j0 kq x32_1 a0_0 a0_1 a0_2 a0_3 a0_4 l0_5 a0_6 = some r) ∧ Aside0 (kq ≤ k) ∧ Aside0 (wc.heap[gb218]? = some (.cells #[.int .u64 a0_0, .int .u64 a0_1, .int .u64 a0_2, .int .u64 a0_3, .int .u64 a0_4, (.slice A0_5 l0_5.length c0_5), .bool a0_6] 25 (0, 0))) ∧ Aside0 (Below w.heap.size w wc))
 case first =>
  have H := HC2.out
  clear HC2
  obtain ⟨y219, hy219⟩ : ∃ y_ : List Int, y_ = (([a0_3, a0_4] : List Int)) := ⟨_, rfl⟩
  replace H : ((damsonref04_Check.f k y219).bind fun t222 => (if t222 = 0 then (if (l0_5.length : Int) > 64 then (damsonref09_Check.j0 k true a0_0 a0_1 a0_2 a0_3 a0_4 l0_5 a0_6) else (if a0_6 = true then (damsonref09_Check.j0 k false a0_0 a0_1 a0_2 a0_3 a0_4 l0_5 a0_6) else (damsonref09_Check.j0 k (decide ((l0_5.length : Int) > 0)) a0_0 a0_1 a0_2 a0_3 a0_4 l0_5 a0_6))) else (damsonref09_Check.j0 k true a0_0 a0_1 a0_2 a0_3 a0_4 l0_5 a0_6))) = some r := by first | (rw [hy219]; with_reducible exact H) | (have H2_ := (Option.bind_some _ _).symm.trans H; rw [hy219]; with_reducible exact H2_) | (have H2_ := (Option.bind_some _ _).symm.trans H; with_reducible exact H2_) | with_reducible exact H | (rw [hy219]; exact H) | exact H
  have Ny219 := Aside0.mk hy219
  clear hy219
  replace H := Option.bind_eq_some_iff.mp H
  obtain ⟨t222, A40, H⟩ := H
  replace H : (if t222 = 0 then (if (l0_5.length : Int) > 64 then (damsonref09_Check.j0 k true a0_0 a0_1 a0_2 a0_3 a0_4 l0_5 a0_6) else (if a0_6 = true then (damsonref09_Check.j0 k false a0_0 a0_1 a0_2 a0_3 a0_4 l0_5 a0_6) else (damsonref09_Check.j0 k (decide ((l0_5.length : Int) > 0)) a0_0 a0_1 a0_2 a0_3 a0_4 l0_5 a0_6))) else (damsonref09_Check.j0 k true a0_0 a0_1 a0_2 a0_3 a0_4 l0_5 a0_6)) = some r := H
  have A4 := Aside0.mk A40
  clear A40
  by_cases c5 : t222 = 0
  ·rw [if_pos c5] at H
   have c5b0 : (t222 == 0) = true := beq_iff_eq.mpr c5
   have c5b1 : (t222 != 0) = false := bne_eq_false_iff_eq.mpr c5
   clear c5
   (first | rw [c5b0] | (simp only [i64_w, i32_w]; rw [c5b0]) | skip)
   by_cases c6 : (l0_5.length : Int) > 64
   ·rw [if_pos c6] at H
    have c6b0 : decide (64 < (l0_5.length : Int)) = true := decide_eq_true c6
    have c6b1 : decide (64 < l0_5.length) = true := decide_eq_true (by omega)
    clear c6
    have H' := Aside0.mk H
    clear H
    obtain ⟨hcz7_0, hcz7_1, hcz7_2, hcz7_3, hcz7_4, hcz7_5, hcz7_6, hfz7_0, hfz7_1, hfz7_2, hfz7_3, hfz7_4, hfz7_5, hfz7_6⟩ := cz7_ (w := w3) BK218.out
    go_wp2_with (first | ((with_reducible refine gate_dst (N := 13) rfl ?_); (try (refine gate_guard (by rfl) ?_; dsimp only)); refine Kd.R_lit (Kd.int .u64) _ 22 ?hg (N := 13) ?hd (xs := ([a0_3, a0_4] : List Int)) (inner := [.int .u64 a0_3, .int .u64 a0_4]) (ok := fun _ => True) (okp := fun _ => True) ?hr ?hp (fun _ hk => hk) trivial (Below.refl _ _) (Nat.le_refl _) (by simp) ?_; (case hd => rfl); (case hg => rfl); (case hr => first | (go_simp; done) | (go_simp; rfl)); (case hp => exact (Reps.one (show Kd.M (Kd.int .u64) _ _ _ a0_3 [.int .u64 a0_3] from rfl) (Reps.one (show Kd.M (Kd.int .u64) _ _ _ a0_4 [.int .u64 a0_4] from rfl) (Reps.none _ _)))); intro v220 w8 ho9 hb hg_ hnew_; clear hg_ hnew_; (first | rw [← Ny219.out] at ho9 | (simp only [Int.reduceToNat] at ho9; rw [← Ny219.out] at ho9)); have n0_ := Aside0.mk (Kd.R_lower ho9 (below_size (belN HB))); have n1_ := Aside0.mk (blk_below (g := gb218) (blkN BK218) hb); have n2_ := Aside0.mk (below_step (belN HB) hb); clear BK218; clear HB; have HO221 := n0_; have BK218 := n1_; have HB := n2_; clear n0_ n1_ n2_; clear hb ho9; obtain ⟨Ao10, co10, eo10⟩ := Kd.R_slice HO221.out; subst eo10) | (go_at_call 96; (with_reducible refine (damsonref04_Check.calls k _ _ y219 t222 _ ?side1 ?side2 A4.out).mono ?_); (case side1 => exact Kd.CN (Kd.R_reads' HO221.out).2.2); (case side2 => exact (Kd.R_reads' HO221.out).2.1); rintro e w' ⟨rfl, ⟨nd, rfl⟩⟩; (try first | exact ⟨rfl, _, World.drewN_drewN _ _ _⟩ | exact ⟨rfl, _, Eq.trans (World.drewN_drewN _ _ _) (congrArg (World.drewN _) (Nat.add_assoc _ _ _))⟩); obtain ⟨hcz11_0, hcz11_1, hcz11_2, hcz11_3, hcz11_4, hcz11_5, hcz11_6, hfz11_0, hfz11_1, hfz11_2, hfz11_3, hfz11_4, hfz11_5, hfz11_6⟩ := cz7_ (w := w8) BK218.out))
    repeat (go_quiet (first | ((with_reducible refine gate_dst (N := 13) rfl ?_); (try (refine gate_guard (by rfl) ?_; dsimp only)); refine Kd.R_lit (Kd.int .u64) _ 22 ?hg (N := 13) ?hd (xs := ([a0_3, a0_4] : List Int)) (inner := [.int .u64 a0_3, .int .u64 a0_4]) (ok := fun _ => True) (okp := fun _ => True) ?hr ?hp (fun _ hk => hk) trivial (Below.refl _ _) (Nat.le_refl _) (by simp) ?_; (case hd => rfl); (case hg => rfl); (case hr => first | (go_simp; done) | (go_simp; rfl)); (case hp => exact (Reps.one (show Kd.M (Kd.int .u64) _ _ _ a0_3 [.int .u64 a0_3] from rfl) (Reps.one (show Kd.M (Kd.int .u64) _ _ _ a0_4 [.int .u64 a0_4] from rfl) (Reps.none _ _)))); intro v220 w8 ho9 hb hg_ hnew_; clear hg_ hnew_; (first | rw [← Ny219.out] at ho9 | (simp only [Int.reduceToNat] at ho9; rw [← Ny219.out] at ho9)); have n0_ := Aside0.mk (Kd.R_lower ho9 (below_size (belN HB))); have n1_ := Aside0.mk (blk_below (g := gb218) (blkN BK218) hb); have n2_ := Aside0.mk (below_step (belN HB) hb); clear BK218; clear HB; have HO221 := n0_; have BK218 := n1_; have HB := n2_; clear n0_ n1_ n2_; clear hb ho9; obtain ⟨Ao10, co10, eo10⟩ := Kd.R_slice HO221.out; subst eo10) | (go_at_call 96; (with_reducible refine (damsonref04_Check.calls k _ _ y219 t222 _ ?side1 ?side2 A4.out).mono ?_); (case side1 => exact Kd.CN (Kd.R_reads' HO221.out).2.2); (case side2 => exact (Kd.R_reads' HO221.out).2.1); rintro e w' ⟨rfl, ⟨nd, rfl⟩⟩; (try first | exact ⟨rfl, _, World.drewN_drewN _ _ _⟩ | exact ⟨rfl, _, Eq.trans (World.drewN_drewN _ _ _) (congrArg (World.drewN _) (Nat.add_assoc _ _ _))⟩); obtain ⟨hcz11_0, hcz11_1, hcz11_2, hcz11_3, hcz11_4, hcz11_5, hcz11_6, hfz11_0, hfz11_1, hfz11_2, hfz11_3, hfz11_4, hfz11_5, hfz11_6⟩ := cz7_ (w := w8) BK218.out)); try go_wp2_with (first | ((with_reducible refine gate_dst (N := 13) rfl ?_); (try (refine gate_guard (by rfl) ?_; dsimp only)); refine Kd.R_lit (Kd.int .u64) _ 22 ?hg (N := 13) ?hd (xs := ([a0_3, a0_4] : List Int)) (inner := [.int .u64 a0_3, .int .u64 a0_4]) (ok := fun _ => True) (okp := fun _ => True) ?hr ?hp (fun _ hk => hk) trivial (Below.refl _ _) (Nat.le_refl _) (by simp) ?_; (case hd => rfl); (case hg => rfl); (case hr => first | (go_simp; done) | (go_simp; rfl)); (case hp => exact (Reps.one (show Kd.M (Kd.int .u64) _ _ _ a0_3 [.int .u64 a0_3] from rfl) (Reps.one (show Kd.M (Kd.int .u64) _ _ _ a0_4 [.int .u64 a0_4] from rfl) (Reps.none _ _)))); intro v220 w8 ho9 hb hg_ hnew_; clear hg_ hnew_; (first | rw [← Ny219.out] at ho9 | (simp only [Int.reduceToNat] at ho9; rw [← Ny219.out] at ho9)); have n0_ := Aside0.mk (Kd.R_lower ho9 (below_size (belN HB))); have n1_ := Aside0.mk (blk_below (g := gb218) (blkN BK218) hb); have n2_ := Aside0.mk (below_step (belN HB) hb); clear BK218; clear HB; have HO221 := n0_; have BK218 := n1_; have HB := n2_; clear n0_ n1_ n2_; clear hb ho9; obtain ⟨Ao10, co10, eo10⟩ := Kd.R_slice HO221.out; subst eo10) | (go_at_call 96; (with_reducible refine (damsonref04_Check.calls k _ _ y219 t222 _ ?side1 ?side2 A4.out).mono ?_); (case side1 => exact Kd.CN (Kd.R_reads' HO221.out).2.2); (case side2 => exact (Kd.R_reads' HO221.out).2.1); rintro e w' ⟨rfl, ⟨nd, rfl⟩⟩; (try first | exact ⟨rfl, _, World.drewN_drewN _ _ _⟩ | exact ⟨rfl, _, Eq.trans (World.drewN_drewN _ _ _) (congrArg (World.drewN _) (Nat.add_assoc _ _ _))⟩); obtain ⟨hcz11_0, hcz11_1, hcz11_2, hcz11_3, hcz11_4, hcz11_5, hcz11_6, hfz11_0, hfz11_1, hfz11_2, hfz11_3, hfz11_4, hfz11_5, hfz11_6⟩ := cz7_ (w := w8) BK218.out)))
    go_meet
    case rel => exact ⟨_, (true), (by first | rfl | (simp; done) | (simp [*]; done)), H', ⟨by first | omega | exact Nat.le_refl _⟩, ⟨by (with_reducible repeat (first | refine blk_drewN ?_ _ | refine blk_drew ?_ | refine blk_alloc ?_ _)); exact BK218.out⟩, ⟨by repeat (first | (with_reducible first | exact HB.out | apply below_alloc | apply pw_below_drewN | apply below_drew1 | refine below_set ?_ GE218.out) | exact HB.out)⟩⟩
   ·rw [if_neg c6] at H
    have c6b0 : decide (64 < (l0_5.length : Int)) = false := decide_eq_false c6
    have c6b1 : decide (64 < l0_5.length) = false := decide_eq_false (by omega)
    clear c6
    by_cases c12 : a0_6 = true
    ·subst c12
     have H1 : (damsonref09_Check.j0 k false a0_0 a0_1 a0_2 a0_3 a0_4 l0_5 true) = some r := by rw [if_pos rfl] at H; exact H
     clear H
     have H := H1
     clear H1
     have H' := Aside0.mk H
     clear H
     obtain ⟨hcz13_0, hcz13_1, hcz13_2, hcz13_3, hcz13_4, hcz13_5, hcz13_6, hfz13_0, hfz13_1, hfz13_2, hfz13_3, hfz13_4, hfz13_5, hfz13_6⟩ := cz7_ (w := w3) BK218.out
     go_wp2_with (first | ((with_reducible refine gate_dst (N := 13) rfl ?_); (try (refine gate_guard (by rfl) ?_; dsimp only)); refine Kd.R_lit (Kd.int .u64) _ 22 ?hg (N := 13) ?hd (xs := ([a0_3, a0_4] : List Int)) (inner := [.int .u64 a0_3, .int .u64 a0_4]) (ok := fun _ => True) (okp := fun _ => True) ?hr ?hp (fun _ hk => hk) trivial (Below.refl _ _) (Nat.le_refl _) (by simp) ?_; (case hd => rfl); (case hg => rfl); (case hr => first | (go_simp; done) | (go_simp; rfl)); (case hp => exact (Reps.one (show Kd.M (Kd.int .u64) _ _ _ a0_3 [.int .u64 a0_3] from rfl) (Reps.one (show Kd.M (Kd.int .u64) _ _ _ a0_4 [.int .u64 a0_4] from rfl) (Reps.none _ _)))); intro v220 w14 ho15 hb hg_ hnew_; clear hg_ hnew_; (first | rw [← Ny219.out] at ho15 | (simp only [Int.reduceToNat] at ho15; rw [← Ny219.out] at ho15)); have n0_ := Aside0.mk (Kd.R_lower ho15 (below_size (belN HB))); have n1_ := Aside0.mk (blk_below (g := gb218) (blkN BK218) hb); have n2_ := Aside0.mk (below_step (belN HB) hb); clear BK218; clear HB; have HO221 := n0_; have BK218 := n1_; have HB := n2_; clear n0_ n1_ n2_; clear hb ho15; obtain ⟨Ao16, co16, eo16⟩ := Kd.R_slice HO221.out; subst eo16) | (go_at_call 96; (with_reducible refine (damsonref04_Check.calls k _ _ y219 t222 _ ?side1 ?side2 A4.out).mono ?_); (case side1 => exact Kd.CN (Kd.R_reads' HO221.out).2.2); (case side2 => exact (Kd.R_reads' HO221.out).2.1); rintro e w' ⟨rfl, ⟨nd, rfl⟩⟩; (try first | exact ⟨rfl, _, World.drewN_drewN _ _ _⟩ | exact ⟨rfl, _, Eq.trans (World.drewN_drewN _ _ _) (congrArg (World.drewN _) (Nat.add_assoc _ _ _))⟩); obtain ⟨hcz17_0, hcz17_1, hcz17_2, hcz17_3, hcz17_4, hcz17_5, hcz17_6, hfz17_0, hfz17_1, hfz17_2, hfz17_3, hfz17_4, hfz17_5, hfz17_6⟩ := cz7_ (w := w14) BK218.out))
     repeat (go_quiet (first | ((with_reducible refine gate_dst (N := 13) rfl ?_); (try (refine gate_guard (by rfl) ?_; dsimp only)); refine Kd.R_lit (Kd.int .u64) _ 22 ?hg (N := 13) ?hd (xs := ([a0_3, a0_4] : List Int)) (inner := [.int .u64 a0_3, .int .u64 a0_4]) (ok := fun _ => True) (okp := fun _ => True) ?hr ?hp (fun _ hk => hk) trivial (Below.refl _ _) (Nat.le_refl _) (by simp) ?_; (case hd => rfl); (case hg => rfl); (case hr => first | (go_simp; done) | (go_simp; rfl)); (case hp => exact (Reps.one (show Kd.M (Kd.int .u64) _ _ _ a0_3 [.int .u64 a0_3] from rfl) (Reps.one (show Kd.M (Kd.int .u64) _ _ _ a0_4 [.int .u64 a0_4] from rfl) (Reps.none _ _)))); intro v220 w14 ho15 hb hg_ hnew_; clear hg_ hnew_; (first | rw [← Ny219.out] at ho15 | (simp only [Int.reduceToNat] at ho15; rw [← Ny219.out] at ho15)); have n0_ := Aside0.mk (Kd.R_lower ho15 (below_size (belN HB))); have n1_ := Aside0.mk (blk_below (g := gb218) (blkN BK218) hb); have n2_ := Aside0.mk (below_step (belN HB) hb); clear BK218; clear HB; have HO221 := n0_; have BK218 := n1_; have HB := n2_; clear n0_ n1_ n2_; clear hb ho15; obtain ⟨Ao16, co16, eo16⟩ := Kd.R_slice HO221.out; subst eo16) | (go_at_call 96; (with_reducible refine (damsonref04_Check.calls k _ _ y219 t222 _ ?side1 ?side2 A4.out).mono ?_); (case side1 => exact Kd.CN (Kd.R_reads' HO221.out).2.2); (case side2 => exact (Kd.R_reads' HO221.out).2.1); rintro e w' ⟨rfl, ⟨nd, rfl⟩⟩; (try first | exact ⟨rfl, _, World.drewN_drewN _ _ _⟩ | exact ⟨rfl, _, Eq.trans (World.drewN_drewN _ _ _) (congrArg (World.drewN _) (Nat.add_assoc _ _ _))⟩); obtain ⟨hcz17_0, hcz17_1, hcz17_2, hcz17_3, hcz17_4, hcz17_5, hcz17_6, hfz17_0, hfz17_1, hfz17_2, hfz17_3, hfz17_4, hfz17_5, hfz17_6⟩ := cz7_ (w := w14) BK218.out)); try go_wp2_with (first | ((with_reducible refine gate_dst (N := 13) rfl ?_); (try (refine gate_guard (by rfl) ?_; dsimp only)); refine Kd.R_lit (Kd.int .u64) _ 22 ?hg (N := 13) ?hd (xs := ([a0_3, a0_4] : List Int)) (inner := [.int .u64 a0_3, .int .u64 a0_4]) (ok := fun _ => True) (okp := fun _ => True) ?hr ?hp (fun _ hk => hk) trivial (Below.refl _ _) (Nat.le_refl _) (by simp) ?_; (case hd => rfl); (case hg => rfl); (case hr => first | (go_simp; done) | (go_simp; rfl)); (case hp => exact (Reps.one (show Kd.M (Kd.int .u64) _ _ _ a0_3 [.int .u64 a0_3] from rfl) (Reps.one (show Kd.M (Kd.int .u64) _ _ _ a0_4 [.int .u64 a0_4] from rfl) (Reps.none _ _)))); intro v220 w14 ho15 hb hg_ hnew_; clear hg_ hnew_; (first | rw [← Ny219.out] at ho15 | (simp only [Int.reduceToNat] at ho15; rw [← Ny219.out] at ho15)); have n0_ := Aside0.mk (Kd.R_lower ho15 (below_size (belN HB))); have n1_ := Aside0.mk (blk_below (g := gb218) (blkN BK218) hb); have n2_ := Aside0.mk (below_step (belN HB) hb); clear BK218; clear HB; have HO221 := n0_; have BK218 := n1_; have HB := n2_; clear n0_ n1_ n2_; clear hb ho15; obtain ⟨Ao16, co16, eo16⟩ := Kd.R_slice HO221.out; subst eo16) | (go_at_call 96; (with_reducible refine (damsonref04_Check.calls k _ _ y219 t222 _ ?side1 ?side2 A4.out).mono ?_); (case side1 => exact Kd.CN (Kd.R_reads' HO221.out).2.2); (case side2 => exact (Kd.R_reads' HO221.out).2.1); rintro e w' ⟨rfl, ⟨nd, rfl⟩⟩; (try first | exact ⟨rfl, _, World.drewN_drewN _ _ _⟩ | exact ⟨rfl, _, Eq.trans (World.drewN_drewN _ _ _) (congrArg (World.drewN _) (Nat.add_assoc _ _ _))⟩); obtain ⟨hcz17_0, hcz17_1, hcz17_2, hcz17_3, hcz17_4, hcz17_5, hcz17_6, hfz17_0, hfz17_1, hfz17_2, hfz17_3, hfz17_4, hfz17_5, hfz17_6⟩ := cz7_ (w := w14) BK218.out)))
     go_meet
     case rel => exact ⟨_, (false), (by first | rfl | (simp; done) | (simp [*]; done)), H', ⟨by first | omega | exact Nat.le_refl _⟩, ⟨by (with_reducible repeat (first | refine blk_drewN ?_ _ | refine blk_drew ?_ | refine blk_alloc ?_ _)); exact BK218.out⟩, ⟨by repeat (first | (with_reducible first | exact HB.out | apply below_alloc | apply pw_below_drewN | apply below_drew1 | refine below_set ?_ GE218.out) | exact HB.out)⟩⟩
    ·replace c12 := Bool.eq_false_iff.mpr c12
     subst c12
     have H1 : (damsonref09_Check.j0 k (decide ((l0_5.length : Int) > 0)) a0_0 a0_1 a0_2 a0_3 a0_4 l0_5 false) = some r := by rw [if_neg (show ¬ (false = true) by decide)] at H; exact H
     clear H
     have H := H1
     clear H1
     have H' := Aside0.mk H
     clear H
     obtain ⟨hcz18_0, hcz18_1, hcz18_2, hcz18_3, hcz18_4, hcz18_5, hcz18_6, hfz18_0, hfz18_1, hfz18_2, hfz18_3, hfz18_4, hfz18_5, hfz18_6⟩ := cz7_ (w := w3) BK218.out
     go_wp2_with (first | ((with_reducible refine gate_dst (N := 13) rfl ?_); (try (refine gate_guard (by rfl) ?_; dsimp only)); refine Kd.R_lit (Kd.int .u64) _ 22 ?hg (N := 13) ?hd (xs := ([a0_3, a0_4] : List Int)) (inner := [.int .u64 a0_3, .int .u64 a0_4]) (ok := fun _ => True) (okp := fun _ => True) ?hr ?hp (fun _ hk => hk) trivial (Below.refl _ _) (Nat.le_refl _) (by simp) ?_; (case hd => rfl); (case hg => rfl); (case hr => first | (go_simp; done) | (go_simp; rfl)); (case hp => exact (Reps.one (show Kd.M (Kd.int .u64) _ _ _ a0_3 [.int .u64 a0_3] from rfl) (Reps.one (show Kd.M (Kd.int .u64) _ _ _ a0_4 [.int .u64 a0_4] from rfl) (Reps.none _ _)))); intro v220 w19 ho20 hb hg_ hnew_; clear hg_ hnew_; (first | rw [← Ny219.out] at ho20 | (simp only [Int.reduceToNat] at ho20; rw [← Ny219.out] at ho20)); have n0_ := Aside0.mk (Kd.R_lower ho20 (below_size (belN HB))); have n1_ := Aside0.mk (blk_below (g := gb218) (blkN BK218) hb); have n2_ := Aside0.mk (below_step (belN HB) hb); clear BK218; clear HB; have HO221 := n0_; have BK218 := n1_; have HB := n2_; clear n0_ n1_ n2_; clear hb ho20; obtain ⟨Ao21, co21, eo21⟩ := Kd.R_slice HO221.out; subst eo21) | (go_at_call 96; (with_reducible refine (damsonref04_Check.calls k _ _ y219 t222 _ ?side1 ?side2 A4.out).mono ?_); (case side1 => exact Kd.CN (Kd.R_reads' HO221.out).2.2); (case side2 => exact (Kd.R_reads' HO221.out).2.1); rintro e w' ⟨rfl, ⟨nd, rfl⟩⟩; (try first | exact ⟨rfl, _, World.drewN_drewN _ _ _⟩ | exact ⟨rfl, _, Eq.trans (World.drewN_drewN _ _ _) (congrArg (World.drewN _) (Nat.add_assoc _ _ _))⟩); obtain ⟨hcz22_0, hcz22_1, hcz22_2, hcz22_3, hcz22_4, hcz22_5, hcz22_6, hfz22_0, hfz22_1, hfz22_2, hfz22_3, hfz22_4, hfz22_5, hfz22_6⟩ := cz7_ (w := w19) BK218.out))
     repeat (go_quiet (first | ((with_reducible refine gate_dst (N := 13) rfl ?_); (try (refine gate_guard (by rfl) ?_; dsimp only)); refine Kd.R_lit (Kd.int .u64) _ 22 ?hg (N := 13) ?hd (xs := ([a0_3, a0_4] : List Int)) (inner := [.int .u64 a0_3, .int .u64 a0_4]) (ok := fun _ => True) (okp := fun _ => True) ?hr ?hp (fun _ hk => hk) trivial (Below.refl _ _) (Nat.le_refl _) (by simp) ?_; (case hd => rfl); (case hg => rfl); (case hr => first | (go_simp; done) | (go_simp; rfl)); (case hp => exact (Reps.one (show Kd.M (Kd.int .u64) _ _ _ a0_3 [.int .u64 a0_3] from rfl) (Reps.one (show Kd.M (Kd.int .u64) _ _ _ a0_4 [.int .u64 a0_4] from rfl) (Reps.none _ _)))); intro v220 w19 ho20 hb hg_ hnew_; clear hg_ hnew_; (first | rw [← Ny219.out] at ho20 | (simp only [Int.reduceToNat] at ho20; rw [← Ny219.out] at ho20)); have n0_ := Aside0.mk (Kd.R_lower ho20 (below_size (belN HB))); have n1_ := Aside0.mk (blk_below (g := gb218) (blkN BK218) hb); have n2_ := Aside0.mk (below_step (belN HB) hb); clear BK218; clear HB; have HO221 := n0_; have BK218 := n1_; have HB := n2_; clear n0_ n1_ n2_; clear hb ho20; obtain ⟨Ao21, co21, eo21⟩ := Kd.R_slice HO221.out; subst eo21) | (go_at_call 96; (with_reducible refine (damsonref04_Check.calls k _ _ y219 t222 _ ?side1 ?side2 A4.out).mono ?_); (case side1 => exact Kd.CN (Kd.R_reads' HO221.out).2.2); (case side2 => exact (Kd.R_reads' HO221.out).2.1); rintro e w' ⟨rfl, ⟨nd, rfl⟩⟩; (try first | exact ⟨rfl, _, World.drewN_drewN _ _ _⟩ | exact ⟨rfl, _, Eq.trans (World.drewN_drewN _ _ _) (congrArg (World.drewN _) (Nat.add_assoc _ _ _))⟩); obtain ⟨hcz22_0, hcz22_1, hcz22_2, hcz22_3, hcz22_4, hcz22_5, hcz22_6, hfz22_0, hfz22_1, hfz22_2, hfz22_3, hfz22_4, hfz22_5, hfz22_6⟩ := cz7_ (w := w19) BK218.out)); try go_wp2_with (first | ((with_reducible refine gate_dst (N := 13) rfl ?_); (try (refine gate_guard (by rfl) ?_; dsimp only)); refine Kd.R_lit (Kd.int .u64) _ 22 ?hg (N := 13) ?hd (xs := ([a0_3, a0_4] : List Int)) (inner := [.int .u64 a0_3, .int .u64 a0_4]) (ok := fun _ => True) (okp := fun _ => True) ?hr ?hp (fun _ hk => hk) trivial (Below.refl _ _) (Nat.le_refl _) (by simp) ?_; (case hd => rfl); (case hg => rfl); (case hr => first | (go_simp; done) | (go_simp; rfl)); (case hp => exact (Reps.one (show Kd.M (Kd.int .u64) _ _ _ a0_3 [.int .u64 a0_3] from rfl) (Reps.one (show Kd.M (Kd.int .u64) _ _ _ a0_4 [.int .u64 a0_4] from rfl) (Reps.none _ _)))); intro v220 w19 ho20 hb hg_ hnew_; clear hg_ hnew_; (first | rw [← Ny219.out] at ho20 | (simp only [Int.reduceToNat] at ho20; rw [← Ny219.out] at ho20)); have n0_ := Aside0.mk (Kd.R_lower ho20 (below_size (belN HB))); have n1_ := Aside0.mk (blk_below (g := gb218) (blkN BK218) hb); have n2_ := Aside0.mk (below_step (belN HB) hb); clear BK218; clear HB; have HO221 := n0_; have BK218 := n1_; have HB := n2_; clear n0_ n1_ n2_; clear hb ho20; obtain ⟨Ao21, co21, eo21⟩ := Kd.R_slice HO221.out; subst eo21) | (go_at_call 96; (with_reducible refine (damsonref04_Check.calls k _ _ y219 t222 _ ?side1 ?side2 A4.out).mono ?_); (case side1 => exact Kd.CN (Kd.R_reads' HO221.out).2.2); (case side2 => exact (Kd.R_reads' HO221.out).2.1); rintro e w' ⟨rfl, ⟨nd, rfl⟩⟩; (try first | exact ⟨rfl, _, World.drewN_drewN _ _ _⟩ | exact ⟨rfl, _, Eq.trans (World.drewN_drewN _ _ _) (congrArg (World.drewN _) (Nat.add_assoc _ _ _))⟩); obtain ⟨hcz22_0, hcz22_1, hcz22_2, hcz22_3, hcz22_4, hcz22_5, hcz22_6, hfz22_0, hfz22_1, hfz22_2, hfz22_3, hfz22_4, hfz22_5, hfz22_6⟩ := cz7_ (w := w19) BK218.out)))
     go_meet
     case rel => exact ⟨_, (decide ((l0_5.length : Int) > 0)), (by first | rfl | (simp; done) | (simp [*]; done)), H', ⟨by first | omega | exact Nat.le_refl _⟩, ⟨by (with_reducible repeat (first | refine blk_drewN ?_ _ | refine blk_drew ?_ | refine blk_alloc ?_ _)); exact BK218.out⟩, ⟨by repeat (first | (with_reducible first | exact HB.out | apply below_alloc | apply pw_below_drewN | apply below_drew1 | refine below_set ?_ GE218.out) | exact HB.out)⟩⟩
  ·rw [if_neg c5] at H
   have c5b0 : (t222 == 0) = false := beq_eq_false_iff_ne.mpr c5
   have c5b1 : (t222 != 0) = true := bne_iff_ne.mpr c5
   (first | rw [c5b0] | (simp only [i64_w, i32_w]; rw [c5b0]) | skip)
   have H' := Aside0.mk H
   clear H
   obtain ⟨hcz23_0, hcz23_1, hcz23_2, hcz23_3, hcz23_4, hcz23_5, hcz23_6, hfz23_0, hfz23_1, hfz23_2, hfz23_3, hfz23_4, hfz23_5, hfz23_6⟩ := cz7_ (w := w3) BK218.out
   go_wp2_with (first | ((with_reducible refine gate_dst (N := 13) rfl ?_); (try (refine gate_guard (by rfl) ?_; dsimp only)); refine Kd.R_lit (Kd.int .u64) _ 22 ?hg (N := 13) ?hd (xs := ([a0_3, a0_4] : List Int)) (inner := [.int .u64 a0_3, .int .u64 a0_4]) (ok := fun _ => True) (okp := fun _ => True) ?hr ?hp (fun _ hk => hk) trivial (Below.refl _ _) (Nat.le_refl _) (by simp) ?_; (case hd => rfl); (case hg => rfl); (case hr => first | (go_simp; done) | (go_simp; rfl)); (case hp => exact (Reps.one (show Kd.M (Kd.int .u64) _ _ _ a0_3 [.int .u64 a0_3] from rfl) (Reps.one (show Kd.M (Kd.int .u64) _ _ _ a0_4 [.int .u64 a0_4] from rfl) (Reps.none _ _)))); intro v220 w24 ho25 hb hg_ hnew_; clear hg_ hnew_; (first | rw [← Ny219.out] at ho25 | (simp only [Int.reduceToNat] at ho25; rw [← Ny219.out] at ho25)); have n0_ := Aside0.mk (Kd.R_lower ho25 (below_size (belN HB))); have n1_ := Aside0.mk (blk_below (g := gb218) (blkN BK218) hb); have n2_ := Aside0.mk (below_step (belN HB) hb); clear BK218; clear HB; have HO221 := n0_; have BK218 := n1_; have HB := n2_; clear n0_ n1_ n2_; clear hb ho25; obtain ⟨Ao26, co26, eo26⟩ := Kd.R_slice HO221.out; subst eo26) | (go_at_call 96; (with_reducible refine (damsonref04_Check.calls k _ _ y219 t222 _ ?side1 ?side2 A4.out).mono ?_); (case side1 => exact Kd.CN (Kd.R_reads' HO221.out).2.2); (case side2 => exact (Kd.R_reads' HO221.out).2.1); rintro e w' ⟨rfl, ⟨nd, rfl⟩⟩; (try first | exact ⟨rfl, _, World.drewN_drewN _ _ _⟩ | exact ⟨rfl, _, Eq.trans (World.drewN_drewN _ _ _) (congrArg (World.drewN _) (Nat.add_assoc _ _ _))⟩)))
   repeat (go_quiet (first | ((with_reducible refine gate_dst (N := 13) rfl ?_); (try (refine gate_guard (by rfl) ?_; dsimp only)); refine Kd.R_lit (Kd.int .u64) _ 22 ?hg (N := 13) ?hd (xs := ([a0_3, a0_4] : List Int)) (inner := [.int .u64 a0_3, .int .u64 a0_4]) (ok := fun _ => True) (okp := fun _ => True) ?hr ?hp (fun _ hk => hk) trivial (Below.refl _ _) (Nat.le_refl _) (by simp) ?_; (case hd => rfl); (case hg => rfl); (case hr => first | (go_simp; done) | (go_simp; rfl)); (case hp => exact (Reps.one (show Kd.M (Kd.int .u64) _ _ _ a0_3 [.int .u64 a0_3] from rfl) (Reps.one (show Kd.M (Kd.int .u64) _ _ _ a0_4 [.int .u64 a0_4] from rfl) (Reps.none _ _)))); intro v220 w24 ho25 hb hg_ hnew_; clear hg_ hnew_; (first | rw [← Ny219.out] at ho25 | (simp only [Int.reduceToNat] at ho25; rw [← Ny219.out] at ho25)); have n0_ := Aside0.mk (Kd.R_lower ho25 (below_size (belN HB))); have n1_ := Aside0.mk (blk_below (g := gb218) (blkN BK218) hb); have n2_ := Aside0.mk (below_step (belN HB) hb); clear BK218; clear HB; have HO221 := n0_; have BK218 := n1_; have HB := n2_; clear n0_ n1_ n2_; clear hb ho25; obtain ⟨Ao26, co26, eo26⟩ := Kd.R_slice HO221.out; subst eo26) | (go_at_call 96; (with_reducible refine (damsonref04_Check.calls k _ _ y219 t222 _ ?side1 ?side2 A4.out).mono ?_); (case side1 => exact Kd.CN (Kd.R_reads' HO221.out).2.2); (case side2 => exact (Kd.R_reads' HO221.out).2.1); rintro e w' ⟨rfl, ⟨nd, rfl⟩⟩; (try first | exact ⟨rfl, _, World.drewN_drewN _ _ _⟩ | exact ⟨rfl, _, Eq.trans (World.drewN_drewN _ _ _) (congrArg (World.drewN _) (Nat.add_assoc _ _ _))⟩))); try go_wp2_with (first | ((with_reducible refine gate_dst (N := 13) rfl ?_); (try (refine gate_guard (by rfl) ?_; dsimp only)); refine Kd.R_lit (Kd.int .u64) _ 22 ?hg (N := 13) ?hd (xs := ([a0_3, a0_4] : List Int)) (inner := [.int .u64 a0_3, .int .u64 a0_4]) (ok := fun _ => True) (okp := fun _ => True) ?hr ?hp (fun _ hk => hk) trivial (Below.refl _ _) (Nat.le_refl _) (by simp) ?_; (case hd => rfl); (case hg => rfl); (case hr => first | (go_simp; done) | (go_simp; rfl)); (case hp => exact (Reps.one (show Kd.M (Kd.int .u64) _ _ _ a0_3 [.int .u64 a0_3] from rfl) (Reps.one (show Kd.M (Kd.int .u64) _ _ _ a0_4 [.int .u64 a0_4] from rfl) (Reps.none _ _)))); intro v220 w24 ho25 hb hg_ hnew_; clear hg_ hnew_; (first | rw [← Ny219.out] at ho25 | (simp only [Int.reduceToNat] at ho25; rw [← Ny219.out] at ho25)); have n0_ := Aside0.mk (Kd.R_lower ho25 (below_size (belN HB))); have n1_ := Aside0.mk (blk_below (g := gb218) (blkN BK218) hb); have n2_ := Aside0.mk (below_step (belN HB) hb); clear BK218; clear HB; have HO221 := n0_; have BK218 := n1_; have HB := n2_; clear n0_ n1_ n2_; clear hb ho25; obtain ⟨Ao26, co26, eo26⟩ := Kd.R_slice HO221.out; subst eo26) | (go_at_call 96; (with_reducible refine (damsonref04_Check.calls k _ _ y219 t222 _ ?side1 ?side2 A4.out).mono ?_); (case side1 => exact Kd.CN (Kd.R_reads' HO221.out).2.2); (case side2 => exact (Kd.R_reads' HO221.out).2.1); rintro e w' ⟨rfl, ⟨nd, rfl⟩⟩; (try first | exact ⟨rfl, _, World.drewN_drewN _ _ _⟩ | exact ⟨rfl, _, Eq.trans (World.drewN_drewN _ _ _) (congrArg (World.drewN _) (Nat.add_assoc _ _ _))⟩))))
   go_meet
   case rel => exact ⟨_, (true), (by first | rfl | (simp; done) | (simp [*]; done)), H', ⟨by first | omega | exact Nat.le_refl _⟩, ⟨by (with_reducible repeat (first | refine blk_drewN ?_ _ | refine blk_drew ?_ | refine blk_alloc ?_ _)); exact BK218.out⟩, ⟨by repeat (first | (with_reducible first | exact HB.out | apply below_alloc | apply pw_below_drewN | apply below_drew1 | refine below_set ?_ GE218.out) | exact HB.out)⟩⟩
 case rest =>
  clear HC2
  try clear c1
  try clear p2
  try clear c3
  try clear c5
  try clear c5b0
  try clear c5b1
  try clear c6
  try clear c6b0
  try clear c6b1
  try clear c12
  try clear hcz11_0
  try clear hcz11_1
  try clear hcz11_2
  try clear hcz11_3
  try clear hcz11_4
  try clear hcz11_5
  try clear hcz11_6
  try clear hcz13_0
  try clear hcz13_1
  try clear hcz13_2
  try clear hcz13_3
  try clear hcz13_4
  try clear hcz13_5
  try clear hcz13_6
  try clear hcz17_0
  try clear hcz17_1
  try clear hcz17_2
  try clear hcz17_3
  try clear hcz17_4
  try clear hcz17_5
  try clear hcz17_6
  try clear hcz18_0
  try clear hcz18_1
  try clear hcz18_2
  try clear hcz18_3
  try clear hcz18_4
  try clear hcz18_5
  try clear hcz18_6
  try clear hcz22_0
  try clear hcz22_1
  try clear hcz22_2
  try clear hcz22_3
  try clear hcz22_4
  try clear hcz22_5
  try clear hcz22_6
  try clear hcz23_0
  try clear hcz23_1
  try clear hcz23_2
  try clear hcz23_3
  try clear hcz23_4
  try clear hcz23_5
  try clear hcz23_6
  try clear hcz7_0
  try clear hcz7_1
  try clear hcz7_2
  try clear hcz7_3
  try clear hcz7_4
  try clear hcz7_5
  try clear hcz7_6
  try clear hfz11_0
  try clear hfz11_1
  try clear hfz11_2
  try clear hfz11_3
  try clear hfz11_4
  try clear hfz11_5
  try clear hfz11_6
  try clear hfz13_0
  try clear hfz13_1
  try clear hfz13_2
  try clear hfz13_3
  try clear hfz13_4
  try clear hfz13_5
  try clear hfz13_6
  try clear hfz17_0
  try clear hfz17_1
  try clear hfz17_2
  try clear hfz17_3
  try clear hfz17_4
  try clear hfz17_5
  try clear hfz17_6
  try clear hfz18_0
  try clear hfz18_1
  try clear hfz18_2
  try clear hfz18_3
  try clear hfz18_4
  try clear hfz18_5
  try clear hfz18_6
  try clear hfz22_0
  try clear hfz22_1
  try clear hfz22_2
  try clear hfz22_3
  try clear hfz22_4
  try clear hfz22_5
  try clear hfz22_6
  try clear hfz23_0
  try clear hfz23_1
  try clear hfz23_2
  try clear hfz23_3
  try clear hfz23_4
  try clear hfz23_5
  try clear hfz23_6
  try clear hfz7_0
  try clear hfz7_1
  try clear hfz7_2
  try clear hfz7_3
  try clear hfz7_4
  try clear hfz7_5
  try clear hfz7_6
  obtain ⟨kq, x32_1, rfl, HA, HJ1, BK218, HB⟩ := hcut
  cases kq with
  | zero => exact absurd HA.out (by simp [damsonref09_Check.j0])
  | succ kj1 =>
   have H := HA.out
   clear HA
   simp only [damsonref09_Check.j0] at H
   by_cases c27 : x32_1 = true
   ·subst c27
    have H1 : (some 1) = some r := by rw [if_pos rfl] at H; exact H
    clear H
    have H := H1
    clear H1
    obtain rfl := Option.some.inj H
    go_wp2
    repeat (go_quiet (fail); try go_wp2)
    go_ret
    exact ⟨by first | rfl | (simp [errW_none, errW_some] <;> rfl) | (simp [*, errW_none, errW_some] <;> rfl), by repeat (first | (with_reducible first | exact HB.out | apply below_alloc | apply pw_below_drewN | apply below_drew1 | refine below_set ?_ GE218.out) | exact HB.out)⟩
   ·replace c27 := Bool.eq_false_iff.mpr c27
    subst c27
    have H1 : (damsonref09_Check.l0 kj1 l0_5 (l0_5.length : Int) 0 a0_0 a0_1 a0_2 a0_3 a0_4 l0_5 a0_6) = some r := by rw [if_neg (show ¬ (false = true) by decide)] at H; exact H
    clear H
    have H := H1
    clear H1
    have H' := Aside0.mk H
    clear H
    obtain ⟨hcz28_0, hcz28_1, hcz28_2, hcz28_3, hcz28_4, hcz28_5, hcz28_6, hfz28_0, hfz28_1, hfz28_2, hfz28_3, hfz28_4, hfz28_5, hfz28_6⟩ := cz7_ (w := wc) BK218.out
    go_wp2
    repeat (go_quiet (fail); try go_wp2)
    go_loopg [36] kj1 (fun kq v36 w' => ∃ (x36_2 : Int), v36 = .int .i64 x36_2 ∧ Aside0 (damsonref09_Check.l0 kq l0_5 (l0_5.length : Int) x36_2 a0_0 a0_1 a0_2 a0_3 a0_4 l0_5 a0_6 = some r) ∧ Aside0 (kq ≤ kj1) ∧ Aside0 (w'.heap[gb218]? = some (.cells #[.int .u64 a0_0, .int .u64 a0_1, .int .u64 a0_2, .int .u64 a0_3, .int .u64 a0_4, (.slice A0_5 l0_5.length c0_5), .bool a0_6] 25 (0, 0))) ∧ Aside0 (Below w.heap.size w w'))
    case atStart => exact ⟨(0), (by first | rfl | (simp; done) | (simp [*]; done)), H', ⟨Nat.le_refl _⟩, ⟨by (with_reducible repeat (first | refine blk_drewN ?_ _ | refine blk_drew ?_ | refine blk_alloc ?_ _)); exact BK218.out⟩, ⟨by repeat (first | (with_reducible first | exact HB.out | apply below_alloc | apply pw_below_drewN | apply below_drew1 | refine below_set ?_ GE218.out) | exact HB.out)⟩⟩
    case round =>
     clear H'
     try clear c1
     try clear c2
     try clear p2
     try clear c3
     try clear c5
     try clear c5b0
     try clear c5b1
     try clear c6
     try clear c6b0
     try clear c6b1
     try clear c12
     try clear c27
     try clear hcz11_0
     try clear hcz11_1
     try clear hcz11_2
     try clear hcz11_3
     try clear hcz11_4
     try clear hcz11_5
     try clear hcz11_6
     try clear hcz13_0
     try clear hcz13_1
     try clear hcz13_2
     try clear hcz13_3
     try clear hcz13_4
     try clear hcz13_5
     try clear hcz13_6
     try clear hcz17_0
     try clear hcz17_1
     try clear hcz17_2
     try clear hcz17_3
     try clear hcz17_4
     try clear hcz17_5
     try clear hcz17_6
     try clear hcz18_0
     try clear hcz18_1
     try clear hcz18_2
     try clear hcz18_3
     try clear hcz18_4
     try clear hcz18_5
     try clear hcz18_6
     try clear hcz22_0
     try clear hcz22_1
     try clear hcz22_2
     try clear hcz22_3
     try clear hcz22_4
     try clear hcz22_5
     try clear hcz22_6
     try clear hcz23_0
     try clear hcz23_1
     try clear hcz23_2
     try clear hcz23_3
     try clear hcz23_4
     try clear hcz23_5
     try clear hcz23_6
     try clear hcz28_0
     try clear hcz28_1
     try clear hcz28_2
     try clear hcz28_3
     try clear hcz28_4
     try clear hcz28_5
     try clear hcz28_6
     try clear hcz7_0
     try clear hcz7_1
     try clear hcz7_2
     try clear hcz7_3
     try clear hcz7_4
     try clear hcz7_5
     try clear hcz7_6
     try clear hfz11_0
     try clear hfz11_1
     try clear hfz11_2
     try clear hfz11_3
     try clear hfz11_4
     try clear hfz11_5
     try clear hfz11_6
     try clear hfz13_0
     try clear hfz13_1
     try clear hfz13_2
     try clear hfz13_3
     try clear hfz13_4
     try clear hfz13_5
     try clear hfz13_6
     try clear hfz17_0
     try clear hfz17_1
     try clear hfz17_2
     try clear hfz17_3
     try clear hfz17_4
     try clear hfz17_5
     try clear hfz17_6
     try clear hfz18_0
     try clear hfz18_1
     try clear hfz18_2
     try clear hfz18_3
     try clear hfz18_4
     try clear hfz18_5
     try clear hfz18_6
     try clear hfz22_0
     try clear hfz22_1
     try clear hfz22_2
     try clear hfz22_3
     try clear hfz22_4
     try clear hfz22_5
     try clear hfz22_6
     try clear hfz23_0
     try clear hfz23_1
     try clear hfz23_2
     try clear hfz23_3
     try clear hfz23_4
     try clear hfz23_5
     try clear hfz23_6
     try clear hfz28_0
     try clear hfz28_1
     try clear hfz28_2
     try clear hfz28_3
     try clear hfz28_4
     try clear hfz28_5
     try clear hfz28_6
     try clear hfz7_0
     try clear hfz7_1
     try clear hfz7_2
     try clear hfz7_3
     try clear hfz7_4
     try clear hfz7_5
     try clear hfz7_6
     try clear p2
     obtain ⟨x36_2, rfl, HA, HK2, BK218, HB⟩ := hrel
     cases gk with
     | zero => exact absurd HA.out (by simp [damsonref09_Check.l0])
     | succ k2 =>
      have H := HA.out
      clear HA
      simp only [damsonref09_Check.l0] at H
      by_cases c29 : x36_2 < (l0_5.length : Int)
      ·rw [if_pos c29] at H
       have c29b0 : decide (x36_2 < (l0_5.length : Int)) = true := decide_eq_true c29
       clear c29
       by_cases c30 : 0 ≤ x36_2
       ·rw [if_pos c30] at H
        have c30b0 : decide (0 ≤ x36_2) = true := decide_eq_true c30
        clear c30
        by_cases c31 : x36_2 < (l0_5.length : Int)
        ·rw [if_pos c31] at H
         have c31b0 : decide (x36_2 < (l0_5.length : Int)) = true := decide_eq_true c31
         clear c31
         by_cases c32 : ((rd_T44 l0_5 x36_2).f1) = 0
         ·rw [if_pos c32] at H
          have c32b0 : (((rd_T44 l0_5 x36_2).f1) == 0) = true := beq_iff_eq.mpr c32
          have c32b1 : (((rd_T44 l0_5 x36_2).f1) != 0) = false := bne_eq_false_iff_eq.mpr c32
          clear c32
          obtain rfl := Option.some.inj H
          have p223 : 0 ≤ (x36_2 : Int) := of_decide_eq_true (by first | (with_reducible assumption) | assumption)
          have q223 : x36_2 < (l0_5.length : Int) := of_decide_eq_true (by first | (with_reducible assumption) | assumption)
          obtain ⟨ad223, e223, hx223_0, hx223_1⟩ := at_T44 HR0_5.out x36_2 p223 q223
          cases e223
          replace hx223_0 := (HB.out.cell (World.block_lt_of_cell? w _ hx223_0)).trans hx223_0
          replace hx223_1 := (HB.out.cell (World.block_lt_of_cell? w _ hx223_1)).trans hx223_1
          replace p223 := eq_true p223
          replace q223 := eq_true q223
          go_wp2_with (first | ((with_reducible refine gate_dst (N := 4) rfl ?_); (try (refine gate_guard (by rfl) ?_; dsimp only)); refine box_event ?hg (N := 4) ?hd (cs := #[.int .u64 0, .int .u64 0]) (t := 44) ?hr ?_; (case hd => rfl); (case hg => rfl); (case hr => first | (go_simp; done) | (go_simp; rfl)); intro gb224 hg w33 hbox hb; have n0_ := Aside0.mk (blk_below (g := gb218) (blkN BK218) hb); have n1_ := Aside0.mk (below_step (belN HB) hb); have n2_ := Aside0.mk (hbox); have n3_ := Aside0.mk ((by rw [hg]; exact (below_size (belN HB)) : w.heap.size ≤ gb224)); have n4_ := Aside0.mk ((by rw [hg]; exact (below_size (belN HB)) : w.heap.size ≤ gb224)); have n5_ := Aside0.mk ((by rw [hg]; exact Nat.ne_of_lt (blk_lt (g := gb218) (blkN BK218)) : gb218 ≠ gb224)); have n6_ := Aside0.mk ((by rw [hg]; exact Nat.ne_of_gt (blk_lt (g := gb218) (blkN BK218)) : gb224 ≠ gb218)); clear BK218; clear HB; have BK218 := n0_; have HB := n1_; have BK224 := n2_; have GW224 := n3_; have GE224 := n4_; have NB218_224 := n5_; have NB224_218 := n6_; clear n0_ n1_ n2_ n3_ n4_ n5_ n6_; clear hb hbox hg; have hnb34 := NB224_218.out; have hnc34 := NB218_224.out; obtain ⟨hcz35_0, hcz35_1, hfz35_0, hfz35_1⟩ := cz2_ (w := w33) BK224.out))
          repeat (go_quiet (first | ((with_reducible refine gate_dst (N := 4) rfl ?_); (try (refine gate_guard (by rfl) ?_; dsimp only)); refine box_event ?hg (N := 4) ?hd (cs := #[.int .u64 0, .int .u64 0]) (t := 44) ?hr ?_; (case hd => rfl); (case hg => rfl); (case hr => first | (go_simp; done) | (go_simp; rfl)); intro gb224 hg w33 hbox hb; have n0_ := Aside0.mk (blk_below (g := gb218) (blkN BK218) hb); have n1_ := Aside0.mk (below_step (belN HB) hb); have n2_ := Aside0.mk (hbox); have n3_ := Aside0.mk ((by rw [hg]; exact (below_size (belN HB)) : w.heap.size ≤ gb224)); have n4_ := Aside0.mk ((by rw [hg]; exact (below_size (belN HB)) : w.heap.size ≤ gb224)); have n5_ := Aside0.mk ((by rw [hg]; exact Nat.ne_of_lt (blk_lt (g := gb218) (blkN BK218)) : gb218 ≠ gb224)); have n6_ := Aside0.mk ((by rw [hg]; exact Nat.ne_of_gt (blk_lt (g := gb218) (blkN BK218)) : gb224 ≠ gb218)); clear BK218; clear HB; have BK218 := n0_; have HB := n1_; have BK224 := n2_; have GW224 := n3_; have GE224 := n4_; have NB218_224 := n5_; have NB224_218 := n6_; clear n0_ n1_ n2_ n3_ n4_ n5_ n6_; clear hb hbox hg; have hnb34 := NB224_218.out; have hnc34 := NB218_224.out; obtain ⟨hcz35_0, hcz35_1, hfz35_0, hfz35_1⟩ := cz2_ (w := w33) BK224.out)); try go_wp2_with (first | ((with_reducible refine gate_dst (N := 4) rfl ?_); (try (refine gate_guard (by rfl) ?_; dsimp only)); refine box_event ?hg (N := 4) ?hd (cs := #[.int .u64 0, .int .u64 0]) (t := 44) ?hr ?_; (case hd => rfl); (case hg => rfl); (case hr => first | (go_simp; done) | (go_simp; rfl)); intro gb224 hg w33 hbox hb; have n0_ := Aside0.mk (blk_below (g := gb218) (blkN BK218) hb); have n1_ := Aside0.mk (below_step (belN HB) hb); have n2_ := Aside0.mk (hbox); have n3_ := Aside0.mk ((by rw [hg]; exact (below_size (belN HB)) : w.heap.size ≤ gb224)); have n4_ := Aside0.mk ((by rw [hg]; exact (below_size (belN HB)) : w.heap.size ≤ gb224)); have n5_ := Aside0.mk ((by rw [hg]; exact Nat.ne_of_lt (blk_lt (g := gb218) (blkN BK218)) : gb218 ≠ gb224)); have n6_ := Aside0.mk ((by rw [hg]; exact Nat.ne_of_gt (blk_lt (g := gb218) (blkN BK218)) : gb224 ≠ gb218)); clear BK218; clear HB; have BK218 := n0_; have HB := n1_; have BK224 := n2_; have GW224 := n3_; have GE224 := n4_; have NB218_224 := n5_; have NB224_218 := n6_; clear n0_ n1_ n2_ n3_ n4_ n5_ n6_; clear hb hbox hg; have hnb34 := NB224_218.out; have hnc34 := NB218_224.out; obtain ⟨hcz35_0, hcz35_1, hfz35_0, hfz35_1⟩ := cz2_ (w := w33) BK224.out)))
          go_ret
          exact ⟨by first | rfl | (simp [errW_none, errW_some] <;> rfl) | (simp [*, errW_none, errW_some] <;> rfl), by repeat (first | (with_reducible first | exact HB.out | apply below_alloc | apply pw_below_drewN | apply below_drew1 | refine below_set ?_ GE218.out | refine below_set ?_ GE224.out) | exact HB.out)⟩
         ·rw [if_neg c32] at H
          have c32b0 : (((rd_T44 l0_5 x36_2).f1) == 0) = false := beq_eq_false_iff_ne.mpr c32
          have c32b1 : (((rd_T44 l0_5 x36_2).f1) != 0) = true := bne_iff_ne.mpr c32
          by_cases c36 : x36_2 > 0
          ·rw [if_pos c36] at H
           have c36b0 : decide (0 < x36_2) = true := decide_eq_true c36
           clear c36
           obtain ⟨ji37, hji37⟩ : ∃ j_ : Int, (wrap64 (x36_2 - 1)) = j_ := ⟨_, rfl⟩
           replace H : (if 0 ≤ (ji37) then (if (ji37) < (l0_5.length : Int) then (if ((rd_T44 l0_5 (ji37)).f0) ≥ ((rd_T44 l0_5 x36_2).f0) then (some 1) else (damsonref09_Check.l0 k2 l0_5 (l0_5.length : Int) (wrap64 (x36_2 + 1)) a0_0 a0_1 a0_2 a0_3 a0_4 l0_5 a0_6)) else (none)) else (none)) = some r := by first | (rw [hji37] at H; exact H) | (simp only [hji37] at H ⊢; exact H)
           have hji37w : (IntKind.i64.wrap (x36_2 - 1)) = ji37 := (i64_w _).trans hji37
           by_cases c38 : 0 ≤ (ji37)
           ·rw [if_pos c38] at H
            have c38b0 : decide (0 ≤ (ji37)) = true := decide_eq_true c38
            clear c38
            by_cases c39 : (ji37) < (l0_5.length : Int)
            ·rw [if_pos c39] at H
             have c39b0 : decide ((ji37) < (l0_5.length : Int)) = true := decide_eq_true c39
             clear c39
             by_cases c40 : ((rd_T44 l0_5 (ji37)).f0) ≥ ((rd_T44 l0_5 x36_2).f0)
             ·rw [if_pos c40] at H
              have c40b0 : decide (((rd_T44 l0_5 x36_2).f0) ≤ ((rd_T44 l0_5 (ji37)).f0)) = true := decide_eq_true c40
              clear c40
              obtain rfl := Option.some.inj H
              have p223 : 0 ≤ (x36_2 : Int) := of_decide_eq_true (by first | (with_reducible assumption) | assumption)
              have q223 : x36_2 < (l0_5.length : Int) := of_decide_eq_true (by first | (with_reducible assumption) | assumption)
              obtain ⟨ad223, e223, hx223_0, hx223_1⟩ := at_T44 HR0_5.out x36_2 p223 q223
              cases e223
              replace hx223_0 := (HB.out.cell (World.block_lt_of_cell? w _ hx223_0)).trans hx223_0
              replace hx223_1 := (HB.out.cell (World.block_lt_of_cell? w _ hx223_1)).trans hx223_1
              replace p223 := eq_true p223
              replace q223 := eq_true q223
              go_wp2_with (first | ((with_reducible refine gate_dst (N := 4) rfl ?_); (try (refine gate_guard (by rfl) ?_; dsimp only)); refine box_event ?hg (N := 4) ?hd (cs := #[.int .u64 0, .int .u64 0]) (t := 44) ?hr ?_; (case hd => rfl); (case hg => rfl); (case hr => first | (go_simp; done) | (go_simp; rfl)); intro gb224 hg w41 hbox hb; have n0_ := Aside0.mk (blk_below (g := gb218) (blkN BK218) hb); have n1_ := Aside0.mk (below_step (belN HB) hb); have n2_ := Aside0.mk (hbox); have n3_ := Aside0.mk ((by rw [hg]; exact (below_size (belN HB)) : w.heap.size ≤ gb224)); have n4_ := Aside0.mk ((by rw [hg]; exact (below_size (belN HB)) : w.heap.size ≤ gb224)); have n5_ := Aside0.mk ((by rw [hg]; exact Nat.ne_of_lt (blk_lt (g := gb218) (blkN BK218)) : gb218 ≠ gb224)); have n6_ := Aside0.mk ((by rw [hg]; exact Nat.ne_of_gt (blk_lt (g := gb218) (blkN BK218)) : gb224 ≠ gb218)); clear BK218; clear HB; have BK218 := n0_; have HB := n1_; have BK224 := n2_; have GW224 := n3_; have GE224 := n4_; have NB218_224 := n5_; have NB224_218 := n6_; clear n0_ n1_ n2_ n3_ n4_ n5_ n6_; clear hb hbox hg; have hnb42 := NB224_218.out; have hnc42 := NB218_224.out; obtain ⟨hcz43_0, hcz43_1, hfz43_0, hfz43_1⟩ := cz2_ (w := w41) BK224.out; obtain ⟨hcz44_0, hcz44_1, hcz44_2, hcz44_3, hcz44_4, hcz44_5, hcz44_6, hfz44_0, hfz44_1, hfz44_2, hfz44_3, hfz44_4, hfz44_5, hfz44_6⟩ := cz7_ (w := w41) BK218.out; have p225 : 0 ≤ ((ji37) : Int) := of_decide_eq_true (by first | (with_reducible assumption) | assumption); have q225 : (ji37) < (l0_5.length : Int) := of_decide_eq_true (by first | (with_reducible assumption) | assumption); obtain ⟨ad225, e225, hx225_0, hx225_1⟩ := at_T44 HR0_5.out (ji37) p225 q225; obtain rfl : ad223 = ad225 := (by injection e225); have hn225_0 : ad223.block ≠ gb224 := Nat.ne_of_lt (Nat.lt_of_lt_of_le (by have := World.block_lt_of_cell? _ _ hx225_0; first | rwa [add_block] at this | exact this) GW224.out); have hn225_1 : ad223.block ≠ gb224 := Nat.ne_of_lt (Nat.lt_of_lt_of_le (by have := World.block_lt_of_cell? _ _ hx225_0; first | rwa [add_block] at this | exact this) GW224.out); replace hx225_0 := (HB.out.cell (World.block_lt_of_cell? w _ hx225_0)).trans hx225_0; replace hx225_1 := (HB.out.cell (World.block_lt_of_cell? w _ hx225_1)).trans hx225_1; replace hx225_0 := (cell_far (p := ⟨gb224, 0, none⟩) (by first | (rw [add_block]; exact hn225_0) | (show (Addr.add _ _).block ≠ _; rw [add_block]; exact hn225_0) | exact hn225_0) (.int .u64 ((rd_T44 l0_5 x36_2).f0))).trans hx225_0; replace hx225_1 := (cell_far (p := ⟨gb224, 0, none⟩) (by first | (rw [add_block]; exact hn225_0) | (show (Addr.add _ _).block ≠ _; rw [add_block]; exact hn225_0) | exact hn225_0) (.int .u64 ((rd_T44 l0_5 x36_2).f0))).trans hx225_1; replace hx225_0 := (cell_far (p := ⟨gb224, 1, none⟩) (by first | (rw [add_block]; exact hn225_1) | (show (Addr.add _ _).block ≠ _; rw [add_block]; exact hn225_1) | exact hn225_1) (.int .u64 ((rd_T44 l0_5 x36_2).f1))).trans hx225_0; replace hx225_1 := (cell_far (p := ⟨gb224, 1, none⟩) (by first | (rw [add_block]; exact hn225_1) | (show (Addr.add _ _).block ≠ _; rw [add_block]; exact hn225_1) | exact hn225_1) (.int .u64 ((rd_T44 l0_5 x36_2).f1))).trans hx225_1; (try have hy225_0 := fun (n_ : Nat) => (show ((((w41.drewN n_).setCell ⟨gb224, 0, none⟩ (.int .u64 ((rd_T44 l0_5 x36_2).f0))).setCell ⟨gb224, 1, none⟩ (.int .u64 ((rd_T44 l0_5 x36_2).f1)))).cell? _ = some _ from hx225_0)); (try have hy225_1 := fun (n_ : Nat) => (show ((((w41.drewN n_).setCell ⟨gb224, 0, none⟩ (.int .u64 ((rd_T44 l0_5 x36_2).f0))).setCell ⟨gb224, 1, none⟩ (.int .u64 ((rd_T44 l0_5 x36_2).f1)))).cell? _ = some _ from hx225_1)); clear hn225_0; clear hn225_1; replace p225 := eq_true p225; replace q225 := eq_true q225))
              repeat (go_quiet (first | ((with_reducible refine gate_dst (N := 4) rfl ?_); (try (refine gate_guard (by rfl) ?_; dsimp only)); refine box_event ?hg (N := 4) ?hd (cs := #[.int .u64 0, .int .u64 0]) (t := 44) ?hr ?_; (case hd => rfl); (case hg => rfl); (case hr => first | (go_simp; done) | (go_simp; rfl)); intro gb224 hg w41 hbox hb; have n0_ := Aside0.mk (blk_below (g := gb218) (blkN BK218) hb); have n1_ := Aside0.mk (below_step (belN HB) hb); have n2_ := Aside0.mk (hbox); have n3_ := Aside0.mk ((by rw [hg]; exact (below_size (belN HB)) : w.heap.size ≤ gb224)); have n4_ := Aside0.mk ((by rw [hg]; exact (below_size (belN HB)) : w.heap.size ≤ gb224)); have n5_ := Aside0.mk ((by rw [hg]; exact Nat.ne_of_lt (blk_lt (g := gb218) (blkN BK218)) : gb218 ≠ gb224)); have n6_ := Aside0.mk ((by rw [hg]; exact Nat.ne_of_gt (blk_lt (g := gb218) (blkN BK218)) : gb224 ≠ gb218)); clear BK218; clear HB; have BK218 := n0_; have HB := n1_; have BK224 := n2_; have GW224 := n3_; have GE224 := n4_; have NB218_224 := n5_; have NB224_218 := n6_; clear n0_ n1_ n2_ n3_ n4_ n5_ n6_; clear hb hbox hg; have hnb42 := NB224_218.out; have hnc42 := NB218_224.out; obtain ⟨hcz43_0, hcz43_1, hfz43_0, hfz43_1⟩ := cz2_ (w := w41) BK224.out; obtain ⟨hcz44_0, hcz44_1, hcz44_2, hcz44_3, hcz44_4, hcz44_5, hcz44_6, hfz44_0, hfz44_1, hfz44_2, hfz44_3, hfz44_4, hfz44_5, hfz44_6⟩ := cz7_ (w := w41) BK218.out; have p225 : 0 ≤ ((ji37) : Int) := of_decide_eq_true (by first | (with_reducible assumption) | assumption); have q225 : (ji37) < (l0_5.length : Int) := of_decide_eq_true (by first | (with_reducible assumption) | assumption); obtain ⟨ad225, e225, hx225_0, hx225_1⟩ := at_T44 HR0_5.out (ji37) p225 q225; obtain rfl : ad223 = ad225 := (by injection e225); have hn225_0 : ad223.block ≠ gb224 := Nat.ne_of_lt (Nat.lt_of_lt_of_le (by have := World.block_lt_of_cell? _ _ hx225_0; first | rwa [add_block] at this | exact this) GW224.out); have hn225_1 : ad223.block ≠ gb224 := Nat.ne_of_lt (Nat.lt_of_lt_of_le (by have := World.block_lt_of_cell? _ _ hx225_0; first | rwa [add_block] at this | exact this) GW224.out); replace hx225_0 := (HB.out.cell (World.block_lt_of_cell? w _ hx225_0)).trans hx225_0; replace hx225_1 := (HB.out.cell (World.block_lt_of_cell? w _ hx225_1)).trans hx225_1; replace hx225_0 := (cell_far (p := ⟨gb224, 0, none⟩) (by first | (rw [add_block]; exact hn225_0) | (show (Addr.add _ _).block ≠ _; rw [add_block]; exact hn225_0) | exact hn225_0) (.int .u64 ((rd_T44 l0_5 x36_2).f0))).trans hx225_0; replace hx225_1 := (cell_far (p := ⟨gb224, 0, none⟩) (by first | (rw [add_block]; exact hn225_0) | (show (Addr.add _ _).block ≠ _; rw [add_block]; exact hn225_0) | exact hn225_0) (.int .u64 ((rd_T44 l0_5 x36_2).f0))).trans hx225_1; replace hx225_0 := (cell_far (p := ⟨gb224, 1, none⟩) (by first | (rw [add_block]; exact hn225_1) | (show (Addr.add _ _).block ≠ _; rw [add_block]; exact hn225_1) | exact hn225_1) (.int .u64 ((rd_T44 l0_5 x36_2).f1))).trans hx225_0; replace hx225_1 := (cell_far (p := ⟨gb224, 1, none⟩) (by first | (rw [add_block]; exact hn225_1) | (show (Addr.add _ _).block ≠ _; rw [add_block]; exact hn225_1) | exact hn225_1) (.int .u64 ((rd_T44 l0_5 x36_2).f1))).trans hx225_1; (try have hy225_0 := fun (n_ : Nat) => (show ((((w41.drewN n_).setCell ⟨gb224, 0, none⟩ (.int .u64 ((rd_T44 l0_5 x36_2).f0))).setCell ⟨gb224, 1, none⟩ (.int .u64 ((rd_T44 l0_5 x36_2).f1)))).cell? _ = some _ from hx225_0)); (try have hy225_1 := fun (n_ : Nat) => (show ((((w41.drewN n_).setCell ⟨gb224, 0, none⟩ (.int .u64 ((rd_T44 l0_5 x36_2).f0))).setCell ⟨gb224, 1, none⟩ (.int .u64 ((rd_T44 l0_5 x36_2).f1)))).cell? _ = some _ from hx225_1)); clear hn225_0; clear hn225_1; replace p225 := eq_true p225; replace q225 := eq_true q225)); try go_wp2_with (first | ((with_reducible refine gate_dst (N := 4) rfl ?_); (try (refine gate_guard (by rfl) ?_; dsimp only)); refine box_event ?hg (N := 4) ?hd (cs := #[.int .u64 0, .int .u64 0]) (t := 44) ?hr ?_; (case hd => rfl); (case hg => rfl); (case hr => first | (go_simp; done) | (go_simp; rfl)); intro gb224 hg w41 hbox hb; have n0_ := Aside0.mk (blk_below (g := gb218) (blkN BK218) hb); have n1_ := Aside0.mk (below_step (belN HB) hb); have n2_ := Aside0.mk (hbox); have n3_ := Aside0.mk ((by rw [hg]; exact (below_size (belN HB)) : w.heap.size ≤ gb224)); have n4_ := Aside0.mk ((by rw [hg]; exact (below_size (belN HB)) : w.heap.size ≤ gb224)); have n5_ := Aside0.mk ((by rw [hg]; exact Nat.ne_of_lt (blk_lt (g := gb218) (blkN BK218)) : gb218 ≠ gb224)); have n6_ := Aside0.mk ((by rw [hg]; exact Nat.ne_of_gt (blk_lt (g := gb218) (blkN BK218)) : gb224 ≠ gb218)); clear BK218; clear HB; have BK218 := n0_; have HB := n1_; have BK224 := n2_; have GW224 := n3_; have GE224 := n4_; have NB218_224 := n5_; have NB224_218 := n6_; clear n0_ n1_ n2_ n3_ n4_ n5_ n6_; clear hb hbox hg; have hnb42 := NB224_218.out; have hnc42 := NB218_224.out; obtain ⟨hcz43_0, hcz43_1, hfz43_0, hfz43_1⟩ := cz2_ (w := w41) BK224.out; obtain ⟨hcz44_0, hcz44_1, hcz44_2, hcz44_3, hcz44_4, hcz44_5, hcz44_6, hfz44_0, hfz44_1, hfz44_2, hfz44_3, hfz44_4, hfz44_5, hfz44_6⟩ := cz7_ (w := w41) BK218.out; have p225 : 0 ≤ ((ji37) : Int) := of_decide_eq_true (by first | (with_reducible assumption) | assumption); have q225 : (ji37) < (l0_5.length : Int) := of_decide_eq_true (by first | (with_reducible assumption) | assumption); obtain ⟨ad225, e225, hx225_0, hx225_1⟩ := at_T44 HR0_5.out (ji37) p225 q225; obtain rfl : ad223 = ad225 := (by injection e225); have hn225_0 : ad223.block ≠ gb224 := Nat.ne_of_lt (Nat.lt_of_lt_of_le (by have := World.block_lt_of_cell? _ _ hx225_0; first | rwa [add_block] at this | exact this) GW224.out); have hn225_1 : ad223.block ≠ gb224 := Nat.ne_of_lt (Nat.lt_of_lt_of_le (by have := World.block_lt_of_cell? _ _ hx225_0; first | rwa [add_block] at this | exact this) GW224.out); replace hx225_0 := (HB.out.cell (World.block_lt_of_cell? w _ hx225_0)).trans hx225_0; replace hx225_1 := (HB.out.cell (World.block_lt_of_cell? w _ hx225_1)).trans hx225_1; replace hx225_0 := (cell_far (p := ⟨gb224, 0, none⟩) (by first | (rw [add_block]; exact hn225_0) | (show (Addr.add _ _).block ≠ _; rw [add_block]; exact hn225_0) | exact hn225_0) (.int .u64 ((rd_T44 l0_5 x36_2).f0))).trans hx225_0; replace hx225_1 := (cell_far (p := ⟨gb224, 0, none⟩) (by first | (rw [add_block]; exact hn225_0) | (show (Addr.add _ _).block ≠ _; rw [add_block]; exact hn225_0) | exact hn225_0) (.int .u64 ((rd_T44 l0_5 x36_2).f0))).trans hx225_1; replace hx225_0 := (cell_far (p := ⟨gb224, 1, none⟩) (by first | (rw [add_block]; exact hn225_1) | (show (Addr.add _ _).block ≠ _; rw [add_block]; exact hn225_1) | exact hn225_1) (.int .u64 ((rd_T44 l0_5 x36_2).f1))).trans hx225_0; replace hx225_1 := (cell_far (p := ⟨gb224, 1, none⟩) (by first | (rw [add_block]; exact hn225_1) | (show (Addr.add _ _).block ≠ _; rw [add_block]; exact hn225_1) | exact hn225_1) (.int .u64 ((rd_T44 l0_5 x36_2).f1))).trans hx225_1; (try have hy225_0 := fun (n_ : Nat) => (show ((((w41.drewN n_).setCell ⟨gb224, 0, none⟩ (.int .u64 ((rd_T44 l0_5 x36_2).f0))).setCell ⟨gb224, 1, none⟩ (.int .u64 ((rd_T44 l0_5 x36_2).f1)))).cell? _ = some _ from hx225_0)); (try have hy225_1 := fun (n_ : Nat) => (show ((((w41.drewN n_).setCell ⟨gb224, 0, none⟩ (.int .u64 ((rd_T44 l0_5 x36_2).f0))).setCell ⟨gb224, 1, none⟩ (.int .u64 ((rd_T44 l0_5 x36_2).f1)))).cell? _ = some _ from hx225_1)); clear hn225_0; clear hn225_1; replace p225 := eq_true p225; replace q225 := eq_true q225)))
              go_ret
              exact ⟨by first | rfl | (simp [errW_none, errW_some] <;> rfl) | (simp only [← hji37]; first | rfl | (simp [errW_none, errW_some] <;> rfl)) | (simp [*, errW_none, errW_some] <;> rfl), by repeat (first | (with_reducible first | exact HB.out | apply below_alloc | apply pw_below_drewN | apply below_drew1 | refine below_set ?_ GE218.out | refine below_set ?_ GE224.out) | exact HB.out)⟩
             ·rw [if_neg c40] at H
              have c40b0 : decide (((rd_T44 l0_5 x36_2).f0) ≤ ((rd_T44 l0_5 (ji37)).f0)) = false := decide_eq_false c40
              clear c40
              have H' := Aside0.mk H
              clear H
              have p223 : 0 ≤ (x36_2 : Int) := of_decide_eq_true (by first | (with_reducible assumption) | assumption)
              have q223 : x36_2 < (l0_5.length : Int) := of_decide_eq_true (by first | (with_reducible assumption) | assumption)
              obtain ⟨ad223, e223, hx223_0, hx223_1⟩ := at_T44 HR0_5.out x36_2 p223 q223
              cases e223
              replace hx223_0 := (HB.out.cell (World.block_lt_of_cell? w _ hx223_0)).trans hx223_0
              replace hx223_1 := (HB.out.cell (World.block_lt_of_cell? w _ hx223_1)).trans hx223_1
              replace p223 := eq_true p223
              replace q223 := eq_true q223
              go_wp2_with (first | ((with_reducible refine gate_dst (N := 4) rfl ?_); (try (refine gate_guard (by rfl) ?_; dsimp only)); refine box_event ?hg (N := 4) ?hd (cs := #[.int .u64 0, .int .u64 0]) (t := 44) ?hr ?_; (case hd => rfl); (case hg => rfl); (case hr => first | (go_simp; done) | (go_simp; rfl)); intro gb224 hg w45 hbox hb; have n0_ := Aside0.mk (blk_below (g := gb218) (blkN BK218) hb); have n1_ := Aside0.mk (below_step (belN HB) hb); have n2_ := Aside0.mk (hbox); have n3_ := Aside0.mk ((by rw [hg]; exact (below_size (belN HB)) : w.heap.size ≤ gb224)); have n4_ := Aside0.mk ((by rw [hg]; exact (below_size (belN HB)) : w.heap.size ≤ gb224)); have n5_ := Aside0.mk ((by rw [hg]; exact Nat.ne_of_lt (blk_lt (g := gb218) (blkN BK218)) : gb218 ≠ gb224)); have n6_ := Aside0.mk ((by rw [hg]; exact Nat.ne_of_gt (blk_lt (g := gb218) (blkN BK218)) : gb224 ≠ gb218)); clear BK218; clear HB; have BK218 := n0_; have HB := n1_; have BK224 := n2_; have GW224 := n3_; have GE224 := n4_; have NB218_224 := n5_; have NB224_218 := n6_; clear n0_ n1_ n2_ n3_ n4_ n5_ n6_; clear hb hbox hg; have hnb46 := NB224_218.out; have hnc46 := NB218_224.out; obtain ⟨hcz47_0, hcz47_1, hfz47_0, hfz47_1⟩ := cz2_ (w := w45) BK224.out; obtain ⟨hcz48_0, hcz48_1, hcz48_2, hcz48_3, hcz48_4, hcz48_5, hcz48_6, hfz48_0, hfz48_1, hfz48_2, hfz48_3, hfz48_4, hfz48_5, hfz48_6⟩ := cz7_ (w := w45) BK218.out; have p225 : 0 ≤ ((ji37) : Int) := of_decide_eq_true (by first | (with_reducible assumption) | assumption); have q225 : (ji37) < (l0_5.length : Int) := of_decide_eq_true (by first | (with_reducible assumption) | assumption); obtain ⟨ad225, e225, hx225_0, hx225_1⟩ := at_T44 HR0_5.out (ji37) p225 q225; obtain rfl : ad223 = ad225 := (by injection e225); have hn225_0 : ad223.block ≠ gb224 := Nat.ne_of_lt (Nat.lt_of_lt_of_le (by have := World.block_lt_of_cell? _ _ hx225_0; first | rwa [add_block] at this | exact this) GW224.out); have hn225_1 : ad223.block ≠ gb224 := Nat.ne_of_lt (Nat.lt_of_lt_of_le (by have := World.block_lt_of_cell? _ _ hx225_0; first | rwa [add_block] at this | exact this) GW224.out); replace hx225_0 := (HB.out.cell (World.block_lt_of_cell? w _ hx225_0)).trans hx225_0; replace hx225_1 := (HB.out.cell (World.block_lt_of_cell? w _ hx225_1)).trans hx225_1; replace hx225_0 := (cell_far (p := ⟨gb224, 0, none⟩) (by first | (rw [add_block]; exact hn225_0) | (show (Addr.add _ _).block ≠ _; rw [add_block]; exact hn225_0) | exact hn225_0) (.int .u64 ((rd_T44 l0_5 x36_2).f0))).trans hx225_0; replace hx225_1 := (cell_far (p := ⟨gb224, 0, none⟩) (by first | (rw [add_block]; exact hn225_0) | (show (Addr.add _ _).block ≠ _; rw [add_block]; exact hn225_0) | exact hn225_0) (.int .u64 ((rd_T44 l0_5 x36_2).f0))).trans hx225_1; replace hx225_0 := (cell_far (p := ⟨gb224, 1, none⟩) (by first | (rw [add_block]; exact hn225_1) | (show (Addr.add _ _).block ≠ _; rw [add_block]; exact hn225_1) | exact hn225_1) (.int .u64 ((rd_T44 l0_5 x36_2).f1))).trans hx225_0; replace hx225_1 := (cell_far (p := ⟨gb224, 1, none⟩) (by first | (rw [add_block]; exact hn225_1) | (show (Addr.add _ _).block ≠ _; rw [add_block]; exact hn225_1) | exact hn225_1) (.int .u64 ((rd_T44 l0_5 x36_2).f1))).trans hx225_1; (try have hy225_0 := fun (n_ : Nat) => (show ((((w45.drewN n_).setCell ⟨gb224, 0, none⟩ (.int .u64 ((rd_T44 l0_5 x36_2).f0))).setCell ⟨gb224, 1, none⟩ (.int .u64 ((rd_T44 l0_5 x36_2).f1)))).cell? _ = some _ from hx225_0)); (try have hy225_1 := fun (n_ : Nat) => (show ((((w45.drewN n_).setCell ⟨gb224, 0, none⟩ (.int .u64 ((rd_T44 l0_5 x36_2).f0))).setCell ⟨gb224, 1, none⟩ (.int .u64 ((rd_T44 l0_5 x36_2).f1)))).cell? _ = some _ from hx225_1)); clear hn225_0; clear hn225_1; replace p225 := eq_true p225; replace q225 := eq_true q225))
              repeat (go_quiet (first | ((with_reducible refine gate_dst (N := 4) rfl ?_); (try (refine gate_guard (by rfl) ?_; dsimp only)); refine box_event ?hg (N := 4) ?hd (cs := #[.int .u64 0, .int .u64 0]) (t := 44) ?hr ?_; (case hd => rfl); (case hg => rfl); (case hr => first | (go_simp; done) | (go_simp; rfl)); intro gb224 hg w45 hbox hb; have n0_ := Aside0.mk (blk_below (g := gb218) (blkN BK218) hb); have n1_ := Aside0.mk (below_step (belN HB) hb); have n2_ := Aside0.mk (hbox); have n3_ := Aside0.mk ((by rw [hg]; exact (below_size (belN HB)) : w.heap.size ≤ gb224)); have n4_ := Aside0.mk ((by rw [hg]; exact (below_size (belN HB)) : w.heap.size ≤ gb224)); have n5_ := Aside0.mk ((by rw [hg]; exact Nat.ne_of_lt (blk_lt (g := gb218) (blkN BK218)) : gb218 ≠ gb224)); have n6_ := Aside0.mk ((by rw [hg]; exact Nat.ne_of_gt (blk_lt (g := gb218) (blkN BK218)) : gb224 ≠ gb218)); clear BK218; clear HB; have BK218 := n0_; have HB := n1_; have BK224 := n2_; have GW224 := n3_; have GE224 := n4_; have NB218_224 := n5_; have NB224_218 := n6_; clear n0_ n1_ n2_ n3_ n4_ n5_ n6_; clear hb hbox hg; have hnb46 := NB224_218.out; have hnc46 := NB218_224.out; obtain ⟨hcz47_0, hcz47_1, hfz47_0, hfz47_1⟩ := cz2_ (w := w45) BK224.out; obtain ⟨hcz48_0, hcz48_1, hcz48_2, hcz48_3, hcz48_4, hcz48_5, hcz48_6, hfz48_0, hfz48_1, hfz48_2, hfz48_3, hfz48_4, hfz48_5, hfz48_6⟩ := cz7_ (w := w45) BK218.out; have p225 : 0 ≤ ((ji37) : Int) := of_decide_eq_true (by first | (with_reducible assumption) | assumption); have q225 : (ji37) < (l0_5.length : Int) := of_decide_eq_true (by first | (with_reducible assumption) | assumption); obtain ⟨ad225, e225, hx225_0, hx225_1⟩ := at_T44 HR0_5.out (ji37) p225 q225; obtain rfl : ad223 = ad225 := (by injection e225); have hn225_0 : ad223.block ≠ gb224 := Nat.ne_of_lt (Nat.lt_of_lt_of_le (by have := World.block_lt_of_cell? _ _ hx225_0; first | rwa [add_block] at this | exact this) GW224.out); have hn225_1 : ad223.block ≠ gb224 := Nat.ne_of_lt (Nat.lt_of_lt_of_le (by have := World.block_lt_of_cell? _ _ hx225_0; first | rwa [add_block] at this | exact this) GW224.out); replace hx225_0 := (HB.out.cell (World.block_lt_of_cell? w _ hx225_0)).trans hx225_0; replace hx225_1 := (HB.out.cell (World.block_lt_of_cell? w _ hx225_1)).trans hx225_1; replace hx225_0 := (cell_far (p := ⟨gb224, 0, none⟩) (by first | (rw [add_block]; exact hn225_0) | (show (Addr.add _ _).block ≠ _; rw [add_block]; exact hn225_0) | exact hn225_0) (.int .u64 ((rd_T44 l0_5 x36_2).f0))).trans hx225_0; replace hx225_1 := (cell_far (p := ⟨gb224, 0, none⟩) (by first | (rw [add_block]; exact hn225_0) | (show (Addr.add _ _).block ≠ _; rw [add_block]; exact hn225_0) | exact hn225_0) (.int .u64 ((rd_T44 l0_5 x36_2).f0))).trans hx225_1; replace hx225_0 := (cell_far (p := ⟨gb224, 1, none⟩) (by first | (rw [add_block]; exact hn225_1) | (show (Addr.add _ _).block ≠ _; rw [add_block]; exact hn225_1) | exact hn225_1) (.int .u64 ((rd_T44 l0_5 x36_2).f1))).trans hx225_0; replace hx225_1 := (cell_far (p := ⟨gb224, 1, none⟩) (by first | (rw [add_block]; exact hn225_1) | (show (Addr.add _ _).block ≠ _; rw [add_block]; exact hn225_1) | exact hn225_1) (.int .u64 ((rd_T44 l0_5 x36_2).f1))).trans hx225_1; (try have hy225_0 := fun (n_ : Nat) => (show ((((w45.drewN n_).setCell ⟨gb224, 0, none⟩ (.int .u64 ((rd_T44 l0_5 x36_2).f0))).setCell ⟨gb224, 1, none⟩ (.int .u64 ((rd_T44 l0_5 x36_2).f1)))).cell? _ = some _ from hx225_0)); (try have hy225_1 := fun (n_ : Nat) => (show ((((w45.drewN n_).setCell ⟨gb224, 0, none⟩ (.int .u64 ((rd_T44 l0_5 x36_2).f0))).setCell ⟨gb224, 1, none⟩ (.int .u64 ((rd_T44 l0_5 x36_2).f1)))).cell? _ = some _ from hx225_1)); clear hn225_0; clear hn225_1; replace p225 := eq_true p225; replace q225 := eq_true q225)); try go_wp2_with (first | ((with_reducible refine gate_dst (N := 4) rfl ?_); (try (refine gate_guard (by rfl) ?_; dsimp only)); refine box_event ?hg (N := 4) ?hd (cs := #[.int .u64 0, .int .u64 0]) (t := 44) ?hr ?_; (case hd => rfl); (case hg => rfl); (case hr => first | (go_simp; done) | (go_simp; rfl)); intro gb224 hg w45 hbox hb; have n0_ := Aside0.mk (blk_below (g := gb218) (blkN BK218) hb); have n1_ := Aside0.mk (below_step (belN HB) hb); have n2_ := Aside0.mk (hbox); have n3_ := Aside0.mk ((by rw [hg]; exact (below_size (belN HB)) : w.heap.size ≤ gb224)); have n4_ := Aside0.mk ((by rw [hg]; exact (below_size (belN HB)) : w.heap.size ≤ gb224)); have n5_ := Aside0.mk ((by rw [hg]; exact Nat.ne_of_lt (blk_lt (g := gb218) (blkN BK218)) : gb218 ≠ gb224)); have n6_ := Aside0.mk ((by rw [hg]; exact Nat.ne_of_gt (blk_lt (g := gb218) (blkN BK218)) : gb224 ≠ gb218)); clear BK218; clear HB; have BK218 := n0_; have HB := n1_; have BK224 := n2_; have GW224 := n3_; have GE224 := n4_; have NB218_224 := n5_; have NB224_218 := n6_; clear n0_ n1_ n2_ n3_ n4_ n5_ n6_; clear hb hbox hg; have hnb46 := NB224_218.out; have hnc46 := NB218_224.out; obtain ⟨hcz47_0, hcz47_1, hfz47_0, hfz47_1⟩ := cz2_ (w := w45) BK224.out; obtain ⟨hcz48_0, hcz48_1, hcz48_2, hcz48_3, hcz48_4, hcz48_5, hcz48_6, hfz48_0, hfz48_1, hfz48_2, hfz48_3, hfz48_4, hfz48_5, hfz48_6⟩ := cz7_ (w := w45) BK218.out; have p225 : 0 ≤ ((ji37) : Int) := of_decide_eq_true (by first | (with_reducible assumption) | assumption); have q225 : (ji37) < (l0_5.length : Int) := of_decide_eq_true (by first | (with_reducible assumption) | assumption); obtain ⟨ad225, e225, hx225_0, hx225_1⟩ := at_T44 HR0_5.out (ji37) p225 q225; obtain rfl : ad223 = ad225 := (by injection e225); have hn225_0 : ad223.block ≠ gb224 := Nat.ne_of_lt (Nat.lt_of_lt_of_le (by have := World.block_lt_of_cell? _ _ hx225_0; first | rwa [add_block] at this | exact this) GW224.out); have hn225_1 : ad223.block ≠ gb224 := Nat.ne_of_lt (Nat.lt_of_lt_of_le (by have := World.block_lt_of_cell? _ _ hx225_0; first | rwa [add_block] at this | exact this) GW224.out); replace hx225_0 := (HB.out.cell (World.block_lt_of_cell? w _ hx225_0)).trans hx225_0; replace hx225_1 := (HB.out.cell (World.block_lt_of_cell? w _ hx225_1)).trans hx225_1; replace hx225_0 := (cell_far (p := ⟨gb224, 0, none⟩) (by first | (rw [add_block]; exact hn225_0) | (show (Addr.add _ _).block ≠ _; rw [add_block]; exact hn225_0) | exact hn225_0) (.int .u64 ((rd_T44 l0_5 x36_2).f0))).trans hx225_0; replace hx225_1 := (cell_far (p := ⟨gb224, 0, none⟩) (by first | (rw [add_block]; exact hn225_0) | (show (Addr.add _ _).block ≠ _; rw [add_block]; exact hn225_0) | exact hn225_0) (.int .u64 ((rd_T44 l0_5 x36_2).f0))).trans hx225_1; replace hx225_0 := (cell_far (p := ⟨gb224, 1, none⟩) (by first | (rw [add_block]; exact hn225_1) | (show (Addr.add _ _).block ≠ _; rw [add_block]; exact hn225_1) | exact hn225_1) (.int .u64 ((rd_T44 l0_5 x36_2).f1))).trans hx225_0; replace hx225_1 := (cell_far (p := ⟨gb224, 1, none⟩) (by first | (rw [add_block]; exact hn225_1) | (show (Addr.add _ _).block ≠ _; rw [add_block]; exact hn225_1) | exact hn225_1) (.int .u64 ((rd_T44 l0_5 x36_2).f1))).trans hx225_1; (try have hy225_0 := fun (n_ : Nat) => (show ((((w45.drewN n_).setCell ⟨gb224, 0, none⟩ (.int .u64 ((rd_T44 l0_5 x36_2).f0))).setCell ⟨gb224, 1, none⟩ (.int .u64 ((rd_T44 l0_5 x36_2).f1)))).cell? _ = some _ from hx225_0)); (try have hy225_1 := fun (n_ : Nat) => (show ((((w45.drewN n_).setCell ⟨gb224, 0, none⟩ (.int .u64 ((rd_T44 l0_5 x36_2).f0))).setCell ⟨gb224, 1, none⟩ (.int .u64 ((rd_T44 l0_5 x36_2).f1)))).cell? _ = some _ from hx225_1)); clear hn225_0; clear hn225_1; replace p225 := eq_true p225; replace q225 := eq_true q225)))
              go_roundg k2
              case measure => have := HJ1.out; have := HK2.out; omega
              case rel => exact ⟨(wrap64 (x36_2 + 1)), (by first | rfl | (simp; done) | (simp [*]; done)), H', ⟨by have := HJ1.out; have := HK2.out; omega⟩, ⟨by (with_reducible repeat (first | refine blk_drewN ?_ _ | refine blk_drew ?_ | refine blk_alloc ?_ _)); refine blk_far ?_ NB218_224.out _; (with_reducible repeat (first | refine blk_drewN ?_ _ | refine blk_drew ?_ | refine blk_alloc ?_ _)); refine blk_far ?_ NB218_224.out _; (with_reducible repeat (first | refine blk_drewN ?_ _ | refine blk_drew ?_ | refine blk_alloc ?_ _)); exact BK218.out⟩, ⟨by repeat (first | (with_reducible first | exact HB.out | apply below_alloc | apply pw_below_drewN | apply below_drew1 | refine below_set ?_ GE218.out | refine below_set ?_ GE224.out) | exact HB.out)⟩⟩
            ·rw [if_neg c39] at H
             exact absurd H (by simp)
           ·rw [if_neg c38] at H
            exact absurd H (by simp)
          ·rw [if_neg c36] at H
           have c36b0 : decide (0 < x36_2) = false := decide_eq_false c36
           clear c36
           have H' := Aside0.mk H
           clear H
           have p223 : 0 ≤ (x36_2 : Int) := of_decide_eq_true (by first | (with_reducible assumption) | assumption)
           have q223 : x36_2 < (l0_5.length : Int) := of_decide_eq_true (by first | (with_reducible assumption) | assumption)
           obtain ⟨ad223, e223, hx223_0, hx223_1⟩ := at_T44 HR0_5.out x36_2 p223 q223
           cases e223
           replace hx223_0 := (HB.out.cell (World.block_lt_of_cell? w _ hx223_0)).trans hx223_0
           replace hx223_1 := (HB.out.cell (World.block_lt_of_cell? w _ hx223_1)).trans hx223_1
           replace p223 := eq_true p223
           replace q223 := eq_true q223
           go_wp2_with (first | ((with_reducible refine gate_dst (N := 4) rfl ?_); (try (refine gate_guard (by rfl) ?_; dsimp only)); refine box_event ?hg (N := 4) ?hd (cs := #[.int .u64 0, .int .u64 0]) (t := 44) ?hr ?_; (case hd => rfl); (case hg => rfl); (case hr => first | (go_simp; done) | (go_simp; rfl)); intro gb224 hg w49 hbox hb; have n0_ := Aside0.mk (blk_below (g := gb218) (blkN BK218) hb); have n1_ := Aside0.mk (below_step (belN HB) hb); have n2_ := Aside0.mk (hbox); have n3_ := Aside0.mk ((by rw [hg]; exact (below_size (belN HB)) : w.heap.size ≤ gb224)); have n4_ := Aside0.mk ((by rw [hg]; exact (below_size (belN HB)) : w.heap.size ≤ gb224)); have n5_ := Aside0.mk ((by rw [hg]; exact Nat.ne_of_lt (blk_lt (g := gb218) (blkN BK218)) : gb218 ≠ gb224)); have n6_ := Aside0.mk ((by rw [hg]; exact Nat.ne_of_gt (blk_lt (g := gb218) (blkN BK218)) : gb224 ≠ gb218)); clear BK218; clear HB; have BK218 := n0_; have HB := n1_; have BK224 := n2_; have GW224 := n3_; have GE224 := n4_; have NB218_224 := n5_; have NB224_218 := n6_; clear n0_ n1_ n2_ n3_ n4_ n5_ n6_; clear hb hbox hg; have hnb50 := NB224_218.out; have hnc50 := NB218_224.out; obtain ⟨hcz51_0, hcz51_1, hfz51_0, hfz51_1⟩ := cz2_ (w := w49) BK224.out))
           repeat (go_quiet (first | ((with_reducible refine gate_dst (N := 4) rfl ?_); (try (refine gate_guard (by rfl) ?_; dsimp only)); refine box_event ?hg (N := 4) ?hd (cs := #[.int .u64 0, .int .u64 0]) (t := 44) ?hr ?_; (case hd => rfl); (case hg => rfl); (case hr => first | (go_simp; done) | (go_simp; rfl)); intro gb224 hg w49 hbox hb; have n0_ := Aside0.mk (blk_below (g := gb218) (blkN BK218) hb); have n1_ := Aside0.mk (below_step (belN HB) hb); have n2_ := Aside0.mk (hbox); have n3_ := Aside0.mk ((by rw [hg]; exact (below_size (belN HB)) : w.heap.size ≤ gb224)); have n4_ := Aside0.mk ((by rw [hg]; exact (below_size (belN HB)) : w.heap.size ≤ gb224)); have n5_ := Aside0.mk ((by rw [hg]; exact Nat.ne_of_lt (blk_lt (g := gb218) (blkN BK218)) : gb218 ≠ gb224)); have n6_ := Aside0.mk ((by rw [hg]; exact Nat.ne_of_gt (blk_lt (g := gb218) (blkN BK218)) : gb224 ≠ gb218)); clear BK218; clear HB; have BK218 := n0_; have HB := n1_; have BK224 := n2_; have GW224 := n3_; have GE224 := n4_; have NB218_224 := n5_; have NB224_218 := n6_; clear n0_ n1_ n2_ n3_ n4_ n5_ n6_; clear hb hbox hg; have hnb50 := NB224_218.out; have hnc50 := NB218_224.out; obtain ⟨hcz51_0, hcz51_1, hfz51_0, hfz51_1⟩ := cz2_ (w := w49) BK224.out)); try go_wp2_with (first | ((with_reducible refine gate_dst (N := 4) rfl ?_); (try (refine gate_guard (by rfl) ?_; dsimp only)); refine box_event ?hg (N := 4) ?hd (cs := #[.int .u64 0, .int .u64 0]) (t := 44) ?hr ?_; (case hd => rfl); (case hg => rfl); (case hr => first | (go_simp; done) | (go_simp; rfl)); intro gb224 hg w49 hbox hb; have n0_ := Aside0.mk (blk_below (g := gb218) (blkN BK218) hb); have n1_ := Aside0.mk (below_step (belN HB) hb); have n2_ := Aside0.mk (hbox); have n3_ := Aside0.mk ((by rw [hg]; exact (below_size (belN HB)) : w.heap.size ≤ gb224)); have n4_ := Aside0.mk ((by rw [hg]; exact (below_size (belN HB)) : w.heap.size ≤ gb224)); have n5_ := Aside0.mk ((by rw [hg]; exact Nat.ne_of_lt (blk_lt (g := gb218) (blkN BK218)) : gb218 ≠ gb224)); have n6_ := Aside0.mk ((by rw [hg]; exact Nat.ne_of_gt (blk_lt (g := gb218) (blkN BK218)) : gb224 ≠ gb218)); clear BK218; clear HB; have BK218 := n0_; have HB := n1_; have BK224 := n2_; have GW224 := n3_; have GE224 := n4_; have NB218_224 := n5_; have NB224_218 := n6_; clear n0_ n1_ n2_ n3_ n4_ n5_ n6_; clear hb hbox hg; have hnb50 := NB224_218.out; have hnc50 := NB218_224.out; obtain ⟨hcz51_0, hcz51_1, hfz51_0, hfz51_1⟩ := cz2_ (w := w49) BK224.out)))
           go_roundg k2
           case measure => have := HJ1.out; have := HK2.out; omega
           case rel => exact ⟨(wrap64 (x36_2 + 1)), (by first | rfl | (simp; done) | (simp [*]; done)), H', ⟨by have := HJ1.out; have := HK2.out; omega⟩, ⟨by (with_reducible repeat (first | refine blk_drewN ?_ _ | refine blk_drew ?_ | refine blk_alloc ?_ _)); refine blk_far ?_ NB218_224.out _; (with_reducible repeat (first | refine blk_drewN ?_ _ | refine blk_drew ?_ | refine blk_alloc ?_ _)); refine blk_far ?_ NB218_224.out _; (with_reducible repeat (first | refine blk_drewN ?_ _ | refine blk_drew ?_ | refine blk_alloc ?_ _)); exact BK218.out⟩, ⟨by repeat (first | (with_reducible first | exact HB.out | apply below_alloc | apply pw_below_drewN | apply below_drew1 | refine below_set ?_ GE218.out | refine below_set ?_ GE224.out) | exact HB.out)⟩⟩
        ·rw [if_neg c31] at H
         exact absurd H (by simp)
       ·rw [if_neg c30] at H
        exact absurd H (by simp)
      ·rw [if_neg c29] at H
       have c29b0 : decide (x36_2 < (l0_5.length : Int)) = false := decide_eq_false c29
       clear c29
       replace H := Option.bind_eq_some_iff.mp H
       obtain ⟨t226, A520, H⟩ := H
       replace H : ((damsonref04_Add.f k2 t226).bind fun bt229 => (if bt229.2 = 0 then (damsonref09_Check.j2 k2 bt229.1 (decide (bt229.1 > a0_4)) a0_0 a0_1 a0_2 a0_3 a0_4 l0_5 a0_6) else (damsonref09_Check.j2 k2 bt229.1 true a0_0 a0_1 a0_2 a0_3 a0_4 l0_5 a0_6))) = some r := H
       have A52 := Aside0.mk A520
       clear A520
       replace H := Option.bind_eq_some_iff.mp H
       obtain ⟨⟨t229, t230⟩, A530, H⟩ := H
       replace H : (if t230 = 0 then (damsonref09_Check.j2 k2 t229 (decide (t229 > a0_4)) a0_0 a0_1 a0_2 a0_3 a0_4 l0_5 a0_6) else (damsonref09_Check.j2 k2 t229 true a0_0 a0_1 a0_2 a0_3 a0_4 l0_5 a0_6)) = some r := H
       have A53 := Aside0.mk A530
       clear A530
       have HC54 := Aside0.mk H
       clear H
       obtain ⟨hcz55_0, hcz55_1, hcz55_2, hcz55_3, hcz55_4, hcz55_5, hcz55_6, hfz55_0, hfz55_1, hfz55_2, hfz55_3, hfz55_4, hfz55_5, hfz55_6⟩ := cz7_ (w := wr) BK218.out
       go_upto_region 10 with (first | (go_at_call 95; (with_reducible refine (damsonref09_amounts.calls k2 _ _ l0_5 t226 _ ?side1 ?side2 A52.out).mono ?_); (case side1 => repeat (first | exact (Kd.C_below HR0_5.out HB.out) | (with_reducible refine Kd.C_alloc ?_ _) | (with_reducible refine Kd.C_drewN ?_ _) | (with_reducible refine Kd.C_drew ?_))); (case side2 => exact HC0_5.out); rintro e w56 ⟨v227, rfl, ho0, hb⟩; have n0_ := Aside0.mk (Kd.R_lower ho0 (below_size (belN HB))); have n1_ := Aside0.mk (blk_below (g := gb218) (blkN BK218) hb); have n2_ := Aside0.mk (below_step (belN HB) hb); clear BK218; clear HB; have HO228 := n0_; have BK218 := n1_; have HB := n2_; clear n0_ n1_ n2_; (try clear hb); (try clear hb2); (try clear hk); (try clear hi); (try clear ho0); obtain ⟨Ao57, co57, eo57⟩ := Kd.R_slice HO228.out; subst eo57) | (go_at_call 94; (with_reducible refine (damsonref04_Add.calls k2 _ _ t226 t229 t230 _ ?side1 ?side2 A53.out).mono ?_); (case side1 => exact Kd.CN (Kd.R_reads' HO228.out).2.2); (case side2 => exact (Kd.R_reads' HO228.out).2.1); rintro e w' ⟨rfl, ⟨nd, rfl⟩⟩; (try first | exact ⟨rfl, _, World.drewN_drewN _ _ _⟩ | exact ⟨rfl, _, Eq.trans (World.drewN_drewN _ _ _) (congrArg (World.drewN _) (Nat.add_assoc _ _ _))⟩)))
       repeat (go_quiet (first | (go_at_call 95; (with_reducible refine (damsonref09_amounts.calls k2 _ _ l0_5 t226 _ ?side1 ?side2 A52.out).mono ?_); (case side1 => repeat (first | exact (Kd.C_below HR0_5.out HB.out) | (with_reducible refine Kd.C_alloc ?_ _) | (with_reducible refine Kd.C_drewN ?_ _) | (with_reducible refine Kd.C_drew ?_))); (case side2 => exact HC0_5.out); rintro e w56 ⟨v227, rfl, ho0, hb⟩; have n0_ := Aside0.mk (Kd.R_lower ho0 (below_size (belN HB))); have n1_ := Aside0.mk (blk_below (g := gb218) (blkN BK218) hb); have n2_ := Aside0.mk (below_step (belN HB) hb); clear BK218; clear HB; have HO228 := n0_; have BK218 := n1_; have HB := n2_; clear n0_ n1_ n2_; (try clear hb); (try clear hb2); (try clear hk); (try clear hi); (try clear ho0); obtain ⟨Ao57, co57, eo57⟩ := Kd.R_slice HO228.out; subst eo57) | (go_at_call 94; (with_reducible refine (damsonref04_Add.calls k2 _ _ t226 t229 t230 _ ?side1 ?side2 A53.out).mono ?_); (case side1 => exact Kd.CN (Kd.R_reads' HO228.out).2.2); (case side2 => exact (Kd.R_reads' HO228.out).2.1); rintro e w' ⟨rfl, ⟨nd, rfl⟩⟩; (try first | exact ⟨rfl, _, World.drewN_drewN _ _ _⟩ | exact ⟨rfl, _, Eq.trans (World.drewN_drewN _ _ _) (congrArg (World.drewN _) (Nat.add_assoc _ _ _))⟩))); go_upto_region 10 with (first | (go_at_call 95; (with_reducible refine (damsonref09_amounts.calls k2 _ _ l0_5 t226 _ ?side1 ?side2 A52.out).mono ?_); (case side1 => repeat (first | exact (Kd.C_below HR0_5.out HB.out) | (with_reducible refine Kd.C_alloc ?_ _) | (with_reducible refine Kd.C_drewN ?_ _) | (with_reducible refine Kd.C_drew ?_))); (case side2 => exact HC0_5.out); rintro e w56 ⟨v227, rfl, ho0, hb⟩; have n0_ := Aside0.mk (Kd.R_lower ho0 (below_size (belN HB))); have n1_ := Aside0.mk (blk_below (g := gb218) (blkN BK218) hb); have n2_ := Aside0.mk (below_step (belN HB) hb); clear BK218; clear HB; have HO228 := n0_; have BK218 := n1_; have HB := n2_; clear n0_ n1_ n2_; (try clear hb); (try clear hb2); (try clear hk); (try clear hi); (try clear ho0); obtain ⟨Ao57, co57, eo57⟩ := Kd.R_slice HO228.out; subst eo57) | (go_at_call 94; (with_reducible refine (damsonref04_Add.calls k2 _ _ t226 t229 t230 _ ?side1 ?side2 A53.out).mono ?_); (case side1 => exact Kd.CN (Kd.R_reads' HO228.out).2.2); (case side2 => exact (Kd.R_reads' HO228.out).2.1); rintro e w' ⟨rfl, ⟨nd, rfl⟩⟩; (try first | exact ⟨rfl, _, World.drewN_drewN _ _ _⟩ | exact ⟨rfl, _, Eq.trans (World.drewN_drewN _ _ _) (congrArg (World.drewN _) (Nat.add_assoc _ _ _))⟩))))
       (try simp only [Act.put, List.setIfInBounds_toArray, List.set_cons_zero, List.set_cons_succ])
       go_cut [75] (fun v75 wc => ∃ (kq : Nat) (x75_53 : Bool), v75 = .bool x75_53 ∧ Aside0 (damsonref09_Check.j2 kq t229 x75_53 a0_0 a0_1 a0_2 a0_3 a0_4 l0_5 a0_6 = some r) ∧ Aside0 (kq ≤ k2) ∧ Aside0 (wc.heap[gb218]? = some (.cells #[.int .u64 a0_0, .int .u64 a0_1, .int .u64 a0_2, .int .u64 a0_3, .int .u64 a0_4, (.slice A0_5 l0_5.length c0_5), .bool a0_6] 25 (0, 0))) ∧ Aside0 (Below w.heap.size w wc))
       case first =>
        have H := HC54.out
        clear HC54
        by_cases c58 : t230 = 0
        ·rw [if_pos c58] at H
         have c58b0 : (t230 == 0) = true := beq_iff_eq.mpr c58
         have c58b1 : (t230 != 0) = false := bne_eq_false_iff_eq.mpr c58
         clear c58
         (first | rw [c58b0] | (simp only [i64_w, i32_w]; rw [c58b0]) | skip)
         have H' := Aside0.mk H
         clear H
         obtain ⟨hcz59_0, hcz59_1, hcz59_2, hcz59_3, hcz59_4, hcz59_5, hcz59_6, hfz59_0, hfz59_1, hfz59_2, hfz59_3, hfz59_4, hfz59_5, hfz59_6⟩ := cz7_ (w := w56) BK218.out
         go_wp2
         repeat (go_quiet (fail); try go_wp2)
         go_meet
         case rel => exact ⟨_, (decide (t229 > a0_4)), (by first | rfl | (simp; done) | (simp [*]; done)), H', ⟨by have := HJ1.out; have := HK2.out; first | omega | exact Nat.le_refl _⟩, ⟨by (with_reducible repeat (first | refine blk_drewN ?_ _ | refine blk_drew ?_ | refine blk_alloc ?_ _)); exact BK218.out⟩, ⟨by repeat (first | (with_reducible first | exact HB.out | apply below_alloc | apply pw_below_drewN | apply below_drew1 | refine below_set ?_ GE218.out) | exact HB.out)⟩⟩
        ·rw [if_neg c58] at H
         have c58b0 : (t230 == 0) = false := beq_eq_false_iff_ne.mpr c58
         have c58b1 : (t230 != 0) = true := bne_iff_ne.mpr c58
         (first | rw [c58b0] | (simp only [i64_w, i32_w]; rw [c58b0]) | skip)
         have H' := Aside0.mk H
         clear H
         go_wp2
         repeat (go_quiet (fail); try go_wp2)
         go_meet
         case rel => exact ⟨_, (true), (by first | rfl | (simp; done) | (simp [*]; done)), H', ⟨by have := HJ1.out; have := HK2.out; first | omega | exact Nat.le_refl _⟩, ⟨by (with_reducible repeat (first | refine blk_drewN ?_ _ | refine blk_drew ?_ | refine blk_alloc ?_ _)); exact BK218.out⟩, ⟨by repeat (first | (with_reducible first | exact HB.out | apply below_alloc | apply pw_below_drewN | apply below_drew1 | refine below_set ?_ GE218.out) | exact HB.out)⟩⟩
       case rest =>
        clear HC54
        try clear c1
        try clear c2
        try clear p2
        try clear q2
        try clear hx2
        try clear c3
        try clear c4
        try clear c5
        try clear c5b0
        try clear c5b1
        try clear c6
        try clear c6b0
        try clear c6b1
        try clear p6
        try clear c12
        try clear p22
        try clear q22
        try clear hx22
        try clear c27
        try clear c29
        try clear c29b0
        try clear c30
        try clear c30b0
        try clear c31
        try clear c31b0
        try clear c32
        try clear c32b0
        try clear c32b1
        try clear c34
        try clear c36
        try clear c36b0
        try clear c38
        try clear c38b0
        try clear c39
        try clear c39b0
        try clear c40
        try clear c40b0
        try clear c42
        try clear c46
        try clear c50
        try clear c58
        try clear c58b0
        try clear c58b1
        try clear hcz11_0
        try clear hcz11_1
        try clear hcz11_2
        try clear hcz11_3
        try clear hcz11_4
        try clear hcz11_5
        try clear hcz11_6
        try clear hcz13_0
        try clear hcz13_1
        try clear hcz13_2
        try clear hcz13_3
        try clear hcz13_4
        try clear hcz13_5
        try clear hcz13_6
        try clear hcz17_0
        try clear hcz17_1
        try clear hcz17_2
        try clear hcz17_3
        try clear hcz17_4
        try clear hcz17_5
        try clear hcz17_6
        try clear hcz18_0
        try clear hcz18_1
        try clear hcz18_2
        try clear hcz18_3
        try clear hcz18_4
        try clear hcz18_5
        try clear hcz18_6
        try clear hcz22_0
        try clear hcz22_1
        try clear hcz22_2
        try clear hcz22_3
        try clear hcz22_4
        try clear hcz22_5
        try clear hcz22_6
        try clear hcz23_0
        try clear hcz23_1
        try clear hcz23_2
        try clear hcz23_3
        try clear hcz23_4
        try clear hcz23_5
        try clear hcz23_6
        try clear hcz28_0
        try clear hcz28_1
        try clear hcz28_2
        try clear hcz28_3
        try clear hcz28_4
        try clear hcz28_5
        try clear hcz28_6
        try clear hcz35_0
        try clear hcz35_1
        try clear hcz43_0
        try clear hcz43_1
        try clear hcz44_0
        try clear hcz44_1
        try clear hcz44_2
        try clear hcz44_3
        try clear hcz44_4
        try clear hcz44_5
        try clear hcz44_6
        try clear hcz47_0
        try clear hcz47_1
        try clear hcz48_0
        try clear hcz48_1
        try clear hcz48_2
        try clear hcz48_3
        try clear hcz48_4
        try clear hcz48_5
        try clear hcz48_6
        try clear hcz51_0
        try clear hcz51_1
        try clear hcz55_0
        try clear hcz55_1
        try clear hcz55_2
        try clear hcz55_3
        try clear hcz55_4
        try clear hcz55_5
        try clear hcz55_6
        try clear hcz59_0
        try clear hcz59_1
        try clear hcz59_2
        try clear hcz59_3
        try clear hcz59_4
        try clear hcz59_5
        try clear hcz59_6
        try clear hcz7_0
        try clear hcz7_1
        try clear hcz7_2
        try clear hcz7_3
        try clear hcz7_4
        try clear hcz7_5
        try clear hcz7_6
        try clear hfz11_0
        try clear hfz11_1
        try clear hfz11_2
        try clear hfz11_3
        try clear hfz11_4
        try clear hfz11_5
        try clear hfz11_6
        try clear hfz13_0
        try clear hfz13_1
        try clear hfz13_2
        try clear hfz13_3
        try clear hfz13_4
        try clear hfz13_5
        try clear hfz13_6
        try clear hfz17_0
        try clear hfz17_1
        try clear hfz17_2
        try clear hfz17_3
        try clear hfz17_4
        try clear hfz17_5
        try clear hfz17_6
        try clear hfz18_0
        try clear hfz18_1
        try clear hfz18_2
        try clear hfz18_3
        try clear hfz18_4
        try clear hfz18_5
        try clear hfz18_6
        try clear hfz22_0
        try clear hfz22_1
        try clear hfz22_2
        try clear hfz22_3
        try clear hfz22_4
        try clear hfz22_5
        try clear hfz22_6
        try clear hfz23_0
        try clear hfz23_1
        try clear hfz23_2
        try clear hfz23_3
        try clear hfz23_4
        try clear hfz23_5
        try clear hfz23_6
        try clear hfz28_0
        try clear hfz28_1
        try clear hfz28_2
        try clear hfz28_3
        try clear hfz28_4
        try clear hfz28_5
        try clear hfz28_6
        try clear hfz35_0
        try clear hfz35_1
        try clear hfz43_0
        try clear hfz43_1
        try clear hfz44_0
        try clear hfz44_1
        try clear hfz44_2
        try clear hfz44_3
        try clear hfz44_4
        try clear hfz44_5
        try clear hfz44_6
        try clear hfz47_0
        try clear hfz47_1
        try clear hfz48_0
        try clear hfz48_1
        try clear hfz48_2
        try clear hfz48_3
        try clear hfz48_4
        try clear hfz48_5
        try clear hfz48_6
        try clear hfz51_0
        try clear hfz51_1
        try clear hfz55_0
        try clear hfz55_1
        try clear hfz55_2
        try clear hfz55_3
        try clear hfz55_4
        try clear hfz55_5
        try clear hfz55_6
        try clear hfz59_0
        try clear hfz59_1
        try clear hfz59_2
        try clear hfz59_3
        try clear hfz59_4
        try clear hfz59_5
        try clear hfz59_6
        try clear hfz7_0
        try clear hfz7_1
        try clear hfz7_2
        try clear hfz7_3
        try clear hfz7_4
        try clear hfz7_5
        try clear hfz7_6
        try clear hx223_0
        try clear hx223_1
        try clear hx225_0
        try clear hx225_1
        try clear p2
        try clear p223
        try clear p225
        try clear q223
        try clear q225
        obtain ⟨kq, x75_53, rfl, HA, HJ53, BK218, HB⟩ := hcut
        cases kq with
        | zero => exact absurd HA.out (by simp [damsonref09_Check.j2])
        | succ kj53 =>
         have H := HA.out
         clear HA
         simp only [damsonref09_Check.j2] at H
         by_cases c60 : x75_53 = true
         ·subst c60
          have H1 : (some 1) = some r := by rw [if_pos rfl] at H; exact H
          clear H
          have H := H1
          clear H1
          obtain rfl := Option.some.inj H
          go_wp2
          repeat (go_quiet (fail); try go_wp2)
          go_ret
          exact ⟨by first | rfl | (simp [errW_none, errW_some] <;> rfl) | (simp [*, errW_none, errW_some] <;> rfl), by repeat (first | (with_reducible first | exact HB.out | apply below_alloc | apply pw_below_drewN | apply below_drew1 | refine below_set ?_ GE218.out) | exact HB.out)⟩
         ·replace c60 := Bool.eq_false_iff.mpr c60
          subst c60
          have H1 : ((damsonref04_Add.f kj53 (([a0_1, a0_2, t229] : List Int))).bind fun bt234 => (if bt234.2 = 0 then (some 0) else (some 1))) = some r := by rw [if_neg (show ¬ (false = true) by decide)] at H; exact H
          clear H
          have H := H1
          clear H1
          obtain ⟨y231, hy231⟩ : ∃ y_ : List Int, y_ = (([a0_1, a0_2, t229] : List Int)) := ⟨_, rfl⟩
          replace H : ((damsonref04_Add.f kj53 y231).bind fun bt234 => (if bt234.2 = 0 then (some 0) else (some 1))) = some r := by first | (rw [hy231]; with_reducible exact H) | (have H2_ := (Option.bind_some _ _).symm.trans H; rw [hy231]; with_reducible exact H2_) | (have H2_ := (Option.bind_some _ _).symm.trans H; with_reducible exact H2_) | with_reducible exact H | (rw [hy231]; exact H) | exact H
          have Ny231 := Aside0.mk hy231
          clear hy231
          replace H := Option.bind_eq_some_iff.mp H
          obtain ⟨⟨t234, t235⟩, A610, H⟩ := H
          replace H : (if t235 = 0 then (some 0) else (some 1)) = some r := H
          have A61 := Aside0.mk A610
          clear A610
          by_cases c62 : t235 = 0
          ·rw [if_pos c62] at H
           have c62b0 : (t235 == 0) = true := beq_iff_eq.mpr c62
           have c62b1 : (t235 != 0) = false := bne_eq_false_iff_eq.mpr c62
           clear c62
           obtain rfl := Option.some.inj H
           obtain ⟨hcz63_0, hcz63_1, hcz63_2, hcz63_3, hcz63_4, hcz63_5, hcz63_6, hfz63_0, hfz63_1, hfz63_2, hfz63_3, hfz63_4, hfz63_5, hfz63_6⟩ := cz7_ (w := wc) BK218.out
           go_wp2_with (first | ((with_reducible refine gate_dst (N := 82) rfl ?_); (try (refine gate_guard (by rfl) ?_; dsimp only)); refine Kd.R_lit (Kd.int .u64) _ 22 ?hg (N := 82) ?hd (xs := ([a0_1, a0_2, t229] : List Int)) (inner := [.int .u64 a0_1, .int .u64 a0_2, .int .u64 t229]) (ok := fun _ => True) (okp := fun _ => True) ?hr ?hp (fun _ hk => hk) trivial (Below.refl _ _) (Nat.le_refl _) (by simp) ?_; (case hd => rfl); (case hg => rfl); (case hr => first | (go_simp; done) | (go_simp; rfl)); (case hp => exact (Reps.one (show Kd.M (Kd.int .u64) _ _ _ a0_1 [.int .u64 a0_1] from rfl) (Reps.one (show Kd.M (Kd.int .u64) _ _ _ a0_2 [.int .u64 a0_2] from rfl) (Reps.one (show Kd.M (Kd.int .u64) _ _ _ t229 [.int .u64 t229] from rfl) (Reps.none _ _))))); intro v232 w64 ho65 hb hg_ hnew_; clear hg_ hnew_; (first | rw [← Ny231.out] at ho65 | (simp only [Int.reduceToNat] at ho65; rw [← Ny231.out] at ho65)); have n0_ := Aside0.mk (Kd.R_lower ho65 (below_size (belN HB))); have n1_ := Aside0.mk (blk_below (g := gb218) (blkN BK218) hb); have n2_ := Aside0.mk (below_step (belN HB) hb); clear BK218; clear HB; have HO233 := n0_; have BK218 := n1_; have HB := n2_; clear n0_ n1_ n2_; clear hb ho65; obtain ⟨Ao66, co66, eo66⟩ := Kd.R_slice HO233.out; subst eo66) | (go_at_call 94; (with_reducible refine (damsonref04_Add.calls kj53 _ _ y231 t234 t235 _ ?side1 ?side2 A61.out).mono ?_); (case side1 => exact Kd.CN (Kd.R_reads' HO233.out).2.2); (case side2 => exact (Kd.R_reads' HO233.out).2.1); rintro e w' ⟨rfl, ⟨nd, rfl⟩⟩; (try first | exact ⟨rfl, _, World.drewN_drewN _ _ _⟩ | exact ⟨rfl, _, Eq.trans (World.drewN_drewN _ _ _) (congrArg (World.drewN _) (Nat.add_assoc _ _ _))⟩)))
           repeat (go_quiet (first | ((with_reducible refine gate_dst (N := 82) rfl ?_); (try (refine gate_guard (by rfl) ?_; dsimp only)); refine Kd.R_lit (Kd.int .u64) _ 22 ?hg (N := 82) ?hd (xs := ([a0_1, a0_2, t229] : List Int)) (inner := [.int .u64 a0_1, .int .u64 a0_2, .int .u64 t229]) (ok := fun _ => True) (okp := fun _ => True) ?hr ?hp (fun _ hk => hk) trivial (Below.refl _ _) (Nat.le_refl _) (by simp) ?_; (case hd => rfl); (case hg => rfl); (case hr => first | (go_simp; done) | (go_simp; rfl)); (case hp => exact (Reps.one (show Kd.M (Kd.int .u64) _ _ _ a0_1 [.int .u64 a0_1] from rfl) (Reps.one (show Kd.M (Kd.int .u64) _ _ _ a0_2 [.int .u64 a0_2] from rfl) (Reps.one (show Kd.M (Kd.int .u64) _ _ _ t229 [.int .u64 t229] from rfl) (Reps.none _ _))))); intro v232 w64 ho65 hb hg_ hnew_; clear hg_ hnew_; (first | rw [← Ny231.out] at ho65 | (simp only [Int.reduceToNat] at ho65; rw [← Ny231.out] at ho65)); have n0_ := Aside0.mk (Kd.R_lower ho65 (below_size (belN HB))); have n1_ := Aside0.mk (blk_below (g := gb218) (blkN BK218) hb); have n2_ := Aside0.mk (below_step (belN HB) hb); clear BK218; clear HB; have HO233 := n0_; have BK218 := n1_; have HB := n2_; clear n0_ n1_ n2_; clear hb ho65; obtain ⟨Ao66, co66, eo66⟩ := Kd.R_slice HO233.out; subst eo66) | (go_at_call 94; (with_reducible refine (damsonref04_Add.calls kj53 _ _ y231 t234 t235 _ ?side1 ?side2 A61.out).mono ?_); (case side1 => exact Kd.CN (Kd.R_reads' HO233.out).2.2); (case side2 => exact (Kd.R_reads' HO233.out).2.1); rintro e w' ⟨rfl, ⟨nd, rfl⟩⟩; (try first | exact ⟨rfl, _, World.drewN_drewN _ _ _⟩ | exact ⟨rfl, _, Eq.trans (World.drewN_drewN _ _ _) (congrArg (World.drewN _) (Nat.add_assoc _ _ _))⟩))); try go_wp2_with (first | ((with_reducible refine gate_dst (N := 82) rfl ?_); (try (refine gate_guard (by rfl) ?_; dsimp only)); refine Kd.R_lit (Kd.int .u64) _ 22 ?hg (N := 82) ?hd (xs := ([a0_1, a0_2, t229] : List Int)) (inner := [.int .u64 a0_1, .int .u64 a0_2, .int .u64 t229]) (ok := fun _ => True) (okp := fun _ => True) ?hr ?hp (fun _ hk => hk) trivial (Below.refl _ _) (Nat.le_refl _) (by simp) ?_; (case hd => rfl); (case hg => rfl); (case hr => first | (go_simp; done) | (go_simp; rfl)); (case hp => exact (Reps.one (show Kd.M (Kd.int .u64) _ _ _ a0_1 [.int .u64 a0_1] from rfl) (Reps.one (show Kd.M (Kd.int .u64) _ _ _ a0_2 [.int .u64 a0_2] from rfl) (Reps.one (show Kd.M (Kd.int .u64) _ _ _ t229 [.int .u64 t229] from rfl) (Reps.none _ _))))); intro v232 w64 ho65 hb hg_ hnew_; clear hg_ hnew_; (first | rw [← Ny231.out] at ho65 | (simp only [Int.reduceToNat] at ho65; rw [← Ny231.out] at ho65)); have n0_ := Aside0.mk (Kd.R_lower ho65 (below_size (belN HB))); have n1_ := Aside0.mk (blk_below (g := gb218) (blkN BK218) hb); have n2_ := Aside0.mk (below_step (belN HB) hb); clear BK218; clear HB; have HO233 := n0_; have BK218 := n1_; have HB := n2_; clear n0_ n1_ n2_; clear hb ho65; obtain ⟨Ao66, co66, eo66⟩ := Kd.R_slice HO233.out; subst eo66) | (go_at_call 94; (with_reducible refine (damsonref04_Add.calls kj53 _ _ y231 t234 t235 _ ?side1 ?side2 A61.out).mono ?_); (case side1 => exact Kd.CN (Kd.R_reads' HO233.out).2.2); (case side2 => exact (Kd.R_reads' HO233.out).2.1); rintro e w' ⟨rfl, ⟨nd, rfl⟩⟩; (try first | exact ⟨rfl, _, World.drewN_drewN _ _ _⟩ | exact ⟨rfl, _, Eq.trans (World.drewN_drewN _ _ _) (congrArg (World.drewN _) (Nat.add_assoc _ _ _))⟩))))
           go_ret
           exact ⟨by first | rfl | (simp [errW_none, errW_some] <;> rfl) | (simp [*, errW_none, errW_some] <;> rfl), by repeat (first | (with_reducible first | exact HB.out | apply below_alloc | apply pw_below_drewN | apply below_drew1 | refine below_set ?_ GE218.out) | exact HB.out)⟩
          ·rw [if_neg c62] at H
           have c62b0 : (t235 == 0) = false := beq_eq_false_iff_ne.mpr c62
           have c62b1 : (t235 != 0) = true := bne_iff_ne.mpr c62
           obtain rfl := Option.some.inj H
           obtain ⟨hcz67_0, hcz67_1, hcz67_2, hcz67_3, hcz67_4, hcz67_5, hcz67_6, hfz67_0, hfz67_1, hfz67_2, hfz67_3, hfz67_4, hfz67_5, hfz67_6⟩ := cz7_ (w := wc) BK218.out
           go_wp2_with (first | ((with_reducible refine gate_dst (N := 82) rfl ?_); (try (refine gate_guard (by rfl) ?_; dsimp only)); refine Kd.R_lit (Kd.int .u64) _ 22 ?hg (N := 82) ?hd (xs := ([a0_1, a0_2, t229] : List Int)) (inner := [.int .u64 a0_1, .int .u64 a0_2, .int .u64 t229]) (ok := fun _ => True) (okp := fun _ => True) ?hr ?hp (fun _ hk => hk) trivial (Below.refl _ _) (Nat.le_refl _) (by simp) ?_; (case hd => rfl); (case hg => rfl); (case hr => first | (go_simp; done) | (go_simp; rfl)); (case hp => exact (Reps.one (show Kd.M (Kd.int .u64) _ _ _ a0_1 [.int .u64 a0_1] from rfl) (Reps.one (show Kd.M (Kd.int .u64) _ _ _ a0_2 [.int .u64 a0_2] from rfl) (Reps.one (show Kd.M (Kd.int .u64) _ _ _ t229 [.int .u64 t229] from rfl) (Reps.none _ _))))); intro v232 w68 ho69 hb hg_ hnew_; clear hg_ hnew_; (first | rw [← Ny231.out] at ho69 | (simp only [Int.reduceToNat] at ho69; rw [← Ny231.out] at ho69)); have n0_ := Aside0.mk (Kd.R_lower ho69 (below_size (belN HB))); have n1_ := Aside0.mk (blk_below (g := gb218) (blkN BK218) hb); have n2_ := Aside0.mk (below_step (belN HB) hb); clear BK218; clear HB; have HO233 := n0_; have BK218 := n1_; have HB := n2_; clear n0_ n1_ n2_; clear hb ho69; obtain ⟨Ao70, co70, eo70⟩ := Kd.R_slice HO233.out; subst eo70) | (go_at_call 94; (with_reducible refine (damsonref04_Add.calls kj53 _ _ y231 t234 t235 _ ?side1 ?side2 A61.out).mono ?_); (case side1 => exact Kd.CN (Kd.R_reads' HO233.out).2.2); (case side2 => exact (Kd.R_reads' HO233.out).2.1); rintro e w' ⟨rfl, ⟨nd, rfl⟩⟩; (try first | exact ⟨rfl, _, World.drewN_drewN _ _ _⟩ | exact ⟨rfl, _, Eq.trans (World.drewN_drewN _ _ _) (congrArg (World.drewN _) (Nat.add_assoc _ _ _))⟩)))
           repeat (go_quiet (first | ((with_reducible refine gate_dst (N := 82) rfl ?_); (try (refine gate_guard (by rfl) ?_; dsimp only)); refine Kd.R_lit (Kd.int .u64) _ 22 ?hg (N := 82) ?hd (xs := ([a0_1, a0_2, t229] : List Int)) (inner := [.int .u64 a0_1, .int .u64 a0_2, .int .u64 t229]) (ok := fun _ => True) (okp := fun _ => True) ?hr ?hp (fun _ hk => hk) trivial (Below.refl _ _) (Nat.le_refl _) (by simp) ?_; (case hd => rfl); (case hg => rfl); (case hr => first | (go_simp; done) | (go_simp; rfl)); (case hp => exact (Reps.one (show Kd.M (Kd.int .u64) _ _ _ a0_1 [.int .u64 a0_1] from rfl) (Reps.one (show Kd.M (Kd.int .u64) _ _ _ a0_2 [.int .u64 a0_2] from rfl) (Reps.one (show Kd.M (Kd.int .u64) _ _ _ t229 [.int .u64 t229] from rfl) (Reps.none _ _))))); intro v232 w68 ho69 hb hg_ hnew_; clear hg_ hnew_; (first | rw [← Ny231.out] at ho69 | (simp only [Int.reduceToNat] at ho69; rw [← Ny231.out] at ho69)); have n0_ := Aside0.mk (Kd.R_lower ho69 (below_size (belN HB))); have n1_ := Aside0.mk (blk_below (g := gb218) (blkN BK218) hb); have n2_ := Aside0.mk (below_step (belN HB) hb); clear BK218; clear HB; have HO233 := n0_; have BK218 := n1_; have HB := n2_; clear n0_ n1_ n2_; clear hb ho69; obtain ⟨Ao70, co70, eo70⟩ := Kd.R_slice HO233.out; subst eo70) | (go_at_call 94; (with_reducible refine (damsonref04_Add.calls kj53 _ _ y231 t234 t235 _ ?side1 ?side2 A61.out).mono ?_); (case side1 => exact Kd.CN (Kd.R_reads' HO233.out).2.2); (case side2 => exact (Kd.R_reads' HO233.out).2.1); rintro e w' ⟨rfl, ⟨nd, rfl⟩⟩; (try first | exact ⟨rfl, _, World.drewN_drewN _ _ _⟩ | exact ⟨rfl, _, Eq.trans (World.drewN_drewN _ _ _) (congrArg (World.drewN _) (Nat.add_assoc _ _ _))⟩))); try go_wp2_with (first | ((with_reducible refine gate_dst (N := 82) rfl ?_); (try (refine gate_guard (by rfl) ?_; dsimp only)); refine Kd.R_lit (Kd.int .u64) _ 22 ?hg (N := 82) ?hd (xs := ([a0_1, a0_2, t229] : List Int)) (inner := [.int .u64 a0_1, .int .u64 a0_2, .int .u64 t229]) (ok := fun _ => True) (okp := fun _ => True) ?hr ?hp (fun _ hk => hk) trivial (Below.refl _ _) (Nat.le_refl _) (by simp) ?_; (case hd => rfl); (case hg => rfl); (case hr => first | (go_simp; done) | (go_simp; rfl)); (case hp => exact (Reps.one (show Kd.M (Kd.int .u64) _ _ _ a0_1 [.int .u64 a0_1] from rfl) (Reps.one (show Kd.M (Kd.int .u64) _ _ _ a0_2 [.int .u64 a0_2] from rfl) (Reps.one (show Kd.M (Kd.int .u64) _ _ _ t229 [.int .u64 t229] from rfl) (Reps.none _ _))))); intro v232 w68 ho69 hb hg_ hnew_; clear hg_ hnew_; (first | rw [← Ny231.out] at ho69 | (simp only [Int.reduceToNat] at ho69; rw [← Ny231.out] at ho69)); have n0_ := Aside0.mk (Kd.R_lower ho69 (below_size (belN HB))); have n1_ := Aside0.mk (blk_below (g := gb218) (blkN BK218) hb); have n2_ := Aside0.mk (below_step (belN HB) hb); clear BK218; clear HB; have HO233 := n0_; have BK218 := n1_; have HB := n2_; clear n0_ n1_ n2_; clear hb ho69; obtain ⟨Ao70, co70, eo70⟩ := Kd.R_slice HO233.out; subst eo70) | (go_at_call 94; (with_reducible refine (damsonref04_Add.calls kj53 _ _ y231 t234 t235 _ ?side1 ?side2 A61.out).mono ?_); (case side1 => exact Kd.CN (Kd.R_reads' HO233.out).2.2); (case side2 => exact (Kd.R_reads' HO233.out).2.1); rintro e w' ⟨rfl, ⟨nd, rfl⟩⟩; (try first | exact ⟨rfl, _, World.drewN_drewN _ _ _⟩ | exact ⟨rfl, _, Eq.trans (World.drewN_drewN _ _ _) (congrArg (World.drewN _) (Nat.add_assoc _ _ _))⟩))))
           go_ret
           exact ⟨by first | rfl | (simp [errW_none, errW_some] <;> rfl) | (simp [*, errW_none, errW_some] <;> rfl), by repeat (first | (with_reducible first | exact HB.out | apply below_alloc | apply pw_below_drewN | apply below_drew1 | refine below_set ?_ GE218.out) | exact HB.out)⟩

end Go.Proofs.Ytcfbcoinbecdfaa.P
