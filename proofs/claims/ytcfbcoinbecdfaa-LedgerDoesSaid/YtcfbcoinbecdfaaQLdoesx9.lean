-- written by a program of this session (wip/print)
import Derived.Test.YtcfbcoinbecdfaaQLdoesx0
import Derived.Test.YtcfbcoinbecdfaaQLdoesx1
namespace Go.Proofs.Ytcfbcoinbecdfaa.P
open Go.RowKit Go.Proofs.YtcfbcoinbecdfaaW.PrintWords Go.Proofs.YtcfbcoinbecdfaaW.PrintLast Go.Proofs.YtcfbcoinbecdfaaW.PrintMore
attribute [local go_sem] max2_int min2_int max_two min_two max_three min_three max_four min_four run_sub64_   -- for this text's walks alone
set_option linter.unusedVariables false
set_option linter.unusedSimpArgs false

attribute [local go_sem high] eqA44
/-! ### damsonref09_Same: function 35 -/
mutual
def damsonref09_Same.j0 : Nat → Bool → Int → Int → Int → Int → Int → List (S44) → Bool → Int → Int → Int → Int → Int → List (S44) → Bool → Option (Bool)
 | 0, _, _, _, _, _, _, _, _, _, _, _, _, _, _, _ => none
 | k + 1, x54, x178000, x178001, x178002, x178003, x178004, x178005, x178006, x179000, x179001, x179002, x179003, x179004, x179005, x179006 => if x54 = true then (some false) else (damsonref09_Same.l0 k (x178005.length : Int) 0 x178000 x178001 x178002 x178003 x178004 x178005 x178006 x179000 x179001 x179002 x179003 x179004 x179005 x179006)
def damsonref09_Same.l0 : Nat → Int → Int → Int → Int → Int → Int → Int → List (S44) → Bool → Int → Int → Int → Int → Int → List (S44) → Bool → Option (Bool)
 | 0, _, _, _, _, _, _, _, _, _, _, _, _, _, _, _, _ => none
 | k + 1, x57, x58, x178000, x178001, x178002, x178003, x178004, x178005, x178006, x179000, x179001, x179002, x179003, x179004, x179005, x179006 => if x58 < x57 then (if 0 ≤ x58 then (if x58 < (x178005.length : Int) then (if x58 < (x179005.length : Int) then (if (!(((rd_T44 x178005 x58).f0) == ((rd_T44 x179005 x58).f0)) || (!(((rd_T44 x178005 x58).f1) == ((rd_T44 x179005 x58).f1)))) = true then (some false) else (damsonref09_Same.l0 k x57 (wrap64 (x58 + 1)) x178000 x178001 x178002 x178003 x178004 x178005 x178006 x179000 x179001 x179002 x179003 x179004 x179005 x179006)) else (none)) else (none)) else (none)) else (some true)
end
def damsonref09_Same.f (k : Nat) (a0_0 : Int) (a0_1 : Int) (a0_2 : Int) (a0_3 : Int) (a0_4 : Int) (l0_5 : List (S44)) (a0_6 : Bool) (a1_0 : Int) (a1_1 : Int) (a1_2 : Int) (a1_3 : Int) (a1_4 : Int) (l1_5 : List (S44)) (a1_6 : Bool) : Option (Bool) := if a0_0 = a1_0 then (if a0_1 = a1_1 then (if a0_2 = a1_2 then (if a0_3 = a1_3 then (if a0_4 = a1_4 then (if (a0_6 != a1_6) = true then (damsonref09_Same.j0 k true a0_0 a0_1 a0_2 a0_3 a0_4 l0_5 a0_6 a1_0 a1_1 a1_2 a1_3 a1_4 l1_5 a1_6) else (damsonref09_Same.j0 k ((l0_5.length : Int) != (l1_5.length : Int)) a0_0 a0_1 a0_2 a0_3 a0_4 l0_5 a0_6 a1_0 a1_1 a1_2 a1_3 a1_4 l1_5 a1_6)) else (damsonref09_Same.j0 k true a0_0 a0_1 a0_2 a0_3 a0_4 l0_5 a0_6 a1_0 a1_1 a1_2 a1_3 a1_4 l1_5 a1_6)) else (damsonref09_Same.j0 k true a0_0 a0_1 a0_2 a0_3 a0_4 l0_5 a0_6 a1_0 a1_1 a1_2 a1_3 a1_4 l1_5 a1_6)) else (damsonref09_Same.j0 k true a0_0 a0_1 a0_2 a0_3 a0_4 l0_5 a0_6 a1_0 a1_1 a1_2 a1_3 a1_4 l1_5 a1_6)) else (damsonref09_Same.j0 k true a0_0 a0_1 a0_2 a0_3 a0_4 l0_5 a0_6 a1_0 a1_1 a1_2 a1_3 a1_4 l1_5 a1_6)) else (damsonref09_Same.j0 k true a0_0 a0_1 a0_2 a0_3 a0_4 l0_5 a0_6 a1_0 a1_1 a1_2 a1_3 a1_4 l1_5 a1_6)
theorem damsonref09_Same.mono_l : ∀ k, (∀ y0 y1 y2 y3 y4 y5 y6 y7 y8 y9 y10 y11 y12 y13 y14, LeO (damsonref09_Same.j0 k y0 y1 y2 y3 y4 y5 y6 y7 y8 y9 y10 y11 y12 y13 y14) (damsonref09_Same.j0 (k + 1) y0 y1 y2 y3 y4 y5 y6 y7 y8 y9 y10 y11 y12 y13 y14)) ∧ (∀ y0 y1 y2 y3 y4 y5 y6 y7 y8 y9 y10 y11 y12 y13 y14 y15, LeO (damsonref09_Same.l0 k y0 y1 y2 y3 y4 y5 y6 y7 y8 y9 y10 y11 y12 y13 y14 y15) (damsonref09_Same.l0 (k + 1) y0 y1 y2 y3 y4 y5 y6 y7 y8 y9 y10 y11 y12 y13 y14 y15))
 | 0 => ⟨fun _ _ _ _ _ _ _ _ _ _ _ _ _ _ _ r h => by simp [damsonref09_Same.j0] at h, fun _ _ _ _ _ _ _ _ _ _ _ _ _ _ _ _ r h => by simp [damsonref09_Same.l0] at h⟩
 | k + 1 => by
  obtain ⟨ih0, ih1⟩ := damsonref09_Same.mono_l k
  refine ⟨?_, ?_⟩
  ·intro y0 y1 y2 y3 y4 y5 y6 y7 y8 y9 y10 y11 y12 y13 y14
   unfold damsonref09_Same.j0
   repeat' first
   | (with_reducible exact ih1 _ _ _ _ _ _ _ _ _ _ _ _ _ _ _ _)
   | (with_reducible exact LeO.refl _)
   | (with_reducible refine LeO.ite ?_ ?_)
   | exact ih0 _ _ _ _ _ _ _ _ _ _ _ _ _ _ _
   | exact ih1 _ _ _ _ _ _ _ _ _ _ _ _ _ _ _ _
   | exact LeO.none _
   | refine LeO.ite ?_ ?_
   | refine LeO.bind ?_ (fun _ => ?_)
  ·intro y0 y1 y2 y3 y4 y5 y6 y7 y8 y9 y10 y11 y12 y13 y14 y15
   unfold damsonref09_Same.l0
   repeat' first
   | (with_reducible exact ih1 _ _ _ _ _ _ _ _ _ _ _ _ _ _ _ _)
   | (with_reducible exact LeO.refl _)
   | (with_reducible refine LeO.ite ?_ ?_)
   | exact ih0 _ _ _ _ _ _ _ _ _ _ _ _ _ _ _
   | exact ih1 _ _ _ _ _ _ _ _ _ _ _ _ _ _ _ _
   | exact LeO.none _
   | refine LeO.ite ?_ ?_
   | refine LeO.bind ?_ (fun _ => ?_)
theorem damsonref09_Same.mono : ∀ a0 a1 a2 a3 a4 a5 a6 a7 a8 a9 a10 a11 a12 a13 k, LeO (damsonref09_Same.f k a0 a1 a2 a3 a4 a5 a6 a7 a8 a9 a10 a11 a12 a13) (damsonref09_Same.f (k + 1) a0 a1 a2 a3 a4 a5 a6 a7 a8 a9 a10 a11 a12 a13) := by
 intro a0 a1 a2 a3 a4 a5 a6 a7 a8 a9 a10 a11 a12 a13 k
 obtain ⟨ih0, ih1⟩ := damsonref09_Same.mono_l k
 unfold damsonref09_Same.f
 repeat' first
   | (with_reducible exact ih0 _ _ _ _ _ _ _ _ _ _ _ _ _ _ _)
   | (with_reducible refine LeO.ite ?_ ?_)
   | exact ih0 _ _ _ _ _ _ _ _ _ _ _ _ _ _ _
   | exact ih1 _ _ _ _ _ _ _ _ _ _ _ _ _ _ _ _
   | exact LeO.none _
   | refine LeO.ite ?_ ?_
   | refine LeO.bind ?_ (fun _ => ?_)
set_option maxHeartbeats 8000000 in
set_option maxRecDepth 100000 in
theorem damsonref09_Same.calls (k : Nat) (a0_0 : Int) (a0_1 : Int) (a0_2 : Int) (a0_3 : Int) (a0_4 : Int) (A0_5 : Option Addr) (c0_5 : Nat) (l0_5 : List (S44)) (a0_6 : Bool) (a1_0 : Int) (a1_1 : Int) (a1_2 : Int) (a1_3 : Int) (a1_4 : Int) (A1_5 : Option Addr) (c1_5 : Nat) (l1_5 : List (S44)) (a1_6 : Bool) (r : Bool) (w : World) (hr0_5 : Kd.C k44 w A0_5 l0_5.length l0_5) (hc0_5 : l0_5.length ≤ c0_5) (hr1_5 : Kd.C k44 w A1_5 l1_5.length l1_5) (hc1_5 : l1_5.length ≤ c1_5) (h : damsonref09_Same.f k a0_0 a0_1 a0_2 a0_3 a0_4 l0_5 a0_6 a1_0 a1_1 a1_2 a1_3 a1_4 l1_5 a1_6 = some r) :
  Calls Try.prog 35 #[.agg #[.int .u64 a0_0, .int .u64 a0_1, .int .u64 a0_2, .int .u64 a0_3, .int .u64 a0_4, .slice A0_5 l0_5.length c0_5, .bool a0_6], .agg #[.int .u64 a1_0, .int .u64 a1_1, .int .u64 a1_2, .int .u64 a1_3, .int .u64 a1_4, .slice A1_5 l1_5.length c1_5, .bool a1_6]] w fun e w' => e = .returned (.bool r) ∧ Below w.heap.size w w' := by
 have hu25 := Try.underlying25
 have hu44 := Try.underlying44
 have HR0_5 := aM_ hr0_5
 have HC0_5 := aM_ hc0_5
 clear hr0_5 hc0_5
 have HR1_5 := aM_ hr1_5
 have HC1_5 := aM_ hc1_5
 clear hr1_5 hc1_5
 have HB := aM_ (Below.refl w.heap.size w)
 have H : (if a0_0 = a1_0 then (if a0_1 = a1_1 then (if a0_2 = a1_2 then (if a0_3 = a1_3 then (if a0_4 = a1_4 then (if (a0_6 != a1_6) = true then (damsonref09_Same.j0 k true a0_0 a0_1 a0_2 a0_3 a0_4 l0_5 a0_6 a1_0 a1_1 a1_2 a1_3 a1_4 l1_5 a1_6) else (damsonref09_Same.j0 k ((l0_5.length : Int) != (l1_5.length : Int)) a0_0 a0_1 a0_2 a0_3 a0_4 l0_5 a0_6 a1_0 a1_1 a1_2 a1_3 a1_4 l1_5 a1_6)) else (damsonref09_Same.j0 k true a0_0 a0_1 a0_2 a0_3 a0_4 l0_5 a0_6 a1_0 a1_1 a1_2 a1_3 a1_4 l1_5 a1_6)) else (damsonref09_Same.j0 k true a0_0 a0_1 a0_2 a0_3 a0_4 l0_5 a0_6 a1_0 a1_1 a1_2 a1_3 a1_4 l1_5 a1_6)) else (damsonref09_Same.j0 k true a0_0 a0_1 a0_2 a0_3 a0_4 l0_5 a0_6 a1_0 a1_1 a1_2 a1_3 a1_4 l1_5 a1_6)) else (damsonref09_Same.j0 k true a0_0 a0_1 a0_2 a0_3 a0_4 l0_5 a0_6 a1_0 a1_1 a1_2 a1_3 a1_4 l1_5 a1_6)) else (damsonref09_Same.j0 k true a0_0 a0_1 a0_2 a0_3 a0_4 l0_5 a0_6 a1_0 a1_1 a1_2 a1_3 a1_4 l1_5 a1_6)) = some r := h
 clear h
 have HC3 := aM_ H
 clear H
 go_enter Try.func35, Try.ntmps35
 go_upto_region 1 with (first | ((with_reducible refine gate_dst (N := 2) rfl ?_); (try (refine gate_guard (by rfl) ?_; dsimp only)); refine box_event ?hg (N := 2) ?hd (cs := #[.int .u64 a0_0, .int .u64 a0_1, .int .u64 a0_2, .int .u64 a0_3, .int .u64 a0_4, .slice A0_5 l0_5.length c0_5, .bool a0_6]) (t := 25) ?hr ?_; (case hd => rfl); (case hg => rfl); (case hr => ((go_simp; done))); intro gb177 hg w4 hbox hb; have BK177 := aM_ (hbox); have GW177 := aM_ (geN HB hg); have GE177 := aM_ (geN HB hg); replace HB := bsA_ HB hb; clear hb hbox hg) | ((with_reducible refine gate_dst (N := 3) rfl ?_); (try (refine gate_guard (by rfl) ?_; dsimp only)); refine box_event ?hg (N := 3) ?hd (cs := #[.int .u64 a1_0, .int .u64 a1_1, .int .u64 a1_2, .int .u64 a1_3, .int .u64 a1_4, .slice A1_5 l1_5.length c1_5, .bool a1_6]) (t := 25) ?hr ?_; (case hd => rfl); (case hg => rfl); (case hr => ((go_simp; done))); intro gb178 hg w5 hbox hb; have BK178 := aM_ (hbox); have GW178 := aM_ (geN HB hg); have GE178 := aM_ (geN HB hg); replace HB := bsA_ HB hb; have NB177_178 := aM_ (neN BK177 hg); have NB178_177 := aM_ (neN' BK177 hg); replace BK177 := bbA_ BK177 hb; clear hb hbox hg))
 (try simp only [Act.put, List.setIfInBounds_toArray, List.set_cons_zero, List.set_cons_succ])
 go_cut [54] (fun v54 wc => ∃ (kq : Nat) (x54_2 : Bool), v54 = .bool x54_2 ∧ Aside0 (damsonref09_Same.j0 kq x54_2 a0_0 a0_1 a0_2 a0_3 a0_4 l0_5 a0_6 a1_0 a1_1 a1_2 a1_3 a1_4 l1_5 a1_6 = some r) ∧ Aside0 (kq ≤ k) ∧ Aside0 (wc.heap[gb177]? = some (.cells #[.int .u64 a0_0, .int .u64 a0_1, .int .u64 a0_2, .int .u64 a0_3, .int .u64 a0_4, (.slice A0_5 l0_5.length c0_5), .bool a0_6] 25 (0, 0))) ∧ Aside0 (wc.heap[gb178]? = some (.cells #[.int .u64 a1_0, .int .u64 a1_1, .int .u64 a1_2, .int .u64 a1_3, .int .u64 a1_4, (.slice A1_5 l1_5.length c1_5), .bool a1_6] 25 (0, 0))) ∧ Aside0 (Below w.heap.size w wc))
 case first =>
  have H := HC3.out
  clear HC3
  by_cases c6 : a0_0 = a1_0
  ·rw [if_pos c6] at H
   have c6b0 : (a0_0 == a1_0) = true := beq_iff_eq.mpr c6
   have c6b1 : (a0_0 != a1_0) = false := bne_eq_false_iff_eq.mpr c6
   clear c6
   ((skip))
   by_cases c7 : a0_1 = a1_1
   ·rw [if_pos c7] at H
    have c7b0 : (a0_1 == a1_1) = true := beq_iff_eq.mpr c7
    have c7b1 : (a0_1 != a1_1) = false := bne_eq_false_iff_eq.mpr c7
    clear c7
    by_cases c8 : a0_2 = a1_2
    ·rw [if_pos c8] at H
     have c8b0 : (a0_2 == a1_2) = true := beq_iff_eq.mpr c8
     have c8b1 : (a0_2 != a1_2) = false := bne_eq_false_iff_eq.mpr c8
     clear c8
     by_cases c9 : a0_3 = a1_3
     ·rw [if_pos c9] at H
      have c9b0 : (a0_3 == a1_3) = true := beq_iff_eq.mpr c9
      have c9b1 : (a0_3 != a1_3) = false := bne_eq_false_iff_eq.mpr c9
      clear c9
      by_cases c10 : a0_4 = a1_4
      ·rw [if_pos c10] at H
       have c10b0 : (a0_4 == a1_4) = true := beq_iff_eq.mpr c10
       have c10b1 : (a0_4 != a1_4) = false := bne_eq_false_iff_eq.mpr c10
       clear c10
       by_cases c11 : (a0_6 != a1_6) = true
       ·rw [if_pos c11] at H
        have c11b0 : (a0_6 != a1_6) = true := c11
        (try (have c11b1 : decide (a0_6 = a1_6) = false := by simpa using c11))
        (try (have c11b2 : (a0_6 == a1_6) = false := by simpa using c11))
        (try (have c11b3 : ¬ (a0_6 = a1_6) := by simpa using c11))
        clear c11
        have H' := aM_ H
        clear H
        have hnb12 := NB177_178.out
        have hnc12 := NB178_177.out
        obtain ⟨hcz13_0, hcz13_1, hcz13_2, hcz13_3, hcz13_4, hcz13_5, hcz13_6, hfz13_0, hfz13_1, hfz13_2, hfz13_3, hfz13_4, hfz13_5, hfz13_6⟩ := cz7_ (w := w5) BK177.out
        obtain ⟨hcz14_0, hcz14_1, hcz14_2, hcz14_3, hcz14_4, hcz14_5, hcz14_6, hfz14_0, hfz14_1, hfz14_2, hfz14_3, hfz14_4, hfz14_5, hfz14_6⟩ := cz7_ (w := w5) BK178.out
        go_wp2
        go_meet
        case rel => exact ⟨_, (true), (by (rfl)), H', ⟨by (omega)⟩, ⟨by (with_reducible repeat (first | refine blk_drewN ?_ _ | refine blk_drew ?_ | refine blk_alloc ?_ _)); exact BK177.out⟩, ⟨by (with_reducible repeat (first | refine blk_drewN ?_ _ | refine blk_drew ?_ | refine blk_alloc ?_ _)); exact BK178.out⟩, ⟨by repeat (((with_reducible (exact HB.out))))⟩⟩
       ·rw [if_neg c11] at H
        have c11b0 : (a0_6 != a1_6) = false := by simpa using c11
        (try (have c11b1 : decide (a0_6 = a1_6) = true := by simpa using c11))
        (try (have c11b2 : (a0_6 == a1_6) = true := by simpa using c11))
        clear c11
        have H' := aM_ H
        clear H
        have hnb15 := NB177_178.out
        have hnc15 := NB178_177.out
        obtain ⟨hcz16_0, hcz16_1, hcz16_2, hcz16_3, hcz16_4, hcz16_5, hcz16_6, hfz16_0, hfz16_1, hfz16_2, hfz16_3, hfz16_4, hfz16_5, hfz16_6⟩ := cz7_ (w := w5) BK177.out
        obtain ⟨hcz17_0, hcz17_1, hcz17_2, hcz17_3, hcz17_4, hcz17_5, hcz17_6, hfz17_0, hfz17_1, hfz17_2, hfz17_3, hfz17_4, hfz17_5, hfz17_6⟩ := cz7_ (w := w5) BK178.out
        go_wp2
        go_meet
        case rel => exact ⟨_, (((l0_5.length : Int) != (l1_5.length : Int))), (by (rfl)), H', ⟨by (omega)⟩, ⟨by (with_reducible repeat (first | refine blk_drewN ?_ _ | refine blk_drew ?_ | refine blk_alloc ?_ _)); exact BK177.out⟩, ⟨by (with_reducible repeat (first | refine blk_drewN ?_ _ | refine blk_drew ?_ | refine blk_alloc ?_ _)); exact BK178.out⟩, ⟨by repeat (((with_reducible (exact HB.out))))⟩⟩
      ·rw [if_neg c10] at H
       have c10b0 : (a0_4 == a1_4) = false := beq_eq_false_iff_ne.mpr c10
       have c10b1 : (a0_4 != a1_4) = true := bne_iff_ne.mpr c10
       have H' := aM_ H
       clear H
       have hnb18 := NB177_178.out
       have hnc18 := NB178_177.out
       obtain ⟨hcz19_0, hcz19_1, hcz19_2, hcz19_3, hcz19_4, hcz19_5, hcz19_6, hfz19_0, hfz19_1, hfz19_2, hfz19_3, hfz19_4, hfz19_5, hfz19_6⟩ := cz7_ (w := w5) BK177.out
       obtain ⟨hcz20_0, hcz20_1, hcz20_2, hcz20_3, hcz20_4, hcz20_5, hcz20_6, hfz20_0, hfz20_1, hfz20_2, hfz20_3, hfz20_4, hfz20_5, hfz20_6⟩ := cz7_ (w := w5) BK178.out
       go_wp2
       go_meet
       case rel => exact ⟨_, (true), (by (rfl)), H', ⟨by (omega)⟩, ⟨by (with_reducible repeat (first | refine blk_drewN ?_ _ | refine blk_drew ?_ | refine blk_alloc ?_ _)); exact BK177.out⟩, ⟨by (with_reducible repeat (first | refine blk_drewN ?_ _ | refine blk_drew ?_ | refine blk_alloc ?_ _)); exact BK178.out⟩, ⟨by repeat (((with_reducible (exact HB.out))))⟩⟩
     ·rw [if_neg c9] at H
      have c9b0 : (a0_3 == a1_3) = false := beq_eq_false_iff_ne.mpr c9
      have c9b1 : (a0_3 != a1_3) = true := bne_iff_ne.mpr c9
      have H' := aM_ H
      clear H
      have hnb21 := NB177_178.out
      have hnc21 := NB178_177.out
      obtain ⟨hcz22_0, hcz22_1, hcz22_2, hcz22_3, hcz22_4, hcz22_5, hcz22_6, hfz22_0, hfz22_1, hfz22_2, hfz22_3, hfz22_4, hfz22_5, hfz22_6⟩ := cz7_ (w := w5) BK177.out
      obtain ⟨hcz23_0, hcz23_1, hcz23_2, hcz23_3, hcz23_4, hcz23_5, hcz23_6, hfz23_0, hfz23_1, hfz23_2, hfz23_3, hfz23_4, hfz23_5, hfz23_6⟩ := cz7_ (w := w5) BK178.out
      go_wp2
      go_meet
      case rel => exact ⟨_, (true), (by (rfl)), H', ⟨by (omega)⟩, ⟨by (with_reducible repeat (first | refine blk_drewN ?_ _ | refine blk_drew ?_ | refine blk_alloc ?_ _)); exact BK177.out⟩, ⟨by (with_reducible repeat (first | refine blk_drewN ?_ _ | refine blk_drew ?_ | refine blk_alloc ?_ _)); exact BK178.out⟩, ⟨by repeat (((with_reducible (exact HB.out))))⟩⟩
    ·rw [if_neg c8] at H
     have c8b0 : (a0_2 == a1_2) = false := beq_eq_false_iff_ne.mpr c8
     have c8b1 : (a0_2 != a1_2) = true := bne_iff_ne.mpr c8
     have H' := aM_ H
     clear H
     have hnb24 := NB177_178.out
     have hnc24 := NB178_177.out
     obtain ⟨hcz25_0, hcz25_1, hcz25_2, hcz25_3, hcz25_4, hcz25_5, hcz25_6, hfz25_0, hfz25_1, hfz25_2, hfz25_3, hfz25_4, hfz25_5, hfz25_6⟩ := cz7_ (w := w5) BK177.out
     obtain ⟨hcz26_0, hcz26_1, hcz26_2, hcz26_3, hcz26_4, hcz26_5, hcz26_6, hfz26_0, hfz26_1, hfz26_2, hfz26_3, hfz26_4, hfz26_5, hfz26_6⟩ := cz7_ (w := w5) BK178.out
     go_wp2
     go_meet
     case rel => exact ⟨_, (true), (by (rfl)), H', ⟨by (omega)⟩, ⟨by (with_reducible repeat (first | refine blk_drewN ?_ _ | refine blk_drew ?_ | refine blk_alloc ?_ _)); exact BK177.out⟩, ⟨by (with_reducible repeat (first | refine blk_drewN ?_ _ | refine blk_drew ?_ | refine blk_alloc ?_ _)); exact BK178.out⟩, ⟨by repeat (((with_reducible (exact HB.out))))⟩⟩
   ·rw [if_neg c7] at H
    have c7b0 : (a0_1 == a1_1) = false := beq_eq_false_iff_ne.mpr c7
    have c7b1 : (a0_1 != a1_1) = true := bne_iff_ne.mpr c7
    have H' := aM_ H
    clear H
    have hnb27 := NB177_178.out
    have hnc27 := NB178_177.out
    obtain ⟨hcz28_0, hcz28_1, hcz28_2, hcz28_3, hcz28_4, hcz28_5, hcz28_6, hfz28_0, hfz28_1, hfz28_2, hfz28_3, hfz28_4, hfz28_5, hfz28_6⟩ := cz7_ (w := w5) BK177.out
    obtain ⟨hcz29_0, hcz29_1, hcz29_2, hcz29_3, hcz29_4, hcz29_5, hcz29_6, hfz29_0, hfz29_1, hfz29_2, hfz29_3, hfz29_4, hfz29_5, hfz29_6⟩ := cz7_ (w := w5) BK178.out
    go_wp2
    go_meet
    case rel => exact ⟨_, (true), (by (rfl)), H', ⟨by (omega)⟩, ⟨by (with_reducible repeat (first | refine blk_drewN ?_ _ | refine blk_drew ?_ | refine blk_alloc ?_ _)); exact BK177.out⟩, ⟨by (with_reducible repeat (first | refine blk_drewN ?_ _ | refine blk_drew ?_ | refine blk_alloc ?_ _)); exact BK178.out⟩, ⟨by repeat (((with_reducible (exact HB.out))))⟩⟩
  ·rw [if_neg c6] at H
   have c6b0 : (a0_0 == a1_0) = false := beq_eq_false_iff_ne.mpr c6
   have c6b1 : (a0_0 != a1_0) = true := bne_iff_ne.mpr c6
   ((skip))
   have H' := aM_ H
   clear H
   have hnb30 := NB177_178.out
   have hnc30 := NB178_177.out
   obtain ⟨hcz31_0, hcz31_1, hcz31_2, hcz31_3, hcz31_4, hcz31_5, hcz31_6, hfz31_0, hfz31_1, hfz31_2, hfz31_3, hfz31_4, hfz31_5, hfz31_6⟩ := cz7_ (w := w5) BK177.out
   obtain ⟨hcz32_0, hcz32_1, hcz32_2, hcz32_3, hcz32_4, hcz32_5, hcz32_6, hfz32_0, hfz32_1, hfz32_2, hfz32_3, hfz32_4, hfz32_5, hfz32_6⟩ := cz7_ (w := w5) BK178.out
   go_wp2
   go_meet
   case rel => exact ⟨_, (true), (by (rfl)), H', ⟨by (omega)⟩, ⟨by (with_reducible repeat (first | refine blk_drewN ?_ _ | refine blk_drew ?_ | refine blk_alloc ?_ _)); exact BK177.out⟩, ⟨by (with_reducible repeat (first | refine blk_drewN ?_ _ | refine blk_drew ?_ | refine blk_alloc ?_ _)); exact BK178.out⟩, ⟨by repeat (((with_reducible (exact HB.out))))⟩⟩
 case rest =>
  clear HC3
  obtain ⟨kq, x54_2, rfl, HA, HJ2, BK177, BK178, HB⟩ := hcut
  cases kq with
  | zero => exact absurd HA.out (by simp [damsonref09_Same.j0])
  | succ kj2 =>
   have H := HA.out
   clear HA
   simp only [damsonref09_Same.j0] at H
   by_cases c33 : x54_2 = true
   ·subst c33
    have H1 : (some false) = some r := by rw [if_pos rfl] at H; exact H
    clear H
    have H := H1
    clear H1
    obtain rfl := Option.some.inj H
    go_wp2
    go_ret
    exact ⟨by (rfl), by repeat (((with_reducible (exact HB.out))))⟩
   ·replace c33 := Bool.eq_false_iff.mpr c33
    subst c33
    have H1 : (damsonref09_Same.l0 kj2 (l0_5.length : Int) 0 a0_0 a0_1 a0_2 a0_3 a0_4 l0_5 a0_6 a1_0 a1_1 a1_2 a1_3 a1_4 l1_5 a1_6) = some r := by rw [if_neg (show ¬ (false = true) by decide)] at H; exact H
    clear H
    have H := H1
    clear H1
    have H' := aM_ H
    clear H
    have hnb34 := NB177_178.out
    have hnc34 := NB178_177.out
    obtain ⟨hcz35_0, hcz35_1, hcz35_2, hcz35_3, hcz35_4, hcz35_5, hcz35_6, hfz35_0, hfz35_1, hfz35_2, hfz35_3, hfz35_4, hfz35_5, hfz35_6⟩ := cz7_ (w := wc) BK177.out
    go_wp2
    go_loopg [58] kj2 (fun kq v58 w' => ∃ (x58_2 : Int), v58 = .int .i64 x58_2 ∧ Aside0 (damsonref09_Same.l0 kq (l0_5.length : Int) x58_2 a0_0 a0_1 a0_2 a0_3 a0_4 l0_5 a0_6 a1_0 a1_1 a1_2 a1_3 a1_4 l1_5 a1_6 = some r) ∧ Aside0 (kq ≤ kj2) ∧ Aside0 (w'.heap[gb177]? = some (.cells #[.int .u64 a0_0, .int .u64 a0_1, .int .u64 a0_2, .int .u64 a0_3, .int .u64 a0_4, (.slice A0_5 l0_5.length c0_5), .bool a0_6] 25 (0, 0))) ∧ Aside0 (w'.heap[gb178]? = some (.cells #[.int .u64 a1_0, .int .u64 a1_1, .int .u64 a1_2, .int .u64 a1_3, .int .u64 a1_4, (.slice A1_5 l1_5.length c1_5), .bool a1_6] 25 (0, 0))) ∧ Aside0 (Below w.heap.size w w'))
    case atStart => exact ⟨(0), (by (rfl)), H', ⟨Nat.le_refl _⟩, ⟨by (with_reducible repeat (first | refine blk_drewN ?_ _ | refine blk_drew ?_ | refine blk_alloc ?_ _)); exact BK177.out⟩, ⟨by (with_reducible repeat (first | refine blk_drewN ?_ _ | refine blk_drew ?_ | refine blk_alloc ?_ _)); exact BK178.out⟩, ⟨by repeat (((with_reducible (exact HB.out))))⟩⟩
    case round =>
     clear H'
     try clear hcz35_0
     try clear hcz35_1
     try clear hcz35_2
     try clear hcz35_3
     try clear hcz35_4
     try clear hcz35_5
     try clear hcz35_6
     try clear hfz35_0
     try clear hfz35_1
     try clear hfz35_2
     try clear hfz35_3
     try clear hfz35_4
     try clear hfz35_5
     try clear hfz35_6
     obtain ⟨x58_2, rfl, HA, HK2, BK177, BK178, HB⟩ := hrel
     cases gk with
     | zero => exact absurd HA.out (by simp [damsonref09_Same.l0])
     | succ k2 =>
      have H := HA.out
      clear HA
      simp only [damsonref09_Same.l0] at H
      by_cases c36 : x58_2 < (l0_5.length : Int)
      ·rw [if_pos c36] at H
       have c36b0 := decide_eq_true c36
       clear c36
       by_cases c37 : 0 ≤ x58_2
       ·rw [if_pos c37] at H
        have c37b0 := decide_eq_true c37
        clear c37
        by_cases c38 : x58_2 < (l0_5.length : Int)
        ·rw [if_pos c38] at H
         have c38b0 := decide_eq_true c38
         clear c38
         by_cases c39 : x58_2 < (l1_5.length : Int)
         ·rw [if_pos c39] at H
          have c39b0 := decide_eq_true c39
          clear c39
          by_cases c40 : (!(((rd_T44 l0_5 x58_2).f0) == ((rd_T44 l1_5 x58_2).f0)) || (!(((rd_T44 l0_5 x58_2).f1) == ((rd_T44 l1_5 x58_2).f1)))) = true
          ·rw [if_pos c40] at H
           have c40b0 : (!(((rd_T44 l0_5 x58_2).f0) == ((rd_T44 l1_5 x58_2).f0)) || (!(((rd_T44 l0_5 x58_2).f1) == ((rd_T44 l1_5 x58_2).f1)))) = true := c40
           clear c40
           obtain rfl := Option.some.inj H
           have hnb41 := NB177_178.out
           have hnc41 := NB178_177.out
           obtain ⟨hcz42_0, hcz42_1, hcz42_2, hcz42_3, hcz42_4, hcz42_5, hcz42_6, hfz42_0, hfz42_1, hfz42_2, hfz42_3, hfz42_4, hfz42_5, hfz42_6⟩ := cz7_ (w := wr) BK177.out
           have p179 : 0 ≤ (x58_2 : Int) := of_decide_eq_true (by ((with_reducible assumption)))
           have q179 : x58_2 < (l0_5.length : Int) := of_decide_eq_true (by ((with_reducible assumption)))
           obtain ⟨ad179, e179, hx179_0, hx179_1⟩ := at_T44 HR0_5.out x58_2 p179 q179
           cases e179
           replace hx179_0 := cN_ HB hx179_0
           replace hx179_1 := cN_ HB hx179_1
           replace p179 := eq_true p179
           replace q179 := eq_true q179
           obtain ⟨hcz43_0, hcz43_1, hcz43_2, hcz43_3, hcz43_4, hcz43_5, hcz43_6, hfz43_0, hfz43_1, hfz43_2, hfz43_3, hfz43_4, hfz43_5, hfz43_6⟩ := cz7_ (w := wr) BK178.out
           have p180 : 0 ≤ (x58_2 : Int) := of_decide_eq_true (by ((with_reducible assumption)))
           have q180 : x58_2 < (l1_5.length : Int) := of_decide_eq_true (by ((with_reducible assumption)))
           obtain ⟨ad180, e180, hx180_0, hx180_1⟩ := at_T44 HR1_5.out x58_2 p180 q180
           cases e180
           replace hx180_0 := cN_ HB hx180_0
           replace hx180_1 := cN_ HB hx180_1
           replace p180 := eq_true p180
           replace q180 := eq_true q180
           go_wp2
           repeat (go_quiet (fail); try go_wp2)
           go_ret
           exact ⟨by (rfl), by repeat (((with_reducible first | exact HB.out | apply pw_below_drewN)))⟩
          ·rw [if_neg c40] at H
           have c40b0 : (!(((rd_T44 l0_5 x58_2).f0) == ((rd_T44 l1_5 x58_2).f0)) || (!(((rd_T44 l0_5 x58_2).f1) == ((rd_T44 l1_5 x58_2).f1)))) = false := by simpa using c40
           clear c40
           have H' := aM_ H
           clear H
           have hnb44 := NB177_178.out
           have hnc44 := NB178_177.out
           obtain ⟨hcz45_0, hcz45_1, hcz45_2, hcz45_3, hcz45_4, hcz45_5, hcz45_6, hfz45_0, hfz45_1, hfz45_2, hfz45_3, hfz45_4, hfz45_5, hfz45_6⟩ := cz7_ (w := wr) BK177.out
           have p179 : 0 ≤ (x58_2 : Int) := of_decide_eq_true (by ((with_reducible assumption)))
           have q179 : x58_2 < (l0_5.length : Int) := of_decide_eq_true (by ((with_reducible assumption)))
           obtain ⟨ad179, e179, hx179_0, hx179_1⟩ := at_T44 HR0_5.out x58_2 p179 q179
           cases e179
           replace hx179_0 := cN_ HB hx179_0
           replace hx179_1 := cN_ HB hx179_1
           replace p179 := eq_true p179
           replace q179 := eq_true q179
           obtain ⟨hcz46_0, hcz46_1, hcz46_2, hcz46_3, hcz46_4, hcz46_5, hcz46_6, hfz46_0, hfz46_1, hfz46_2, hfz46_3, hfz46_4, hfz46_5, hfz46_6⟩ := cz7_ (w := wr) BK178.out
           have p180 : 0 ≤ (x58_2 : Int) := of_decide_eq_true (by ((with_reducible assumption)))
           have q180 : x58_2 < (l1_5.length : Int) := of_decide_eq_true (by ((with_reducible assumption)))
           obtain ⟨ad180, e180, hx180_0, hx180_1⟩ := at_T44 HR1_5.out x58_2 p180 q180
           cases e180
           replace hx180_0 := cN_ HB hx180_0
           replace hx180_1 := cN_ HB hx180_1
           replace p180 := eq_true p180
           replace q180 := eq_true q180
           go_wp2
           repeat (go_quiet (fail); try go_wp2)
           go_roundg k2
           case measure => have := HJ2.out; have := HK2.out; omega
           case rel => exact ⟨(wrap64 (x58_2 + 1)), (by (rfl)), H', ⟨by have := HJ2.out; have := HK2.out; omega⟩, ⟨by (with_reducible repeat ((refine blk_drewN ?_ _))); exact BK177.out⟩, ⟨by (with_reducible repeat ((refine blk_drewN ?_ _))); exact BK178.out⟩, ⟨by repeat (((with_reducible first | exact HB.out | apply pw_below_drewN)))⟩⟩
         ·rw [if_neg c39] at H
          exact absurd H (by simp)
        ·rw [if_neg c38] at H
         exact absurd H (by simp)
       ·rw [if_neg c37] at H
        exact absurd H (by simp)
      ·rw [if_neg c36] at H
       have c36b0 := decide_eq_false c36
       clear c36
       obtain rfl := Option.some.inj H
       go_wp2
       go_ret
       exact ⟨by (rfl), by repeat (((with_reducible (exact HB.out))))⟩

end Go.Proofs.Ytcfbcoinbecdfaa.P
