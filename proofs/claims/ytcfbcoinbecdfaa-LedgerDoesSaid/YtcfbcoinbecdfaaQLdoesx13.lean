-- written by a program of this session (wip/print)
import Derived.Test.YtcfbcoinbecdfaaQLdoesx0
import Derived.Test.YtcfbcoinbecdfaaQLdoesx11
import Derived.Test.YtcfbcoinbecdfaaQLdoesx12
namespace Go.Proofs.Ytcfbcoinbecdfaa.P
open Go.RowKit Go.Proofs.YtcfbcoinbecdfaaW.PrintWords Go.Proofs.YtcfbcoinbecdfaaW.PrintLast Go.Proofs.YtcfbcoinbecdfaaW.PrintMore
attribute [local go_sem] max2_int min2_int max_two min_two max_three min_three max_four min_four run_sub64_   -- for this text's walks alone
set_option linter.unusedVariables false
set_option linter.unusedSimpArgs false

/-! ### damsonref10_where: function 108 -/
mutual
def damsonref10_where.l0 : Nat → Int → List (S25) → Int → Int → Option (Int)
  | 0, _, _, _, _ => none
  | k + 1, x1, x9, x10, x11 => if x11 < x10 then (if 0 ≤ x11 then (if x11 < (x9.length : Int) then (damsonref10_where.l1 k x1 x11 x9 x10 x11 ((rd_T25 x9 x11).f5) (((rd_T25 x9 x11).f5).length : Int) 0) else (none)) else (none)) else (some (-1))
def damsonref10_where.l1 : Nat → Int → Int → List (S25) → Int → Int → List (S44) → Int → Int → Option (Int)
  | 0, _, _, _, _, _, _, _, _ => none
  | k + 1, x1, x5, x9, x10, x11, x17, x18, x19 => if x19 < x18 then (if 0 ≤ x19 then (if x19 < (x17.length : Int) then (if ((rd_T44 x17 x19).f0) = x1 then (some x5) else (damsonref10_where.l1 k x1 x5 x9 x10 x11 x17 x18 (wrap64 (x19 + 1)))) else (none)) else (none)) else (damsonref10_where.l0 k x1 x9 x10 (wrap64 (x11 + 1)))
end
def damsonref10_where.f (k : Nat) (l0 : List (S25)) (a1 : Int) : Option (Int) := damsonref10_where.l0 k a1 l0 (l0.length : Int) 0
theorem damsonref10_where.mono_l : ∀ k, (∀ y0 y1 y2 y3, LeO (damsonref10_where.l0 k y0 y1 y2 y3) (damsonref10_where.l0 (k + 1) y0 y1 y2 y3)) ∧ (∀ y0 y1 y2 y3 y4 y5 y6 y7, LeO (damsonref10_where.l1 k y0 y1 y2 y3 y4 y5 y6 y7) (damsonref10_where.l1 (k + 1) y0 y1 y2 y3 y4 y5 y6 y7))
  | 0 => ⟨fun _ _ _ _ r h => by simp [damsonref10_where.l0] at h, fun _ _ _ _ _ _ _ _ r h => by simp [damsonref10_where.l1] at h⟩
  | k + 1 => by
    obtain ⟨ih0, ih1⟩ := damsonref10_where.mono_l k
    refine ⟨?_, ?_⟩
    · intro y0 y1 y2 y3
      unfold damsonref10_where.l0
      repeat' first
      | (with_reducible exact ih1 _ _ _ _ _ _ _ _)
      | (with_reducible exact LeO.refl _)
      | (with_reducible refine LeO.ite ?_ ?_)
      | exact ih0 _ _ _ _
      | exact ih1 _ _ _ _ _ _ _ _
      | exact LeO.none _
      | refine LeO.ite ?_ ?_
      | refine LeO.bind ?_ (fun _ => ?_)
    · intro y0 y1 y2 y3 y4 y5 y6 y7
      unfold damsonref10_where.l1
      repeat' first
      | (with_reducible exact ih0 _ _ _ _)
      | (with_reducible exact ih1 _ _ _ _ _ _ _ _)
      | (with_reducible exact LeO.refl _)
      | (with_reducible refine LeO.ite ?_ ?_)
      | exact ih0 _ _ _ _
      | exact ih1 _ _ _ _ _ _ _ _
      | exact LeO.none _
      | refine LeO.ite ?_ ?_
      | refine LeO.bind ?_ (fun _ => ?_)
theorem damsonref10_where.mono : ∀ a0 a1 k, LeO (damsonref10_where.f k a0 a1) (damsonref10_where.f (k + 1) a0 a1) := by
  intro a0 a1 k
  obtain ⟨ih0, ih1⟩ := damsonref10_where.mono_l k
  unfold damsonref10_where.f
  repeat' first
      | (with_reducible exact ih0 _ _ _ _)
      | exact ih0 _ _ _ _
      | exact ih1 _ _ _ _ _ _ _ _
      | exact LeO.none _
      | refine LeO.ite ?_ ?_
      | refine LeO.bind ?_ (fun _ => ?_)
set_option maxHeartbeats 8000000 in
set_option maxRecDepth 100000 in
theorem damsonref10_where.calls (k : Nat) (A0 : Option Addr) (c0 : Nat) (l0 : List (S25)) (a1 : Int) (r : Int) (w : World) (hr0 : Kd.C k25 w A0 l0.length l0) (hc0 : l0.length ≤ c0) (h : damsonref10_where.f k l0 a1 = some r) :
    Calls Try.prog 108 #[.slice A0 l0.length c0, .int .u64 a1] w fun e w' => e = .returned (.int .i64 r) ∧ Below w.heap.size w w' := by
  have hu25 := Try.underlying25
  have hu44 := Try.underlying44
  have HR0 := aM_ hr0
  have HC0 := aM_ hc0
  clear hr0 hc0
  have HB := aM_ (Below.refl w.heap.size w)
  have H : (damsonref10_where.l0 k a1 l0 (l0.length : Int) 0) = some r := h
  clear h
  have H' := aM_ H
  clear H
  go_enter Try.func108, Try.ntmps108
  go_wp2
  go_loopg [11] k (fun kq v11 w' => ∃ (x11_1 : Int), v11 = .int .i64 x11_1 ∧ Aside0 (damsonref10_where.l0 kq a1 l0 (l0.length : Int) x11_1 = some r) ∧ Aside0 (kq ≤ k) ∧ Aside0 (Below w.heap.size w w'))
  case atStart => exact ⟨(0), (by (rfl)), H', ⟨Nat.le_refl _⟩, ⟨by repeat (((with_reducible (exact HB.out))))⟩⟩
  case round =>
    clear H'
    obtain ⟨x11_1, rfl, HA, HK1, HB⟩ := hrel
    cases gk with
    | zero => exact absurd HA.out (by simp [damsonref10_where.l0])
    | succ k1 =>
      have H := HA.out
      clear HA
      simp only [damsonref10_where.l0] at H
      by_cases c3 : x11_1 < (l0.length : Int)
      · rw [if_pos c3] at H
        have c3b0 := decide_eq_true c3
        clear c3
        by_cases c4 : 0 ≤ x11_1
        · rw [if_pos c4] at H
          have c4b0 := decide_eq_true c4
          clear c4
          by_cases c5 : x11_1 < (l0.length : Int)
          · rw [if_pos c5] at H
            have c5b0 := decide_eq_true c5
            clear c5
            have H' := aM_ H
            clear H
            have p279 : 0 ≤ (x11_1 : Int) := of_decide_eq_true (by ((with_reducible assumption)))
            have q279 : x11_1 < (l0.length : Int) := of_decide_eq_true (by ((with_reducible assumption)))
            obtain ⟨ad279, A279_5, c279_5, e279, hx279_0, hx279_1, hx279_2, hx279_3, hx279_4, hx279_5, hx279_6, hl279_5, hi279_5⟩ := at_T25 HR0.out x11_1 p279 q279
            cases e279
            replace hx279_0 := cN_ HB hx279_0
            replace hx279_1 := cN_ HB hx279_1
            replace hx279_2 := cN_ HB hx279_2
            replace hx279_3 := cN_ HB hx279_3
            replace hx279_4 := cN_ HB hx279_4
            replace hx279_5 := cN_ HB hx279_5
            replace hx279_6 := cN_ HB hx279_6
            have HR279_5 := aM_ hi279_5
            have HC279_5 := aM_ hl279_5
            clear hi279_5 hl279_5
            replace p279 := eq_true p279
            replace q279 := eq_true q279
            go_wp2_with ((((with_reducible refine gate_dst (N := 6) rfl ?_); refine box_event ?hg (N := 6) ?hd (cs := #[.int .u64 0, .int .u64 0, .int .u64 0, .int .u64 0, .int .u64 0, .slice none 0 0, .bool false]) (t := 25) ?hr ?_; (case hd => rfl); (case hg => rfl); (case hr => ((go_simp; done))); intro gb280 hg w6 hbox hb; have BK280 := aM_ (hbox); have GW280 := aM_ (geN HB hg); have GE280 := aM_ (geN HB hg); replace HB := bsA_ HB hb; clear hb hbox hg; obtain ⟨hcz7_0, hcz7_1, hcz7_2, hcz7_3, hcz7_4, hcz7_5, hcz7_6, hfz7_0, hfz7_1, hfz7_2, hfz7_3, hfz7_4, hfz7_5, hfz7_6⟩ := cz7_ (w := w6) BK280.out)))
            go_loopg [19] k1 (fun kq v19 w' => ∃ (x19_2 : Int), v19 = .int .i64 x19_2 ∧ Aside0 (damsonref10_where.l1 kq a1 x11_1 l0 (l0.length : Int) x11_1 ((rd_T25 l0 x11_1).f5) (((rd_T25 l0 x11_1).f5).length : Int) x19_2 = some r) ∧ Aside0 (kq ≤ k1) ∧ Aside0 (w'.heap[gb280]? = some (.cells #[.int .u64 ((rd_T25 l0 x11_1).f0), .int .u64 ((rd_T25 l0 x11_1).f1), .int .u64 ((rd_T25 l0 x11_1).f2), .int .u64 ((rd_T25 l0 x11_1).f3), .int .u64 ((rd_T25 l0 x11_1).f4), (.slice A279_5 ((rd_T25 l0 x11_1).f5).length c279_5), .bool ((rd_T25 l0 x11_1).f6)] 25 (0, 0))) ∧ Aside0 (Below w.heap.size w w'))
            case atStart => exact ⟨(0), (by (rfl)), H', ⟨Nat.le_refl _⟩, ⟨by apply bp7_; exact BK280.out⟩, ⟨by repeat (((with_reducible first | exact HB.out | refine below_set ?_ GE280.out)))⟩⟩
            case round =>
              clear H'
              try clear c3b0
              try clear c4b0
              try clear c5b0
              try clear hcz7_0
              try clear hcz7_1
              try clear hcz7_2
              try clear hcz7_3
              try clear hcz7_4
              try clear hcz7_5
              try clear hcz7_6
              try clear hfz7_0
              try clear hfz7_1
              try clear hfz7_2
              try clear hfz7_3
              try clear hfz7_4
              try clear hfz7_5
              try clear hfz7_6
              try clear hx279_0
              try clear hx279_1
              try clear hx279_2
              try clear hx279_3
              try clear hx279_4
              try clear hx279_5
              try clear hx279_6
              try clear p279
              try clear q279
              obtain ⟨x19_2, rfl, HA, HK2, BK280, HB⟩ := hrel
              cases gk with
              | zero => exact absurd HA.out (by simp [damsonref10_where.l1])
              | succ k2 =>
                have H := HA.out
                clear HA
                simp only [damsonref10_where.l1] at H
                by_cases c8 : x19_2 < (((rd_T25 l0 x11_1).f5).length : Int)
                · rw [if_pos c8] at H
                  have c8b0 := decide_eq_true c8
                  clear c8
                  by_cases c9 : 0 ≤ x19_2
                  · rw [if_pos c9] at H
                    have c9b0 := decide_eq_true c9
                    clear c9
                    by_cases c10 : x19_2 < (((rd_T25 l0 x11_1).f5).length : Int)
                    · rw [if_pos c10] at H
                      have c10b0 := decide_eq_true c10
                      clear c10
                      by_cases c11 : ((rd_T44 ((rd_T25 l0 x11_1).f5) x19_2).f0) = a1
                      · rw [if_pos c11] at H
                        have c11b0 : (((rd_T44 ((rd_T25 l0 x11_1).f5) x19_2).f0) == a1) = true := beq_iff_eq.mpr c11
                        have c11b1 : (((rd_T44 ((rd_T25 l0 x11_1).f5) x19_2).f0) != a1) = false := bne_eq_false_iff_eq.mpr c11
                        clear c11
                        obtain rfl := Option.some.inj H
                        have p281 : 0 ≤ (x19_2 : Int) := of_decide_eq_true (by ((with_reducible assumption)))
                        have q281 : x19_2 < (((rd_T25 l0 x11_1).f5).length : Int) := of_decide_eq_true (by ((with_reducible assumption)))
                        obtain ⟨ad281, e281, hx281_0, hx281_1⟩ := at_T44 HR279_5.out x19_2 p281 q281
                        cases e281
                        replace hx281_0 := cN_ HB hx281_0
                        replace hx281_1 := cN_ HB hx281_1
                        replace p281 := eq_true p281
                        replace q281 := eq_true q281
                        go_wp2_with ((((with_reducible refine gate_dst (N := 8) rfl ?_); refine box_event ?hg (N := 8) ?hd (cs := #[.int .u64 0, .int .u64 0]) (t := 44) ?hr ?_; (case hd => rfl); (case hg => rfl); (case hr => ((go_simp; done))); intro gb282 hg w12 hbox hb; have BK282 := aM_ (hbox); have GW282 := aM_ (geN HB hg); have GE282 := aM_ (geN HB hg); replace HB := bsA_ HB hb; have NB280_282 := aM_ (neN BK280 hg); have NB282_280 := aM_ (neN' BK280 hg); replace BK280 := bbA_ BK280 hb; clear hb hbox hg; have hnb13 := NB282_280.out; have hnc13 := NB280_282.out; obtain ⟨hcz14_0, hcz14_1, hfz14_0, hfz14_1⟩ := cz2_ (w := w12) BK282.out)))
                        go_ret
                        exact ⟨by (rfl), by repeat (((with_reducible first | exact HB.out | refine below_set ?_ GE282.out)))⟩
                      · rw [if_neg c11] at H
                        have c11b0 : (((rd_T44 ((rd_T25 l0 x11_1).f5) x19_2).f0) == a1) = false := beq_eq_false_iff_ne.mpr c11
                        have c11b1 : (((rd_T44 ((rd_T25 l0 x11_1).f5) x19_2).f0) != a1) = true := bne_iff_ne.mpr c11
                        have H' := aM_ H
                        clear H
                        have p281 : 0 ≤ (x19_2 : Int) := of_decide_eq_true (by ((with_reducible assumption)))
                        have q281 : x19_2 < (((rd_T25 l0 x11_1).f5).length : Int) := of_decide_eq_true (by ((with_reducible assumption)))
                        obtain ⟨ad281, e281, hx281_0, hx281_1⟩ := at_T44 HR279_5.out x19_2 p281 q281
                        cases e281
                        replace hx281_0 := cN_ HB hx281_0
                        replace hx281_1 := cN_ HB hx281_1
                        replace p281 := eq_true p281
                        replace q281 := eq_true q281
                        go_wp2_with ((((with_reducible refine gate_dst (N := 8) rfl ?_); refine box_event ?hg (N := 8) ?hd (cs := #[.int .u64 0, .int .u64 0]) (t := 44) ?hr ?_; (case hd => rfl); (case hg => rfl); (case hr => ((go_simp; done))); intro gb282 hg w15 hbox hb; have BK282 := aM_ (hbox); have GW282 := aM_ (geN HB hg); have GE282 := aM_ (geN HB hg); replace HB := bsA_ HB hb; have NB280_282 := aM_ (neN BK280 hg); have NB282_280 := aM_ (neN' BK280 hg); replace BK280 := bbA_ BK280 hb; clear hb hbox hg; have hnb16 := NB282_280.out; have hnc16 := NB280_282.out; obtain ⟨hcz17_0, hcz17_1, hfz17_0, hfz17_1⟩ := cz2_ (w := w15) BK282.out)))
                        go_roundg k2
                        case measure => have := HK1.out; have := HK2.out; omega
                        case rel => exact ⟨(wrap64 (x19_2 + 1)), (by (rfl)), H', ⟨by have := HK1.out; have := HK2.out; omega⟩, ⟨by refine blk_far ?_ NB280_282.out _; refine blk_far ?_ NB280_282.out _; exact BK280.out⟩, ⟨by repeat (((with_reducible first | exact HB.out | refine below_set ?_ GE282.out)))⟩⟩
                    · rw [if_neg c10] at H
                      exact absurd H (by simp)
                  · rw [if_neg c9] at H
                    exact absurd H (by simp)
                · rw [if_neg c8] at H
                  have c8b0 := decide_eq_false c8
                  clear c8
                  have H' := aM_ H
                  clear H
                  go_wp2
                  go_roundg k2
                  case measure => have := HK1.out; have := HK2.out; omega
                  case rel => exact ⟨(wrap64 (x11_1 + 1)), (by (rfl)), H', ⟨by have := HK1.out; have := HK2.out; omega⟩, ⟨by repeat (((with_reducible (exact HB.out))))⟩⟩
          · rw [if_neg c5] at H
            exact absurd H (by simp)
        · rw [if_neg c4] at H
          exact absurd H (by simp)
      · rw [if_neg c3] at H
        have c3b0 := decide_eq_false c3
        clear c3
        obtain rfl := Option.some.inj H
        go_wp2
        go_ret
        exact ⟨by (rfl), by repeat (((with_reducible (exact HB.out))))⟩

/-! ### damsonref09_Held: function 29 -/
def damsonref09_Held.f (k : Nat) (a0_0 : Int) (a0_1 : Int) (a0_2 : Int) (a0_3 : Int) (a0_4 : Int) (l0_5 : List (S44)) (a0_6 : Bool) : Option (Int × Int) := (damsonref09_Check.f k a0_0 a0_1 a0_2 a0_3 a0_4 l0_5 a0_6).bind fun t284 => (if t284 = 0 then ((damsonref09_amounts.f k l0_5).bind fun t285 => ((damsonref04_Add.f k t285).bind fun bt288 => (some (bt288.1, bt288.2)))) else (some (0, 1)))
theorem damsonref09_Held.mono : ∀ a0 a1 a2 a3 a4 a5 a6 k, LeO (damsonref09_Held.f k a0 a1 a2 a3 a4 a5 a6) (damsonref09_Held.f (k + 1) a0 a1 a2 a3 a4 a5 a6) := by
  intro a0 a1 a2 a3 a4 a5 a6 k
  unfold damsonref09_Held.f
  repeat' first
      | (with_reducible exact damsonref04_Add.mono _ _)
      | (with_reducible exact damsonref09_Check.mono _ _ _ _ _ _ _ _)
      | (with_reducible exact damsonref09_amounts.mono _ _)
      | (with_reducible exact LeO.refl _)
      | (with_reducible refine LeO.ite ?_ ?_)
      | (with_reducible refine LeO.bind ?_ (fun _ => ?_))
      | exact damsonref04_Add.mono _ _
      | exact damsonref09_Check.mono _ _ _ _ _ _ _ _
      | exact damsonref09_amounts.mono _ _
      | exact LeO.none _
      | refine LeO.ite ?_ ?_
      | refine LeO.bind ?_ (fun _ => ?_)
set_option maxHeartbeats 8000000 in
set_option maxRecDepth 100000 in
theorem damsonref09_Held.calls (k : Nat) (a0_0 : Int) (a0_1 : Int) (a0_2 : Int) (a0_3 : Int) (a0_4 : Int) (A0_5 : Option Addr) (c0_5 : Nat) (l0_5 : List (S44)) (a0_6 : Bool) (r1 : Int) (r2 : Int) (w : World) (hr0_5 : Kd.C k44 w A0_5 l0_5.length l0_5) (hc0_5 : l0_5.length ≤ c0_5) (h : damsonref09_Held.f k a0_0 a0_1 a0_2 a0_3 a0_4 l0_5 a0_6 = some (r1, r2)) :
    Calls Try.prog 29 #[.agg #[.int .u64 a0_0, .int .u64 a0_1, .int .u64 a0_2, .int .u64 a0_3, .int .u64 a0_4, .slice A0_5 l0_5.length c0_5, .bool a0_6]] w fun e w' => e = .returned (.tuple #[.int .u64 r1, .int .i64 r2]) ∧ Below w.heap.size w w' := by
  have hu25 := Try.underlying25
  have HR0_5 := aM_ hr0_5
  have HC0_5 := aM_ hc0_5
  clear hr0_5 hc0_5
  have HB := aM_ (Below.refl w.heap.size w)
  have H : ((damsonref09_Check.f k a0_0 a0_1 a0_2 a0_3 a0_4 l0_5 a0_6).bind fun t284 => (if t284 = 0 then ((damsonref09_amounts.f k l0_5).bind fun t285 => ((damsonref04_Add.f k t285).bind fun bt288 => (some (bt288.1, bt288.2)))) else (some (0, 1)))) = some (r1, r2) := h
  clear h
  replace H := oB_ H
  obtain ⟨t284, A20, H⟩ := H
  replace H : (if t284 = 0 then ((damsonref09_amounts.f k l0_5).bind fun t285 => ((damsonref04_Add.f k t285).bind fun bt288 => (some (bt288.1, bt288.2)))) else (some (0, 1))) = some (r1, r2) := H
  have A2 := aM_ A20
  clear A20
  by_cases c3 : t284 = 0
  · rw [if_pos c3] at H
    have c3b0 : (t284 == 0) = true := beq_iff_eq.mpr c3
    have c3b1 : (t284 != 0) = false := bne_eq_false_iff_eq.mpr c3
    clear c3
    replace H := oB_ H
    obtain ⟨t285, A40, H⟩ := H
    replace H : ((damsonref04_Add.f k t285).bind fun bt288 => (some (bt288.1, bt288.2))) = some (r1, r2) := H
    have A4 := aM_ A40
    clear A40
    replace H := oB_ H
    obtain ⟨⟨t288, t289⟩, A50, H⟩ := H
    replace H : (some (t288, t289)) = some (r1, r2) := H
    have A5 := aM_ A50
    clear A50
    simp only [Option.some.injEq, Prod.mk.injEq] at H
    obtain ⟨rfl, rfl⟩ := H
    go_enter Try.func29, Try.ntmps29
    go_wp2_with (first | ((with_reducible refine gate_dst (N := 1) rfl ?_); refine box_event ?hg (N := 1) ?hd (cs := #[.int .u64 a0_0, .int .u64 a0_1, .int .u64 a0_2, .int .u64 a0_3, .int .u64 a0_4, .slice A0_5 l0_5.length c0_5, .bool a0_6]) (t := 25) ?hr ?_; (case hd => rfl); (case hg => rfl); (case hr => ((go_simp; done))); intro gb283 hg w6 hbox hb; have BK283 := aM_ (hbox); have GW283 := aM_ (geN HB hg); have GE283 := aM_ (geN HB hg); replace HB := bsA_ HB hb; clear hb hbox hg; obtain ⟨hcz7_0, hcz7_1, hcz7_2, hcz7_3, hcz7_4, hcz7_5, hcz7_6, hfz7_0, hfz7_1, hfz7_2, hfz7_3, hfz7_4, hfz7_5, hfz7_6⟩ := cz7_ (w := w6) BK283.out) | ((with_reducible refine gate_callee (f := 34) rfl ?_); refine gL_ 5 Try.func34 #[.agg #[.int .u64 a0_0, .int .u64 a0_1, .int .u64 a0_2, .int .u64 a0_3, .int .u64 a0_4, .slice A0_5 l0_5.length c0_5, .bool a0_6]] ?_; (with_reducible refine (damsonref09_Check.calls k a0_0 a0_1 a0_2 a0_3 a0_4 _ _ l0_5 a0_6 t284 _ ?side1 ?side2 A2.out).mono ?_); (case side1 => repeat ((exact (Kd.C_below HR0_5.out HB.out)))); (case side2 => exact HC0_5.out); rintro e w8 ⟨rfl, hb⟩; refine ⟨_, rfl, ?_⟩; replace BK283 := bbA_ BK283 hb; replace HB := bsA_ HB hb; (try clear hb); obtain ⟨hcz9_0, hcz9_1, hcz9_2, hcz9_3, hcz9_4, hcz9_5, hcz9_6, hfz9_0, hfz9_1, hfz9_2, hfz9_3, hfz9_4, hfz9_5, hfz9_6⟩ := cz7_ (w := w8) BK283.out) | ((with_reducible refine gate_callee (f := 95) rfl ?_); refine gL_ 9 Try.func95 #[.slice A0_5 l0_5.length c0_5] ?_; (with_reducible refine (damsonref09_amounts.calls k _ _ l0_5 t285 _ ?side1 ?side2 A4.out).mono ?_); (case side1 => repeat ((exact (Kd.C_below HR0_5.out HB.out)))); (case side2 => exact HC0_5.out); rintro e w10 ⟨v286, rfl, ho0, hb⟩; refine ⟨_, rfl, ?_⟩; have HO287 := aM_ (Kd.R_lower ho0 (below_size (belN HB))); replace BK283 := bbA_ BK283 hb; replace HB := bsA_ HB hb; (try clear hb); (try clear ho0); obtain ⟨Ao11, co11, eo11⟩ := Kd.R_slice HO287.out; subst eo11) | ((with_reducible refine gate_callee (f := 94) rfl ?_); refine gL_ 10 Try.func94 #[.slice Ao11 t285.length co11] ?_; (with_reducible refine (damsonref04_Add.calls k _ _ t285 t288 t289 _ ?side1 ?side2 A5.out).mono ?_); (case side1 => exact Kd.CN (Kd.R_reads' HO287.out).2.2); (case side2 => exact (Kd.R_reads' HO287.out).2.1); rintro e w' ⟨rfl, ⟨nd, rfl⟩⟩; refine ⟨_, rfl, ?_⟩))
    go_ret2
    exact ⟨by (rfl), by repeat (((with_reducible first | exact HB.out | apply pw_below_drewN)))⟩
  · rw [if_neg c3] at H
    have c3b0 : (t284 == 0) = false := beq_eq_false_iff_ne.mpr c3
    have c3b1 : (t284 != 0) = true := bne_iff_ne.mpr c3
    simp only [Option.some.injEq, Prod.mk.injEq] at H
    obtain ⟨rfl, rfl⟩ := H
    go_enter Try.func29, Try.ntmps29
    go_wp2_with (first | ((with_reducible refine gate_dst (N := 1) rfl ?_); refine box_event ?hg (N := 1) ?hd (cs := #[.int .u64 a0_0, .int .u64 a0_1, .int .u64 a0_2, .int .u64 a0_3, .int .u64 a0_4, .slice A0_5 l0_5.length c0_5, .bool a0_6]) (t := 25) ?hr ?_; (case hd => rfl); (case hg => rfl); (case hr => ((go_simp; done))); intro gb283 hg w12 hbox hb; have BK283 := aM_ (hbox); have GW283 := aM_ (geN HB hg); have GE283 := aM_ (geN HB hg); replace HB := bsA_ HB hb; clear hb hbox hg; obtain ⟨hcz13_0, hcz13_1, hcz13_2, hcz13_3, hcz13_4, hcz13_5, hcz13_6, hfz13_0, hfz13_1, hfz13_2, hfz13_3, hfz13_4, hfz13_5, hfz13_6⟩ := cz7_ (w := w12) BK283.out) | ((with_reducible refine gate_callee (f := 34) rfl ?_); refine gL_ 5 Try.func34 #[.agg #[.int .u64 a0_0, .int .u64 a0_1, .int .u64 a0_2, .int .u64 a0_3, .int .u64 a0_4, .slice A0_5 l0_5.length c0_5, .bool a0_6]] ?_; (with_reducible refine (damsonref09_Check.calls k a0_0 a0_1 a0_2 a0_3 a0_4 _ _ l0_5 a0_6 t284 _ ?side1 ?side2 A2.out).mono ?_); (case side1 => repeat ((exact (Kd.C_below HR0_5.out HB.out)))); (case side2 => exact HC0_5.out); rintro e w14 ⟨rfl, hb⟩; refine ⟨_, rfl, ?_⟩; replace BK283 := bbA_ BK283 hb; replace HB := bsA_ HB hb; (try clear hb)))
    go_ret2
    exact ⟨by (rfl), by repeat (((with_reducible (exact HB.out))))⟩

/-! ### damsonref09_All: function 31 -/
def damsonref09_All.f (k : Nat) (a0_0 : Int) (a0_1 : Int) (a0_2 : Int) (a0_3 : Int) (a0_4 : Int) (l0_5 : List (S44)) (a0_6 : Bool) : Option (Int × Int) := (damsonref09_Held.f k a0_0 a0_1 a0_2 a0_3 a0_4 l0_5 a0_6).bind fun bt291 => (if bt291.2 = 0 then ((damsonref04_Add.f k (([a0_1, a0_2, bt291.1] : List Int))).bind fun bt296 => (some (bt296.1, bt296.2))) else (some (0, bt291.2)))
theorem damsonref09_All.mono : ∀ a0 a1 a2 a3 a4 a5 a6 k, LeO (damsonref09_All.f k a0 a1 a2 a3 a4 a5 a6) (damsonref09_All.f (k + 1) a0 a1 a2 a3 a4 a5 a6) := by
  intro a0 a1 a2 a3 a4 a5 a6 k
  unfold damsonref09_All.f
  repeat' first
      | (with_reducible exact damsonref04_Add.mono _ _)
      | (with_reducible exact damsonref09_Held.mono _ _ _ _ _ _ _ _)
      | (with_reducible exact LeO.refl _)
      | (with_reducible refine LeO.ite ?_ ?_)
      | (with_reducible refine LeO.bind ?_ (fun _ => ?_))
      | exact damsonref04_Add.mono _ _
      | exact damsonref09_Held.mono _ _ _ _ _ _ _ _
      | exact LeO.none _
      | refine LeO.ite ?_ ?_
      | refine LeO.bind ?_ (fun _ => ?_)
set_option maxHeartbeats 8000000 in
set_option maxRecDepth 100000 in
theorem damsonref09_All.calls (k : Nat) (a0_0 : Int) (a0_1 : Int) (a0_2 : Int) (a0_3 : Int) (a0_4 : Int) (A0_5 : Option Addr) (c0_5 : Nat) (l0_5 : List (S44)) (a0_6 : Bool) (r1 : Int) (r2 : Int) (w : World) (hr0_5 : Kd.C k44 w A0_5 l0_5.length l0_5) (hc0_5 : l0_5.length ≤ c0_5) (h : damsonref09_All.f k a0_0 a0_1 a0_2 a0_3 a0_4 l0_5 a0_6 = some (r1, r2)) :
    Calls Try.prog 31 #[.agg #[.int .u64 a0_0, .int .u64 a0_1, .int .u64 a0_2, .int .u64 a0_3, .int .u64 a0_4, .slice A0_5 l0_5.length c0_5, .bool a0_6]] w fun e w' => e = .returned (.tuple #[.int .u64 r1, .int .i64 r2]) ∧ Below w.heap.size w w' := by
  have hu25 := Try.underlying25
  have HR0_5 := aM_ hr0_5
  have HC0_5 := aM_ hc0_5
  clear hr0_5 hc0_5
  have HB := aM_ (Below.refl w.heap.size w)
  have H : ((damsonref09_Held.f k a0_0 a0_1 a0_2 a0_3 a0_4 l0_5 a0_6).bind fun bt291 => (if bt291.2 = 0 then ((damsonref04_Add.f k (([a0_1, a0_2, bt291.1] : List Int))).bind fun bt296 => (some (bt296.1, bt296.2))) else (some (0, bt291.2)))) = some (r1, r2) := h
  clear h
  replace H := oB_ H
  obtain ⟨⟨t291, t292⟩, A20, H⟩ := H
  replace H : (if t292 = 0 then ((damsonref04_Add.f k (([a0_1, a0_2, t291] : List Int))).bind fun bt296 => (some (bt296.1, bt296.2))) else (some (0, t292))) = some (r1, r2) := H
  have A2 := aM_ A20
  clear A20
  by_cases c3 : t292 = 0
  · rw [if_pos c3] at H
    have c3b0 : (t292 == 0) = true := beq_iff_eq.mpr c3
    have c3b1 : (t292 != 0) = false := bne_eq_false_iff_eq.mpr c3
    clear c3
    obtain ⟨y293, hy293⟩ : ∃ y_ : List Int, y_ = (([a0_1, a0_2, t291] : List Int)) := ⟨_, rfl⟩
    replace H : ((damsonref04_Add.f k y293).bind fun bt296 => (some (bt296.1, bt296.2))) = some (r1, r2) := by ((rw [hy293]; with_reducible exact H))
    have Ny293 := aM_ hy293
    clear hy293
    replace H := oB_ H
    obtain ⟨⟨t296, t297⟩, A40, H⟩ := H
    replace H : (some (t296, t297)) = some (r1, r2) := H
    have A4 := aM_ A40
    clear A40
    simp only [Option.some.injEq, Prod.mk.injEq] at H
    obtain ⟨rfl, rfl⟩ := H
    go_enter Try.func31, Try.ntmps31
    go_wp2_with (first | ((with_reducible refine gate_dst (N := 1) rfl ?_); refine box_event ?hg (N := 1) ?hd (cs := #[.int .u64 a0_0, .int .u64 a0_1, .int .u64 a0_2, .int .u64 a0_3, .int .u64 a0_4, .slice A0_5 l0_5.length c0_5, .bool a0_6]) (t := 25) ?hr ?_; (case hd => rfl); (case hg => rfl); (case hr => ((go_simp; done))); intro gb290 hg w5 hbox hb; have BK290 := aM_ (hbox); have GW290 := aM_ (geN HB hg); have GE290 := aM_ (geN HB hg); replace HB := bsA_ HB hb; clear hb hbox hg; obtain ⟨hcz6_0, hcz6_1, hcz6_2, hcz6_3, hcz6_4, hcz6_5, hcz6_6, hfz6_0, hfz6_1, hfz6_2, hfz6_3, hfz6_4, hfz6_5, hfz6_6⟩ := cz7_ (w := w5) BK290.out) | ((with_reducible refine gate_callee (f := 29) rfl ?_); refine gL_ 8 Try.func29 #[.agg #[.int .u64 a0_0, .int .u64 a0_1, .int .u64 a0_2, .int .u64 a0_3, .int .u64 a0_4, .slice A0_5 l0_5.length c0_5, .bool a0_6]] ?_; (with_reducible refine (damsonref09_Held.calls k a0_0 a0_1 a0_2 a0_3 a0_4 _ _ l0_5 a0_6 t291 t292 _ ?side1 ?side2 A2.out).mono ?_); (case side1 => repeat ((exact (Kd.C_below HR0_5.out HB.out)))); (case side2 => exact HC0_5.out); rintro e w7 ⟨rfl, hb⟩; refine ⟨_, rfl, ?_⟩; replace BK290 := bbA_ BK290 hb; replace HB := bsA_ HB hb; (try clear hb); obtain ⟨hcz8_0, hcz8_1, hcz8_2, hcz8_3, hcz8_4, hcz8_5, hcz8_6, hfz8_0, hfz8_1, hfz8_2, hfz8_3, hfz8_4, hfz8_5, hfz8_6⟩ := cz7_ (w := w7) BK290.out) | ((with_reducible refine gate_dst (N := 19) rfl ?_); refine Kd.R_lit (Kd.int .u64) _ 22 ?hg (N := 19) ?hd (xs := ([a0_1, a0_2, t291] : List Int)) (inner := [.int .u64 a0_1, .int .u64 a0_2, .int .u64 t291]) (ok := fun _ => True) (okp := fun _ => True) ?hr ?hp (fun _ hk => hk) trivial (Below.refl _ _) (Nat.le_refl _) (by simp) ?_; (case hd => rfl); (case hg => rfl); (case hr => ((go_simp; done))); (case hp => exact (Reps.one (show Kd.M (Kd.int .u64) _ _ _ a0_1 [.int .u64 a0_1] from rfl) (Reps.one (show Kd.M (Kd.int .u64) _ _ _ a0_2 [.int .u64 a0_2] from rfl) (Reps.one (show Kd.M (Kd.int .u64) _ _ _ t291 [.int .u64 t291] from rfl) (Reps.none _ _))))); intro v294 w9 ho10 hb hg_ hnew_; clear hg_ hnew_; ((rw [← Ny293.out] at ho10)); have HO295 := aM_ (Kd.R_lower ho10 (below_size (belN HB))); replace BK290 := bbA_ BK290 hb; replace HB := bsA_ HB hb; clear hb ho10; obtain ⟨Ao11, co11, eo11⟩ := Kd.R_slice HO295.out; subst eo11) | ((with_reducible refine gate_callee (f := 94) rfl ?_); refine gL_ 20 Try.func94 #[.slice Ao11 y293.length co11] ?_; (with_reducible refine (damsonref04_Add.calls k _ _ y293 t296 t297 _ ?side1 ?side2 A4.out).mono ?_); (case side1 => exact Kd.CN (Kd.R_reads' HO295.out).2.2); (case side2 => exact (Kd.R_reads' HO295.out).2.1); rintro e w' ⟨rfl, ⟨nd, rfl⟩⟩; refine ⟨_, rfl, ?_⟩))
    go_ret2
    exact ⟨by (rfl), by repeat (((with_reducible first | exact HB.out | apply pw_below_drewN)))⟩
  · rw [if_neg c3] at H
    have c3b0 : (t292 == 0) = false := beq_eq_false_iff_ne.mpr c3
    have c3b1 : (t292 != 0) = true := bne_iff_ne.mpr c3
    simp only [Option.some.injEq, Prod.mk.injEq] at H
    obtain ⟨rfl, rfl⟩ := H
    go_enter Try.func31, Try.ntmps31
    go_wp2_with (first | ((with_reducible refine gate_dst (N := 1) rfl ?_); refine box_event ?hg (N := 1) ?hd (cs := #[.int .u64 a0_0, .int .u64 a0_1, .int .u64 a0_2, .int .u64 a0_3, .int .u64 a0_4, .slice A0_5 l0_5.length c0_5, .bool a0_6]) (t := 25) ?hr ?_; (case hd => rfl); (case hg => rfl); (case hr => ((go_simp; done))); intro gb290 hg w12 hbox hb; have BK290 := aM_ (hbox); have GW290 := aM_ (geN HB hg); have GE290 := aM_ (geN HB hg); replace HB := bsA_ HB hb; clear hb hbox hg; obtain ⟨hcz13_0, hcz13_1, hcz13_2, hcz13_3, hcz13_4, hcz13_5, hcz13_6, hfz13_0, hfz13_1, hfz13_2, hfz13_3, hfz13_4, hfz13_5, hfz13_6⟩ := cz7_ (w := w12) BK290.out) | ((with_reducible refine gate_callee (f := 29) rfl ?_); refine gL_ 8 Try.func29 #[.agg #[.int .u64 a0_0, .int .u64 a0_1, .int .u64 a0_2, .int .u64 a0_3, .int .u64 a0_4, .slice A0_5 l0_5.length c0_5, .bool a0_6]] ?_; (with_reducible refine (damsonref09_Held.calls k a0_0 a0_1 a0_2 a0_3 a0_4 _ _ l0_5 a0_6 t291 t292 _ ?side1 ?side2 A2.out).mono ?_); (case side1 => repeat ((exact (Kd.C_below HR0_5.out HB.out)))); (case side2 => exact HC0_5.out); rintro e w14 ⟨rfl, hb⟩; refine ⟨_, rfl, ?_⟩; replace BK290 := bbA_ BK290 hb; replace HB := bsA_ HB hb; (try clear hb)))
    go_ret2
    exact ⟨by (rfl), by repeat (((with_reducible (exact HB.out))))⟩

/-! ### damsonref10_all: function 109 -/
def damsonref10_all.l0 : Nat → Int → List (S25) → Int → Int → Option (Int × Bool)
  | 0, _, _, _, _ => none
  | k + 1, x4, x11, x12, x13 => if x13 < x12 then (if 0 ≤ x13 then (if x13 < (x11.length : Int) then ((damsonref09_All.f k ((rd_T25 x11 x13).f0) ((rd_T25 x11 x13).f1) ((rd_T25 x11 x13).f2) ((rd_T25 x11 x13).f3) ((rd_T25 x11 x13).f4) ((rd_T25 x11 x13).f5) ((rd_T25 x11 x13).f6)).bind fun bt300 => ((damsonref04_Add.f k (([x4, bt300.1] : List Int))).bind fun bt305 => (if bt305.2 = 0 then (damsonref10_all.l0 k bt305.1 x11 x12 (wrap64 (x13 + 1))) else (some (0, false))))) else (none)) else (none)) else (some (x4, true))
def damsonref10_all.f (k : Nat) (l0 : List (S25)) : Option (Int × Bool) := damsonref10_all.l0 k 0 l0 (l0.length : Int) 0
theorem damsonref10_all.mono_l : ∀ k, (∀ y0 y1 y2 y3, LeO (damsonref10_all.l0 k y0 y1 y2 y3) (damsonref10_all.l0 (k + 1) y0 y1 y2 y3))
  | 0 => fun _ _ _ _ r h => by simp [damsonref10_all.l0] at h
  | k + 1 => by
    have ih0 := damsonref10_all.mono_l k
    · intro y0 y1 y2 y3
      unfold damsonref10_all.l0
      repeat' first
      | (with_reducible exact ih0 _ _ _ _)
      | (with_reducible exact damsonref04_Add.mono _ _)
      | (with_reducible exact damsonref09_All.mono _ _ _ _ _ _ _ _)
      | (with_reducible exact LeO.refl _)
      | (with_reducible refine LeO.ite ?_ ?_)
      | (with_reducible refine LeO.bind ?_ (fun _ => ?_))
      | exact ih0 _ _ _ _
      | exact damsonref04_Add.mono _ _
      | exact damsonref09_All.mono _ _ _ _ _ _ _ _
      | exact LeO.none _
      | refine LeO.ite ?_ ?_
      | refine LeO.bind ?_ (fun _ => ?_)
theorem damsonref10_all.mono : ∀ a0 k, LeO (damsonref10_all.f k a0) (damsonref10_all.f (k + 1) a0) := by
  intro a0 k
  have ih0 := damsonref10_all.mono_l k
  unfold damsonref10_all.f
  repeat' first
      | (with_reducible exact ih0 _ _ _ _)
      | exact ih0 _ _ _ _
      | exact damsonref04_Add.mono _ _
      | exact damsonref09_All.mono _ _ _ _ _ _ _ _
      | exact LeO.none _
      | refine LeO.ite ?_ ?_
      | refine LeO.bind ?_ (fun _ => ?_)
set_option maxHeartbeats 8000000 in
set_option maxRecDepth 100000 in
theorem damsonref10_all.calls (k : Nat) (A0 : Option Addr) (c0 : Nat) (l0 : List (S25)) (r1 : Int) (r2 : Bool) (w : World) (hr0 : Kd.C k25 w A0 l0.length l0) (hc0 : l0.length ≤ c0) (h : damsonref10_all.f k l0 = some (r1, r2)) :
    Calls Try.prog 109 #[.slice A0 l0.length c0] w fun e w' => e = .returned (.tuple #[.int .u64 r1, .bool r2]) ∧ Below w.heap.size w w' := by
  have hu25 := Try.underlying25
  have HR0 := aM_ hr0
  have HC0 := aM_ hc0
  clear hr0 hc0
  have HB := aM_ (Below.refl w.heap.size w)
  have H : (damsonref10_all.l0 k 0 l0 (l0.length : Int) 0) = some (r1, r2) := h
  clear h
  have H' := aM_ H
  clear H
  go_enter Try.func109, Try.ntmps109
  go_wp2
  go_loopg [4, 13] k (fun kq v4 v13 w' => ∃ (x4_1 : Int) (x13_1 : Int), v4 = .int .u64 x4_1 ∧ v13 = .int .i64 x13_1 ∧ Aside0 (damsonref10_all.l0 kq x4_1 l0 (l0.length : Int) x13_1 = some (r1, r2)) ∧ Aside0 (kq ≤ k) ∧ Aside0 (Below w.heap.size w w'))
  case atStart => exact ⟨(0), (0), (by (rfl)), (by (rfl)), H', ⟨Nat.le_refl _⟩, ⟨by repeat (((with_reducible (exact HB.out))))⟩⟩
  case round =>
    clear H'
    obtain ⟨x4_1, x13_1, rfl, rfl, HA, HK1, HB⟩ := hrel
    cases gk with
    | zero => exact absurd HA.out (by simp [damsonref10_all.l0])
    | succ k1 =>
      have H := HA.out
      clear HA
      simp only [damsonref10_all.l0] at H
      by_cases c2 : x13_1 < (l0.length : Int)
      · rw [if_pos c2] at H
        have c2b0 := decide_eq_true c2
        clear c2
        by_cases c3 : 0 ≤ x13_1
        · rw [if_pos c3] at H
          have c3b0 := decide_eq_true c3
          clear c3
          by_cases c4 : x13_1 < (l0.length : Int)
          · rw [if_pos c4] at H
            have c4b0 := decide_eq_true c4
            clear c4
            replace H := oB_ H
            obtain ⟨⟨t300, t301⟩, A50, H⟩ := H
            replace H : ((damsonref04_Add.f k1 (([x4_1, t300] : List Int))).bind fun bt305 => (if bt305.2 = 0 then (damsonref10_all.l0 k1 bt305.1 l0 (l0.length : Int) (wrap64 (x13_1 + 1))) else (some (0, false)))) = some (r1, r2) := H
            have A5 := aM_ A50
            clear A50
            obtain ⟨y302, hy302⟩ : ∃ y_ : List Int, y_ = (([x4_1, t300] : List Int)) := ⟨_, rfl⟩
            replace H : ((damsonref04_Add.f k1 y302).bind fun bt305 => (if bt305.2 = 0 then (damsonref10_all.l0 k1 bt305.1 l0 (l0.length : Int) (wrap64 (x13_1 + 1))) else (some (0, false)))) = some (r1, r2) := by ((rw [hy302]; with_reducible exact H))
            have Ny302 := aM_ hy302
            clear hy302
            replace H := oB_ H
            obtain ⟨⟨t305, t306⟩, A60, H⟩ := H
            replace H : (if t306 = 0 then (damsonref10_all.l0 k1 t305 l0 (l0.length : Int) (wrap64 (x13_1 + 1))) else (some (0, false))) = some (r1, r2) := H
            have A6 := aM_ A60
            clear A60
            by_cases c7 : t306 = 0
            · rw [if_pos c7] at H
              have c7b0 : (t306 == 0) = true := beq_iff_eq.mpr c7
              have c7b1 : (t306 != 0) = false := bne_eq_false_iff_eq.mpr c7
              clear c7
              have H' := aM_ H
              clear H
              have p298 : 0 ≤ (x13_1 : Int) := of_decide_eq_true (by ((with_reducible assumption)))
              have q298 : x13_1 < (l0.length : Int) := of_decide_eq_true (by ((with_reducible assumption)))
              obtain ⟨ad298, A298_5, c298_5, e298, hx298_0, hx298_1, hx298_2, hx298_3, hx298_4, hx298_5, hx298_6, hl298_5, hi298_5⟩ := at_T25 HR0.out x13_1 p298 q298
              cases e298
              replace hx298_0 := cN_ HB hx298_0
              replace hx298_1 := cN_ HB hx298_1
              replace hx298_2 := cN_ HB hx298_2
              replace hx298_3 := cN_ HB hx298_3
              replace hx298_4 := cN_ HB hx298_4
              replace hx298_5 := cN_ HB hx298_5
              replace hx298_6 := cN_ HB hx298_6
              have HR298_5 := aM_ hi298_5
              have HC298_5 := aM_ hl298_5
              clear hi298_5 hl298_5
              replace p298 := eq_true p298
              replace q298 := eq_true q298
              go_wp2_with (first | ((with_reducible refine gate_dst (N := 6) rfl ?_); refine box_event ?hg (N := 6) ?hd (cs := #[.int .u64 0, .int .u64 0, .int .u64 0, .int .u64 0, .int .u64 0, .slice none 0 0, .bool false]) (t := 25) ?hr ?_; (case hd => rfl); (case hg => rfl); (case hr => ((go_simp; done))); intro gb299 hg w8 hbox hb; have BK299 := aM_ (hbox); have GW299 := aM_ (geN HB hg); have GE299 := aM_ (geN HB hg); replace HB := bsA_ HB hb; clear hb hbox hg; obtain ⟨hcz9_0, hcz9_1, hcz9_2, hcz9_3, hcz9_4, hcz9_5, hcz9_6, hfz9_0, hfz9_1, hfz9_2, hfz9_3, hfz9_4, hfz9_5, hfz9_6⟩ := cz7_ (w := w8) BK299.out) | ((with_reducible refine gate_callee (f := 31) rfl ?_); refine gL_ 19 Try.func31 #[.agg #[.int .u64 ((rd_T25 l0 x13_1).f0), .int .u64 ((rd_T25 l0 x13_1).f1), .int .u64 ((rd_T25 l0 x13_1).f2), .int .u64 ((rd_T25 l0 x13_1).f3), .int .u64 ((rd_T25 l0 x13_1).f4), .slice A298_5 ((rd_T25 l0 x13_1).f5).length c298_5, .bool ((rd_T25 l0 x13_1).f6)]] ?_; (with_reducible refine (damsonref09_All.calls k1 ((rd_T25 l0 x13_1).f0) ((rd_T25 l0 x13_1).f1) ((rd_T25 l0 x13_1).f2) ((rd_T25 l0 x13_1).f3) ((rd_T25 l0 x13_1).f4) _ _ ((rd_T25 l0 x13_1).f5) ((rd_T25 l0 x13_1).f6) t300 t301 _ ?side1 ?side2 A5.out).mono ?_); (case side1 => exact Kd.C_below HR298_5.out (belN HB)); (case side2 => exact HC298_5.out); rintro e w10 ⟨rfl, hb⟩; refine ⟨_, rfl, ?_⟩; replace BK299 := aM_ (blk_below (g := gb299) (o := .cells #[.int .u64 ((rd_T25 l0 x13_1).f0), .int .u64 ((rd_T25 l0 x13_1).f1), .int .u64 ((rd_T25 l0 x13_1).f2), .int .u64 ((rd_T25 l0 x13_1).f3), .int .u64 ((rd_T25 l0 x13_1).f4), .slice A298_5 ((rd_T25 l0 x13_1).f5).length c298_5, .bool ((rd_T25 l0 x13_1).f6)] 25 (0, 0)) (by apply bp7_; exact BK299.out) hb); replace HB := bsA_ HB hb; (try clear hb)) | ((with_reducible refine gate_dst (N := 25) rfl ?_); refine Kd.R_lit (Kd.int .u64) _ 22 ?hg (N := 25) ?hd (xs := ([x4_1, t300] : List Int)) (inner := [.int .u64 x4_1, .int .u64 t300]) (ok := fun _ => True) (okp := fun _ => True) ?hr ?hp (fun _ hk => hk) trivial (Below.refl _ _) (Nat.le_refl _) (by simp) ?_; (case hd => rfl); (case hg => rfl); (case hr => ((go_simp; done))); (case hp => exact (Reps.one (show Kd.M (Kd.int .u64) _ _ _ x4_1 [.int .u64 x4_1] from rfl) (Reps.one (show Kd.M (Kd.int .u64) _ _ _ t300 [.int .u64 t300] from rfl) (Reps.none _ _)))); intro v303 w11 ho12 hb hg_ hnew_; clear hg_ hnew_; ((rw [← Ny302.out] at ho12)); have HO304 := aM_ (Kd.R_lower ho12 (below_size (belN HB))); replace BK299 := bbA_ BK299 hb; replace HB := bsA_ HB hb; clear hb ho12; obtain ⟨Ao13, co13, eo13⟩ := Kd.R_slice HO304.out; subst eo13) | ((with_reducible refine gate_callee (f := 94) rfl ?_); refine gL_ 26 Try.func94 #[.slice Ao13 y302.length co13] ?_; (with_reducible refine (damsonref04_Add.calls k1 _ _ y302 t305 t306 _ ?side1 ?side2 A6.out).mono ?_); (case side1 => exact Kd.CN (Kd.R_reads' HO304.out).2.2); (case side2 => exact (Kd.R_reads' HO304.out).2.1); rintro e w' ⟨rfl, ⟨nd, rfl⟩⟩; refine ⟨_, rfl, ?_⟩))
              go_roundg k1
              case measure => have := HK1.out; omega
              case rel => exact ⟨(t305), (wrap64 (x13_1 + 1)), (by (rfl)), (by (rfl)), H', ⟨by have := HK1.out; omega⟩, ⟨by repeat (((with_reducible first | exact HB.out | apply pw_below_drewN)))⟩⟩
            · rw [if_neg c7] at H
              have c7b0 : (t306 == 0) = false := beq_eq_false_iff_ne.mpr c7
              have c7b1 : (t306 != 0) = true := bne_iff_ne.mpr c7
              simp only [Option.some.injEq, Prod.mk.injEq] at H
              obtain ⟨rfl, rfl⟩ := H
              have p298 : 0 ≤ (x13_1 : Int) := of_decide_eq_true (by ((with_reducible assumption)))
              have q298 : x13_1 < (l0.length : Int) := of_decide_eq_true (by ((with_reducible assumption)))
              obtain ⟨ad298, A298_5, c298_5, e298, hx298_0, hx298_1, hx298_2, hx298_3, hx298_4, hx298_5, hx298_6, hl298_5, hi298_5⟩ := at_T25 HR0.out x13_1 p298 q298
              cases e298
              replace hx298_0 := cN_ HB hx298_0
              replace hx298_1 := cN_ HB hx298_1
              replace hx298_2 := cN_ HB hx298_2
              replace hx298_3 := cN_ HB hx298_3
              replace hx298_4 := cN_ HB hx298_4
              replace hx298_5 := cN_ HB hx298_5
              replace hx298_6 := cN_ HB hx298_6
              have HR298_5 := aM_ hi298_5
              have HC298_5 := aM_ hl298_5
              clear hi298_5 hl298_5
              replace p298 := eq_true p298
              replace q298 := eq_true q298
              go_wp2_with (first | ((with_reducible refine gate_dst (N := 6) rfl ?_); refine box_event ?hg (N := 6) ?hd (cs := #[.int .u64 0, .int .u64 0, .int .u64 0, .int .u64 0, .int .u64 0, .slice none 0 0, .bool false]) (t := 25) ?hr ?_; (case hd => rfl); (case hg => rfl); (case hr => ((go_simp; done))); intro gb299 hg w14 hbox hb; have BK299 := aM_ (hbox); have GW299 := aM_ (geN HB hg); have GE299 := aM_ (geN HB hg); replace HB := bsA_ HB hb; clear hb hbox hg; obtain ⟨hcz15_0, hcz15_1, hcz15_2, hcz15_3, hcz15_4, hcz15_5, hcz15_6, hfz15_0, hfz15_1, hfz15_2, hfz15_3, hfz15_4, hfz15_5, hfz15_6⟩ := cz7_ (w := w14) BK299.out) | ((with_reducible refine gate_callee (f := 31) rfl ?_); refine gL_ 19 Try.func31 #[.agg #[.int .u64 ((rd_T25 l0 x13_1).f0), .int .u64 ((rd_T25 l0 x13_1).f1), .int .u64 ((rd_T25 l0 x13_1).f2), .int .u64 ((rd_T25 l0 x13_1).f3), .int .u64 ((rd_T25 l0 x13_1).f4), .slice A298_5 ((rd_T25 l0 x13_1).f5).length c298_5, .bool ((rd_T25 l0 x13_1).f6)]] ?_; (with_reducible refine (damsonref09_All.calls k1 ((rd_T25 l0 x13_1).f0) ((rd_T25 l0 x13_1).f1) ((rd_T25 l0 x13_1).f2) ((rd_T25 l0 x13_1).f3) ((rd_T25 l0 x13_1).f4) _ _ ((rd_T25 l0 x13_1).f5) ((rd_T25 l0 x13_1).f6) t300 t301 _ ?side1 ?side2 A5.out).mono ?_); (case side1 => exact Kd.C_below HR298_5.out (belN HB)); (case side2 => exact HC298_5.out); rintro e w16 ⟨rfl, hb⟩; refine ⟨_, rfl, ?_⟩; replace BK299 := aM_ (blk_below (g := gb299) (o := .cells #[.int .u64 ((rd_T25 l0 x13_1).f0), .int .u64 ((rd_T25 l0 x13_1).f1), .int .u64 ((rd_T25 l0 x13_1).f2), .int .u64 ((rd_T25 l0 x13_1).f3), .int .u64 ((rd_T25 l0 x13_1).f4), .slice A298_5 ((rd_T25 l0 x13_1).f5).length c298_5, .bool ((rd_T25 l0 x13_1).f6)] 25 (0, 0)) (by apply bp7_; exact BK299.out) hb); replace HB := bsA_ HB hb; (try clear hb)) | ((with_reducible refine gate_dst (N := 25) rfl ?_); refine Kd.R_lit (Kd.int .u64) _ 22 ?hg (N := 25) ?hd (xs := ([x4_1, t300] : List Int)) (inner := [.int .u64 x4_1, .int .u64 t300]) (ok := fun _ => True) (okp := fun _ => True) ?hr ?hp (fun _ hk => hk) trivial (Below.refl _ _) (Nat.le_refl _) (by simp) ?_; (case hd => rfl); (case hg => rfl); (case hr => ((go_simp; done))); (case hp => exact (Reps.one (show Kd.M (Kd.int .u64) _ _ _ x4_1 [.int .u64 x4_1] from rfl) (Reps.one (show Kd.M (Kd.int .u64) _ _ _ t300 [.int .u64 t300] from rfl) (Reps.none _ _)))); intro v303 w17 ho18 hb hg_ hnew_; clear hg_ hnew_; ((rw [← Ny302.out] at ho18)); have HO304 := aM_ (Kd.R_lower ho18 (below_size (belN HB))); replace BK299 := bbA_ BK299 hb; replace HB := bsA_ HB hb; clear hb ho18; obtain ⟨Ao19, co19, eo19⟩ := Kd.R_slice HO304.out; subst eo19) | ((with_reducible refine gate_callee (f := 94) rfl ?_); refine gL_ 26 Try.func94 #[.slice Ao19 y302.length co19] ?_; (with_reducible refine (damsonref04_Add.calls k1 _ _ y302 t305 t306 _ ?side1 ?side2 A6.out).mono ?_); (case side1 => exact Kd.CN (Kd.R_reads' HO304.out).2.2); (case side2 => exact (Kd.R_reads' HO304.out).2.1); rintro e w' ⟨rfl, ⟨nd, rfl⟩⟩; refine ⟨_, rfl, ?_⟩))
              go_ret2
              exact ⟨by (rfl), by repeat (((with_reducible first | exact HB.out | apply pw_below_drewN)))⟩
          · rw [if_neg c4] at H
            exact absurd H (by simp)
        · rw [if_neg c3] at H
          exact absurd H (by simp)
      · rw [if_neg c2] at H
        have c2b0 := decide_eq_false c2
        clear c2
        simp only [Option.some.injEq, Prod.mk.injEq] at H
        obtain ⟨rfl, rfl⟩ := H
        go_wp2
        go_ret2
        exact ⟨by (rfl), by repeat (((with_reducible (exact HB.out))))⟩

end Go.Proofs.Ytcfbcoinbecdfaa.P
