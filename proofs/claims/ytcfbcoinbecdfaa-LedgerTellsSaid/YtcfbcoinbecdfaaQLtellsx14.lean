-- written by a program of this session (wip/print)
import Derived.Test.YtcfbcoinbecdfaaQLtellsx0
import Derived.Test.YtcfbcoinbecdfaaQLtellsx4
import Derived.Test.YtcfbcoinbecdfaaQLtellsx5
import Derived.Test.YtcfbcoinbecdfaaQLtellsx10
import Derived.Test.YtcfbcoinbecdfaaQLtellsx12
import Derived.Test.YtcfbcoinbecdfaaQLtellsx13
namespace Go.Proofs.Ytcfbcoinbecdfaa.P
open Go.RowKit Go.Proofs.YtcfbcoinbecdfaaW.PrintWords Go.Proofs.YtcfbcoinbecdfaaW.PrintLast Go.Proofs.YtcfbcoinbecdfaaW.PrintMore
attribute [local go_sem] max2_int min2_int max_two min_two max_three min_three max_four min_four run_sub64_   -- for this text's walks alone
set_option linter.unusedVariables false
set_option linter.unusedSimpArgs false

/-! ### damsonref10_find: function 106 -/
def damsonref10_find.l0 : Nat → Int → List (S25) → Int → Int → Option (Int)
  | 0, _, _, _, _ => none
  | k + 1, x1, x7, x8, x9 => if x9 < x8 then (if 0 ≤ x9 then (if x9 < (x7.length : Int) then (if ((rd_T25 x7 x9).f0) = x1 then (some x9) else (damsonref10_find.l0 k x1 x7 x8 (wrap64 (x9 + 1)))) else (none)) else (none)) else (some (-1))
def damsonref10_find.f (k : Nat) (l0 : List (S25)) (a1 : Int) : Option (Int) := damsonref10_find.l0 k a1 l0 (l0.length : Int) 0
theorem damsonref10_find.mono_l : ∀ k, (∀ y0 y1 y2 y3, LeO (damsonref10_find.l0 k y0 y1 y2 y3) (damsonref10_find.l0 (k + 1) y0 y1 y2 y3))
  | 0 => fun _ _ _ _ r h => by simp [damsonref10_find.l0] at h
  | k + 1 => by
    have ih0 := damsonref10_find.mono_l k
    · intro y0 y1 y2 y3
      unfold damsonref10_find.l0
      repeat' first
      | (with_reducible exact ih0 _ _ _ _)
      | (with_reducible exact LeO.refl _)
      | (with_reducible exact LeO.none _)
      | (with_reducible refine LeO.ite ?_ ?_)
      | (with_reducible refine LeO.bind ?_ (fun _ => ?_))
      | exact ih0 _ _ _ _
      | exact LeO.none _
      | refine LeO.ite ?_ ?_
      | refine LeO.bind ?_ (fun _ => ?_)
theorem damsonref10_find.mono : ∀ a0 a1 k, LeO (damsonref10_find.f k a0 a1) (damsonref10_find.f (k + 1) a0 a1) := by
  intro a0 a1 k
  have ih0 := damsonref10_find.mono_l k
  unfold damsonref10_find.f
  repeat' first
      | (with_reducible exact ih0 _ _ _ _)
      | (with_reducible exact LeO.refl _)
      | (with_reducible exact LeO.none _)
      | (with_reducible refine LeO.ite ?_ ?_)
      | (with_reducible refine LeO.bind ?_ (fun _ => ?_))
      | exact ih0 _ _ _ _
      | exact LeO.none _
      | refine LeO.ite ?_ ?_
      | refine LeO.bind ?_ (fun _ => ?_)
set_option maxHeartbeats 8000000 in
set_option maxRecDepth 100000 in
theorem damsonref10_find.calls (k : Nat) (A0 : Option Addr) (c0 : Nat) (l0 : List (S25)) (a1 : Int) (r : Int) (w : World) (hr0 : Kd.C k25 w A0 l0.length l0) (hc0 : l0.length ≤ c0) (h : damsonref10_find.f k l0 a1 = some r) :
    Calls Try.prog 106 #[.slice A0 l0.length c0, .int .u64 a1] w fun e w' => e = .returned (.int .i64 r) ∧ Below w.heap.size w w' := by
  have hu25 := Try.underlying25
  have HR0 := Aside0.mk hr0
  have HC0 := Aside0.mk hc0
  clear hr0 hc0
  have HB := Aside0.mk (Below.refl w.heap.size w)
  have H : (damsonref10_find.l0 k a1 l0 (l0.length : Int) 0) = some r := h
  clear h
  have H' := Aside0.mk H
  clear H
  go_enter Try.func106, Try.ntmps106
  go_wp2
  go_loopg [9] k (fun kq v9 w' => ∃ (x9_1 : Int), v9 = .int .i64 x9_1 ∧ Aside0 (damsonref10_find.l0 kq a1 l0 (l0.length : Int) x9_1 = some r) ∧ Aside0 (kq ≤ k) ∧ Aside0 (Below w.heap.size w w'))
  case atStart => exact ⟨(0), (by first | rfl | (simp; done) | (simp [*]; done)), H', ⟨Nat.le_refl _⟩, ⟨by repeat (first | (with_reducible first | exact HB.out | apply below_alloc | apply pw_below_drewN | apply below_drew1) | exact HB.out)⟩⟩
  case round =>
    clear H'
    try clear c1
    try clear p2
    obtain ⟨x9_1, rfl, HA, HK1, HB⟩ := hrel
    cases gk with
    | zero => exact absurd HA.out (by simp [damsonref10_find.l0])
    | succ k1 =>
      have H := HA.out
      clear HA
      simp only [damsonref10_find.l0] at H
      by_cases c3 : x9_1 < (l0.length : Int)
      · rw [if_pos c3] at H
        have c3b0 : decide (x9_1 < (l0.length : Int)) = true := decide_eq_true c3
        clear c3
        by_cases c4 : 0 ≤ x9_1
        · rw [if_pos c4] at H
          have c4b0 : decide (0 ≤ x9_1) = true := decide_eq_true c4
          clear c4
          by_cases c5 : x9_1 < (l0.length : Int)
          · rw [if_pos c5] at H
            have c5b0 : decide (x9_1 < (l0.length : Int)) = true := decide_eq_true c5
            clear c5
            by_cases c6 : ((rd_T25 l0 x9_1).f0) = a1
            · rw [if_pos c6] at H
              have c6b0 : (((rd_T25 l0 x9_1).f0) == a1) = true := beq_iff_eq.mpr c6
              have c6b1 : (((rd_T25 l0 x9_1).f0) != a1) = false := bne_eq_false_iff_eq.mpr c6
              clear c6
              obtain rfl := Option.some.inj H
              have p277 : 0 ≤ (x9_1 : Int) := of_decide_eq_true (by first | (with_reducible assumption) | assumption)
              have q277 : x9_1 < (l0.length : Int) := of_decide_eq_true (by first | (with_reducible assumption) | assumption)
              obtain ⟨ad277, A277_5, c277_5, e277, hx277_0, hx277_1, hx277_2, hx277_3, hx277_4, hx277_5, hx277_6, hl277_5, hi277_5⟩ := at_T25 HR0.out x9_1 p277 q277
              cases e277
              replace hx277_0 := (HB.out.cell (World.block_lt_of_cell? w _ hx277_0)).trans hx277_0
              replace hx277_1 := (HB.out.cell (World.block_lt_of_cell? w _ hx277_1)).trans hx277_1
              replace hx277_2 := (HB.out.cell (World.block_lt_of_cell? w _ hx277_2)).trans hx277_2
              replace hx277_3 := (HB.out.cell (World.block_lt_of_cell? w _ hx277_3)).trans hx277_3
              replace hx277_4 := (HB.out.cell (World.block_lt_of_cell? w _ hx277_4)).trans hx277_4
              replace hx277_5 := (HB.out.cell (World.block_lt_of_cell? w _ hx277_5)).trans hx277_5
              replace hx277_6 := (HB.out.cell (World.block_lt_of_cell? w _ hx277_6)).trans hx277_6
              have HR277_5 := Aside0.mk hi277_5
              have HC277_5 := Aside0.mk hl277_5
              clear hi277_5 hl277_5
              replace p277 := eq_true p277
              replace q277 := eq_true q277
              go_wp2_with (first | ((with_reducible refine gate_dst (N := 6) rfl ?_); refine box_event ?hg (N := 6) ?hd (cs := #[.int .u64 0, .int .u64 0, .int .u64 0, .int .u64 0, .int .u64 0, .slice none 0 0, .bool false]) (t := 25) ?hr ?_; (case hd => rfl); (case hg => rfl); (case hr => first | (go_simp; done) | (go_simp; rfl)); intro gb278 hg w7 hbox hb; have n0_ := Aside0.mk (below_step (belN HB) hb); have n1_ := Aside0.mk (hbox); have n2_ := Aside0.mk ((by rw [hg]; exact (below_size (belN HB)) : w.heap.size ≤ gb278)); have n3_ := Aside0.mk ((by rw [hg]; exact (below_size (belN HB)) : w.heap.size ≤ gb278)); clear HB; have HB := n0_; have BK278 := n1_; have GW278 := n2_; have GE278 := n3_; clear n0_ n1_ n2_ n3_; clear hb hbox hg; obtain ⟨hcz8_0, hcz8_1, hcz8_2, hcz8_3, hcz8_4, hcz8_5, hcz8_6, hfz8_0, hfz8_1, hfz8_2, hfz8_3, hfz8_4, hfz8_5, hfz8_6⟩ := cz7_ (w := w7) BK278.out))
              go_ret
              exact ⟨by first | rfl | (simp [errW_none, errW_some] <;> rfl) | (simp [*, errW_none, errW_some] <;> rfl), by repeat (first | (with_reducible first | exact HB.out | apply below_alloc | apply pw_below_drewN | apply below_drew1 | refine below_set ?_ GE278.out) | exact HB.out)⟩
            · rw [if_neg c6] at H
              have c6b0 : (((rd_T25 l0 x9_1).f0) == a1) = false := beq_eq_false_iff_ne.mpr c6
              have c6b1 : (((rd_T25 l0 x9_1).f0) != a1) = true := bne_iff_ne.mpr c6
              have H' := Aside0.mk H
              clear H
              have p277 : 0 ≤ (x9_1 : Int) := of_decide_eq_true (by first | (with_reducible assumption) | assumption)
              have q277 : x9_1 < (l0.length : Int) := of_decide_eq_true (by first | (with_reducible assumption) | assumption)
              obtain ⟨ad277, A277_5, c277_5, e277, hx277_0, hx277_1, hx277_2, hx277_3, hx277_4, hx277_5, hx277_6, hl277_5, hi277_5⟩ := at_T25 HR0.out x9_1 p277 q277
              cases e277
              replace hx277_0 := (HB.out.cell (World.block_lt_of_cell? w _ hx277_0)).trans hx277_0
              replace hx277_1 := (HB.out.cell (World.block_lt_of_cell? w _ hx277_1)).trans hx277_1
              replace hx277_2 := (HB.out.cell (World.block_lt_of_cell? w _ hx277_2)).trans hx277_2
              replace hx277_3 := (HB.out.cell (World.block_lt_of_cell? w _ hx277_3)).trans hx277_3
              replace hx277_4 := (HB.out.cell (World.block_lt_of_cell? w _ hx277_4)).trans hx277_4
              replace hx277_5 := (HB.out.cell (World.block_lt_of_cell? w _ hx277_5)).trans hx277_5
              replace hx277_6 := (HB.out.cell (World.block_lt_of_cell? w _ hx277_6)).trans hx277_6
              have HR277_5 := Aside0.mk hi277_5
              have HC277_5 := Aside0.mk hl277_5
              clear hi277_5 hl277_5
              replace p277 := eq_true p277
              replace q277 := eq_true q277
              go_wp2_with (first | ((with_reducible refine gate_dst (N := 6) rfl ?_); refine box_event ?hg (N := 6) ?hd (cs := #[.int .u64 0, .int .u64 0, .int .u64 0, .int .u64 0, .int .u64 0, .slice none 0 0, .bool false]) (t := 25) ?hr ?_; (case hd => rfl); (case hg => rfl); (case hr => first | (go_simp; done) | (go_simp; rfl)); intro gb278 hg w9 hbox hb; have n0_ := Aside0.mk (below_step (belN HB) hb); have n1_ := Aside0.mk (hbox); have n2_ := Aside0.mk ((by rw [hg]; exact (below_size (belN HB)) : w.heap.size ≤ gb278)); have n3_ := Aside0.mk ((by rw [hg]; exact (below_size (belN HB)) : w.heap.size ≤ gb278)); clear HB; have HB := n0_; have BK278 := n1_; have GW278 := n2_; have GE278 := n3_; clear n0_ n1_ n2_ n3_; clear hb hbox hg; obtain ⟨hcz10_0, hcz10_1, hcz10_2, hcz10_3, hcz10_4, hcz10_5, hcz10_6, hfz10_0, hfz10_1, hfz10_2, hfz10_3, hfz10_4, hfz10_5, hfz10_6⟩ := cz7_ (w := w9) BK278.out))
              go_roundg k1
              case measure => have := HK1.out; omega
              case rel => exact ⟨(wrap64 (x9_1 + 1)), (by first | rfl | (simp; done) | (simp [*]; done)), H', ⟨by have := HK1.out; omega⟩, ⟨by repeat (first | (with_reducible first | exact HB.out | apply below_alloc | apply pw_below_drewN | apply below_drew1 | refine below_set ?_ GE278.out) | exact HB.out)⟩⟩
          · rw [if_neg c5] at H
            exact absurd H (by simp)
        · rw [if_neg c4] at H
          exact absurd H (by simp)
      · rw [if_neg c3] at H
        have c3b0 : decide (x9_1 < (l0.length : Int)) = false := decide_eq_false c3
        clear c3
        obtain rfl := Option.some.inj H
        go_wp2
        go_ret
        exact ⟨by first | rfl | (simp [errW_none, errW_some] <;> rfl) | (simp [*, errW_none, errW_some] <;> rfl), by repeat (first | (with_reducible first | exact HB.out | apply below_alloc | apply pw_below_drewN | apply below_drew1) | exact HB.out)⟩

/-! ### damsonref10_Get: function 49 -/
def damsonref10_Get.f (k : Nat) (l0 : List (S25)) (a1 : Int) : Option (Int × Int × Int × Int × Int × (List (S44)) × Bool × Int) := (damsonref10_Check.f k l0).bind fun t280 => (if t280 = 0 then ((damsonref10_find.f k l0 a1).bind fun t281 => (if t281 < 0 then (some (0, 0, 0, 0, 0, ([] : List (S44)), false, 5)) else (if 0 ≤ t281 then (if t281 < (l0.length : Int) then ((damsonref09_Copy.f ((rd_T25 l0 t281).f0) ((rd_T25 l0 t281).f1) ((rd_T25 l0 t281).f2) ((rd_T25 l0 t281).f3) ((rd_T25 l0 t281).f4) ((rd_T25 l0 t281).f5) ((rd_T25 l0 t281).f6)).bind fun bt283 => (some (bt283.1, bt283.2.1, bt283.2.2.1, bt283.2.2.2.1, bt283.2.2.2.2.1, bt283.2.2.2.2.2.1, bt283.2.2.2.2.2.2, 0))) else (none)) else (none)))) else (some (0, 0, 0, 0, 0, ([] : List (S44)), false, 1)))
theorem damsonref10_Get.mono : ∀ a0 a1 k, LeO (damsonref10_Get.f k a0 a1) (damsonref10_Get.f (k + 1) a0 a1) := by
  intro a0 a1 k
  unfold damsonref10_Get.f
  repeat' first
      | (with_reducible exact damsonref10_Check.mono _ _)
      | (with_reducible exact damsonref10_find.mono _ _ _)
      | (with_reducible exact LeO.refl _)
      | (with_reducible exact LeO.none _)
      | (with_reducible refine LeO.ite ?_ ?_)
      | (with_reducible refine LeO.bind ?_ (fun _ => ?_))
      | exact damsonref10_Check.mono _ _
      | exact damsonref10_find.mono _ _ _
      | exact LeO.none _
      | refine LeO.ite ?_ ?_
      | refine LeO.bind ?_ (fun _ => ?_)
set_option maxHeartbeats 8000000 in
set_option maxRecDepth 100000 in
theorem damsonref10_Get.calls (k : Nat) (A0 : Option Addr) (c0 : Nat) (l0 : List (S25)) (a1 : Int) (r1 : Int) (r2 : Int) (r3 : Int) (r4 : Int) (r5 : Int) (r6 : List (S44)) (r7 : Bool) (r8 : Int) (w : World) (hr0 : Kd.C k25 w A0 l0.length l0) (hc0 : l0.length ≤ c0) (h : damsonref10_Get.f k l0 a1 = some (r1, r2, r3, r4, r5, r6, r7, r8)) :
    Calls Try.prog 49 #[.slice A0 l0.length c0, .int .u64 a1] w fun e w' => ∃ v5_ : Value, e = .returned (.tuple #[.agg #[.int .u64 r1, .int .u64 r2, .int .u64 r3, .int .u64 r4, .int .u64 r5, v5_, .bool r7], .int .i64 r8]) ∧ Kd.R k44 44 w' w.heap.size (fun _ => True) v5_ r6 ∧ Below w.heap.size w w' := by
  have hu25 := Try.underlying25
  have HR0 := Aside0.mk hr0
  have HC0 := Aside0.mk hc0
  clear hr0 hc0
  have HB := Aside0.mk (Below.refl w.heap.size w)
  have H : ((damsonref10_Check.f k l0).bind fun t280 => (if t280 = 0 then ((damsonref10_find.f k l0 a1).bind fun t281 => (if t281 < 0 then (some (0, 0, 0, 0, 0, ([] : List (S44)), false, 5)) else (if 0 ≤ t281 then (if t281 < (l0.length : Int) then ((damsonref09_Copy.f ((rd_T25 l0 t281).f0) ((rd_T25 l0 t281).f1) ((rd_T25 l0 t281).f2) ((rd_T25 l0 t281).f3) ((rd_T25 l0 t281).f4) ((rd_T25 l0 t281).f5) ((rd_T25 l0 t281).f6)).bind fun bt283 => (some (bt283.1, bt283.2.1, bt283.2.2.1, bt283.2.2.2.1, bt283.2.2.2.2.1, bt283.2.2.2.2.2.1, bt283.2.2.2.2.2.2, 0))) else (none)) else (none)))) else (some (0, 0, 0, 0, 0, ([] : List (S44)), false, 1)))) = some (r1, r2, r3, r4, r5, r6, r7, r8) := h
  clear h
  replace H := Option.bind_eq_some_iff.mp H
  obtain ⟨t280, A30, H⟩ := H
  replace H : (if t280 = 0 then ((damsonref10_find.f k l0 a1).bind fun t281 => (if t281 < 0 then (some (0, 0, 0, 0, 0, ([] : List (S44)), false, 5)) else (if 0 ≤ t281 then (if t281 < (l0.length : Int) then ((damsonref09_Copy.f ((rd_T25 l0 t281).f0) ((rd_T25 l0 t281).f1) ((rd_T25 l0 t281).f2) ((rd_T25 l0 t281).f3) ((rd_T25 l0 t281).f4) ((rd_T25 l0 t281).f5) ((rd_T25 l0 t281).f6)).bind fun bt283 => (some (bt283.1, bt283.2.1, bt283.2.2.1, bt283.2.2.2.1, bt283.2.2.2.2.1, bt283.2.2.2.2.2.1, bt283.2.2.2.2.2.2, 0))) else (none)) else (none)))) else (some (0, 0, 0, 0, 0, ([] : List (S44)), false, 1))) = some (r1, r2, r3, r4, r5, r6, r7, r8) := H
  have A3 := Aside0.mk A30
  clear A30
  by_cases c4 : t280 = 0
  · rw [if_pos c4] at H
    have c4b0 : (t280 == 0) = true := beq_iff_eq.mpr c4
    have c4b1 : (t280 != 0) = false := bne_eq_false_iff_eq.mpr c4
    clear c4
    replace H := Option.bind_eq_some_iff.mp H
    obtain ⟨t281, A50, H⟩ := H
    replace H : (if t281 < 0 then (some (0, 0, 0, 0, 0, ([] : List (S44)), false, 5)) else (if 0 ≤ t281 then (if t281 < (l0.length : Int) then ((damsonref09_Copy.f ((rd_T25 l0 t281).f0) ((rd_T25 l0 t281).f1) ((rd_T25 l0 t281).f2) ((rd_T25 l0 t281).f3) ((rd_T25 l0 t281).f4) ((rd_T25 l0 t281).f5) ((rd_T25 l0 t281).f6)).bind fun bt283 => (some (bt283.1, bt283.2.1, bt283.2.2.1, bt283.2.2.2.1, bt283.2.2.2.2.1, bt283.2.2.2.2.2.1, bt283.2.2.2.2.2.2, 0))) else (none)) else (none))) = some (r1, r2, r3, r4, r5, r6, r7, r8) := H
    have A5 := Aside0.mk A50
    clear A50
    by_cases c6 : t281 < 0
    · rw [if_pos c6] at H
      have c6b0 : decide (t281 < 0) = true := decide_eq_true c6
      clear c6
      simp only [Option.some.injEq, Prod.mk.injEq] at H
      obtain ⟨rfl, rfl, rfl, rfl, rfl, rfl, rfl, rfl⟩ := H
      go_enter Try.func49, Try.ntmps49
      go_wp2_with (first | ((with_reducible refine gate_dst (N := 4) rfl ?_); refine box_event ?hg (N := 4) ?hd (cs := #[.int .u64 0, .int .u64 0, .int .u64 0, .int .u64 0, .int .u64 0, .slice none 0 0, .bool false]) (t := 25) ?hr ?_; (case hd => rfl); (case hg => rfl); (case hr => first | (go_simp; done) | (go_simp; rfl)); intro gb279 hg w7 hbox hb; have n0_ := Aside0.mk (below_step (belN HB) hb); have n1_ := Aside0.mk (hbox); have n2_ := Aside0.mk ((by rw [hg]; exact (below_size (belN HB)) : w.heap.size ≤ gb279)); have n3_ := Aside0.mk ((by rw [hg]; exact (below_size (belN HB)) : w.heap.size ≤ gb279)); clear HB; have HB := n0_; have BK279 := n1_; have GW279 := n2_; have GE279 := n3_; clear n0_ n1_ n2_ n3_; clear hb hbox hg) | ((with_reducible refine gate_callee (f := 55) rfl ?_); refine goesL_ (some 8) rfl rfl Try.func55 (by kernel_rfl) rfl #[.slice A0 l0.length c0] rfl (by (try simp only [List.map_toArray, List.map_cons, List.map_nil]); first | done | rfl | (simp only [List.length_drop, List.length_take]; rfl)) ?_; (with_reducible refine (damsonref10_Check.calls k _ _ l0 t280 _ ?side1 ?side2 A3.out).mono ?_); (case side1 => repeat (first | exact (Kd.C_below HR0.out HB.out) | (with_reducible refine Kd.C_alloc ?_ _) | (with_reducible refine Kd.C_drewN ?_ _) | (with_reducible refine Kd.C_drew ?_))); (case side2 => exact HC0.out); rintro e w8 ⟨rfl, hb⟩; refine ⟨_, rfl, ?_⟩; have n0_ := Aside0.mk (blk_below (g := gb279) (blkN BK279) hb); have n1_ := Aside0.mk (below_step (belN HB) hb); clear BK279; clear HB; have BK279 := n0_; have HB := n1_; clear n0_ n1_; (try clear hb); (try clear hb2); (try clear hk); (try clear hi)) | ((with_reducible refine gate_callee (f := 106) rfl ?_); refine goesL_ (some 13) rfl rfl Try.func106 (by kernel_rfl) rfl #[.slice A0 l0.length c0, .int .u64 a1] rfl (by (try simp only [List.map_toArray, List.map_cons, List.map_nil]); first | done | rfl | (simp only [List.length_drop, List.length_take]; rfl)) ?_; (with_reducible refine (damsonref10_find.calls k _ _ l0 a1 t281 _ ?side1 ?side2 A5.out).mono ?_); (case side1 => repeat (first | exact (Kd.C_below HR0.out HB.out) | (with_reducible refine Kd.C_alloc ?_ _) | (with_reducible refine Kd.C_drewN ?_ _) | (with_reducible refine Kd.C_drew ?_))); (case side2 => exact HC0.out); rintro e w9 ⟨rfl, hb⟩; refine ⟨_, rfl, ?_⟩; have n0_ := Aside0.mk (blk_below (g := gb279) (blkN BK279) hb); have n1_ := Aside0.mk (below_step (belN HB) hb); clear BK279; clear HB; have BK279 := n0_; have HB := n1_; clear n0_ n1_; (try clear hb); (try clear hb2); (try clear hk); (try clear hi); obtain ⟨hcz10_0, hcz10_1, hcz10_2, hcz10_3, hcz10_4, hcz10_5, hcz10_6, hfz10_0, hfz10_1, hfz10_2, hfz10_3, hfz10_4, hfz10_5, hfz10_6⟩ := cz7_ (w := w9) BK279.out))
      refine bodyPost_ret (results_ct rfl _ _ gb279 25 #[.int .u64 0, .int .u64 0, .int .u64 0, .int .u64 0, .int .u64 0, .slice none 0 0, .bool false] (0, 0) _ rfl (by (with_reducible repeat (first | refine blk_drewN ?_ _ | refine blk_drew ?_ | refine blk_alloc ?_ _)); refine blk_put (cs := #[.int .u64 0, .int .u64 0, .int .u64 0, .int .u64 0, .int .u64 0, .slice none 0 0, .bool false]) ?_ 6 _ rfl; refine blk_put (cs := #[.int .u64 0, .int .u64 0, .int .u64 0, .int .u64 0, .int .u64 0, .slice none 0 0, .bool false]) ?_ 5 _ rfl; refine blk_put (cs := #[.int .u64 0, .int .u64 0, .int .u64 0, .int .u64 0, .int .u64 0, .slice none 0 0, .bool false]) ?_ 4 _ rfl; refine blk_put (cs := #[.int .u64 0, .int .u64 0, .int .u64 0, .int .u64 0, .int .u64 0, .slice none 0 0, .bool false]) ?_ 3 _ rfl; refine blk_put (cs := #[.int .u64 0, .int .u64 0, .int .u64 0, .int .u64 0, .int .u64 0, .slice none 0 0, .bool false]) ?_ 2 _ rfl; refine blk_put (cs := #[.int .u64 0, .int .u64 0, .int .u64 0, .int .u64 0, .int .u64 0, .slice none 0 0, .bool false]) ?_ 1 _ rfl; refine blk_put (cs := #[.int .u64 0, .int .u64 0, .int .u64 0, .int .u64 0, .int .u64 0, .slice none 0 0, .bool false]) ?_ 0 _ rfl; (with_reducible repeat (first | refine blk_drewN ?_ _ | refine blk_drew ?_ | refine blk_alloc ?_ _)); exact BK279.out) Try.underlying25 rfl (by kernel_rfl)) rfl ?_
      exact ⟨_, by first | rfl | (simp [errW_none, errW_some] <;> rfl) | (simp [*, errW_none, errW_some] <;> rfl), by first | exact Kd.R_nil _ _ _ _ _ | exact Kd.N_nil _ _ _ _ _ | exact Kd.V_nil _ _ _ _ _ | exact Kd.Q_nil _ _ _ _ _ | exact Kd.S_nil _ _ _ _ _, by repeat (first | (with_reducible first | exact HB.out | apply below_alloc | apply pw_below_drewN | apply below_drew1 | refine below_set ?_ GE279.out) | exact HB.out)⟩
    · rw [if_neg c6] at H
      have c6b0 : decide (t281 < 0) = false := decide_eq_false c6
      clear c6
      by_cases c11 : 0 ≤ t281
      · rw [if_pos c11] at H
        have c11b0 : decide (0 ≤ t281) = true := decide_eq_true c11
        clear c11
        by_cases c12 : t281 < (l0.length : Int)
        · rw [if_pos c12] at H
          have c12b0 : decide (t281 < (l0.length : Int)) = true := decide_eq_true c12
          clear c12
          replace H := Option.bind_eq_some_iff.mp H
          obtain ⟨⟨t283, t284, t285, t286, t287, t288, t291⟩, A130, H⟩ := H
          replace H : (some (t283, t284, t285, t286, t287, t288, t291, 0)) = some (r1, r2, r3, r4, r5, r6, r7, r8) := H
          have A13 := Aside0.mk A130
          clear A130
          simp only [Option.some.injEq, Prod.mk.injEq] at H
          obtain ⟨rfl, rfl, rfl, rfl, rfl, rfl, rfl, rfl⟩ := H
          go_enter Try.func49, Try.ntmps49
          go_wp2_with (first | ((with_reducible refine gate_dst (N := 4) rfl ?_); refine box_event ?hg (N := 4) ?hd (cs := #[.int .u64 0, .int .u64 0, .int .u64 0, .int .u64 0, .int .u64 0, .slice none 0 0, .bool false]) (t := 25) ?hr ?_; (case hd => rfl); (case hg => rfl); (case hr => first | (go_simp; done) | (go_simp; rfl)); intro gb279 hg w14 hbox hb; have n0_ := Aside0.mk (below_step (belN HB) hb); have n1_ := Aside0.mk (hbox); have n2_ := Aside0.mk ((by rw [hg]; exact (below_size (belN HB)) : w.heap.size ≤ gb279)); have n3_ := Aside0.mk ((by rw [hg]; exact (below_size (belN HB)) : w.heap.size ≤ gb279)); clear HB; have HB := n0_; have BK279 := n1_; have GW279 := n2_; have GE279 := n3_; clear n0_ n1_ n2_ n3_; clear hb hbox hg) | ((with_reducible refine gate_callee (f := 55) rfl ?_); refine goesL_ (some 8) rfl rfl Try.func55 (by kernel_rfl) rfl #[.slice A0 l0.length c0] rfl (by (try simp only [List.map_toArray, List.map_cons, List.map_nil]); first | done | rfl | (simp only [List.length_drop, List.length_take]; rfl)) ?_; (with_reducible refine (damsonref10_Check.calls k _ _ l0 t280 _ ?side1 ?side2 A3.out).mono ?_); (case side1 => repeat (first | exact (Kd.C_below HR0.out HB.out) | (with_reducible refine Kd.C_alloc ?_ _) | (with_reducible refine Kd.C_drewN ?_ _) | (with_reducible refine Kd.C_drew ?_))); (case side2 => exact HC0.out); rintro e w15 ⟨rfl, hb⟩; refine ⟨_, rfl, ?_⟩; have n0_ := Aside0.mk (blk_below (g := gb279) (blkN BK279) hb); have n1_ := Aside0.mk (below_step (belN HB) hb); clear BK279; clear HB; have BK279 := n0_; have HB := n1_; clear n0_ n1_; (try clear hb); (try clear hb2); (try clear hk); (try clear hi)) | ((with_reducible refine gate_callee (f := 106) rfl ?_); refine goesL_ (some 13) rfl rfl Try.func106 (by kernel_rfl) rfl #[.slice A0 l0.length c0, .int .u64 a1] rfl (by (try simp only [List.map_toArray, List.map_cons, List.map_nil]); first | done | rfl | (simp only [List.length_drop, List.length_take]; rfl)) ?_; (with_reducible refine (damsonref10_find.calls k _ _ l0 a1 t281 _ ?side1 ?side2 A5.out).mono ?_); (case side1 => repeat (first | exact (Kd.C_below HR0.out HB.out) | (with_reducible refine Kd.C_alloc ?_ _) | (with_reducible refine Kd.C_drewN ?_ _) | (with_reducible refine Kd.C_drew ?_))); (case side2 => exact HC0.out); rintro e w16 ⟨rfl, hb⟩; refine ⟨_, rfl, ?_⟩; have n0_ := Aside0.mk (blk_below (g := gb279) (blkN BK279) hb); have n1_ := Aside0.mk (below_step (belN HB) hb); clear BK279; clear HB; have BK279 := n0_; have HB := n1_; clear n0_ n1_; (try clear hb); (try clear hb2); (try clear hk); (try clear hi); have p282 : 0 ≤ (t281 : Int) := of_decide_eq_true (by first | (with_reducible assumption) | assumption); have q282 : t281 < (l0.length : Int) := of_decide_eq_true (by first | (with_reducible assumption) | assumption); obtain ⟨ad282, A282_5, c282_5, e282, hx282_0, hx282_1, hx282_2, hx282_3, hx282_4, hx282_5, hx282_6, hl282_5, hi282_5⟩ := at_T25 HR0.out t281 p282 q282; cases e282; replace hx282_0 := (HB.out.cell (World.block_lt_of_cell? w _ hx282_0)).trans hx282_0; replace hx282_1 := (HB.out.cell (World.block_lt_of_cell? w _ hx282_1)).trans hx282_1; replace hx282_2 := (HB.out.cell (World.block_lt_of_cell? w _ hx282_2)).trans hx282_2; replace hx282_3 := (HB.out.cell (World.block_lt_of_cell? w _ hx282_3)).trans hx282_3; replace hx282_4 := (HB.out.cell (World.block_lt_of_cell? w _ hx282_4)).trans hx282_4; replace hx282_5 := (HB.out.cell (World.block_lt_of_cell? w _ hx282_5)).trans hx282_5; replace hx282_6 := (HB.out.cell (World.block_lt_of_cell? w _ hx282_6)).trans hx282_6; have HR282_5 := Aside0.mk hi282_5; have HC282_5 := Aside0.mk hl282_5; clear hi282_5 hl282_5; replace p282 := eq_true p282; replace q282 := eq_true q282) | ((with_reducible refine gate_callee (f := 38) rfl ?_); refine goesL_ (some 21) rfl rfl Try.func38 (by kernel_rfl) rfl #[.agg #[.int .u64 ((rd_T25 l0 t281).f0), .int .u64 ((rd_T25 l0 t281).f1), .int .u64 ((rd_T25 l0 t281).f2), .int .u64 ((rd_T25 l0 t281).f3), .int .u64 ((rd_T25 l0 t281).f4), .slice A282_5 ((rd_T25 l0 t281).f5).length c282_5, .bool ((rd_T25 l0 t281).f6)]] rfl (by (try simp only [List.map_toArray, List.map_cons, List.map_nil]); first | done | rfl | (simp only [List.length_drop, List.length_take]; rfl)) ?_; (with_reducible refine (damsonref09_Copy.calls ((rd_T25 l0 t281).f0) ((rd_T25 l0 t281).f1) ((rd_T25 l0 t281).f2) ((rd_T25 l0 t281).f3) ((rd_T25 l0 t281).f4) _ _ ((rd_T25 l0 t281).f5) ((rd_T25 l0 t281).f6) t283 t284 t285 t286 t287 t288 t291 _ ?side1 ?side2 A13.out).mono ?_); (case side1 => repeat (first | exact (Kd.C_below HR282_5.out HB.out) | (with_reducible refine Kd.C_alloc ?_ _) | (with_reducible refine Kd.C_drewN ?_ _) | (with_reducible refine Kd.C_drew ?_))); (case side2 => exact HC282_5.out); rintro e w17 ⟨v289, rfl, ho0, hb⟩; refine ⟨_, rfl, ?_⟩; have n0_ := Aside0.mk (Kd.R_lower ho0 (below_size (belN HB))); have n1_ := Aside0.mk (blk_below (g := gb279) (blkN BK279) hb); have n2_ := Aside0.mk (below_step (belN HB) hb); clear BK279; clear HB; have HO290 := n0_; have BK279 := n1_; have HB := n2_; clear n0_ n1_ n2_; (try clear hb); (try clear hb2); (try clear hk); (try clear hi); (try clear ho0); obtain ⟨hcz18_0, hcz18_1, hcz18_2, hcz18_3, hcz18_4, hcz18_5, hcz18_6, hfz18_0, hfz18_1, hfz18_2, hfz18_3, hfz18_4, hfz18_5, hfz18_6⟩ := cz7_ (w := w17) BK279.out; obtain ⟨Ao19, co19, eo19⟩ := Kd.R_slice HO290.out; subst eo19))
          refine bodyPost_ret (results_ct rfl _ _ gb279 25 #[.int .u64 t283, .int .u64 t284, .int .u64 t285, .int .u64 t286, .int .u64 t287, .slice Ao19 t288.length co19, .bool t291] (0, 0) _ rfl (by (with_reducible repeat (first | refine blk_drewN ?_ _ | refine blk_drew ?_ | refine blk_alloc ?_ _)); refine blk_put (cs := #[.int .u64 t283, .int .u64 t284, .int .u64 t285, .int .u64 t286, .int .u64 t287, .slice Ao19 t288.length co19, .bool false]) ?_ 6 _ rfl; refine blk_put (cs := #[.int .u64 t283, .int .u64 t284, .int .u64 t285, .int .u64 t286, .int .u64 t287, .slice none 0 0, .bool false]) ?_ 5 _ rfl; refine blk_put (cs := #[.int .u64 t283, .int .u64 t284, .int .u64 t285, .int .u64 t286, .int .u64 0, .slice none 0 0, .bool false]) ?_ 4 _ rfl; refine blk_put (cs := #[.int .u64 t283, .int .u64 t284, .int .u64 t285, .int .u64 0, .int .u64 0, .slice none 0 0, .bool false]) ?_ 3 _ rfl; refine blk_put (cs := #[.int .u64 t283, .int .u64 t284, .int .u64 0, .int .u64 0, .int .u64 0, .slice none 0 0, .bool false]) ?_ 2 _ rfl; refine blk_put (cs := #[.int .u64 t283, .int .u64 0, .int .u64 0, .int .u64 0, .int .u64 0, .slice none 0 0, .bool false]) ?_ 1 _ rfl; refine blk_put (cs := #[.int .u64 0, .int .u64 0, .int .u64 0, .int .u64 0, .int .u64 0, .slice none 0 0, .bool false]) ?_ 0 _ rfl; (with_reducible repeat (first | refine blk_drewN ?_ _ | refine blk_drew ?_ | refine blk_alloc ?_ _)); exact BK279.out) Try.underlying25 rfl (by kernel_rfl)) rfl ?_
          exact ⟨_, by first | rfl | (simp [errW_none, errW_some] <;> rfl) | (simp [*, errW_none, errW_some] <;> rfl), by (with_reducible repeat (first | apply Kd.R_alloc | apply Kd.R_drewN | apply Kd.R_drew)); exact Kd.R_mono (Kd.R_far (p := ⟨gb279, 6, none⟩) (Kd.R_far (p := ⟨gb279, 5, none⟩) (Kd.R_far (p := ⟨gb279, 4, none⟩) (Kd.R_far (p := ⟨gb279, 3, none⟩) (Kd.R_far (p := ⟨gb279, 2, none⟩) (Kd.R_far (p := ⟨gb279, 1, none⟩) (Kd.R_far (p := ⟨gb279, 0, none⟩) (Kd.R_types HO290.out BK279.out (by decide)) (fun _ hk => hk.2) (.int .u64 t283)) (fun _ hk => hk.2) (.int .u64 t284)) (fun _ hk => hk.2) (.int .u64 t285)) (fun _ hk => hk.2) (.int .u64 t286)) (fun _ hk => hk.2) (.int .u64 t287)) (fun _ hk => hk.2) (.slice Ao19 t288.length co19)) (fun _ hk => hk.2) (.bool t291)) (fun _ hk => trivial), by repeat (first | (with_reducible first | exact HB.out | apply below_alloc | apply pw_below_drewN | apply below_drew1 | refine below_set ?_ GE279.out) | exact HB.out)⟩
        · rw [if_neg c12] at H
          exact absurd H (by simp)
      · rw [if_neg c11] at H
        exact absurd H (by simp)
  · rw [if_neg c4] at H
    have c4b0 : (t280 == 0) = false := beq_eq_false_iff_ne.mpr c4
    have c4b1 : (t280 != 0) = true := bne_iff_ne.mpr c4
    simp only [Option.some.injEq, Prod.mk.injEq] at H
    obtain ⟨rfl, rfl, rfl, rfl, rfl, rfl, rfl, rfl⟩ := H
    go_enter Try.func49, Try.ntmps49
    go_wp2_with (first | ((with_reducible refine gate_dst (N := 4) rfl ?_); refine box_event ?hg (N := 4) ?hd (cs := #[.int .u64 0, .int .u64 0, .int .u64 0, .int .u64 0, .int .u64 0, .slice none 0 0, .bool false]) (t := 25) ?hr ?_; (case hd => rfl); (case hg => rfl); (case hr => first | (go_simp; done) | (go_simp; rfl)); intro gb279 hg w20 hbox hb; have n0_ := Aside0.mk (below_step (belN HB) hb); have n1_ := Aside0.mk (hbox); have n2_ := Aside0.mk ((by rw [hg]; exact (below_size (belN HB)) : w.heap.size ≤ gb279)); have n3_ := Aside0.mk ((by rw [hg]; exact (below_size (belN HB)) : w.heap.size ≤ gb279)); clear HB; have HB := n0_; have BK279 := n1_; have GW279 := n2_; have GE279 := n3_; clear n0_ n1_ n2_ n3_; clear hb hbox hg) | ((with_reducible refine gate_callee (f := 55) rfl ?_); refine goesL_ (some 8) rfl rfl Try.func55 (by kernel_rfl) rfl #[.slice A0 l0.length c0] rfl (by (try simp only [List.map_toArray, List.map_cons, List.map_nil]); first | done | rfl | (simp only [List.length_drop, List.length_take]; rfl)) ?_; (with_reducible refine (damsonref10_Check.calls k _ _ l0 t280 _ ?side1 ?side2 A3.out).mono ?_); (case side1 => repeat (first | exact (Kd.C_below HR0.out HB.out) | (with_reducible refine Kd.C_alloc ?_ _) | (with_reducible refine Kd.C_drewN ?_ _) | (with_reducible refine Kd.C_drew ?_))); (case side2 => exact HC0.out); rintro e w21 ⟨rfl, hb⟩; refine ⟨_, rfl, ?_⟩; have n0_ := Aside0.mk (blk_below (g := gb279) (blkN BK279) hb); have n1_ := Aside0.mk (below_step (belN HB) hb); clear BK279; clear HB; have BK279 := n0_; have HB := n1_; clear n0_ n1_; (try clear hb); (try clear hb2); (try clear hk); (try clear hi); obtain ⟨hcz22_0, hcz22_1, hcz22_2, hcz22_3, hcz22_4, hcz22_5, hcz22_6, hfz22_0, hfz22_1, hfz22_2, hfz22_3, hfz22_4, hfz22_5, hfz22_6⟩ := cz7_ (w := w21) BK279.out))
    refine bodyPost_ret (results_ct rfl _ _ gb279 25 #[.int .u64 0, .int .u64 0, .int .u64 0, .int .u64 0, .int .u64 0, .slice none 0 0, .bool false] (0, 0) _ rfl (by (with_reducible repeat (first | refine blk_drewN ?_ _ | refine blk_drew ?_ | refine blk_alloc ?_ _)); refine blk_put (cs := #[.int .u64 0, .int .u64 0, .int .u64 0, .int .u64 0, .int .u64 0, .slice none 0 0, .bool false]) ?_ 6 _ rfl; refine blk_put (cs := #[.int .u64 0, .int .u64 0, .int .u64 0, .int .u64 0, .int .u64 0, .slice none 0 0, .bool false]) ?_ 5 _ rfl; refine blk_put (cs := #[.int .u64 0, .int .u64 0, .int .u64 0, .int .u64 0, .int .u64 0, .slice none 0 0, .bool false]) ?_ 4 _ rfl; refine blk_put (cs := #[.int .u64 0, .int .u64 0, .int .u64 0, .int .u64 0, .int .u64 0, .slice none 0 0, .bool false]) ?_ 3 _ rfl; refine blk_put (cs := #[.int .u64 0, .int .u64 0, .int .u64 0, .int .u64 0, .int .u64 0, .slice none 0 0, .bool false]) ?_ 2 _ rfl; refine blk_put (cs := #[.int .u64 0, .int .u64 0, .int .u64 0, .int .u64 0, .int .u64 0, .slice none 0 0, .bool false]) ?_ 1 _ rfl; refine blk_put (cs := #[.int .u64 0, .int .u64 0, .int .u64 0, .int .u64 0, .int .u64 0, .slice none 0 0, .bool false]) ?_ 0 _ rfl; (with_reducible repeat (first | refine blk_drewN ?_ _ | refine blk_drew ?_ | refine blk_alloc ?_ _)); exact BK279.out) Try.underlying25 rfl (by kernel_rfl)) rfl ?_
    exact ⟨_, by first | rfl | (simp [errW_none, errW_some] <;> rfl) | (simp [*, errW_none, errW_some] <;> rfl), by first | exact Kd.R_nil _ _ _ _ _ | exact Kd.N_nil _ _ _ _ _ | exact Kd.V_nil _ _ _ _ _ | exact Kd.Q_nil _ _ _ _ _ | exact Kd.S_nil _ _ _ _ _, by repeat (first | (with_reducible first | exact HB.out | apply below_alloc | apply pw_below_drewN | apply below_drew1 | refine below_set ?_ GE279.out) | exact HB.out)⟩

/-! ### damsonref10_Where: function 51 -/
def damsonref10_Where.f (k : Nat) (l0 : List (S25)) (a1 : Int) : Option (Int × Int) := (damsonref10_Check.f k l0).bind fun t292 => (if t292 = 0 then ((damsonref10_where.f k l0 a1).bind fun t293 => (if t293 < 0 then (some (0, 5)) else (if 0 ≤ t293 then (if t293 < (l0.length : Int) then (some ((rd_T25 l0 t293).f0, 0)) else (none)) else (none)))) else (some (0, 1)))
theorem damsonref10_Where.mono : ∀ a0 a1 k, LeO (damsonref10_Where.f k a0 a1) (damsonref10_Where.f (k + 1) a0 a1) := by
  intro a0 a1 k
  unfold damsonref10_Where.f
  repeat' first
      | (with_reducible exact damsonref10_Check.mono _ _)
      | (with_reducible exact damsonref10_where.mono _ _ _)
      | (with_reducible exact LeO.refl _)
      | (with_reducible exact LeO.none _)
      | (with_reducible refine LeO.ite ?_ ?_)
      | (with_reducible refine LeO.bind ?_ (fun _ => ?_))
      | exact damsonref10_Check.mono _ _
      | exact damsonref10_where.mono _ _ _
      | exact LeO.none _
      | refine LeO.ite ?_ ?_
      | refine LeO.bind ?_ (fun _ => ?_)
set_option maxHeartbeats 8000000 in
set_option maxRecDepth 100000 in
theorem damsonref10_Where.calls (k : Nat) (A0 : Option Addr) (c0 : Nat) (l0 : List (S25)) (a1 : Int) (r1 : Int) (r2 : Int) (w : World) (hr0 : Kd.C k25 w A0 l0.length l0) (hc0 : l0.length ≤ c0) (h : damsonref10_Where.f k l0 a1 = some (r1, r2)) :
    Calls Try.prog 51 #[.slice A0 l0.length c0, .int .u64 a1] w fun e w' => e = .returned (.tuple #[.int .u64 r1, .int .i64 r2]) ∧ Below w.heap.size w w' := by
  have HR0 := Aside0.mk hr0
  have HC0 := Aside0.mk hc0
  clear hr0 hc0
  have HB := Aside0.mk (Below.refl w.heap.size w)
  have H : ((damsonref10_Check.f k l0).bind fun t292 => (if t292 = 0 then ((damsonref10_where.f k l0 a1).bind fun t293 => (if t293 < 0 then (some (0, 5)) else (if 0 ≤ t293 then (if t293 < (l0.length : Int) then (some ((rd_T25 l0 t293).f0, 0)) else (none)) else (none)))) else (some (0, 1)))) = some (r1, r2) := h
  clear h
  replace H := Option.bind_eq_some_iff.mp H
  obtain ⟨t292, A30, H⟩ := H
  replace H : (if t292 = 0 then ((damsonref10_where.f k l0 a1).bind fun t293 => (if t293 < 0 then (some (0, 5)) else (if 0 ≤ t293 then (if t293 < (l0.length : Int) then (some ((rd_T25 l0 t293).f0, 0)) else (none)) else (none)))) else (some (0, 1))) = some (r1, r2) := H
  have A3 := Aside0.mk A30
  clear A30
  by_cases c4 : t292 = 0
  · rw [if_pos c4] at H
    have c4b0 : (t292 == 0) = true := beq_iff_eq.mpr c4
    have c4b1 : (t292 != 0) = false := bne_eq_false_iff_eq.mpr c4
    clear c4
    replace H := Option.bind_eq_some_iff.mp H
    obtain ⟨t293, A50, H⟩ := H
    replace H : (if t293 < 0 then (some (0, 5)) else (if 0 ≤ t293 then (if t293 < (l0.length : Int) then (some ((rd_T25 l0 t293).f0, 0)) else (none)) else (none))) = some (r1, r2) := H
    have A5 := Aside0.mk A50
    clear A50
    by_cases c6 : t293 < 0
    · rw [if_pos c6] at H
      have c6b0 : decide (t293 < 0) = true := decide_eq_true c6
      clear c6
      simp only [Option.some.injEq, Prod.mk.injEq] at H
      obtain ⟨rfl, rfl⟩ := H
      go_enter Try.func51, Try.ntmps51
      go_wp2_with (first | ((with_reducible refine gate_callee (f := 55) rfl ?_); refine goesL_ (some 8) rfl rfl Try.func55 (by kernel_rfl) rfl #[.slice A0 l0.length c0] rfl (by (try simp only [List.map_toArray, List.map_cons, List.map_nil]); first | done | rfl | (simp only [List.length_drop, List.length_take]; rfl)) ?_; (with_reducible refine (damsonref10_Check.calls k _ _ l0 t292 _ ?side1 ?side2 A3.out).mono ?_); (case side1 => repeat (first | exact HR0.out | (with_reducible refine Kd.C_alloc ?_ _) | (with_reducible refine Kd.C_drewN ?_ _) | (with_reducible refine Kd.C_drew ?_))); (case side2 => exact HC0.out); rintro e w7 ⟨rfl, hb⟩; refine ⟨_, rfl, ?_⟩; have n0_ := Aside0.mk (below_step (belN HB) hb); clear HB; have HB := n0_; clear n0_; (try clear hb); (try clear hb2); (try clear hk); (try clear hi)) | ((with_reducible refine gate_callee (f := 108) rfl ?_); refine goesL_ (some 12) rfl rfl Try.func108 (by kernel_rfl) rfl #[.slice A0 l0.length c0, .int .u64 a1] rfl (by (try simp only [List.map_toArray, List.map_cons, List.map_nil]); first | done | rfl | (simp only [List.length_drop, List.length_take]; rfl)) ?_; (with_reducible refine (damsonref10_where.calls k _ _ l0 a1 t293 _ ?side1 ?side2 A5.out).mono ?_); (case side1 => repeat (first | exact (Kd.C_below HR0.out HB.out) | (with_reducible refine Kd.C_alloc ?_ _) | (with_reducible refine Kd.C_drewN ?_ _) | (with_reducible refine Kd.C_drew ?_))); (case side2 => exact HC0.out); rintro e w8 ⟨rfl, hb⟩; refine ⟨_, rfl, ?_⟩; have n0_ := Aside0.mk (below_step (belN HB) hb); clear HB; have HB := n0_; clear n0_; (try clear hb); (try clear hb2); (try clear hk); (try clear hi)))
      go_ret2
      exact ⟨by first | rfl | (simp [errW_none, errW_some] <;> rfl) | (simp [*, errW_none, errW_some] <;> rfl), by repeat (first | (with_reducible first | exact HB.out | apply below_alloc | apply pw_below_drewN | apply below_drew1) | exact HB.out)⟩
    · rw [if_neg c6] at H
      have c6b0 : decide (t293 < 0) = false := decide_eq_false c6
      clear c6
      by_cases c9 : 0 ≤ t293
      · rw [if_pos c9] at H
        have c9b0 : decide (0 ≤ t293) = true := decide_eq_true c9
        clear c9
        by_cases c10 : t293 < (l0.length : Int)
        · rw [if_pos c10] at H
          have c10b0 : decide (t293 < (l0.length : Int)) = true := decide_eq_true c10
          clear c10
          simp only [Option.some.injEq, Prod.mk.injEq] at H
          obtain ⟨rfl, rfl⟩ := H
          go_enter Try.func51, Try.ntmps51
          go_wp2_with (first | ((with_reducible refine gate_callee (f := 55) rfl ?_); refine goesL_ (some 8) rfl rfl Try.func55 (by kernel_rfl) rfl #[.slice A0 l0.length c0] rfl (by (try simp only [List.map_toArray, List.map_cons, List.map_nil]); first | done | rfl | (simp only [List.length_drop, List.length_take]; rfl)) ?_; (with_reducible refine (damsonref10_Check.calls k _ _ l0 t292 _ ?side1 ?side2 A3.out).mono ?_); (case side1 => repeat (first | exact HR0.out | (with_reducible refine Kd.C_alloc ?_ _) | (with_reducible refine Kd.C_drewN ?_ _) | (with_reducible refine Kd.C_drew ?_))); (case side2 => exact HC0.out); rintro e w11 ⟨rfl, hb⟩; refine ⟨_, rfl, ?_⟩; have n0_ := Aside0.mk (below_step (belN HB) hb); clear HB; have HB := n0_; clear n0_; (try clear hb); (try clear hb2); (try clear hk); (try clear hi)) | ((with_reducible refine gate_callee (f := 108) rfl ?_); refine goesL_ (some 12) rfl rfl Try.func108 (by kernel_rfl) rfl #[.slice A0 l0.length c0, .int .u64 a1] rfl (by (try simp only [List.map_toArray, List.map_cons, List.map_nil]); first | done | rfl | (simp only [List.length_drop, List.length_take]; rfl)) ?_; (with_reducible refine (damsonref10_where.calls k _ _ l0 a1 t293 _ ?side1 ?side2 A5.out).mono ?_); (case side1 => repeat (first | exact (Kd.C_below HR0.out HB.out) | (with_reducible refine Kd.C_alloc ?_ _) | (with_reducible refine Kd.C_drewN ?_ _) | (with_reducible refine Kd.C_drew ?_))); (case side2 => exact HC0.out); rintro e w12 ⟨rfl, hb⟩; refine ⟨_, rfl, ?_⟩; have n0_ := Aside0.mk (below_step (belN HB) hb); clear HB; have HB := n0_; clear n0_; (try clear hb); (try clear hb2); (try clear hk); (try clear hi); have p294 : 0 ≤ (t293 : Int) := of_decide_eq_true (by first | (with_reducible assumption) | assumption); have q294 : t293 < (l0.length : Int) := of_decide_eq_true (by first | (with_reducible assumption) | assumption); obtain ⟨ad294, A294_5, c294_5, e294, hx294_0, hx294_1, hx294_2, hx294_3, hx294_4, hx294_5, hx294_6, hl294_5, hi294_5⟩ := at_T25 HR0.out t293 p294 q294; cases e294; replace hx294_0 := (HB.out.cell (World.block_lt_of_cell? w _ hx294_0)).trans hx294_0; replace hx294_1 := (HB.out.cell (World.block_lt_of_cell? w _ hx294_1)).trans hx294_1; replace hx294_2 := (HB.out.cell (World.block_lt_of_cell? w _ hx294_2)).trans hx294_2; replace hx294_3 := (HB.out.cell (World.block_lt_of_cell? w _ hx294_3)).trans hx294_3; replace hx294_4 := (HB.out.cell (World.block_lt_of_cell? w _ hx294_4)).trans hx294_4; replace hx294_5 := (HB.out.cell (World.block_lt_of_cell? w _ hx294_5)).trans hx294_5; replace hx294_6 := (HB.out.cell (World.block_lt_of_cell? w _ hx294_6)).trans hx294_6; have HR294_5 := Aside0.mk hi294_5; have HC294_5 := Aside0.mk hl294_5; clear hi294_5 hl294_5; replace p294 := eq_true p294; replace q294 := eq_true q294))
          go_ret2
          exact ⟨by first | rfl | (simp [errW_none, errW_some] <;> rfl) | (simp [*, errW_none, errW_some] <;> rfl), by repeat (first | (with_reducible first | exact HB.out | apply below_alloc | apply pw_below_drewN | apply below_drew1) | exact HB.out)⟩
        · rw [if_neg c10] at H
          exact absurd H (by simp)
      · rw [if_neg c9] at H
        exact absurd H (by simp)
  · rw [if_neg c4] at H
    have c4b0 : (t292 == 0) = false := beq_eq_false_iff_ne.mpr c4
    have c4b1 : (t292 != 0) = true := bne_iff_ne.mpr c4
    simp only [Option.some.injEq, Prod.mk.injEq] at H
    obtain ⟨rfl, rfl⟩ := H
    go_enter Try.func51, Try.ntmps51
    go_wp2_with (first | ((with_reducible refine gate_callee (f := 55) rfl ?_); refine goesL_ (some 8) rfl rfl Try.func55 (by kernel_rfl) rfl #[.slice A0 l0.length c0] rfl (by (try simp only [List.map_toArray, List.map_cons, List.map_nil]); first | done | rfl | (simp only [List.length_drop, List.length_take]; rfl)) ?_; (with_reducible refine (damsonref10_Check.calls k _ _ l0 t292 _ ?side1 ?side2 A3.out).mono ?_); (case side1 => repeat (first | exact HR0.out | (with_reducible refine Kd.C_alloc ?_ _) | (with_reducible refine Kd.C_drewN ?_ _) | (with_reducible refine Kd.C_drew ?_))); (case side2 => exact HC0.out); rintro e w13 ⟨rfl, hb⟩; refine ⟨_, rfl, ?_⟩; have n0_ := Aside0.mk (below_step (belN HB) hb); clear HB; have HB := n0_; clear n0_; (try clear hb); (try clear hb2); (try clear hk); (try clear hi)))
    go_ret2
    exact ⟨by first | rfl | (simp [errW_none, errW_some] <;> rfl) | (simp [*, errW_none, errW_some] <;> rfl), by repeat (first | (with_reducible first | exact HB.out | apply below_alloc | apply pw_below_drewN | apply below_drew1) | exact HB.out)⟩

/-! ### channel_Held: function 28 -/
def channel_Held.f (k : Nat) (a0_0 : Int) (a0_1 : Int) (a0_2 : Int) (a0_3 : Int) (a0_4 : Int) (l0_5 : List (S44)) (a0_6 : Bool) : Option (Int × Int) := (channel_sums.f k a0_0 a0_1 a0_2 a0_3 a0_4 l0_5 a0_6).bind fun bt296 => (some (bt296.1, bt296.2.2))
theorem channel_Held.mono : ∀ a0 a1 a2 a3 a4 a5 a6 k, LeO (channel_Held.f k a0 a1 a2 a3 a4 a5 a6) (channel_Held.f (k + 1) a0 a1 a2 a3 a4 a5 a6) := by
  intro a0 a1 a2 a3 a4 a5 a6 k
  unfold channel_Held.f
  repeat' first
      | (with_reducible exact channel_sums.mono _ _ _ _ _ _ _ _)
      | (with_reducible exact LeO.refl _)
      | (with_reducible exact LeO.none _)
      | (with_reducible refine LeO.ite ?_ ?_)
      | (with_reducible refine LeO.bind ?_ (fun _ => ?_))
      | exact channel_sums.mono _ _ _ _ _ _ _ _
      | exact LeO.none _
      | refine LeO.ite ?_ ?_
      | refine LeO.bind ?_ (fun _ => ?_)
set_option maxHeartbeats 8000000 in
set_option maxRecDepth 100000 in
theorem channel_Held.calls (k : Nat) (a0_0 : Int) (a0_1 : Int) (a0_2 : Int) (a0_3 : Int) (a0_4 : Int) (A0_5 : Option Addr) (c0_5 : Nat) (l0_5 : List (S44)) (a0_6 : Bool) (r1 : Int) (r2 : Int) (w : World) (hr0_5 : Kd.C k44 w A0_5 l0_5.length l0_5) (hc0_5 : l0_5.length ≤ c0_5) (h : channel_Held.f k a0_0 a0_1 a0_2 a0_3 a0_4 l0_5 a0_6 = some (r1, r2)) :
    Calls Try.prog 28 #[.agg #[.int .u64 a0_0, .int .u64 a0_1, .int .u64 a0_2, .int .u64 a0_3, .int .u64 a0_4, .slice A0_5 l0_5.length c0_5, .bool a0_6]] w fun e w' => e = .returned (.tuple #[.int .u64 r1, .int .i64 r2]) ∧ Below w.heap.size w w' := by
  have hu25 := Try.underlying25
  have HR0_5 := Aside0.mk hr0_5
  have HC0_5 := Aside0.mk hc0_5
  clear hr0_5 hc0_5
  have HB := Aside0.mk (Below.refl w.heap.size w)
  have H : ((channel_sums.f k a0_0 a0_1 a0_2 a0_3 a0_4 l0_5 a0_6).bind fun bt296 => (some (bt296.1, bt296.2.2))) = some (r1, r2) := h
  clear h
  replace H := Option.bind_eq_some_iff.mp H
  obtain ⟨⟨t296, t297, t298⟩, A20, H⟩ := H
  replace H : (some (t296, t298)) = some (r1, r2) := H
  have A2 := Aside0.mk A20
  clear A20
  simp only [Option.some.injEq, Prod.mk.injEq] at H
  obtain ⟨rfl, rfl⟩ := H
  go_enter Try.func28, Try.ntmps28
  go_wp2_with (first | ((with_reducible refine gate_dst (N := 1) rfl ?_); refine box_event ?hg (N := 1) ?hd (cs := #[.int .u64 a0_0, .int .u64 a0_1, .int .u64 a0_2, .int .u64 a0_3, .int .u64 a0_4, .slice A0_5 l0_5.length c0_5, .bool a0_6]) (t := 25) ?hr ?_; (case hd => rfl); (case hg => rfl); (case hr => first | (go_simp; done) | (go_simp; rfl)); intro gb295 hg w3 hbox hb; have n0_ := Aside0.mk (below_step (belN HB) hb); have n1_ := Aside0.mk (hbox); have n2_ := Aside0.mk ((by rw [hg]; exact (below_size (belN HB)) : w.heap.size ≤ gb295)); have n3_ := Aside0.mk ((by rw [hg]; exact (below_size (belN HB)) : w.heap.size ≤ gb295)); clear HB; have HB := n0_; have BK295 := n1_; have GW295 := n2_; have GE295 := n3_; clear n0_ n1_ n2_ n3_; clear hb hbox hg; obtain ⟨hcz4_0, hcz4_1, hcz4_2, hcz4_3, hcz4_4, hcz4_5, hcz4_6, hfz4_0, hfz4_1, hfz4_2, hfz4_3, hfz4_4, hfz4_5, hfz4_6⟩ := cz7_ (w := w3) BK295.out) | ((with_reducible refine gate_callee (f := 83) rfl ?_); refine goesL_ (some 9) rfl rfl Try.func83 (by kernel_rfl) rfl #[.agg #[.int .u64 a0_0, .int .u64 a0_1, .int .u64 a0_2, .int .u64 a0_3, .int .u64 a0_4, .slice A0_5 l0_5.length c0_5, .bool a0_6]] rfl (by (try simp only [List.map_toArray, List.map_cons, List.map_nil]); first | done | rfl | (simp only [List.length_drop, List.length_take]; rfl)) ?_; (with_reducible refine (channel_sums.calls k a0_0 a0_1 a0_2 a0_3 a0_4 _ _ l0_5 a0_6 t296 t297 t298 _ ?side1 ?side2 A2.out).mono ?_); (case side1 => repeat (first | exact (Kd.C_below HR0_5.out HB.out) | (with_reducible refine Kd.C_alloc ?_ _) | (with_reducible refine Kd.C_drewN ?_ _) | (with_reducible refine Kd.C_drew ?_))); (case side2 => exact HC0_5.out); rintro e w5 ⟨rfl, hb⟩; refine ⟨_, rfl, ?_⟩; have n0_ := Aside0.mk (blk_below (g := gb295) (blkN BK295) hb); have n1_ := Aside0.mk (below_step (belN HB) hb); clear BK295; clear HB; have BK295 := n0_; have HB := n1_; clear n0_ n1_; (try clear hb); (try clear hb2); (try clear hk); (try clear hi)))
  go_ret2
  exact ⟨by first | rfl | (simp [errW_none, errW_some] <;> rfl) | (simp [*, errW_none, errW_some] <;> rfl), by repeat (first | (with_reducible first | exact HB.out | apply below_alloc | apply pw_below_drewN | apply below_drew1 | refine below_set ?_ GE295.out) | exact HB.out)⟩

/-! ### ledger_Ours: function 52 (by hand) -/
def ledger_Ours.l0 : Nat → Int → Int → List (S25) → Int → Int → Option (Int × Int × Int)
  | 0, _, _, _, _, _ => none
  | k + 1, x2, x3, x14, x15, x16 => if x16 < x15 then (if 0 ≤ x16 then (if x16 < (x14.length : Int) then ((channel_Held.f k ((rd_T25 x14 x16).f0) ((rd_T25 x14 x16).f1) ((rd_T25 x14 x16).f2) ((rd_T25 x14 x16).f3) ((rd_T25 x14 x16).f4) ((rd_T25 x14 x16).f5) ((rd_T25 x14 x16).f6)).bind fun bt283 => (if bt283.2 = 0 then (if (rd_T25 x14 x16).f6 = true then (ledger_Ours.l0 k (IntKind.u64.wrap (x2 + ((rd_T25 x14 x16).f1))) (IntKind.u64.wrap (x3 + bt283.1)) x14 x15 (wrap64 (x16 + 1))) else (ledger_Ours.l0 k x2 (IntKind.u64.wrap (x3 + bt283.1)) x14 x15 (wrap64 (x16 + 1)))) else (some (0, 0, bt283.2)))) else (none)) else (none)) else (some (x2, x3, 0))
def ledger_Ours.f (k : Nat) (l0 : List (S25)) : Option (Int × Int × Int) := (ledger_Check.f k l0).bind fun t280 => (if t280 = 0 then (ledger_Ours.l0 k 0 0 l0 (l0.length : Int) 0) else (some (0, 0, t280)))
theorem ledger_Ours.mono_l : ∀ k, (∀ y0 y1 y2 y3 y4, LeO (ledger_Ours.l0 k y0 y1 y2 y3 y4) (ledger_Ours.l0 (k + 1) y0 y1 y2 y3 y4))
  | 0 => fun _ _ _ _ _ r h => by simp [ledger_Ours.l0] at h
  | k + 1 => by
    have ih0 := ledger_Ours.mono_l k
    · intro y0 y1 y2 y3 y4
      unfold ledger_Ours.l0
      repeat' first
      | (with_reducible exact ih0 _ _ _ _ _)
      | (with_reducible exact channel_Held.mono _ _ _ _ _ _ _ _)
      | (with_reducible exact ledger_Check.mono _ _)
      | (with_reducible exact LeO.refl _)
      | (with_reducible exact LeO.none _)
      | (with_reducible refine LeO.ite ?_ ?_)
      | (with_reducible refine LeO.bind ?_ (fun _ => ?_))
      | exact ih0 _ _ _ _ _
      | exact channel_Held.mono _ _ _ _ _ _ _ _
      | exact ledger_Check.mono _ _
      | exact LeO.none _
      | refine LeO.ite ?_ ?_
      | refine LeO.bind ?_ (fun _ => ?_)
theorem ledger_Ours.mono : ∀ a0 k, LeO (ledger_Ours.f k a0) (ledger_Ours.f (k + 1) a0) := by
  intro a0 k
  have ih0 := ledger_Ours.mono_l k
  unfold ledger_Ours.f
  repeat' first
      | (with_reducible exact ih0 _ _ _ _ _)
      | (with_reducible exact channel_Held.mono _ _ _ _ _ _ _ _)
      | (with_reducible exact ledger_Check.mono _ _)
      | (with_reducible exact LeO.refl _)
      | (with_reducible exact LeO.none _)
      | (with_reducible refine LeO.ite ?_ ?_)
      | (with_reducible refine LeO.bind ?_ (fun _ => ?_))
      | exact ih0 _ _ _ _ _
      | exact channel_Held.mono _ _ _ _ _ _ _ _
      | exact ledger_Check.mono _ _
      | exact LeO.none _
      | refine LeO.ite ?_ ?_
      | refine LeO.bind ?_ (fun _ => ?_)
set_option maxHeartbeats 8000000 in
set_option maxRecDepth 100000 in
theorem ledger_Ours.calls (k : Nat) (A0 : Option Addr) (c0 : Nat) (l0 : List (S25)) (r1 : Int) (r2 : Int) (r3 : Int) (w : World) (hr0 : Kd.C k25 w A0 l0.length l0) (hc0 : l0.length ≤ c0) (h : ledger_Ours.f k l0 = some (r1, r2, r3)) :
    Calls Try.prog 52 #[.slice A0 l0.length c0] w fun e w' => e = .returned (.tuple #[.int .u64 r1, .int .u64 r2, .int .i64 r3]) ∧ Below w.heap.size w w' := by
  have hu25 := Try.underlying25
  have HR0 := Aside0.mk hr0
  have HC0 := Aside0.mk hc0
  clear hr0 hc0
  have HB := Aside0.mk (Below.refl w.heap.size w)
  have H : ((ledger_Check.f k l0).bind fun t280 => (if t280 = 0 then (ledger_Ours.l0 k 0 0 l0 (l0.length : Int) 0) else (some (0, 0, t280)))) = some (r1, r2, r3) := h
  clear h
  replace H := Option.bind_eq_some_iff.mp H
  obtain ⟨t280, A20, H⟩ := H
  replace H : (if t280 = 0 then (ledger_Ours.l0 k 0 0 l0 (l0.length : Int) 0) else (some (0, 0, t280))) = some (r1, r2, r3) := H
  have A2 := Aside0.mk A20
  clear A20
  by_cases c3 : t280 = 0
  · rw [if_pos c3] at H
    have c3b0 : (t280 == 0) = true := beq_iff_eq.mpr c3
    have c3b1 : (t280 != 0) = false := bne_eq_false_iff_eq.mpr c3
    clear c3
    have H' := Aside0.mk H
    clear H
    go_enter Try.func52, Try.ntmps52
    go_wp2_with (first | ((with_reducible refine gate_callee (f := 54) rfl ?_); refine goesL_ (some 10) rfl rfl Try.func54 (by kernel_rfl) rfl #[.slice A0 l0.length c0] rfl (by (try simp only [List.map_toArray, List.map_cons, List.map_nil]); first | done | rfl | (simp only [List.length_drop, List.length_take]; rfl)) ?_; (with_reducible refine (ledger_Check.calls k _ _ l0 t280 _ ?side1 ?side2 A2.out).mono ?_); (case side1 => repeat (first | exact HR0.out | (with_reducible refine Kd.C_alloc ?_ _) | (with_reducible refine Kd.C_drewN ?_ _) | (with_reducible refine Kd.C_drew ?_))); (case side2 => exact HC0.out); rintro e w4 ⟨rfl, hb⟩; refine ⟨_, rfl, ?_⟩; have n0_ := Aside0.mk (below_step (belN HB) hb); clear HB; have HB := n0_; clear n0_; (try clear hb); (try clear hb2); (try clear hk); (try clear hi)))
    go_loopg [2, 3, 16] k (fun kq v2 v3 v16 w' => ∃ (x2_1 : Int) (x3_1 : Int) (x16_1 : Int), v2 = .int .u64 x2_1 ∧ v3 = .int .u64 x3_1 ∧ v16 = .int .i64 x16_1 ∧ Aside0 (ledger_Ours.l0 kq x2_1 x3_1 l0 (l0.length : Int) x16_1 = some (r1, r2, r3)) ∧ Aside0 (kq ≤ k) ∧ Aside0 (Below w.heap.size w w'))
    case atStart => exact ⟨(0), (0), (0), (by first | rfl | (simp; done) | (simp [*]; done)), (by first | rfl | (simp; done) | (simp [*]; done)), (by first | rfl | (simp; done) | (simp [*]; done)), H', ⟨Nat.le_refl _⟩, ⟨by repeat (first | (with_reducible first | exact HB.out | apply below_alloc | apply pw_below_drewN | apply below_drew1) | exact HB.out)⟩⟩
    case round =>
      clear H'
      try clear p2
      try clear c3
      try clear c3b0
      try clear c3b1
      obtain ⟨x2_1, x3_1, x16_1, rfl, rfl, rfl, HA, HK1, HB⟩ := hrel
      cases gk with
      | zero => exact absurd HA.out (by simp [ledger_Ours.l0])
      | succ k1 =>
        have H := HA.out
        clear HA
        simp only [ledger_Ours.l0] at H
        by_cases c5 : x16_1 < (l0.length : Int)
        · rw [if_pos c5] at H
          have c5b0 : decide (x16_1 < (l0.length : Int)) = true := decide_eq_true c5
          clear c5
          by_cases c6 : 0 ≤ x16_1
          · rw [if_pos c6] at H
            have c6b0 : decide (0 ≤ x16_1) = true := decide_eq_true c6
            clear c6
            by_cases c7 : x16_1 < (l0.length : Int)
            · rw [if_pos c7] at H
              have c7b0 : decide (x16_1 < (l0.length : Int)) = true := decide_eq_true c7
              clear c7
              replace H := Option.bind_eq_some_iff.mp H
              obtain ⟨⟨t283, t284⟩, A80, H⟩ := H
              replace H : (if t284 = 0 then (if (rd_T25 l0 x16_1).f6 = true then (ledger_Ours.l0 k1 (IntKind.u64.wrap (x2_1 + ((rd_T25 l0 x16_1).f1))) (IntKind.u64.wrap (x3_1 + t283)) l0 (l0.length : Int) (wrap64 (x16_1 + 1))) else (ledger_Ours.l0 k1 x2_1 (IntKind.u64.wrap (x3_1 + t283)) l0 (l0.length : Int) (wrap64 (x16_1 + 1)))) else (some (0, 0, t284))) = some (r1, r2, r3) := H
              have A8 := Aside0.mk A80
              clear A80
              by_cases c9 : t284 = 0
              · rw [if_pos c9] at H
                have c9b0 : (t284 == 0) = true := beq_iff_eq.mpr c9
                have c9b1 : (t284 != 0) = false := bne_eq_false_iff_eq.mpr c9
                clear c9
                obtain ⟨bq10, hbq10⟩ : ∃ b_ : Bool, b_ = ((rd_T25 l0 x16_1).f6) := ⟨_, rfl⟩
                replace H : (if bq10 = true then (ledger_Ours.l0 k1 (IntKind.u64.wrap (x2_1 + ((rd_T25 l0 x16_1).f1))) (IntKind.u64.wrap (x3_1 + t283)) l0 (l0.length : Int) (wrap64 (x16_1 + 1))) else (ledger_Ours.l0 k1 x2_1 (IntKind.u64.wrap (x3_1 + t283)) l0 (l0.length : Int) (wrap64 (x16_1 + 1)))) = some (r1, r2, r3) := by rw [← hbq10] at H; exact H
                have Nbq10 := Aside0.mk hbq10
                clear hbq10
                by_cases c11 : bq10 = true
                · subst c11
                  have H1 : (ledger_Ours.l0 k1 (IntKind.u64.wrap (x2_1 + ((rd_T25 l0 x16_1).f1))) (IntKind.u64.wrap (x3_1 + t283)) l0 (l0.length : Int) (wrap64 (x16_1 + 1))) = some (r1, r2, r3) := by rw [if_pos rfl] at H; exact H
                  clear H
                  have H := H1
                  clear H1
                  have H' := Aside0.mk H
                  clear H
                  have p281 : 0 ≤ (x16_1 : Int) := of_decide_eq_true (by first | (with_reducible assumption) | assumption)
                  have q281 : x16_1 < (l0.length : Int) := of_decide_eq_true (by first | (with_reducible assumption) | assumption)
                  obtain ⟨ad281, A281_5, c281_5, e281, hx281_0, hx281_1, hx281_2, hx281_3, hx281_4, hx281_5, hx281_6, hl281_5, hi281_5⟩ := at_T25 HR0.out x16_1 p281 q281
                  (try rw [← Nbq10.out] at hx281_6)
                  cases e281
                  replace hx281_0 := (HB.out.cell (World.block_lt_of_cell? w _ hx281_0)).trans hx281_0
                  replace hx281_1 := (HB.out.cell (World.block_lt_of_cell? w _ hx281_1)).trans hx281_1
                  replace hx281_2 := (HB.out.cell (World.block_lt_of_cell? w _ hx281_2)).trans hx281_2
                  replace hx281_3 := (HB.out.cell (World.block_lt_of_cell? w _ hx281_3)).trans hx281_3
                  replace hx281_4 := (HB.out.cell (World.block_lt_of_cell? w _ hx281_4)).trans hx281_4
                  replace hx281_5 := (HB.out.cell (World.block_lt_of_cell? w _ hx281_5)).trans hx281_5
                  replace hx281_6 := (HB.out.cell (World.block_lt_of_cell? w _ hx281_6)).trans hx281_6
                  have HR281_5 := Aside0.mk hi281_5
                  have HC281_5 := Aside0.mk hl281_5
                  clear hi281_5 hl281_5
                  replace p281 := eq_true p281
                  replace q281 := eq_true q281
                  go_wp2_with (first | ((with_reducible refine gate_dst (N := 6) rfl ?_); refine box_event ?hg (N := 6) ?hd (cs := #[.int .u64 0, .int .u64 0, .int .u64 0, .int .u64 0, .int .u64 0, .slice none 0 0, .bool false]) (t := 25) ?hr ?_; (case hd => rfl); (case hg => rfl); (case hr => first | (go_simp; done) | (go_simp; rfl)); intro gb282 hg w12 hbox hb; have n0_ := Aside0.mk (below_step (belN HB) hb); have n1_ := Aside0.mk (hbox); have n2_ := Aside0.mk ((by rw [hg]; exact (below_size (belN HB)) : w.heap.size ≤ gb282)); have n3_ := Aside0.mk ((by rw [hg]; exact (below_size (belN HB)) : w.heap.size ≤ gb282)); clear HB; have HB := n0_; have BK282 := n1_; have GW282 := n2_; have GE282 := n3_; clear n0_ n1_ n2_ n3_; clear hb hbox hg; obtain ⟨hcz13_0, hcz13_1, hcz13_2, hcz13_3, hcz13_4, hcz13_5, hcz13_6, hfz13_0, hfz13_1, hfz13_2, hfz13_3, hfz13_4, hfz13_5, hfz13_6⟩ := cz7_ (w := w12) BK282.out) | ((with_reducible refine gate_callee (f := 28) rfl ?_); refine goesL_ (some 22) rfl rfl Try.func28 (by kernel_rfl) rfl #[.agg #[.int .u64 ((rd_T25 l0 x16_1).f0), .int .u64 ((rd_T25 l0 x16_1).f1), .int .u64 ((rd_T25 l0 x16_1).f2), .int .u64 ((rd_T25 l0 x16_1).f3), .int .u64 ((rd_T25 l0 x16_1).f4), .slice A281_5 ((rd_T25 l0 x16_1).f5).length c281_5, .bool true]] rfl (by (try simp only [List.map_toArray, List.map_cons, List.map_nil]); first | done | rfl | (simp only [List.length_drop, List.length_take]; rfl)) ?_; (with_reducible refine (channel_Held.calls k1 ((rd_T25 l0 x16_1).f0) ((rd_T25 l0 x16_1).f1) ((rd_T25 l0 x16_1).f2) ((rd_T25 l0 x16_1).f3) ((rd_T25 l0 x16_1).f4) _ _ ((rd_T25 l0 x16_1).f5) true t283 t284 _ ?side1 ?side2 (by have h_ := A8.out; rw [← Nbq10.out] at h_; exact h_)).mono ?_); (case side1 => exact Kd.C_below HR281_5.out (belN HB)); (case side2 => exact HC281_5.out); rintro e w14 ⟨rfl, hb⟩; refine ⟨_, rfl, ?_⟩; have n0_ := Aside0.mk (blk_below (g := gb282) (o := .cells #[.int .u64 ((rd_T25 l0 x16_1).f0), .int .u64 ((rd_T25 l0 x16_1).f1), .int .u64 ((rd_T25 l0 x16_1).f2), .int .u64 ((rd_T25 l0 x16_1).f3), .int .u64 ((rd_T25 l0 x16_1).f4), .slice A281_5 ((rd_T25 l0 x16_1).f5).length c281_5, .bool true] 25 (0, 0)) (by (with_reducible repeat (first | refine blk_drewN ?_ _ | refine blk_drew ?_ | refine blk_alloc ?_ _)); refine blk_put (cs := #[.int .u64 ((rd_T25 l0 x16_1).f0), .int .u64 ((rd_T25 l0 x16_1).f1), .int .u64 ((rd_T25 l0 x16_1).f2), .int .u64 ((rd_T25 l0 x16_1).f3), .int .u64 ((rd_T25 l0 x16_1).f4), .slice A281_5 ((rd_T25 l0 x16_1).f5).length c281_5, .bool false]) ?_ 6 _ rfl; refine blk_put (cs := #[.int .u64 ((rd_T25 l0 x16_1).f0), .int .u64 ((rd_T25 l0 x16_1).f1), .int .u64 ((rd_T25 l0 x16_1).f2), .int .u64 ((rd_T25 l0 x16_1).f3), .int .u64 ((rd_T25 l0 x16_1).f4), .slice none 0 0, .bool false]) ?_ 5 _ rfl; refine blk_put (cs := #[.int .u64 ((rd_T25 l0 x16_1).f0), .int .u64 ((rd_T25 l0 x16_1).f1), .int .u64 ((rd_T25 l0 x16_1).f2), .int .u64 ((rd_T25 l0 x16_1).f3), .int .u64 0, .slice none 0 0, .bool false]) ?_ 4 _ rfl; refine blk_put (cs := #[.int .u64 ((rd_T25 l0 x16_1).f0), .int .u64 ((rd_T25 l0 x16_1).f1), .int .u64 ((rd_T25 l0 x16_1).f2), .int .u64 0, .int .u64 0, .slice none 0 0, .bool false]) ?_ 3 _ rfl; refine blk_put (cs := #[.int .u64 ((rd_T25 l0 x16_1).f0), .int .u64 ((rd_T25 l0 x16_1).f1), .int .u64 0, .int .u64 0, .int .u64 0, .slice none 0 0, .bool false]) ?_ 2 _ rfl; refine blk_put (cs := #[.int .u64 ((rd_T25 l0 x16_1).f0), .int .u64 0, .int .u64 0, .int .u64 0, .int .u64 0, .slice none 0 0, .bool false]) ?_ 1 _ rfl; refine blk_put (cs := #[.int .u64 0, .int .u64 0, .int .u64 0, .int .u64 0, .int .u64 0, .slice none 0 0, .bool false]) ?_ 0 _ rfl; (with_reducible repeat (first | refine blk_drewN ?_ _ | refine blk_drew ?_ | refine blk_alloc ?_ _)); exact BK282.out) hb); have n1_ := Aside0.mk (below_step (belN HB) hb); clear BK282; clear HB; have BK282 := n0_; have HB := n1_; clear n0_ n1_; (try clear hb); (try clear hb2); (try clear hk); (try clear hi); obtain ⟨hcz15_0, hcz15_1, hcz15_2, hcz15_3, hcz15_4, hcz15_5, hcz15_6, hfz15_0, hfz15_1, hfz15_2, hfz15_3, hfz15_4, hfz15_5, hfz15_6⟩ := cz7_ (w := w14) BK282.out))
                  go_roundg k1
                  case measure => have := HK1.out; omega
                  case rel => exact ⟨(IntKind.u64.wrap (x2_1 + ((rd_T25 l0 x16_1).f1))), (IntKind.u64.wrap (x3_1 + t283)), (wrap64 (x16_1 + 1)), (by first | rfl | (simp; done) | (simp [*]; done)), (by first | rfl | (simp; done) | (simp [*]; done)), (by first | rfl | (simp; done) | (simp [*]; done)), H', ⟨by have := HK1.out; omega⟩, ⟨by repeat (first | (with_reducible first | exact HB.out | apply below_alloc | apply pw_below_drewN | apply below_drew1 | refine below_set ?_ GE282.out) | exact HB.out)⟩⟩
                · replace c11 := Bool.eq_false_iff.mpr c11
                  subst c11
                  have H1 : (ledger_Ours.l0 k1 x2_1 (IntKind.u64.wrap (x3_1 + t283)) l0 (l0.length : Int) (wrap64 (x16_1 + 1))) = some (r1, r2, r3) := by rw [if_neg (show ¬ (false = true) by decide)] at H; exact H
                  clear H
                  have H := H1
                  clear H1
                  have H' := Aside0.mk H
                  clear H
                  have p281 : 0 ≤ (x16_1 : Int) := of_decide_eq_true (by first | (with_reducible assumption) | assumption)
                  have q281 : x16_1 < (l0.length : Int) := of_decide_eq_true (by first | (with_reducible assumption) | assumption)
                  obtain ⟨ad281, A281_5, c281_5, e281, hx281_0, hx281_1, hx281_2, hx281_3, hx281_4, hx281_5, hx281_6, hl281_5, hi281_5⟩ := at_T25 HR0.out x16_1 p281 q281
                  (try rw [← Nbq10.out] at hx281_6)
                  cases e281
                  replace hx281_0 := (HB.out.cell (World.block_lt_of_cell? w _ hx281_0)).trans hx281_0
                  replace hx281_1 := (HB.out.cell (World.block_lt_of_cell? w _ hx281_1)).trans hx281_1
                  replace hx281_2 := (HB.out.cell (World.block_lt_of_cell? w _ hx281_2)).trans hx281_2
                  replace hx281_3 := (HB.out.cell (World.block_lt_of_cell? w _ hx281_3)).trans hx281_3
                  replace hx281_4 := (HB.out.cell (World.block_lt_of_cell? w _ hx281_4)).trans hx281_4
                  replace hx281_5 := (HB.out.cell (World.block_lt_of_cell? w _ hx281_5)).trans hx281_5
                  replace hx281_6 := (HB.out.cell (World.block_lt_of_cell? w _ hx281_6)).trans hx281_6
                  have HR281_5 := Aside0.mk hi281_5
                  have HC281_5 := Aside0.mk hl281_5
                  clear hi281_5 hl281_5
                  replace p281 := eq_true p281
                  replace q281 := eq_true q281
                  go_wp2_with (first | ((with_reducible refine gate_dst (N := 6) rfl ?_); refine box_event ?hg (N := 6) ?hd (cs := #[.int .u64 0, .int .u64 0, .int .u64 0, .int .u64 0, .int .u64 0, .slice none 0 0, .bool false]) (t := 25) ?hr ?_; (case hd => rfl); (case hg => rfl); (case hr => first | (go_simp; done) | (go_simp; rfl)); intro gb282 hg w16 hbox hb; have n0_ := Aside0.mk (below_step (belN HB) hb); have n1_ := Aside0.mk (hbox); have n2_ := Aside0.mk ((by rw [hg]; exact (below_size (belN HB)) : w.heap.size ≤ gb282)); have n3_ := Aside0.mk ((by rw [hg]; exact (below_size (belN HB)) : w.heap.size ≤ gb282)); clear HB; have HB := n0_; have BK282 := n1_; have GW282 := n2_; have GE282 := n3_; clear n0_ n1_ n2_ n3_; clear hb hbox hg; obtain ⟨hcz17_0, hcz17_1, hcz17_2, hcz17_3, hcz17_4, hcz17_5, hcz17_6, hfz17_0, hfz17_1, hfz17_2, hfz17_3, hfz17_4, hfz17_5, hfz17_6⟩ := cz7_ (w := w16) BK282.out) | ((with_reducible refine gate_callee (f := 28) rfl ?_); refine goesL_ (some 22) rfl rfl Try.func28 (by kernel_rfl) rfl #[.agg #[.int .u64 ((rd_T25 l0 x16_1).f0), .int .u64 ((rd_T25 l0 x16_1).f1), .int .u64 ((rd_T25 l0 x16_1).f2), .int .u64 ((rd_T25 l0 x16_1).f3), .int .u64 ((rd_T25 l0 x16_1).f4), .slice A281_5 ((rd_T25 l0 x16_1).f5).length c281_5, .bool false]] rfl (by (try simp only [List.map_toArray, List.map_cons, List.map_nil]); first | done | rfl | (simp only [List.length_drop, List.length_take]; rfl)) ?_; (with_reducible refine (channel_Held.calls k1 ((rd_T25 l0 x16_1).f0) ((rd_T25 l0 x16_1).f1) ((rd_T25 l0 x16_1).f2) ((rd_T25 l0 x16_1).f3) ((rd_T25 l0 x16_1).f4) _ _ ((rd_T25 l0 x16_1).f5) false t283 t284 _ ?side1 ?side2 (by have h_ := A8.out; rw [← Nbq10.out] at h_; exact h_)).mono ?_); (case side1 => exact Kd.C_below HR281_5.out (belN HB)); (case side2 => exact HC281_5.out); rintro e w18 ⟨rfl, hb⟩; refine ⟨_, rfl, ?_⟩; have n0_ := Aside0.mk (blk_below (g := gb282) (o := .cells #[.int .u64 ((rd_T25 l0 x16_1).f0), .int .u64 ((rd_T25 l0 x16_1).f1), .int .u64 ((rd_T25 l0 x16_1).f2), .int .u64 ((rd_T25 l0 x16_1).f3), .int .u64 ((rd_T25 l0 x16_1).f4), .slice A281_5 ((rd_T25 l0 x16_1).f5).length c281_5, .bool false] 25 (0, 0)) (by (with_reducible repeat (first | refine blk_drewN ?_ _ | refine blk_drew ?_ | refine blk_alloc ?_ _)); refine blk_put (cs := #[.int .u64 ((rd_T25 l0 x16_1).f0), .int .u64 ((rd_T25 l0 x16_1).f1), .int .u64 ((rd_T25 l0 x16_1).f2), .int .u64 ((rd_T25 l0 x16_1).f3), .int .u64 ((rd_T25 l0 x16_1).f4), .slice A281_5 ((rd_T25 l0 x16_1).f5).length c281_5, .bool false]) ?_ 6 _ rfl; refine blk_put (cs := #[.int .u64 ((rd_T25 l0 x16_1).f0), .int .u64 ((rd_T25 l0 x16_1).f1), .int .u64 ((rd_T25 l0 x16_1).f2), .int .u64 ((rd_T25 l0 x16_1).f3), .int .u64 ((rd_T25 l0 x16_1).f4), .slice none 0 0, .bool false]) ?_ 5 _ rfl; refine blk_put (cs := #[.int .u64 ((rd_T25 l0 x16_1).f0), .int .u64 ((rd_T25 l0 x16_1).f1), .int .u64 ((rd_T25 l0 x16_1).f2), .int .u64 ((rd_T25 l0 x16_1).f3), .int .u64 0, .slice none 0 0, .bool false]) ?_ 4 _ rfl; refine blk_put (cs := #[.int .u64 ((rd_T25 l0 x16_1).f0), .int .u64 ((rd_T25 l0 x16_1).f1), .int .u64 ((rd_T25 l0 x16_1).f2), .int .u64 0, .int .u64 0, .slice none 0 0, .bool false]) ?_ 3 _ rfl; refine blk_put (cs := #[.int .u64 ((rd_T25 l0 x16_1).f0), .int .u64 ((rd_T25 l0 x16_1).f1), .int .u64 0, .int .u64 0, .int .u64 0, .slice none 0 0, .bool false]) ?_ 2 _ rfl; refine blk_put (cs := #[.int .u64 ((rd_T25 l0 x16_1).f0), .int .u64 0, .int .u64 0, .int .u64 0, .int .u64 0, .slice none 0 0, .bool false]) ?_ 1 _ rfl; refine blk_put (cs := #[.int .u64 0, .int .u64 0, .int .u64 0, .int .u64 0, .int .u64 0, .slice none 0 0, .bool false]) ?_ 0 _ rfl; (with_reducible repeat (first | refine blk_drewN ?_ _ | refine blk_drew ?_ | refine blk_alloc ?_ _)); exact BK282.out) hb); have n1_ := Aside0.mk (below_step (belN HB) hb); clear BK282; clear HB; have BK282 := n0_; have HB := n1_; clear n0_ n1_; (try clear hb); (try clear hb2); (try clear hk); (try clear hi); obtain ⟨hcz19_0, hcz19_1, hcz19_2, hcz19_3, hcz19_4, hcz19_5, hcz19_6, hfz19_0, hfz19_1, hfz19_2, hfz19_3, hfz19_4, hfz19_5, hfz19_6⟩ := cz7_ (w := w18) BK282.out))
                  go_roundg k1
                  case measure => have := HK1.out; omega
                  case rel => exact ⟨(x2_1), (IntKind.u64.wrap (x3_1 + t283)), (wrap64 (x16_1 + 1)), (by first | rfl | (simp; done) | (simp [*]; done)), (by first | rfl | (simp; done) | (simp [*]; done)), (by first | rfl | (simp; done) | (simp [*]; done)), H', ⟨by have := HK1.out; omega⟩, ⟨by repeat (first | (with_reducible first | exact HB.out | apply below_alloc | apply pw_below_drewN | apply below_drew1 | refine below_set ?_ GE282.out) | exact HB.out)⟩⟩
              · rw [if_neg c9] at H
                have c9b0 : (t284 == 0) = false := beq_eq_false_iff_ne.mpr c9
                have c9b1 : (t284 != 0) = true := bne_iff_ne.mpr c9
                simp only [Option.some.injEq, Prod.mk.injEq] at H
                obtain ⟨rfl, rfl, rfl⟩ := H
                have p281 : 0 ≤ (x16_1 : Int) := of_decide_eq_true (by first | (with_reducible assumption) | assumption)
                have q281 : x16_1 < (l0.length : Int) := of_decide_eq_true (by first | (with_reducible assumption) | assumption)
                obtain ⟨ad281, A281_5, c281_5, e281, hx281_0, hx281_1, hx281_2, hx281_3, hx281_4, hx281_5, hx281_6, hl281_5, hi281_5⟩ := at_T25 HR0.out x16_1 p281 q281
                cases e281
                replace hx281_0 := (HB.out.cell (World.block_lt_of_cell? w _ hx281_0)).trans hx281_0
                replace hx281_1 := (HB.out.cell (World.block_lt_of_cell? w _ hx281_1)).trans hx281_1
                replace hx281_2 := (HB.out.cell (World.block_lt_of_cell? w _ hx281_2)).trans hx281_2
                replace hx281_3 := (HB.out.cell (World.block_lt_of_cell? w _ hx281_3)).trans hx281_3
                replace hx281_4 := (HB.out.cell (World.block_lt_of_cell? w _ hx281_4)).trans hx281_4
                replace hx281_5 := (HB.out.cell (World.block_lt_of_cell? w _ hx281_5)).trans hx281_5
                replace hx281_6 := (HB.out.cell (World.block_lt_of_cell? w _ hx281_6)).trans hx281_6
                have HR281_5 := Aside0.mk hi281_5
                have HC281_5 := Aside0.mk hl281_5
                clear hi281_5 hl281_5
                replace p281 := eq_true p281
                replace q281 := eq_true q281
                go_wp2_with (first | ((with_reducible refine gate_dst (N := 6) rfl ?_); refine box_event ?hg (N := 6) ?hd (cs := #[.int .u64 0, .int .u64 0, .int .u64 0, .int .u64 0, .int .u64 0, .slice none 0 0, .bool false]) (t := 25) ?hr ?_; (case hd => rfl); (case hg => rfl); (case hr => first | (go_simp; done) | (go_simp; rfl)); intro gb282 hg w20 hbox hb; have n0_ := Aside0.mk (below_step (belN HB) hb); have n1_ := Aside0.mk (hbox); have n2_ := Aside0.mk ((by rw [hg]; exact (below_size (belN HB)) : w.heap.size ≤ gb282)); have n3_ := Aside0.mk ((by rw [hg]; exact (below_size (belN HB)) : w.heap.size ≤ gb282)); clear HB; have HB := n0_; have BK282 := n1_; have GW282 := n2_; have GE282 := n3_; clear n0_ n1_ n2_ n3_; clear hb hbox hg; obtain ⟨hcz21_0, hcz21_1, hcz21_2, hcz21_3, hcz21_4, hcz21_5, hcz21_6, hfz21_0, hfz21_1, hfz21_2, hfz21_3, hfz21_4, hfz21_5, hfz21_6⟩ := cz7_ (w := w20) BK282.out) | ((with_reducible refine gate_callee (f := 28) rfl ?_); refine goesL_ (some 22) rfl rfl Try.func28 (by kernel_rfl) rfl #[.agg #[.int .u64 ((rd_T25 l0 x16_1).f0), .int .u64 ((rd_T25 l0 x16_1).f1), .int .u64 ((rd_T25 l0 x16_1).f2), .int .u64 ((rd_T25 l0 x16_1).f3), .int .u64 ((rd_T25 l0 x16_1).f4), .slice A281_5 ((rd_T25 l0 x16_1).f5).length c281_5, .bool ((rd_T25 l0 x16_1).f6)]] rfl (by (try simp only [List.map_toArray, List.map_cons, List.map_nil]); first | done | rfl | (simp only [List.length_drop, List.length_take]; rfl)) ?_; (with_reducible refine (channel_Held.calls k1 ((rd_T25 l0 x16_1).f0) ((rd_T25 l0 x16_1).f1) ((rd_T25 l0 x16_1).f2) ((rd_T25 l0 x16_1).f3) ((rd_T25 l0 x16_1).f4) _ _ ((rd_T25 l0 x16_1).f5) ((rd_T25 l0 x16_1).f6) t283 t284 _ ?side1 ?side2 A8.out).mono ?_); (case side1 => exact Kd.C_below HR281_5.out (belN HB)); (case side2 => exact HC281_5.out); rintro e w22 ⟨rfl, hb⟩; refine ⟨_, rfl, ?_⟩; have n0_ := Aside0.mk (blk_below (g := gb282) (o := .cells #[.int .u64 ((rd_T25 l0 x16_1).f0), .int .u64 ((rd_T25 l0 x16_1).f1), .int .u64 ((rd_T25 l0 x16_1).f2), .int .u64 ((rd_T25 l0 x16_1).f3), .int .u64 ((rd_T25 l0 x16_1).f4), .slice A281_5 ((rd_T25 l0 x16_1).f5).length c281_5, .bool ((rd_T25 l0 x16_1).f6)] 25 (0, 0)) (by (with_reducible repeat (first | refine blk_drewN ?_ _ | refine blk_drew ?_ | refine blk_alloc ?_ _)); refine blk_put (cs := #[.int .u64 ((rd_T25 l0 x16_1).f0), .int .u64 ((rd_T25 l0 x16_1).f1), .int .u64 ((rd_T25 l0 x16_1).f2), .int .u64 ((rd_T25 l0 x16_1).f3), .int .u64 ((rd_T25 l0 x16_1).f4), .slice A281_5 ((rd_T25 l0 x16_1).f5).length c281_5, .bool false]) ?_ 6 _ rfl; refine blk_put (cs := #[.int .u64 ((rd_T25 l0 x16_1).f0), .int .u64 ((rd_T25 l0 x16_1).f1), .int .u64 ((rd_T25 l0 x16_1).f2), .int .u64 ((rd_T25 l0 x16_1).f3), .int .u64 ((rd_T25 l0 x16_1).f4), .slice none 0 0, .bool false]) ?_ 5 _ rfl; refine blk_put (cs := #[.int .u64 ((rd_T25 l0 x16_1).f0), .int .u64 ((rd_T25 l0 x16_1).f1), .int .u64 ((rd_T25 l0 x16_1).f2), .int .u64 ((rd_T25 l0 x16_1).f3), .int .u64 0, .slice none 0 0, .bool false]) ?_ 4 _ rfl; refine blk_put (cs := #[.int .u64 ((rd_T25 l0 x16_1).f0), .int .u64 ((rd_T25 l0 x16_1).f1), .int .u64 ((rd_T25 l0 x16_1).f2), .int .u64 0, .int .u64 0, .slice none 0 0, .bool false]) ?_ 3 _ rfl; refine blk_put (cs := #[.int .u64 ((rd_T25 l0 x16_1).f0), .int .u64 ((rd_T25 l0 x16_1).f1), .int .u64 0, .int .u64 0, .int .u64 0, .slice none 0 0, .bool false]) ?_ 2 _ rfl; refine blk_put (cs := #[.int .u64 ((rd_T25 l0 x16_1).f0), .int .u64 0, .int .u64 0, .int .u64 0, .int .u64 0, .slice none 0 0, .bool false]) ?_ 1 _ rfl; refine blk_put (cs := #[.int .u64 0, .int .u64 0, .int .u64 0, .int .u64 0, .int .u64 0, .slice none 0 0, .bool false]) ?_ 0 _ rfl; (with_reducible repeat (first | refine blk_drewN ?_ _ | refine blk_drew ?_ | refine blk_alloc ?_ _)); exact BK282.out) hb); have n1_ := Aside0.mk (below_step (belN HB) hb); clear BK282; clear HB; have BK282 := n0_; have HB := n1_; clear n0_ n1_; (try clear hb); (try clear hb2); (try clear hk); (try clear hi)))
                go_ret3
                exact ⟨by first | rfl | (simp [errW_none, errW_some] <;> rfl) | (simp [*, errW_none, errW_some] <;> rfl), by repeat (first | (with_reducible first | exact HB.out | apply below_alloc | apply pw_below_drewN | apply below_drew1 | refine below_set ?_ GE282.out) | exact HB.out)⟩
            · rw [if_neg c7] at H
              exact absurd H (by simp)
          · rw [if_neg c6] at H
            exact absurd H (by simp)
        · rw [if_neg c5] at H
          have c5b0 : decide (x16_1 < (l0.length : Int)) = false := decide_eq_false c5
          clear c5
          simp only [Option.some.injEq, Prod.mk.injEq] at H
          obtain ⟨rfl, rfl, rfl⟩ := H
          go_wp2
          go_ret3
          exact ⟨by first | rfl | (simp [errW_none, errW_some] <;> rfl) | (simp [*, errW_none, errW_some] <;> rfl), by repeat (first | (with_reducible first | exact HB.out | apply below_alloc | apply pw_below_drewN | apply below_drew1) | exact HB.out)⟩
  · rw [if_neg c3] at H
    have c3b0 : (t280 == 0) = false := beq_eq_false_iff_ne.mpr c3
    have c3b1 : (t280 != 0) = true := bne_iff_ne.mpr c3
    simp only [Option.some.injEq, Prod.mk.injEq] at H
    obtain ⟨rfl, rfl, rfl⟩ := H
    go_enter Try.func52, Try.ntmps52
    go_wp2_with (first | ((with_reducible refine gate_callee (f := 54) rfl ?_); refine goesL_ (some 10) rfl rfl Try.func54 (by kernel_rfl) rfl #[.slice A0 l0.length c0] rfl (by (try simp only [List.map_toArray, List.map_cons, List.map_nil]); first | done | rfl | (simp only [List.length_drop, List.length_take]; rfl)) ?_; (with_reducible refine (ledger_Check.calls k _ _ l0 t280 _ ?side1 ?side2 A2.out).mono ?_); (case side1 => repeat (first | exact HR0.out | (with_reducible refine Kd.C_alloc ?_ _) | (with_reducible refine Kd.C_drewN ?_ _) | (with_reducible refine Kd.C_drew ?_))); (case side2 => exact HC0.out); rintro e w23 ⟨rfl, hb⟩; refine ⟨_, rfl, ?_⟩; have n0_ := Aside0.mk (below_step (belN HB) hb); clear HB; have HB := n0_; clear n0_; (try clear hb); (try clear hb2); (try clear hk); (try clear hi)))
    go_ret3
    exact ⟨by first | rfl | (simp [errW_none, errW_some] <;> rfl) | (simp [*, errW_none, errW_some] <;> rfl), by repeat (first | (with_reducible first | exact HB.out | apply below_alloc | apply pw_below_drewN | apply below_drew1) | exact HB.out)⟩


/-! ### damsonref10_Ours: function 53 (by hand) -/
def damsonref10_Ours.l0 : Nat → Int → Int → List (S25) → Int → Int → Option (Int × Int × Int)
  | 0, _, _, _, _, _ => none
  | k + 1, x5, x6, x14, x15, x16 => if x16 < x15 then (if 0 ≤ x16 then (if x16 < (x14.length : Int) then ((damsonref09_Held.f k ((rd_T25 x14 x16).f0) ((rd_T25 x14 x16).f1) ((rd_T25 x14 x16).f2) ((rd_T25 x14 x16).f3) ((rd_T25 x14 x16).f4) ((rd_T25 x14 x16).f5) ((rd_T25 x14 x16).f6)).bind fun bt302 => (if (rd_T25 x14 x16).f6 = true then (damsonref10_Ours.l0 k (IntKind.u64.wrap (x5 + ((rd_T25 x14 x16).f1))) (IntKind.u64.wrap (x6 + bt302.1)) x14 x15 (wrap64 (x16 + 1))) else (damsonref10_Ours.l0 k x5 (IntKind.u64.wrap (x6 + bt302.1)) x14 x15 (wrap64 (x16 + 1))))) else (none)) else (none)) else (some (x5, x6, 0))
def damsonref10_Ours.f (k : Nat) (l0 : List (S25)) : Option (Int × Int × Int) := (damsonref10_Check.f k l0).bind fun t299 => (if t299 = 0 then (damsonref10_Ours.l0 k 0 0 l0 (l0.length : Int) 0) else (some (0, 0, 1)))
theorem damsonref10_Ours.mono_l : ∀ k, (∀ y0 y1 y2 y3 y4, LeO (damsonref10_Ours.l0 k y0 y1 y2 y3 y4) (damsonref10_Ours.l0 (k + 1) y0 y1 y2 y3 y4))
  | 0 => fun _ _ _ _ _ r h => by simp [damsonref10_Ours.l0] at h
  | k + 1 => by
    have ih0 := damsonref10_Ours.mono_l k
    · intro y0 y1 y2 y3 y4
      unfold damsonref10_Ours.l0
      repeat' first
      | (with_reducible exact ih0 _ _ _ _ _)
      | (with_reducible exact damsonref09_Held.mono _ _ _ _ _ _ _ _)
      | (with_reducible exact damsonref10_Check.mono _ _)
      | (with_reducible exact LeO.refl _)
      | (with_reducible exact LeO.none _)
      | (with_reducible refine LeO.ite ?_ ?_)
      | (with_reducible refine LeO.bind ?_ (fun _ => ?_))
      | exact ih0 _ _ _ _ _
      | exact damsonref09_Held.mono _ _ _ _ _ _ _ _
      | exact damsonref10_Check.mono _ _
      | exact LeO.none _
      | refine LeO.ite ?_ ?_
      | refine LeO.bind ?_ (fun _ => ?_)
theorem damsonref10_Ours.mono : ∀ a0 k, LeO (damsonref10_Ours.f k a0) (damsonref10_Ours.f (k + 1) a0) := by
  intro a0 k
  have ih0 := damsonref10_Ours.mono_l k
  unfold damsonref10_Ours.f
  repeat' first
      | (with_reducible exact ih0 _ _ _ _ _)
      | (with_reducible exact damsonref09_Held.mono _ _ _ _ _ _ _ _)
      | (with_reducible exact damsonref10_Check.mono _ _)
      | (with_reducible exact LeO.refl _)
      | (with_reducible exact LeO.none _)
      | (with_reducible refine LeO.ite ?_ ?_)
      | (with_reducible refine LeO.bind ?_ (fun _ => ?_))
      | exact ih0 _ _ _ _ _
      | exact damsonref09_Held.mono _ _ _ _ _ _ _ _
      | exact damsonref10_Check.mono _ _
      | exact LeO.none _
      | refine LeO.ite ?_ ?_
      | refine LeO.bind ?_ (fun _ => ?_)
set_option maxHeartbeats 8000000 in
set_option maxRecDepth 100000 in
theorem damsonref10_Ours.calls (k : Nat) (A0 : Option Addr) (c0 : Nat) (l0 : List (S25)) (r1 : Int) (r2 : Int) (r3 : Int) (w : World) (hr0 : Kd.C k25 w A0 l0.length l0) (hc0 : l0.length ≤ c0) (h : damsonref10_Ours.f k l0 = some (r1, r2, r3)) :
    Calls Try.prog 53 #[.slice A0 l0.length c0] w fun e w' => e = .returned (.tuple #[.int .u64 r1, .int .u64 r2, .int .i64 r3]) ∧ Below w.heap.size w w' := by
  have hu25 := Try.underlying25
  have HR0 := Aside0.mk hr0
  have HC0 := Aside0.mk hc0
  clear hr0 hc0
  have HB := Aside0.mk (Below.refl w.heap.size w)
  have H : ((damsonref10_Check.f k l0).bind fun t299 => (if t299 = 0 then (damsonref10_Ours.l0 k 0 0 l0 (l0.length : Int) 0) else (some (0, 0, 1)))) = some (r1, r2, r3) := h
  clear h
  replace H := Option.bind_eq_some_iff.mp H
  obtain ⟨t299, A20, H⟩ := H
  replace H : (if t299 = 0 then (damsonref10_Ours.l0 k 0 0 l0 (l0.length : Int) 0) else (some (0, 0, 1))) = some (r1, r2, r3) := H
  have A2 := Aside0.mk A20
  clear A20
  by_cases c3 : t299 = 0
  · rw [if_pos c3] at H
    have c3b0 : (t299 == 0) = true := beq_iff_eq.mpr c3
    have c3b1 : (t299 != 0) = false := bne_eq_false_iff_eq.mpr c3
    clear c3
    have H' := Aside0.mk H
    clear H
    go_enter Try.func53, Try.ntmps53
    go_wp2_with (first | ((with_reducible refine gate_callee (f := 55) rfl ?_); refine goesL_ (some 12) rfl rfl Try.func55 (by kernel_rfl) rfl #[.slice A0 l0.length c0] rfl (by (try simp only [List.map_toArray, List.map_cons, List.map_nil]); first | done | rfl | (simp only [List.length_drop, List.length_take]; rfl)) ?_; (with_reducible refine (damsonref10_Check.calls k _ _ l0 t299 _ ?side1 ?side2 A2.out).mono ?_); (case side1 => repeat (first | exact HR0.out | (with_reducible refine Kd.C_alloc ?_ _) | (with_reducible refine Kd.C_drewN ?_ _) | (with_reducible refine Kd.C_drew ?_))); (case side2 => exact HC0.out); rintro e w4 ⟨rfl, hb⟩; refine ⟨_, rfl, ?_⟩; have n0_ := Aside0.mk (below_step (belN HB) hb); clear HB; have HB := n0_; clear n0_; (try clear hb); (try clear hb2); (try clear hk); (try clear hi)))
    go_loopg [5, 6, 16] k (fun kq v5 v6 v16 w' => ∃ (x5_1 : Int) (x6_1 : Int) (x16_1 : Int), v5 = .int .u64 x5_1 ∧ v6 = .int .u64 x6_1 ∧ v16 = .int .i64 x16_1 ∧ Aside0 (damsonref10_Ours.l0 kq x5_1 x6_1 l0 (l0.length : Int) x16_1 = some (r1, r2, r3)) ∧ Aside0 (kq ≤ k) ∧ Aside0 (Below w.heap.size w w'))
    case atStart => exact ⟨(0), (0), (0), (by first | rfl | (simp; done) | (simp [*]; done)), (by first | rfl | (simp; done) | (simp [*]; done)), (by first | rfl | (simp; done) | (simp [*]; done)), H', ⟨Nat.le_refl _⟩, ⟨by repeat (first | (with_reducible first | exact HB.out | apply below_alloc | apply pw_below_drewN | apply below_drew1) | exact HB.out)⟩⟩
    case round =>
      clear H'
      try clear p2
      try clear c3
      try clear c3b0
      try clear c3b1
      obtain ⟨x5_1, x6_1, x16_1, rfl, rfl, rfl, HA, HK1, HB⟩ := hrel
      cases gk with
      | zero => exact absurd HA.out (by simp [damsonref10_Ours.l0])
      | succ k1 =>
        have H := HA.out
        clear HA
        simp only [damsonref10_Ours.l0] at H
        by_cases c5 : x16_1 < (l0.length : Int)
        · rw [if_pos c5] at H
          have c5b0 : decide (x16_1 < (l0.length : Int)) = true := decide_eq_true c5
          clear c5
          by_cases c6 : 0 ≤ x16_1
          · rw [if_pos c6] at H
            have c6b0 : decide (0 ≤ x16_1) = true := decide_eq_true c6
            clear c6
            by_cases c7 : x16_1 < (l0.length : Int)
            · rw [if_pos c7] at H
              have c7b0 : decide (x16_1 < (l0.length : Int)) = true := decide_eq_true c7
              clear c7
              replace H := Option.bind_eq_some_iff.mp H
              obtain ⟨⟨t302, t303⟩, A80, H⟩ := H
              replace H : (if (rd_T25 l0 x16_1).f6 = true then (damsonref10_Ours.l0 k1 (IntKind.u64.wrap (x5_1 + ((rd_T25 l0 x16_1).f1))) (IntKind.u64.wrap (x6_1 + t302)) l0 (l0.length : Int) (wrap64 (x16_1 + 1))) else (damsonref10_Ours.l0 k1 x5_1 (IntKind.u64.wrap (x6_1 + t302)) l0 (l0.length : Int) (wrap64 (x16_1 + 1)))) = some (r1, r2, r3) := H
              have A8 := Aside0.mk A80
              clear A80
              obtain ⟨bq9, hbq9⟩ : ∃ b_ : Bool, b_ = ((rd_T25 l0 x16_1).f6) := ⟨_, rfl⟩
              replace H : (if bq9 = true then (damsonref10_Ours.l0 k1 (IntKind.u64.wrap (x5_1 + ((rd_T25 l0 x16_1).f1))) (IntKind.u64.wrap (x6_1 + t302)) l0 (l0.length : Int) (wrap64 (x16_1 + 1))) else (damsonref10_Ours.l0 k1 x5_1 (IntKind.u64.wrap (x6_1 + t302)) l0 (l0.length : Int) (wrap64 (x16_1 + 1)))) = some (r1, r2, r3) := by rw [← hbq9] at H; exact H
              have Nbq9 := Aside0.mk hbq9
              clear hbq9
              by_cases c10 : bq9 = true
              · subst c10
                have H1 : (damsonref10_Ours.l0 k1 (IntKind.u64.wrap (x5_1 + ((rd_T25 l0 x16_1).f1))) (IntKind.u64.wrap (x6_1 + t302)) l0 (l0.length : Int) (wrap64 (x16_1 + 1))) = some (r1, r2, r3) := by rw [if_pos rfl] at H; exact H
                clear H
                have H := H1
                clear H1
                have H' := Aside0.mk H
                clear H
                have p300 : 0 ≤ (x16_1 : Int) := of_decide_eq_true (by first | (with_reducible assumption) | assumption)
                have q300 : x16_1 < (l0.length : Int) := of_decide_eq_true (by first | (with_reducible assumption) | assumption)
                obtain ⟨ad300, A300_5, c300_5, e300, hx300_0, hx300_1, hx300_2, hx300_3, hx300_4, hx300_5, hx300_6, hl300_5, hi300_5⟩ := at_T25 HR0.out x16_1 p300 q300
                (try rw [← Nbq9.out] at hx300_6)
                cases e300
                replace hx300_0 := (HB.out.cell (World.block_lt_of_cell? w _ hx300_0)).trans hx300_0
                replace hx300_1 := (HB.out.cell (World.block_lt_of_cell? w _ hx300_1)).trans hx300_1
                replace hx300_2 := (HB.out.cell (World.block_lt_of_cell? w _ hx300_2)).trans hx300_2
                replace hx300_3 := (HB.out.cell (World.block_lt_of_cell? w _ hx300_3)).trans hx300_3
                replace hx300_4 := (HB.out.cell (World.block_lt_of_cell? w _ hx300_4)).trans hx300_4
                replace hx300_5 := (HB.out.cell (World.block_lt_of_cell? w _ hx300_5)).trans hx300_5
                replace hx300_6 := (HB.out.cell (World.block_lt_of_cell? w _ hx300_6)).trans hx300_6
                have HR300_5 := Aside0.mk hi300_5
                have HC300_5 := Aside0.mk hl300_5
                clear hi300_5 hl300_5
                replace p300 := eq_true p300
                replace q300 := eq_true q300
                go_wp2_with (first | ((with_reducible refine gate_dst (N := 8) rfl ?_); refine box_event ?hg (N := 8) ?hd (cs := #[.int .u64 0, .int .u64 0, .int .u64 0, .int .u64 0, .int .u64 0, .slice none 0 0, .bool false]) (t := 25) ?hr ?_; (case hd => rfl); (case hg => rfl); (case hr => first | (go_simp; done) | (go_simp; rfl)); intro gb301 hg w11 hbox hb; have n0_ := Aside0.mk (below_step (belN HB) hb); have n1_ := Aside0.mk (hbox); have n2_ := Aside0.mk ((by rw [hg]; exact (below_size (belN HB)) : w.heap.size ≤ gb301)); have n3_ := Aside0.mk ((by rw [hg]; exact (below_size (belN HB)) : w.heap.size ≤ gb301)); clear HB; have HB := n0_; have BK301 := n1_; have GW301 := n2_; have GE301 := n3_; clear n0_ n1_ n2_ n3_; clear hb hbox hg; obtain ⟨hcz12_0, hcz12_1, hcz12_2, hcz12_3, hcz12_4, hcz12_5, hcz12_6, hfz12_0, hfz12_1, hfz12_2, hfz12_3, hfz12_4, hfz12_5, hfz12_6⟩ := cz7_ (w := w11) BK301.out) | ((with_reducible refine gate_callee (f := 29) rfl ?_); refine goesL_ (some 22) rfl rfl Try.func29 (by kernel_rfl) rfl #[.agg #[.int .u64 ((rd_T25 l0 x16_1).f0), .int .u64 ((rd_T25 l0 x16_1).f1), .int .u64 ((rd_T25 l0 x16_1).f2), .int .u64 ((rd_T25 l0 x16_1).f3), .int .u64 ((rd_T25 l0 x16_1).f4), .slice A300_5 ((rd_T25 l0 x16_1).f5).length c300_5, .bool true]] rfl (by (try simp only [List.map_toArray, List.map_cons, List.map_nil]); first | done | rfl | (simp only [List.length_drop, List.length_take]; rfl)) ?_; (with_reducible refine (damsonref09_Held.calls k1 ((rd_T25 l0 x16_1).f0) ((rd_T25 l0 x16_1).f1) ((rd_T25 l0 x16_1).f2) ((rd_T25 l0 x16_1).f3) ((rd_T25 l0 x16_1).f4) _ _ ((rd_T25 l0 x16_1).f5) true t302 t303 _ ?side1 ?side2 (by have h_ := A8.out; rw [← Nbq9.out] at h_; exact h_)).mono ?_); (case side1 => exact Kd.C_below HR300_5.out (belN HB)); (case side2 => exact HC300_5.out); rintro e w13 ⟨rfl, hb⟩; refine ⟨_, rfl, ?_⟩; have n0_ := Aside0.mk (blk_below (g := gb301) (o := .cells #[.int .u64 ((rd_T25 l0 x16_1).f0), .int .u64 ((rd_T25 l0 x16_1).f1), .int .u64 ((rd_T25 l0 x16_1).f2), .int .u64 ((rd_T25 l0 x16_1).f3), .int .u64 ((rd_T25 l0 x16_1).f4), .slice A300_5 ((rd_T25 l0 x16_1).f5).length c300_5, .bool true] 25 (0, 0)) (by (with_reducible repeat (first | refine blk_drewN ?_ _ | refine blk_drew ?_ | refine blk_alloc ?_ _)); refine blk_put (cs := #[.int .u64 ((rd_T25 l0 x16_1).f0), .int .u64 ((rd_T25 l0 x16_1).f1), .int .u64 ((rd_T25 l0 x16_1).f2), .int .u64 ((rd_T25 l0 x16_1).f3), .int .u64 ((rd_T25 l0 x16_1).f4), .slice A300_5 ((rd_T25 l0 x16_1).f5).length c300_5, .bool false]) ?_ 6 _ rfl; refine blk_put (cs := #[.int .u64 ((rd_T25 l0 x16_1).f0), .int .u64 ((rd_T25 l0 x16_1).f1), .int .u64 ((rd_T25 l0 x16_1).f2), .int .u64 ((rd_T25 l0 x16_1).f3), .int .u64 ((rd_T25 l0 x16_1).f4), .slice none 0 0, .bool false]) ?_ 5 _ rfl; refine blk_put (cs := #[.int .u64 ((rd_T25 l0 x16_1).f0), .int .u64 ((rd_T25 l0 x16_1).f1), .int .u64 ((rd_T25 l0 x16_1).f2), .int .u64 ((rd_T25 l0 x16_1).f3), .int .u64 0, .slice none 0 0, .bool false]) ?_ 4 _ rfl; refine blk_put (cs := #[.int .u64 ((rd_T25 l0 x16_1).f0), .int .u64 ((rd_T25 l0 x16_1).f1), .int .u64 ((rd_T25 l0 x16_1).f2), .int .u64 0, .int .u64 0, .slice none 0 0, .bool false]) ?_ 3 _ rfl; refine blk_put (cs := #[.int .u64 ((rd_T25 l0 x16_1).f0), .int .u64 ((rd_T25 l0 x16_1).f1), .int .u64 0, .int .u64 0, .int .u64 0, .slice none 0 0, .bool false]) ?_ 2 _ rfl; refine blk_put (cs := #[.int .u64 ((rd_T25 l0 x16_1).f0), .int .u64 0, .int .u64 0, .int .u64 0, .int .u64 0, .slice none 0 0, .bool false]) ?_ 1 _ rfl; refine blk_put (cs := #[.int .u64 0, .int .u64 0, .int .u64 0, .int .u64 0, .int .u64 0, .slice none 0 0, .bool false]) ?_ 0 _ rfl; (with_reducible repeat (first | refine blk_drewN ?_ _ | refine blk_drew ?_ | refine blk_alloc ?_ _)); exact BK301.out) hb); have n1_ := Aside0.mk (below_step (belN HB) hb); clear BK301; clear HB; have BK301 := n0_; have HB := n1_; clear n0_ n1_; (try clear hb); (try clear hb2); (try clear hk); (try clear hi); obtain ⟨hcz14_0, hcz14_1, hcz14_2, hcz14_3, hcz14_4, hcz14_5, hcz14_6, hfz14_0, hfz14_1, hfz14_2, hfz14_3, hfz14_4, hfz14_5, hfz14_6⟩ := cz7_ (w := w13) BK301.out))
                go_roundg k1
                case measure => have := HK1.out; omega
                case rel => exact ⟨(IntKind.u64.wrap (x5_1 + ((rd_T25 l0 x16_1).f1))), (IntKind.u64.wrap (x6_1 + t302)), (wrap64 (x16_1 + 1)), (by first | rfl | (simp; done) | (simp [*]; done)), (by first | rfl | (simp; done) | (simp [*]; done)), (by first | rfl | (simp; done) | (simp [*]; done)), H', ⟨by have := HK1.out; omega⟩, ⟨by repeat (first | (with_reducible first | exact HB.out | apply below_alloc | apply pw_below_drewN | apply below_drew1 | refine below_set ?_ GE301.out) | exact HB.out)⟩⟩
              · replace c10 := Bool.eq_false_iff.mpr c10
                subst c10
                have H1 : (damsonref10_Ours.l0 k1 x5_1 (IntKind.u64.wrap (x6_1 + t302)) l0 (l0.length : Int) (wrap64 (x16_1 + 1))) = some (r1, r2, r3) := by rw [if_neg (show ¬ (false = true) by decide)] at H; exact H
                clear H
                have H := H1
                clear H1
                have H' := Aside0.mk H
                clear H
                have p300 : 0 ≤ (x16_1 : Int) := of_decide_eq_true (by first | (with_reducible assumption) | assumption)
                have q300 : x16_1 < (l0.length : Int) := of_decide_eq_true (by first | (with_reducible assumption) | assumption)
                obtain ⟨ad300, A300_5, c300_5, e300, hx300_0, hx300_1, hx300_2, hx300_3, hx300_4, hx300_5, hx300_6, hl300_5, hi300_5⟩ := at_T25 HR0.out x16_1 p300 q300
                (try rw [← Nbq9.out] at hx300_6)
                cases e300
                replace hx300_0 := (HB.out.cell (World.block_lt_of_cell? w _ hx300_0)).trans hx300_0
                replace hx300_1 := (HB.out.cell (World.block_lt_of_cell? w _ hx300_1)).trans hx300_1
                replace hx300_2 := (HB.out.cell (World.block_lt_of_cell? w _ hx300_2)).trans hx300_2
                replace hx300_3 := (HB.out.cell (World.block_lt_of_cell? w _ hx300_3)).trans hx300_3
                replace hx300_4 := (HB.out.cell (World.block_lt_of_cell? w _ hx300_4)).trans hx300_4
                replace hx300_5 := (HB.out.cell (World.block_lt_of_cell? w _ hx300_5)).trans hx300_5
                replace hx300_6 := (HB.out.cell (World.block_lt_of_cell? w _ hx300_6)).trans hx300_6
                have HR300_5 := Aside0.mk hi300_5
                have HC300_5 := Aside0.mk hl300_5
                clear hi300_5 hl300_5
                replace p300 := eq_true p300
                replace q300 := eq_true q300
                go_wp2_with (first | ((with_reducible refine gate_dst (N := 8) rfl ?_); refine box_event ?hg (N := 8) ?hd (cs := #[.int .u64 0, .int .u64 0, .int .u64 0, .int .u64 0, .int .u64 0, .slice none 0 0, .bool false]) (t := 25) ?hr ?_; (case hd => rfl); (case hg => rfl); (case hr => first | (go_simp; done) | (go_simp; rfl)); intro gb301 hg w15 hbox hb; have n0_ := Aside0.mk (below_step (belN HB) hb); have n1_ := Aside0.mk (hbox); have n2_ := Aside0.mk ((by rw [hg]; exact (below_size (belN HB)) : w.heap.size ≤ gb301)); have n3_ := Aside0.mk ((by rw [hg]; exact (below_size (belN HB)) : w.heap.size ≤ gb301)); clear HB; have HB := n0_; have BK301 := n1_; have GW301 := n2_; have GE301 := n3_; clear n0_ n1_ n2_ n3_; clear hb hbox hg; obtain ⟨hcz16_0, hcz16_1, hcz16_2, hcz16_3, hcz16_4, hcz16_5, hcz16_6, hfz16_0, hfz16_1, hfz16_2, hfz16_3, hfz16_4, hfz16_5, hfz16_6⟩ := cz7_ (w := w15) BK301.out) | ((with_reducible refine gate_callee (f := 29) rfl ?_); refine goesL_ (some 22) rfl rfl Try.func29 (by kernel_rfl) rfl #[.agg #[.int .u64 ((rd_T25 l0 x16_1).f0), .int .u64 ((rd_T25 l0 x16_1).f1), .int .u64 ((rd_T25 l0 x16_1).f2), .int .u64 ((rd_T25 l0 x16_1).f3), .int .u64 ((rd_T25 l0 x16_1).f4), .slice A300_5 ((rd_T25 l0 x16_1).f5).length c300_5, .bool false]] rfl (by (try simp only [List.map_toArray, List.map_cons, List.map_nil]); first | done | rfl | (simp only [List.length_drop, List.length_take]; rfl)) ?_; (with_reducible refine (damsonref09_Held.calls k1 ((rd_T25 l0 x16_1).f0) ((rd_T25 l0 x16_1).f1) ((rd_T25 l0 x16_1).f2) ((rd_T25 l0 x16_1).f3) ((rd_T25 l0 x16_1).f4) _ _ ((rd_T25 l0 x16_1).f5) false t302 t303 _ ?side1 ?side2 (by have h_ := A8.out; rw [← Nbq9.out] at h_; exact h_)).mono ?_); (case side1 => exact Kd.C_below HR300_5.out (belN HB)); (case side2 => exact HC300_5.out); rintro e w17 ⟨rfl, hb⟩; refine ⟨_, rfl, ?_⟩; have n0_ := Aside0.mk (blk_below (g := gb301) (o := .cells #[.int .u64 ((rd_T25 l0 x16_1).f0), .int .u64 ((rd_T25 l0 x16_1).f1), .int .u64 ((rd_T25 l0 x16_1).f2), .int .u64 ((rd_T25 l0 x16_1).f3), .int .u64 ((rd_T25 l0 x16_1).f4), .slice A300_5 ((rd_T25 l0 x16_1).f5).length c300_5, .bool false] 25 (0, 0)) (by (with_reducible repeat (first | refine blk_drewN ?_ _ | refine blk_drew ?_ | refine blk_alloc ?_ _)); refine blk_put (cs := #[.int .u64 ((rd_T25 l0 x16_1).f0), .int .u64 ((rd_T25 l0 x16_1).f1), .int .u64 ((rd_T25 l0 x16_1).f2), .int .u64 ((rd_T25 l0 x16_1).f3), .int .u64 ((rd_T25 l0 x16_1).f4), .slice A300_5 ((rd_T25 l0 x16_1).f5).length c300_5, .bool false]) ?_ 6 _ rfl; refine blk_put (cs := #[.int .u64 ((rd_T25 l0 x16_1).f0), .int .u64 ((rd_T25 l0 x16_1).f1), .int .u64 ((rd_T25 l0 x16_1).f2), .int .u64 ((rd_T25 l0 x16_1).f3), .int .u64 ((rd_T25 l0 x16_1).f4), .slice none 0 0, .bool false]) ?_ 5 _ rfl; refine blk_put (cs := #[.int .u64 ((rd_T25 l0 x16_1).f0), .int .u64 ((rd_T25 l0 x16_1).f1), .int .u64 ((rd_T25 l0 x16_1).f2), .int .u64 ((rd_T25 l0 x16_1).f3), .int .u64 0, .slice none 0 0, .bool false]) ?_ 4 _ rfl; refine blk_put (cs := #[.int .u64 ((rd_T25 l0 x16_1).f0), .int .u64 ((rd_T25 l0 x16_1).f1), .int .u64 ((rd_T25 l0 x16_1).f2), .int .u64 0, .int .u64 0, .slice none 0 0, .bool false]) ?_ 3 _ rfl; refine blk_put (cs := #[.int .u64 ((rd_T25 l0 x16_1).f0), .int .u64 ((rd_T25 l0 x16_1).f1), .int .u64 0, .int .u64 0, .int .u64 0, .slice none 0 0, .bool false]) ?_ 2 _ rfl; refine blk_put (cs := #[.int .u64 ((rd_T25 l0 x16_1).f0), .int .u64 0, .int .u64 0, .int .u64 0, .int .u64 0, .slice none 0 0, .bool false]) ?_ 1 _ rfl; refine blk_put (cs := #[.int .u64 0, .int .u64 0, .int .u64 0, .int .u64 0, .int .u64 0, .slice none 0 0, .bool false]) ?_ 0 _ rfl; (with_reducible repeat (first | refine blk_drewN ?_ _ | refine blk_drew ?_ | refine blk_alloc ?_ _)); exact BK301.out) hb); have n1_ := Aside0.mk (below_step (belN HB) hb); clear BK301; clear HB; have BK301 := n0_; have HB := n1_; clear n0_ n1_; (try clear hb); (try clear hb2); (try clear hk); (try clear hi); obtain ⟨hcz18_0, hcz18_1, hcz18_2, hcz18_3, hcz18_4, hcz18_5, hcz18_6, hfz18_0, hfz18_1, hfz18_2, hfz18_3, hfz18_4, hfz18_5, hfz18_6⟩ := cz7_ (w := w17) BK301.out))
                go_roundg k1
                case measure => have := HK1.out; omega
                case rel => exact ⟨(x5_1), (IntKind.u64.wrap (x6_1 + t302)), (wrap64 (x16_1 + 1)), (by first | rfl | (simp; done) | (simp [*]; done)), (by first | rfl | (simp; done) | (simp [*]; done)), (by first | rfl | (simp; done) | (simp [*]; done)), H', ⟨by have := HK1.out; omega⟩, ⟨by repeat (first | (with_reducible first | exact HB.out | apply below_alloc | apply pw_below_drewN | apply below_drew1 | refine below_set ?_ GE301.out) | exact HB.out)⟩⟩
            · rw [if_neg c7] at H
              exact absurd H (by simp)
          · rw [if_neg c6] at H
            exact absurd H (by simp)
        · rw [if_neg c5] at H
          have c5b0 : decide (x16_1 < (l0.length : Int)) = false := decide_eq_false c5
          clear c5
          simp only [Option.some.injEq, Prod.mk.injEq] at H
          obtain ⟨rfl, rfl, rfl⟩ := H
          go_wp2
          go_ret3
          exact ⟨by first | rfl | (simp [errW_none, errW_some] <;> rfl) | (simp [*, errW_none, errW_some] <;> rfl), by repeat (first | (with_reducible first | exact HB.out | apply below_alloc | apply pw_below_drewN | apply below_drew1) | exact HB.out)⟩
  · rw [if_neg c3] at H
    have c3b0 : (t299 == 0) = false := beq_eq_false_iff_ne.mpr c3
    have c3b1 : (t299 != 0) = true := bne_iff_ne.mpr c3
    simp only [Option.some.injEq, Prod.mk.injEq] at H
    obtain ⟨rfl, rfl, rfl⟩ := H
    go_enter Try.func53, Try.ntmps53
    go_wp2_with (first | ((with_reducible refine gate_callee (f := 55) rfl ?_); refine goesL_ (some 12) rfl rfl Try.func55 (by kernel_rfl) rfl #[.slice A0 l0.length c0] rfl (by (try simp only [List.map_toArray, List.map_cons, List.map_nil]); first | done | rfl | (simp only [List.length_drop, List.length_take]; rfl)) ?_; (with_reducible refine (damsonref10_Check.calls k _ _ l0 t299 _ ?side1 ?side2 A2.out).mono ?_); (case side1 => repeat (first | exact HR0.out | (with_reducible refine Kd.C_alloc ?_ _) | (with_reducible refine Kd.C_drewN ?_ _) | (with_reducible refine Kd.C_drew ?_))); (case side2 => exact HC0.out); rintro e w19 ⟨rfl, hb⟩; refine ⟨_, rfl, ?_⟩; have n0_ := Aside0.mk (below_step (belN HB) hb); clear HB; have HB := n0_; clear n0_; (try clear hb); (try clear hb2); (try clear hk); (try clear hi)))
    go_ret3
    exact ⟨by first | rfl | (simp [errW_none, errW_some] <;> rfl) | (simp [*, errW_none, errW_some] <;> rfl), by repeat (first | (with_reducible first | exact HB.out | apply below_alloc | apply pw_below_drewN | apply below_drew1) | exact HB.out)⟩


end Go.Proofs.Ytcfbcoinbecdfaa.P
