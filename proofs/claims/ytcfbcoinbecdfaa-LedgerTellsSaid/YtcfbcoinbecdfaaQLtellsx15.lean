-- written by a program of this session (wip/print)
import Derived.Test.YtcfbcoinbecdfaaQLtellsx0
import Derived.Test.YtcfbcoinbecdfaaQLtellsx2
import Derived.Test.YtcfbcoinbecdfaaQLtellsx5
import Derived.Test.YtcfbcoinbecdfaaQLtellsx8
import Derived.Test.YtcfbcoinbecdfaaQLtellsx9
import Derived.Test.YtcfbcoinbecdfaaQLtellsx10
import Derived.Test.YtcfbcoinbecdfaaQLtellsx13
import Derived.Test.YtcfbcoinbecdfaaQLtellsx14
namespace Go.Proofs.Ytcfbcoinbecdfaa.P
open Go.RowKit Go.Proofs.YtcfbcoinbecdfaaW.PrintWords Go.Proofs.YtcfbcoinbecdfaaW.PrintLast Go.Proofs.YtcfbcoinbecdfaaW.PrintMore
attribute [local go_sem] max2_int min2_int max_two min_two max_three min_three max_four min_four run_sub64_   -- for this text's walks alone
set_option linter.unusedVariables false
set_option linter.unusedSimpArgs false

/-! ### damsonref10_Same: function 56 -/
def damsonref10_Same.l0 : Nat → List (S25) → List (S25) → Int → Int → Option (Bool)
 | 0, _, _, _, _ => none
 | k + 1, x0, x1, x12, x13 => if x13 < x12 then (if 0 ≤ x13 then (if x13 < (x0.length : Int) then (if x13 < (x1.length : Int) then ((damsonref09_Same.f k ((rd_T25 x0 x13).f0) ((rd_T25 x0 x13).f1) ((rd_T25 x0 x13).f2) ((rd_T25 x0 x13).f3) ((rd_T25 x0 x13).f4) ((rd_T25 x0 x13).f5) ((rd_T25 x0 x13).f6) ((rd_T25 x1 x13).f0) ((rd_T25 x1 x13).f1) ((rd_T25 x1 x13).f2) ((rd_T25 x1 x13).f3) ((rd_T25 x1 x13).f4) ((rd_T25 x1 x13).f5) ((rd_T25 x1 x13).f6)).bind fun t301 => (if t301 = true then (damsonref10_Same.l0 k x0 x1 x12 (wrap64 (x13 + 1))) else (some false))) else (none)) else (none)) else (none)) else (some true)
def damsonref10_Same.f (k : Nat) (l0 : List (S25)) (l1 : List (S25)) : Option (Bool) := if (l0.length : Int) = (l1.length : Int) then (damsonref10_Same.l0 k l0 l1 (l0.length : Int) 0) else (some false)
theorem damsonref10_Same.mono_l : ∀ k, (∀ y0 y1 y2 y3, LeO (damsonref10_Same.l0 k y0 y1 y2 y3) (damsonref10_Same.l0 (k + 1) y0 y1 y2 y3))
 | 0 => fun _ _ _ _ r h => by simp [damsonref10_Same.l0] at h
 | k + 1 => by
  have ih0 := damsonref10_Same.mono_l k
  ·intro y0 y1 y2 y3
   unfold damsonref10_Same.l0
   repeat' first
   | (with_reducible exact ih0 _ _ _ _)
   | (with_reducible exact damsonref09_Same.mono _ _ _ _ _ _ _ _ _ _ _ _ _ _ _)
   | (with_reducible exact LeO.refl _)
   | (with_reducible exact LeO.none _)
   | (with_reducible refine LeO.ite ?_ ?_)
   | (with_reducible refine LeO.bind ?_ (fun _ => ?_))
   | exact ih0 _ _ _ _
   | exact damsonref09_Same.mono _ _ _ _ _ _ _ _ _ _ _ _ _ _ _
   | exact LeO.none _
   | refine LeO.ite ?_ ?_
   | refine LeO.bind ?_ (fun _ => ?_)
theorem damsonref10_Same.mono : ∀ a0 a1 k, LeO (damsonref10_Same.f k a0 a1) (damsonref10_Same.f (k + 1) a0 a1) := by
 intro a0 a1 k
 have ih0 := damsonref10_Same.mono_l k
 unfold damsonref10_Same.f
 repeat' first
   | (with_reducible exact ih0 _ _ _ _)
   | (with_reducible exact damsonref09_Same.mono _ _ _ _ _ _ _ _ _ _ _ _ _ _ _)
   | (with_reducible exact LeO.refl _)
   | (with_reducible exact LeO.none _)
   | (with_reducible refine LeO.ite ?_ ?_)
   | (with_reducible refine LeO.bind ?_ (fun _ => ?_))
   | exact ih0 _ _ _ _
   | exact damsonref09_Same.mono _ _ _ _ _ _ _ _ _ _ _ _ _ _ _
   | exact LeO.none _
   | refine LeO.ite ?_ ?_
   | refine LeO.bind ?_ (fun _ => ?_)
def damsonref10_Same.T6 : Bool × List (List Nat × List Nat) := (true, [([], []), ([], []), ([0, 1], [0, 1]), ([2], [2]), ([], []), ([], []), ([4, 5], [4, 5]), ([6], [6]), ([3, 7], [3, 7]), ([8], [8])])
def damsonref10_Same.B6 : List Nat := [0, 0, 3, 7, 0, 0, 48, 112, 255, 511]
theorem damsonref10_Same.tab6 : rtab .any (opsOf Try.f56 6) = damsonref10_Same.T6 := by kernel_rfl
theorem damsonref10_Same.bits6 : waitsOk damsonref10_Same.T6.2 damsonref10_Same.B6 = true := by kernel_rfl
set_option maxHeartbeats 8000000 in
set_option maxRecDepth 100000 in
theorem damsonref10_Same.calls (k : Nat) (A0 : Option Addr) (c0 : Nat) (l0 : List (S25)) (A1 : Option Addr) (c1 : Nat) (l1 : List (S25)) (r : Bool) (w : World) (hr0 : Kd.C k25 w A0 l0.length l0) (hc0 : l0.length ≤ c0) (hr1 : Kd.C k25 w A1 l1.length l1) (hc1 : l1.length ≤ c1) (h : damsonref10_Same.f k l0 l1 = some r) :
  Calls Try.prog 56 #[.slice A0 l0.length c0, .slice A1 l1.length c1] w fun e w' => e = .returned (.bool r) ∧ Below w.heap.size w w' := by
 have hu25 := Try.underlying25
 have HR0 := Aside0.mk hr0
 have HC0 := Aside0.mk hc0
 clear hr0 hc0
 have HR1 := Aside0.mk hr1
 have HC1 := Aside0.mk hc1
 clear hr1 hc1
 have HB := Aside0.mk (Below.refl w.heap.size w)
 have H : (if (l0.length : Int) = (l1.length : Int) then (damsonref10_Same.l0 k l0 l1 (l0.length : Int) 0) else (some false)) = some r := h
 clear h
 by_cases c3 : (l0.length : Int) = (l1.length : Int)
 ·rw [if_pos c3] at H
  have c3b0 : ((l0.length : Int) == (l1.length : Int)) = true := beq_iff_eq.mpr c3
  have c3b1 : ((l0.length : Int) != (l1.length : Int)) = false := bne_eq_false_iff_eq.mpr c3
  have c3b2 : (l0.length == l1.length) = true := by first | simpa using c3 | (simp at c3 ⊢; omega)
  clear c3
  have H' := Aside0.mk H
  clear H
  go_enter Try.func56, Try.ntmps56
  go_wp2
  go_loopg [13] k (fun kq v13 w' => ∃ (x13_1 : Int), v13 = .int .i64 x13_1 ∧ Aside0 (damsonref10_Same.l0 kq l0 l1 (l0.length : Int) x13_1 = some r) ∧ Aside0 (kq ≤ k) ∧ Aside0 (Below w.heap.size w w'))
  case atStart => exact ⟨(0), (by first | rfl | (simp; done) | (simp [*]; done)), H', ⟨Nat.le_refl _⟩, ⟨by repeat (first | (with_reducible first | exact HB.out | apply below_alloc | apply pw_below_drewN | apply below_drew1) | exact HB.out)⟩⟩
  case round =>
   clear H'
   try clear c1
   try clear p2
   try clear c3
   try clear c3b0
   try clear c3b1
   try clear c3b2
   obtain ⟨x13_1, rfl, HA, HK1, HB⟩ := hrel
   cases gk with
   | zero => exact absurd HA.out (by simp [damsonref10_Same.l0])
   | succ k1 =>
    have H := HA.out
    clear HA
    simp only [damsonref10_Same.l0] at H
    by_cases c4 : x13_1 < (l0.length : Int)
    ·rw [if_pos c4] at H
     have c4b0 : decide (x13_1 < (l0.length : Int)) = true := decide_eq_true c4
     clear c4
     by_cases c5 : 0 ≤ x13_1
     ·rw [if_pos c5] at H
      have c5b0 : decide (0 ≤ x13_1) = true := decide_eq_true c5
      clear c5
      by_cases c6 : x13_1 < (l0.length : Int)
      ·rw [if_pos c6] at H
       have c6b0 : decide (x13_1 < (l0.length : Int)) = true := decide_eq_true c6
       clear c6
       by_cases c7 : x13_1 < (l1.length : Int)
       ·rw [if_pos c7] at H
        have c7b0 : decide (x13_1 < (l1.length : Int)) = true := decide_eq_true c7
        clear c7
        replace H := Option.bind_eq_some_iff.mp H
        obtain ⟨t301, A80, H⟩ := H
        replace H : (if t301 = true then (damsonref10_Same.l0 k1 l0 l1 (l0.length : Int) (wrap64 (x13_1 + 1))) else (some false)) = some r := H
        have A8 := Aside0.mk A80
        clear A80
        by_cases c9 : t301 = true
        ·subst c9
         have H1 : (damsonref10_Same.l0 k1 l0 l1 (l0.length : Int) (wrap64 (x13_1 + 1))) = some r := by rw [if_pos rfl] at H; exact H
         clear H
         have H := H1
         clear H1
         have H' := Aside0.mk H
         clear H
         try go_wp2
         have n0_ := Aside0.mk (below_drew1 HB.out)
         clear HB
         have HB := n0_
         clear n0_
         have p299 : 0 ≤ (x13_1 : Int) := of_decide_eq_true (by first | (with_reducible assumption) | assumption)
         have q299 : x13_1 < (l0.length : Int) := of_decide_eq_true (by first | (with_reducible assumption) | assumption)
         obtain ⟨ad299, A299_5, c299_5, e299, hx299_0, hx299_1, hx299_2, hx299_3, hx299_4, hx299_5, hx299_6, hl299_5, hi299_5⟩ := at_T25 HR0.out x13_1 p299 q299
         have hw299_6 := hx299_6
         have hw299_5 := hx299_5
         have hw299_4 := hx299_4
         have hw299_3 := hx299_3
         have hw299_2 := hx299_2
         have hw299_1 := hx299_1
         have hw299_0 := hx299_0
         cases e299
         replace hx299_0 := (HB.out.cell (World.block_lt_of_cell? w _ hx299_0)).trans hx299_0
         replace hx299_1 := (HB.out.cell (World.block_lt_of_cell? w _ hx299_1)).trans hx299_1
         replace hx299_2 := (HB.out.cell (World.block_lt_of_cell? w _ hx299_2)).trans hx299_2
         replace hx299_3 := (HB.out.cell (World.block_lt_of_cell? w _ hx299_3)).trans hx299_3
         replace hx299_4 := (HB.out.cell (World.block_lt_of_cell? w _ hx299_4)).trans hx299_4
         replace hx299_5 := (HB.out.cell (World.block_lt_of_cell? w _ hx299_5)).trans hx299_5
         replace hx299_6 := (HB.out.cell (World.block_lt_of_cell? w _ hx299_6)).trans hx299_6
         have HR299_5 := Aside0.mk hi299_5
         have HC299_5 := Aside0.mk hl299_5
         clear hi299_5 hl299_5
         replace p299 := eq_true p299
         replace q299 := eq_true q299
         have p300 : 0 ≤ (x13_1 : Int) := of_decide_eq_true (by first | (with_reducible assumption) | assumption)
         have q300 : x13_1 < (l1.length : Int) := of_decide_eq_true (by first | (with_reducible assumption) | assumption)
         obtain ⟨ad300, A300_5, c300_5, e300, hx300_0, hx300_1, hx300_2, hx300_3, hx300_4, hx300_5, hx300_6, hl300_5, hi300_5⟩ := at_T25 HR1.out x13_1 p300 q300
         have hw300_6 := hx300_6
         have hw300_5 := hx300_5
         have hw300_4 := hx300_4
         have hw300_3 := hx300_3
         have hw300_2 := hx300_2
         have hw300_1 := hx300_1
         have hw300_0 := hx300_0
         cases e300
         replace hx300_0 := (HB.out.cell (World.block_lt_of_cell? w _ hx300_0)).trans hx300_0
         replace hx300_1 := (HB.out.cell (World.block_lt_of_cell? w _ hx300_1)).trans hx300_1
         replace hx300_2 := (HB.out.cell (World.block_lt_of_cell? w _ hx300_2)).trans hx300_2
         replace hx300_3 := (HB.out.cell (World.block_lt_of_cell? w _ hx300_3)).trans hx300_3
         replace hx300_4 := (HB.out.cell (World.block_lt_of_cell? w _ hx300_4)).trans hx300_4
         replace hx300_5 := (HB.out.cell (World.block_lt_of_cell? w _ hx300_5)).trans hx300_5
         replace hx300_6 := (HB.out.cell (World.block_lt_of_cell? w _ hx300_6)).trans hx300_6
         have HR300_5 := Aside0.mk hi300_5
         have HC300_5 := Aside0.mk hl300_5
         clear hi300_5 hl300_5
         replace p300 := eq_true p300
         replace q300 := eq_true q300
         refine start_ (n := 10) (S := fun w' => w'.cell? (ad299.add ((x13_1).toNat * 7)) = some (.int .u64 ((rd_T25 l0 x13_1).f0)) ∧ w'.cell? ⟨(ad299.add ((x13_1).toNat * 7)).block, (ad299.add ((x13_1).toNat * 7)).off + 1, none⟩ = some (.int .u64 ((rd_T25 l0 x13_1).f1)) ∧ w'.cell? ⟨(ad299.add ((x13_1).toNat * 7)).block, (ad299.add ((x13_1).toNat * 7)).off + 2, none⟩ = some (.int .u64 ((rd_T25 l0 x13_1).f2)) ∧ w'.cell? ⟨(ad299.add ((x13_1).toNat * 7)).block, (ad299.add ((x13_1).toNat * 7)).off + 3, none⟩ = some (.int .u64 ((rd_T25 l0 x13_1).f3)) ∧ w'.cell? ⟨(ad299.add ((x13_1).toNat * 7)).block, (ad299.add ((x13_1).toNat * 7)).off + 4, none⟩ = some (.int .u64 ((rd_T25 l0 x13_1).f4)) ∧ w'.cell? ⟨(ad299.add ((x13_1).toNat * 7)).block, (ad299.add ((x13_1).toNat * 7)).off + 5, none⟩ = some (.slice A299_5 ((rd_T25 l0 x13_1).f5).length c299_5) ∧ w'.cell? ⟨(ad299.add ((x13_1).toNat * 7)).block, (ad299.add ((x13_1).toNat * 7)).off + 6, none⟩ = some (.bool ((rd_T25 l0 x13_1).f6)) ∧ w'.cell? (ad300.add ((x13_1).toNat * 7)) = some (.int .u64 ((rd_T25 l1 x13_1).f0)) ∧ w'.cell? ⟨(ad300.add ((x13_1).toNat * 7)).block, (ad300.add ((x13_1).toNat * 7)).off + 1, none⟩ = some (.int .u64 ((rd_T25 l1 x13_1).f1)) ∧ w'.cell? ⟨(ad300.add ((x13_1).toNat * 7)).block, (ad300.add ((x13_1).toNat * 7)).off + 2, none⟩ = some (.int .u64 ((rd_T25 l1 x13_1).f2)) ∧ w'.cell? ⟨(ad300.add ((x13_1).toNat * 7)).block, (ad300.add ((x13_1).toNat * 7)).off + 3, none⟩ = some (.int .u64 ((rd_T25 l1 x13_1).f3)) ∧ w'.cell? ⟨(ad300.add ((x13_1).toNat * 7)).block, (ad300.add ((x13_1).toNat * 7)).off + 4, none⟩ = some (.int .u64 ((rd_T25 l1 x13_1).f4)) ∧ w'.cell? ⟨(ad300.add ((x13_1).toNat * 7)).block, (ad300.add ((x13_1).toNat * 7)).off + 5, none⟩ = some (.slice A300_5 ((rd_T25 l1 x13_1).f5).length c300_5) ∧ w'.cell? ⟨(ad300.add ((x13_1).toNat * 7)).block, (ad300.add ((x13_1).toNat * 7)).off + 6, none⟩ = some (.bool ((rd_T25 l1 x13_1).f6))) (ds := []) #[false, false, false, false, false, false, false, false, false, false] (by kernel_rfl) rfl rfl ⟨((HB.out.cell (World.block_lt_of_cell? w _ hw299_0)).trans hw299_0), ((HB.out.cell (World.block_lt_of_cell? w _ hw299_1)).trans hw299_1), ((HB.out.cell (World.block_lt_of_cell? w _ hw299_2)).trans hw299_2), ((HB.out.cell (World.block_lt_of_cell? w _ hw299_3)).trans hw299_3), ((HB.out.cell (World.block_lt_of_cell? w _ hw299_4)).trans hw299_4), ((HB.out.cell (World.block_lt_of_cell? w _ hw299_5)).trans hw299_5), ((HB.out.cell (World.block_lt_of_cell? w _ hw299_6)).trans hw299_6), ((HB.out.cell (World.block_lt_of_cell? w _ hw300_0)).trans hw300_0), ((HB.out.cell (World.block_lt_of_cell? w _ hw300_1)).trans hw300_1), ((HB.out.cell (World.block_lt_of_cell? w _ hw300_2)).trans hw300_2), ((HB.out.cell (World.block_lt_of_cell? w _ hw300_3)).trans hw300_3), ((HB.out.cell (World.block_lt_of_cell? w _ hw300_4)).trans hw300_4), ((HB.out.cell (World.block_lt_of_cell? w _ hw300_5)).trans hw300_5), ((HB.out.cell (World.block_lt_of_cell? w _ hw300_6)).trans hw300_6)⟩ (fun hHeld => ?_); refine with_tabW damsonref10_Same.tab6 damsonref10_Same.bits6 (fun HT_ HW_ => ?_)
         generalize wr.drew = w10 at HB HR299_5 HR300_5 hx299_0 hx299_1 hx299_2 hx299_3 hx299_4 hx299_5 hx299_6 hx300_0 hx300_1 hx300_2 hx300_3 hx300_4 hx300_5 hx300_6 hHeld ⊢
         refine pureA_ 0 16 (bm 10 1) ?_
         refine pureA_ 1 17 (bm 10 3) ?_
         refine pureA_ 2 18 (bm 10 7) ?_
         refine pureA_ 4 20 (bm 10 23) ?_
         refine pureA_ 5 21 (bm 10 55) ?_
         refine pureA_ 6 22 (bm 10 119) ?_
         refine take_ (i := 3) (N := some 19) (v := ?_) (a' := ?_) #[true, true, true, true, true, true, true, false, false, false] rfl rfl (take_ofW HT_.out HW_.out (by kernel_rfl)) (fun _ _ _ h => h) (Or.inl ⟨by rfl, ?_⟩) hHeld ?_ ?_
         rotate_left
         ·rintro w' ⟨s0, s1, s2, s3, s4, s5, s6, s7, s8, s9, s10, s11, s12, s13⟩
          go_simp
          with_reducible rfl
         rotate_left
         ·simp only [Act.put, List.setIfInBounds_toArray, List.set_cons_zero, List.set_cons_succ, i64_w, i32_w]
          rfl
         refine take_ (i := 7) (N := some 23) (v := ?_) (a' := ?_) #[true, true, true, true, true, true, true, true, false, false] rfl rfl (take_ofW HT_.out HW_.out (by kernel_rfl)) (fun _ _ _ h => h) (Or.inl ⟨by rfl, ?_⟩) hHeld ?_ ?_
         rotate_left
         ·rintro w' ⟨s0, s1, s2, s3, s4, s5, s6, s7, s8, s9, s10, s11, s12, s13⟩
          go_simp
          with_reducible rfl
         rotate_left
         ·simp only [Act.put, List.setIfInBounds_toArray, List.set_cons_zero, List.set_cons_succ, i64_w, i32_w]
          rfl
         refine one_ (i := 8) (N := some 24) #[true, true, true, true, true, true, true, true, true, false] rfl rfl (one_of HT_.out (by kernel_rfl)) (by decide) (fun K hK => ?_)
         refine goes_ Try.func35 (by kernel_rfl) rfl #[.agg #[.int .u64 ((rd_T25 l0 x13_1).f0), .int .u64 ((rd_T25 l0 x13_1).f1), .int .u64 ((rd_T25 l0 x13_1).f2), .int .u64 ((rd_T25 l0 x13_1).f3), .int .u64 ((rd_T25 l0 x13_1).f4), .slice A299_5 ((rd_T25 l0 x13_1).f5).length c299_5, .bool ((rd_T25 l0 x13_1).f6)], .agg #[.int .u64 ((rd_T25 l1 x13_1).f0), .int .u64 ((rd_T25 l1 x13_1).f1), .int .u64 ((rd_T25 l1 x13_1).f2), .int .u64 ((rd_T25 l1 x13_1).f3), .int .u64 ((rd_T25 l1 x13_1).f4), .slice A300_5 ((rd_T25 l1 x13_1).f5).length c300_5, .bool ((rd_T25 l1 x13_1).f6)]] (by rfl) rfl rfl (by (try simp only [List.map_toArray, List.map_cons, List.map_nil]); first | done | rfl | (simp only [List.length_drop, List.length_take]; rfl)) ?_
         with_reducible refine (damsonref09_Same.calls k1 ((rd_T25 l0 x13_1).f0) ((rd_T25 l0 x13_1).f1) ((rd_T25 l0 x13_1).f2) ((rd_T25 l0 x13_1).f3) ((rd_T25 l0 x13_1).f4) _ _ ((rd_T25 l0 x13_1).f5) ((rd_T25 l0 x13_1).f6) ((rd_T25 l1 x13_1).f0) ((rd_T25 l1 x13_1).f1) ((rd_T25 l1 x13_1).f2) ((rd_T25 l1 x13_1).f3) ((rd_T25 l1 x13_1).f4) _ _ ((rd_T25 l1 x13_1).f5) ((rd_T25 l1 x13_1).f6) true _ ?side1 ?side2 ?side3 ?side4 A8.out).mono ?_
         (case side1 => repeat (first | exact (Kd.C_below HR299_5.out HB.out) | (with_reducible refine Kd.C_alloc ?_ _) | (with_reducible refine Kd.C_drewN ?_ _) | (with_reducible refine Kd.C_drew ?_)))
         (case side2 => exact HC299_5.out)
         (case side3 => repeat (first | exact (Kd.C_below HR300_5.out HB.out) | (with_reducible refine Kd.C_alloc ?_ _) | (with_reducible refine Kd.C_drewN ?_ _) | (with_reducible refine Kd.C_drew ?_)))
         (case side4 => exact HC300_5.out)
         rintro e w11 ⟨rfl, hb⟩
         refine ⟨_, rfl, ?_⟩
         have n0_ := Aside0.mk (below_step (belN HB) hb)
         clear HB
         have HB := n0_
         clear n0_
         (try clear hb)
         (try clear hb2)
         (try clear hk)
         (try clear hi)
         refine hK.out _ _ ⟨((HB.out.cell (World.block_lt_of_cell? w _ hw299_0)).trans hw299_0), ((HB.out.cell (World.block_lt_of_cell? w _ hw299_1)).trans hw299_1), ((HB.out.cell (World.block_lt_of_cell? w _ hw299_2)).trans hw299_2), ((HB.out.cell (World.block_lt_of_cell? w _ hw299_3)).trans hw299_3), ((HB.out.cell (World.block_lt_of_cell? w _ hw299_4)).trans hw299_4), ((HB.out.cell (World.block_lt_of_cell? w _ hw299_5)).trans hw299_5), ((HB.out.cell (World.block_lt_of_cell? w _ hw299_6)).trans hw299_6), ((HB.out.cell (World.block_lt_of_cell? w _ hw300_0)).trans hw300_0), ((HB.out.cell (World.block_lt_of_cell? w _ hw300_1)).trans hw300_1), ((HB.out.cell (World.block_lt_of_cell? w _ hw300_2)).trans hw300_2), ((HB.out.cell (World.block_lt_of_cell? w _ hw300_3)).trans hw300_3), ((HB.out.cell (World.block_lt_of_cell? w _ hw300_4)).trans hw300_4), ((HB.out.cell (World.block_lt_of_cell? w _ hw300_5)).trans hw300_5), ((HB.out.cell (World.block_lt_of_cell? w _ hw300_6)).trans hw300_6)⟩ (fun hHeld => ?_)
         clear hK K
         refine norm_ (a' := ?_) ?_ ?_
         rotate_left
         ·show Act.put _ (some 24) _ = _
          simp only [Act.put, List.setIfInBounds_toArray, List.set_cons_zero, List.set_cons_succ, i64_w, i32_w]
          rfl
         refine pureA_ 9 25 (bm 10 1023) ?_
         refine done_ (done_of HT_.out (by kernel_rfl)) ?_
         try go_wp2
         go_roundg k1
         case measure => have := HK1.out; omega
         case rel => exact ⟨(wrap64 (x13_1 + 1)), (by first | rfl | (simp; done) | (simp [*]; done)), H', ⟨by have := HK1.out; omega⟩, ⟨by repeat (first | (with_reducible first | exact HB.out | apply below_alloc | apply pw_below_drewN | apply below_drew1) | exact HB.out)⟩⟩
        ·replace c9 := Bool.eq_false_iff.mpr c9
         subst c9
         have H1 : (some false) = some r := by rw [if_neg (show ¬ (false = true) by decide)] at H; exact H
         clear H
         have H := H1
         clear H1
         obtain rfl := Option.some.inj H
         try go_wp2
         have n0_ := Aside0.mk (below_drew1 HB.out)
         clear HB
         have HB := n0_
         clear n0_
         have p299 : 0 ≤ (x13_1 : Int) := of_decide_eq_true (by first | (with_reducible assumption) | assumption)
         have q299 : x13_1 < (l0.length : Int) := of_decide_eq_true (by first | (with_reducible assumption) | assumption)
         obtain ⟨ad299, A299_5, c299_5, e299, hx299_0, hx299_1, hx299_2, hx299_3, hx299_4, hx299_5, hx299_6, hl299_5, hi299_5⟩ := at_T25 HR0.out x13_1 p299 q299
         have hw299_6 := hx299_6
         have hw299_5 := hx299_5
         have hw299_4 := hx299_4
         have hw299_3 := hx299_3
         have hw299_2 := hx299_2
         have hw299_1 := hx299_1
         have hw299_0 := hx299_0
         cases e299
         replace hx299_0 := (HB.out.cell (World.block_lt_of_cell? w _ hx299_0)).trans hx299_0
         replace hx299_1 := (HB.out.cell (World.block_lt_of_cell? w _ hx299_1)).trans hx299_1
         replace hx299_2 := (HB.out.cell (World.block_lt_of_cell? w _ hx299_2)).trans hx299_2
         replace hx299_3 := (HB.out.cell (World.block_lt_of_cell? w _ hx299_3)).trans hx299_3
         replace hx299_4 := (HB.out.cell (World.block_lt_of_cell? w _ hx299_4)).trans hx299_4
         replace hx299_5 := (HB.out.cell (World.block_lt_of_cell? w _ hx299_5)).trans hx299_5
         replace hx299_6 := (HB.out.cell (World.block_lt_of_cell? w _ hx299_6)).trans hx299_6
         have HR299_5 := Aside0.mk hi299_5
         have HC299_5 := Aside0.mk hl299_5
         clear hi299_5 hl299_5
         replace p299 := eq_true p299
         replace q299 := eq_true q299
         have p300 : 0 ≤ (x13_1 : Int) := of_decide_eq_true (by first | (with_reducible assumption) | assumption)
         have q300 : x13_1 < (l1.length : Int) := of_decide_eq_true (by first | (with_reducible assumption) | assumption)
         obtain ⟨ad300, A300_5, c300_5, e300, hx300_0, hx300_1, hx300_2, hx300_3, hx300_4, hx300_5, hx300_6, hl300_5, hi300_5⟩ := at_T25 HR1.out x13_1 p300 q300
         have hw300_6 := hx300_6
         have hw300_5 := hx300_5
         have hw300_4 := hx300_4
         have hw300_3 := hx300_3
         have hw300_2 := hx300_2
         have hw300_1 := hx300_1
         have hw300_0 := hx300_0
         cases e300
         replace hx300_0 := (HB.out.cell (World.block_lt_of_cell? w _ hx300_0)).trans hx300_0
         replace hx300_1 := (HB.out.cell (World.block_lt_of_cell? w _ hx300_1)).trans hx300_1
         replace hx300_2 := (HB.out.cell (World.block_lt_of_cell? w _ hx300_2)).trans hx300_2
         replace hx300_3 := (HB.out.cell (World.block_lt_of_cell? w _ hx300_3)).trans hx300_3
         replace hx300_4 := (HB.out.cell (World.block_lt_of_cell? w _ hx300_4)).trans hx300_4
         replace hx300_5 := (HB.out.cell (World.block_lt_of_cell? w _ hx300_5)).trans hx300_5
         replace hx300_6 := (HB.out.cell (World.block_lt_of_cell? w _ hx300_6)).trans hx300_6
         have HR300_5 := Aside0.mk hi300_5
         have HC300_5 := Aside0.mk hl300_5
         clear hi300_5 hl300_5
         replace p300 := eq_true p300
         replace q300 := eq_true q300
         refine start_ (n := 10) (S := fun w' => w'.cell? (ad299.add ((x13_1).toNat * 7)) = some (.int .u64 ((rd_T25 l0 x13_1).f0)) ∧ w'.cell? ⟨(ad299.add ((x13_1).toNat * 7)).block, (ad299.add ((x13_1).toNat * 7)).off + 1, none⟩ = some (.int .u64 ((rd_T25 l0 x13_1).f1)) ∧ w'.cell? ⟨(ad299.add ((x13_1).toNat * 7)).block, (ad299.add ((x13_1).toNat * 7)).off + 2, none⟩ = some (.int .u64 ((rd_T25 l0 x13_1).f2)) ∧ w'.cell? ⟨(ad299.add ((x13_1).toNat * 7)).block, (ad299.add ((x13_1).toNat * 7)).off + 3, none⟩ = some (.int .u64 ((rd_T25 l0 x13_1).f3)) ∧ w'.cell? ⟨(ad299.add ((x13_1).toNat * 7)).block, (ad299.add ((x13_1).toNat * 7)).off + 4, none⟩ = some (.int .u64 ((rd_T25 l0 x13_1).f4)) ∧ w'.cell? ⟨(ad299.add ((x13_1).toNat * 7)).block, (ad299.add ((x13_1).toNat * 7)).off + 5, none⟩ = some (.slice A299_5 ((rd_T25 l0 x13_1).f5).length c299_5) ∧ w'.cell? ⟨(ad299.add ((x13_1).toNat * 7)).block, (ad299.add ((x13_1).toNat * 7)).off + 6, none⟩ = some (.bool ((rd_T25 l0 x13_1).f6)) ∧ w'.cell? (ad300.add ((x13_1).toNat * 7)) = some (.int .u64 ((rd_T25 l1 x13_1).f0)) ∧ w'.cell? ⟨(ad300.add ((x13_1).toNat * 7)).block, (ad300.add ((x13_1).toNat * 7)).off + 1, none⟩ = some (.int .u64 ((rd_T25 l1 x13_1).f1)) ∧ w'.cell? ⟨(ad300.add ((x13_1).toNat * 7)).block, (ad300.add ((x13_1).toNat * 7)).off + 2, none⟩ = some (.int .u64 ((rd_T25 l1 x13_1).f2)) ∧ w'.cell? ⟨(ad300.add ((x13_1).toNat * 7)).block, (ad300.add ((x13_1).toNat * 7)).off + 3, none⟩ = some (.int .u64 ((rd_T25 l1 x13_1).f3)) ∧ w'.cell? ⟨(ad300.add ((x13_1).toNat * 7)).block, (ad300.add ((x13_1).toNat * 7)).off + 4, none⟩ = some (.int .u64 ((rd_T25 l1 x13_1).f4)) ∧ w'.cell? ⟨(ad300.add ((x13_1).toNat * 7)).block, (ad300.add ((x13_1).toNat * 7)).off + 5, none⟩ = some (.slice A300_5 ((rd_T25 l1 x13_1).f5).length c300_5) ∧ w'.cell? ⟨(ad300.add ((x13_1).toNat * 7)).block, (ad300.add ((x13_1).toNat * 7)).off + 6, none⟩ = some (.bool ((rd_T25 l1 x13_1).f6))) (ds := []) #[false, false, false, false, false, false, false, false, false, false] (by kernel_rfl) rfl rfl ⟨((HB.out.cell (World.block_lt_of_cell? w _ hw299_0)).trans hw299_0), ((HB.out.cell (World.block_lt_of_cell? w _ hw299_1)).trans hw299_1), ((HB.out.cell (World.block_lt_of_cell? w _ hw299_2)).trans hw299_2), ((HB.out.cell (World.block_lt_of_cell? w _ hw299_3)).trans hw299_3), ((HB.out.cell (World.block_lt_of_cell? w _ hw299_4)).trans hw299_4), ((HB.out.cell (World.block_lt_of_cell? w _ hw299_5)).trans hw299_5), ((HB.out.cell (World.block_lt_of_cell? w _ hw299_6)).trans hw299_6), ((HB.out.cell (World.block_lt_of_cell? w _ hw300_0)).trans hw300_0), ((HB.out.cell (World.block_lt_of_cell? w _ hw300_1)).trans hw300_1), ((HB.out.cell (World.block_lt_of_cell? w _ hw300_2)).trans hw300_2), ((HB.out.cell (World.block_lt_of_cell? w _ hw300_3)).trans hw300_3), ((HB.out.cell (World.block_lt_of_cell? w _ hw300_4)).trans hw300_4), ((HB.out.cell (World.block_lt_of_cell? w _ hw300_5)).trans hw300_5), ((HB.out.cell (World.block_lt_of_cell? w _ hw300_6)).trans hw300_6)⟩ (fun hHeld => ?_); refine with_tabW damsonref10_Same.tab6 damsonref10_Same.bits6 (fun HT_ HW_ => ?_)
         generalize wr.drew = w12 at HB HR299_5 HR300_5 hx299_0 hx299_1 hx299_2 hx299_3 hx299_4 hx299_5 hx299_6 hx300_0 hx300_1 hx300_2 hx300_3 hx300_4 hx300_5 hx300_6 hHeld ⊢
         refine pureA_ 0 16 (bm 10 1) ?_
         refine pureA_ 1 17 (bm 10 3) ?_
         refine pureA_ 2 18 (bm 10 7) ?_
         refine pureA_ 4 20 (bm 10 23) ?_
         refine pureA_ 5 21 (bm 10 55) ?_
         refine pureA_ 6 22 (bm 10 119) ?_
         refine take_ (i := 3) (N := some 19) (v := ?_) (a' := ?_) #[true, true, true, true, true, true, true, false, false, false] rfl rfl (take_ofW HT_.out HW_.out (by kernel_rfl)) (fun _ _ _ h => h) (Or.inl ⟨by rfl, ?_⟩) hHeld ?_ ?_
         rotate_left
         ·rintro w' ⟨s0, s1, s2, s3, s4, s5, s6, s7, s8, s9, s10, s11, s12, s13⟩
          go_simp
          with_reducible rfl
         rotate_left
         ·simp only [Act.put, List.setIfInBounds_toArray, List.set_cons_zero, List.set_cons_succ, i64_w, i32_w]
          rfl
         refine take_ (i := 7) (N := some 23) (v := ?_) (a' := ?_) #[true, true, true, true, true, true, true, true, false, false] rfl rfl (take_ofW HT_.out HW_.out (by kernel_rfl)) (fun _ _ _ h => h) (Or.inl ⟨by rfl, ?_⟩) hHeld ?_ ?_
         rotate_left
         ·rintro w' ⟨s0, s1, s2, s3, s4, s5, s6, s7, s8, s9, s10, s11, s12, s13⟩
          go_simp
          with_reducible rfl
         rotate_left
         ·simp only [Act.put, List.setIfInBounds_toArray, List.set_cons_zero, List.set_cons_succ, i64_w, i32_w]
          rfl
         refine one_ (i := 8) (N := some 24) #[true, true, true, true, true, true, true, true, true, false] rfl rfl (one_of HT_.out (by kernel_rfl)) (by decide) (fun K hK => ?_)
         refine goes_ Try.func35 (by kernel_rfl) rfl #[.agg #[.int .u64 ((rd_T25 l0 x13_1).f0), .int .u64 ((rd_T25 l0 x13_1).f1), .int .u64 ((rd_T25 l0 x13_1).f2), .int .u64 ((rd_T25 l0 x13_1).f3), .int .u64 ((rd_T25 l0 x13_1).f4), .slice A299_5 ((rd_T25 l0 x13_1).f5).length c299_5, .bool ((rd_T25 l0 x13_1).f6)], .agg #[.int .u64 ((rd_T25 l1 x13_1).f0), .int .u64 ((rd_T25 l1 x13_1).f1), .int .u64 ((rd_T25 l1 x13_1).f2), .int .u64 ((rd_T25 l1 x13_1).f3), .int .u64 ((rd_T25 l1 x13_1).f4), .slice A300_5 ((rd_T25 l1 x13_1).f5).length c300_5, .bool ((rd_T25 l1 x13_1).f6)]] (by rfl) rfl rfl (by (try simp only [List.map_toArray, List.map_cons, List.map_nil]); first | done | rfl | (simp only [List.length_drop, List.length_take]; rfl)) ?_
         with_reducible refine (damsonref09_Same.calls k1 ((rd_T25 l0 x13_1).f0) ((rd_T25 l0 x13_1).f1) ((rd_T25 l0 x13_1).f2) ((rd_T25 l0 x13_1).f3) ((rd_T25 l0 x13_1).f4) _ _ ((rd_T25 l0 x13_1).f5) ((rd_T25 l0 x13_1).f6) ((rd_T25 l1 x13_1).f0) ((rd_T25 l1 x13_1).f1) ((rd_T25 l1 x13_1).f2) ((rd_T25 l1 x13_1).f3) ((rd_T25 l1 x13_1).f4) _ _ ((rd_T25 l1 x13_1).f5) ((rd_T25 l1 x13_1).f6) false _ ?side1 ?side2 ?side3 ?side4 A8.out).mono ?_
         (case side1 => repeat (first | exact (Kd.C_below HR299_5.out HB.out) | (with_reducible refine Kd.C_alloc ?_ _) | (with_reducible refine Kd.C_drewN ?_ _) | (with_reducible refine Kd.C_drew ?_)))
         (case side2 => exact HC299_5.out)
         (case side3 => repeat (first | exact (Kd.C_below HR300_5.out HB.out) | (with_reducible refine Kd.C_alloc ?_ _) | (with_reducible refine Kd.C_drewN ?_ _) | (with_reducible refine Kd.C_drew ?_)))
         (case side4 => exact HC300_5.out)
         rintro e w13 ⟨rfl, hb⟩
         refine ⟨_, rfl, ?_⟩
         have n0_ := Aside0.mk (below_step (belN HB) hb)
         clear HB
         have HB := n0_
         clear n0_
         (try clear hb)
         (try clear hb2)
         (try clear hk)
         (try clear hi)
         refine hK.out _ _ ⟨((HB.out.cell (World.block_lt_of_cell? w _ hw299_0)).trans hw299_0), ((HB.out.cell (World.block_lt_of_cell? w _ hw299_1)).trans hw299_1), ((HB.out.cell (World.block_lt_of_cell? w _ hw299_2)).trans hw299_2), ((HB.out.cell (World.block_lt_of_cell? w _ hw299_3)).trans hw299_3), ((HB.out.cell (World.block_lt_of_cell? w _ hw299_4)).trans hw299_4), ((HB.out.cell (World.block_lt_of_cell? w _ hw299_5)).trans hw299_5), ((HB.out.cell (World.block_lt_of_cell? w _ hw299_6)).trans hw299_6), ((HB.out.cell (World.block_lt_of_cell? w _ hw300_0)).trans hw300_0), ((HB.out.cell (World.block_lt_of_cell? w _ hw300_1)).trans hw300_1), ((HB.out.cell (World.block_lt_of_cell? w _ hw300_2)).trans hw300_2), ((HB.out.cell (World.block_lt_of_cell? w _ hw300_3)).trans hw300_3), ((HB.out.cell (World.block_lt_of_cell? w _ hw300_4)).trans hw300_4), ((HB.out.cell (World.block_lt_of_cell? w _ hw300_5)).trans hw300_5), ((HB.out.cell (World.block_lt_of_cell? w _ hw300_6)).trans hw300_6)⟩ (fun hHeld => ?_)
         clear hK K
         refine norm_ (a' := ?_) ?_ ?_
         rotate_left
         ·show Act.put _ (some 24) _ = _
          simp only [Act.put, List.setIfInBounds_toArray, List.set_cons_zero, List.set_cons_succ, i64_w, i32_w]
          rfl
         refine pureA_ 9 25 (bm 10 1023) ?_
         refine done_ (done_of HT_.out (by kernel_rfl)) ?_
         try go_wp2
         go_ret
         exact ⟨by first | rfl | (simp [errW_none, errW_some] <;> rfl) | (simp [*, errW_none, errW_some] <;> rfl), by repeat (first | (with_reducible first | exact HB.out | apply below_alloc | apply pw_below_drewN | apply below_drew1) | exact HB.out)⟩
       ·rw [if_neg c7] at H
        exact absurd H (by simp)
      ·rw [if_neg c6] at H
       exact absurd H (by simp)
     ·rw [if_neg c5] at H
      exact absurd H (by simp)
    ·rw [if_neg c4] at H
     have c4b0 : decide (x13_1 < (l0.length : Int)) = false := decide_eq_false c4
     clear c4
     obtain rfl := Option.some.inj H
     go_wp2
     go_ret
     exact ⟨by first | rfl | (simp [errW_none, errW_some] <;> rfl) | (simp [*, errW_none, errW_some] <;> rfl), by repeat (first | (with_reducible first | exact HB.out | apply below_alloc | apply pw_below_drewN | apply below_drew1) | exact HB.out)⟩
 ·rw [if_neg c3] at H
  have c3b0 : ((l0.length : Int) == (l1.length : Int)) = false := beq_eq_false_iff_ne.mpr c3
  have c3b1 : ((l0.length : Int) != (l1.length : Int)) = true := bne_iff_ne.mpr c3
  have c3b2 : (l0.length == l1.length) = false := by first | simpa using c3 | (simp at c3 ⊢; omega)
  obtain rfl := Option.some.inj H
  go_enter Try.func56, Try.ntmps56
  go_wp2
  go_ret
  exact ⟨by first | rfl | (simp [errW_none, errW_some] <;> rfl) | (simp [*, errW_none, errW_some] <;> rfl), by repeat (first | (with_reducible first | exact HB.out | apply below_alloc | apply pw_below_drewN | apply below_drew1) | exact HB.out)⟩

/-! ### damsonlaw10_LedgerTells: function 11 (by hand) -/
def damsonlaw10_LedgerTells.f (k : Nat) (l o : List S25) (id hold : Int) : Option Bool := (damsonlaw10_live.f k).bind fun t1 => if t1 = true then (damsonref10_Few.f k l).bind fun t2 => if t2 = true then (damsonref10_Few.f k o).bind fun t3 => if t3 = true then
  (ledger_Get.f k l id).bind fun a => (damsonref10_Get.f k l id).bind fun b => (ledger_Where.f k l hold).bind fun x => (damsonref10_Where.f k l hold).bind fun y => (ledger_Ours.f k l).bind fun p => (damsonref10_Ours.f k l).bind fun s =>
  (damsonref09_Same.f k a.1 a.2.1 a.2.2.1 a.2.2.2.1 a.2.2.2.2.1 a.2.2.2.2.2.1 a.2.2.2.2.2.2.1 b.1 b.2.1 b.2.2.1 b.2.2.2.1 b.2.2.2.2.1 b.2.2.2.2.2.1 b.2.2.2.2.2.2.1).bind fun t4 => (ledger_Check.f k l).bind fun c1 => (damsonref10_Check.f k l).bind fun c2 => (ledger_Same.f k l o).bind fun m1 => (damsonref10_Same.f k l o).bind fun m2 =>
  if t4 = true ∧ a.2.2.2.2.2.2.2 = b.2.2.2.2.2.2.2 ∧ x.1 = y.1 ∧ x.2 = y.2 ∧ p.1 = s.1 ∧ p.2.1 = s.2.1 ∧ p.2.2 = s.2.2 ∧ c1 = c2 ∧ m1 = m2 then some true else none
  else some true else some true else none
theorem damsonlaw10_LedgerTells.mono : ∀ l o id hold k, LeO (damsonlaw10_LedgerTells.f k l o id hold) (damsonlaw10_LedgerTells.f (k + 1) l o id hold) := by
  intro l o id hold k
  unfold damsonlaw10_LedgerTells.f
  repeat' first
    | (with_reducible exact LeO.refl _)
    | apply damsonlaw10_live.mono
    | apply damsonref10_Few.mono
    | apply ledger_Get.mono
    | apply damsonref10_Get.mono
    | apply ledger_Where.mono
    | apply damsonref10_Where.mono
    | apply ledger_Ours.mono
    | apply damsonref10_Ours.mono
    | apply damsonref09_Same.mono
    | apply ledger_Check.mono
    | apply damsonref10_Check.mono
    | apply ledger_Same.mono
    | apply damsonref10_Same.mono
    | (with_reducible refine LeO.ite ?_ ?_)
    | (with_reducible refine LeO.bind ?_ (fun _ => ?_))
set_option maxHeartbeats 16000000 in
set_option maxRecDepth 100000 in
theorem damsonlaw10_LedgerTells.calls (k : Nat) (A0 : Option Addr) (c0 : Nat) (l : List S25) (A1 : Option Addr) (c1 : Nat) (o : List S25) (id hold : Int) (r : Bool) (w : World) (hr0 : Kd.C k25 w A0 l.length l) (hc0 : l.length ≤ c0) (hr1 : Kd.C k25 w A1 o.length o) (hc1 : o.length ≤ c1) (h : damsonlaw10_LedgerTells.f k l o id hold = some r) :
    Calls Try.prog 11 #[.slice A0 l.length c0, .slice A1 o.length c1, .int .u64 id, .int .u64 hold] w fun e w' => e = .returned (.bool r) ∧ Below w.heap.size w w' := by
  have HR0 := Aside0.mk hr0
  have HC0 := Aside0.mk hc0
  have HR1 := Aside0.mk hr1
  have HC1 := Aside0.mk hc1
  clear hr0 hc0 hr1 hc1
  have HB := Aside0.mk (Below.refl w.heap.size w)
  unfold damsonlaw10_LedgerTells.f at h
  obtain ⟨t1, h1, h_⟩ := Option.bind_eq_some_iff.mp h
  replace h := h_
  clear h_
  have HF1 := Aside0.mk h1
  clear h1
  try dsimp only at h
  by_cases hc : t1 = true
  case neg =>
    rw [if_neg hc] at h
    cases h
  rw [if_pos hc] at h
  subst hc
  obtain ⟨t2, h1, h_⟩ := Option.bind_eq_some_iff.mp h
  replace h := h_
  clear h_
  have HF2 := Aside0.mk h1
  clear h1
  try dsimp only at h
  by_cases hc : t2 = true
  case neg =>
    rw [if_neg hc] at h
    have hb_ : t2 = false := by simpa using hc
    subst hb_
    injection h with h
    subst h
    go_enter Try.func11, Try.ntmps11
    go_wp2_with (first | (go_at_call 44; refine (damsonlaw10_live.calls k _ _ HF1.out).mono ?_; rintro e w1 ⟨rfl, hb⟩; clear HF1; replace HB := Aside0.mk (below_then HB.out HB.out.size hb); clear hb) | (go_at_call 45; refine (damsonref10_Few.calls k A0 c0 l _ _ (Kd.C_below HR0.out HB.out) HC0.out HF2.out).mono ?_; rintro e w2 ⟨rfl, hb⟩; clear HF2; replace HB := Aside0.mk (below_then HB.out HB.out.size hb); clear hb))
    go_ret
    exact ⟨rfl, HB.out⟩
  rw [if_pos hc] at h
  subst hc
  obtain ⟨t3, h1, h_⟩ := Option.bind_eq_some_iff.mp h
  replace h := h_
  clear h_
  have HF3 := Aside0.mk h1
  clear h1
  try dsimp only at h
  by_cases hc : t3 = true
  case neg =>
    rw [if_neg hc] at h
    have hb_ : t3 = false := by simpa using hc
    subst hb_
    injection h with h
    subst h
    go_enter Try.func11, Try.ntmps11
    go_wp2_with (first | (go_at_call 44; refine (damsonlaw10_live.calls k _ _ HF1.out).mono ?_; rintro e w1 ⟨rfl, hb⟩; clear HF1; replace HB := Aside0.mk (below_then HB.out HB.out.size hb); clear hb) | (go_at_call 45; refine (damsonref10_Few.calls k A0 c0 l _ _ (Kd.C_below HR0.out HB.out) HC0.out HF2.out).mono ?_; rintro e w2 ⟨rfl, hb⟩; clear HF2; replace HB := Aside0.mk (below_then HB.out HB.out.size hb); clear hb) | (go_at_call 45; refine (damsonref10_Few.calls k A1 c1 o _ _ (Kd.C_below HR1.out HB.out) HC1.out HF3.out).mono ?_; rintro e w3 ⟨rfl, hb⟩; clear HF3; replace HB := Aside0.mk (below_then HB.out HB.out.size hb); clear hb))
    go_ret
    exact ⟨rfl, HB.out⟩
  rw [if_pos hc] at h
  subst hc
  obtain ⟨⟨a0, a1, a2, a3, a4, a5, a6, ae⟩, h1, h_⟩ := Option.bind_eq_some_iff.mp h
  replace h := h_
  clear h_
  have HFa := Aside0.mk h1
  clear h1
  try dsimp only at h
  obtain ⟨⟨b0, b1, b2, b3, b4, b5, b6, be⟩, h1, h_⟩ := Option.bind_eq_some_iff.mp h
  replace h := h_
  clear h_
  have HFb := Aside0.mk h1
  clear h1
  try dsimp only at h
  obtain ⟨⟨x0, xe⟩, h1, h_⟩ := Option.bind_eq_some_iff.mp h
  replace h := h_
  clear h_
  have HFx := Aside0.mk h1
  clear h1
  try dsimp only at h
  obtain ⟨⟨y0, ye⟩, h1, h_⟩ := Option.bind_eq_some_iff.mp h
  replace h := h_
  clear h_
  have HFy := Aside0.mk h1
  clear h1
  try dsimp only at h
  obtain ⟨⟨p0, p1, pe⟩, h1, h_⟩ := Option.bind_eq_some_iff.mp h
  replace h := h_
  clear h_
  have HFp := Aside0.mk h1
  clear h1
  try dsimp only at h
  obtain ⟨⟨s0, s1, se⟩, h1, h_⟩ := Option.bind_eq_some_iff.mp h
  replace h := h_
  clear h_
  have HFs := Aside0.mk h1
  clear h1
  try dsimp only at h
  obtain ⟨t4, h1, h_⟩ := Option.bind_eq_some_iff.mp h
  replace h := h_
  clear h_
  have HFt4 := Aside0.mk h1
  clear h1
  try dsimp only at h
  obtain ⟨c1_, h1, h_⟩ := Option.bind_eq_some_iff.mp h
  replace h := h_
  clear h_
  have HFc1_ := Aside0.mk h1
  clear h1
  try dsimp only at h
  obtain ⟨c2_, h1, h_⟩ := Option.bind_eq_some_iff.mp h
  replace h := h_
  clear h_
  have HFc2_ := Aside0.mk h1
  clear h1
  try dsimp only at h
  obtain ⟨m1, h1, h_⟩ := Option.bind_eq_some_iff.mp h
  replace h := h_
  clear h_
  have HFm1 := Aside0.mk h1
  clear h1
  try dsimp only at h
  obtain ⟨m2, h1, h_⟩ := Option.bind_eq_some_iff.mp h
  replace h := h_
  clear h_
  have HFm2 := Aside0.mk h1
  clear h1
  try dsimp only at h
  by_cases hc : t4 = true ∧ ae = be ∧ x0 = y0 ∧ xe = ye ∧ p0 = s0 ∧ p1 = s1 ∧ pe = se ∧ c1_ = c2_ ∧ m1 = m2
  case neg =>
    rw [if_neg hc] at h
    cases h
  rw [if_pos hc] at h
  injection h with h
  subst h
  obtain ⟨rfl, e1, e2, e3, e4, e5, e6, e7, e8⟩ := hc
  have g1 : (ae == be) = true := beq_iff_eq.mpr e1
  have g2 : (x0 == y0) = true := beq_iff_eq.mpr e2
  have g3 : (xe == ye) = true := beq_iff_eq.mpr e3
  have g4 : (p0 == s0) = true := beq_iff_eq.mpr e4
  have g5 : (p1 == s1) = true := beq_iff_eq.mpr e5
  have g6 : (pe == se) = true := beq_iff_eq.mpr e6
  have g7 : (c1_ == c2_) = true := beq_iff_eq.mpr e7
  have g8 : (m1 == m2) = true := beq_iff_eq.mpr e8
  clear e1 e2 e3 e4 e5 e6 e7 e8
  go_enter Try.func11, Try.ntmps11
  go_wp2_with (first | (go_at_call 44; refine (damsonlaw10_live.calls k _ _ HF1.out).mono ?_; rintro e w1 ⟨rfl, hb⟩; clear HF1; replace HB := Aside0.mk (below_then HB.out HB.out.size hb); clear hb) | (go_at_call 45; refine (damsonref10_Few.calls k A0 c0 l _ _ (Kd.C_below HR0.out HB.out) HC0.out HF2.out).mono ?_; rintro e w2 ⟨rfl, hb⟩; clear HF2; replace HB := Aside0.mk (below_then HB.out HB.out.size hb); clear hb) | (go_at_call 45; refine (damsonref10_Few.calls k A1 c1 o _ _ (Kd.C_below HR1.out HB.out) HC1.out HF3.out).mono ?_; rintro e w3 ⟨rfl, hb⟩; clear HF3; replace HB := Aside0.mk (below_then HB.out HB.out.size hb); clear hb) | (go_at_call 47; refine (ledger_Get.calls k A0 c0 l id a0 a1 a2 a3 a4 a5 a6 ae _ (Kd.C_below HR0.out HB.out) HC0.out HFa.out).mono ?_; rintro e w4 ⟨v, rfl, ho, hb⟩; clear HFa; replace HB := Aside0.mk (below_then HB.out HB.out.size hb); obtain ⟨Aa, ca, hv⟩ := Kd.R_slice ho; subst hv; have HCa := Aside0.mk (Kd.R_reads' ho).2.1; have HRa := Aside0.mk (Kd.R_reads' ho).2.2; clear hb ho) | (go_at_call 49; have hal := (Below.refl w4.heap.size w4).alloc (Nat.le_refl _) (.cells #[.int .u64 a0, .int .u64 a1, .int .u64 a2, .int .u64 a3, .int .u64 a4, .slice Aa a5.length ca, .bool a6] 25); replace HB := Aside0.mk (below_then HB.out HB.out.size hal); replace HRa := Aside0.mk (Kd.C_below HRa.out hal); have Ka := Aside0.mk (blk_new w4 (.cells #[.int .u64 a0, .int .u64 a1, .int .u64 a2, .int .u64 a3, .int .u64 a4, .slice Aa a5.length ca, .bool a6] 25)); clear hal; refine (damsonref10_Get.calls k A0 c0 l id b0 b1 b2 b3 b4 b5 b6 be _ (Kd.C_below HR0.out HB.out) HC0.out HFb.out).mono ?_; rintro e w5 ⟨v, rfl, ho, hb⟩; clear HFb; replace HB := Aside0.mk (below_then HB.out HB.out.size hb); replace HRa := Aside0.mk (Kd.C_below HRa.out hb); replace Ka := Aside0.mk (blk_below Ka.out hb); obtain ⟨Ab, cb, hv⟩ := Kd.R_slice ho; subst hv; have HCb := Aside0.mk (Kd.R_reads' ho).2.1; have HRb := Aside0.mk (Kd.R_reads' ho).2.2; clear hb ho) | (go_at_call 50; have hal := (Below.refl w5.heap.size w5).alloc (Nat.le_refl _) (.cells #[.int .u64 b0, .int .u64 b1, .int .u64 b2, .int .u64 b3, .int .u64 b4, .slice Ab b5.length cb, .bool b6] 25); replace HB := Aside0.mk (below_then HB.out HB.out.size hal); replace HRa := Aside0.mk (Kd.C_below HRa.out hal); replace Ka := Aside0.mk (blk_below Ka.out hal); replace HRb := Aside0.mk (Kd.C_below HRb.out hal); have Kb := Aside0.mk (blk_new w5 (.cells #[.int .u64 b0, .int .u64 b1, .int .u64 b2, .int .u64 b3, .int .u64 b4, .slice Ab b5.length cb, .bool b6] 25)); clear hal; refine (ledger_Where.calls k A0 c0 l hold x0 xe _ (Kd.C_below HR0.out HB.out) HC0.out HFx.out).mono ?_; rintro e w6 ⟨rfl, hb⟩; clear HFx; replace HB := Aside0.mk (below_then HB.out HB.out.size hb); replace HRa := Aside0.mk (Kd.C_below HRa.out hb); replace Ka := Aside0.mk (blk_below Ka.out hb); replace HRb := Aside0.mk (Kd.C_below HRb.out hb); replace Kb := Aside0.mk (blk_below Kb.out hb); clear hb) | (go_at_call 51; refine (damsonref10_Where.calls k A0 c0 l hold y0 ye _ (Kd.C_below HR0.out HB.out) HC0.out HFy.out).mono ?_; rintro e w7 ⟨rfl, hb⟩; clear HFy; replace HB := Aside0.mk (below_then HB.out HB.out.size hb); replace HRa := Aside0.mk (Kd.C_below HRa.out hb); replace Ka := Aside0.mk (blk_below Ka.out hb); replace HRb := Aside0.mk (Kd.C_below HRb.out hb); replace Kb := Aside0.mk (blk_below Kb.out hb); clear hb) | (go_at_call 52; refine (ledger_Ours.calls k A0 c0 l p0 p1 pe _ (Kd.C_below HR0.out HB.out) HC0.out HFp.out).mono ?_; rintro e w8 ⟨rfl, hb⟩; clear HFp; replace HB := Aside0.mk (below_then HB.out HB.out.size hb); replace HRa := Aside0.mk (Kd.C_below HRa.out hb); replace Ka := Aside0.mk (blk_below Ka.out hb); replace HRb := Aside0.mk (Kd.C_below HRb.out hb); replace Kb := Aside0.mk (blk_below Kb.out hb); clear hb) | (go_at_call 53; refine (damsonref10_Ours.calls k A0 c0 l s0 s1 se _ (Kd.C_below HR0.out HB.out) HC0.out HFs.out).mono ?_; rintro e w9 ⟨rfl, hb⟩; clear HFs; replace HB := Aside0.mk (below_then HB.out HB.out.size hb); replace HRa := Aside0.mk (Kd.C_below HRa.out hb); replace Ka := Aside0.mk (blk_below Ka.out hb); replace HRb := Aside0.mk (Kd.C_below HRb.out hb); replace Kb := Aside0.mk (blk_below Kb.out hb); obtain ⟨hy0, hy1, hy2, hy3, hy4, hy5, hy6, hy7, hy8, hy9, hy10, hy11, hy12, hy13⟩ := cz7_ Ka.out; obtain ⟨hz0, hz1, hz2, hz3, hz4, hz5, hz6, hz7, hz8, hz9, hz10, hz11, hz12, hz13⟩ := cz7_ Kb.out; clear hb) | (go_at_call 35; clear hy0 hy1 hy2 hy3 hy4 hy5 hy6 hy7 hy8 hy9 hy10 hy11 hy12 hy13; clear hz0 hz1 hz2 hz3 hz4 hz5 hz6 hz7 hz8 hz9 hz10 hz11 hz12 hz13; refine (damsonref09_Same.calls k a0 a1 a2 a3 a4 Aa ca a5 a6 b0 b1 b2 b3 b4 Ab cb b5 b6 _ _ HRa.out HCa.out HRb.out HCb.out HFt4.out).mono ?_; rintro e w10 ⟨rfl, hb⟩; clear HFt4; replace HB := Aside0.mk (below_then HB.out HB.out.size hb); replace HRa := Aside0.mk (Kd.C_below HRa.out hb); replace Ka := Aside0.mk (blk_below Ka.out hb); replace HRb := Aside0.mk (Kd.C_below HRb.out hb); replace Kb := Aside0.mk (blk_below Kb.out hb); clear hb) | (go_at_call 54; refine (ledger_Check.calls k A0 c0 l c1_ _ (Kd.C_below HR0.out HB.out) HC0.out HFc1_.out).mono ?_; rintro e w11 ⟨rfl, hb⟩; clear HFc1_; replace HB := Aside0.mk (below_then HB.out HB.out.size hb); replace HRa := Aside0.mk (Kd.C_below HRa.out hb); replace Ka := Aside0.mk (blk_below Ka.out hb); replace HRb := Aside0.mk (Kd.C_below HRb.out hb); replace Kb := Aside0.mk (blk_below Kb.out hb); clear hb) | (go_at_call 55; refine (damsonref10_Check.calls k A0 c0 l c2_ _ (Kd.C_below HR0.out HB.out) HC0.out HFc2_.out).mono ?_; rintro e w12 ⟨rfl, hb⟩; clear HFc2_; replace HB := Aside0.mk (below_then HB.out HB.out.size hb); replace HRa := Aside0.mk (Kd.C_below HRa.out hb); replace Ka := Aside0.mk (blk_below Ka.out hb); replace HRb := Aside0.mk (Kd.C_below HRb.out hb); replace Kb := Aside0.mk (blk_below Kb.out hb); clear hb) | (go_at_call 48; refine (ledger_Same.calls k A0 c0 l A1 c1 o m1 _ (Kd.C_below HR0.out HB.out) HC0.out (Kd.C_below HR1.out HB.out) HC1.out HFm1.out).mono ?_; rintro e w13 ⟨rfl, hb⟩; clear HFm1; replace HB := Aside0.mk (below_then HB.out HB.out.size hb); replace HRa := Aside0.mk (Kd.C_below HRa.out hb); replace Ka := Aside0.mk (blk_below Ka.out hb); replace HRb := Aside0.mk (Kd.C_below HRb.out hb); replace Kb := Aside0.mk (blk_below Kb.out hb); clear hb) | (go_at_call 56; refine (damsonref10_Same.calls k A0 c0 l A1 c1 o m2 _ (Kd.C_below HR0.out HB.out) HC0.out (Kd.C_below HR1.out HB.out) HC1.out HFm2.out).mono ?_; rintro e w14 ⟨rfl, hb⟩; clear HFm2; replace HB := Aside0.mk (below_then HB.out HB.out.size hb); replace HRa := Aside0.mk (Kd.C_below HRa.out hb); replace Ka := Aside0.mk (blk_below Ka.out hb); replace HRb := Aside0.mk (Kd.C_below HRb.out hb); replace Kb := Aside0.mk (blk_below Kb.out hb); clear hb))
  go_ret
  exact ⟨rfl, HB.out⟩


/-- THE ONE PURE STATEMENT of damsonlaw10_LedgerTells: yours. -/
def damsonlaw10_LedgerTells.Pure : Prop := ∀ (l0 : List (S25)) (l1 : List (S25)) (a2 : Int) (a3 : Int), (l0.length ≤ 9223372036854775807 ∧ ∀ y_ ∈ l0, G25 y_) → (l1.length ≤ 9223372036854775807 ∧ ∀ y_ ∈ l1, G25 y_) → (Lit.int .u64 a2).wf = true → (Lit.int .u64 a3).wf = true → ∃ k, damsonlaw10_LedgerTells.f k l0 l1 a2 a3 = some true
theorem damsonlaw10_LedgerTells.walk (P : damsonlaw10_LedgerTells.Pure) (w : World) (l0 : List (S25)) (A0 : Option Addr) (c0 : Nat) (hr0 : Kd.C k25 w A0 l0.length l0) (hc0 : l0.length ≤ c0) (g0 : l0.length ≤ 9223372036854775807 ∧ ∀ y_ ∈ l0, G25 y_) (l1 : List (S25)) (A1 : Option Addr) (c1 : Nat) (hr1 : Kd.C k25 w A1 l1.length l1) (hc1 : l1.length ≤ c1) (g1 : l1.length ≤ 9223372036854775807 ∧ ∀ y_ ∈ l1, G25 y_) (a2 : Int) (g2 : (Lit.int .u64 a2).wf = true) (a3 : Int) (g3 : (Lit.int .u64 a3).wf = true) :
    Calls Try.prog 11 #[.slice A0 l0.length c0, .slice A1 l1.length c1, .int .u64 a2, .int .u64 a3] w fun e w' => e = .returned (.bool true) ∧ Below w.heap.size w w' := by
  obtain ⟨k, h⟩ := P l0 l1 a2 a3 g0 g1 g2 g3
  refine (damsonlaw10_LedgerTells.calls k A0 c0 l0 A1 c1 l1 a2 a3 true w hr0 hc0 hr1 hc1 h).mono ?_
  rintro e w' ⟨rfl, hd⟩
  exact ⟨rfl, hd⟩
end Go.Proofs.Ytcfbcoinbecdfaa.P
