-- written by a program of this session (wip/print)
import Derived.Test.YtcfbcoinbecdfaaQLdoesx0
import Derived.Test.YtcfbcoinbecdfaaQLdoesx4
import Derived.Test.YtcfbcoinbecdfaaQLdoesx5
import Derived.Test.YtcfbcoinbecdfaaQLdoesx6
import Derived.Test.YtcfbcoinbecdfaaQLdoesx9
namespace Go.Proofs.Ytcfbcoinbecdfaa.P
open Go.RowKit Go.Proofs.YtcfbcoinbecdfaaW.PrintWords Go.Proofs.YtcfbcoinbecdfaaW.PrintLast Go.Proofs.YtcfbcoinbecdfaaW.PrintMore
attribute [local go_sem] max2_int min2_int max_two min_two max_three min_three max_four min_four run_sub64_   -- for this text's walks alone
set_option linter.unusedVariables false
set_option linter.unusedSimpArgs false

/-! ### damsonref10_Same: function 56 -/
def damsonref10_Same.l0 : Nat → List (S25) → List (S25) → Int → Int → Option (Bool)
 | 0, _, _, _, _ => none
 | k + 1, x0, x1, x12, x13 => if x13 < x12 then (if 0 ≤ x13 then (if x13 < (x0.length : Int) then (if x13 < (x1.length : Int) then ((damsonref09_Same.f k ((rd_T25 x0 x13).f0) ((rd_T25 x0 x13).f1) ((rd_T25 x0 x13).f2) ((rd_T25 x0 x13).f3) ((rd_T25 x0 x13).f4) ((rd_T25 x0 x13).f5) ((rd_T25 x0 x13).f6) ((rd_T25 x1 x13).f0) ((rd_T25 x1 x13).f1) ((rd_T25 x1 x13).f2) ((rd_T25 x1 x13).f3) ((rd_T25 x1 x13).f4) ((rd_T25 x1 x13).f5) ((rd_T25 x1 x13).f6)).bind fun t183 => (if t183 = true then (damsonref10_Same.l0 k x0 x1 x12 (wrap64 (x13 + 1))) else (some false))) else (none)) else (none)) else (none)) else (some true)
def damsonref10_Same.f (k : Nat) (l0 : List (S25)) (l1 : List (S25)) : Option (Bool) := if (l0.length : Int) = (l1.length : Int) then (damsonref10_Same.l0 k l0 l1 (l0.length : Int) 0) else (some false)
theorem damsonref10_Same.mono_l : ∀ k, (∀ y0 y1 y2 y3, LeO (damsonref10_Same.l0 k y0 y1 y2 y3) (damsonref10_Same.l0 (k + 1) y0 y1 y2 y3))
 | 0 => fun _ _ _ _ r h => by simp [damsonref10_Same.l0] at h
 | k + 1 => by
  have ih0 := damsonref10_Same.mono_l k
  ·intro y0 y1 y2 y3
   unfold damsonref10_Same.l0
   repeat' first
   | (with_reducible exact ih0 _ _ _ _)
   | (with_reducible exact damsonref09_Same.mono _ _ _ _ _ _ _ _ _ _ _ _ _ _ _)
   | (with_reducible exact LeO.refl _)
   | (with_reducible refine LeO.ite ?_ ?_)
   | (with_reducible refine LeO.bind ?_ (fun _ => ?_))
   | exact ih0 _ _ _ _
   | exact damsonref09_Same.mono _ _ _ _ _ _ _ _ _ _ _ _ _ _ _
   | exact LeO.none _
   | refine LeO.ite ?_ ?_
   | refine LeO.bind ?_ (fun _ => ?_)
theorem damsonref10_Same.mono : ∀ a0 a1 k, LeO (damsonref10_Same.f k a0 a1) (damsonref10_Same.f (k + 1) a0 a1) := by
 intro a0 a1 k
 have ih0 := damsonref10_Same.mono_l k
 unfold damsonref10_Same.f
 repeat' first
   | (with_reducible exact ih0 _ _ _ _)
   | (with_reducible exact LeO.refl _)
   | (with_reducible refine LeO.ite ?_ ?_)
   | exact ih0 _ _ _ _
   | exact damsonref09_Same.mono _ _ _ _ _ _ _ _ _ _ _ _ _ _ _
   | exact LeO.none _
   | refine LeO.ite ?_ ?_
   | refine LeO.bind ?_ (fun _ => ?_)
def damsonref10_Same.T6 : Bool × List (List Nat × List Nat) := (true, [([], []), ([], []), ([0, 1], [0, 1]), ([2], [2]), ([], []), ([], []), ([4, 5], [4, 5]), ([6], [6]), ([3, 7], [3, 7]), ([8], [8])])
def damsonref10_Same.B6 : List Nat := [0, 0, 3, 7, 0, 0, 48, 112, 255, 511]
theorem damsonref10_Same.tab6 : rtab .any (opsOf Try.f56 6) = damsonref10_Same.T6 := by kernel_rfl
theorem damsonref10_Same.bits6 : waitsOk damsonref10_Same.T6.2 damsonref10_Same.B6 = true := by kernel_rfl
set_option maxHeartbeats 8000000 in
set_option maxRecDepth 100000 in
theorem damsonref10_Same.calls (k : Nat) (A0 : Option Addr) (c0 : Nat) (l0 : List (S25)) (A1 : Option Addr) (c1 : Nat) (l1 : List (S25)) (r : Bool) (w : World) (hr0 : Kd.C k25 w A0 l0.length l0) (hc0 : l0.length ≤ c0) (hr1 : Kd.C k25 w A1 l1.length l1) (hc1 : l1.length ≤ c1) (h : damsonref10_Same.f k l0 l1 = some r) :
  Calls Try.prog 56 #[.slice A0 l0.length c0, .slice A1 l1.length c1] w fun e w' => e = .returned (.bool r) ∧ Below w.heap.size w w' := by
 have hu25 := Try.underlying25
 have HR0 := aM_ hr0
 have HC0 := aM_ hc0
 clear hr0 hc0
 have HR1 := aM_ hr1
 have HC1 := aM_ hc1
 clear hr1 hc1
 have HB := aM_ (Below.refl w.heap.size w)
 have H : (if (l0.length : Int) = (l1.length : Int) then (damsonref10_Same.l0 k l0 l1 (l0.length : Int) 0) else (some false)) = some r := h
 clear h
 by_cases c3 : (l0.length : Int) = (l1.length : Int)
 ·rw [if_pos c3] at H
  have c3b0 : ((l0.length : Int) == (l1.length : Int)) = true := beq_iff_eq.mpr c3
  have c3b1 : ((l0.length : Int) != (l1.length : Int)) = false := bne_eq_false_iff_eq.mpr c3
  have c3b2 : (l0.length == l1.length) = true := by ((simp at c3 ⊢; omega))
  clear c3
  have H' := aM_ H
  clear H
  go_enter Try.func56, Try.ntmps56
  go_wp2
  go_loopg [13] k (fun kq v13 w' => ∃ (x13_1 : Int), v13 = .int .i64 x13_1 ∧ Aside0 (damsonref10_Same.l0 kq l0 l1 (l0.length : Int) x13_1 = some r) ∧ Aside0 (kq ≤ k) ∧ Aside0 (Below w.heap.size w w'))
  case atStart => exact ⟨(0), (by (rfl)), H', ⟨Nat.le_refl _⟩, ⟨by repeat (((with_reducible (exact HB.out))))⟩⟩
  case round =>
   clear H'
   try clear c3b0
   try clear c3b1
   try clear c3b2
   obtain ⟨x13_1, rfl, HA, HK1, HB⟩ := hrel
   cases gk with
   | zero => exact absurd HA.out (by simp [damsonref10_Same.l0])
   | succ k1 =>
    have H := HA.out
    clear HA
    simp only [damsonref10_Same.l0] at H
    by_cases c4 : x13_1 < (l0.length : Int)
    ·rw [if_pos c4] at H
     have c4b0 := decide_eq_true c4
     clear c4
     by_cases c5 : 0 ≤ x13_1
     ·rw [if_pos c5] at H
      have c5b0 := decide_eq_true c5
      clear c5
      by_cases c6 : x13_1 < (l0.length : Int)
      ·rw [if_pos c6] at H
       have c6b0 := decide_eq_true c6
       clear c6
       by_cases c7 : x13_1 < (l1.length : Int)
       ·rw [if_pos c7] at H
        have c7b0 := decide_eq_true c7
        clear c7
        replace H := oB_ H
        obtain ⟨t183, A80, H⟩ := H
        replace H : (if t183 = true then (damsonref10_Same.l0 k1 l0 l1 (l0.length : Int) (wrap64 (x13_1 + 1))) else (some false)) = some r := H
        have A8 := aM_ A80
        clear A80
        by_cases c9 : t183 = true
        ·subst c9
         have H1 : (damsonref10_Same.l0 k1 l0 l1 (l0.length : Int) (wrap64 (x13_1 + 1))) = some r := by rw [if_pos rfl] at H; exact H
         clear H
         have H := H1
         clear H1
         have H' := aM_ H
         clear H
         try go_wp2
         replace HB := aM_ (below_drew1 HB.out)
         have p181 : 0 ≤ (x13_1 : Int) := of_decide_eq_true (by ((with_reducible assumption)))
         have q181 : x13_1 < (l0.length : Int) := of_decide_eq_true (by ((with_reducible assumption)))
         obtain ⟨ad181, A181_5, c181_5, e181, hx181_0, hx181_1, hx181_2, hx181_3, hx181_4, hx181_5, hx181_6, hl181_5, hi181_5⟩ := at_T25 HR0.out x13_1 p181 q181
         have hw181_6 := hx181_6
         have hw181_5 := hx181_5
         have hw181_4 := hx181_4
         have hw181_3 := hx181_3
         have hw181_2 := hx181_2
         have hw181_1 := hx181_1
         have hw181_0 := hx181_0
         cases e181
         replace hx181_0 := cN_ HB hx181_0
         replace hx181_1 := cN_ HB hx181_1
         replace hx181_2 := cN_ HB hx181_2
         replace hx181_3 := cN_ HB hx181_3
         replace hx181_4 := cN_ HB hx181_4
         replace hx181_5 := cN_ HB hx181_5
         replace hx181_6 := cN_ HB hx181_6
         have HR181_5 := aM_ hi181_5
         have HC181_5 := aM_ hl181_5
         clear hi181_5 hl181_5
         replace p181 := eq_true p181
         replace q181 := eq_true q181
         have p182 : 0 ≤ (x13_1 : Int) := of_decide_eq_true (by ((with_reducible assumption)))
         have q182 : x13_1 < (l1.length : Int) := of_decide_eq_true (by ((with_reducible assumption)))
         obtain ⟨ad182, A182_5, c182_5, e182, hx182_0, hx182_1, hx182_2, hx182_3, hx182_4, hx182_5, hx182_6, hl182_5, hi182_5⟩ := at_T25 HR1.out x13_1 p182 q182
         have hw182_6 := hx182_6
         have hw182_5 := hx182_5
         have hw182_4 := hx182_4
         have hw182_3 := hx182_3
         have hw182_2 := hx182_2
         have hw182_1 := hx182_1
         have hw182_0 := hx182_0
         cases e182
         replace hx182_0 := cN_ HB hx182_0
         replace hx182_1 := cN_ HB hx182_1
         replace hx182_2 := cN_ HB hx182_2
         replace hx182_3 := cN_ HB hx182_3
         replace hx182_4 := cN_ HB hx182_4
         replace hx182_5 := cN_ HB hx182_5
         replace hx182_6 := cN_ HB hx182_6
         have HR182_5 := aM_ hi182_5
         have HC182_5 := aM_ hl182_5
         clear hi182_5 hl182_5
         replace p182 := eq_true p182
         replace q182 := eq_true q182
         refine start_ (n := 10) (S := fun w' => w'.cell? (ad181.add ((x13_1).toNat * 7)) = some (.int .u64 ((rd_T25 l0 x13_1).f0)) ∧ w'.cell? ⟨(ad181.add ((x13_1).toNat * 7)).block, (ad181.add ((x13_1).toNat * 7)).off + 1, none⟩ = some (.int .u64 ((rd_T25 l0 x13_1).f1)) ∧ w'.cell? ⟨(ad181.add ((x13_1).toNat * 7)).block, (ad181.add ((x13_1).toNat * 7)).off + 2, none⟩ = some (.int .u64 ((rd_T25 l0 x13_1).f2)) ∧ w'.cell? ⟨(ad181.add ((x13_1).toNat * 7)).block, (ad181.add ((x13_1).toNat * 7)).off + 3, none⟩ = some (.int .u64 ((rd_T25 l0 x13_1).f3)) ∧ w'.cell? ⟨(ad181.add ((x13_1).toNat * 7)).block, (ad181.add ((x13_1).toNat * 7)).off + 4, none⟩ = some (.int .u64 ((rd_T25 l0 x13_1).f4)) ∧ w'.cell? ⟨(ad181.add ((x13_1).toNat * 7)).block, (ad181.add ((x13_1).toNat * 7)).off + 5, none⟩ = some (.slice A181_5 ((rd_T25 l0 x13_1).f5).length c181_5) ∧ w'.cell? ⟨(ad181.add ((x13_1).toNat * 7)).block, (ad181.add ((x13_1).toNat * 7)).off + 6, none⟩ = some (.bool ((rd_T25 l0 x13_1).f6)) ∧ w'.cell? (ad182.add ((x13_1).toNat * 7)) = some (.int .u64 ((rd_T25 l1 x13_1).f0)) ∧ w'.cell? ⟨(ad182.add ((x13_1).toNat * 7)).block, (ad182.add ((x13_1).toNat * 7)).off + 1, none⟩ = some (.int .u64 ((rd_T25 l1 x13_1).f1)) ∧ w'.cell? ⟨(ad182.add ((x13_1).toNat * 7)).block, (ad182.add ((x13_1).toNat * 7)).off + 2, none⟩ = some (.int .u64 ((rd_T25 l1 x13_1).f2)) ∧ w'.cell? ⟨(ad182.add ((x13_1).toNat * 7)).block, (ad182.add ((x13_1).toNat * 7)).off + 3, none⟩ = some (.int .u64 ((rd_T25 l1 x13_1).f3)) ∧ w'.cell? ⟨(ad182.add ((x13_1).toNat * 7)).block, (ad182.add ((x13_1).toNat * 7)).off + 4, none⟩ = some (.int .u64 ((rd_T25 l1 x13_1).f4)) ∧ w'.cell? ⟨(ad182.add ((x13_1).toNat * 7)).block, (ad182.add ((x13_1).toNat * 7)).off + 5, none⟩ = some (.slice A182_5 ((rd_T25 l1 x13_1).f5).length c182_5) ∧ w'.cell? ⟨(ad182.add ((x13_1).toNat * 7)).block, (ad182.add ((x13_1).toNat * 7)).off + 6, none⟩ = some (.bool ((rd_T25 l1 x13_1).f6))) (ds := []) #[false, false, false, false, false, false, false, false, false, false] (by kernel_rfl) rfl rfl ⟨(cN_ HB hw181_0), (cN_ HB hw181_1), (cN_ HB hw181_2), (cN_ HB hw181_3), (cN_ HB hw181_4), (cN_ HB hw181_5), (cN_ HB hw181_6), (cN_ HB hw182_0), (cN_ HB hw182_1), (cN_ HB hw182_2), (cN_ HB hw182_3), (cN_ HB hw182_4), (cN_ HB hw182_5), (cN_ HB hw182_6)⟩ (fun hHeld => ?_); refine with_tabW damsonref10_Same.tab6 damsonref10_Same.bits6 (fun HT_ HW_ => ?_)
         generalize wr.drew = w10 at HB HR181_5 HR182_5 hx181_0 hx181_1 hx181_2 hx181_3 hx181_4 hx181_5 hx181_6 hx182_0 hx182_1 hx182_2 hx182_3 hx182_4 hx182_5 hx182_6 hHeld ⊢
         refine pureA_ 0 16 (bm 10 1) ?_
         refine pureA_ 1 17 (bm 10 3) ?_
         refine pureA_ 2 18 (bm 10 7) ?_
         refine pureA_ 4 20 (bm 10 23) ?_
         refine pureA_ 5 21 (bm 10 55) ?_
         refine pureA_ 6 22 (bm 10 119) ?_
         refine take_ (i := 3) (N := some 19) (v := ?_) (a' := ?_) #[true, true, true, true, true, true, true, false, false, false] rfl rfl (take_ofW HT_.out HW_.out (by kernel_rfl)) (fun _ _ _ h => h) (Or.inl ⟨by rfl, ?_⟩) hHeld ?_ ?_
         rotate_left
         ·rintro w' ⟨s0, s1, s2, s3, s4, s5, s6, s7, s8, s9, s10, s11, s12, s13⟩
          go_simp
          with_reducible rfl
         rotate_left
         ·simp only [Act.put, List.setIfInBounds_toArray, List.set_cons_zero, List.set_cons_succ, i64_w, i32_w]
          rfl
         refine take_ (i := 7) (N := some 23) (v := ?_) (a' := ?_) #[true, true, true, true, true, true, true, true, false, false] rfl rfl (take_ofW HT_.out HW_.out (by kernel_rfl)) (fun _ _ _ h => h) (Or.inl ⟨by rfl, ?_⟩) hHeld ?_ ?_
         rotate_left
         ·rintro w' ⟨s0, s1, s2, s3, s4, s5, s6, s7, s8, s9, s10, s11, s12, s13⟩
          go_simp
          with_reducible rfl
         rotate_left
         ·simp only [Act.put, List.setIfInBounds_toArray, List.set_cons_zero, List.set_cons_succ, i64_w, i32_w]
          rfl
         refine one_ (i := 8) (N := some 24) #[true, true, true, true, true, true, true, true, true, false] rfl rfl (one_of HT_.out (by kernel_rfl)) (by decide) (fun K hK => ?_)
         refine goes_ Try.func35 (by kernel_rfl) rfl #[.agg #[.int .u64 ((rd_T25 l0 x13_1).f0), .int .u64 ((rd_T25 l0 x13_1).f1), .int .u64 ((rd_T25 l0 x13_1).f2), .int .u64 ((rd_T25 l0 x13_1).f3), .int .u64 ((rd_T25 l0 x13_1).f4), .slice A181_5 ((rd_T25 l0 x13_1).f5).length c181_5, .bool ((rd_T25 l0 x13_1).f6)], .agg #[.int .u64 ((rd_T25 l1 x13_1).f0), .int .u64 ((rd_T25 l1 x13_1).f1), .int .u64 ((rd_T25 l1 x13_1).f2), .int .u64 ((rd_T25 l1 x13_1).f3), .int .u64 ((rd_T25 l1 x13_1).f4), .slice A182_5 ((rd_T25 l1 x13_1).f5).length c182_5, .bool ((rd_T25 l1 x13_1).f6)]] (by rfl) rfl rfl (by (try simp only [List.map_toArray, List.map_cons, List.map_nil]); (rfl)) ?_
         with_reducible refine (damsonref09_Same.calls k1 ((rd_T25 l0 x13_1).f0) ((rd_T25 l0 x13_1).f1) ((rd_T25 l0 x13_1).f2) ((rd_T25 l0 x13_1).f3) ((rd_T25 l0 x13_1).f4) _ _ ((rd_T25 l0 x13_1).f5) ((rd_T25 l0 x13_1).f6) ((rd_T25 l1 x13_1).f0) ((rd_T25 l1 x13_1).f1) ((rd_T25 l1 x13_1).f2) ((rd_T25 l1 x13_1).f3) ((rd_T25 l1 x13_1).f4) _ _ ((rd_T25 l1 x13_1).f5) ((rd_T25 l1 x13_1).f6) true _ ?side1 ?side2 ?side3 ?side4 A8.out).mono ?_
         (case side1 => repeat ((exact (Kd.C_below HR181_5.out HB.out))))
         (case side2 => exact HC181_5.out)
         (case side3 => repeat ((exact (Kd.C_below HR182_5.out HB.out))))
         (case side4 => exact HC182_5.out)
         rintro e w11 ⟨rfl, hb⟩
         refine ⟨_, rfl, ?_⟩
         replace HB := bsA_ HB hb
         (try clear hb)
         refine hK.out _ _ ⟨(cN_ HB hw181_0), (cN_ HB hw181_1), (cN_ HB hw181_2), (cN_ HB hw181_3), (cN_ HB hw181_4), (cN_ HB hw181_5), (cN_ HB hw181_6), (cN_ HB hw182_0), (cN_ HB hw182_1), (cN_ HB hw182_2), (cN_ HB hw182_3), (cN_ HB hw182_4), (cN_ HB hw182_5), (cN_ HB hw182_6)⟩ (fun hHeld => ?_)
         clear hK K
         refine norm_ (a' := ?_) ?_ ?_
         rotate_left
         ·show Act.put _ (some 24) _ = _
          simp only [Act.put, List.setIfInBounds_toArray, List.set_cons_zero, List.set_cons_succ, i64_w, i32_w]
          rfl
         refine pureA_ 9 25 (bm 10 1023) ?_
         refine done_ (done_of HT_.out (by kernel_rfl)) ?_
         try go_wp2
         go_roundg k1
         case measure => have := HK1.out; omega
         case rel => exact ⟨(wrap64 (x13_1 + 1)), (by (rfl)), H', ⟨by have := HK1.out; omega⟩, ⟨by repeat (((with_reducible (exact HB.out))))⟩⟩
        ·replace c9 := Bool.eq_false_iff.mpr c9
         subst c9
         have H1 : (some false) = some r := by rw [if_neg (show ¬ (false = true) by decide)] at H; exact H
         clear H
         have H := H1
         clear H1
         obtain rfl := Option.some.inj H
         try go_wp2
         replace HB := aM_ (below_drew1 HB.out)
         have p181 : 0 ≤ (x13_1 : Int) := of_decide_eq_true (by ((with_reducible assumption)))
         have q181 : x13_1 < (l0.length : Int) := of_decide_eq_true (by ((with_reducible assumption)))
         obtain ⟨ad181, A181_5, c181_5, e181, hx181_0, hx181_1, hx181_2, hx181_3, hx181_4, hx181_5, hx181_6, hl181_5, hi181_5⟩ := at_T25 HR0.out x13_1 p181 q181
         have hw181_6 := hx181_6
         have hw181_5 := hx181_5
         have hw181_4 := hx181_4
         have hw181_3 := hx181_3
         have hw181_2 := hx181_2
         have hw181_1 := hx181_1
         have hw181_0 := hx181_0
         cases e181
         replace hx181_0 := cN_ HB hx181_0
         replace hx181_1 := cN_ HB hx181_1
         replace hx181_2 := cN_ HB hx181_2
         replace hx181_3 := cN_ HB hx181_3
         replace hx181_4 := cN_ HB hx181_4
         replace hx181_5 := cN_ HB hx181_5
         replace hx181_6 := cN_ HB hx181_6
         have HR181_5 := aM_ hi181_5
         have HC181_5 := aM_ hl181_5
         clear hi181_5 hl181_5
         replace p181 := eq_true p181
         replace q181 := eq_true q181
         have p182 : 0 ≤ (x13_1 : Int) := of_decide_eq_true (by ((with_reducible assumption)))
         have q182 : x13_1 < (l1.length : Int) := of_decide_eq_true (by ((with_reducible assumption)))
         obtain ⟨ad182, A182_5, c182_5, e182, hx182_0, hx182_1, hx182_2, hx182_3, hx182_4, hx182_5, hx182_6, hl182_5, hi182_5⟩ := at_T25 HR1.out x13_1 p182 q182
         have hw182_6 := hx182_6
         have hw182_5 := hx182_5
         have hw182_4 := hx182_4
         have hw182_3 := hx182_3
         have hw182_2 := hx182_2
         have hw182_1 := hx182_1
         have hw182_0 := hx182_0
         cases e182
         replace hx182_0 := cN_ HB hx182_0
         replace hx182_1 := cN_ HB hx182_1
         replace hx182_2 := cN_ HB hx182_2
         replace hx182_3 := cN_ HB hx182_3
         replace hx182_4 := cN_ HB hx182_4
         replace hx182_5 := cN_ HB hx182_5
         replace hx182_6 := cN_ HB hx182_6
         have HR182_5 := aM_ hi182_5
         have HC182_5 := aM_ hl182_5
         clear hi182_5 hl182_5
         replace p182 := eq_true p182
         replace q182 := eq_true q182
         refine start_ (n := 10) (S := fun w' => w'.cell? (ad181.add ((x13_1).toNat * 7)) = some (.int .u64 ((rd_T25 l0 x13_1).f0)) ∧ w'.cell? ⟨(ad181.add ((x13_1).toNat * 7)).block, (ad181.add ((x13_1).toNat * 7)).off + 1, none⟩ = some (.int .u64 ((rd_T25 l0 x13_1).f1)) ∧ w'.cell? ⟨(ad181.add ((x13_1).toNat * 7)).block, (ad181.add ((x13_1).toNat * 7)).off + 2, none⟩ = some (.int .u64 ((rd_T25 l0 x13_1).f2)) ∧ w'.cell? ⟨(ad181.add ((x13_1).toNat * 7)).block, (ad181.add ((x13_1).toNat * 7)).off + 3, none⟩ = some (.int .u64 ((rd_T25 l0 x13_1).f3)) ∧ w'.cell? ⟨(ad181.add ((x13_1).toNat * 7)).block, (ad181.add ((x13_1).toNat * 7)).off + 4, none⟩ = some (.int .u64 ((rd_T25 l0 x13_1).f4)) ∧ w'.cell? ⟨(ad181.add ((x13_1).toNat * 7)).block, (ad181.add ((x13_1).toNat * 7)).off + 5, none⟩ = some (.slice A181_5 ((rd_T25 l0 x13_1).f5).length c181_5) ∧ w'.cell? ⟨(ad181.add ((x13_1).toNat * 7)).block, (ad181.add ((x13_1).toNat * 7)).off + 6, none⟩ = some (.bool ((rd_T25 l0 x13_1).f6)) ∧ w'.cell? (ad182.add ((x13_1).toNat * 7)) = some (.int .u64 ((rd_T25 l1 x13_1).f0)) ∧ w'.cell? ⟨(ad182.add ((x13_1).toNat * 7)).block, (ad182.add ((x13_1).toNat * 7)).off + 1, none⟩ = some (.int .u64 ((rd_T25 l1 x13_1).f1)) ∧ w'.cell? ⟨(ad182.add ((x13_1).toNat * 7)).block, (ad182.add ((x13_1).toNat * 7)).off + 2, none⟩ = some (.int .u64 ((rd_T25 l1 x13_1).f2)) ∧ w'.cell? ⟨(ad182.add ((x13_1).toNat * 7)).block, (ad182.add ((x13_1).toNat * 7)).off + 3, none⟩ = some (.int .u64 ((rd_T25 l1 x13_1).f3)) ∧ w'.cell? ⟨(ad182.add ((x13_1).toNat * 7)).block, (ad182.add ((x13_1).toNat * 7)).off + 4, none⟩ = some (.int .u64 ((rd_T25 l1 x13_1).f4)) ∧ w'.cell? ⟨(ad182.add ((x13_1).toNat * 7)).block, (ad182.add ((x13_1).toNat * 7)).off + 5, none⟩ = some (.slice A182_5 ((rd_T25 l1 x13_1).f5).length c182_5) ∧ w'.cell? ⟨(ad182.add ((x13_1).toNat * 7)).block, (ad182.add ((x13_1).toNat * 7)).off + 6, none⟩ = some (.bool ((rd_T25 l1 x13_1).f6))) (ds := []) #[false, false, false, false, false, false, false, false, false, false] (by kernel_rfl) rfl rfl ⟨(cN_ HB hw181_0), (cN_ HB hw181_1), (cN_ HB hw181_2), (cN_ HB hw181_3), (cN_ HB hw181_4), (cN_ HB hw181_5), (cN_ HB hw181_6), (cN_ HB hw182_0), (cN_ HB hw182_1), (cN_ HB hw182_2), (cN_ HB hw182_3), (cN_ HB hw182_4), (cN_ HB hw182_5), (cN_ HB hw182_6)⟩ (fun hHeld => ?_); refine with_tabW damsonref10_Same.tab6 damsonref10_Same.bits6 (fun HT_ HW_ => ?_)
         generalize wr.drew = w12 at HB HR181_5 HR182_5 hx181_0 hx181_1 hx181_2 hx181_3 hx181_4 hx181_5 hx181_6 hx182_0 hx182_1 hx182_2 hx182_3 hx182_4 hx182_5 hx182_6 hHeld ⊢
         refine pureA_ 0 16 (bm 10 1) ?_
         refine pureA_ 1 17 (bm 10 3) ?_
         refine pureA_ 2 18 (bm 10 7) ?_
         refine pureA_ 4 20 (bm 10 23) ?_
         refine pureA_ 5 21 (bm 10 55) ?_
         refine pureA_ 6 22 (bm 10 119) ?_
         refine take_ (i := 3) (N := some 19) (v := ?_) (a' := ?_) #[true, true, true, true, true, true, true, false, false, false] rfl rfl (take_ofW HT_.out HW_.out (by kernel_rfl)) (fun _ _ _ h => h) (Or.inl ⟨by rfl, ?_⟩) hHeld ?_ ?_
         rotate_left
         ·rintro w' ⟨s0, s1, s2, s3, s4, s5, s6, s7, s8, s9, s10, s11, s12, s13⟩
          go_simp
          with_reducible rfl
         rotate_left
         ·simp only [Act.put, List.setIfInBounds_toArray, List.set_cons_zero, List.set_cons_succ, i64_w, i32_w]
          rfl
         refine take_ (i := 7) (N := some 23) (v := ?_) (a' := ?_) #[true, true, true, true, true, true, true, true, false, false] rfl rfl (take_ofW HT_.out HW_.out (by kernel_rfl)) (fun _ _ _ h => h) (Or.inl ⟨by rfl, ?_⟩) hHeld ?_ ?_
         rotate_left
         ·rintro w' ⟨s0, s1, s2, s3, s4, s5, s6, s7, s8, s9, s10, s11, s12, s13⟩
          go_simp
          with_reducible rfl
         rotate_left
         ·simp only [Act.put, List.setIfInBounds_toArray, List.set_cons_zero, List.set_cons_succ, i64_w, i32_w]
          rfl
         refine one_ (i := 8) (N := some 24) #[true, true, true, true, true, true, true, true, true, false] rfl rfl (one_of HT_.out (by kernel_rfl)) (by decide) (fun K hK => ?_)
         refine goes_ Try.func35 (by kernel_rfl) rfl #[.agg #[.int .u64 ((rd_T25 l0 x13_1).f0), .int .u64 ((rd_T25 l0 x13_1).f1), .int .u64 ((rd_T25 l0 x13_1).f2), .int .u64 ((rd_T25 l0 x13_1).f3), .int .u64 ((rd_T25 l0 x13_1).f4), .slice A181_5 ((rd_T25 l0 x13_1).f5).length c181_5, .bool ((rd_T25 l0 x13_1).f6)], .agg #[.int .u64 ((rd_T25 l1 x13_1).f0), .int .u64 ((rd_T25 l1 x13_1).f1), .int .u64 ((rd_T25 l1 x13_1).f2), .int .u64 ((rd_T25 l1 x13_1).f3), .int .u64 ((rd_T25 l1 x13_1).f4), .slice A182_5 ((rd_T25 l1 x13_1).f5).length c182_5, .bool ((rd_T25 l1 x13_1).f6)]] (by rfl) rfl rfl (by (try simp only [List.map_toArray, List.map_cons, List.map_nil]); (rfl)) ?_
         with_reducible refine (damsonref09_Same.calls k1 ((rd_T25 l0 x13_1).f0) ((rd_T25 l0 x13_1).f1) ((rd_T25 l0 x13_1).f2) ((rd_T25 l0 x13_1).f3) ((rd_T25 l0 x13_1).f4) _ _ ((rd_T25 l0 x13_1).f5) ((rd_T25 l0 x13_1).f6) ((rd_T25 l1 x13_1).f0) ((rd_T25 l1 x13_1).f1) ((rd_T25 l1 x13_1).f2) ((rd_T25 l1 x13_1).f3) ((rd_T25 l1 x13_1).f4) _ _ ((rd_T25 l1 x13_1).f5) ((rd_T25 l1 x13_1).f6) false _ ?side1 ?side2 ?side3 ?side4 A8.out).mono ?_
         (case side1 => repeat ((exact (Kd.C_below HR181_5.out HB.out))))
         (case side2 => exact HC181_5.out)
         (case side3 => repeat ((exact (Kd.C_below HR182_5.out HB.out))))
         (case side4 => exact HC182_5.out)
         rintro e w13 ⟨rfl, hb⟩
         refine ⟨_, rfl, ?_⟩
         replace HB := bsA_ HB hb
         (try clear hb)
         refine hK.out _ _ ⟨(cN_ HB hw181_0), (cN_ HB hw181_1), (cN_ HB hw181_2), (cN_ HB hw181_3), (cN_ HB hw181_4), (cN_ HB hw181_5), (cN_ HB hw181_6), (cN_ HB hw182_0), (cN_ HB hw182_1), (cN_ HB hw182_2), (cN_ HB hw182_3), (cN_ HB hw182_4), (cN_ HB hw182_5), (cN_ HB hw182_6)⟩ (fun hHeld => ?_)
         clear hK K
         refine norm_ (a' := ?_) ?_ ?_
         rotate_left
         ·show Act.put _ (some 24) _ = _
          simp only [Act.put, List.setIfInBounds_toArray, List.set_cons_zero, List.set_cons_succ, i64_w, i32_w]
          rfl
         refine pureA_ 9 25 (bm 10 1023) ?_
         refine done_ (done_of HT_.out (by kernel_rfl)) ?_
         try go_wp2
         go_ret
         exact ⟨by (rfl), by repeat (((with_reducible (exact HB.out))))⟩
       ·rw [if_neg c7] at H
        exact absurd H (by simp)
      ·rw [if_neg c6] at H
       exact absurd H (by simp)
     ·rw [if_neg c5] at H
      exact absurd H (by simp)
    ·rw [if_neg c4] at H
     have c4b0 := decide_eq_false c4
     clear c4
     obtain rfl := Option.some.inj H
     go_wp2
     go_ret
     exact ⟨by (rfl), by repeat (((with_reducible (exact HB.out))))⟩
 ·rw [if_neg c3] at H
  have c3b0 : ((l0.length : Int) == (l1.length : Int)) = false := beq_eq_false_iff_ne.mpr c3
  have c3b1 : ((l0.length : Int) != (l1.length : Int)) = true := bne_iff_ne.mpr c3
  have c3b2 : (l0.length == l1.length) = false := by ((simp at c3 ⊢; omega))
  obtain rfl := Option.some.inj H
  go_enter Try.func56, Try.ntmps56
  go_wp2
  go_ret
  exact ⟨by (rfl), by repeat (((with_reducible (exact HB.out))))⟩

/-! ### slices_Delete_Hold: function 133 (by hand) -/
def slices_Delete_Hold.f (l0 : List (S44)) (a1 : Int) (a2 : Int) : Option (List (S44)) := if 0 ≤ a1 ∧ a1 < (l0.length : Int) ∧ a2 = wrap64 (a1 + 1) ∧ l0.length ≤ 140737488355328 then (some (l0.eraseIdx a1.toNat)) else (none)
set_option maxHeartbeats 8000000 in
set_option maxRecDepth 100000 in
theorem slices_Delete_Hold.calls (P0_ : Nat → Prop) (u9000_ : Value) (l0 : List (S44)) (a1 : Int) (a2 : Int) (r : List (S44)) (w0 w : World) (hB : Below w0.heap.size w0 w) (ho0 : Kd.R k44 44 w w0.heap.size P0_ u9000_ l0) (h : slices_Delete_Hold.f l0 a1 a2 = some r) :
    Calls Try.prog 133 #[u9000_, .int .i64 a1, .int .i64 a2] w fun e w' => ∃ v0_ : Value, e = .returned (v0_) ∧ Kd.R k44 44 w' w0.heap.size (fun k_ => (P0_ k_ ∨ w.heap.size ≤ k_)) v0_ r ∧ Below w0.heap.size w0 w' ∧ Kept w w' (fun k_ => P0_ k_) := by
  unfold slices_Delete_Hold.f at h
  by_cases hc : 0 ≤ a1 ∧ a1 < (l0.length : Int) ∧ a2 = wrap64 (a1 + 1) ∧ l0.length ≤ 140737488355328
  · rw [if_pos hc] at h
    obtain ⟨c1, c2, c3, c4⟩ := hc
    obtain rfl := Option.some.inj h
    clear h
    obtain ⟨i, rfl⟩ := Int.eq_ofNat_of_zero_le c1
    have hi : i < l0.length := by omega
    have c5 : a2 = (i : Int) + 1 := by rw [c3]; unfold wrap64; omega
    subst c5
    rw [Int.toNat_natCast]
    obtain ⟨i0, hi0, _, hsz0, _⟩ := info_parts info44
    have hsz : Kd.sz k44 = 2 := rfl
    have ho := ho0
    obtain ⟨hb0, in0, hown0, hr0⟩ := ho0
    obtain ⟨n, hn⟩ : ∃ n, n = l0.length := ⟨_, rfl⟩
    rcases hown0 with ⟨hl0, ⟨rfl, h0⟩ | ⟨g, cap, cur, rfl, hgb, hg, hnc, hcm, hcs, hct⟩⟩
    · omega
    · have hA : (if cap = i + 1 then some (⟨g, 0, none⟩ : Addr) else some ⟨g, (i + 1) * 2, none⟩) = if cap = i + 1 then some ⟨g, 0, none⟩ else (some (⟨g, 0, none⟩ : Addr)).map (·.add ((i + 1) * Kd.sz k44)) := by
        split
        · rfl
        · simp [hsz, Addr.add]
      obtain ⟨w1, hrun, hR1, hgr1⟩ := Kd.R_delete_run (P := Try.prog) k44 w0.heap.size 23 23 44 i0 Try.underlying23 hi0 (by rw [hsz0]; rfl) (W := w.drew) (Kd.R_drew ho) hi hA (cap - (i + 1))
      have hR1' := hR1
      obtain ⟨_, in1, hown1, _⟩ := hR1'
      rcases hown1 with ⟨hl1, ⟨e1, _⟩ | ⟨g1, cap1, cur1, e1, hgb1, hg1, hnc1, hcm1, hcs1, hct1⟩⟩
      · cases e1
      injection e1 with e1 _ e2
      injection e1 with e1
      injection e1 with e1
      subst e1; subst e2
      obtain ⟨zs, hzs⟩ : ∃ zs, zs = (Builtin.zeroCells ((.agg #[(.int .u64 0), (.int .u64 0)]) : Value).cells 1).toList := ⟨_, rfl⟩
      have hzl : zs.length = 2 := by rw [hzs]; simp [Builtin.zeroCells, Value.cells]
      have hz1 : ∀ v ∈ zs, v.oneCell' = true := by
        have hall : (Builtin.zeroCells ((.agg #[(.int .u64 0), (.int .u64 0)]) : Value).cells 1).toList.all (fun v => v.oneCell') = true := by simp [Builtin.zeroCells, Value.cells]; decide
        rw [hzs]; exact List.all_eq_true.1 hall
      have hzv : ∀ w, (zeroValue 44).run Try.prog w = .ok ((.agg #[(.int .u64 0), (.int .u64 0)])) w := fun _ => by kernel_rfl
      obtain ⟨cur2, hcur2⟩ : ∃ cur2, cur2 = (cur1.toList.take ((l0.length - 1) * 2) ++ zs ++ cur1.toList.drop ((l0.length - 1) * 2 + zs.length)).toArray := ⟨_, rfl⟩
      rw [hsz] at hcs1
      have hclr : ∀ ty c, (Builtin.clear_ #[23] ty #[.slice (some ⟨g, (l0.length - 1) * 2, none⟩) 1 c]).run Try.prog w1 = .ok (.tuple #[]) (w1.setRow g cur2) := fun ty c => by
        rw [hcur2]
        exact run_clear_rowK w1 23 44 ty _ Try.underlying23 hzv g ((l0.length - 1) * 2) 1 c (by omega) cur1 44 hg1 zs hzs (by rw [hzl, hcs1]; omega) hz1
      have hc2s : cur2.size = cur1.size := by have hq := Array.length_toList (xs := cur1); rw [hcur2]; simp only [List.size_toArray, List.length_append, List.length_take, List.length_drop]; omega
      have hc2t : cur2.toList.take ((l0.length - 1) * Kd.sz k44) = cur1.toList.take ((l0.length - 1) * Kd.sz k44) := by
        rw [hsz, hcur2]
        show List.take _ (List.take _ cur1.toList ++ zs ++ _) = _
        rw [List.append_assoc, List.take_append_of_le_length (by rw [List.length_take, Array.length_toList (xs := cur1)]; omega), List.take_take, Nat.min_self]
      have hR2 := Kd_R_past hR1 hg1 hc2s hc2t
      have hgr : w.grownBy (w1.setRow g cur2) (some g) := grown_trans (show w.grownBy w1 (some g) from ⟨hgr1.os, hgr1.tape, hgr1.output, hgr1.size, hgr1.block⟩) (grown_setRow w1 g cur2)
      have hBf : Below w0.heap.size w0 (w1.setRow g cur2) := hB.grown hgr hB.size (fun k hk => by injection hk with hk; omega)
      have hKf : Kept w (w1.setRow g cur2) (fun k_ => P0_ k_) := Kept.of_grown (S := fun k_ => P0_ k_) hgr (Kept.refl w _) (fun k_ e_ => .inl (hb0 k_ e_))
      have hRf := Kd.R_mono (ok' := fun k_ => P0_ k_ ∨ w.heap.size ≤ k_) hR2 (fun k_ hk => .inl hk)
      rw [← hn] at hi hnc hrun hclr hRf ⊢
      unfold maxLen at hcm
      have q1 : (0 : Int) ≤ (i : Int) := by omega
      have q2 : (0 : Int) ≤ (i : Int) + 1 := by omega
      have q3 : (i : Int) + 1 ≤ (n : Int) := by omega
      have q4 : (i : Int) ≤ (i : Int) + 1 := by omega
      have q5 : (i : Int) ≤ (n : Int) := by omega
      have q6 : ((i : Int) + 1).toNat = i + 1 := by omega
      have q7 : ¬ ((i : Int) = (i : Int) + 1) := by omega
      have q8 : ¬ (cap = n - 1) := by omega
      have q9 : ¬ (n = i) := by omega
      have q10 : n - (n - 1) = 1 := by omega
      have q11 : (i : Int) ≤ (cap : Int) := by omega
      have q12 : ((n - 1 : Nat) : Int) ≤ (n : Int) := by omega
      have q13 : (n : Int) ≤ (cap : Int) := by omega
      have q14 : i ≤ n := by omega
      clear hcur2 hc2s hc2t hR2 hgr hR1 hgr1 hg1 hcs1 hct1 hl1 hzs hzl hz1 hg hcs hct hl0 hr0 ho hb0 c1 c2 c3 c4 hn hA
      by_cases q15 : cap = i + 1
      · subst q15
        have q16 : n - (i + 1) = 0 := by omega
        go_enter Try.func133, Try.ntmps133
        go_wp2
        go_region_law (refine step_append_run rfl _ _ 23 23 rfl _ _ (by simp [Act.eval, Act.put, q16]) (by simp [Act.eval, Act.put, q16]) (hrun) ?_)
        go_wp2_with (at_builtin; refine wpList_clear_run _ rfl _ 23 rfl _ rfl (hclr _ _) ?_)
        go_ret
        exact ⟨_, rfl, hRf, hBf, hKf⟩
      · skip
        go_enter Try.func133, Try.ntmps133
        go_wp2
        go_region_law (refine step_append_run rfl _ _ 23 23 rfl _ _ (by simp [Act.eval, Act.put, q15]) (by simp [Act.eval, Act.put, q15]) (hrun) ?_)
        go_wp2_with (at_builtin; refine wpList_clear_run _ rfl _ 23 rfl _ rfl (hclr _ _) ?_)
        go_ret
        exact ⟨_, rfl, hRf, hBf, hKf⟩
  · rw [if_neg hc] at h
    exact absurd h (by simp)

-- NOT PRINTED: function 90 (channel_end)

/-! ### channel_Fail_1: function 91 (by hand) -/
def channel_Fail_1.f : Option (Unit) := some ()
theorem channel_Fail_1.calls {g : Nat} (w : World) (h : channel_Fail_1.f = some ()) :
    Calls Try.prog 91 #[.pointer (some ⟨g, 0, none⟩)] w fun e w' => e = .returned (.pointer (some ⟨g, 1, none⟩)) ∧ Drawn0 w w' := by
  go_enter Try.func91, Try.ntmps91
  go_wp2
  go_ret
  exact ⟨rfl, 0, rfl⟩

/-! ### channel_end_at_channel_Fail_1: function 165 -/
def channel_end_at_channel_Fail_1.f (k : Nat) (a0_0 : Int) (a0_1 : Int) (a0_2 : Int) (a0_3 : Int) (a0_4 : Int) (l0_5 : List (S44)) (a0_6 : Bool) (a1 : Int)  : Option (Int × Int × Int × Int × Int × (List (S44)) × Bool × Int × Int) := (channel_Check.f k a0_0 a0_1 a0_2 a0_3 a0_4 l0_5 a0_6).bind fun t186 => (if t186 = 0 then ((slices_BinarySearchFunc_uint64_at_channel_order.f k l0_5 a1).bind fun bt187 => (if bt187.2 = true then (if 0 ≤ bt187.1 then (if bt187.1 < (l0_5.length : Int) then ((slices_Clone_Hold.f l0_5).bind fun t190 => ((slices_Delete_Hold.f t190 bt187.1 (wrap64 (bt187.1 + 1))).bind fun t193 => ((channel_Fail_1.f).bind fun _ => (some (a0_0, IntKind.u64.wrap (a0_1 + ((rd_T44 l0_5 bt187.1).f1)), a0_2, a0_3, a0_4, t193, a0_6, (rd_T44 l0_5 bt187.1).f1, 0))))) else (none)) else (none)) else (some (0, 0, 0, 0, 0, ([] : List (S44)), false, 0, 5)))) else (some (0, 0, 0, 0, 0, ([] : List (S44)), false, 0, t186)))
theorem channel_end_at_channel_Fail_1.mono : ∀ a0 a1 a2 a3 a4 a5 a6 a7 k, LeO (channel_end_at_channel_Fail_1.f k a0 a1 a2 a3 a4 a5 a6 a7) (channel_end_at_channel_Fail_1.f (k + 1) a0 a1 a2 a3 a4 a5 a6 a7) := by
 intro a0 a1 a2 a3 a4 a5 a6 a7 k
 unfold channel_end_at_channel_Fail_1.f
 repeat' first
   | (with_reducible exact channel_Check.mono _ _ _ _ _ _ _ _)
   | (with_reducible exact slices_BinarySearchFunc_uint64_at_channel_order.mono _ _ _)
   | (with_reducible exact LeO.refl _)
   | (with_reducible refine LeO.ite ?_ ?_)
   | (with_reducible refine LeO.bind ?_ (fun _ => ?_))
   | exact channel_Check.mono _ _ _ _ _ _ _ _
   | exact slices_BinarySearchFunc_uint64_at_channel_order.mono _ _ _
   | exact LeO.none _
   | refine LeO.ite ?_ ?_
   | refine LeO.bind ?_ (fun _ => ?_)
set_option maxHeartbeats 8000000 in
set_option maxRecDepth 100000 in
theorem channel_end_at_channel_Fail_1.calls (k : Nat) (a0_0 : Int) (a0_1 : Int) (a0_2 : Int) (a0_3 : Int) (a0_4 : Int) (A0_5 : Option Addr) (c0_5 : Nat) (l0_5 : List (S44)) (a0_6 : Bool) (a1 : Int)  (r1 : Int) (r2 : Int) (r3 : Int) (r4 : Int) (r5 : Int) (r6 : List (S44)) (r7 : Bool) (r8 : Int) (r9 : Int) (w : World) (hr0_5 : Kd.C k44 w A0_5 l0_5.length l0_5) (hc0_5 : l0_5.length ≤ c0_5) (h : channel_end_at_channel_Fail_1.f k a0_0 a0_1 a0_2 a0_3 a0_4 l0_5 a0_6 a1 = some (r1, r2, r3, r4, r5, r6, r7, r8, r9)) :
  Calls Try.prog 90 #[.agg #[.int .u64 a0_0, .int .u64 a0_1, .int .u64 a0_2, .int .u64 a0_3, .int .u64 a0_4, .slice A0_5 l0_5.length c0_5, .bool a0_6], .int .u64 a1, .func (.func 91) #[] #[]] w fun e w' => ∃ v5_ : Value, e = .returned (.tuple #[.agg #[.int .u64 r1, .int .u64 r2, .int .u64 r3, .int .u64 r4, .int .u64 r5, v5_, .bool r7], .int .u64 r8, .int .i64 r9]) ∧ Kd.R k44 44 w' w.heap.size (fun _ => True) v5_ r6 ∧ Below w.heap.size w w' := by
 have hu25 := Try.underlying25
 have HR0_5 := aM_ hr0_5
 have HC0_5 := aM_ hc0_5
 clear hr0_5 hc0_5
 have HB := aM_ (Below.refl w.heap.size w)
 have H : ((channel_Check.f k a0_0 a0_1 a0_2 a0_3 a0_4 l0_5 a0_6).bind fun t186 => (if t186 = 0 then ((slices_BinarySearchFunc_uint64_at_channel_order.f k l0_5 a1).bind fun bt187 => (if bt187.2 = true then (if 0 ≤ bt187.1 then (if bt187.1 < (l0_5.length : Int) then ((slices_Clone_Hold.f l0_5).bind fun t190 => ((slices_Delete_Hold.f t190 bt187.1 (wrap64 (bt187.1 + 1))).bind fun t193 => ((channel_Fail_1.f).bind fun _ => (some (a0_0, IntKind.u64.wrap (a0_1 + ((rd_T44 l0_5 bt187.1).f1)), a0_2, a0_3, a0_4, t193, a0_6, (rd_T44 l0_5 bt187.1).f1, 0))))) else (none)) else (none)) else (some (0, 0, 0, 0, 0, ([] : List (S44)), false, 0, 5)))) else (some (0, 0, 0, 0, 0, ([] : List (S44)), false, 0, t186)))) = some (r1, r2, r3, r4, r5, r6, r7, r8, r9) := h
 clear h
 replace H := oB_ H
 obtain ⟨t186, A40, H⟩ := H
 replace H : (if t186 = 0 then ((slices_BinarySearchFunc_uint64_at_channel_order.f k l0_5 a1).bind fun bt187 => (if bt187.2 = true then (if 0 ≤ bt187.1 then (if bt187.1 < (l0_5.length : Int) then ((slices_Clone_Hold.f l0_5).bind fun t190 => ((slices_Delete_Hold.f t190 bt187.1 (wrap64 (bt187.1 + 1))).bind fun t193 => ((channel_Fail_1.f).bind fun _ => (some (a0_0, IntKind.u64.wrap (a0_1 + ((rd_T44 l0_5 bt187.1).f1)), a0_2, a0_3, a0_4, t193, a0_6, (rd_T44 l0_5 bt187.1).f1, 0))))) else (none)) else (none)) else (some (0, 0, 0, 0, 0, ([] : List (S44)), false, 0, 5)))) else (some (0, 0, 0, 0, 0, ([] : List (S44)), false, 0, t186))) = some (r1, r2, r3, r4, r5, r6, r7, r8, r9) := H
 have A4 := aM_ A40
 clear A40
 by_cases c5 : t186 = 0
 ·rw [if_pos c5] at H
  have c5b0 : (t186 == 0) = true := beq_iff_eq.mpr c5
  have c5b1 : (t186 != 0) = false := bne_eq_false_iff_eq.mpr c5
  clear c5
  replace H := oB_ H
  obtain ⟨⟨t187, t188⟩, A60, H⟩ := H
  replace H : (if t188 = true then (if 0 ≤ t187 then (if t187 < (l0_5.length : Int) then ((slices_Clone_Hold.f l0_5).bind fun t190 => ((slices_Delete_Hold.f t190 t187 (wrap64 (t187 + 1))).bind fun t193 => ((channel_Fail_1.f).bind fun _ => (some (a0_0, IntKind.u64.wrap (a0_1 + ((rd_T44 l0_5 t187).f1)), a0_2, a0_3, a0_4, t193, a0_6, (rd_T44 l0_5 t187).f1, 0))))) else (none)) else (none)) else (some (0, 0, 0, 0, 0, ([] : List (S44)), false, 0, 5))) = some (r1, r2, r3, r4, r5, r6, r7, r8, r9) := H
  have A6 := aM_ A60
  clear A60
  by_cases c7 : t188 = true
  ·subst c7
   have H1 : (if 0 ≤ t187 then (if t187 < (l0_5.length : Int) then ((slices_Clone_Hold.f l0_5).bind fun t190 => ((slices_Delete_Hold.f t190 t187 (wrap64 (t187 + 1))).bind fun t193 => ((channel_Fail_1.f).bind fun _ => (some (a0_0, IntKind.u64.wrap (a0_1 + ((rd_T44 l0_5 t187).f1)), a0_2, a0_3, a0_4, t193, a0_6, (rd_T44 l0_5 t187).f1, 0))))) else (none)) else (none)) = some (r1, r2, r3, r4, r5, r6, r7, r8, r9) := by rw [if_pos rfl] at H; exact H
   clear H
   have H := H1
   clear H1
   by_cases c8 : 0 ≤ t187
   ·rw [if_pos c8] at H
    have c8b0 := decide_eq_true c8
    clear c8
    by_cases c9 : t187 < (l0_5.length : Int)
    ·rw [if_pos c9] at H
     have c9b0 := decide_eq_true c9
     clear c9
     replace H := oB_ H
     obtain ⟨t190, A100, H⟩ := H
     replace H : ((slices_Delete_Hold.f t190 t187 (wrap64 (t187 + 1))).bind fun t193 => ((channel_Fail_1.f).bind fun _ => (some (a0_0, IntKind.u64.wrap (a0_1 + ((rd_T44 l0_5 t187).f1)), a0_2, a0_3, a0_4, t193, a0_6, (rd_T44 l0_5 t187).f1, 0)))) = some (r1, r2, r3, r4, r5, r6, r7, r8, r9) := H
     have A10 := aM_ A100
     clear A100
     replace H := oB_ H
     obtain ⟨t193, A110, H⟩ := H
     replace H : ((channel_Fail_1.f).bind fun _ => (some (a0_0, IntKind.u64.wrap (a0_1 + ((rd_T44 l0_5 t187).f1)), a0_2, a0_3, a0_4, t193, a0_6, (rd_T44 l0_5 t187).f1, 0))) = some (r1, r2, r3, r4, r5, r6, r7, r8, r9) := H
     have A11 := aM_ A110
     clear A110
     replace H := oB_ H
     obtain ⟨_, A120, H⟩ := H
     replace H : (some (a0_0, IntKind.u64.wrap (a0_1 + ((rd_T44 l0_5 t187).f1)), a0_2, a0_3, a0_4, t193, a0_6, (rd_T44 l0_5 t187).f1, 0)) = some (r1, r2, r3, r4, r5, r6, r7, r8, r9) := H
     have A12 := aM_ A120
     clear A120
     simp only [Option.some.injEq, Prod.mk.injEq] at H
     obtain ⟨rfl, rfl, rfl, rfl, rfl, rfl, rfl, rfl, rfl⟩ := H
     go_enter Try.func90, Try.ntmps90
     go_wp2_with (first | ((with_reducible refine gate_dst (N := 3) rfl ?_); refine box_event ?hg (N := 3) ?hd (cs := #[.int .u64 a0_0, .int .u64 a0_1, .int .u64 a0_2, .int .u64 a0_3, .int .u64 a0_4, .slice A0_5 l0_5.length c0_5, .bool a0_6]) (t := 25) ?hr ?_; (case hd => rfl); (case hg => rfl); (case hr => ((go_simp; done))); intro gb184 hg w13 hbox hb; have BK184 := aM_ (hbox); have GW184 := aM_ (geN HB hg); have GE184 := aM_ (geN HB hg); replace HB := bsA_ HB hb; clear hb hbox hg) | ((with_reducible refine gate_dst (N := 6) rfl ?_); refine box_event ?hg (N := 6) ?hd (cs := #[.int .u64 0, .int .u64 0, .int .u64 0, .int .u64 0, .int .u64 0, .slice none 0 0, .bool false]) (t := 25) ?hr ?_; (case hd => rfl); (case hg => rfl); (case hr => ((go_simp; done))); intro gb185 hg w14 hbox hb; have BK185 := aM_ (hbox); have GW185 := aM_ (geN HB hg); have GE185 := aM_ (geN HB hg); replace HB := bsA_ HB hb; have NB184_185 := aM_ (neN BK184 hg); have NB185_184 := aM_ (neN' BK184 hg); replace BK184 := bbA_ BK184 hb; clear hb hbox hg; have hnb15 := NB184_185.out; have hnc15 := NB185_184.out; obtain ⟨hcz16_0, hcz16_1, hcz16_2, hcz16_3, hcz16_4, hcz16_5, hcz16_6, hfz16_0, hfz16_1, hfz16_2, hfz16_3, hfz16_4, hfz16_5, hfz16_6⟩ := cz7_ (w := w14) BK184.out) | ((with_reducible refine gate_callee (f := 33) rfl ?_); refine gL_ 14 Try.func33 #[.agg #[.int .u64 a0_0, .int .u64 a0_1, .int .u64 a0_2, .int .u64 a0_3, .int .u64 a0_4, .slice A0_5 l0_5.length c0_5, .bool a0_6]] ?_; (with_reducible refine (channel_Check.calls k a0_0 a0_1 a0_2 a0_3 a0_4 _ _ l0_5 a0_6 t186 _ ?side1 ?side2 A4.out).mono ?_); (case side1 => repeat ((exact (Kd.C_below HR0_5.out HB.out)))); (case side2 => exact HC0_5.out); rintro e w17 ⟨rfl, hb⟩; refine ⟨_, rfl, ?_⟩; replace BK184 := bbA_ BK184 hb; replace BK185 := bbA_ BK185 hb; replace HB := bsA_ HB hb; (try clear hb); obtain ⟨hcz18_0, hcz18_1, hcz18_2, hcz18_3, hcz18_4, hcz18_5, hcz18_6, hfz18_0, hfz18_1, hfz18_2, hfz18_3, hfz18_4, hfz18_5, hfz18_6⟩ := cz7_ (w := w17) BK184.out) | ((with_reducible refine gate_callee (f := 85) rfl ?_); refine gL_ 23 Try.func85 #[.slice A0_5 l0_5.length c0_5, .int .u64 a1, .func (.func 86) #[] #[]] ?_; (with_reducible refine (slices_BinarySearchFunc_uint64_at_channel_order.calls k _ _ l0_5 a1  t187 true _ ?side1 ?side2 A6.out).mono ?_); (case side1 => repeat ((exact (Kd.C_below HR0_5.out HB.out)))); (case side2 => exact HC0_5.out); rintro e w19 ⟨rfl, hb⟩; refine ⟨_, rfl, ?_⟩; replace BK184 := bbA_ BK184 hb; replace BK185 := bbA_ BK185 hb; replace HB := bsA_ HB hb; (try clear hb); obtain ⟨hcz20_0, hcz20_1, hcz20_2, hcz20_3, hcz20_4, hcz20_5, hcz20_6, hfz20_0, hfz20_1, hfz20_2, hfz20_3, hfz20_4, hfz20_5, hfz20_6⟩ := cz7_ (w := w19) BK184.out; have p189 : 0 ≤ (t187 : Int) := of_decide_eq_true (by ((with_reducible assumption))); have q189 : t187 < (l0_5.length : Int) := of_decide_eq_true (by ((with_reducible assumption))); obtain ⟨ad189, e189, hx189_0, hx189_1⟩ := at_T44 HR0_5.out t187 p189 q189; cases e189; replace hx189_0 := cN_ HB hx189_0; replace hx189_1 := cN_ HB hx189_1; replace p189 := eq_true p189; replace q189 := eq_true q189) | ((with_reducible refine gate_callee (f := 89) rfl ?_); refine gL_ 37 Try.func89 #[.slice (some ad189) l0_5.length c0_5] ?_; (with_reducible refine (slices_Clone_Hold.calls _ _ l0_5 t190 _ ?side1 ?side2 A10.out).mono ?_); (case side1 => repeat ((exact (Kd.C_below HR0_5.out HB.out)))); (case side2 => exact HC0_5.out); rintro e w21 ⟨v191, rfl, ho0, hb⟩; refine ⟨_, rfl, ?_⟩; have HO192 := aM_ (Kd.R_lower ho0 (below_size (belN HB))); replace BK184 := bbA_ BK184 hb; replace BK185 := bbA_ BK185 hb; replace HB := bsA_ HB hb; (try clear hb); (try clear ho0); obtain ⟨Ao22, co22, eo22⟩ := Kd.R_slice HO192.out; subst eo22) | ((with_reducible refine gate_callee (f := 133) rfl ?_); refine gL_ 41 Try.func133 #[.slice Ao22 t190.length co22, .int .i64 t187, .int .i64 (wrap64 (t187 + 1))] ?_; (with_reducible refine (slices_Delete_Hold.calls (fun k_ => some k_ = (.slice Ao22 t190.length co22 : Value).ownBlock) (.slice Ao22 t190.length co22) t190 t187 (wrap64 (t187 + 1)) t193 w _ ?side1 ?side2 A11.out).mono ?_); (case side1 => repeat (((with_reducible (exact HB.out))))); (case side2 => exact Kd.R_tight rfl HO192.out); rintro e w23 ⟨v194, rfl, ho0, hb, hkp⟩; refine ⟨_, rfl, ?_⟩; replace BK184 := aM_ (blk_kept (blkN BK184) hkp (fun hs_ => (fun e_ => (Kd.R_ne HO192.out BK184.out (by decide)) e_) hs_)); replace BK185 := aM_ (blk_kept (blkN BK185) hkp (fun hs_ => (fun e_ => (Kd.R_ne HO192.out BK185.out (by decide)) e_) hs_)); have HO195 := aM_ (Kd.R_mono (ok' := fun k_ => True) ho0 (fun k_ hk_ => trivial)); replace HB := aM_ (hb); clear HO192; (try clear hb); (try clear hkp); (try clear ho0); obtain ⟨Ao24, co24, eo24⟩ := Kd.R_slice HO195.out; subst eo24; obtain ⟨hcz25_0, hcz25_1, hcz25_2, hcz25_3, hcz25_4, hcz25_5, hcz25_6, hfz25_0, hfz25_1, hfz25_2, hfz25_3, hfz25_4, hfz25_5, hfz25_6⟩ := cz7_ (w := w23) BK184.out) | ((with_reducible refine gate_tmp (t_ := 43) rfl ?_); refine goesT_ (some 44) rfl rfl Try.func91 (by kernel_rfl) rfl #[.pointer (some ⟨gb184, 0, none⟩)] rfl rfl (by (try simp only [List.map_toArray, List.map_cons, List.map_nil]); (rfl)) ?_; (with_reducible refine (channel_Fail_1.calls   _ A12.out).mono ?_); rintro e w' ⟨rfl, ⟨nd, rfl⟩⟩; refine ⟨_, rfl, ?_⟩; obtain ⟨hcz26_0, hcz26_1, hcz26_2, hcz26_3, hcz26_4, hcz26_5, hcz26_6, hfz26_0, hfz26_1, hfz26_2, hfz26_3, hfz26_4, hfz26_5, hfz26_6⟩ := cz7_ (w := w23) BK185.out))
     refine bodyPost_ret (results_ctt rfl _ _ gb185 25 #[.int .u64 a0_0, .int .u64 (IntKind.u64.wrap (a0_1 + ((rd_T44 l0_5 t187).f1))), .int .u64 a0_2, .int .u64 a0_3, .int .u64 a0_4, .slice Ao24 t193.length co24, .bool a0_6] (0, 0) _ rfl (by apply bp7_; refine blk_far ?_ NB185_184.out _; (with_reducible repeat ((refine blk_drewN ?_ _))); refine blk_far ?_ NB185_184.out _; exact BK185.out) Try.underlying25 rfl (by kernel_rfl)) rfl ?_
     exact ⟨_, by (rfl), by exact Kd.R_mono (Kd.R_far (p := ⟨gb185, 6, none⟩) (Kd.R_far (p := ⟨gb185, 5, none⟩) (Kd.R_far (p := ⟨gb185, 4, none⟩) (Kd.R_far (p := ⟨gb185, 3, none⟩) (Kd.R_far (p := ⟨gb185, 2, none⟩) (Kd.R_far (p := ⟨gb185, 1, none⟩) (Kd.R_far (p := ⟨gb185, 0, none⟩) (Kd.R_far (p := ⟨gb184, 1, none⟩) (Kd.R_far (p := ⟨gb184, 5, none⟩) (Kd.R_types (Kd.R_types HO195.out BK184.out (by decide)) BK185.out (by decide)) (fun _ hk => hk.1.2) (.slice Ao24 t193.length co24)) (fun _ hk => hk.1.2) (.int .u64 (IntKind.u64.wrap (a0_1 + ((rd_T44 l0_5 t187).f1))))) (fun _ hk => hk.2) (.int .u64 a0_0)) (fun _ hk => hk.2) (.int .u64 (IntKind.u64.wrap (a0_1 + ((rd_T44 l0_5 t187).f1))))) (fun _ hk => hk.2) (.int .u64 a0_2)) (fun _ hk => hk.2) (.int .u64 a0_3)) (fun _ hk => hk.2) (.int .u64 a0_4)) (fun _ hk => hk.2) (.slice Ao24 t193.length co24)) (fun _ hk => hk.2) (.bool a0_6)) (fun _ hk => trivial), by repeat (((with_reducible first | exact HB.out | apply pw_below_drewN | refine below_set ?_ GE184.out | refine below_set ?_ GE185.out)))⟩
    ·rw [if_neg c9] at H
     exact absurd H (by simp)
   ·rw [if_neg c8] at H
    exact absurd H (by simp)
  ·replace c7 := Bool.eq_false_iff.mpr c7
   subst c7
   have H1 : (some (0, 0, 0, 0, 0, ([] : List (S44)), false, 0, 5)) = some (r1, r2, r3, r4, r5, r6, r7, r8, r9) := by rw [if_neg (show ¬ (false = true) by decide)] at H; exact H
   clear H
   have H := H1
   clear H1
   simp only [Option.some.injEq, Prod.mk.injEq] at H
   obtain ⟨rfl, rfl, rfl, rfl, rfl, rfl, rfl, rfl, rfl⟩ := H
   go_enter Try.func90, Try.ntmps90
   go_wp2_with (first | ((with_reducible refine gate_dst (N := 3) rfl ?_); refine box_event ?hg (N := 3) ?hd (cs := #[.int .u64 a0_0, .int .u64 a0_1, .int .u64 a0_2, .int .u64 a0_3, .int .u64 a0_4, .slice A0_5 l0_5.length c0_5, .bool a0_6]) (t := 25) ?hr ?_; (case hd => rfl); (case hg => rfl); (case hr => ((go_simp; done))); intro gb184 hg w27 hbox hb; have BK184 := aM_ (hbox); have GW184 := aM_ (geN HB hg); have GE184 := aM_ (geN HB hg); replace HB := bsA_ HB hb; clear hb hbox hg) | ((with_reducible refine gate_dst (N := 6) rfl ?_); refine box_event ?hg (N := 6) ?hd (cs := #[.int .u64 0, .int .u64 0, .int .u64 0, .int .u64 0, .int .u64 0, .slice none 0 0, .bool false]) (t := 25) ?hr ?_; (case hd => rfl); (case hg => rfl); (case hr => ((go_simp; done))); intro gb185 hg w28 hbox hb; have BK185 := aM_ (hbox); have GW185 := aM_ (geN HB hg); have GE185 := aM_ (geN HB hg); replace HB := bsA_ HB hb; have NB184_185 := aM_ (neN BK184 hg); have NB185_184 := aM_ (neN' BK184 hg); replace BK184 := bbA_ BK184 hb; clear hb hbox hg; have hnb29 := NB184_185.out; have hnc29 := NB185_184.out; obtain ⟨hcz30_0, hcz30_1, hcz30_2, hcz30_3, hcz30_4, hcz30_5, hcz30_6, hfz30_0, hfz30_1, hfz30_2, hfz30_3, hfz30_4, hfz30_5, hfz30_6⟩ := cz7_ (w := w28) BK184.out) | ((with_reducible refine gate_callee (f := 33) rfl ?_); refine gL_ 14 Try.func33 #[.agg #[.int .u64 a0_0, .int .u64 a0_1, .int .u64 a0_2, .int .u64 a0_3, .int .u64 a0_4, .slice A0_5 l0_5.length c0_5, .bool a0_6]] ?_; (with_reducible refine (channel_Check.calls k a0_0 a0_1 a0_2 a0_3 a0_4 _ _ l0_5 a0_6 t186 _ ?side1 ?side2 A4.out).mono ?_); (case side1 => repeat ((exact (Kd.C_below HR0_5.out HB.out)))); (case side2 => exact HC0_5.out); rintro e w31 ⟨rfl, hb⟩; refine ⟨_, rfl, ?_⟩; replace BK184 := bbA_ BK184 hb; replace BK185 := bbA_ BK185 hb; replace HB := bsA_ HB hb; (try clear hb); obtain ⟨hcz32_0, hcz32_1, hcz32_2, hcz32_3, hcz32_4, hcz32_5, hcz32_6, hfz32_0, hfz32_1, hfz32_2, hfz32_3, hfz32_4, hfz32_5, hfz32_6⟩ := cz7_ (w := w31) BK184.out) | ((with_reducible refine gate_callee (f := 85) rfl ?_); refine gL_ 23 Try.func85 #[.slice A0_5 l0_5.length c0_5, .int .u64 a1, .func (.func 86) #[] #[]] ?_; (with_reducible refine (slices_BinarySearchFunc_uint64_at_channel_order.calls k _ _ l0_5 a1  t187 false _ ?side1 ?side2 A6.out).mono ?_); (case side1 => repeat ((exact (Kd.C_below HR0_5.out HB.out)))); (case side2 => exact HC0_5.out); rintro e w33 ⟨rfl, hb⟩; refine ⟨_, rfl, ?_⟩; replace BK184 := bbA_ BK184 hb; replace BK185 := bbA_ BK185 hb; replace HB := bsA_ HB hb; (try clear hb); obtain ⟨hcz34_0, hcz34_1, hcz34_2, hcz34_3, hcz34_4, hcz34_5, hcz34_6, hfz34_0, hfz34_1, hfz34_2, hfz34_3, hfz34_4, hfz34_5, hfz34_6⟩ := cz7_ (w := w33) BK185.out))
   refine bodyPost_ret (results_ctt rfl _ _ gb185 25 #[.int .u64 0, .int .u64 0, .int .u64 0, .int .u64 0, .int .u64 0, .slice none 0 0, .bool false] (0, 0) _ rfl (by apply bp7_; exact BK185.out) Try.underlying25 rfl (by kernel_rfl)) rfl ?_
   exact ⟨_, by (rfl), by (exact Kd.R_nil _ _ _ _ _), by repeat (((with_reducible first | exact HB.out | refine below_set ?_ GE185.out)))⟩
 ·rw [if_neg c5] at H
  have c5b0 : (t186 == 0) = false := beq_eq_false_iff_ne.mpr c5
  have c5b1 : (t186 != 0) = true := bne_iff_ne.mpr c5
  simp only [Option.some.injEq, Prod.mk.injEq] at H
  obtain ⟨rfl, rfl, rfl, rfl, rfl, rfl, rfl, rfl, rfl⟩ := H
  go_enter Try.func90, Try.ntmps90
  go_wp2_with (first | ((with_reducible refine gate_dst (N := 3) rfl ?_); refine box_event ?hg (N := 3) ?hd (cs := #[.int .u64 a0_0, .int .u64 a0_1, .int .u64 a0_2, .int .u64 a0_3, .int .u64 a0_4, .slice A0_5 l0_5.length c0_5, .bool a0_6]) (t := 25) ?hr ?_; (case hd => rfl); (case hg => rfl); (case hr => ((go_simp; done))); intro gb184 hg w35 hbox hb; have BK184 := aM_ (hbox); have GW184 := aM_ (geN HB hg); have GE184 := aM_ (geN HB hg); replace HB := bsA_ HB hb; clear hb hbox hg) | ((with_reducible refine gate_dst (N := 6) rfl ?_); refine box_event ?hg (N := 6) ?hd (cs := #[.int .u64 0, .int .u64 0, .int .u64 0, .int .u64 0, .int .u64 0, .slice none 0 0, .bool false]) (t := 25) ?hr ?_; (case hd => rfl); (case hg => rfl); (case hr => ((go_simp; done))); intro gb185 hg w36 hbox hb; have BK185 := aM_ (hbox); have GW185 := aM_ (geN HB hg); have GE185 := aM_ (geN HB hg); replace HB := bsA_ HB hb; have NB184_185 := aM_ (neN BK184 hg); have NB185_184 := aM_ (neN' BK184 hg); replace BK184 := bbA_ BK184 hb; clear hb hbox hg; have hnb37 := NB184_185.out; have hnc37 := NB185_184.out; obtain ⟨hcz38_0, hcz38_1, hcz38_2, hcz38_3, hcz38_4, hcz38_5, hcz38_6, hfz38_0, hfz38_1, hfz38_2, hfz38_3, hfz38_4, hfz38_5, hfz38_6⟩ := cz7_ (w := w36) BK184.out) | ((with_reducible refine gate_callee (f := 33) rfl ?_); refine gL_ 14 Try.func33 #[.agg #[.int .u64 a0_0, .int .u64 a0_1, .int .u64 a0_2, .int .u64 a0_3, .int .u64 a0_4, .slice A0_5 l0_5.length c0_5, .bool a0_6]] ?_; (with_reducible refine (channel_Check.calls k a0_0 a0_1 a0_2 a0_3 a0_4 _ _ l0_5 a0_6 t186 _ ?side1 ?side2 A4.out).mono ?_); (case side1 => repeat ((exact (Kd.C_below HR0_5.out HB.out)))); (case side2 => exact HC0_5.out); rintro e w39 ⟨rfl, hb⟩; refine ⟨_, rfl, ?_⟩; replace BK184 := bbA_ BK184 hb; replace BK185 := bbA_ BK185 hb; replace HB := bsA_ HB hb; (try clear hb); obtain ⟨hcz40_0, hcz40_1, hcz40_2, hcz40_3, hcz40_4, hcz40_5, hcz40_6, hfz40_0, hfz40_1, hfz40_2, hfz40_3, hfz40_4, hfz40_5, hfz40_6⟩ := cz7_ (w := w39) BK185.out))
  refine bodyPost_ret (results_ctt rfl _ _ gb185 25 #[.int .u64 0, .int .u64 0, .int .u64 0, .int .u64 0, .int .u64 0, .slice none 0 0, .bool false] (0, 0) _ rfl (by apply bp7_; exact BK185.out) Try.underlying25 rfl (by kernel_rfl)) rfl ?_
  exact ⟨_, by (rfl), by (exact Kd.R_nil _ _ _ _ _), by repeat (((with_reducible first | exact HB.out | refine below_set ?_ GE185.out)))⟩

/-! ### channel_Fail: function 24 -/
def channel_Fail.f (k : Nat) (a0_0 : Int) (a0_1 : Int) (a0_2 : Int) (a0_3 : Int) (a0_4 : Int) (l0_5 : List (S44)) (a0_6 : Bool) (a1 : Int) : Option (Int × Int × Int × Int × Int × (List (S44)) × Bool × Int × Int) := (channel_end_at_channel_Fail_1.f k a0_0 a0_1 a0_2 a0_3 a0_4 l0_5 a0_6 a1).bind fun bt198 => (some (bt198.1, bt198.2.1, bt198.2.2.1, bt198.2.2.2.1, bt198.2.2.2.2.1, bt198.2.2.2.2.2.1, bt198.2.2.2.2.2.2.1, bt198.2.2.2.2.2.2.2.1, bt198.2.2.2.2.2.2.2.2))
theorem channel_Fail.mono : ∀ a0 a1 a2 a3 a4 a5 a6 a7 k, LeO (channel_Fail.f k a0 a1 a2 a3 a4 a5 a6 a7) (channel_Fail.f (k + 1) a0 a1 a2 a3 a4 a5 a6 a7) := by
  intro a0 a1 a2 a3 a4 a5 a6 a7 k
  unfold channel_Fail.f
  repeat' first
      | (with_reducible exact channel_end_at_channel_Fail_1.mono _ _ _ _ _ _ _ _ _)
      | (with_reducible exact LeO.refl _)
      | (with_reducible refine LeO.bind ?_ (fun _ => ?_))
      | exact channel_end_at_channel_Fail_1.mono _ _ _ _ _ _ _ _ _
      | exact LeO.none _
      | refine LeO.ite ?_ ?_
      | refine LeO.bind ?_ (fun _ => ?_)
set_option maxHeartbeats 8000000 in
set_option maxRecDepth 100000 in
theorem channel_Fail.calls (k : Nat) (a0_0 : Int) (a0_1 : Int) (a0_2 : Int) (a0_3 : Int) (a0_4 : Int) (A0_5 : Option Addr) (c0_5 : Nat) (l0_5 : List (S44)) (a0_6 : Bool) (a1 : Int) (r1 : Int) (r2 : Int) (r3 : Int) (r4 : Int) (r5 : Int) (r6 : List (S44)) (r7 : Bool) (r8 : Int) (r9 : Int) (w : World) (hr0_5 : Kd.C k44 w A0_5 l0_5.length l0_5) (hc0_5 : l0_5.length ≤ c0_5) (h : channel_Fail.f k a0_0 a0_1 a0_2 a0_3 a0_4 l0_5 a0_6 a1 = some (r1, r2, r3, r4, r5, r6, r7, r8, r9)) :
    Calls Try.prog 24 #[.agg #[.int .u64 a0_0, .int .u64 a0_1, .int .u64 a0_2, .int .u64 a0_3, .int .u64 a0_4, .slice A0_5 l0_5.length c0_5, .bool a0_6], .int .u64 a1] w fun e w' => ∃ v5_ : Value, e = .returned (.tuple #[.agg #[.int .u64 r1, .int .u64 r2, .int .u64 r3, .int .u64 r4, .int .u64 r5, v5_, .bool r7], .int .u64 r8, .int .i64 r9]) ∧ Kd.R k44 44 w' w.heap.size (fun _ => True) v5_ r6 ∧ Below w.heap.size w w' := by
  have hu25 := Try.underlying25
  have HR0_5 := aM_ hr0_5
  have HC0_5 := aM_ hc0_5
  clear hr0_5 hc0_5
  have HB := aM_ (Below.refl w.heap.size w)
  have H : ((channel_end_at_channel_Fail_1.f k a0_0 a0_1 a0_2 a0_3 a0_4 l0_5 a0_6 a1).bind fun bt198 => (some (bt198.1, bt198.2.1, bt198.2.2.1, bt198.2.2.2.1, bt198.2.2.2.2.1, bt198.2.2.2.2.2.1, bt198.2.2.2.2.2.2.1, bt198.2.2.2.2.2.2.2.1, bt198.2.2.2.2.2.2.2.2))) = some (r1, r2, r3, r4, r5, r6, r7, r8, r9) := h
  clear h
  replace H := oB_ H
  obtain ⟨⟨t198, t199, t200, t201, t202, t203, t206, t207, t208⟩, A30, H⟩ := H
  replace H : (some (t198, t199, t200, t201, t202, t203, t206, t207, t208)) = some (r1, r2, r3, r4, r5, r6, r7, r8, r9) := H
  have A3 := aM_ A30
  clear A30
  simp only [Option.some.injEq, Prod.mk.injEq] at H
  obtain ⟨rfl, rfl, rfl, rfl, rfl, rfl, rfl, rfl, rfl⟩ := H
  go_enter Try.func24, Try.ntmps24
  go_wp2_with (first | ((with_reducible refine gate_dst (N := 2) rfl ?_); refine box_event ?hg (N := 2) ?hd (cs := #[.int .u64 a0_0, .int .u64 a0_1, .int .u64 a0_2, .int .u64 a0_3, .int .u64 a0_4, .slice A0_5 l0_5.length c0_5, .bool a0_6]) (t := 25) ?hr ?_; (case hd => rfl); (case hg => rfl); (case hr => ((go_simp; done))); intro gb196 hg w4 hbox hb; have BK196 := aM_ (hbox); have GW196 := aM_ (geN HB hg); have GE196 := aM_ (geN HB hg); replace HB := bsA_ HB hb; clear hb hbox hg) | ((with_reducible refine gate_dst (N := 4) rfl ?_); refine box_event ?hg (N := 4) ?hd (cs := #[.int .u64 0, .int .u64 0, .int .u64 0, .int .u64 0, .int .u64 0, .slice none 0 0, .bool false]) (t := 25) ?hr ?_; (case hd => rfl); (case hg => rfl); (case hr => ((go_simp; done))); intro gb197 hg w5 hbox hb; have BK197 := aM_ (hbox); have GW197 := aM_ (geN HB hg); have GE197 := aM_ (geN HB hg); replace HB := bsA_ HB hb; have NB196_197 := aM_ (neN BK196 hg); have NB197_196 := aM_ (neN' BK196 hg); replace BK196 := bbA_ BK196 hb; clear hb hbox hg; have hnb6 := NB196_197.out; have hnc6 := NB197_196.out; obtain ⟨hcz7_0, hcz7_1, hcz7_2, hcz7_3, hcz7_4, hcz7_5, hcz7_6, hfz7_0, hfz7_1, hfz7_2, hfz7_3, hfz7_4, hfz7_5, hfz7_6⟩ := cz7_ (w := w5) BK196.out) | ((with_reducible refine gate_callee (f := 90) rfl ?_); refine gL_ 9 Try.func90 #[.agg #[.int .u64 a0_0, .int .u64 a0_1, .int .u64 a0_2, .int .u64 a0_3, .int .u64 a0_4, .slice A0_5 l0_5.length c0_5, .bool a0_6], .int .u64 a1, .func (.func 91) #[] #[]] ?_; (with_reducible refine (channel_end_at_channel_Fail_1.calls k a0_0 a0_1 a0_2 a0_3 a0_4 _ _ l0_5 a0_6 a1  t198 t199 t200 t201 t202 t203 t206 t207 t208 _ ?side1 ?side2 A3.out).mono ?_); (case side1 => repeat ((exact (Kd.C_below HR0_5.out HB.out)))); (case side2 => exact HC0_5.out); rintro e w8 ⟨v204, rfl, ho0, hb⟩; refine ⟨_, rfl, ?_⟩; have HO205 := aM_ (Kd.R_lower ho0 (below_size (belN HB))); replace BK196 := bbA_ BK196 hb; replace BK197 := bbA_ BK197 hb; replace HB := bsA_ HB hb; (try clear hb); (try clear ho0); obtain ⟨hcz9_0, hcz9_1, hcz9_2, hcz9_3, hcz9_4, hcz9_5, hcz9_6, hfz9_0, hfz9_1, hfz9_2, hfz9_3, hfz9_4, hfz9_5, hfz9_6⟩ := cz7_ (w := w8) BK197.out; obtain ⟨Ao10, co10, eo10⟩ := Kd.R_slice HO205.out; subst eo10))
  refine bodyPost_ret (results_ctt rfl _ _ gb197 25 #[.int .u64 t198, .int .u64 t199, .int .u64 t200, .int .u64 t201, .int .u64 t202, .slice Ao10 t203.length co10, .bool t206] (0, 0) _ rfl (by apply bp7_; exact BK197.out) Try.underlying25 rfl (by kernel_rfl)) rfl ?_
  exact ⟨_, by (rfl), by exact Kd.R_mono (Kd.R_far (p := ⟨gb197, 6, none⟩) (Kd.R_far (p := ⟨gb197, 5, none⟩) (Kd.R_far (p := ⟨gb197, 4, none⟩) (Kd.R_far (p := ⟨gb197, 3, none⟩) (Kd.R_far (p := ⟨gb197, 2, none⟩) (Kd.R_far (p := ⟨gb197, 1, none⟩) (Kd.R_far (p := ⟨gb197, 0, none⟩) (Kd.R_types HO205.out BK197.out (by decide)) (fun _ hk => hk.2) (.int .u64 t198)) (fun _ hk => hk.2) (.int .u64 t199)) (fun _ hk => hk.2) (.int .u64 t200)) (fun _ hk => hk.2) (.int .u64 t201)) (fun _ hk => hk.2) (.int .u64 t202)) (fun _ hk => hk.2) (.slice Ao10 t203.length co10)) (fun _ hk => hk.2) (.bool t206)) (fun _ hk => trivial), by repeat (((with_reducible first | exact HB.out | refine below_set ?_ GE197.out)))⟩

/-! ### channel_Settle_1: function 92 (by hand) -/
def channel_Settle_1.f : Option (Unit) := some ()
theorem channel_Settle_1.calls {g : Nat} (w : World) (h : channel_Settle_1.f = some ()) :
    Calls Try.prog 92 #[.pointer (some ⟨g, 0, none⟩)] w fun e w' => e = .returned (.pointer (some ⟨g, 2, none⟩)) ∧ Drawn0 w w' := by
  go_enter Try.func92, Try.ntmps92
  go_wp2
  go_ret
  exact ⟨rfl, 0, rfl⟩

/-! ### channel_end_at_channel_Settle_1: function 166 -/
def channel_end_at_channel_Settle_1.f (k : Nat) (a0_0 : Int) (a0_1 : Int) (a0_2 : Int) (a0_3 : Int) (a0_4 : Int) (l0_5 : List (S44)) (a0_6 : Bool) (a1 : Int)  : Option (Int × Int × Int × Int × Int × (List (S44)) × Bool × Int × Int) := (channel_Check.f k a0_0 a0_1 a0_2 a0_3 a0_4 l0_5 a0_6).bind fun t211 => (if t211 = 0 then ((slices_BinarySearchFunc_uint64_at_channel_order.f k l0_5 a1).bind fun bt212 => (if bt212.2 = true then (if 0 ≤ bt212.1 then (if bt212.1 < (l0_5.length : Int) then ((slices_Clone_Hold.f l0_5).bind fun t215 => ((slices_Delete_Hold.f t215 bt212.1 (wrap64 (bt212.1 + 1))).bind fun t218 => ((channel_Settle_1.f).bind fun _ => (some (a0_0, a0_1, IntKind.u64.wrap (a0_2 + ((rd_T44 l0_5 bt212.1).f1)), a0_3, a0_4, t218, a0_6, (rd_T44 l0_5 bt212.1).f1, 0))))) else (none)) else (none)) else (some (0, 0, 0, 0, 0, ([] : List (S44)), false, 0, 5)))) else (some (0, 0, 0, 0, 0, ([] : List (S44)), false, 0, t211)))
theorem channel_end_at_channel_Settle_1.mono : ∀ a0 a1 a2 a3 a4 a5 a6 a7 k, LeO (channel_end_at_channel_Settle_1.f k a0 a1 a2 a3 a4 a5 a6 a7) (channel_end_at_channel_Settle_1.f (k + 1) a0 a1 a2 a3 a4 a5 a6 a7) := by
 intro a0 a1 a2 a3 a4 a5 a6 a7 k
 unfold channel_end_at_channel_Settle_1.f
 repeat' first
   | (with_reducible exact channel_Check.mono _ _ _ _ _ _ _ _)
   | (with_reducible exact slices_BinarySearchFunc_uint64_at_channel_order.mono _ _ _)
   | (with_reducible exact LeO.refl _)
   | (with_reducible refine LeO.ite ?_ ?_)
   | (with_reducible refine LeO.bind ?_ (fun _ => ?_))
   | exact channel_Check.mono _ _ _ _ _ _ _ _
   | exact slices_BinarySearchFunc_uint64_at_channel_order.mono _ _ _
   | exact LeO.none _
   | refine LeO.ite ?_ ?_
   | refine LeO.bind ?_ (fun _ => ?_)
set_option maxHeartbeats 8000000 in
set_option maxRecDepth 100000 in
theorem channel_end_at_channel_Settle_1.calls (k : Nat) (a0_0 : Int) (a0_1 : Int) (a0_2 : Int) (a0_3 : Int) (a0_4 : Int) (A0_5 : Option Addr) (c0_5 : Nat) (l0_5 : List (S44)) (a0_6 : Bool) (a1 : Int)  (r1 : Int) (r2 : Int) (r3 : Int) (r4 : Int) (r5 : Int) (r6 : List (S44)) (r7 : Bool) (r8 : Int) (r9 : Int) (w : World) (hr0_5 : Kd.C k44 w A0_5 l0_5.length l0_5) (hc0_5 : l0_5.length ≤ c0_5) (h : channel_end_at_channel_Settle_1.f k a0_0 a0_1 a0_2 a0_3 a0_4 l0_5 a0_6 a1 = some (r1, r2, r3, r4, r5, r6, r7, r8, r9)) :
  Calls Try.prog 90 #[.agg #[.int .u64 a0_0, .int .u64 a0_1, .int .u64 a0_2, .int .u64 a0_3, .int .u64 a0_4, .slice A0_5 l0_5.length c0_5, .bool a0_6], .int .u64 a1, .func (.func 92) #[] #[]] w fun e w' => ∃ v5_ : Value, e = .returned (.tuple #[.agg #[.int .u64 r1, .int .u64 r2, .int .u64 r3, .int .u64 r4, .int .u64 r5, v5_, .bool r7], .int .u64 r8, .int .i64 r9]) ∧ Kd.R k44 44 w' w.heap.size (fun _ => True) v5_ r6 ∧ Below w.heap.size w w' := by
 have hu25 := Try.underlying25
 have HR0_5 := aM_ hr0_5
 have HC0_5 := aM_ hc0_5
 clear hr0_5 hc0_5
 have HB := aM_ (Below.refl w.heap.size w)
 have H : ((channel_Check.f k a0_0 a0_1 a0_2 a0_3 a0_4 l0_5 a0_6).bind fun t211 => (if t211 = 0 then ((slices_BinarySearchFunc_uint64_at_channel_order.f k l0_5 a1).bind fun bt212 => (if bt212.2 = true then (if 0 ≤ bt212.1 then (if bt212.1 < (l0_5.length : Int) then ((slices_Clone_Hold.f l0_5).bind fun t215 => ((slices_Delete_Hold.f t215 bt212.1 (wrap64 (bt212.1 + 1))).bind fun t218 => ((channel_Settle_1.f).bind fun _ => (some (a0_0, a0_1, IntKind.u64.wrap (a0_2 + ((rd_T44 l0_5 bt212.1).f1)), a0_3, a0_4, t218, a0_6, (rd_T44 l0_5 bt212.1).f1, 0))))) else (none)) else (none)) else (some (0, 0, 0, 0, 0, ([] : List (S44)), false, 0, 5)))) else (some (0, 0, 0, 0, 0, ([] : List (S44)), false, 0, t211)))) = some (r1, r2, r3, r4, r5, r6, r7, r8, r9) := h
 clear h
 replace H := oB_ H
 obtain ⟨t211, A40, H⟩ := H
 replace H : (if t211 = 0 then ((slices_BinarySearchFunc_uint64_at_channel_order.f k l0_5 a1).bind fun bt212 => (if bt212.2 = true then (if 0 ≤ bt212.1 then (if bt212.1 < (l0_5.length : Int) then ((slices_Clone_Hold.f l0_5).bind fun t215 => ((slices_Delete_Hold.f t215 bt212.1 (wrap64 (bt212.1 + 1))).bind fun t218 => ((channel_Settle_1.f).bind fun _ => (some (a0_0, a0_1, IntKind.u64.wrap (a0_2 + ((rd_T44 l0_5 bt212.1).f1)), a0_3, a0_4, t218, a0_6, (rd_T44 l0_5 bt212.1).f1, 0))))) else (none)) else (none)) else (some (0, 0, 0, 0, 0, ([] : List (S44)), false, 0, 5)))) else (some (0, 0, 0, 0, 0, ([] : List (S44)), false, 0, t211))) = some (r1, r2, r3, r4, r5, r6, r7, r8, r9) := H
 have A4 := aM_ A40
 clear A40
 by_cases c5 : t211 = 0
 ·rw [if_pos c5] at H
  have c5b0 : (t211 == 0) = true := beq_iff_eq.mpr c5
  have c5b1 : (t211 != 0) = false := bne_eq_false_iff_eq.mpr c5
  clear c5
  replace H := oB_ H
  obtain ⟨⟨t212, t213⟩, A60, H⟩ := H
  replace H : (if t213 = true then (if 0 ≤ t212 then (if t212 < (l0_5.length : Int) then ((slices_Clone_Hold.f l0_5).bind fun t215 => ((slices_Delete_Hold.f t215 t212 (wrap64 (t212 + 1))).bind fun t218 => ((channel_Settle_1.f).bind fun _ => (some (a0_0, a0_1, IntKind.u64.wrap (a0_2 + ((rd_T44 l0_5 t212).f1)), a0_3, a0_4, t218, a0_6, (rd_T44 l0_5 t212).f1, 0))))) else (none)) else (none)) else (some (0, 0, 0, 0, 0, ([] : List (S44)), false, 0, 5))) = some (r1, r2, r3, r4, r5, r6, r7, r8, r9) := H
  have A6 := aM_ A60
  clear A60
  by_cases c7 : t213 = true
  ·subst c7
   have H1 : (if 0 ≤ t212 then (if t212 < (l0_5.length : Int) then ((slices_Clone_Hold.f l0_5).bind fun t215 => ((slices_Delete_Hold.f t215 t212 (wrap64 (t212 + 1))).bind fun t218 => ((channel_Settle_1.f).bind fun _ => (some (a0_0, a0_1, IntKind.u64.wrap (a0_2 + ((rd_T44 l0_5 t212).f1)), a0_3, a0_4, t218, a0_6, (rd_T44 l0_5 t212).f1, 0))))) else (none)) else (none)) = some (r1, r2, r3, r4, r5, r6, r7, r8, r9) := by rw [if_pos rfl] at H; exact H
   clear H
   have H := H1
   clear H1
   by_cases c8 : 0 ≤ t212
   ·rw [if_pos c8] at H
    have c8b0 := decide_eq_true c8
    clear c8
    by_cases c9 : t212 < (l0_5.length : Int)
    ·rw [if_pos c9] at H
     have c9b0 := decide_eq_true c9
     clear c9
     replace H := oB_ H
     obtain ⟨t215, A100, H⟩ := H
     replace H : ((slices_Delete_Hold.f t215 t212 (wrap64 (t212 + 1))).bind fun t218 => ((channel_Settle_1.f).bind fun _ => (some (a0_0, a0_1, IntKind.u64.wrap (a0_2 + ((rd_T44 l0_5 t212).f1)), a0_3, a0_4, t218, a0_6, (rd_T44 l0_5 t212).f1, 0)))) = some (r1, r2, r3, r4, r5, r6, r7, r8, r9) := H
     have A10 := aM_ A100
     clear A100
     replace H := oB_ H
     obtain ⟨t218, A110, H⟩ := H
     replace H : ((channel_Settle_1.f).bind fun _ => (some (a0_0, a0_1, IntKind.u64.wrap (a0_2 + ((rd_T44 l0_5 t212).f1)), a0_3, a0_4, t218, a0_6, (rd_T44 l0_5 t212).f1, 0))) = some (r1, r2, r3, r4, r5, r6, r7, r8, r9) := H
     have A11 := aM_ A110
     clear A110
     replace H := oB_ H
     obtain ⟨_, A120, H⟩ := H
     replace H : (some (a0_0, a0_1, IntKind.u64.wrap (a0_2 + ((rd_T44 l0_5 t212).f1)), a0_3, a0_4, t218, a0_6, (rd_T44 l0_5 t212).f1, 0)) = some (r1, r2, r3, r4, r5, r6, r7, r8, r9) := H
     have A12 := aM_ A120
     clear A120
     simp only [Option.some.injEq, Prod.mk.injEq] at H
     obtain ⟨rfl, rfl, rfl, rfl, rfl, rfl, rfl, rfl, rfl⟩ := H
     go_enter Try.func90, Try.ntmps90
     go_wp2_with (first | ((with_reducible refine gate_dst (N := 3) rfl ?_); refine box_event ?hg (N := 3) ?hd (cs := #[.int .u64 a0_0, .int .u64 a0_1, .int .u64 a0_2, .int .u64 a0_3, .int .u64 a0_4, .slice A0_5 l0_5.length c0_5, .bool a0_6]) (t := 25) ?hr ?_; (case hd => rfl); (case hg => rfl); (case hr => ((go_simp; done))); intro gb209 hg w13 hbox hb; have BK209 := aM_ (hbox); have GW209 := aM_ (geN HB hg); have GE209 := aM_ (geN HB hg); replace HB := bsA_ HB hb; clear hb hbox hg) | ((with_reducible refine gate_dst (N := 6) rfl ?_); refine box_event ?hg (N := 6) ?hd (cs := #[.int .u64 0, .int .u64 0, .int .u64 0, .int .u64 0, .int .u64 0, .slice none 0 0, .bool false]) (t := 25) ?hr ?_; (case hd => rfl); (case hg => rfl); (case hr => ((go_simp; done))); intro gb210 hg w14 hbox hb; have BK210 := aM_ (hbox); have GW210 := aM_ (geN HB hg); have GE210 := aM_ (geN HB hg); replace HB := bsA_ HB hb; have NB209_210 := aM_ (neN BK209 hg); have NB210_209 := aM_ (neN' BK209 hg); replace BK209 := bbA_ BK209 hb; clear hb hbox hg; have hnb15 := NB209_210.out; have hnc15 := NB210_209.out; obtain ⟨hcz16_0, hcz16_1, hcz16_2, hcz16_3, hcz16_4, hcz16_5, hcz16_6, hfz16_0, hfz16_1, hfz16_2, hfz16_3, hfz16_4, hfz16_5, hfz16_6⟩ := cz7_ (w := w14) BK209.out) | ((with_reducible refine gate_callee (f := 33) rfl ?_); refine gL_ 14 Try.func33 #[.agg #[.int .u64 a0_0, .int .u64 a0_1, .int .u64 a0_2, .int .u64 a0_3, .int .u64 a0_4, .slice A0_5 l0_5.length c0_5, .bool a0_6]] ?_; (with_reducible refine (channel_Check.calls k a0_0 a0_1 a0_2 a0_3 a0_4 _ _ l0_5 a0_6 t211 _ ?side1 ?side2 A4.out).mono ?_); (case side1 => repeat ((exact (Kd.C_below HR0_5.out HB.out)))); (case side2 => exact HC0_5.out); rintro e w17 ⟨rfl, hb⟩; refine ⟨_, rfl, ?_⟩; replace BK209 := bbA_ BK209 hb; replace BK210 := bbA_ BK210 hb; replace HB := bsA_ HB hb; (try clear hb); obtain ⟨hcz18_0, hcz18_1, hcz18_2, hcz18_3, hcz18_4, hcz18_5, hcz18_6, hfz18_0, hfz18_1, hfz18_2, hfz18_3, hfz18_4, hfz18_5, hfz18_6⟩ := cz7_ (w := w17) BK209.out) | ((with_reducible refine gate_callee (f := 85) rfl ?_); refine gL_ 23 Try.func85 #[.slice A0_5 l0_5.length c0_5, .int .u64 a1, .func (.func 86) #[] #[]] ?_; (with_reducible refine (slices_BinarySearchFunc_uint64_at_channel_order.calls k _ _ l0_5 a1  t212 true _ ?side1 ?side2 A6.out).mono ?_); (case side1 => repeat ((exact (Kd.C_below HR0_5.out HB.out)))); (case side2 => exact HC0_5.out); rintro e w19 ⟨rfl, hb⟩; refine ⟨_, rfl, ?_⟩; replace BK209 := bbA_ BK209 hb; replace BK210 := bbA_ BK210 hb; replace HB := bsA_ HB hb; (try clear hb); obtain ⟨hcz20_0, hcz20_1, hcz20_2, hcz20_3, hcz20_4, hcz20_5, hcz20_6, hfz20_0, hfz20_1, hfz20_2, hfz20_3, hfz20_4, hfz20_5, hfz20_6⟩ := cz7_ (w := w19) BK209.out; have p214 : 0 ≤ (t212 : Int) := of_decide_eq_true (by ((with_reducible assumption))); have q214 : t212 < (l0_5.length : Int) := of_decide_eq_true (by ((with_reducible assumption))); obtain ⟨ad214, e214, hx214_0, hx214_1⟩ := at_T44 HR0_5.out t212 p214 q214; cases e214; replace hx214_0 := cN_ HB hx214_0; replace hx214_1 := cN_ HB hx214_1; replace p214 := eq_true p214; replace q214 := eq_true q214) | ((with_reducible refine gate_callee (f := 89) rfl ?_); refine gL_ 37 Try.func89 #[.slice (some ad214) l0_5.length c0_5] ?_; (with_reducible refine (slices_Clone_Hold.calls _ _ l0_5 t215 _ ?side1 ?side2 A10.out).mono ?_); (case side1 => repeat ((exact (Kd.C_below HR0_5.out HB.out)))); (case side2 => exact HC0_5.out); rintro e w21 ⟨v216, rfl, ho0, hb⟩; refine ⟨_, rfl, ?_⟩; have HO217 := aM_ (Kd.R_lower ho0 (below_size (belN HB))); replace BK209 := bbA_ BK209 hb; replace BK210 := bbA_ BK210 hb; replace HB := bsA_ HB hb; (try clear hb); (try clear ho0); obtain ⟨Ao22, co22, eo22⟩ := Kd.R_slice HO217.out; subst eo22) | ((with_reducible refine gate_callee (f := 133) rfl ?_); refine gL_ 41 Try.func133 #[.slice Ao22 t215.length co22, .int .i64 t212, .int .i64 (wrap64 (t212 + 1))] ?_; (with_reducible refine (slices_Delete_Hold.calls (fun k_ => some k_ = (.slice Ao22 t215.length co22 : Value).ownBlock) (.slice Ao22 t215.length co22) t215 t212 (wrap64 (t212 + 1)) t218 w _ ?side1 ?side2 A11.out).mono ?_); (case side1 => repeat (((with_reducible (exact HB.out))))); (case side2 => exact Kd.R_tight rfl HO217.out); rintro e w23 ⟨v219, rfl, ho0, hb, hkp⟩; refine ⟨_, rfl, ?_⟩; replace BK209 := aM_ (blk_kept (blkN BK209) hkp (fun hs_ => (fun e_ => (Kd.R_ne HO217.out BK209.out (by decide)) e_) hs_)); replace BK210 := aM_ (blk_kept (blkN BK210) hkp (fun hs_ => (fun e_ => (Kd.R_ne HO217.out BK210.out (by decide)) e_) hs_)); have HO220 := aM_ (Kd.R_mono (ok' := fun k_ => True) ho0 (fun k_ hk_ => trivial)); replace HB := aM_ (hb); clear HO217; (try clear hb); (try clear hkp); (try clear ho0); obtain ⟨Ao24, co24, eo24⟩ := Kd.R_slice HO220.out; subst eo24; obtain ⟨hcz25_0, hcz25_1, hcz25_2, hcz25_3, hcz25_4, hcz25_5, hcz25_6, hfz25_0, hfz25_1, hfz25_2, hfz25_3, hfz25_4, hfz25_5, hfz25_6⟩ := cz7_ (w := w23) BK209.out) | ((with_reducible refine gate_tmp (t_ := 43) rfl ?_); refine goesT_ (some 44) rfl rfl Try.func92 (by kernel_rfl) rfl #[.pointer (some ⟨gb209, 0, none⟩)] rfl rfl (by (try simp only [List.map_toArray, List.map_cons, List.map_nil]); (rfl)) ?_; (with_reducible refine (channel_Settle_1.calls   _ A12.out).mono ?_); rintro e w' ⟨rfl, ⟨nd, rfl⟩⟩; refine ⟨_, rfl, ?_⟩; obtain ⟨hcz26_0, hcz26_1, hcz26_2, hcz26_3, hcz26_4, hcz26_5, hcz26_6, hfz26_0, hfz26_1, hfz26_2, hfz26_3, hfz26_4, hfz26_5, hfz26_6⟩ := cz7_ (w := w23) BK210.out))
     refine bodyPost_ret (results_ctt rfl _ _ gb210 25 #[.int .u64 a0_0, .int .u64 a0_1, .int .u64 (IntKind.u64.wrap (a0_2 + ((rd_T44 l0_5 t212).f1))), .int .u64 a0_3, .int .u64 a0_4, .slice Ao24 t218.length co24, .bool a0_6] (0, 0) _ rfl (by apply bp7_; refine blk_far ?_ NB210_209.out _; (with_reducible repeat ((refine blk_drewN ?_ _))); refine blk_far ?_ NB210_209.out _; exact BK210.out) Try.underlying25 rfl (by kernel_rfl)) rfl ?_
     exact ⟨_, by (rfl), by exact Kd.R_mono (Kd.R_far (p := ⟨gb210, 6, none⟩) (Kd.R_far (p := ⟨gb210, 5, none⟩) (Kd.R_far (p := ⟨gb210, 4, none⟩) (Kd.R_far (p := ⟨gb210, 3, none⟩) (Kd.R_far (p := ⟨gb210, 2, none⟩) (Kd.R_far (p := ⟨gb210, 1, none⟩) (Kd.R_far (p := ⟨gb210, 0, none⟩) (Kd.R_far (p := ⟨gb209, 2, none⟩) (Kd.R_far (p := ⟨gb209, 5, none⟩) (Kd.R_types (Kd.R_types HO220.out BK209.out (by decide)) BK210.out (by decide)) (fun _ hk => hk.1.2) (.slice Ao24 t218.length co24)) (fun _ hk => hk.1.2) (.int .u64 (IntKind.u64.wrap (a0_2 + ((rd_T44 l0_5 t212).f1))))) (fun _ hk => hk.2) (.int .u64 a0_0)) (fun _ hk => hk.2) (.int .u64 a0_1)) (fun _ hk => hk.2) (.int .u64 (IntKind.u64.wrap (a0_2 + ((rd_T44 l0_5 t212).f1))))) (fun _ hk => hk.2) (.int .u64 a0_3)) (fun _ hk => hk.2) (.int .u64 a0_4)) (fun _ hk => hk.2) (.slice Ao24 t218.length co24)) (fun _ hk => hk.2) (.bool a0_6)) (fun _ hk => trivial), by repeat (((with_reducible first | exact HB.out | apply pw_below_drewN | refine below_set ?_ GE209.out | refine below_set ?_ GE210.out)))⟩
    ·rw [if_neg c9] at H
     exact absurd H (by simp)
   ·rw [if_neg c8] at H
    exact absurd H (by simp)
  ·replace c7 := Bool.eq_false_iff.mpr c7
   subst c7
   have H1 : (some (0, 0, 0, 0, 0, ([] : List (S44)), false, 0, 5)) = some (r1, r2, r3, r4, r5, r6, r7, r8, r9) := by rw [if_neg (show ¬ (false = true) by decide)] at H; exact H
   clear H
   have H := H1
   clear H1
   simp only [Option.some.injEq, Prod.mk.injEq] at H
   obtain ⟨rfl, rfl, rfl, rfl, rfl, rfl, rfl, rfl, rfl⟩ := H
   go_enter Try.func90, Try.ntmps90
   go_wp2_with (first | ((with_reducible refine gate_dst (N := 3) rfl ?_); refine box_event ?hg (N := 3) ?hd (cs := #[.int .u64 a0_0, .int .u64 a0_1, .int .u64 a0_2, .int .u64 a0_3, .int .u64 a0_4, .slice A0_5 l0_5.length c0_5, .bool a0_6]) (t := 25) ?hr ?_; (case hd => rfl); (case hg => rfl); (case hr => ((go_simp; done))); intro gb209 hg w27 hbox hb; have BK209 := aM_ (hbox); have GW209 := aM_ (geN HB hg); have GE209 := aM_ (geN HB hg); replace HB := bsA_ HB hb; clear hb hbox hg) | ((with_reducible refine gate_dst (N := 6) rfl ?_); refine box_event ?hg (N := 6) ?hd (cs := #[.int .u64 0, .int .u64 0, .int .u64 0, .int .u64 0, .int .u64 0, .slice none 0 0, .bool false]) (t := 25) ?hr ?_; (case hd => rfl); (case hg => rfl); (case hr => ((go_simp; done))); intro gb210 hg w28 hbox hb; have BK210 := aM_ (hbox); have GW210 := aM_ (geN HB hg); have GE210 := aM_ (geN HB hg); replace HB := bsA_ HB hb; have NB209_210 := aM_ (neN BK209 hg); have NB210_209 := aM_ (neN' BK209 hg); replace BK209 := bbA_ BK209 hb; clear hb hbox hg; have hnb29 := NB209_210.out; have hnc29 := NB210_209.out; obtain ⟨hcz30_0, hcz30_1, hcz30_2, hcz30_3, hcz30_4, hcz30_5, hcz30_6, hfz30_0, hfz30_1, hfz30_2, hfz30_3, hfz30_4, hfz30_5, hfz30_6⟩ := cz7_ (w := w28) BK209.out) | ((with_reducible refine gate_callee (f := 33) rfl ?_); refine gL_ 14 Try.func33 #[.agg #[.int .u64 a0_0, .int .u64 a0_1, .int .u64 a0_2, .int .u64 a0_3, .int .u64 a0_4, .slice A0_5 l0_5.length c0_5, .bool a0_6]] ?_; (with_reducible refine (channel_Check.calls k a0_0 a0_1 a0_2 a0_3 a0_4 _ _ l0_5 a0_6 t211 _ ?side1 ?side2 A4.out).mono ?_); (case side1 => repeat ((exact (Kd.C_below HR0_5.out HB.out)))); (case side2 => exact HC0_5.out); rintro e w31 ⟨rfl, hb⟩; refine ⟨_, rfl, ?_⟩; replace BK209 := bbA_ BK209 hb; replace BK210 := bbA_ BK210 hb; replace HB := bsA_ HB hb; (try clear hb); obtain ⟨hcz32_0, hcz32_1, hcz32_2, hcz32_3, hcz32_4, hcz32_5, hcz32_6, hfz32_0, hfz32_1, hfz32_2, hfz32_3, hfz32_4, hfz32_5, hfz32_6⟩ := cz7_ (w := w31) BK209.out) | ((with_reducible refine gate_callee (f := 85) rfl ?_); refine gL_ 23 Try.func85 #[.slice A0_5 l0_5.length c0_5, .int .u64 a1, .func (.func 86) #[] #[]] ?_; (with_reducible refine (slices_BinarySearchFunc_uint64_at_channel_order.calls k _ _ l0_5 a1  t212 false _ ?side1 ?side2 A6.out).mono ?_); (case side1 => repeat ((exact (Kd.C_below HR0_5.out HB.out)))); (case side2 => exact HC0_5.out); rintro e w33 ⟨rfl, hb⟩; refine ⟨_, rfl, ?_⟩; replace BK209 := bbA_ BK209 hb; replace BK210 := bbA_ BK210 hb; replace HB := bsA_ HB hb; (try clear hb); obtain ⟨hcz34_0, hcz34_1, hcz34_2, hcz34_3, hcz34_4, hcz34_5, hcz34_6, hfz34_0, hfz34_1, hfz34_2, hfz34_3, hfz34_4, hfz34_5, hfz34_6⟩ := cz7_ (w := w33) BK210.out))
   refine bodyPost_ret (results_ctt rfl _ _ gb210 25 #[.int .u64 0, .int .u64 0, .int .u64 0, .int .u64 0, .int .u64 0, .slice none 0 0, .bool false] (0, 0) _ rfl (by apply bp7_; exact BK210.out) Try.underlying25 rfl (by kernel_rfl)) rfl ?_
   exact ⟨_, by (rfl), by (exact Kd.R_nil _ _ _ _ _), by repeat (((with_reducible first | exact HB.out | refine below_set ?_ GE210.out)))⟩
 ·rw [if_neg c5] at H
  have c5b0 : (t211 == 0) = false := beq_eq_false_iff_ne.mpr c5
  have c5b1 : (t211 != 0) = true := bne_iff_ne.mpr c5
  simp only [Option.some.injEq, Prod.mk.injEq] at H
  obtain ⟨rfl, rfl, rfl, rfl, rfl, rfl, rfl, rfl, rfl⟩ := H
  go_enter Try.func90, Try.ntmps90
  go_wp2_with (first | ((with_reducible refine gate_dst (N := 3) rfl ?_); refine box_event ?hg (N := 3) ?hd (cs := #[.int .u64 a0_0, .int .u64 a0_1, .int .u64 a0_2, .int .u64 a0_3, .int .u64 a0_4, .slice A0_5 l0_5.length c0_5, .bool a0_6]) (t := 25) ?hr ?_; (case hd => rfl); (case hg => rfl); (case hr => ((go_simp; done))); intro gb209 hg w35 hbox hb; have BK209 := aM_ (hbox); have GW209 := aM_ (geN HB hg); have GE209 := aM_ (geN HB hg); replace HB := bsA_ HB hb; clear hb hbox hg) | ((with_reducible refine gate_dst (N := 6) rfl ?_); refine box_event ?hg (N := 6) ?hd (cs := #[.int .u64 0, .int .u64 0, .int .u64 0, .int .u64 0, .int .u64 0, .slice none 0 0, .bool false]) (t := 25) ?hr ?_; (case hd => rfl); (case hg => rfl); (case hr => ((go_simp; done))); intro gb210 hg w36 hbox hb; have BK210 := aM_ (hbox); have GW210 := aM_ (geN HB hg); have GE210 := aM_ (geN HB hg); replace HB := bsA_ HB hb; have NB209_210 := aM_ (neN BK209 hg); have NB210_209 := aM_ (neN' BK209 hg); replace BK209 := bbA_ BK209 hb; clear hb hbox hg; have hnb37 := NB209_210.out; have hnc37 := NB210_209.out; obtain ⟨hcz38_0, hcz38_1, hcz38_2, hcz38_3, hcz38_4, hcz38_5, hcz38_6, hfz38_0, hfz38_1, hfz38_2, hfz38_3, hfz38_4, hfz38_5, hfz38_6⟩ := cz7_ (w := w36) BK209.out) | ((with_reducible refine gate_callee (f := 33) rfl ?_); refine gL_ 14 Try.func33 #[.agg #[.int .u64 a0_0, .int .u64 a0_1, .int .u64 a0_2, .int .u64 a0_3, .int .u64 a0_4, .slice A0_5 l0_5.length c0_5, .bool a0_6]] ?_; (with_reducible refine (channel_Check.calls k a0_0 a0_1 a0_2 a0_3 a0_4 _ _ l0_5 a0_6 t211 _ ?side1 ?side2 A4.out).mono ?_); (case side1 => repeat ((exact (Kd.C_below HR0_5.out HB.out)))); (case side2 => exact HC0_5.out); rintro e w39 ⟨rfl, hb⟩; refine ⟨_, rfl, ?_⟩; replace BK209 := bbA_ BK209 hb; replace BK210 := bbA_ BK210 hb; replace HB := bsA_ HB hb; (try clear hb); obtain ⟨hcz40_0, hcz40_1, hcz40_2, hcz40_3, hcz40_4, hcz40_5, hcz40_6, hfz40_0, hfz40_1, hfz40_2, hfz40_3, hfz40_4, hfz40_5, hfz40_6⟩ := cz7_ (w := w39) BK210.out))
  refine bodyPost_ret (results_ctt rfl _ _ gb210 25 #[.int .u64 0, .int .u64 0, .int .u64 0, .int .u64 0, .int .u64 0, .slice none 0 0, .bool false] (0, 0) _ rfl (by apply bp7_; exact BK210.out) Try.underlying25 rfl (by kernel_rfl)) rfl ?_
  exact ⟨_, by (rfl), by (exact Kd.R_nil _ _ _ _ _), by repeat (((with_reducible first | exact HB.out | refine below_set ?_ GE210.out)))⟩

/-! ### channel_Settle: function 25 -/
def channel_Settle.f (k : Nat) (a0_0 : Int) (a0_1 : Int) (a0_2 : Int) (a0_3 : Int) (a0_4 : Int) (l0_5 : List (S44)) (a0_6 : Bool) (a1 : Int) : Option (Int × Int × Int × Int × Int × (List (S44)) × Bool × Int × Int) := (channel_end_at_channel_Settle_1.f k a0_0 a0_1 a0_2 a0_3 a0_4 l0_5 a0_6 a1).bind fun bt223 => (some (bt223.1, bt223.2.1, bt223.2.2.1, bt223.2.2.2.1, bt223.2.2.2.2.1, bt223.2.2.2.2.2.1, bt223.2.2.2.2.2.2.1, bt223.2.2.2.2.2.2.2.1, bt223.2.2.2.2.2.2.2.2))
theorem channel_Settle.mono : ∀ a0 a1 a2 a3 a4 a5 a6 a7 k, LeO (channel_Settle.f k a0 a1 a2 a3 a4 a5 a6 a7) (channel_Settle.f (k + 1) a0 a1 a2 a3 a4 a5 a6 a7) := by
  intro a0 a1 a2 a3 a4 a5 a6 a7 k
  unfold channel_Settle.f
  repeat' first
      | (with_reducible exact channel_end_at_channel_Settle_1.mono _ _ _ _ _ _ _ _ _)
      | (with_reducible exact LeO.refl _)
      | (with_reducible refine LeO.bind ?_ (fun _ => ?_))
      | exact channel_end_at_channel_Settle_1.mono _ _ _ _ _ _ _ _ _
      | exact LeO.none _
      | refine LeO.ite ?_ ?_
      | refine LeO.bind ?_ (fun _ => ?_)
set_option maxHeartbeats 8000000 in
set_option maxRecDepth 100000 in
theorem channel_Settle.calls (k : Nat) (a0_0 : Int) (a0_1 : Int) (a0_2 : Int) (a0_3 : Int) (a0_4 : Int) (A0_5 : Option Addr) (c0_5 : Nat) (l0_5 : List (S44)) (a0_6 : Bool) (a1 : Int) (r1 : Int) (r2 : Int) (r3 : Int) (r4 : Int) (r5 : Int) (r6 : List (S44)) (r7 : Bool) (r8 : Int) (r9 : Int) (w : World) (hr0_5 : Kd.C k44 w A0_5 l0_5.length l0_5) (hc0_5 : l0_5.length ≤ c0_5) (h : channel_Settle.f k a0_0 a0_1 a0_2 a0_3 a0_4 l0_5 a0_6 a1 = some (r1, r2, r3, r4, r5, r6, r7, r8, r9)) :
    Calls Try.prog 25 #[.agg #[.int .u64 a0_0, .int .u64 a0_1, .int .u64 a0_2, .int .u64 a0_3, .int .u64 a0_4, .slice A0_5 l0_5.length c0_5, .bool a0_6], .int .u64 a1] w fun e w' => ∃ v5_ : Value, e = .returned (.tuple #[.agg #[.int .u64 r1, .int .u64 r2, .int .u64 r3, .int .u64 r4, .int .u64 r5, v5_, .bool r7], .int .u64 r8, .int .i64 r9]) ∧ Kd.R k44 44 w' w.heap.size (fun _ => True) v5_ r6 ∧ Below w.heap.size w w' := by
  have hu25 := Try.underlying25
  have HR0_5 := aM_ hr0_5
  have HC0_5 := aM_ hc0_5
  clear hr0_5 hc0_5
  have HB := aM_ (Below.refl w.heap.size w)
  have H : ((channel_end_at_channel_Settle_1.f k a0_0 a0_1 a0_2 a0_3 a0_4 l0_5 a0_6 a1).bind fun bt223 => (some (bt223.1, bt223.2.1, bt223.2.2.1, bt223.2.2.2.1, bt223.2.2.2.2.1, bt223.2.2.2.2.2.1, bt223.2.2.2.2.2.2.1, bt223.2.2.2.2.2.2.2.1, bt223.2.2.2.2.2.2.2.2))) = some (r1, r2, r3, r4, r5, r6, r7, r8, r9) := h
  clear h
  replace H := oB_ H
  obtain ⟨⟨t223, t224, t225, t226, t227, t228, t231, t232, t233⟩, A30, H⟩ := H
  replace H : (some (t223, t224, t225, t226, t227, t228, t231, t232, t233)) = some (r1, r2, r3, r4, r5, r6, r7, r8, r9) := H
  have A3 := aM_ A30
  clear A30
  simp only [Option.some.injEq, Prod.mk.injEq] at H
  obtain ⟨rfl, rfl, rfl, rfl, rfl, rfl, rfl, rfl, rfl⟩ := H
  go_enter Try.func25, Try.ntmps25
  go_wp2_with (first | ((with_reducible refine gate_dst (N := 2) rfl ?_); refine box_event ?hg (N := 2) ?hd (cs := #[.int .u64 a0_0, .int .u64 a0_1, .int .u64 a0_2, .int .u64 a0_3, .int .u64 a0_4, .slice A0_5 l0_5.length c0_5, .bool a0_6]) (t := 25) ?hr ?_; (case hd => rfl); (case hg => rfl); (case hr => ((go_simp; done))); intro gb221 hg w4 hbox hb; have BK221 := aM_ (hbox); have GW221 := aM_ (geN HB hg); have GE221 := aM_ (geN HB hg); replace HB := bsA_ HB hb; clear hb hbox hg) | ((with_reducible refine gate_dst (N := 4) rfl ?_); refine box_event ?hg (N := 4) ?hd (cs := #[.int .u64 0, .int .u64 0, .int .u64 0, .int .u64 0, .int .u64 0, .slice none 0 0, .bool false]) (t := 25) ?hr ?_; (case hd => rfl); (case hg => rfl); (case hr => ((go_simp; done))); intro gb222 hg w5 hbox hb; have BK222 := aM_ (hbox); have GW222 := aM_ (geN HB hg); have GE222 := aM_ (geN HB hg); replace HB := bsA_ HB hb; have NB221_222 := aM_ (neN BK221 hg); have NB222_221 := aM_ (neN' BK221 hg); replace BK221 := bbA_ BK221 hb; clear hb hbox hg; have hnb6 := NB221_222.out; have hnc6 := NB222_221.out; obtain ⟨hcz7_0, hcz7_1, hcz7_2, hcz7_3, hcz7_4, hcz7_5, hcz7_6, hfz7_0, hfz7_1, hfz7_2, hfz7_3, hfz7_4, hfz7_5, hfz7_6⟩ := cz7_ (w := w5) BK221.out) | ((with_reducible refine gate_callee (f := 90) rfl ?_); refine gL_ 9 Try.func90 #[.agg #[.int .u64 a0_0, .int .u64 a0_1, .int .u64 a0_2, .int .u64 a0_3, .int .u64 a0_4, .slice A0_5 l0_5.length c0_5, .bool a0_6], .int .u64 a1, .func (.func 92) #[] #[]] ?_; (with_reducible refine (channel_end_at_channel_Settle_1.calls k a0_0 a0_1 a0_2 a0_3 a0_4 _ _ l0_5 a0_6 a1  t223 t224 t225 t226 t227 t228 t231 t232 t233 _ ?side1 ?side2 A3.out).mono ?_); (case side1 => repeat ((exact (Kd.C_below HR0_5.out HB.out)))); (case side2 => exact HC0_5.out); rintro e w8 ⟨v229, rfl, ho0, hb⟩; refine ⟨_, rfl, ?_⟩; have HO230 := aM_ (Kd.R_lower ho0 (below_size (belN HB))); replace BK221 := bbA_ BK221 hb; replace BK222 := bbA_ BK222 hb; replace HB := bsA_ HB hb; (try clear hb); (try clear ho0); obtain ⟨hcz9_0, hcz9_1, hcz9_2, hcz9_3, hcz9_4, hcz9_5, hcz9_6, hfz9_0, hfz9_1, hfz9_2, hfz9_3, hfz9_4, hfz9_5, hfz9_6⟩ := cz7_ (w := w8) BK222.out; obtain ⟨Ao10, co10, eo10⟩ := Kd.R_slice HO230.out; subst eo10))
  refine bodyPost_ret (results_ctt rfl _ _ gb222 25 #[.int .u64 t223, .int .u64 t224, .int .u64 t225, .int .u64 t226, .int .u64 t227, .slice Ao10 t228.length co10, .bool t231] (0, 0) _ rfl (by apply bp7_; exact BK222.out) Try.underlying25 rfl (by kernel_rfl)) rfl ?_
  exact ⟨_, by (rfl), by exact Kd.R_mono (Kd.R_far (p := ⟨gb222, 6, none⟩) (Kd.R_far (p := ⟨gb222, 5, none⟩) (Kd.R_far (p := ⟨gb222, 4, none⟩) (Kd.R_far (p := ⟨gb222, 3, none⟩) (Kd.R_far (p := ⟨gb222, 2, none⟩) (Kd.R_far (p := ⟨gb222, 1, none⟩) (Kd.R_far (p := ⟨gb222, 0, none⟩) (Kd.R_types HO230.out BK222.out (by decide)) (fun _ hk => hk.2) (.int .u64 t223)) (fun _ hk => hk.2) (.int .u64 t224)) (fun _ hk => hk.2) (.int .u64 t225)) (fun _ hk => hk.2) (.int .u64 t226)) (fun _ hk => hk.2) (.int .u64 t227)) (fun _ hk => hk.2) (.slice Ao10 t228.length co10)) (fun _ hk => hk.2) (.bool t231)) (fun _ hk => trivial), by repeat (((with_reducible first | exact HB.out | refine below_set ?_ GE222.out)))⟩

end Go.Proofs.Ytcfbcoinbecdfaa.P
