-- written by a program of this session (wip/print)
import Derived.Test.YtcfbcoinbecdfaaQLdoesx0
import Derived.Test.YtcfbcoinbecdfaaQLdoesx12
import Derived.Test.YtcfbcoinbecdfaaQLdoesx13
namespace Go.Proofs.Ytcfbcoinbecdfaa.P
open Go.RowKit Go.Proofs.YtcfbcoinbecdfaaW.PrintWords Go.Proofs.YtcfbcoinbecdfaaW.PrintLast Go.Proofs.YtcfbcoinbecdfaaW.PrintMore
attribute [local go_sem] max2_int min2_int max_two min_two max_three min_three max_four min_four run_sub64_   -- for this text's walks alone
set_option linter.unusedVariables false
set_option linter.unusedSimpArgs false

/-! ### damsonref10_Check: function 55 -/
mutual
def damsonref10_Check.l0 : Nat → List (S25) → List (S25) → Int → Int → Option (Int)
 | 0, _, _, _, _ => none
 | k + 1, x0, x12, x13, x14 => if x14 < x13 then (if 0 ≤ x14 then (if x14 < (x12.length : Int) then ((damsonref09_Check.f k ((rd_T25 x12 x14).f0) ((rd_T25 x12 x14).f1) ((rd_T25 x12 x14).f2) ((rd_T25 x12 x14).f3) ((rd_T25 x12 x14).f4) ((rd_T25 x12 x14).f5) ((rd_T25 x12 x14).f6)).bind fun t311 => (if t311 = 0 then (if x14 > 0 then (if 0 ≤ (wrap64 (x14 - 1)) then (if (wrap64 (x14 - 1)) < (x0.length : Int) then (damsonref10_Check.j1 k x0 x14 x12 x13 x14 (decide (((rd_T25 x0 (wrap64 (x14 - 1))).f0) ≥ ((rd_T25 x12 x14).f0))) ((rd_T25 x12 x14).f0) ((rd_T25 x12 x14).f1) ((rd_T25 x12 x14).f2) ((rd_T25 x12 x14).f3) ((rd_T25 x12 x14).f4) ((rd_T25 x12 x14).f5) ((rd_T25 x12 x14).f6)) else (none)) else (none)) else (damsonref10_Check.j1 k x0 x14 x12 x13 x14 false ((rd_T25 x12 x14).f0) ((rd_T25 x12 x14).f1) ((rd_T25 x12 x14).f2) ((rd_T25 x12 x14).f3) ((rd_T25 x12 x14).f4) ((rd_T25 x12 x14).f5) ((rd_T25 x12 x14).f6))) else (damsonref10_Check.j1 k x0 x14 x12 x13 x14 true ((rd_T25 x12 x14).f0) ((rd_T25 x12 x14).f1) ((rd_T25 x12 x14).f2) ((rd_T25 x12 x14).f3) ((rd_T25 x12 x14).f4) ((rd_T25 x12 x14).f5) ((rd_T25 x12 x14).f6)))) else (none)) else (none)) else ((damsonref10_all.f k x0).bind fun bt307 => (if bt307.2 = true then (some 0) else (some 1)))
def damsonref10_Check.j1 : Nat → List (S25) → Int → List (S25) → Int → Int → Bool → Int → Int → Int → Int → Int → List (S44) → Bool → Option (Int)
 | 0, _, _, _, _, _, _, _, _, _, _, _, _, _ => none
 | k + 1, x0, x3, x12, x13, x14, x36, x311000, x311001, x311002, x311003, x311004, x311005, x311006 => if x36 = true then (some 1) else (damsonref10_Check.l1 k x0 x3 x12 x13 x14 x311005 (x311005.length : Int) 0)
def damsonref10_Check.l1 : Nat → List (S25) → Int → List (S25) → Int → Int → List (S44) → Int → Int → Option (Int)
 | 0, _, _, _, _, _, _, _, _ => none
 | k + 1, x0, x3, x12, x13, x14, x38, x39, x40 => if x40 < x39 then (if 0 ≤ x40 then (if x40 < (x38.length : Int) then (if 0 ≤ x3 then (if x3 ≤ (x0.length : Int) then ((damsonref10_where.f k (x0.take (x3 : Int).toNat) ((rd_T44 x38 x40).f0)).bind fun t319 => (if t319 ≥ 0 then (some 1) else (damsonref10_Check.l1 k x0 x3 x12 x13 x14 x38 x39 (wrap64 (x40 + 1))))) else (none)) else (none)) else (none)) else (none)) else (damsonref10_Check.l0 k x0 x12 x13 (wrap64 (x14 + 1)))
end
def damsonref10_Check.f (k : Nat) (l0 : List (S25)) : Option (Int) := if (l0.length : Int) > 32 then (some 1) else (damsonref10_Check.l0 k l0 l0 (l0.length : Int) 0)
theorem damsonref10_Check.mono_l : ∀ k, (∀ y0 y1 y2 y3, LeO (damsonref10_Check.l0 k y0 y1 y2 y3) (damsonref10_Check.l0 (k + 1) y0 y1 y2 y3)) ∧ (∀ y0 y1 y2 y3 y4 y5 y6 y7 y8 y9 y10 y11 y12, LeO (damsonref10_Check.j1 k y0 y1 y2 y3 y4 y5 y6 y7 y8 y9 y10 y11 y12) (damsonref10_Check.j1 (k + 1) y0 y1 y2 y3 y4 y5 y6 y7 y8 y9 y10 y11 y12)) ∧ (∀ y0 y1 y2 y3 y4 y5 y6 y7, LeO (damsonref10_Check.l1 k y0 y1 y2 y3 y4 y5 y6 y7) (damsonref10_Check.l1 (k + 1) y0 y1 y2 y3 y4 y5 y6 y7))
 | 0 => ⟨fun _ _ _ _ r h => by simp [damsonref10_Check.l0] at h, fun _ _ _ _ _ _ _ _ _ _ _ _ _ r h => by simp [damsonref10_Check.j1] at h, fun _ _ _ _ _ _ _ _ r h => by simp [damsonref10_Check.l1] at h⟩
 | k + 1 => by
  obtain ⟨ih0, ih1, ih2⟩ := damsonref10_Check.mono_l k
  refine ⟨?_, ?_, ?_⟩
  ·intro y0 y1 y2 y3
   unfold damsonref10_Check.l0
   repeat' first
   | (with_reducible exact ih1 _ _ _ _ _ _ _ _ _ _ _ _ _)
   | (with_reducible exact damsonref09_Check.mono _ _ _ _ _ _ _ _)
   | (with_reducible exact damsonref10_all.mono _ _)
   | (with_reducible exact LeO.refl _)
   | (with_reducible refine LeO.ite ?_ ?_)
   | (with_reducible refine LeO.bind ?_ (fun _ => ?_))
   | exact ih0 _ _ _ _
   | exact ih1 _ _ _ _ _ _ _ _ _ _ _ _ _
   | exact ih2 _ _ _ _ _ _ _ _
   | exact damsonref09_Check.mono _ _ _ _ _ _ _ _
   | exact damsonref10_all.mono _ _
   | exact damsonref10_where.mono _ _ _
   | exact LeO.none _
   | refine LeO.ite ?_ ?_
   | refine LeO.bind ?_ (fun _ => ?_)
  ·intro y0 y1 y2 y3 y4 y5 y6 y7 y8 y9 y10 y11 y12
   unfold damsonref10_Check.j1
   repeat' first
   | (with_reducible exact ih2 _ _ _ _ _ _ _ _)
   | (with_reducible exact LeO.refl _)
   | (with_reducible refine LeO.ite ?_ ?_)
   | exact ih0 _ _ _ _
   | exact ih1 _ _ _ _ _ _ _ _ _ _ _ _ _
   | exact ih2 _ _ _ _ _ _ _ _
   | exact damsonref09_Check.mono _ _ _ _ _ _ _ _
   | exact damsonref10_all.mono _ _
   | exact damsonref10_where.mono _ _ _
   | exact LeO.none _
   | refine LeO.ite ?_ ?_
   | refine LeO.bind ?_ (fun _ => ?_)
  ·intro y0 y1 y2 y3 y4 y5 y6 y7
   unfold damsonref10_Check.l1
   repeat' first
   | (with_reducible exact ih0 _ _ _ _)
   | (with_reducible exact ih2 _ _ _ _ _ _ _ _)
   | (with_reducible exact damsonref10_where.mono _ _ _)
   | (with_reducible exact LeO.refl _)
   | (with_reducible refine LeO.ite ?_ ?_)
   | (with_reducible refine LeO.bind ?_ (fun _ => ?_))
   | exact ih0 _ _ _ _
   | exact ih1 _ _ _ _ _ _ _ _ _ _ _ _ _
   | exact ih2 _ _ _ _ _ _ _ _
   | exact damsonref09_Check.mono _ _ _ _ _ _ _ _
   | exact damsonref10_all.mono _ _
   | exact damsonref10_where.mono _ _ _
   | exact LeO.none _
   | refine LeO.ite ?_ ?_
   | refine LeO.bind ?_ (fun _ => ?_)
theorem damsonref10_Check.mono : ∀ a0 k, LeO (damsonref10_Check.f k a0) (damsonref10_Check.f (k + 1) a0) := by
 intro a0 k
 obtain ⟨ih0, ih1, ih2⟩ := damsonref10_Check.mono_l k
 unfold damsonref10_Check.f
 repeat' first
   | (with_reducible exact ih0 _ _ _ _)
   | (with_reducible exact LeO.refl _)
   | (with_reducible refine LeO.ite ?_ ?_)
   | exact ih0 _ _ _ _
   | exact ih1 _ _ _ _ _ _ _ _ _ _ _ _ _
   | exact ih2 _ _ _ _ _ _ _ _
   | exact damsonref09_Check.mono _ _ _ _ _ _ _ _
   | exact damsonref10_all.mono _ _
   | exact damsonref10_where.mono _ _ _
   | exact LeO.none _
   | refine LeO.ite ?_ ?_
   | refine LeO.bind ?_ (fun _ => ?_)
def damsonref10_Check.T6 : Bool × List (List Nat × List Nat) := (true, [([], []), ([0], [0]), ([1], [1]), ([2, 1], [2]), ([3], [3]), ([4, 3], [3, 4]), ([5, 3, 3], [3, 5]), ([6], [6]), ([6], [6]), ([8, 6], [6, 8]), ([7, 9, 6], [6, 7, 9]), ([10, 6], [6, 10]), ([11, 6], [6, 11]), ([6], [6]), ([13, 6], [6, 13]), ([12, 14, 6], [6, 12, 14]), ([6, 15, 3], [3, 6, 15]), ([3, 16], [3, 16])])
def damsonref10_Check.B6 : List Nat := [0, 1, 3, 7, 15, 31, 63, 127, 127, 383, 1023, 2047, 4095, 127, 8319, 32767, 65535, 131071]
theorem damsonref10_Check.tab6 : rtab .any (opsOf Try.f55 6) = damsonref10_Check.T6 := by kernel_rfl
theorem damsonref10_Check.bits6 : waitsOk damsonref10_Check.T6.2 damsonref10_Check.B6 = true := by kernel_rfl
set_option maxHeartbeats 8000000 in
set_option maxRecDepth 100000 in
theorem damsonref10_Check.calls (k : Nat) (A0 : Option Addr) (c0 : Nat) (l0 : List (S25)) (r : Int) (w : World) (hr0 : Kd.C k25 w A0 l0.length l0) (hc0 : l0.length ≤ c0) (h : damsonref10_Check.f k l0 = some r) :
  Calls Try.prog 55 #[.slice A0 l0.length c0] w fun e w' => e = .returned (.int .i64 r) ∧ Below w.heap.size w w' := by
 have hu25 := Try.underlying25
 have hu44 := Try.underlying44
 have HR0 := aM_ hr0
 have HC0 := aM_ hc0
 clear hr0 hc0
 have HB := aM_ (Below.refl w.heap.size w)
 have H : (if (l0.length : Int) > 32 then (some 1) else (damsonref10_Check.l0 k l0 l0 (l0.length : Int) 0)) = some r := h
 clear h
 by_cases c2 : (l0.length : Int) > 32
 ·rw [if_pos c2] at H
  have c2b0 : decide (32 < (l0.length : Int)) = true := decide_eq_true c2
  have c2b1 : decide (32 < l0.length) = true := decide_eq_true (by omega)
  clear c2
  obtain rfl := Option.some.inj H
  go_enter Try.func55, Try.ntmps55
  go_wp2
  go_ret
  exact ⟨by (rfl), by repeat (((with_reducible (exact HB.out))))⟩
 ·rw [if_neg c2] at H
  have c2b0 : decide (32 < (l0.length : Int)) = false := decide_eq_false c2
  have c2b1 : decide (32 < l0.length) = false := decide_eq_false (by omega)
  clear c2
  have H' := aM_ H
  clear H
  go_enter Try.func55, Try.ntmps55
  go_wp2
  go_loopg [14] k (fun kq v14 w' => ∃ (x14_1 : Int), v14 = .int .i64 x14_1 ∧ Aside0 (damsonref10_Check.l0 kq l0 l0 (l0.length : Int) x14_1 = some r) ∧ Aside0 (kq ≤ k) ∧ Aside0 (Below w.heap.size w w'))
  case atStart => exact ⟨(0), (by (rfl)), H', ⟨Nat.le_refl _⟩, ⟨by repeat (((with_reducible (exact HB.out))))⟩⟩
  case round =>
   clear H'
   try clear c2b0
   try clear c2b1
   obtain ⟨x14_1, rfl, HA, HK1, HB⟩ := hrel
   cases gk with
   | zero => exact absurd HA.out (by simp [damsonref10_Check.l0])
   | succ k1 =>
    have H := HA.out
    clear HA
    simp only [damsonref10_Check.l0] at H
    by_cases c3 : x14_1 < (l0.length : Int)
    ·rw [if_pos c3] at H
     have c3b0 := decide_eq_true c3
     clear c3
     by_cases c4 : 0 ≤ x14_1
     ·rw [if_pos c4] at H
      have c4b0 := decide_eq_true c4
      clear c4
      by_cases c5 : x14_1 < (l0.length : Int)
      ·rw [if_pos c5] at H
       have c5b0 := decide_eq_true c5
       clear c5
       have HC6 := aM_ H
       clear H
       have p309 : 0 ≤ (x14_1 : Int) := of_decide_eq_true (by ((with_reducible assumption)))
       have q309 : x14_1 < (l0.length : Int) := of_decide_eq_true (by ((with_reducible assumption)))
       obtain ⟨ad309, A309_5, c309_5, e309, hx309_0, hx309_1, hx309_2, hx309_3, hx309_4, hx309_5, hx309_6, hl309_5, hi309_5⟩ := at_T25 HR0.out x14_1 p309 q309
       cases e309
       replace hx309_0 := cN_ HB hx309_0
       replace hx309_1 := cN_ HB hx309_1
       replace hx309_2 := cN_ HB hx309_2
       replace hx309_3 := cN_ HB hx309_3
       replace hx309_4 := cN_ HB hx309_4
       replace hx309_5 := cN_ HB hx309_5
       replace hx309_6 := cN_ HB hx309_6
       have HR309_5 := aM_ hi309_5
       have HC309_5 := aM_ hl309_5
       clear hi309_5 hl309_5
       replace p309 := eq_true p309
       replace q309 := eq_true q309
       go_upto_region 6 with ((((with_reducible refine gate_dst (N := 4) rfl ?_); refine box_event ?hg (N := 4) ?hd (cs := #[.int .u64 0, .int .u64 0, .int .u64 0, .int .u64 0, .int .u64 0, .slice none 0 0, .bool false]) (t := 25) ?hr ?_; (case hd => rfl); (case hg => rfl); (case hr => ((go_simp; done))); intro gb310 hg w7 hbox hb; have BK310 := aM_ (hbox); have GW310 := aM_ (geN HB hg); have GE310 := aM_ (geN HB hg); replace HB := bsA_ HB hb; clear hb hbox hg; obtain ⟨hcz8_0, hcz8_1, hcz8_2, hcz8_3, hcz8_4, hcz8_5, hcz8_6, hfz8_0, hfz8_1, hfz8_2, hfz8_3, hfz8_4, hfz8_5, hfz8_6⟩ := cz7_ (w := w7) BK310.out)))
       go_cut [36] (fun v36 wc => ∃ (kq : Nat) (x36_5 : Bool), v36 = .bool x36_5 ∧ Aside0 (damsonref10_Check.j1 kq l0 x14_1 l0 (l0.length : Int) x14_1 x36_5 ((rd_T25 l0 x14_1).f0) ((rd_T25 l0 x14_1).f1) ((rd_T25 l0 x14_1).f2) ((rd_T25 l0 x14_1).f3) ((rd_T25 l0 x14_1).f4) ((rd_T25 l0 x14_1).f5) ((rd_T25 l0 x14_1).f6) = some r) ∧ Aside0 (kq ≤ k1) ∧ Aside0 (wc.heap[gb310]? = some (.cells #[.int .u64 ((rd_T25 l0 x14_1).f0), .int .u64 ((rd_T25 l0 x14_1).f1), .int .u64 ((rd_T25 l0 x14_1).f2), .int .u64 ((rd_T25 l0 x14_1).f3), .int .u64 ((rd_T25 l0 x14_1).f4), (.slice A309_5 ((rd_T25 l0 x14_1).f5).length c309_5), .bool ((rd_T25 l0 x14_1).f6)] 25 (0, 0))) ∧ Aside0 (Below w.heap.size w wc))
       case first =>
        have H := HC6.out
        clear HC6
        replace H := oB_ H
        obtain ⟨t311, A90, H⟩ := H
        replace H : (if t311 = 0 then (if x14_1 > 0 then (if 0 ≤ (wrap64 (x14_1 - 1)) then (if (wrap64 (x14_1 - 1)) < (l0.length : Int) then (damsonref10_Check.j1 k1 l0 x14_1 l0 (l0.length : Int) x14_1 (decide (((rd_T25 l0 (wrap64 (x14_1 - 1))).f0) ≥ ((rd_T25 l0 x14_1).f0))) ((rd_T25 l0 x14_1).f0) ((rd_T25 l0 x14_1).f1) ((rd_T25 l0 x14_1).f2) ((rd_T25 l0 x14_1).f3) ((rd_T25 l0 x14_1).f4) ((rd_T25 l0 x14_1).f5) ((rd_T25 l0 x14_1).f6)) else (none)) else (none)) else (damsonref10_Check.j1 k1 l0 x14_1 l0 (l0.length : Int) x14_1 false ((rd_T25 l0 x14_1).f0) ((rd_T25 l0 x14_1).f1) ((rd_T25 l0 x14_1).f2) ((rd_T25 l0 x14_1).f3) ((rd_T25 l0 x14_1).f4) ((rd_T25 l0 x14_1).f5) ((rd_T25 l0 x14_1).f6))) else (damsonref10_Check.j1 k1 l0 x14_1 l0 (l0.length : Int) x14_1 true ((rd_T25 l0 x14_1).f0) ((rd_T25 l0 x14_1).f1) ((rd_T25 l0 x14_1).f2) ((rd_T25 l0 x14_1).f3) ((rd_T25 l0 x14_1).f4) ((rd_T25 l0 x14_1).f5) ((rd_T25 l0 x14_1).f6))) = some r := H
        have A9 := aM_ A90
        clear A90
        by_cases c10 : t311 = 0
        ·rw [if_pos c10] at H
         have c10b0 : (t311 == 0) = true := beq_iff_eq.mpr c10
         have c10b1 : (t311 != 0) = false := bne_eq_false_iff_eq.mpr c10
         clear c10
         ((skip))
         by_cases c11 : x14_1 > 0
         ·rw [if_pos c11] at H
          have c11b0 : decide (0 < x14_1) = true := decide_eq_true c11
          clear c11
          obtain ⟨ji12, hji12⟩ : ∃ j_ : Int, (wrap64 (x14_1 - 1)) = j_ := ⟨_, rfl⟩
          replace H : (if 0 ≤ (ji12) then (if (ji12) < (l0.length : Int) then (damsonref10_Check.j1 k1 l0 x14_1 l0 (l0.length : Int) x14_1 (decide (((rd_T25 l0 (ji12)).f0) ≥ ((rd_T25 l0 x14_1).f0))) ((rd_T25 l0 x14_1).f0) ((rd_T25 l0 x14_1).f1) ((rd_T25 l0 x14_1).f2) ((rd_T25 l0 x14_1).f3) ((rd_T25 l0 x14_1).f4) ((rd_T25 l0 x14_1).f5) ((rd_T25 l0 x14_1).f6)) else (none)) else (none)) = some r := by ((rw [hji12] at H; exact H))
          have hji12w : (IntKind.i64.wrap (x14_1 - 1)) = ji12 := (i64_w _).trans hji12
          by_cases c13 : 0 ≤ (ji12)
          ·rw [if_pos c13] at H
           have c13b0 := decide_eq_true c13
           clear c13
           by_cases c14 : (ji12) < (l0.length : Int)
           ·rw [if_pos c14] at H
            have c14b0 := decide_eq_true c14
            clear c14
            have H' := aM_ H
            clear H
            try go_wp2
            have n0_ : Aside0 ((((((((w7.setCell ⟨gb310, 0, none⟩ (.int .u64 ((rd_T25 l0 x14_1).f0))).setCell ⟨gb310, 1, none⟩ (.int .u64 ((rd_T25 l0 x14_1).f1))).setCell ⟨gb310, 2, none⟩ (.int .u64 ((rd_T25 l0 x14_1).f2))).setCell ⟨gb310, 3, none⟩ (.int .u64 ((rd_T25 l0 x14_1).f3))).setCell ⟨gb310, 4, none⟩ (.int .u64 ((rd_T25 l0 x14_1).f4))).setCell ⟨gb310, 5, none⟩ (.slice A309_5 ((rd_T25 l0 x14_1).f5).length c309_5)).setCell ⟨gb310, 6, none⟩ (.bool ((rd_T25 l0 x14_1).f6))).heap[gb310]? = some (.cells #[.int .u64 ((rd_T25 l0 x14_1).f0), .int .u64 ((rd_T25 l0 x14_1).f1), .int .u64 ((rd_T25 l0 x14_1).f2), .int .u64 ((rd_T25 l0 x14_1).f3), .int .u64 ((rd_T25 l0 x14_1).f4), .slice A309_5 ((rd_T25 l0 x14_1).f5).length c309_5, .bool ((rd_T25 l0 x14_1).f6)] 25 (0, 0))) := ⟨by apply bp7_; exact BK310.out⟩
            have n1_ : Aside0 (Below w.heap.size w (((((((w7.setCell ⟨gb310, 0, none⟩ (.int .u64 ((rd_T25 l0 x14_1).f0))).setCell ⟨gb310, 1, none⟩ (.int .u64 ((rd_T25 l0 x14_1).f1))).setCell ⟨gb310, 2, none⟩ (.int .u64 ((rd_T25 l0 x14_1).f2))).setCell ⟨gb310, 3, none⟩ (.int .u64 ((rd_T25 l0 x14_1).f3))).setCell ⟨gb310, 4, none⟩ (.int .u64 ((rd_T25 l0 x14_1).f4))).setCell ⟨gb310, 5, none⟩ (.slice A309_5 ((rd_T25 l0 x14_1).f5).length c309_5)).setCell ⟨gb310, 6, none⟩ (.bool ((rd_T25 l0 x14_1).f6)))) := ⟨by repeat (((with_reducible first | exact HB.out | refine below_set ?_ GE310.out)))⟩
            (try clear BK310)
            (try clear HB)
            generalize (((((((w7.setCell ⟨gb310, 0, none⟩ (.int .u64 ((rd_T25 l0 x14_1).f0))).setCell ⟨gb310, 1, none⟩ (.int .u64 ((rd_T25 l0 x14_1).f1))).setCell ⟨gb310, 2, none⟩ (.int .u64 ((rd_T25 l0 x14_1).f2))).setCell ⟨gb310, 3, none⟩ (.int .u64 ((rd_T25 l0 x14_1).f3))).setCell ⟨gb310, 4, none⟩ (.int .u64 ((rd_T25 l0 x14_1).f4))).setCell ⟨gb310, 5, none⟩ (.slice A309_5 ((rd_T25 l0 x14_1).f5).length c309_5)).setCell ⟨gb310, 6, none⟩ (.bool ((rd_T25 l0 x14_1).f6))) = w15 at n0_ n1_ ⊢
            have BK310 := n0_
            have HB := n1_
            clear n0_ n1_
            replace BK310 := aM_ (blk_drew BK310.out)
            replace HB := aM_ (below_drew1 HB.out)
            have p312 : 0 ≤ ((ji12) : Int) := of_decide_eq_true (by ((with_reducible assumption)))
            have q312 : (ji12) < (l0.length : Int) := of_decide_eq_true (by ((with_reducible assumption)))
            obtain ⟨ad312, A312_5, c312_5, e312, hx312_0, hx312_1, hx312_2, hx312_3, hx312_4, hx312_5, hx312_6, hl312_5, hi312_5⟩ := at_T25 HR0.out (ji12) p312 q312
            have hw312_6 := hx312_6
            have hw312_5 := hx312_5
            have hw312_4 := hx312_4
            have hw312_3 := hx312_3
            have hw312_2 := hx312_2
            have hw312_1 := hx312_1
            have hw312_0 := hx312_0
            obtain rfl : ad309 = ad312 := (by injection e312)
            replace hx312_0 := cN_ HB hx312_0
            replace hx312_1 := cN_ HB hx312_1
            replace hx312_2 := cN_ HB hx312_2
            replace hx312_3 := cN_ HB hx312_3
            replace hx312_4 := cN_ HB hx312_4
            replace hx312_5 := cN_ HB hx312_5
            replace hx312_6 := cN_ HB hx312_6
            have HR312_5 := aM_ hi312_5
            have HC312_5 := aM_ hl312_5
            clear hi312_5 hl312_5
            replace p312 := eq_true p312
            replace q312 := eq_true q312
            refine start_ (n := 18) (S := fun w' => w'.cell? ⟨gb310, 0, none⟩ = some (.int .u64 ((rd_T25 l0 x14_1).f0)) ∧ w'.cell? ⟨gb310, 1, none⟩ = some (.int .u64 ((rd_T25 l0 x14_1).f1)) ∧ w'.cell? ⟨gb310, 2, none⟩ = some (.int .u64 ((rd_T25 l0 x14_1).f2)) ∧ w'.cell? ⟨gb310, 3, none⟩ = some (.int .u64 ((rd_T25 l0 x14_1).f3)) ∧ w'.cell? ⟨gb310, 4, none⟩ = some (.int .u64 ((rd_T25 l0 x14_1).f4)) ∧ w'.cell? ⟨gb310, 5, none⟩ = some (.slice A309_5 ((rd_T25 l0 x14_1).f5).length c309_5) ∧ w'.cell? ⟨gb310, 6, none⟩ = some (.bool ((rd_T25 l0 x14_1).f6)) ∧ w'.cell? (ad309.add (((ji12)).toNat * 7)) = some (.int .u64 ((rd_T25 l0 (ji12)).f0)) ∧ w'.cell? ⟨(ad309.add (((ji12)).toNat * 7)).block, (ad309.add (((ji12)).toNat * 7)).off + 1, none⟩ = some (.int .u64 ((rd_T25 l0 (ji12)).f1)) ∧ w'.cell? ⟨(ad309.add (((ji12)).toNat * 7)).block, (ad309.add (((ji12)).toNat * 7)).off + 2, none⟩ = some (.int .u64 ((rd_T25 l0 (ji12)).f2)) ∧ w'.cell? ⟨(ad309.add (((ji12)).toNat * 7)).block, (ad309.add (((ji12)).toNat * 7)).off + 3, none⟩ = some (.int .u64 ((rd_T25 l0 (ji12)).f3)) ∧ w'.cell? ⟨(ad309.add (((ji12)).toNat * 7)).block, (ad309.add (((ji12)).toNat * 7)).off + 4, none⟩ = some (.int .u64 ((rd_T25 l0 (ji12)).f4)) ∧ w'.cell? ⟨(ad309.add (((ji12)).toNat * 7)).block, (ad309.add (((ji12)).toNat * 7)).off + 5, none⟩ = some (.slice A312_5 ((rd_T25 l0 (ji12)).f5).length c312_5) ∧ w'.cell? ⟨(ad309.add (((ji12)).toNat * 7)).block, (ad309.add (((ji12)).toNat * 7)).off + 6, none⟩ = some (.bool ((rd_T25 l0 (ji12)).f6))) (ds := []) #[false, false, false, false, false, false, false, false, false, false, false, false, false, false, false, false, false, false] (by kernel_rfl) rfl rfl ⟨(blk_cell BK310.out 0).trans rfl, (blk_cell BK310.out 1).trans rfl, (blk_cell BK310.out 2).trans rfl, (blk_cell BK310.out 3).trans rfl, (blk_cell BK310.out 4).trans rfl, (blk_cell BK310.out 5).trans rfl, (blk_cell BK310.out 6).trans rfl, (cN_ HB hw312_0), (cN_ HB hw312_1), (cN_ HB hw312_2), (cN_ HB hw312_3), (cN_ HB hw312_4), (cN_ HB hw312_5), (cN_ HB hw312_6)⟩ (fun hHeld => ?_); refine with_tabW damsonref10_Check.tab6 damsonref10_Check.bits6 (fun HT_ HW_ => ?_)
            generalize w15.drew = w16 at BK310 HB HR312_5 hx312_0 hx312_1 hx312_2 hx312_3 hx312_4 hx312_5 hx312_6 hHeld ⊢
            refine take_ (i := 0) (N := some 19) (v := ?_) (a' := ?_) #[true, false, false, false, false, false, false, false, false, false, false, false, false, false, false, false, false, false] rfl rfl (take_ofW HT_.out HW_.out (by kernel_rfl)) (fun _ _ _ h => h) (Or.inl ⟨by rfl, ?_⟩) hHeld ?_ ?_
            rotate_left
            ·rintro w' ⟨s0, s1, s2, s3, s4, s5, s6, s7, s8, s9, s10, s11, s12, s13⟩
             go_simp
             with_reducible rfl
            rotate_left
            ·simp only [Act.put, List.setIfInBounds_toArray, List.set_cons_zero, List.set_cons_succ, i64_w, i32_w]
             rfl
            refine one_ (i := 1) (N := some 20) #[true, true, false, false, false, false, false, false, false, false, false, false, false, false, false, false, false, false] rfl rfl (one_of HT_.out (by kernel_rfl)) (by decide) (fun K hK => ?_)
            refine goes_ Try.func34 (by kernel_rfl) rfl #[.agg #[.int .u64 ((rd_T25 l0 x14_1).f0), .int .u64 ((rd_T25 l0 x14_1).f1), .int .u64 ((rd_T25 l0 x14_1).f2), .int .u64 ((rd_T25 l0 x14_1).f3), .int .u64 ((rd_T25 l0 x14_1).f4), .slice A309_5 ((rd_T25 l0 x14_1).f5).length c309_5, .bool ((rd_T25 l0 x14_1).f6)]] (by rfl) rfl rfl (by (try simp only [List.map_toArray, List.map_cons, List.map_nil]); (rfl)) ?_
            with_reducible refine (damsonref09_Check.calls k1 ((rd_T25 l0 x14_1).f0) ((rd_T25 l0 x14_1).f1) ((rd_T25 l0 x14_1).f2) ((rd_T25 l0 x14_1).f3) ((rd_T25 l0 x14_1).f4) _ _ ((rd_T25 l0 x14_1).f5) ((rd_T25 l0 x14_1).f6) t311 _ ?side1 ?side2 A9.out).mono ?_
            (case side1 => repeat ((exact (Kd.C_below HR309_5.out HB.out))))
            (case side2 => exact HC309_5.out)
            rintro e w17 ⟨rfl, hb⟩
            refine ⟨_, rfl, ?_⟩
            replace BK310 := bbA_ BK310 hb
            replace HB := bsA_ HB hb
            (try clear hb)
            refine hK.out _ _ ⟨(blk_cell BK310.out 0).trans rfl, (blk_cell BK310.out 1).trans rfl, (blk_cell BK310.out 2).trans rfl, (blk_cell BK310.out 3).trans rfl, (blk_cell BK310.out 4).trans rfl, (blk_cell BK310.out 5).trans rfl, (blk_cell BK310.out 6).trans rfl, (cN_ HB hw312_0), (cN_ HB hw312_1), (cN_ HB hw312_2), (cN_ HB hw312_3), (cN_ HB hw312_4), (cN_ HB hw312_5), (cN_ HB hw312_6)⟩ (fun hHeld => ?_)
            clear hK K
            refine norm_ (a' := ?_) ?_ ?_
            rotate_left
            ·show Act.put _ (some 20) _ = _
             simp only [Act.put, List.setIfInBounds_toArray, List.set_cons_zero, List.set_cons_succ, i64_w, i32_w]
             rfl
            refine pureA_ 2 21 (bm 18 7) ?_
            refine pureA_ 3 22 (bm 18 15) ?_
            refine pureA_ 4 23 (bm 18 31) ?_
            refine pureA_ 5 24 (bm 18 63) ?_
            refine pureA_ 6 25 (bm 18 127) ?_
            refine pureA_ 7 26 (bm 18 255) ?_
            refine pureA_ 8 27 (bm 18 511) ?_
            refine pureA_ 9 28 (bm 18 1023) ?_
            refine pureA_ 10 29 (bm 18 2047) ?_
            refine pureA_ 11 30 (bm 18 4095) ?_
            refine pureA_ 13 32 (bm 18 12287) ?_
            refine take_ (i := 12) (N := some 31) (v := ?_) (a' := ?_) #[true, true, true, true, true, true, true, true, true, true, true, true, true, true, false, false, false, false] rfl rfl (take_ofW HT_.out HW_.out (by kernel_rfl)) (fun _ _ _ h => h) (Or.inl ⟨by rfl, ?_⟩) hHeld ?_ ?_
            rotate_left
            ·rintro w' ⟨s0, s1, s2, s3, s4, s5, s6, s7, s8, s9, s10, s11, s12, s13⟩
             go_simp
             with_reducible rfl
            rotate_left
            ·simp only [Act.put, List.setIfInBounds_toArray, List.set_cons_zero, List.set_cons_succ, i64_w, i32_w]
             rfl
            refine take_ (i := 14) (N := some 33) (v := ?_) (a' := ?_) #[true, true, true, true, true, true, true, true, true, true, true, true, true, true, true, false, false, false] rfl rfl (take_ofW HT_.out HW_.out (by kernel_rfl)) (fun _ _ _ h => h) (Or.inl ⟨by rfl, ?_⟩) hHeld ?_ ?_
            rotate_left
            ·rintro w' ⟨s0, s1, s2, s3, s4, s5, s6, s7, s8, s9, s10, s11, s12, s13⟩
             go_simp
             with_reducible rfl
            rotate_left
            ·simp only [Act.put, List.setIfInBounds_toArray, List.set_cons_zero, List.set_cons_succ, i64_w, i32_w]
             rfl
            refine pureA_ 15 34 (bm 18 65535) ?_
            refine pureA_ 16 35 (bm 18 131071) ?_
            refine pureA_ 17 36 (bm 18 262143) ?_
            refine done_ (done_of HT_.out (by kernel_rfl)) ?_
            try go_wp2
            go_meet
            case rel => exact ⟨_, (decide (((rd_T25 l0 (ji12)).f0) ≥ ((rd_T25 l0 x14_1).f0))), (by (rfl)), H', ⟨by have := HK1.out; (omega)⟩, ⟨by exact BK310.out⟩, ⟨by repeat (((with_reducible (exact HB.out))))⟩⟩
           ·rw [if_neg c14] at H
            exact absurd H (by simp)
          ·rw [if_neg c13] at H
           exact absurd H (by simp)
         ·rw [if_neg c11] at H
          have c11b0 : decide (0 < x14_1) = false := decide_eq_false c11
          clear c11
          have H' := aM_ H
          clear H
          try go_wp2
          have n0_ : Aside0 ((((((((w7.setCell ⟨gb310, 0, none⟩ (.int .u64 ((rd_T25 l0 x14_1).f0))).setCell ⟨gb310, 1, none⟩ (.int .u64 ((rd_T25 l0 x14_1).f1))).setCell ⟨gb310, 2, none⟩ (.int .u64 ((rd_T25 l0 x14_1).f2))).setCell ⟨gb310, 3, none⟩ (.int .u64 ((rd_T25 l0 x14_1).f3))).setCell ⟨gb310, 4, none⟩ (.int .u64 ((rd_T25 l0 x14_1).f4))).setCell ⟨gb310, 5, none⟩ (.slice A309_5 ((rd_T25 l0 x14_1).f5).length c309_5)).setCell ⟨gb310, 6, none⟩ (.bool ((rd_T25 l0 x14_1).f6))).heap[gb310]? = some (.cells #[.int .u64 ((rd_T25 l0 x14_1).f0), .int .u64 ((rd_T25 l0 x14_1).f1), .int .u64 ((rd_T25 l0 x14_1).f2), .int .u64 ((rd_T25 l0 x14_1).f3), .int .u64 ((rd_T25 l0 x14_1).f4), .slice A309_5 ((rd_T25 l0 x14_1).f5).length c309_5, .bool ((rd_T25 l0 x14_1).f6)] 25 (0, 0))) := ⟨by apply bp7_; exact BK310.out⟩
          have n1_ : Aside0 (Below w.heap.size w (((((((w7.setCell ⟨gb310, 0, none⟩ (.int .u64 ((rd_T25 l0 x14_1).f0))).setCell ⟨gb310, 1, none⟩ (.int .u64 ((rd_T25 l0 x14_1).f1))).setCell ⟨gb310, 2, none⟩ (.int .u64 ((rd_T25 l0 x14_1).f2))).setCell ⟨gb310, 3, none⟩ (.int .u64 ((rd_T25 l0 x14_1).f3))).setCell ⟨gb310, 4, none⟩ (.int .u64 ((rd_T25 l0 x14_1).f4))).setCell ⟨gb310, 5, none⟩ (.slice A309_5 ((rd_T25 l0 x14_1).f5).length c309_5)).setCell ⟨gb310, 6, none⟩ (.bool ((rd_T25 l0 x14_1).f6)))) := ⟨by repeat (((with_reducible first | exact HB.out | refine below_set ?_ GE310.out)))⟩
          (try clear BK310)
          (try clear HB)
          generalize (((((((w7.setCell ⟨gb310, 0, none⟩ (.int .u64 ((rd_T25 l0 x14_1).f0))).setCell ⟨gb310, 1, none⟩ (.int .u64 ((rd_T25 l0 x14_1).f1))).setCell ⟨gb310, 2, none⟩ (.int .u64 ((rd_T25 l0 x14_1).f2))).setCell ⟨gb310, 3, none⟩ (.int .u64 ((rd_T25 l0 x14_1).f3))).setCell ⟨gb310, 4, none⟩ (.int .u64 ((rd_T25 l0 x14_1).f4))).setCell ⟨gb310, 5, none⟩ (.slice A309_5 ((rd_T25 l0 x14_1).f5).length c309_5)).setCell ⟨gb310, 6, none⟩ (.bool ((rd_T25 l0 x14_1).f6))) = w18 at n0_ n1_ ⊢
          have BK310 := n0_
          have HB := n1_
          clear n0_ n1_
          replace BK310 := aM_ (blk_drew BK310.out)
          replace HB := aM_ (below_drew1 HB.out)
          refine start_ (n := 18) (S := fun w' => w'.cell? ⟨gb310, 0, none⟩ = some (.int .u64 ((rd_T25 l0 x14_1).f0)) ∧ w'.cell? ⟨gb310, 1, none⟩ = some (.int .u64 ((rd_T25 l0 x14_1).f1)) ∧ w'.cell? ⟨gb310, 2, none⟩ = some (.int .u64 ((rd_T25 l0 x14_1).f2)) ∧ w'.cell? ⟨gb310, 3, none⟩ = some (.int .u64 ((rd_T25 l0 x14_1).f3)) ∧ w'.cell? ⟨gb310, 4, none⟩ = some (.int .u64 ((rd_T25 l0 x14_1).f4)) ∧ w'.cell? ⟨gb310, 5, none⟩ = some (.slice A309_5 ((rd_T25 l0 x14_1).f5).length c309_5) ∧ w'.cell? ⟨gb310, 6, none⟩ = some (.bool ((rd_T25 l0 x14_1).f6))) (ds := []) #[false, false, false, false, false, false, false, false, false, false, false, false, false, false, false, false, false, false] (by kernel_rfl) rfl rfl ⟨(blk_cell BK310.out 0).trans rfl, (blk_cell BK310.out 1).trans rfl, (blk_cell BK310.out 2).trans rfl, (blk_cell BK310.out 3).trans rfl, (blk_cell BK310.out 4).trans rfl, (blk_cell BK310.out 5).trans rfl, (blk_cell BK310.out 6).trans rfl⟩ (fun hHeld => ?_); refine with_tabW damsonref10_Check.tab6 damsonref10_Check.bits6 (fun HT_ HW_ => ?_)
          generalize w18.drew = w19 at BK310 HB hHeld ⊢
          refine take_ (i := 0) (N := some 19) (v := ?_) (a' := ?_) #[true, false, false, false, false, false, false, false, false, false, false, false, false, false, false, false, false, false] rfl rfl (take_ofW HT_.out HW_.out (by kernel_rfl)) (fun _ _ _ h => h) (Or.inl ⟨by rfl, ?_⟩) hHeld ?_ ?_
          rotate_left
          ·rintro w' ⟨s0, s1, s2, s3, s4, s5, s6⟩
           go_simp
           with_reducible rfl
          rotate_left
          ·simp only [Act.put, List.setIfInBounds_toArray, List.set_cons_zero, List.set_cons_succ, i64_w, i32_w]
           rfl
          refine one_ (i := 1) (N := some 20) #[true, true, false, false, false, false, false, false, false, false, false, false, false, false, false, false, false, false] rfl rfl (one_of HT_.out (by kernel_rfl)) (by decide) (fun K hK => ?_)
          refine goes_ Try.func34 (by kernel_rfl) rfl #[.agg #[.int .u64 ((rd_T25 l0 x14_1).f0), .int .u64 ((rd_T25 l0 x14_1).f1), .int .u64 ((rd_T25 l0 x14_1).f2), .int .u64 ((rd_T25 l0 x14_1).f3), .int .u64 ((rd_T25 l0 x14_1).f4), .slice A309_5 ((rd_T25 l0 x14_1).f5).length c309_5, .bool ((rd_T25 l0 x14_1).f6)]] (by rfl) rfl rfl (by (try simp only [List.map_toArray, List.map_cons, List.map_nil]); (rfl)) ?_
          with_reducible refine (damsonref09_Check.calls k1 ((rd_T25 l0 x14_1).f0) ((rd_T25 l0 x14_1).f1) ((rd_T25 l0 x14_1).f2) ((rd_T25 l0 x14_1).f3) ((rd_T25 l0 x14_1).f4) _ _ ((rd_T25 l0 x14_1).f5) ((rd_T25 l0 x14_1).f6) t311 _ ?side1 ?side2 A9.out).mono ?_
          (case side1 => repeat ((exact (Kd.C_below HR309_5.out HB.out))))
          (case side2 => exact HC309_5.out)
          rintro e w20 ⟨rfl, hb⟩
          refine ⟨_, rfl, ?_⟩
          replace BK310 := bbA_ BK310 hb
          replace HB := bsA_ HB hb
          (try clear hb)
          refine hK.out _ _ ⟨(blk_cell BK310.out 0).trans rfl, (blk_cell BK310.out 1).trans rfl, (blk_cell BK310.out 2).trans rfl, (blk_cell BK310.out 3).trans rfl, (blk_cell BK310.out 4).trans rfl, (blk_cell BK310.out 5).trans rfl, (blk_cell BK310.out 6).trans rfl⟩ (fun hHeld => ?_)
          clear hK K
          refine norm_ (a' := ?_) ?_ ?_
          rotate_left
          ·show Act.put _ (some 20) _ = _
           simp only [Act.put, List.setIfInBounds_toArray, List.set_cons_zero, List.set_cons_succ, i64_w, i32_w]
           rfl
          refine pureA_ 2 21 (bm 18 7) ?_
          refine pureA_ 3 22 (bm 18 15) ?_
          refine pureA_ 4 23 (bm 18 31) ?_
          refine pureA_ 5 24 (bm 18 63) ?_
          refine pureA_ 6 25 (bm 18 127) ?_
          refine pureU_ 7 26 (bm 18 255) ?_
          refine pureU_ 8 27 (bm 18 511) ?_
          refine pureU_ 9 28 (bm 18 1023) ?_
          refine pureU_ 10 29 (bm 18 2047) ?_
          refine pureU_ 11 30 (bm 18 4095) ?_
          refine pureU_ 12 31 (bm 18 8191) ?_
          refine pureU_ 13 32 (bm 18 16383) ?_
          refine pureU_ 14 33 (bm 18 32767) ?_
          refine pureU_ 15 34 (bm 18 65535) ?_
          refine pureA_ 16 35 (bm 18 131071) ?_
          refine pureA_ 17 36 (bm 18 262143) ?_
          refine done_ (done_of HT_.out (by kernel_rfl)) ?_
          try go_wp2
          go_meet
          case rel => exact ⟨_, (false), (by (rfl)), H', ⟨by have := HK1.out; (omega)⟩, ⟨by exact BK310.out⟩, ⟨by repeat (((with_reducible (exact HB.out))))⟩⟩
        ·rw [if_neg c10] at H
         have c10b0 : (t311 == 0) = false := beq_eq_false_iff_ne.mpr c10
         have c10b1 : (t311 != 0) = true := bne_iff_ne.mpr c10
         ((skip))
         have H' := aM_ H
         clear H
         try go_wp2
         have n0_ : Aside0 ((((((((w7.setCell ⟨gb310, 0, none⟩ (.int .u64 ((rd_T25 l0 x14_1).f0))).setCell ⟨gb310, 1, none⟩ (.int .u64 ((rd_T25 l0 x14_1).f1))).setCell ⟨gb310, 2, none⟩ (.int .u64 ((rd_T25 l0 x14_1).f2))).setCell ⟨gb310, 3, none⟩ (.int .u64 ((rd_T25 l0 x14_1).f3))).setCell ⟨gb310, 4, none⟩ (.int .u64 ((rd_T25 l0 x14_1).f4))).setCell ⟨gb310, 5, none⟩ (.slice A309_5 ((rd_T25 l0 x14_1).f5).length c309_5)).setCell ⟨gb310, 6, none⟩ (.bool ((rd_T25 l0 x14_1).f6))).heap[gb310]? = some (.cells #[.int .u64 ((rd_T25 l0 x14_1).f0), .int .u64 ((rd_T25 l0 x14_1).f1), .int .u64 ((rd_T25 l0 x14_1).f2), .int .u64 ((rd_T25 l0 x14_1).f3), .int .u64 ((rd_T25 l0 x14_1).f4), .slice A309_5 ((rd_T25 l0 x14_1).f5).length c309_5, .bool ((rd_T25 l0 x14_1).f6)] 25 (0, 0))) := ⟨by apply bp7_; exact BK310.out⟩
         have n1_ : Aside0 (Below w.heap.size w (((((((w7.setCell ⟨gb310, 0, none⟩ (.int .u64 ((rd_T25 l0 x14_1).f0))).setCell ⟨gb310, 1, none⟩ (.int .u64 ((rd_T25 l0 x14_1).f1))).setCell ⟨gb310, 2, none⟩ (.int .u64 ((rd_T25 l0 x14_1).f2))).setCell ⟨gb310, 3, none⟩ (.int .u64 ((rd_T25 l0 x14_1).f3))).setCell ⟨gb310, 4, none⟩ (.int .u64 ((rd_T25 l0 x14_1).f4))).setCell ⟨gb310, 5, none⟩ (.slice A309_5 ((rd_T25 l0 x14_1).f5).length c309_5)).setCell ⟨gb310, 6, none⟩ (.bool ((rd_T25 l0 x14_1).f6)))) := ⟨by repeat (((with_reducible first | exact HB.out | refine below_set ?_ GE310.out)))⟩
         (try clear BK310)
         (try clear HB)
         generalize (((((((w7.setCell ⟨gb310, 0, none⟩ (.int .u64 ((rd_T25 l0 x14_1).f0))).setCell ⟨gb310, 1, none⟩ (.int .u64 ((rd_T25 l0 x14_1).f1))).setCell ⟨gb310, 2, none⟩ (.int .u64 ((rd_T25 l0 x14_1).f2))).setCell ⟨gb310, 3, none⟩ (.int .u64 ((rd_T25 l0 x14_1).f3))).setCell ⟨gb310, 4, none⟩ (.int .u64 ((rd_T25 l0 x14_1).f4))).setCell ⟨gb310, 5, none⟩ (.slice A309_5 ((rd_T25 l0 x14_1).f5).length c309_5)).setCell ⟨gb310, 6, none⟩ (.bool ((rd_T25 l0 x14_1).f6))) = w21 at n0_ n1_ ⊢
         have BK310 := n0_
         have HB := n1_
         clear n0_ n1_
         replace BK310 := aM_ (blk_drew BK310.out)
         replace HB := aM_ (below_drew1 HB.out)
         refine start_ (n := 18) (S := fun w' => w'.cell? ⟨gb310, 0, none⟩ = some (.int .u64 ((rd_T25 l0 x14_1).f0)) ∧ w'.cell? ⟨gb310, 1, none⟩ = some (.int .u64 ((rd_T25 l0 x14_1).f1)) ∧ w'.cell? ⟨gb310, 2, none⟩ = some (.int .u64 ((rd_T25 l0 x14_1).f2)) ∧ w'.cell? ⟨gb310, 3, none⟩ = some (.int .u64 ((rd_T25 l0 x14_1).f3)) ∧ w'.cell? ⟨gb310, 4, none⟩ = some (.int .u64 ((rd_T25 l0 x14_1).f4)) ∧ w'.cell? ⟨gb310, 5, none⟩ = some (.slice A309_5 ((rd_T25 l0 x14_1).f5).length c309_5) ∧ w'.cell? ⟨gb310, 6, none⟩ = some (.bool ((rd_T25 l0 x14_1).f6))) (ds := []) #[false, false, false, false, false, false, false, false, false, false, false, false, false, false, false, false, false, false] (by kernel_rfl) rfl rfl ⟨(blk_cell BK310.out 0).trans rfl, (blk_cell BK310.out 1).trans rfl, (blk_cell BK310.out 2).trans rfl, (blk_cell BK310.out 3).trans rfl, (blk_cell BK310.out 4).trans rfl, (blk_cell BK310.out 5).trans rfl, (blk_cell BK310.out 6).trans rfl⟩ (fun hHeld => ?_); refine with_tabW damsonref10_Check.tab6 damsonref10_Check.bits6 (fun HT_ HW_ => ?_)
         generalize w21.drew = w22 at BK310 HB hHeld ⊢
         refine take_ (i := 0) (N := some 19) (v := ?_) (a' := ?_) #[true, false, false, false, false, false, false, false, false, false, false, false, false, false, false, false, false, false] rfl rfl (take_ofW HT_.out HW_.out (by kernel_rfl)) (fun _ _ _ h => h) (Or.inl ⟨by rfl, ?_⟩) hHeld ?_ ?_
         rotate_left
         ·rintro w' ⟨s0, s1, s2, s3, s4, s5, s6⟩
          go_simp
          with_reducible rfl
         rotate_left
         ·simp only [Act.put, List.setIfInBounds_toArray, List.set_cons_zero, List.set_cons_succ, i64_w, i32_w]
          rfl
         refine one_ (i := 1) (N := some 20) #[true, true, false, false, false, false, false, false, false, false, false, false, false, false, false, false, false, false] rfl rfl (one_of HT_.out (by kernel_rfl)) (by decide) (fun K hK => ?_)
         refine goes_ Try.func34 (by kernel_rfl) rfl #[.agg #[.int .u64 ((rd_T25 l0 x14_1).f0), .int .u64 ((rd_T25 l0 x14_1).f1), .int .u64 ((rd_T25 l0 x14_1).f2), .int .u64 ((rd_T25 l0 x14_1).f3), .int .u64 ((rd_T25 l0 x14_1).f4), .slice A309_5 ((rd_T25 l0 x14_1).f5).length c309_5, .bool ((rd_T25 l0 x14_1).f6)]] (by rfl) rfl rfl (by (try simp only [List.map_toArray, List.map_cons, List.map_nil]); (rfl)) ?_
         with_reducible refine (damsonref09_Check.calls k1 ((rd_T25 l0 x14_1).f0) ((rd_T25 l0 x14_1).f1) ((rd_T25 l0 x14_1).f2) ((rd_T25 l0 x14_1).f3) ((rd_T25 l0 x14_1).f4) _ _ ((rd_T25 l0 x14_1).f5) ((rd_T25 l0 x14_1).f6) t311 _ ?side1 ?side2 A9.out).mono ?_
         (case side1 => repeat ((exact (Kd.C_below HR309_5.out HB.out))))
         (case side2 => exact HC309_5.out)
         rintro e w23 ⟨rfl, hb⟩
         refine ⟨_, rfl, ?_⟩
         replace BK310 := bbA_ BK310 hb
         replace HB := bsA_ HB hb
         (try clear hb)
         refine hK.out _ _ ⟨(blk_cell BK310.out 0).trans rfl, (blk_cell BK310.out 1).trans rfl, (blk_cell BK310.out 2).trans rfl, (blk_cell BK310.out 3).trans rfl, (blk_cell BK310.out 4).trans rfl, (blk_cell BK310.out 5).trans rfl, (blk_cell BK310.out 6).trans rfl⟩ (fun hHeld => ?_)
         clear hK K
         refine norm_ (a' := ?_) ?_ ?_
         rotate_left
         ·show Act.put _ (some 20) _ = _
          simp only [Act.put, List.setIfInBounds_toArray, List.set_cons_zero, List.set_cons_succ, i64_w, i32_w]
          rfl
         refine pureA_ 2 21 (bm 18 7) ?_
         refine pureA_ 3 22 (bm 18 15) ?_
         refine pureU_ 4 23 (bm 18 31) ?_
         refine pureU_ 5 24 (bm 18 63) ?_
         refine pureU_ 6 25 (bm 18 127) ?_
         refine pureU_ 7 26 (bm 18 255) ?_
         refine pureU_ 8 27 (bm 18 511) ?_
         refine pureU_ 9 28 (bm 18 1023) ?_
         refine pureU_ 10 29 (bm 18 2047) ?_
         refine pureU_ 11 30 (bm 18 4095) ?_
         refine pureU_ 12 31 (bm 18 8191) ?_
         refine pureU_ 13 32 (bm 18 16383) ?_
         refine pureU_ 14 33 (bm 18 32767) ?_
         refine pureU_ 15 34 (bm 18 65535) ?_
         refine pureU_ 16 35 (bm 18 131071) ?_
         refine pureA_ 17 36 (bm 18 262143) ?_
         refine done_ (done_of HT_.out (by kernel_rfl)) ?_
         try go_wp2
         go_meet
         case rel => exact ⟨_, (true), (by (rfl)), H', ⟨by have := HK1.out; (omega)⟩, ⟨by exact BK310.out⟩, ⟨by repeat (((with_reducible (exact HB.out))))⟩⟩
       case rest =>
        clear HC6
        try clear c3b0
        try clear c4b0
        try clear c5b0
        try clear hcz8_0
        try clear hcz8_1
        try clear hcz8_2
        try clear hcz8_3
        try clear hcz8_4
        try clear hcz8_5
        try clear hcz8_6
        try clear hfz8_0
        try clear hfz8_1
        try clear hfz8_2
        try clear hfz8_3
        try clear hfz8_4
        try clear hfz8_5
        try clear hfz8_6
        try clear hx309_0
        try clear hx309_1
        try clear hx309_2
        try clear hx309_3
        try clear hx309_4
        try clear hx309_5
        try clear hx309_6
        try clear p309
        try clear q309
        obtain ⟨kq, x36_5, rfl, HA, HJ5, BK310, HB⟩ := hcut
        cases kq with
        | zero => exact absurd HA.out (by simp [damsonref10_Check.j1])
        | succ kj5 =>
         have H := HA.out
         clear HA
         simp only [damsonref10_Check.j1] at H
         by_cases c24 : x36_5 = true
         ·subst c24
          have H1 : (some 1) = some r := by rw [if_pos rfl] at H; exact H
          clear H
          have H := H1
          clear H1
          obtain rfl := Option.some.inj H
          go_wp2
          go_ret
          exact ⟨by (rfl), by repeat (((with_reducible (exact HB.out))))⟩
         ·replace c24 := Bool.eq_false_iff.mpr c24
          subst c24
          have H1 : (damsonref10_Check.l1 kj5 l0 x14_1 l0 (l0.length : Int) x14_1 ((rd_T25 l0 x14_1).f5) (((rd_T25 l0 x14_1).f5).length : Int) 0) = some r := by rw [if_neg (show ¬ (false = true) by decide)] at H; exact H
          clear H
          have H := H1
          clear H1
          have H' := aM_ H
          clear H
          obtain ⟨hcz25_0, hcz25_1, hcz25_2, hcz25_3, hcz25_4, hcz25_5, hcz25_6, hfz25_0, hfz25_1, hfz25_2, hfz25_3, hfz25_4, hfz25_5, hfz25_6⟩ := cz7_ (w := wc) BK310.out
          go_wp2
          go_loopg [40] kj5 (fun kq v40 w' => ∃ (x40_3 : Int), v40 = .int .i64 x40_3 ∧ Aside0 (damsonref10_Check.l1 kq l0 x14_1 l0 (l0.length : Int) x14_1 ((rd_T25 l0 x14_1).f5) (((rd_T25 l0 x14_1).f5).length : Int) x40_3 = some r) ∧ Aside0 (kq ≤ kj5) ∧ Aside0 (w'.heap[gb310]? = some (.cells #[.int .u64 ((rd_T25 l0 x14_1).f0), .int .u64 ((rd_T25 l0 x14_1).f1), .int .u64 ((rd_T25 l0 x14_1).f2), .int .u64 ((rd_T25 l0 x14_1).f3), .int .u64 ((rd_T25 l0 x14_1).f4), (.slice A309_5 ((rd_T25 l0 x14_1).f5).length c309_5), .bool ((rd_T25 l0 x14_1).f6)] 25 (0, 0))) ∧ Aside0 (Below w.heap.size w w'))
          case atStart => exact ⟨(0), (by (rfl)), H', ⟨Nat.le_refl _⟩, ⟨by exact BK310.out⟩, ⟨by repeat (((with_reducible (exact HB.out))))⟩⟩
          case round =>
           clear H'
           try clear hcz25_0
           try clear hcz25_1
           try clear hcz25_2
           try clear hcz25_3
           try clear hcz25_4
           try clear hcz25_5
           try clear hcz25_6
           try clear hfz25_0
           try clear hfz25_1
           try clear hfz25_2
           try clear hfz25_3
           try clear hfz25_4
           try clear hfz25_5
           try clear hfz25_6
           obtain ⟨x40_3, rfl, HA, HK3, BK310, HB⟩ := hrel
           cases gk with
           | zero => exact absurd HA.out (by simp [damsonref10_Check.l1])
           | succ k3 =>
            have H := HA.out
            clear HA
            simp only [damsonref10_Check.l1] at H
            by_cases c26 : x40_3 < (((rd_T25 l0 x14_1).f5).length : Int)
            ·rw [if_pos c26] at H
             have c26b0 := decide_eq_true c26
             clear c26
             by_cases c27 : 0 ≤ x40_3
             ·rw [if_pos c27] at H
              have c27b0 := decide_eq_true c27
              clear c27
              by_cases c28 : x40_3 < (((rd_T25 l0 x14_1).f5).length : Int)
              ·rw [if_pos c28] at H
               have c28b0 := decide_eq_true c28
               clear c28
               by_cases c29 : 0 ≤ x14_1
               ·rw [if_pos c29] at H
                have c29b0 := eq_true c29
                have c29b1 := decide_eq_true c29
                clear c29
                by_cases c30 : x14_1 ≤ (l0.length : Int)
                ·rw [if_pos c30] at H
                 have c30b0 := eq_true c30
                 have c30b1 := decide_eq_true c30
                 clear c30
                 obtain ⟨y315, hy315⟩ : ∃ y_ : List (S25), y_ = (l0.take (x14_1 : Int).toNat) := ⟨_, rfl⟩
                 replace H : ((damsonref10_where.f k3 y315 ((rd_T44 ((rd_T25 l0 x14_1).f5) x40_3).f0)).bind fun t319 => (if t319 ≥ 0 then (some 1) else (damsonref10_Check.l1 k3 l0 x14_1 l0 (l0.length : Int) x14_1 ((rd_T25 l0 x14_1).f5) (((rd_T25 l0 x14_1).f5).length : Int) (wrap64 (x40_3 + 1))))) = some r := by ((rw [hy315]; with_reducible exact H))
                 have Ny315 := aM_ hy315
                 clear hy315
                 replace H := oB_ H
                 obtain ⟨t319, A310, H⟩ := H
                 replace H : (if t319 ≥ 0 then (some 1) else (damsonref10_Check.l1 k3 l0 x14_1 l0 (l0.length : Int) x14_1 ((rd_T25 l0 x14_1).f5) (((rd_T25 l0 x14_1).f5).length : Int) (wrap64 (x40_3 + 1)))) = some r := H
                 have A31 := aM_ A310
                 clear A310
                 by_cases c32 : t319 ≥ 0
                 ·rw [if_pos c32] at H
                  have c32b0 : decide (0 ≤ t319) = true := decide_eq_true c32
                  clear c32
                  obtain rfl := Option.some.inj H
                  have p313 : 0 ≤ (x40_3 : Int) := of_decide_eq_true (by ((with_reducible assumption)))
                  have q313 : x40_3 < (((rd_T25 l0 x14_1).f5).length : Int) := of_decide_eq_true (by ((with_reducible assumption)))
                  obtain ⟨ad313, e313, hx313_0, hx313_1⟩ := at_T44 HR309_5.out x40_3 p313 q313
                  cases e313
                  replace hx313_0 := cN_ HB hx313_0
                  replace hx313_1 := cN_ HB hx313_1
                  replace p313 := eq_true p313
                  replace q313 := eq_true q313
                  try go_wp2_with ((((with_reducible refine gate_dst (N := 6) rfl ?_); refine box_event ?hg (N := 6) ?hd (cs := #[.int .u64 0, .int .u64 0]) (t := 44) ?hr ?_; (case hd => rfl); (case hg => rfl); (case hr => ((go_simp; done))); intro gb314 hg w33 hbox hb; have BK314 := aM_ (hbox); have GW314 := aM_ (geN HB hg); have GE314 := aM_ (geN HB hg); replace HB := bsA_ HB hb; have NB310_314 := aM_ (neN BK310 hg); have NB314_310 := aM_ (neN' BK310 hg); replace BK310 := bbA_ BK310 hb; clear hb hbox hg; have hnb34 := NB314_310.out; have hnc34 := NB310_314.out; obtain ⟨hcz35_0, hcz35_1, hfz35_0, hfz35_1⟩ := cz2_ (w := w33) BK314.out)))
                  have n0_ : Aside0 (((w33.setCell ⟨gb314, 0, none⟩ (.int .u64 ((rd_T44 ((rd_T25 l0 x14_1).f5) x40_3).f0))).setCell ⟨gb314, 1, none⟩ (.int .u64 ((rd_T44 ((rd_T25 l0 x14_1).f5) x40_3).f1))).heap[gb310]? = some (.cells #[.int .u64 ((rd_T25 l0 x14_1).f0), .int .u64 ((rd_T25 l0 x14_1).f1), .int .u64 ((rd_T25 l0 x14_1).f2), .int .u64 ((rd_T25 l0 x14_1).f3), .int .u64 ((rd_T25 l0 x14_1).f4), .slice (some ad313) ((rd_T25 l0 x14_1).f5).length c309_5, .bool ((rd_T25 l0 x14_1).f6)] 25 (0, 0))) := ⟨by refine blk_far ?_ NB310_314.out _; refine blk_far ?_ NB310_314.out _; exact BK310.out⟩
                  have n1_ : Aside0 (((w33.setCell ⟨gb314, 0, none⟩ (.int .u64 ((rd_T44 ((rd_T25 l0 x14_1).f5) x40_3).f0))).setCell ⟨gb314, 1, none⟩ (.int .u64 ((rd_T44 ((rd_T25 l0 x14_1).f5) x40_3).f1))).heap[gb314]? = some (.cells #[.int .u64 ((rd_T44 ((rd_T25 l0 x14_1).f5) x40_3).f0), .int .u64 ((rd_T44 ((rd_T25 l0 x14_1).f5) x40_3).f1)] 44 (0, 0))) := ⟨by apply bp2_; exact BK314.out⟩
                  have n2_ : Aside0 (Below w.heap.size w ((w33.setCell ⟨gb314, 0, none⟩ (.int .u64 ((rd_T44 ((rd_T25 l0 x14_1).f5) x40_3).f0))).setCell ⟨gb314, 1, none⟩ (.int .u64 ((rd_T44 ((rd_T25 l0 x14_1).f5) x40_3).f1)))) := ⟨by repeat (((with_reducible first | exact HB.out | refine below_set ?_ GE314.out)))⟩
                  (try clear BK310)
                  (try clear BK314)
                  (try clear HB)
                  generalize ((w33.setCell ⟨gb314, 0, none⟩ (.int .u64 ((rd_T44 ((rd_T25 l0 x14_1).f5) x40_3).f0))).setCell ⟨gb314, 1, none⟩ (.int .u64 ((rd_T44 ((rd_T25 l0 x14_1).f5) x40_3).f1))) = w36 at n0_ n1_ n2_ ⊢
                  have BK310 := n0_
                  have BK314 := n1_
                  have HB := n2_
                  clear n0_ n1_ n2_
                  replace BK310 := aM_ (blk_drew BK310.out)
                  replace BK314 := aM_ (blk_drew BK314.out)
                  replace HB := aM_ (below_drew1 HB.out)
                  have q38 : (x14_1 : Int) ≤ ((l0.length : Int) : Int) := of_decide_eq_true (by ((with_reducible assumption)))
                  obtain ⟨i038, hi038, _, hsz38, _⟩ := info_parts info25
                  have hroom38 : l0.length ≤ c0 := HC0.out
                  have hC38 : Kd.C k25 _ (some ad309) l0.length l0 := HR0.out
                  have hcut38 := cut_to (P := Try.prog) 47 25 .i64 Try.underlying47 hi038 (some ad309) l0.length c0 x14_1 (of_decide_eq_true (by ((with_reducible assumption)))) q38 hroom38
                  have hr38 := Kd.C_take (m := (x14_1 : Int).toNat) hC38 (by omega)
                  have hy38 : y315.length = (x14_1 : Int).toNat := (by rw [Ny315.out, List.length_take]; omega)
                  rw [← Ny315.out] at hr38
                  rw [← hy38] at hcut38
                  have HR318 := aM_ hr38
                  have HC318 := aM_ (show y315.length ≤ c0 from by omega)
                  clear hr38 hC38 hroom38 hi038 hsz38
                  have KY38 := aM_ hy38
                  clear hy38
                  replace q38 := eq_true q38
                  refine start_ (n := 7) (S := fun w' => w'.cell? ⟨gb314, 0, none⟩ = some (.int .u64 ((rd_T44 ((rd_T25 l0 x14_1).f5) x40_3).f0)) ∧ w'.cell? ⟨gb314, 1, none⟩ = some (.int .u64 ((rd_T44 ((rd_T25 l0 x14_1).f5) x40_3).f1))) (ds := []) #[false, false, false, false, false, false, false] (by kernel_rfl) rfl rfl ⟨(blk_cell BK314.out 0).trans rfl, (blk_cell BK314.out 1).trans rfl⟩ (fun hHeld => ?_)
                  generalize w36.drew = w37 at BK310 BK314 HB HR318 hHeld ⊢
                  refine pure_ (i := 0) (N := some 44) (v := ?_) (a' := ?_) #[true, false, false, false, false, false, false] rfl rfl (by kernel_rfl) (fun _ _ _ h => h) (Or.inl ⟨by rfl, ?_⟩) ?_ ?_
                  rotate_left
                  ·intro w'
                   go_simp
                   with_reducible rfl
                  rotate_left
                  ·simp only [Act.put, List.setIfInBounds_toArray, List.set_cons_zero, List.set_cons_succ, i64_w, i32_w]
                   rfl
                  refine pure_ (i := 1) (N := some 45) (v := ?_) (a' := ?_) #[true, true, false, false, false, false, false] rfl rfl (by kernel_rfl) (fun _ _ _ h => h) (Or.inl ⟨by rfl, ?_⟩) ?_ ?_
                  rotate_left
                  ·intro w'
                   go_simp
                   with_reducible rfl
                  rotate_left
                  ·simp only [Act.put, List.setIfInBounds_toArray, List.set_cons_zero, List.set_cons_succ, i64_w, i32_w]
                   rfl
                  refine pure_ (i := 2) (N := some 46) (v := ?_) (a' := ?_) #[true, true, true, false, false, false, false] rfl rfl (by kernel_rfl) (fun _ _ _ h => h) (Or.inl ⟨by rfl, ?_⟩) ?_ ?_
                  rotate_left
                  ·intro w'
                   go_simp
                   with_reducible rfl
                  rotate_left
                  ·simp only [Act.put, List.setIfInBounds_toArray, List.set_cons_zero, List.set_cons_succ, i64_w, i32_w]
                   rfl
                  refine pure_ (i := 3) (N := some 47) (v := ?_) (a' := ?_) #[true, true, true, true, false, false, false] rfl rfl (by kernel_rfl) (fun _ _ _ h => h) (Or.inl ⟨by rfl, ?_⟩) ?_ ?_
                  rotate_left
                  ·intro w'
                   go_simp
                   with_reducible rfl
                  rotate_left
                  ·simp only [Act.put, List.setIfInBounds_toArray, List.set_cons_zero, List.set_cons_succ, i64_w, i32_w]
                   rfl
                  refine take_ (i := 4) (N := some 48) (v := ?_) (a' := ?_) #[true, true, true, true, true, false, false] rfl rfl (by kernel_rfl) (fun _ _ _ h => h) (Or.inl ⟨by rfl, ?_⟩) hHeld ?_ ?_
                  rotate_left
                  ·rintro w' ⟨s0, s1⟩
                   go_simp
                   with_reducible rfl
                  rotate_left
                  ·simp only [Act.put, List.setIfInBounds_toArray, List.set_cons_zero, List.set_cons_succ, i64_w, i32_w]
                   rfl
                  refine one_ (i := 5) (N := some 49) #[true, true, true, true, true, true, false] rfl rfl (by kernel_rfl) (by decide) (fun K hK => ?_)
                  refine goes_ Try.func108 (by kernel_rfl) rfl #[.slice (some ad309) y315.length c0, .int .u64 ((rd_T44 ((rd_T25 l0 x14_1).f5) x40_3).f0)] (by rfl) rfl rfl (by (try simp only [List.map_toArray, List.map_cons, List.map_nil]); (rfl)) ?_
                  with_reducible refine (damsonref10_where.calls k3 _ _ y315 ((rd_T44 ((rd_T25 l0 x14_1).f5) x40_3).f0) t319 _ ?side1 ?side2 A31.out).mono ?_
                  (case side1 => repeat ((exact (Kd.C_below HR318.out HB.out))))
                  (case side2 => exact HC318.out)
                  rintro e w39 ⟨rfl, hb⟩
                  refine ⟨_, rfl, ?_⟩
                  replace BK310 := bbA_ BK310 hb
                  replace BK314 := bbA_ BK314 hb
                  replace HB := bsA_ HB hb
                  (try clear hb)
                  refine hK.out _ _ ⟨(blk_cell BK314.out 0).trans rfl, (blk_cell BK314.out 1).trans rfl⟩ (fun hHeld => ?_)
                  clear hK K
                  refine norm_ (a' := ?_) ?_ ?_
                  rotate_left
                  ·show Act.put _ (some 49) _ = _
                   simp only [Act.put, List.setIfInBounds_toArray, List.set_cons_zero, List.set_cons_succ, i64_w, i32_w]
                   rfl
                  refine pure_ (i := 6) (N := some 50) (v := ?_) (a' := ?_) #[true, true, true, true, true, true, true] rfl rfl (by kernel_rfl) (fun _ _ _ h => h) (Or.inl ⟨by rfl, ?_⟩) ?_ ?_
                  rotate_left
                  ·intro w'
                   go_simp
                   with_reducible rfl
                  rotate_left
                  ·simp only [Act.put, List.setIfInBounds_toArray, List.set_cons_zero, List.set_cons_succ, i64_w, i32_w]
                   rfl
                  refine done_ (by kernel_rfl) ?_
                  try go_wp2
                  go_ret
                  exact ⟨by (rfl), by repeat (((with_reducible (exact HB.out))))⟩
                 ·rw [if_neg c32] at H
                  have c32b0 : decide (0 ≤ t319) = false := decide_eq_false c32
                  clear c32
                  have H' := aM_ H
                  clear H
                  have p313 : 0 ≤ (x40_3 : Int) := of_decide_eq_true (by ((with_reducible assumption)))
                  have q313 : x40_3 < (((rd_T25 l0 x14_1).f5).length : Int) := of_decide_eq_true (by ((with_reducible assumption)))
                  obtain ⟨ad313, e313, hx313_0, hx313_1⟩ := at_T44 HR309_5.out x40_3 p313 q313
                  cases e313
                  replace hx313_0 := cN_ HB hx313_0
                  replace hx313_1 := cN_ HB hx313_1
                  replace p313 := eq_true p313
                  replace q313 := eq_true q313
                  try go_wp2_with ((((with_reducible refine gate_dst (N := 6) rfl ?_); refine box_event ?hg (N := 6) ?hd (cs := #[.int .u64 0, .int .u64 0]) (t := 44) ?hr ?_; (case hd => rfl); (case hg => rfl); (case hr => ((go_simp; done))); intro gb314 hg w40 hbox hb; have BK314 := aM_ (hbox); have GW314 := aM_ (geN HB hg); have GE314 := aM_ (geN HB hg); replace HB := bsA_ HB hb; have NB310_314 := aM_ (neN BK310 hg); have NB314_310 := aM_ (neN' BK310 hg); replace BK310 := bbA_ BK310 hb; clear hb hbox hg; have hnb41 := NB314_310.out; have hnc41 := NB310_314.out; obtain ⟨hcz42_0, hcz42_1, hfz42_0, hfz42_1⟩ := cz2_ (w := w40) BK314.out)))
                  have n0_ : Aside0 (((w40.setCell ⟨gb314, 0, none⟩ (.int .u64 ((rd_T44 ((rd_T25 l0 x14_1).f5) x40_3).f0))).setCell ⟨gb314, 1, none⟩ (.int .u64 ((rd_T44 ((rd_T25 l0 x14_1).f5) x40_3).f1))).heap[gb310]? = some (.cells #[.int .u64 ((rd_T25 l0 x14_1).f0), .int .u64 ((rd_T25 l0 x14_1).f1), .int .u64 ((rd_T25 l0 x14_1).f2), .int .u64 ((rd_T25 l0 x14_1).f3), .int .u64 ((rd_T25 l0 x14_1).f4), .slice (some ad313) ((rd_T25 l0 x14_1).f5).length c309_5, .bool ((rd_T25 l0 x14_1).f6)] 25 (0, 0))) := ⟨by refine blk_far ?_ NB310_314.out _; refine blk_far ?_ NB310_314.out _; exact BK310.out⟩
                  have n1_ : Aside0 (((w40.setCell ⟨gb314, 0, none⟩ (.int .u64 ((rd_T44 ((rd_T25 l0 x14_1).f5) x40_3).f0))).setCell ⟨gb314, 1, none⟩ (.int .u64 ((rd_T44 ((rd_T25 l0 x14_1).f5) x40_3).f1))).heap[gb314]? = some (.cells #[.int .u64 ((rd_T44 ((rd_T25 l0 x14_1).f5) x40_3).f0), .int .u64 ((rd_T44 ((rd_T25 l0 x14_1).f5) x40_3).f1)] 44 (0, 0))) := ⟨by apply bp2_; exact BK314.out⟩
                  have n2_ : Aside0 (Below w.heap.size w ((w40.setCell ⟨gb314, 0, none⟩ (.int .u64 ((rd_T44 ((rd_T25 l0 x14_1).f5) x40_3).f0))).setCell ⟨gb314, 1, none⟩ (.int .u64 ((rd_T44 ((rd_T25 l0 x14_1).f5) x40_3).f1)))) := ⟨by repeat (((with_reducible first | exact HB.out | refine below_set ?_ GE314.out)))⟩
                  (try clear BK310)
                  (try clear BK314)
                  (try clear HB)
                  generalize ((w40.setCell ⟨gb314, 0, none⟩ (.int .u64 ((rd_T44 ((rd_T25 l0 x14_1).f5) x40_3).f0))).setCell ⟨gb314, 1, none⟩ (.int .u64 ((rd_T44 ((rd_T25 l0 x14_1).f5) x40_3).f1))) = w43 at n0_ n1_ n2_ ⊢
                  have BK310 := n0_
                  have BK314 := n1_
                  have HB := n2_
                  clear n0_ n1_ n2_
                  replace BK310 := aM_ (blk_drew BK310.out)
                  replace BK314 := aM_ (blk_drew BK314.out)
                  replace HB := aM_ (below_drew1 HB.out)
                  have q45 : (x14_1 : Int) ≤ ((l0.length : Int) : Int) := of_decide_eq_true (by ((with_reducible assumption)))
                  obtain ⟨i045, hi045, _, hsz45, _⟩ := info_parts info25
                  have hroom45 : l0.length ≤ c0 := HC0.out
                  have hC45 : Kd.C k25 _ (some ad309) l0.length l0 := HR0.out
                  have hcut45 := cut_to (P := Try.prog) 47 25 .i64 Try.underlying47 hi045 (some ad309) l0.length c0 x14_1 (of_decide_eq_true (by ((with_reducible assumption)))) q45 hroom45
                  have hr45 := Kd.C_take (m := (x14_1 : Int).toNat) hC45 (by omega)
                  have hy45 : y315.length = (x14_1 : Int).toNat := (by rw [Ny315.out, List.length_take]; omega)
                  rw [← Ny315.out] at hr45
                  rw [← hy45] at hcut45
                  have HR318 := aM_ hr45
                  have HC318 := aM_ (show y315.length ≤ c0 from by omega)
                  clear hr45 hC45 hroom45 hi045 hsz45
                  have KY45 := aM_ hy45
                  clear hy45
                  replace q45 := eq_true q45
                  refine start_ (n := 7) (S := fun w' => w'.cell? ⟨gb314, 0, none⟩ = some (.int .u64 ((rd_T44 ((rd_T25 l0 x14_1).f5) x40_3).f0)) ∧ w'.cell? ⟨gb314, 1, none⟩ = some (.int .u64 ((rd_T44 ((rd_T25 l0 x14_1).f5) x40_3).f1))) (ds := []) #[false, false, false, false, false, false, false] (by kernel_rfl) rfl rfl ⟨(blk_cell BK314.out 0).trans rfl, (blk_cell BK314.out 1).trans rfl⟩ (fun hHeld => ?_)
                  generalize w43.drew = w44 at BK310 BK314 HB HR318 hHeld ⊢
                  refine pure_ (i := 0) (N := some 44) (v := ?_) (a' := ?_) #[true, false, false, false, false, false, false] rfl rfl (by kernel_rfl) (fun _ _ _ h => h) (Or.inl ⟨by rfl, ?_⟩) ?_ ?_
                  rotate_left
                  ·intro w'
                   go_simp
                   with_reducible rfl
                  rotate_left
                  ·simp only [Act.put, List.setIfInBounds_toArray, List.set_cons_zero, List.set_cons_succ, i64_w, i32_w]
                   rfl
                  refine pure_ (i := 1) (N := some 45) (v := ?_) (a' := ?_) #[true, true, false, false, false, false, false] rfl rfl (by kernel_rfl) (fun _ _ _ h => h) (Or.inl ⟨by rfl, ?_⟩) ?_ ?_
                  rotate_left
                  ·intro w'
                   go_simp
                   with_reducible rfl
                  rotate_left
                  ·simp only [Act.put, List.setIfInBounds_toArray, List.set_cons_zero, List.set_cons_succ, i64_w, i32_w]
                   rfl
                  refine pure_ (i := 2) (N := some 46) (v := ?_) (a' := ?_) #[true, true, true, false, false, false, false] rfl rfl (by kernel_rfl) (fun _ _ _ h => h) (Or.inl ⟨by rfl, ?_⟩) ?_ ?_
                  rotate_left
                  ·intro w'
                   go_simp
                   with_reducible rfl
                  rotate_left
                  ·simp only [Act.put, List.setIfInBounds_toArray, List.set_cons_zero, List.set_cons_succ, i64_w, i32_w]
                   rfl
                  refine pure_ (i := 3) (N := some 47) (v := ?_) (a' := ?_) #[true, true, true, true, false, false, false] rfl rfl (by kernel_rfl) (fun _ _ _ h => h) (Or.inl ⟨by rfl, ?_⟩) ?_ ?_
                  rotate_left
                  ·intro w'
                   go_simp
                   with_reducible rfl
                  rotate_left
                  ·simp only [Act.put, List.setIfInBounds_toArray, List.set_cons_zero, List.set_cons_succ, i64_w, i32_w]
                   rfl
                  refine take_ (i := 4) (N := some 48) (v := ?_) (a' := ?_) #[true, true, true, true, true, false, false] rfl rfl (by kernel_rfl) (fun _ _ _ h => h) (Or.inl ⟨by rfl, ?_⟩) hHeld ?_ ?_
                  rotate_left
                  ·rintro w' ⟨s0, s1⟩
                   go_simp
                   with_reducible rfl
                  rotate_left
                  ·simp only [Act.put, List.setIfInBounds_toArray, List.set_cons_zero, List.set_cons_succ, i64_w, i32_w]
                   rfl
                  refine one_ (i := 5) (N := some 49) #[true, true, true, true, true, true, false] rfl rfl (by kernel_rfl) (by decide) (fun K hK => ?_)
                  refine goes_ Try.func108 (by kernel_rfl) rfl #[.slice (some ad309) y315.length c0, .int .u64 ((rd_T44 ((rd_T25 l0 x14_1).f5) x40_3).f0)] (by rfl) rfl rfl (by (try simp only [List.map_toArray, List.map_cons, List.map_nil]); (rfl)) ?_
                  with_reducible refine (damsonref10_where.calls k3 _ _ y315 ((rd_T44 ((rd_T25 l0 x14_1).f5) x40_3).f0) t319 _ ?side1 ?side2 A31.out).mono ?_
                  (case side1 => repeat ((exact (Kd.C_below HR318.out HB.out))))
                  (case side2 => exact HC318.out)
                  rintro e w46 ⟨rfl, hb⟩
                  refine ⟨_, rfl, ?_⟩
                  replace BK310 := bbA_ BK310 hb
                  replace BK314 := bbA_ BK314 hb
                  replace HB := bsA_ HB hb
                  (try clear hb)
                  refine hK.out _ _ ⟨(blk_cell BK314.out 0).trans rfl, (blk_cell BK314.out 1).trans rfl⟩ (fun hHeld => ?_)
                  clear hK K
                  refine norm_ (a' := ?_) ?_ ?_
                  rotate_left
                  ·show Act.put _ (some 49) _ = _
                   simp only [Act.put, List.setIfInBounds_toArray, List.set_cons_zero, List.set_cons_succ, i64_w, i32_w]
                   rfl
                  refine pure_ (i := 6) (N := some 50) (v := ?_) (a' := ?_) #[true, true, true, true, true, true, true] rfl rfl (by kernel_rfl) (fun _ _ _ h => h) (Or.inl ⟨by rfl, ?_⟩) ?_ ?_
                  rotate_left
                  ·intro w'
                   go_simp
                   with_reducible rfl
                  rotate_left
                  ·simp only [Act.put, List.setIfInBounds_toArray, List.set_cons_zero, List.set_cons_succ, i64_w, i32_w]
                   rfl
                  refine done_ (by kernel_rfl) ?_
                  try go_wp2
                  go_roundg k3
                  case measure => have := HK1.out; have := HJ5.out; have := HK3.out; omega
                  case rel => exact ⟨(wrap64 (x40_3 + 1)), (by (rfl)), H', ⟨by have := HK1.out; have := HJ5.out; have := HK3.out; omega⟩, ⟨by exact BK310.out⟩, ⟨by repeat (((with_reducible (exact HB.out))))⟩⟩
                ·rw [if_neg c30] at H
                 exact absurd H (by simp)
               ·rw [if_neg c29] at H
                exact absurd H (by simp)
              ·rw [if_neg c28] at H
               exact absurd H (by simp)
             ·rw [if_neg c27] at H
              exact absurd H (by simp)
            ·rw [if_neg c26] at H
             have c26b0 := decide_eq_false c26
             clear c26
             have H' := aM_ H
             clear H
             go_wp2
             go_roundg k3
             case measure => have := HK1.out; have := HJ5.out; have := HK3.out; omega
             case rel => exact ⟨(wrap64 (x14_1 + 1)), (by (rfl)), H', ⟨by have := HK1.out; have := HJ5.out; have := HK3.out; omega⟩, ⟨by repeat (((with_reducible (exact HB.out))))⟩⟩
      ·rw [if_neg c5] at H
       exact absurd H (by simp)
     ·rw [if_neg c4] at H
      exact absurd H (by simp)
    ·rw [if_neg c3] at H
     have c3b0 := decide_eq_false c3
     clear c3
     replace H := oB_ H
     obtain ⟨⟨t307, t308⟩, A470, H⟩ := H
     replace H : (if t308 = true then (some 0) else (some 1)) = some r := H
     have A47 := aM_ A470
     clear A470
     by_cases c48 : t308 = true
     ·subst c48
      have H1 : (some 0) = some r := by rw [if_pos rfl] at H; exact H
      clear H
      have H := H1
      clear H1
      obtain rfl := Option.some.inj H
      go_wp2_with ((((with_reducible refine gate_callee (f := 109) rfl ?_); refine gL_ 55 Try.func109 #[.slice A0 l0.length c0] ?_; (with_reducible refine (damsonref10_all.calls k1 _ _ l0 t307 true _ ?side1 ?side2 A47.out).mono ?_); (case side1 => repeat ((exact (Kd.C_below HR0.out HB.out)))); (case side2 => exact HC0.out); rintro e w49 ⟨rfl, hb⟩; refine ⟨_, rfl, ?_⟩; replace HB := bsA_ HB hb; (try clear hb))))
      go_ret
      exact ⟨by (rfl), by repeat (((with_reducible (exact HB.out))))⟩
     ·replace c48 := Bool.eq_false_iff.mpr c48
      subst c48
      have H1 : (some 1) = some r := by rw [if_neg (show ¬ (false = true) by decide)] at H; exact H
      clear H
      have H := H1
      clear H1
      obtain rfl := Option.some.inj H
      go_wp2_with ((((with_reducible refine gate_callee (f := 109) rfl ?_); refine gL_ 55 Try.func109 #[.slice A0 l0.length c0] ?_; (with_reducible refine (damsonref10_all.calls k1 _ _ l0 t307 false _ ?side1 ?side2 A47.out).mono ?_); (case side1 => repeat ((exact (Kd.C_below HR0.out HB.out)))); (case side2 => exact HC0.out); rintro e w50 ⟨rfl, hb⟩; refine ⟨_, rfl, ?_⟩; replace HB := bsA_ HB hb; (try clear hb))))
      go_ret
      exact ⟨by (rfl), by repeat (((with_reducible (exact HB.out))))⟩

end Go.Proofs.Ytcfbcoinbecdfaa.P
