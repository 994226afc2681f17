-- written by a program of this session (wip/print)
import Derived.Test.YtcfbcoinbecdfaaQPholdsx0
import Derived.Test.YtcfbcoinbecdfaaQPholdsx7
namespace Go.Proofs.Ytcfbcoinbecdfaa.P
open Go.RowKit Go.Proofs.YtcfbcoinbecdfaaW.PrintWords Go.Proofs.YtcfbcoinbecdfaaW.PrintLast Go.Proofs.YtcfbcoinbecdfaaW.PrintMore
attribute [local go_sem] max2_int min2_int max_two min_two max_three min_three max_four min_four run_sub64_   -- for this text's walks alone
set_option linter.unusedVariables false
set_option linter.unusedSimpArgs false

/-! ### payment_Check: function 73 -/
def payment_Check.l0 : Nat → List (S74) → List (S74) → Int → Int → Option (Int)
 | 0, _, _, _, _ => none
 | k + 1, x0, x8, x9, x10 => if x10 < x9 then (if 0 ≤ x10 then (if x10 < (x8.length : Int) then ((payment_may.f k ((rd_T74 x8 x10).f0) ((rd_T74 x8 x10).f1) ((rd_T74 x8 x10).f2) ((rd_T74 x8 x10).f3) ((rd_T74 x8 x10).f4)).bind fun t236 => (if t236 = true then (if x10 > 0 then (if 0 ≤ (wrap64 (x10 - 1)) then (if (wrap64 (x10 - 1)) < (x0.length : Int) then ((payment_order.f ((rd_T74 x0 (wrap64 (x10 - 1))).f0) ((rd_T74 x0 (wrap64 (x10 - 1))).f1) ((rd_T74 x0 (wrap64 (x10 - 1))).f2) ((rd_T74 x0 (wrap64 (x10 - 1))).f3) ((rd_T74 x0 (wrap64 (x10 - 1))).f4) ((rd_T74 x8 x10).f0)).bind fun t238 => (if t238 ≥ 0 then (some 1) else (payment_Check.l0 k x0 x8 x9 (wrap64 (x10 + 1))))) else (none)) else (none)) else (payment_Check.l0 k x0 x8 x9 (wrap64 (x10 + 1)))) else (some 1))) else (none)) else (none)) else (some 0)
def payment_Check.f (k : Nat) (l0 : List (S74)) : Option (Int) := if (l0.length : Int) > 256 then (some 1) else (payment_Check.l0 k l0 l0 (l0.length : Int) 0)
theorem payment_Check.mono_l : ∀ k, (∀ y0 y1 y2 y3, LeO (payment_Check.l0 k y0 y1 y2 y3) (payment_Check.l0 (k + 1) y0 y1 y2 y3))
 | 0 => fun _ _ _ _ r h => by simp [payment_Check.l0] at h
 | k + 1 => by
  have ih0 := payment_Check.mono_l k
  ·intro y0 y1 y2 y3
   unfold payment_Check.l0
   repeat' first
   | (with_reducible exact ih0 _ _ _ _)
   | (with_reducible exact payment_may.mono _ _ _ _ _ _)
   | (with_reducible exact LeO.refl _)
   | (with_reducible exact LeO.none _)
   | (with_reducible refine LeO.ite ?_ ?_)
   | (with_reducible refine LeO.bind ?_ (fun _ => ?_))
   | exact ih0 _ _ _ _
   | exact payment_may.mono _ _ _ _ _ _
   | exact LeO.none _
   | refine LeO.ite ?_ ?_
   | refine LeO.bind ?_ (fun _ => ?_)
theorem payment_Check.mono : ∀ a0 k, LeO (payment_Check.f k a0) (payment_Check.f (k + 1) a0) := by
 intro a0 k
 have ih0 := payment_Check.mono_l k
 unfold payment_Check.f
 repeat' first
   | (with_reducible exact ih0 _ _ _ _)
   | (with_reducible exact payment_may.mono _ _ _ _ _ _)
   | (with_reducible exact LeO.refl _)
   | (with_reducible exact LeO.none _)
   | (with_reducible refine LeO.ite ?_ ?_)
   | (with_reducible refine LeO.bind ?_ (fun _ => ?_))
   | exact ih0 _ _ _ _
   | exact payment_may.mono _ _ _ _ _ _
   | exact LeO.none _
   | refine LeO.ite ?_ ?_
   | refine LeO.bind ?_ (fun _ => ?_)
def payment_Check.T6 : Bool × List (List Nat × List Nat) := (true, [([], []), ([0], [0]), ([1], [1]), ([2, 1], [2]), ([3], [3]), ([4, 3], [3, 4]), ([5, 3, 3], [3, 5]), ([6], [6]), ([6], [6]), ([8, 6], [6, 8]), ([7, 9, 6], [6, 7, 9]), ([10, 6], [6, 10]), ([6], [6]), ([12, 6], [6, 12]), ([11, 13, 6, 6], [6, 11, 13]), ([14, 6], [6, 14]), ([6, 15, 3], [3, 6, 15]), ([3, 16], [3, 16])])
def payment_Check.B6 : List Nat := [0, 1, 3, 7, 15, 31, 63, 127, 127, 383, 1023, 2047, 127, 4223, 16383, 32767, 65535, 131071]
theorem payment_Check.tab6 : rtab .any (opsOf Try.f73 6) = payment_Check.T6 := by kernel_rfl
theorem payment_Check.bits6 : waitsOk payment_Check.T6.2 payment_Check.B6 = true := by kernel_rfl
set_option maxHeartbeats 8000000 in
set_option maxRecDepth 100000 in
theorem payment_Check.calls (k : Nat) (A0 : Option Addr) (c0 : Nat) (l0 : List (S74)) (r : Int) (w : World) (hr0 : Kd.C k74 w A0 l0.length l0) (hc0 : l0.length ≤ c0) (h : payment_Check.f k l0 = some r) :
  Calls Try.prog 73 #[.slice A0 l0.length c0] w fun e w' => e = .returned (.int .i64 r) ∧ Below w.heap.size w w' := by
 have hu74 := Try.underlying74
 have HR0 := Aside0.mk hr0
 have HC0 := Aside0.mk hc0
 clear hr0 hc0
 have HB := Aside0.mk (Below.refl w.heap.size w)
 have H : (if (l0.length : Int) > 256 then (some 1) else (payment_Check.l0 k l0 l0 (l0.length : Int) 0)) = some r := h
 clear h
 by_cases c2 : (l0.length : Int) > 256
 ·rw [if_pos c2] at H
  have c2b0 : decide (256 < (l0.length : Int)) = true := decide_eq_true c2
  have c2b1 : decide (256 < l0.length) = true := decide_eq_true (by omega)
  clear c2
  obtain rfl := Option.some.inj H
  go_enter Try.func73, Try.ntmps73
  go_wp2
  go_ret
  exact ⟨by first | rfl | (simp [errW_none, errW_some] <;> rfl) | (simp [*, errW_none, errW_some] <;> rfl), by repeat (first | (with_reducible first | exact HB.out | apply below_alloc | apply pw_below_drewN | apply below_drew1) | exact HB.out)⟩
 ·rw [if_neg c2] at H
  have c2b0 : decide (256 < (l0.length : Int)) = false := decide_eq_false c2
  have c2b1 : decide (256 < l0.length) = false := decide_eq_false (by omega)
  clear c2
  have H' := Aside0.mk H
  clear H
  go_enter Try.func73, Try.ntmps73
  go_wp2
  go_loopg [10] k (fun kq v10 w' => ∃ (x10_1 : Int), v10 = .int .i64 x10_1 ∧ Aside0 (payment_Check.l0 kq l0 l0 (l0.length : Int) x10_1 = some r) ∧ Aside0 (kq ≤ k) ∧ Aside0 (Below w.heap.size w w'))
  case atStart => exact ⟨(0), (by first | rfl | (simp; done) | (simp [*]; done)), H', ⟨Nat.le_refl _⟩, ⟨by repeat (first | (with_reducible first | exact HB.out | apply below_alloc | apply pw_below_drewN | apply below_drew1) | exact HB.out)⟩⟩
  case round =>
   clear H'
   try clear c2
   try clear c2b0
   try clear c2b1
   try clear p2
   obtain ⟨x10_1, rfl, HA, HK1, HB⟩ := hrel
   cases gk with
   | zero => exact absurd HA.out (by simp [payment_Check.l0])
   | succ k1 =>
    have H := HA.out
    clear HA
    simp only [payment_Check.l0] at H
    by_cases c3 : x10_1 < (l0.length : Int)
    ·rw [if_pos c3] at H
     have c3b0 : decide (x10_1 < (l0.length : Int)) = true := decide_eq_true c3
     clear c3
     by_cases c4 : 0 ≤ x10_1
     ·rw [if_pos c4] at H
      have c4b0 : decide (0 ≤ x10_1) = true := decide_eq_true c4
      clear c4
      by_cases c5 : x10_1 < (l0.length : Int)
      ·rw [if_pos c5] at H
       have c5b0 : decide (x10_1 < (l0.length : Int)) = true := decide_eq_true c5
       clear c5
       replace H := Option.bind_eq_some_iff.mp H
       obtain ⟨t236, A60, H⟩ := H
       replace H : (if t236 = true then (if x10_1 > 0 then (if 0 ≤ (wrap64 (x10_1 - 1)) then (if (wrap64 (x10_1 - 1)) < (l0.length : Int) then ((payment_order.f ((rd_T74 l0 (wrap64 (x10_1 - 1))).f0) ((rd_T74 l0 (wrap64 (x10_1 - 1))).f1) ((rd_T74 l0 (wrap64 (x10_1 - 1))).f2) ((rd_T74 l0 (wrap64 (x10_1 - 1))).f3) ((rd_T74 l0 (wrap64 (x10_1 - 1))).f4) ((rd_T74 l0 x10_1).f0)).bind fun t238 => (if t238 ≥ 0 then (some 1) else (payment_Check.l0 k1 l0 l0 (l0.length : Int) (wrap64 (x10_1 + 1))))) else (none)) else (none)) else (payment_Check.l0 k1 l0 l0 (l0.length : Int) (wrap64 (x10_1 + 1)))) else (some 1)) = some r := H
       have A6 := Aside0.mk A60
       clear A60
       by_cases c7 : t236 = true
       ·subst c7
        have H1 : (if x10_1 > 0 then (if 0 ≤ (wrap64 (x10_1 - 1)) then (if (wrap64 (x10_1 - 1)) < (l0.length : Int) then ((payment_order.f ((rd_T74 l0 (wrap64 (x10_1 - 1))).f0) ((rd_T74 l0 (wrap64 (x10_1 - 1))).f1) ((rd_T74 l0 (wrap64 (x10_1 - 1))).f2) ((rd_T74 l0 (wrap64 (x10_1 - 1))).f3) ((rd_T74 l0 (wrap64 (x10_1 - 1))).f4) ((rd_T74 l0 x10_1).f0)).bind fun t238 => (if t238 ≥ 0 then (some 1) else (payment_Check.l0 k1 l0 l0 (l0.length : Int) (wrap64 (x10_1 + 1))))) else (none)) else (none)) else (payment_Check.l0 k1 l0 l0 (l0.length : Int) (wrap64 (x10_1 + 1)))) = some r := by rw [if_pos rfl] at H; exact H
        clear H
        have H := H1
        clear H1
        by_cases c8 : x10_1 > 0
        ·rw [if_pos c8] at H
         have c8b0 : decide (0 < x10_1) = true := decide_eq_true c8
         clear c8
         obtain ⟨ji9, hji9⟩ : ∃ j_ : Int, (wrap64 (x10_1 - 1)) = j_ := ⟨_, rfl⟩
         replace H : (if 0 ≤ (ji9) then (if (ji9) < (l0.length : Int) then ((payment_order.f ((rd_T74 l0 (ji9)).f0) ((rd_T74 l0 (ji9)).f1) ((rd_T74 l0 (ji9)).f2) ((rd_T74 l0 (ji9)).f3) ((rd_T74 l0 (ji9)).f4) ((rd_T74 l0 x10_1).f0)).bind fun t238 => (if t238 ≥ 0 then (some 1) else (payment_Check.l0 k1 l0 l0 (l0.length : Int) (wrap64 (x10_1 + 1))))) else (none)) else (none)) = some r := by first | (rw [hji9] at H; exact H) | (simp only [hji9] at H ⊢; exact H)
         (try rw [hji9] at A6)
         have hji9w : (IntKind.i64.wrap (x10_1 - 1)) = ji9 := (i64_w _).trans hji9
         by_cases c10 : 0 ≤ (ji9)
         ·rw [if_pos c10] at H
          have c10b0 : decide (0 ≤ (ji9)) = true := decide_eq_true c10
          clear c10
          by_cases c11 : (ji9) < (l0.length : Int)
          ·rw [if_pos c11] at H
           have c11b0 : decide ((ji9) < (l0.length : Int)) = true := decide_eq_true c11
           clear c11
           replace H := Option.bind_eq_some_iff.mp H
           obtain ⟨t238, A120, H⟩ := H
           replace H : (if t238 ≥ 0 then (some 1) else (payment_Check.l0 k1 l0 l0 (l0.length : Int) (wrap64 (x10_1 + 1)))) = some r := H
           have A12 := Aside0.mk A120
           clear A120
           by_cases c13 : t238 ≥ 0
           ·rw [if_pos c13] at H
            have c13b0 : decide (0 ≤ t238) = true := decide_eq_true c13
            clear c13
            obtain rfl := Option.some.inj H
            have p234 : 0 ≤ (x10_1 : Int) := of_decide_eq_true (by first | (with_reducible assumption) | assumption)
            have q234 : x10_1 < (l0.length : Int) := of_decide_eq_true (by first | (with_reducible assumption) | assumption)
            obtain ⟨ad234, e234, hx234_0, hx234_1, hx234_2, hx234_3, hx234_4⟩ := at_T74 HR0.out x10_1 p234 q234
            cases e234
            replace hx234_0 := (HB.out.cell (World.block_lt_of_cell? w _ hx234_0)).trans hx234_0
            replace hx234_1 := (HB.out.cell (World.block_lt_of_cell? w _ hx234_1)).trans hx234_1
            replace hx234_2 := (HB.out.cell (World.block_lt_of_cell? w _ hx234_2)).trans hx234_2
            replace hx234_3 := (HB.out.cell (World.block_lt_of_cell? w _ hx234_3)).trans hx234_3
            replace hx234_4 := (HB.out.cell (World.block_lt_of_cell? w _ hx234_4)).trans hx234_4
            replace p234 := eq_true p234
            replace q234 := eq_true q234
            try go_wp2_with (first | ((with_reducible refine gate_dst (N := 4) rfl ?_); refine box_event ?hg (N := 4) ?hd (cs := #[.int .u64 0, .int .u64 0, .int .u64 0, .int .u64 0, .int .i64 0]) (t := 74) ?hr ?_; (case hd => rfl); (case hg => rfl); (case hr => first | (go_simp; done) | (go_simp; rfl)); intro gb235 hg w14 hbox hb; have n0_ := Aside0.mk (below_step (belN HB) hb); have n1_ := Aside0.mk (hbox); have n2_ := Aside0.mk ((by rw [hg]; exact (below_size (belN HB)) : w.heap.size ≤ gb235)); have n3_ := Aside0.mk ((by rw [hg]; exact (below_size (belN HB)) : w.heap.size ≤ gb235)); clear HB; have HB := n0_; have BK235 := n1_; have GW235 := n2_; have GE235 := n3_; clear n0_ n1_ n2_ n3_; clear hb hbox hg; obtain ⟨hcz15_0, hcz15_1, hcz15_2, hcz15_3, hcz15_4, hfz15_0, hfz15_1, hfz15_2, hfz15_3, hfz15_4⟩ := cz5_ (w := w14) BK235.out))
            have n0_ : Aside0 ((((((w14.setCell ⟨gb235, 0, none⟩ (.int .u64 ((rd_T74 l0 x10_1).f0))).setCell ⟨gb235, 1, none⟩ (.int .u64 ((rd_T74 l0 x10_1).f1))).setCell ⟨gb235, 2, none⟩ (.int .u64 ((rd_T74 l0 x10_1).f2))).setCell ⟨gb235, 3, none⟩ (.int .u64 ((rd_T74 l0 x10_1).f3))).setCell ⟨gb235, 4, none⟩ (.int .i64 ((rd_T74 l0 x10_1).f4))).heap[gb235]? = some (.cells #[.int .u64 ((rd_T74 l0 x10_1).f0), .int .u64 ((rd_T74 l0 x10_1).f1), .int .u64 ((rd_T74 l0 x10_1).f2), .int .u64 ((rd_T74 l0 x10_1).f3), .int .i64 ((rd_T74 l0 x10_1).f4)] 74 (0, 0))) := ⟨by (with_reducible repeat (first | refine blk_drewN ?_ _ | refine blk_drew ?_ | refine blk_alloc ?_ _)); refine blk_put (cs := #[.int .u64 ((rd_T74 l0 x10_1).f0), .int .u64 ((rd_T74 l0 x10_1).f1), .int .u64 ((rd_T74 l0 x10_1).f2), .int .u64 ((rd_T74 l0 x10_1).f3), .int .i64 0]) ?_ 4 _ rfl; refine blk_put (cs := #[.int .u64 ((rd_T74 l0 x10_1).f0), .int .u64 ((rd_T74 l0 x10_1).f1), .int .u64 ((rd_T74 l0 x10_1).f2), .int .u64 0, .int .i64 0]) ?_ 3 _ rfl; refine blk_put (cs := #[.int .u64 ((rd_T74 l0 x10_1).f0), .int .u64 ((rd_T74 l0 x10_1).f1), .int .u64 0, .int .u64 0, .int .i64 0]) ?_ 2 _ rfl; refine blk_put (cs := #[.int .u64 ((rd_T74 l0 x10_1).f0), .int .u64 0, .int .u64 0, .int .u64 0, .int .i64 0]) ?_ 1 _ rfl; refine blk_put (cs := #[.int .u64 0, .int .u64 0, .int .u64 0, .int .u64 0, .int .i64 0]) ?_ 0 _ rfl; (with_reducible repeat (first | refine blk_drewN ?_ _ | refine blk_drew ?_ | refine blk_alloc ?_ _)); exact BK235.out⟩
            have n1_ : Aside0 (Below w.heap.size w (((((w14.setCell ⟨gb235, 0, none⟩ (.int .u64 ((rd_T74 l0 x10_1).f0))).setCell ⟨gb235, 1, none⟩ (.int .u64 ((rd_T74 l0 x10_1).f1))).setCell ⟨gb235, 2, none⟩ (.int .u64 ((rd_T74 l0 x10_1).f2))).setCell ⟨gb235, 3, none⟩ (.int .u64 ((rd_T74 l0 x10_1).f3))).setCell ⟨gb235, 4, none⟩ (.int .i64 ((rd_T74 l0 x10_1).f4)))) := ⟨by repeat (first | (with_reducible first | exact HB.out | apply below_alloc | apply pw_below_drewN | apply below_drew1 | refine below_set ?_ GE235.out) | exact HB.out)⟩
            (try clear BK235)
            (try clear HB)
            generalize (((((w14.setCell ⟨gb235, 0, none⟩ (.int .u64 ((rd_T74 l0 x10_1).f0))).setCell ⟨gb235, 1, none⟩ (.int .u64 ((rd_T74 l0 x10_1).f1))).setCell ⟨gb235, 2, none⟩ (.int .u64 ((rd_T74 l0 x10_1).f2))).setCell ⟨gb235, 3, none⟩ (.int .u64 ((rd_T74 l0 x10_1).f3))).setCell ⟨gb235, 4, none⟩ (.int .i64 ((rd_T74 l0 x10_1).f4))) = w16 at n0_ n1_ ⊢
            have BK235 := n0_
            have HB := n1_
            clear n0_ n1_
            have n0_ := Aside0.mk (blk_drew BK235.out)
            have n1_ := Aside0.mk (below_drew1 HB.out)
            clear BK235
            clear HB
            have BK235 := n0_
            have HB := n1_
            clear n0_ n1_
            have p237 : 0 ≤ ((ji9) : Int) := of_decide_eq_true (by first | (with_reducible assumption) | assumption)
            have q237 : (ji9) < (l0.length : Int) := of_decide_eq_true (by first | (with_reducible assumption) | assumption)
            obtain ⟨ad237, e237, hx237_0, hx237_1, hx237_2, hx237_3, hx237_4⟩ := at_T74 HR0.out (ji9) p237 q237
            have hw237_4 := hx237_4
            have hw237_3 := hx237_3
            have hw237_2 := hx237_2
            have hw237_1 := hx237_1
            have hw237_0 := hx237_0
            obtain rfl : ad234 = ad237 := (by injection e237)
            replace hx237_0 := (HB.out.cell (World.block_lt_of_cell? w _ hx237_0)).trans hx237_0
            replace hx237_1 := (HB.out.cell (World.block_lt_of_cell? w _ hx237_1)).trans hx237_1
            replace hx237_2 := (HB.out.cell (World.block_lt_of_cell? w _ hx237_2)).trans hx237_2
            replace hx237_3 := (HB.out.cell (World.block_lt_of_cell? w _ hx237_3)).trans hx237_3
            replace hx237_4 := (HB.out.cell (World.block_lt_of_cell? w _ hx237_4)).trans hx237_4
            replace p237 := eq_true p237
            replace q237 := eq_true q237
            refine start_ (n := 18) (S := fun w' => w'.cell? ⟨gb235, 0, none⟩ = some (.int .u64 ((rd_T74 l0 x10_1).f0)) ∧ w'.cell? ⟨gb235, 1, none⟩ = some (.int .u64 ((rd_T74 l0 x10_1).f1)) ∧ w'.cell? ⟨gb235, 2, none⟩ = some (.int .u64 ((rd_T74 l0 x10_1).f2)) ∧ w'.cell? ⟨gb235, 3, none⟩ = some (.int .u64 ((rd_T74 l0 x10_1).f3)) ∧ w'.cell? ⟨gb235, 4, none⟩ = some (.int .i64 ((rd_T74 l0 x10_1).f4)) ∧ w'.cell? (ad234.add (((ji9)).toNat * 5)) = some (.int .u64 ((rd_T74 l0 (ji9)).f0)) ∧ w'.cell? ⟨(ad234.add (((ji9)).toNat * 5)).block, (ad234.add (((ji9)).toNat * 5)).off + 1, none⟩ = some (.int .u64 ((rd_T74 l0 (ji9)).f1)) ∧ w'.cell? ⟨(ad234.add (((ji9)).toNat * 5)).block, (ad234.add (((ji9)).toNat * 5)).off + 2, none⟩ = some (.int .u64 ((rd_T74 l0 (ji9)).f2)) ∧ w'.cell? ⟨(ad234.add (((ji9)).toNat * 5)).block, (ad234.add (((ji9)).toNat * 5)).off + 3, none⟩ = some (.int .u64 ((rd_T74 l0 (ji9)).f3)) ∧ w'.cell? ⟨(ad234.add (((ji9)).toNat * 5)).block, (ad234.add (((ji9)).toNat * 5)).off + 4, none⟩ = some (.int .i64 ((rd_T74 l0 (ji9)).f4))) (ds := []) #[false, false, false, false, false, false, false, false, false, false, false, false, false, false, false, false, false, false] (by kernel_rfl) rfl rfl ⟨(blk_cell BK235.out 0).trans rfl, (blk_cell BK235.out 1).trans rfl, (blk_cell BK235.out 2).trans rfl, (blk_cell BK235.out 3).trans rfl, (blk_cell BK235.out 4).trans rfl, ((HB.out.cell (World.block_lt_of_cell? w _ hw237_0)).trans hw237_0), ((HB.out.cell (World.block_lt_of_cell? w _ hw237_1)).trans hw237_1), ((HB.out.cell (World.block_lt_of_cell? w _ hw237_2)).trans hw237_2), ((HB.out.cell (World.block_lt_of_cell? w _ hw237_3)).trans hw237_3), ((HB.out.cell (World.block_lt_of_cell? w _ hw237_4)).trans hw237_4)⟩ (fun hHeld => ?_); refine with_tabW payment_Check.tab6 payment_Check.bits6 (fun HT_ HW_ => ?_)
            generalize w16.drew = w17 at BK235 HB hx237_0 hx237_1 hx237_2 hx237_3 hx237_4 hHeld ⊢
            refine take_ (i := 0) (N := some 15) (v := ?_) (a' := ?_) #[true, false, false, false, false, false, false, false, false, false, false, false, false, false, false, false, false, false] rfl rfl (take_ofW HT_.out HW_.out (by kernel_rfl)) (fun _ _ _ h => h) (Or.inl ⟨by rfl, ?_⟩) hHeld ?_ ?_
            rotate_left
            ·rintro w' ⟨s0, s1, s2, s3, s4, s5, s6, s7, s8, s9⟩
             go_simp
             with_reducible rfl
            rotate_left
            ·simp only [Act.put, List.setIfInBounds_toArray, List.set_cons_zero, List.set_cons_succ, i64_w, i32_w]
             rfl
            refine one_ (i := 1) (N := some 16) #[true, true, false, false, false, false, false, false, false, false, false, false, false, false, false, false, false, false] rfl rfl (one_of HT_.out (by kernel_rfl)) (by decide) (fun K hK => ?_)
            refine goes_ Try.func116 (by kernel_rfl) rfl #[.agg #[.int .u64 ((rd_T74 l0 x10_1).f0), .int .u64 ((rd_T74 l0 x10_1).f1), .int .u64 ((rd_T74 l0 x10_1).f2), .int .u64 ((rd_T74 l0 x10_1).f3), .int .i64 ((rd_T74 l0 x10_1).f4)]] (by rfl) rfl rfl (by (try simp only [List.map_toArray, List.map_cons, List.map_nil]); first | done | rfl | (simp only [List.length_drop, List.length_take]; rfl)) ?_
            with_reducible refine (payment_may.calls k1 ((rd_T74 l0 x10_1).f0) ((rd_T74 l0 x10_1).f1) ((rd_T74 l0 x10_1).f2) ((rd_T74 l0 x10_1).f3) ((rd_T74 l0 x10_1).f4) true _ A6.out).mono ?_
            rintro e w18 ⟨rfl, hb⟩
            refine ⟨_, rfl, ?_⟩
            have n0_ := Aside0.mk (blk_below (g := gb235) (blkN BK235) hb)
            have n1_ := Aside0.mk (below_step (belN HB) hb)
            clear BK235
            clear HB
            have BK235 := n0_
            have HB := n1_
            clear n0_ n1_
            (try clear hb)
            (try clear hb2)
            (try clear hk)
            (try clear hi)
            refine hK.out _ _ ⟨(blk_cell BK235.out 0).trans rfl, (blk_cell BK235.out 1).trans rfl, (blk_cell BK235.out 2).trans rfl, (blk_cell BK235.out 3).trans rfl, (blk_cell BK235.out 4).trans rfl, ((HB.out.cell (World.block_lt_of_cell? w _ hw237_0)).trans hw237_0), ((HB.out.cell (World.block_lt_of_cell? w _ hw237_1)).trans hw237_1), ((HB.out.cell (World.block_lt_of_cell? w _ hw237_2)).trans hw237_2), ((HB.out.cell (World.block_lt_of_cell? w _ hw237_3)).trans hw237_3), ((HB.out.cell (World.block_lt_of_cell? w _ hw237_4)).trans hw237_4)⟩ (fun hHeld => ?_)
            clear hK K
            refine norm_ (a' := ?_) ?_ ?_
            rotate_left
            ·show Act.put _ (some 16) _ = _
             simp only [Act.put, List.setIfInBounds_toArray, List.set_cons_zero, List.set_cons_succ, i64_w, i32_w]
             rfl
            refine pureA_ 2 17 (bm 18 7) ?_
            refine pureA_ 3 18 (bm 18 15) ?_
            refine pureA_ 4 19 (bm 18 31) ?_
            refine pureA_ 5 20 (bm 18 63) ?_
            refine pureA_ 6 21 (bm 18 127) ?_
            refine pureA_ 7 22 (bm 18 255) ?_
            refine pureA_ 8 23 (bm 18 511) ?_
            refine pureA_ 9 24 (bm 18 1023) ?_
            refine pureA_ 10 25 (bm 18 2047) ?_
            refine pureA_ 12 27 (bm 18 6143) ?_
            refine take_ (i := 11) (N := some 26) (v := ?_) (a' := ?_) #[true, true, true, true, true, true, true, true, true, true, true, true, true, false, false, false, false, false] rfl rfl (take_ofW HT_.out HW_.out (by kernel_rfl)) (fun _ _ _ h => h) (Or.inl ⟨by rfl, ?_⟩) hHeld ?_ ?_
            rotate_left
            ·rintro w' ⟨s0, s1, s2, s3, s4, s5, s6, s7, s8, s9⟩
             go_simp
             with_reducible rfl
            rotate_left
            ·simp only [Act.put, List.setIfInBounds_toArray, List.set_cons_zero, List.set_cons_succ, i64_w, i32_w]
             rfl
            refine take_ (i := 13) (N := some 28) (v := ?_) (a' := ?_) #[true, true, true, true, true, true, true, true, true, true, true, true, true, true, false, false, false, false] rfl rfl (take_ofW HT_.out HW_.out (by kernel_rfl)) (fun _ _ _ h => h) (Or.inl ⟨by rfl, ?_⟩) hHeld ?_ ?_
            rotate_left
            ·rintro w' ⟨s0, s1, s2, s3, s4, s5, s6, s7, s8, s9⟩
             go_simp
             with_reducible rfl
            rotate_left
            ·simp only [Act.put, List.setIfInBounds_toArray, List.set_cons_zero, List.set_cons_succ, i64_w, i32_w]
             rfl
            refine one_ (i := 14) (N := some 29) #[true, true, true, true, true, true, true, true, true, true, true, true, true, true, true, false, false, false] rfl rfl (one_of HT_.out (by kernel_rfl)) (by decide) (fun K hK => ?_)
            refine goes_ Try.func122 (by kernel_rfl) rfl #[.agg #[.int .u64 ((rd_T74 l0 (ji9)).f0), .int .u64 ((rd_T74 l0 (ji9)).f1), .int .u64 ((rd_T74 l0 (ji9)).f2), .int .u64 ((rd_T74 l0 (ji9)).f3), .int .i64 ((rd_T74 l0 (ji9)).f4)], .int .u64 ((rd_T74 l0 x10_1).f0)] (by rfl) rfl rfl (by (try simp only [List.map_toArray, List.map_cons, List.map_nil]); first | done | (simp only [hji9]; rfl) | rfl | (simp only [List.length_drop, List.length_take]; rfl)) ?_
            with_reducible refine (payment_order.calls ((rd_T74 l0 (ji9)).f0) ((rd_T74 l0 (ji9)).f1) ((rd_T74 l0 (ji9)).f2) ((rd_T74 l0 (ji9)).f3) ((rd_T74 l0 (ji9)).f4) ((rd_T74 l0 x10_1).f0) t238 _ A12.out).mono ?_
            rintro e w19 ⟨rfl, hb⟩
            refine ⟨_, rfl, ?_⟩
            have n0_ := Aside0.mk (blk_below (g := gb235) (blkN BK235) hb)
            have n1_ := Aside0.mk (below_step (belN HB) hb)
            clear BK235
            clear HB
            have BK235 := n0_
            have HB := n1_
            clear n0_ n1_
            (try clear hb)
            (try clear hb2)
            (try clear hk)
            (try clear hi)
            refine hK.out _ _ ⟨(blk_cell BK235.out 0).trans rfl, (blk_cell BK235.out 1).trans rfl, (blk_cell BK235.out 2).trans rfl, (blk_cell BK235.out 3).trans rfl, (blk_cell BK235.out 4).trans rfl, ((HB.out.cell (World.block_lt_of_cell? w _ hw237_0)).trans hw237_0), ((HB.out.cell (World.block_lt_of_cell? w _ hw237_1)).trans hw237_1), ((HB.out.cell (World.block_lt_of_cell? w _ hw237_2)).trans hw237_2), ((HB.out.cell (World.block_lt_of_cell? w _ hw237_3)).trans hw237_3), ((HB.out.cell (World.block_lt_of_cell? w _ hw237_4)).trans hw237_4)⟩ (fun hHeld => ?_)
            clear hK K
            refine norm_ (a' := ?_) ?_ ?_
            rotate_left
            ·show Act.put _ (some 29) _ = _
             simp only [Act.put, List.setIfInBounds_toArray, List.set_cons_zero, List.set_cons_succ, i64_w, i32_w]
             rfl
            refine pureA_ 15 30 (bm 18 65535) ?_
            refine pureA_ 16 31 (bm 18 131071) ?_
            refine pureA_ 17 32 (bm 18 262143) ?_
            refine done_ (done_of HT_.out (by kernel_rfl)) ?_
            try go_wp2
            go_ret
            exact ⟨by first | rfl | (simp [errW_none, errW_some] <;> rfl) | (simp only [← hji9]; first | rfl | (simp [errW_none, errW_some] <;> rfl)) | (simp [*, errW_none, errW_some] <;> rfl), by repeat (first | (with_reducible first | exact HB.out | apply below_alloc | apply pw_below_drewN | apply below_drew1 | refine below_set ?_ GE235.out) | exact HB.out)⟩
           ·rw [if_neg c13] at H
            have c13b0 : decide (0 ≤ t238) = false := decide_eq_false c13
            clear c13
            have H' := Aside0.mk H
            clear H
            have p234 : 0 ≤ (x10_1 : Int) := of_decide_eq_true (by first | (with_reducible assumption) | assumption)
            have q234 : x10_1 < (l0.length : Int) := of_decide_eq_true (by first | (with_reducible assumption) | assumption)
            obtain ⟨ad234, e234, hx234_0, hx234_1, hx234_2, hx234_3, hx234_4⟩ := at_T74 HR0.out x10_1 p234 q234
            cases e234
            replace hx234_0 := (HB.out.cell (World.block_lt_of_cell? w _ hx234_0)).trans hx234_0
            replace hx234_1 := (HB.out.cell (World.block_lt_of_cell? w _ hx234_1)).trans hx234_1
            replace hx234_2 := (HB.out.cell (World.block_lt_of_cell? w _ hx234_2)).trans hx234_2
            replace hx234_3 := (HB.out.cell (World.block_lt_of_cell? w _ hx234_3)).trans hx234_3
            replace hx234_4 := (HB.out.cell (World.block_lt_of_cell? w _ hx234_4)).trans hx234_4
            replace p234 := eq_true p234
            replace q234 := eq_true q234
            try go_wp2_with (first | ((with_reducible refine gate_dst (N := 4) rfl ?_); refine box_event ?hg (N := 4) ?hd (cs := #[.int .u64 0, .int .u64 0, .int .u64 0, .int .u64 0, .int .i64 0]) (t := 74) ?hr ?_; (case hd => rfl); (case hg => rfl); (case hr => first | (go_simp; done) | (go_simp; rfl)); intro gb235 hg w20 hbox hb; have n0_ := Aside0.mk (below_step (belN HB) hb); have n1_ := Aside0.mk (hbox); have n2_ := Aside0.mk ((by rw [hg]; exact (below_size (belN HB)) : w.heap.size ≤ gb235)); have n3_ := Aside0.mk ((by rw [hg]; exact (below_size (belN HB)) : w.heap.size ≤ gb235)); clear HB; have HB := n0_; have BK235 := n1_; have GW235 := n2_; have GE235 := n3_; clear n0_ n1_ n2_ n3_; clear hb hbox hg; obtain ⟨hcz21_0, hcz21_1, hcz21_2, hcz21_3, hcz21_4, hfz21_0, hfz21_1, hfz21_2, hfz21_3, hfz21_4⟩ := cz5_ (w := w20) BK235.out))
            have n0_ : Aside0 ((((((w20.setCell ⟨gb235, 0, none⟩ (.int .u64 ((rd_T74 l0 x10_1).f0))).setCell ⟨gb235, 1, none⟩ (.int .u64 ((rd_T74 l0 x10_1).f1))).setCell ⟨gb235, 2, none⟩ (.int .u64 ((rd_T74 l0 x10_1).f2))).setCell ⟨gb235, 3, none⟩ (.int .u64 ((rd_T74 l0 x10_1).f3))).setCell ⟨gb235, 4, none⟩ (.int .i64 ((rd_T74 l0 x10_1).f4))).heap[gb235]? = some (.cells #[.int .u64 ((rd_T74 l0 x10_1).f0), .int .u64 ((rd_T74 l0 x10_1).f1), .int .u64 ((rd_T74 l0 x10_1).f2), .int .u64 ((rd_T74 l0 x10_1).f3), .int .i64 ((rd_T74 l0 x10_1).f4)] 74 (0, 0))) := ⟨by (with_reducible repeat (first | refine blk_drewN ?_ _ | refine blk_drew ?_ | refine blk_alloc ?_ _)); refine blk_put (cs := #[.int .u64 ((rd_T74 l0 x10_1).f0), .int .u64 ((rd_T74 l0 x10_1).f1), .int .u64 ((rd_T74 l0 x10_1).f2), .int .u64 ((rd_T74 l0 x10_1).f3), .int .i64 0]) ?_ 4 _ rfl; refine blk_put (cs := #[.int .u64 ((rd_T74 l0 x10_1).f0), .int .u64 ((rd_T74 l0 x10_1).f1), .int .u64 ((rd_T74 l0 x10_1).f2), .int .u64 0, .int .i64 0]) ?_ 3 _ rfl; refine blk_put (cs := #[.int .u64 ((rd_T74 l0 x10_1).f0), .int .u64 ((rd_T74 l0 x10_1).f1), .int .u64 0, .int .u64 0, .int .i64 0]) ?_ 2 _ rfl; refine blk_put (cs := #[.int .u64 ((rd_T74 l0 x10_1).f0), .int .u64 0, .int .u64 0, .int .u64 0, .int .i64 0]) ?_ 1 _ rfl; refine blk_put (cs := #[.int .u64 0, .int .u64 0, .int .u64 0, .int .u64 0, .int .i64 0]) ?_ 0 _ rfl; (with_reducible repeat (first | refine blk_drewN ?_ _ | refine blk_drew ?_ | refine blk_alloc ?_ _)); exact BK235.out⟩
            have n1_ : Aside0 (Below w.heap.size w (((((w20.setCell ⟨gb235, 0, none⟩ (.int .u64 ((rd_T74 l0 x10_1).f0))).setCell ⟨gb235, 1, none⟩ (.int .u64 ((rd_T74 l0 x10_1).f1))).setCell ⟨gb235, 2, none⟩ (.int .u64 ((rd_T74 l0 x10_1).f2))).setCell ⟨gb235, 3, none⟩ (.int .u64 ((rd_T74 l0 x10_1).f3))).setCell ⟨gb235, 4, none⟩ (.int .i64 ((rd_T74 l0 x10_1).f4)))) := ⟨by repeat (first | (with_reducible first | exact HB.out | apply below_alloc | apply pw_below_drewN | apply below_drew1 | refine below_set ?_ GE235.out) | exact HB.out)⟩
            (try clear BK235)
            (try clear HB)
            generalize (((((w20.setCell ⟨gb235, 0, none⟩ (.int .u64 ((rd_T74 l0 x10_1).f0))).setCell ⟨gb235, 1, none⟩ (.int .u64 ((rd_T74 l0 x10_1).f1))).setCell ⟨gb235, 2, none⟩ (.int .u64 ((rd_T74 l0 x10_1).f2))).setCell ⟨gb235, 3, none⟩ (.int .u64 ((rd_T74 l0 x10_1).f3))).setCell ⟨gb235, 4, none⟩ (.int .i64 ((rd_T74 l0 x10_1).f4))) = w22 at n0_ n1_ ⊢
            have BK235 := n0_
            have HB := n1_
            clear n0_ n1_
            have n0_ := Aside0.mk (blk_drew BK235.out)
            have n1_ := Aside0.mk (below_drew1 HB.out)
            clear BK235
            clear HB
            have BK235 := n0_
            have HB := n1_
            clear n0_ n1_
            have p237 : 0 ≤ ((ji9) : Int) := of_decide_eq_true (by first | (with_reducible assumption) | assumption)
            have q237 : (ji9) < (l0.length : Int) := of_decide_eq_true (by first | (with_reducible assumption) | assumption)
            obtain ⟨ad237, e237, hx237_0, hx237_1, hx237_2, hx237_3, hx237_4⟩ := at_T74 HR0.out (ji9) p237 q237
            have hw237_4 := hx237_4
            have hw237_3 := hx237_3
            have hw237_2 := hx237_2
            have hw237_1 := hx237_1
            have hw237_0 := hx237_0
            obtain rfl : ad234 = ad237 := (by injection e237)
            replace hx237_0 := (HB.out.cell (World.block_lt_of_cell? w _ hx237_0)).trans hx237_0
            replace hx237_1 := (HB.out.cell (World.block_lt_of_cell? w _ hx237_1)).trans hx237_1
            replace hx237_2 := (HB.out.cell (World.block_lt_of_cell? w _ hx237_2)).trans hx237_2
            replace hx237_3 := (HB.out.cell (World.block_lt_of_cell? w _ hx237_3)).trans hx237_3
            replace hx237_4 := (HB.out.cell (World.block_lt_of_cell? w _ hx237_4)).trans hx237_4
            replace p237 := eq_true p237
            replace q237 := eq_true q237
            refine start_ (n := 18) (S := fun w' => w'.cell? ⟨gb235, 0, none⟩ = some (.int .u64 ((rd_T74 l0 x10_1).f0)) ∧ w'.cell? ⟨gb235, 1, none⟩ = some (.int .u64 ((rd_T74 l0 x10_1).f1)) ∧ w'.cell? ⟨gb235, 2, none⟩ = some (.int .u64 ((rd_T74 l0 x10_1).f2)) ∧ w'.cell? ⟨gb235, 3, none⟩ = some (.int .u64 ((rd_T74 l0 x10_1).f3)) ∧ w'.cell? ⟨gb235, 4, none⟩ = some (.int .i64 ((rd_T74 l0 x10_1).f4)) ∧ w'.cell? (ad234.add (((ji9)).toNat * 5)) = some (.int .u64 ((rd_T74 l0 (ji9)).f0)) ∧ w'.cell? ⟨(ad234.add (((ji9)).toNat * 5)).block, (ad234.add (((ji9)).toNat * 5)).off + 1, none⟩ = some (.int .u64 ((rd_T74 l0 (ji9)).f1)) ∧ w'.cell? ⟨(ad234.add (((ji9)).toNat * 5)).block, (ad234.add (((ji9)).toNat * 5)).off + 2, none⟩ = some (.int .u64 ((rd_T74 l0 (ji9)).f2)) ∧ w'.cell? ⟨(ad234.add (((ji9)).toNat * 5)).block, (ad234.add (((ji9)).toNat * 5)).off + 3, none⟩ = some (.int .u64 ((rd_T74 l0 (ji9)).f3)) ∧ w'.cell? ⟨(ad234.add (((ji9)).toNat * 5)).block, (ad234.add (((ji9)).toNat * 5)).off + 4, none⟩ = some (.int .i64 ((rd_T74 l0 (ji9)).f4))) (ds := []) #[false, false, false, false, false, false, false, false, false, false, false, false, false, false, false, false, false, false] (by kernel_rfl) rfl rfl ⟨(blk_cell BK235.out 0).trans rfl, (blk_cell BK235.out 1).trans rfl, (blk_cell BK235.out 2).trans rfl, (blk_cell BK235.out 3).trans rfl, (blk_cell BK235.out 4).trans rfl, ((HB.out.cell (World.block_lt_of_cell? w _ hw237_0)).trans hw237_0), ((HB.out.cell (World.block_lt_of_cell? w _ hw237_1)).trans hw237_1), ((HB.out.cell (World.block_lt_of_cell? w _ hw237_2)).trans hw237_2), ((HB.out.cell (World.block_lt_of_cell? w _ hw237_3)).trans hw237_3), ((HB.out.cell (World.block_lt_of_cell? w _ hw237_4)).trans hw237_4)⟩ (fun hHeld => ?_); refine with_tabW payment_Check.tab6 payment_Check.bits6 (fun HT_ HW_ => ?_)
            generalize w22.drew = w23 at BK235 HB hx237_0 hx237_1 hx237_2 hx237_3 hx237_4 hHeld ⊢
            refine take_ (i := 0) (N := some 15) (v := ?_) (a' := ?_) #[true, false, false, false, false, false, false, false, false, false, false, false, false, false, false, false, false, false] rfl rfl (take_ofW HT_.out HW_.out (by kernel_rfl)) (fun _ _ _ h => h) (Or.inl ⟨by rfl, ?_⟩) hHeld ?_ ?_
            rotate_left
            ·rintro w' ⟨s0, s1, s2, s3, s4, s5, s6, s7, s8, s9⟩
             go_simp
             with_reducible rfl
            rotate_left
            ·simp only [Act.put, List.setIfInBounds_toArray, List.set_cons_zero, List.set_cons_succ, i64_w, i32_w]
             rfl
            refine one_ (i := 1) (N := some 16) #[true, true, false, false, false, false, false, false, false, false, false, false, false, false, false, false, false, false] rfl rfl (one_of HT_.out (by kernel_rfl)) (by decide) (fun K hK => ?_)
            refine goes_ Try.func116 (by kernel_rfl) rfl #[.agg #[.int .u64 ((rd_T74 l0 x10_1).f0), .int .u64 ((rd_T74 l0 x10_1).f1), .int .u64 ((rd_T74 l0 x10_1).f2), .int .u64 ((rd_T74 l0 x10_1).f3), .int .i64 ((rd_T74 l0 x10_1).f4)]] (by rfl) rfl rfl (by (try simp only [List.map_toArray, List.map_cons, List.map_nil]); first | done | rfl | (simp only [List.length_drop, List.length_take]; rfl)) ?_
            with_reducible refine (payment_may.calls k1 ((rd_T74 l0 x10_1).f0) ((rd_T74 l0 x10_1).f1) ((rd_T74 l0 x10_1).f2) ((rd_T74 l0 x10_1).f3) ((rd_T74 l0 x10_1).f4) true _ A6.out).mono ?_
            rintro e w24 ⟨rfl, hb⟩
            refine ⟨_, rfl, ?_⟩
            have n0_ := Aside0.mk (blk_below (g := gb235) (blkN BK235) hb)
            have n1_ := Aside0.mk (below_step (belN HB) hb)
            clear BK235
            clear HB
            have BK235 := n0_
            have HB := n1_
            clear n0_ n1_
            (try clear hb)
            (try clear hb2)
            (try clear hk)
            (try clear hi)
            refine hK.out _ _ ⟨(blk_cell BK235.out 0).trans rfl, (blk_cell BK235.out 1).trans rfl, (blk_cell BK235.out 2).trans rfl, (blk_cell BK235.out 3).trans rfl, (blk_cell BK235.out 4).trans rfl, ((HB.out.cell (World.block_lt_of_cell? w _ hw237_0)).trans hw237_0), ((HB.out.cell (World.block_lt_of_cell? w _ hw237_1)).trans hw237_1), ((HB.out.cell (World.block_lt_of_cell? w _ hw237_2)).trans hw237_2), ((HB.out.cell (World.block_lt_of_cell? w _ hw237_3)).trans hw237_3), ((HB.out.cell (World.block_lt_of_cell? w _ hw237_4)).trans hw237_4)⟩ (fun hHeld => ?_)
            clear hK K
            refine norm_ (a' := ?_) ?_ ?_
            rotate_left
            ·show Act.put _ (some 16) _ = _
             simp only [Act.put, List.setIfInBounds_toArray, List.set_cons_zero, List.set_cons_succ, i64_w, i32_w]
             rfl
            refine pureA_ 2 17 (bm 18 7) ?_
            refine pureA_ 3 18 (bm 18 15) ?_
            refine pureA_ 4 19 (bm 18 31) ?_
            refine pureA_ 5 20 (bm 18 63) ?_
            refine pureA_ 6 21 (bm 18 127) ?_
            refine pureA_ 7 22 (bm 18 255) ?_
            refine pureA_ 8 23 (bm 18 511) ?_
            refine pureA_ 9 24 (bm 18 1023) ?_
            refine pureA_ 10 25 (bm 18 2047) ?_
            refine pureA_ 12 27 (bm 18 6143) ?_
            refine take_ (i := 11) (N := some 26) (v := ?_) (a' := ?_) #[true, true, true, true, true, true, true, true, true, true, true, true, true, false, false, false, false, false] rfl rfl (take_ofW HT_.out HW_.out (by kernel_rfl)) (fun _ _ _ h => h) (Or.inl ⟨by rfl, ?_⟩) hHeld ?_ ?_
            rotate_left
            ·rintro w' ⟨s0, s1, s2, s3, s4, s5, s6, s7, s8, s9⟩
             go_simp
             with_reducible rfl
            rotate_left
            ·simp only [Act.put, List.setIfInBounds_toArray, List.set_cons_zero, List.set_cons_succ, i64_w, i32_w]
             rfl
            refine take_ (i := 13) (N := some 28) (v := ?_) (a' := ?_) #[true, true, true, true, true, true, true, true, true, true, true, true, true, true, false, false, false, false] rfl rfl (take_ofW HT_.out HW_.out (by kernel_rfl)) (fun _ _ _ h => h) (Or.inl ⟨by rfl, ?_⟩) hHeld ?_ ?_
            rotate_left
            ·rintro w' ⟨s0, s1, s2, s3, s4, s5, s6, s7, s8, s9⟩
             go_simp
             with_reducible rfl
            rotate_left
            ·simp only [Act.put, List.setIfInBounds_toArray, List.set_cons_zero, List.set_cons_succ, i64_w, i32_w]
             rfl
            refine one_ (i := 14) (N := some 29) #[true, true, true, true, true, true, true, true, true, true, true, true, true, true, true, false, false, false] rfl rfl (one_of HT_.out (by kernel_rfl)) (by decide) (fun K hK => ?_)
            refine goes_ Try.func122 (by kernel_rfl) rfl #[.agg #[.int .u64 ((rd_T74 l0 (ji9)).f0), .int .u64 ((rd_T74 l0 (ji9)).f1), .int .u64 ((rd_T74 l0 (ji9)).f2), .int .u64 ((rd_T74 l0 (ji9)).f3), .int .i64 ((rd_T74 l0 (ji9)).f4)], .int .u64 ((rd_T74 l0 x10_1).f0)] (by rfl) rfl rfl (by (try simp only [List.map_toArray, List.map_cons, List.map_nil]); first | done | (simp only [hji9]; rfl) | rfl | (simp only [List.length_drop, List.length_take]; rfl)) ?_
            with_reducible refine (payment_order.calls ((rd_T74 l0 (ji9)).f0) ((rd_T74 l0 (ji9)).f1) ((rd_T74 l0 (ji9)).f2) ((rd_T74 l0 (ji9)).f3) ((rd_T74 l0 (ji9)).f4) ((rd_T74 l0 x10_1).f0) t238 _ A12.out).mono ?_
            rintro e w25 ⟨rfl, hb⟩
            refine ⟨_, rfl, ?_⟩
            have n0_ := Aside0.mk (blk_below (g := gb235) (blkN BK235) hb)
            have n1_ := Aside0.mk (below_step (belN HB) hb)
            clear BK235
            clear HB
            have BK235 := n0_
            have HB := n1_
            clear n0_ n1_
            (try clear hb)
            (try clear hb2)
            (try clear hk)
            (try clear hi)
            refine hK.out _ _ ⟨(blk_cell BK235.out 0).trans rfl, (blk_cell BK235.out 1).trans rfl, (blk_cell BK235.out 2).trans rfl, (blk_cell BK235.out 3).trans rfl, (blk_cell BK235.out 4).trans rfl, ((HB.out.cell (World.block_lt_of_cell? w _ hw237_0)).trans hw237_0), ((HB.out.cell (World.block_lt_of_cell? w _ hw237_1)).trans hw237_1), ((HB.out.cell (World.block_lt_of_cell? w _ hw237_2)).trans hw237_2), ((HB.out.cell (World.block_lt_of_cell? w _ hw237_3)).trans hw237_3), ((HB.out.cell (World.block_lt_of_cell? w _ hw237_4)).trans hw237_4)⟩ (fun hHeld => ?_)
            clear hK K
            refine norm_ (a' := ?_) ?_ ?_
            rotate_left
            ·show Act.put _ (some 29) _ = _
             simp only [Act.put, List.setIfInBounds_toArray, List.set_cons_zero, List.set_cons_succ, i64_w, i32_w]
             rfl
            refine pureA_ 15 30 (bm 18 65535) ?_
            refine pureA_ 16 31 (bm 18 131071) ?_
            refine pureA_ 17 32 (bm 18 262143) ?_
            refine done_ (done_of HT_.out (by kernel_rfl)) ?_
            try go_wp2
            go_roundg k1
            case measure => have := HK1.out; omega
            case rel => exact ⟨(wrap64 (x10_1 + 1)), (by first | rfl | (simp; done) | (simp [*]; done)), H', ⟨by have := HK1.out; omega⟩, ⟨by repeat (first | (with_reducible first | exact HB.out | apply below_alloc | apply pw_below_drewN | apply below_drew1 | refine below_set ?_ GE235.out) | exact HB.out)⟩⟩
          ·rw [if_neg c11] at H
           exact absurd H (by simp)
         ·rw [if_neg c10] at H
          exact absurd H (by simp)
        ·rw [if_neg c8] at H
         have c8b0 : decide (0 < x10_1) = false := decide_eq_false c8
         clear c8
         have H' := Aside0.mk H
         clear H
         have p234 : 0 ≤ (x10_1 : Int) := of_decide_eq_true (by first | (with_reducible assumption) | assumption)
         have q234 : x10_1 < (l0.length : Int) := of_decide_eq_true (by first | (with_reducible assumption) | assumption)
         obtain ⟨ad234, e234, hx234_0, hx234_1, hx234_2, hx234_3, hx234_4⟩ := at_T74 HR0.out x10_1 p234 q234
         cases e234
         replace hx234_0 := (HB.out.cell (World.block_lt_of_cell? w _ hx234_0)).trans hx234_0
         replace hx234_1 := (HB.out.cell (World.block_lt_of_cell? w _ hx234_1)).trans hx234_1
         replace hx234_2 := (HB.out.cell (World.block_lt_of_cell? w _ hx234_2)).trans hx234_2
         replace hx234_3 := (HB.out.cell (World.block_lt_of_cell? w _ hx234_3)).trans hx234_3
         replace hx234_4 := (HB.out.cell (World.block_lt_of_cell? w _ hx234_4)).trans hx234_4
         replace p234 := eq_true p234
         replace q234 := eq_true q234
         try go_wp2_with (first | ((with_reducible refine gate_dst (N := 4) rfl ?_); refine box_event ?hg (N := 4) ?hd (cs := #[.int .u64 0, .int .u64 0, .int .u64 0, .int .u64 0, .int .i64 0]) (t := 74) ?hr ?_; (case hd => rfl); (case hg => rfl); (case hr => first | (go_simp; done) | (go_simp; rfl)); intro gb235 hg w26 hbox hb; have n0_ := Aside0.mk (below_step (belN HB) hb); have n1_ := Aside0.mk (hbox); have n2_ := Aside0.mk ((by rw [hg]; exact (below_size (belN HB)) : w.heap.size ≤ gb235)); have n3_ := Aside0.mk ((by rw [hg]; exact (below_size (belN HB)) : w.heap.size ≤ gb235)); clear HB; have HB := n0_; have BK235 := n1_; have GW235 := n2_; have GE235 := n3_; clear n0_ n1_ n2_ n3_; clear hb hbox hg; obtain ⟨hcz27_0, hcz27_1, hcz27_2, hcz27_3, hcz27_4, hfz27_0, hfz27_1, hfz27_2, hfz27_3, hfz27_4⟩ := cz5_ (w := w26) BK235.out))
         have n0_ : Aside0 ((((((w26.setCell ⟨gb235, 0, none⟩ (.int .u64 ((rd_T74 l0 x10_1).f0))).setCell ⟨gb235, 1, none⟩ (.int .u64 ((rd_T74 l0 x10_1).f1))).setCell ⟨gb235, 2, none⟩ (.int .u64 ((rd_T74 l0 x10_1).f2))).setCell ⟨gb235, 3, none⟩ (.int .u64 ((rd_T74 l0 x10_1).f3))).setCell ⟨gb235, 4, none⟩ (.int .i64 ((rd_T74 l0 x10_1).f4))).heap[gb235]? = some (.cells #[.int .u64 ((rd_T74 l0 x10_1).f0), .int .u64 ((rd_T74 l0 x10_1).f1), .int .u64 ((rd_T74 l0 x10_1).f2), .int .u64 ((rd_T74 l0 x10_1).f3), .int .i64 ((rd_T74 l0 x10_1).f4)] 74 (0, 0))) := ⟨by (with_reducible repeat (first | refine blk_drewN ?_ _ | refine blk_drew ?_ | refine blk_alloc ?_ _)); refine blk_put (cs := #[.int .u64 ((rd_T74 l0 x10_1).f0), .int .u64 ((rd_T74 l0 x10_1).f1), .int .u64 ((rd_T74 l0 x10_1).f2), .int .u64 ((rd_T74 l0 x10_1).f3), .int .i64 0]) ?_ 4 _ rfl; refine blk_put (cs := #[.int .u64 ((rd_T74 l0 x10_1).f0), .int .u64 ((rd_T74 l0 x10_1).f1), .int .u64 ((rd_T74 l0 x10_1).f2), .int .u64 0, .int .i64 0]) ?_ 3 _ rfl; refine blk_put (cs := #[.int .u64 ((rd_T74 l0 x10_1).f0), .int .u64 ((rd_T74 l0 x10_1).f1), .int .u64 0, .int .u64 0, .int .i64 0]) ?_ 2 _ rfl; refine blk_put (cs := #[.int .u64 ((rd_T74 l0 x10_1).f0), .int .u64 0, .int .u64 0, .int .u64 0, .int .i64 0]) ?_ 1 _ rfl; refine blk_put (cs := #[.int .u64 0, .int .u64 0, .int .u64 0, .int .u64 0, .int .i64 0]) ?_ 0 _ rfl; (with_reducible repeat (first | refine blk_drewN ?_ _ | refine blk_drew ?_ | refine blk_alloc ?_ _)); exact BK235.out⟩
         have n1_ : Aside0 (Below w.heap.size w (((((w26.setCell ⟨gb235, 0, none⟩ (.int .u64 ((rd_T74 l0 x10_1).f0))).setCell ⟨gb235, 1, none⟩ (.int .u64 ((rd_T74 l0 x10_1).f1))).setCell ⟨gb235, 2, none⟩ (.int .u64 ((rd_T74 l0 x10_1).f2))).setCell ⟨gb235, 3, none⟩ (.int .u64 ((rd_T74 l0 x10_1).f3))).setCell ⟨gb235, 4, none⟩ (.int .i64 ((rd_T74 l0 x10_1).f4)))) := ⟨by repeat (first | (with_reducible first | exact HB.out | apply below_alloc | apply pw_below_drewN | apply below_drew1 | refine below_set ?_ GE235.out) | exact HB.out)⟩
         (try clear BK235)
         (try clear HB)
         generalize (((((w26.setCell ⟨gb235, 0, none⟩ (.int .u64 ((rd_T74 l0 x10_1).f0))).setCell ⟨gb235, 1, none⟩ (.int .u64 ((rd_T74 l0 x10_1).f1))).setCell ⟨gb235, 2, none⟩ (.int .u64 ((rd_T74 l0 x10_1).f2))).setCell ⟨gb235, 3, none⟩ (.int .u64 ((rd_T74 l0 x10_1).f3))).setCell ⟨gb235, 4, none⟩ (.int .i64 ((rd_T74 l0 x10_1).f4))) = w28 at n0_ n1_ ⊢
         have BK235 := n0_
         have HB := n1_
         clear n0_ n1_
         have n0_ := Aside0.mk (blk_drew BK235.out)
         have n1_ := Aside0.mk (below_drew1 HB.out)
         clear BK235
         clear HB
         have BK235 := n0_
         have HB := n1_
         clear n0_ n1_
         refine start_ (n := 18) (S := fun w' => w'.cell? ⟨gb235, 0, none⟩ = some (.int .u64 ((rd_T74 l0 x10_1).f0)) ∧ w'.cell? ⟨gb235, 1, none⟩ = some (.int .u64 ((rd_T74 l0 x10_1).f1)) ∧ w'.cell? ⟨gb235, 2, none⟩ = some (.int .u64 ((rd_T74 l0 x10_1).f2)) ∧ w'.cell? ⟨gb235, 3, none⟩ = some (.int .u64 ((rd_T74 l0 x10_1).f3)) ∧ w'.cell? ⟨gb235, 4, none⟩ = some (.int .i64 ((rd_T74 l0 x10_1).f4))) (ds := []) #[false, false, false, false, false, false, false, false, false, false, false, false, false, false, false, false, false, false] (by kernel_rfl) rfl rfl ⟨(blk_cell BK235.out 0).trans rfl, (blk_cell BK235.out 1).trans rfl, (blk_cell BK235.out 2).trans rfl, (blk_cell BK235.out 3).trans rfl, (blk_cell BK235.out 4).trans rfl⟩ (fun hHeld => ?_); refine with_tabW payment_Check.tab6 payment_Check.bits6 (fun HT_ HW_ => ?_)
         generalize w28.drew = w29 at BK235 HB hHeld ⊢
         refine take_ (i := 0) (N := some 15) (v := ?_) (a' := ?_) #[true, false, false, false, false, false, false, false, false, false, false, false, false, false, false, false, false, false] rfl rfl (take_ofW HT_.out HW_.out (by kernel_rfl)) (fun _ _ _ h => h) (Or.inl ⟨by rfl, ?_⟩) hHeld ?_ ?_
         rotate_left
         ·rintro w' ⟨s0, s1, s2, s3, s4⟩
          go_simp
          with_reducible rfl
         rotate_left
         ·simp only [Act.put, List.setIfInBounds_toArray, List.set_cons_zero, List.set_cons_succ, i64_w, i32_w]
          rfl
         refine one_ (i := 1) (N := some 16) #[true, true, false, false, false, false, false, false, false, false, false, false, false, false, false, false, false, false] rfl rfl (one_of HT_.out (by kernel_rfl)) (by decide) (fun K hK => ?_)
         refine goes_ Try.func116 (by kernel_rfl) rfl #[.agg #[.int .u64 ((rd_T74 l0 x10_1).f0), .int .u64 ((rd_T74 l0 x10_1).f1), .int .u64 ((rd_T74 l0 x10_1).f2), .int .u64 ((rd_T74 l0 x10_1).f3), .int .i64 ((rd_T74 l0 x10_1).f4)]] (by rfl) rfl rfl (by (try simp only [List.map_toArray, List.map_cons, List.map_nil]); first | done | rfl | (simp only [List.length_drop, List.length_take]; rfl)) ?_
         with_reducible refine (payment_may.calls k1 ((rd_T74 l0 x10_1).f0) ((rd_T74 l0 x10_1).f1) ((rd_T74 l0 x10_1).f2) ((rd_T74 l0 x10_1).f3) ((rd_T74 l0 x10_1).f4) true _ A6.out).mono ?_
         rintro e w30 ⟨rfl, hb⟩
         refine ⟨_, rfl, ?_⟩
         have n0_ := Aside0.mk (blk_below (g := gb235) (blkN BK235) hb)
         have n1_ := Aside0.mk (below_step (belN HB) hb)
         clear BK235
         clear HB
         have BK235 := n0_
         have HB := n1_
         clear n0_ n1_
         (try clear hb)
         (try clear hb2)
         (try clear hk)
         (try clear hi)
         refine hK.out _ _ ⟨(blk_cell BK235.out 0).trans rfl, (blk_cell BK235.out 1).trans rfl, (blk_cell BK235.out 2).trans rfl, (blk_cell BK235.out 3).trans rfl, (blk_cell BK235.out 4).trans rfl⟩ (fun hHeld => ?_)
         clear hK K
         refine norm_ (a' := ?_) ?_ ?_
         rotate_left
         ·show Act.put _ (some 16) _ = _
          simp only [Act.put, List.setIfInBounds_toArray, List.set_cons_zero, List.set_cons_succ, i64_w, i32_w]
          rfl
         refine pureA_ 2 17 (bm 18 7) ?_
         refine pureA_ 3 18 (bm 18 15) ?_
         refine pureA_ 4 19 (bm 18 31) ?_
         refine pureA_ 5 20 (bm 18 63) ?_
         refine pureA_ 6 21 (bm 18 127) ?_
         refine pureU_ 7 22 (bm 18 255) ?_
         refine pureU_ 8 23 (bm 18 511) ?_
         refine pureU_ 9 24 (bm 18 1023) ?_
         refine pureU_ 10 25 (bm 18 2047) ?_
         refine pureU_ 11 26 (bm 18 4095) ?_
         refine pureU_ 12 27 (bm 18 8191) ?_
         refine pureU_ 13 28 (bm 18 16383) ?_
         refine pureU_ 14 29 (bm 18 32767) ?_
         refine pureU_ 15 30 (bm 18 65535) ?_
         refine pureA_ 16 31 (bm 18 131071) ?_
         refine pureA_ 17 32 (bm 18 262143) ?_
         refine done_ (done_of HT_.out (by kernel_rfl)) ?_
         try go_wp2
         go_roundg k1
         case measure => have := HK1.out; omega
         case rel => exact ⟨(wrap64 (x10_1 + 1)), (by first | rfl | (simp; done) | (simp [*]; done)), H', ⟨by have := HK1.out; omega⟩, ⟨by repeat (first | (with_reducible first | exact HB.out | apply below_alloc | apply pw_below_drewN | apply below_drew1 | refine below_set ?_ GE235.out) | exact HB.out)⟩⟩
       ·replace c7 := Bool.eq_false_iff.mpr c7
        subst c7
        have H1 : (some 1) = some r := by rw [if_neg (show ¬ (false = true) by decide)] at H; exact H
        clear H
        have H := H1
        clear H1
        obtain rfl := Option.some.inj H
        have p234 : 0 ≤ (x10_1 : Int) := of_decide_eq_true (by first | (with_reducible assumption) | assumption)
        have q234 : x10_1 < (l0.length : Int) := of_decide_eq_true (by first | (with_reducible assumption) | assumption)
        obtain ⟨ad234, e234, hx234_0, hx234_1, hx234_2, hx234_3, hx234_4⟩ := at_T74 HR0.out x10_1 p234 q234
        cases e234
        replace hx234_0 := (HB.out.cell (World.block_lt_of_cell? w _ hx234_0)).trans hx234_0
        replace hx234_1 := (HB.out.cell (World.block_lt_of_cell? w _ hx234_1)).trans hx234_1
        replace hx234_2 := (HB.out.cell (World.block_lt_of_cell? w _ hx234_2)).trans hx234_2
        replace hx234_3 := (HB.out.cell (World.block_lt_of_cell? w _ hx234_3)).trans hx234_3
        replace hx234_4 := (HB.out.cell (World.block_lt_of_cell? w _ hx234_4)).trans hx234_4
        replace p234 := eq_true p234
        replace q234 := eq_true q234
        try go_wp2_with (first | ((with_reducible refine gate_dst (N := 4) rfl ?_); refine box_event ?hg (N := 4) ?hd (cs := #[.int .u64 0, .int .u64 0, .int .u64 0, .int .u64 0, .int .i64 0]) (t := 74) ?hr ?_; (case hd => rfl); (case hg => rfl); (case hr => first | (go_simp; done) | (go_simp; rfl)); intro gb235 hg w31 hbox hb; have n0_ := Aside0.mk (below_step (belN HB) hb); have n1_ := Aside0.mk (hbox); have n2_ := Aside0.mk ((by rw [hg]; exact (below_size (belN HB)) : w.heap.size ≤ gb235)); have n3_ := Aside0.mk ((by rw [hg]; exact (below_size (belN HB)) : w.heap.size ≤ gb235)); clear HB; have HB := n0_; have BK235 := n1_; have GW235 := n2_; have GE235 := n3_; clear n0_ n1_ n2_ n3_; clear hb hbox hg; obtain ⟨hcz32_0, hcz32_1, hcz32_2, hcz32_3, hcz32_4, hfz32_0, hfz32_1, hfz32_2, hfz32_3, hfz32_4⟩ := cz5_ (w := w31) BK235.out))
        have n0_ : Aside0 ((((((w31.setCell ⟨gb235, 0, none⟩ (.int .u64 ((rd_T74 l0 x10_1).f0))).setCell ⟨gb235, 1, none⟩ (.int .u64 ((rd_T74 l0 x10_1).f1))).setCell ⟨gb235, 2, none⟩ (.int .u64 ((rd_T74 l0 x10_1).f2))).setCell ⟨gb235, 3, none⟩ (.int .u64 ((rd_T74 l0 x10_1).f3))).setCell ⟨gb235, 4, none⟩ (.int .i64 ((rd_T74 l0 x10_1).f4))).heap[gb235]? = some (.cells #[.int .u64 ((rd_T74 l0 x10_1).f0), .int .u64 ((rd_T74 l0 x10_1).f1), .int .u64 ((rd_T74 l0 x10_1).f2), .int .u64 ((rd_T74 l0 x10_1).f3), .int .i64 ((rd_T74 l0 x10_1).f4)] 74 (0, 0))) := ⟨by (with_reducible repeat (first | refine blk_drewN ?_ _ | refine blk_drew ?_ | refine blk_alloc ?_ _)); refine blk_put (cs := #[.int .u64 ((rd_T74 l0 x10_1).f0), .int .u64 ((rd_T74 l0 x10_1).f1), .int .u64 ((rd_T74 l0 x10_1).f2), .int .u64 ((rd_T74 l0 x10_1).f3), .int .i64 0]) ?_ 4 _ rfl; refine blk_put (cs := #[.int .u64 ((rd_T74 l0 x10_1).f0), .int .u64 ((rd_T74 l0 x10_1).f1), .int .u64 ((rd_T74 l0 x10_1).f2), .int .u64 0, .int .i64 0]) ?_ 3 _ rfl; refine blk_put (cs := #[.int .u64 ((rd_T74 l0 x10_1).f0), .int .u64 ((rd_T74 l0 x10_1).f1), .int .u64 0, .int .u64 0, .int .i64 0]) ?_ 2 _ rfl; refine blk_put (cs := #[.int .u64 ((rd_T74 l0 x10_1).f0), .int .u64 0, .int .u64 0, .int .u64 0, .int .i64 0]) ?_ 1 _ rfl; refine blk_put (cs := #[.int .u64 0, .int .u64 0, .int .u64 0, .int .u64 0, .int .i64 0]) ?_ 0 _ rfl; (with_reducible repeat (first | refine blk_drewN ?_ _ | refine blk_drew ?_ | refine blk_alloc ?_ _)); exact BK235.out⟩
        have n1_ : Aside0 (Below w.heap.size w (((((w31.setCell ⟨gb235, 0, none⟩ (.int .u64 ((rd_T74 l0 x10_1).f0))).setCell ⟨gb235, 1, none⟩ (.int .u64 ((rd_T74 l0 x10_1).f1))).setCell ⟨gb235, 2, none⟩ (.int .u64 ((rd_T74 l0 x10_1).f2))).setCell ⟨gb235, 3, none⟩ (.int .u64 ((rd_T74 l0 x10_1).f3))).setCell ⟨gb235, 4, none⟩ (.int .i64 ((rd_T74 l0 x10_1).f4)))) := ⟨by repeat (first | (with_reducible first | exact HB.out | apply below_alloc | apply pw_below_drewN | apply below_drew1 | refine below_set ?_ GE235.out) | exact HB.out)⟩
        (try clear BK235)
        (try clear HB)
        generalize (((((w31.setCell ⟨gb235, 0, none⟩ (.int .u64 ((rd_T74 l0 x10_1).f0))).setCell ⟨gb235, 1, none⟩ (.int .u64 ((rd_T74 l0 x10_1).f1))).setCell ⟨gb235, 2, none⟩ (.int .u64 ((rd_T74 l0 x10_1).f2))).setCell ⟨gb235, 3, none⟩ (.int .u64 ((rd_T74 l0 x10_1).f3))).setCell ⟨gb235, 4, none⟩ (.int .i64 ((rd_T74 l0 x10_1).f4))) = w33 at n0_ n1_ ⊢
        have BK235 := n0_
        have HB := n1_
        clear n0_ n1_
        have n0_ := Aside0.mk (blk_drew BK235.out)
        have n1_ := Aside0.mk (below_drew1 HB.out)
        clear BK235
        clear HB
        have BK235 := n0_
        have HB := n1_
        clear n0_ n1_
        refine start_ (n := 18) (S := fun w' => w'.cell? ⟨gb235, 0, none⟩ = some (.int .u64 ((rd_T74 l0 x10_1).f0)) ∧ w'.cell? ⟨gb235, 1, none⟩ = some (.int .u64 ((rd_T74 l0 x10_1).f1)) ∧ w'.cell? ⟨gb235, 2, none⟩ = some (.int .u64 ((rd_T74 l0 x10_1).f2)) ∧ w'.cell? ⟨gb235, 3, none⟩ = some (.int .u64 ((rd_T74 l0 x10_1).f3)) ∧ w'.cell? ⟨gb235, 4, none⟩ = some (.int .i64 ((rd_T74 l0 x10_1).f4))) (ds := []) #[false, false, false, false, false, false, false, false, false, false, false, false, false, false, false, false, false, false] (by kernel_rfl) rfl rfl ⟨(blk_cell BK235.out 0).trans rfl, (blk_cell BK235.out 1).trans rfl, (blk_cell BK235.out 2).trans rfl, (blk_cell BK235.out 3).trans rfl, (blk_cell BK235.out 4).trans rfl⟩ (fun hHeld => ?_); refine with_tabW payment_Check.tab6 payment_Check.bits6 (fun HT_ HW_ => ?_)
        generalize w33.drew = w34 at BK235 HB hHeld ⊢
        refine take_ (i := 0) (N := some 15) (v := ?_) (a' := ?_) #[true, false, false, false, false, false, false, false, false, false, false, false, false, false, false, false, false, false] rfl rfl (take_ofW HT_.out HW_.out (by kernel_rfl)) (fun _ _ _ h => h) (Or.inl ⟨by rfl, ?_⟩) hHeld ?_ ?_
        rotate_left
        ·rintro w' ⟨s0, s1, s2, s3, s4⟩
         go_simp
         with_reducible rfl
        rotate_left
        ·simp only [Act.put, List.setIfInBounds_toArray, List.set_cons_zero, List.set_cons_succ, i64_w, i32_w]
         rfl
        refine one_ (i := 1) (N := some 16) #[true, true, false, false, false, false, false, false, false, false, false, false, false, false, false, false, false, false] rfl rfl (one_of HT_.out (by kernel_rfl)) (by decide) (fun K hK => ?_)
        refine goes_ Try.func116 (by kernel_rfl) rfl #[.agg #[.int .u64 ((rd_T74 l0 x10_1).f0), .int .u64 ((rd_T74 l0 x10_1).f1), .int .u64 ((rd_T74 l0 x10_1).f2), .int .u64 ((rd_T74 l0 x10_1).f3), .int .i64 ((rd_T74 l0 x10_1).f4)]] (by rfl) rfl rfl (by (try simp only [List.map_toArray, List.map_cons, List.map_nil]); first | done | rfl | (simp only [List.length_drop, List.length_take]; rfl)) ?_
        with_reducible refine (payment_may.calls k1 ((rd_T74 l0 x10_1).f0) ((rd_T74 l0 x10_1).f1) ((rd_T74 l0 x10_1).f2) ((rd_T74 l0 x10_1).f3) ((rd_T74 l0 x10_1).f4) false _ A6.out).mono ?_
        rintro e w35 ⟨rfl, hb⟩
        refine ⟨_, rfl, ?_⟩
        have n0_ := Aside0.mk (blk_below (g := gb235) (blkN BK235) hb)
        have n1_ := Aside0.mk (below_step (belN HB) hb)
        clear BK235
        clear HB
        have BK235 := n0_
        have HB := n1_
        clear n0_ n1_
        (try clear hb)
        (try clear hb2)
        (try clear hk)
        (try clear hi)
        refine hK.out _ _ ⟨(blk_cell BK235.out 0).trans rfl, (blk_cell BK235.out 1).trans rfl, (blk_cell BK235.out 2).trans rfl, (blk_cell BK235.out 3).trans rfl, (blk_cell BK235.out 4).trans rfl⟩ (fun hHeld => ?_)
        clear hK K
        refine norm_ (a' := ?_) ?_ ?_
        rotate_left
        ·show Act.put _ (some 16) _ = _
         simp only [Act.put, List.setIfInBounds_toArray, List.set_cons_zero, List.set_cons_succ, i64_w, i32_w]
         rfl
        refine pureA_ 2 17 (bm 18 7) ?_
        refine pureA_ 3 18 (bm 18 15) ?_
        refine pureU_ 4 19 (bm 18 31) ?_
        refine pureU_ 5 20 (bm 18 63) ?_
        refine pureU_ 6 21 (bm 18 127) ?_
        refine pureU_ 7 22 (bm 18 255) ?_
        refine pureU_ 8 23 (bm 18 511) ?_
        refine pureU_ 9 24 (bm 18 1023) ?_
        refine pureU_ 10 25 (bm 18 2047) ?_
        refine pureU_ 11 26 (bm 18 4095) ?_
        refine pureU_ 12 27 (bm 18 8191) ?_
        refine pureU_ 13 28 (bm 18 16383) ?_
        refine pureU_ 14 29 (bm 18 32767) ?_
        refine pureU_ 15 30 (bm 18 65535) ?_
        refine pureU_ 16 31 (bm 18 131071) ?_
        refine pureA_ 17 32 (bm 18 262143) ?_
        refine done_ (done_of HT_.out (by kernel_rfl)) ?_
        try go_wp2
        go_ret
        exact ⟨by first | rfl | (simp [errW_none, errW_some] <;> rfl) | (simp [*, errW_none, errW_some] <;> rfl), by repeat (first | (with_reducible first | exact HB.out | apply below_alloc | apply pw_below_drewN | apply below_drew1 | refine below_set ?_ GE235.out) | exact HB.out)⟩
      ·rw [if_neg c5] at H
       exact absurd H (by simp)
     ·rw [if_neg c4] at H
      exact absurd H (by simp)
    ·rw [if_neg c3] at H
     have c3b0 : decide (x10_1 < (l0.length : Int)) = false := decide_eq_false c3
     clear c3
     obtain rfl := Option.some.inj H
     go_wp2
     go_ret
     exact ⟨by first | rfl | (simp [errW_none, errW_some] <;> rfl) | (simp [*, errW_none, errW_some] <;> rfl), by repeat (first | (with_reducible first | exact HB.out | apply below_alloc | apply pw_below_drewN | apply below_drew1) | exact HB.out)⟩

-- NOT PRINTED: function 137 (slices_BinarySearchFunc_uint64_137)

/-! ### slices_BinarySearchFunc_uint64_at_payment_order: function 167 -/
def slices_BinarySearchFunc_uint64_at_payment_order.l0 : Nat → List (S74) → Int → Int → Int → Int → Option (Int × Bool)
  | 0, _, _, _, _, _ => none
  | k + 1, x0, x1, x8, x9, x10 => if x9 < x10 then (if 0 ≤ (wrap64 ((IntKind.u64.wrap (wrap64 (x9 + x10))) / 2)) then (if (wrap64 ((IntKind.u64.wrap (wrap64 (x9 + x10))) / 2)) < (x0.length : Int) then ((payment_order.f ((rd_T74 x0 (wrap64 ((IntKind.u64.wrap (wrap64 (x9 + x10))) / 2))).f0) ((rd_T74 x0 (wrap64 ((IntKind.u64.wrap (wrap64 (x9 + x10))) / 2))).f1) ((rd_T74 x0 (wrap64 ((IntKind.u64.wrap (wrap64 (x9 + x10))) / 2))).f2) ((rd_T74 x0 (wrap64 ((IntKind.u64.wrap (wrap64 (x9 + x10))) / 2))).f3) ((rd_T74 x0 (wrap64 ((IntKind.u64.wrap (wrap64 (x9 + x10))) / 2))).f4) x1).bind fun t240 => (if t240 < 0 then (slices_BinarySearchFunc_uint64_at_payment_order.l0 k x0 x1 x8 (wrap64 ((wrap64 ((IntKind.u64.wrap (wrap64 (x9 + x10))) / 2)) + 1)) x10) else (slices_BinarySearchFunc_uint64_at_payment_order.l0 k x0 x1 x8 x9 (wrap64 ((IntKind.u64.wrap (wrap64 (x9 + x10))) / 2))))) else (none)) else (none)) else (if x9 < x8 then (if 0 ≤ x9 then (if x9 < (x0.length : Int) then ((payment_order.f ((rd_T74 x0 x9).f0) ((rd_T74 x0 x9).f1) ((rd_T74 x0 x9).f2) ((rd_T74 x0 x9).f3) ((rd_T74 x0 x9).f4) x1).bind fun t242 => (some (x9, (t242 == 0)))) else (none)) else (none)) else (some (x9, false)))
def slices_BinarySearchFunc_uint64_at_payment_order.f (k : Nat) (l0 : List (S74)) (a1 : Int)  : Option (Int × Bool) := slices_BinarySearchFunc_uint64_at_payment_order.l0 k l0 a1 (l0.length : Int) 0 (l0.length : Int)
theorem slices_BinarySearchFunc_uint64_at_payment_order.mono_l : ∀ k, (∀ y0 y1 y2 y3 y4, LeO (slices_BinarySearchFunc_uint64_at_payment_order.l0 k y0 y1 y2 y3 y4) (slices_BinarySearchFunc_uint64_at_payment_order.l0 (k + 1) y0 y1 y2 y3 y4))
  | 0 => fun _ _ _ _ _ r h => by simp [slices_BinarySearchFunc_uint64_at_payment_order.l0] at h
  | k + 1 => by
    have ih0 := slices_BinarySearchFunc_uint64_at_payment_order.mono_l k
    · intro y0 y1 y2 y3 y4
      unfold slices_BinarySearchFunc_uint64_at_payment_order.l0
      repeat' first
      | (with_reducible exact ih0 _ _ _ _ _)
      | (with_reducible exact LeO.refl _)
      | (with_reducible exact LeO.none _)
      | (with_reducible refine LeO.ite ?_ ?_)
      | (with_reducible refine LeO.bind ?_ (fun _ => ?_))
      | exact ih0 _ _ _ _ _
      | exact LeO.none _
      | refine LeO.ite ?_ ?_
      | refine LeO.bind ?_ (fun _ => ?_)
theorem slices_BinarySearchFunc_uint64_at_payment_order.mono : ∀ a0 a1 k, LeO (slices_BinarySearchFunc_uint64_at_payment_order.f k a0 a1) (slices_BinarySearchFunc_uint64_at_payment_order.f (k + 1) a0 a1) := by
  intro a0 a1 k
  have ih0 := slices_BinarySearchFunc_uint64_at_payment_order.mono_l k
  unfold slices_BinarySearchFunc_uint64_at_payment_order.f
  repeat' first
      | (with_reducible exact ih0 _ _ _ _ _)
      | (with_reducible exact LeO.refl _)
      | (with_reducible exact LeO.none _)
      | (with_reducible refine LeO.ite ?_ ?_)
      | (with_reducible refine LeO.bind ?_ (fun _ => ?_))
      | exact ih0 _ _ _ _ _
      | exact LeO.none _
      | refine LeO.ite ?_ ?_
      | refine LeO.bind ?_ (fun _ => ?_)
set_option maxHeartbeats 8000000 in
set_option maxRecDepth 100000 in
theorem slices_BinarySearchFunc_uint64_at_payment_order.calls (k : Nat) (A0 : Option Addr) (c0 : Nat) (l0 : List (S74)) (a1 : Int)  (r1 : Int) (r2 : Bool) (w : World) (hr0 : Kd.C k74 w A0 l0.length l0) (hc0 : l0.length ≤ c0) (h : slices_BinarySearchFunc_uint64_at_payment_order.f k l0 a1 = some (r1, r2)) :
    Calls Try.prog 137 #[.slice A0 l0.length c0, .int .u64 a1, .func (.func 122) #[] #[]] w fun e w' => e = .returned (.tuple #[.int .i64 r1, .bool r2]) ∧ Below w.heap.size w w' := by
  have hu74 := Try.underlying74
  have HR0 := Aside0.mk hr0
  have HC0 := Aside0.mk hc0
  clear hr0 hc0
  have HB := Aside0.mk (Below.refl w.heap.size w)
  have H : (slices_BinarySearchFunc_uint64_at_payment_order.l0 k l0 a1 (l0.length : Int) 0 (l0.length : Int)) = some (r1, r2) := h
  clear h
  have H' := Aside0.mk H
  clear H
  go_enter Try.func137, Try.ntmps137
  go_wp2
  go_loopg [9, 10] k (fun kq v9 v10 w' => ∃ (x9_1 : Int) (x10_1 : Int), v9 = .int .i64 x9_1 ∧ v10 = .int .i64 x10_1 ∧ Aside0 (slices_BinarySearchFunc_uint64_at_payment_order.l0 kq l0 a1 (l0.length : Int) x9_1 x10_1 = some (r1, r2)) ∧ Aside0 (kq ≤ k) ∧ Aside0 (Below w.heap.size w w'))
  case atStart => exact ⟨(0), ((l0.length : Int)), (by first | rfl | (simp; done) | (simp [*]; done)), (by first | rfl | (simp; done) | (simp [*]; done)), H', ⟨Nat.le_refl _⟩, ⟨by repeat (first | (with_reducible first | exact HB.out | apply below_alloc | apply pw_below_drewN | apply below_drew1) | exact HB.out)⟩⟩
  case round =>
    clear H'
    try clear c1
    try clear p2
    obtain ⟨x9_1, x10_1, rfl, rfl, HA, HK1, HB⟩ := hrel
    cases gk with
    | zero => exact absurd HA.out (by simp [slices_BinarySearchFunc_uint64_at_payment_order.l0])
    | succ k1 =>
      have H := HA.out
      clear HA
      simp only [slices_BinarySearchFunc_uint64_at_payment_order.l0] at H
      by_cases c4 : x9_1 < x10_1
      · rw [if_pos c4] at H
        have c4b0 : decide (x9_1 < x10_1) = true := decide_eq_true c4
        clear c4
        obtain ⟨ji5, hji5⟩ : ∃ j_ : Int, (wrap64 ((IntKind.u64.wrap (wrap64 (x9_1 + x10_1))) / 2)) = j_ := ⟨_, rfl⟩
        replace H : (if 0 ≤ (ji5) then (if (ji5) < (l0.length : Int) then ((payment_order.f ((rd_T74 l0 (ji5)).f0) ((rd_T74 l0 (ji5)).f1) ((rd_T74 l0 (ji5)).f2) ((rd_T74 l0 (ji5)).f3) ((rd_T74 l0 (ji5)).f4) a1).bind fun t240 => (if t240 < 0 then (slices_BinarySearchFunc_uint64_at_payment_order.l0 k1 l0 a1 (l0.length : Int) (wrap64 ((ji5) + 1)) x10_1) else (slices_BinarySearchFunc_uint64_at_payment_order.l0 k1 l0 a1 (l0.length : Int) x9_1 ji5))) else (none)) else (none)) = some (r1, r2) := by first | (rw [hji5] at H; exact H) | (simp only [hji5] at H ⊢; exact H)
        have hji5w : (IntKind.i64.wrap ((IntKind.u64.wrap (wrap64 (x9_1 + x10_1))) / 2)) = ji5 := (i64_w _).trans hji5
        by_cases c6 : 0 ≤ (ji5)
        · rw [if_pos c6] at H
          have c6b0 : decide (0 ≤ (ji5)) = true := decide_eq_true c6
          clear c6
          by_cases c7 : (ji5) < (l0.length : Int)
          · rw [if_pos c7] at H
            have c7b0 : decide ((ji5) < (l0.length : Int)) = true := decide_eq_true c7
            clear c7
            replace H := Option.bind_eq_some_iff.mp H
            obtain ⟨t240, A80, H⟩ := H
            replace H : (if t240 < 0 then (slices_BinarySearchFunc_uint64_at_payment_order.l0 k1 l0 a1 (l0.length : Int) (wrap64 ((ji5) + 1)) x10_1) else (slices_BinarySearchFunc_uint64_at_payment_order.l0 k1 l0 a1 (l0.length : Int) x9_1 ji5)) = some (r1, r2) := H
            have A8 := Aside0.mk A80
            clear A80
            by_cases c9 : t240 < 0
            · rw [if_pos c9] at H
              have c9b0 : decide (t240 < 0) = true := decide_eq_true c9
              clear c9
              have H' := Aside0.mk H
              clear H
              have p239 : 0 ≤ ((ji5) : Int) := of_decide_eq_true (by first | (with_reducible assumption) | assumption)
              have q239 : (ji5) < (l0.length : Int) := of_decide_eq_true (by first | (with_reducible assumption) | assumption)
              obtain ⟨ad239, e239, hx239_0, hx239_1, hx239_2, hx239_3, hx239_4⟩ := at_T74 HR0.out (ji5) p239 q239
              cases e239
              replace hx239_0 := (HB.out.cell (World.block_lt_of_cell? w _ hx239_0)).trans hx239_0
              replace hx239_1 := (HB.out.cell (World.block_lt_of_cell? w _ hx239_1)).trans hx239_1
              replace hx239_2 := (HB.out.cell (World.block_lt_of_cell? w _ hx239_2)).trans hx239_2
              replace hx239_3 := (HB.out.cell (World.block_lt_of_cell? w _ hx239_3)).trans hx239_3
              replace hx239_4 := (HB.out.cell (World.block_lt_of_cell? w _ hx239_4)).trans hx239_4
              replace p239 := eq_true p239
              replace q239 := eq_true q239
              go_wp2_with (first | ((with_reducible refine gate_tmp (t_ := 24) rfl ?_); refine goesT_ (some 30) rfl rfl Try.func122 (by kernel_rfl) rfl #[.agg #[.int .u64 ((rd_T74 l0 (ji5)).f0), .int .u64 ((rd_T74 l0 (ji5)).f1), .int .u64 ((rd_T74 l0 (ji5)).f2), .int .u64 ((rd_T74 l0 (ji5)).f3), .int .i64 ((rd_T74 l0 (ji5)).f4)], .int .u64 a1] rfl rfl (by (try simp only [List.map_toArray, List.map_cons, List.map_nil]); first | done | (simp only [hji5]; rfl) | rfl | (simp only [List.length_drop, List.length_take]; rfl)) ?_; (with_reducible refine (payment_order.calls ((rd_T74 l0 (ji5)).f0) ((rd_T74 l0 (ji5)).f1) ((rd_T74 l0 (ji5)).f2) ((rd_T74 l0 (ji5)).f3) ((rd_T74 l0 (ji5)).f4) a1 t240 _ A8.out).mono ?_); rintro e w10 ⟨rfl, hb⟩; refine ⟨_, rfl, ?_⟩; have n0_ := Aside0.mk (below_step (belN HB) hb); clear HB; have HB := n0_; clear n0_; (try clear hb); (try clear hb2); (try clear hk); (try clear hi)))
              go_roundg k1
              case measure => have := HK1.out; omega
              case rel => exact ⟨(wrap64 ((ji5) + 1)), (x10_1), (by first | rfl | (simp; done) | (simp only [← hji5] <;> (first | rfl | simp)) | (simp [*]; done)), (by first | rfl | (simp; done) | (simp [*]; done)), H', ⟨by have := HK1.out; omega⟩, ⟨by repeat (first | (with_reducible first | exact HB.out | apply below_alloc | apply pw_below_drewN | apply below_drew1) | exact HB.out)⟩⟩
            · rw [if_neg c9] at H
              have c9b0 : decide (t240 < 0) = false := decide_eq_false c9
              clear c9
              have H' := Aside0.mk H
              clear H
              have p239 : 0 ≤ ((ji5) : Int) := of_decide_eq_true (by first | (with_reducible assumption) | assumption)
              have q239 : (ji5) < (l0.length : Int) := of_decide_eq_true (by first | (with_reducible assumption) | assumption)
              obtain ⟨ad239, e239, hx239_0, hx239_1, hx239_2, hx239_3, hx239_4⟩ := at_T74 HR0.out (ji5) p239 q239
              cases e239
              replace hx239_0 := (HB.out.cell (World.block_lt_of_cell? w _ hx239_0)).trans hx239_0
              replace hx239_1 := (HB.out.cell (World.block_lt_of_cell? w _ hx239_1)).trans hx239_1
              replace hx239_2 := (HB.out.cell (World.block_lt_of_cell? w _ hx239_2)).trans hx239_2
              replace hx239_3 := (HB.out.cell (World.block_lt_of_cell? w _ hx239_3)).trans hx239_3
              replace hx239_4 := (HB.out.cell (World.block_lt_of_cell? w _ hx239_4)).trans hx239_4
              replace p239 := eq_true p239
              replace q239 := eq_true q239
              go_wp2_with (first | ((with_reducible refine gate_tmp (t_ := 24) rfl ?_); refine goesT_ (some 30) rfl rfl Try.func122 (by kernel_rfl) rfl #[.agg #[.int .u64 ((rd_T74 l0 (ji5)).f0), .int .u64 ((rd_T74 l0 (ji5)).f1), .int .u64 ((rd_T74 l0 (ji5)).f2), .int .u64 ((rd_T74 l0 (ji5)).f3), .int .i64 ((rd_T74 l0 (ji5)).f4)], .int .u64 a1] rfl rfl (by (try simp only [List.map_toArray, List.map_cons, List.map_nil]); first | done | (simp only [hji5]; rfl) | rfl | (simp only [List.length_drop, List.length_take]; rfl)) ?_; (with_reducible refine (payment_order.calls ((rd_T74 l0 (ji5)).f0) ((rd_T74 l0 (ji5)).f1) ((rd_T74 l0 (ji5)).f2) ((rd_T74 l0 (ji5)).f3) ((rd_T74 l0 (ji5)).f4) a1 t240 _ A8.out).mono ?_); rintro e w11 ⟨rfl, hb⟩; refine ⟨_, rfl, ?_⟩; have n0_ := Aside0.mk (below_step (belN HB) hb); clear HB; have HB := n0_; clear n0_; (try clear hb); (try clear hb2); (try clear hk); (try clear hi)))
              go_roundg k1
              case measure => have := HK1.out; omega
              case rel => exact ⟨(x9_1), (ji5), (by first | rfl | (simp; done) | (simp [*]; done)), (by first | rfl | (simp; done) | (simp only [← hji5] <;> (first | rfl | simp)) | (simp [*]; done)), H', ⟨by have := HK1.out; omega⟩, ⟨by repeat (first | (with_reducible first | exact HB.out | apply below_alloc | apply pw_below_drewN | apply below_drew1) | exact HB.out)⟩⟩
          · rw [if_neg c7] at H
            exact absurd H (by simp)
        · rw [if_neg c6] at H
          exact absurd H (by simp)
      · rw [if_neg c4] at H
        have c4b0 : decide (x9_1 < x10_1) = false := decide_eq_false c4
        clear c4
        by_cases c12 : x9_1 < (l0.length : Int)
        · rw [if_pos c12] at H
          have c12b0 : decide (x9_1 < (l0.length : Int)) = true := decide_eq_true c12
          clear c12
          by_cases c13 : 0 ≤ x9_1
          · rw [if_pos c13] at H
            have c13b0 : decide (0 ≤ x9_1) = true := decide_eq_true c13
            clear c13
            by_cases c14 : x9_1 < (l0.length : Int)
            · rw [if_pos c14] at H
              have c14b0 : decide (x9_1 < (l0.length : Int)) = true := decide_eq_true c14
              clear c14
              replace H := Option.bind_eq_some_iff.mp H
              obtain ⟨t242, A150, H⟩ := H
              replace H : (some (x9_1, (t242 == 0))) = some (r1, r2) := H
              have A15 := Aside0.mk A150
              clear A150
              simp only [Option.some.injEq, Prod.mk.injEq] at H
              obtain ⟨rfl, rfl⟩ := H
              have p241 : 0 ≤ (x9_1 : Int) := of_decide_eq_true (by first | (with_reducible assumption) | assumption)
              have q241 : x9_1 < (l0.length : Int) := of_decide_eq_true (by first | (with_reducible assumption) | assumption)
              obtain ⟨ad241, e241, hx241_0, hx241_1, hx241_2, hx241_3, hx241_4⟩ := at_T74 HR0.out x9_1 p241 q241
              cases e241
              replace hx241_0 := (HB.out.cell (World.block_lt_of_cell? w _ hx241_0)).trans hx241_0
              replace hx241_1 := (HB.out.cell (World.block_lt_of_cell? w _ hx241_1)).trans hx241_1
              replace hx241_2 := (HB.out.cell (World.block_lt_of_cell? w _ hx241_2)).trans hx241_2
              replace hx241_3 := (HB.out.cell (World.block_lt_of_cell? w _ hx241_3)).trans hx241_3
              replace hx241_4 := (HB.out.cell (World.block_lt_of_cell? w _ hx241_4)).trans hx241_4
              replace p241 := eq_true p241
              replace q241 := eq_true q241
              go_wp2_with (first | (go_at_call 122; (with_reducible refine (payment_order.calls ((rd_T74 l0 x9_1).f0) ((rd_T74 l0 x9_1).f1) ((rd_T74 l0 x9_1).f2) ((rd_T74 l0 x9_1).f3) ((rd_T74 l0 x9_1).f4) a1 t242 _ A15.out).mono ?_); rintro e w16 ⟨rfl, hb⟩; have n0_ := Aside0.mk (below_step (belN HB) hb); clear HB; have HB := n0_; clear n0_; (try clear hb); (try clear hb2); (try clear hk); (try clear hi)))
              go_ret2
              exact ⟨by first | rfl | (simp [errW_none, errW_some] <;> rfl) | (simp [*, errW_none, errW_some] <;> rfl), by repeat (first | (with_reducible first | exact HB.out | apply below_alloc | apply pw_below_drewN | apply below_drew1) | exact HB.out)⟩
            · rw [if_neg c14] at H
              exact absurd H (by simp)
          · rw [if_neg c13] at H
            exact absurd H (by simp)
        · rw [if_neg c12] at H
          have c12b0 : decide (x9_1 < (l0.length : Int)) = false := decide_eq_false c12
          clear c12
          simp only [Option.some.injEq, Prod.mk.injEq] at H
          obtain ⟨rfl, rfl⟩ := H
          go_wp2
          go_ret2
          exact ⟨by first | rfl | (simp [errW_none, errW_some] <;> rfl) | (simp [*, errW_none, errW_some] <;> rfl), by repeat (first | (with_reducible first | exact HB.out | apply below_alloc | apply pw_below_drewN | apply below_drew1) | exact HB.out)⟩

/-! ### payment_find: function 115 -/
def payment_find.f (k : Nat) (l0 : List (S74)) (a1 : Int) : Option (Int × Int) := (payment_Check.f k l0).bind fun t243 => (if t243 = 0 then ((slices_BinarySearchFunc_uint64_at_payment_order.f k l0 a1).bind fun bt244 => (if bt244.2 = true then (some (bt244.1, 0)) else (some (bt244.1, 5)))) else (some (0, t243)))
theorem payment_find.mono : ∀ a0 a1 k, LeO (payment_find.f k a0 a1) (payment_find.f (k + 1) a0 a1) := by
  intro a0 a1 k
  unfold payment_find.f
  repeat' first
      | (with_reducible exact payment_Check.mono _ _)
      | (with_reducible exact slices_BinarySearchFunc_uint64_at_payment_order.mono _ _ _)
      | (with_reducible exact LeO.refl _)
      | (with_reducible exact LeO.none _)
      | (with_reducible refine LeO.ite ?_ ?_)
      | (with_reducible refine LeO.bind ?_ (fun _ => ?_))
      | exact payment_Check.mono _ _
      | exact slices_BinarySearchFunc_uint64_at_payment_order.mono _ _ _
      | exact LeO.none _
      | refine LeO.ite ?_ ?_
      | refine LeO.bind ?_ (fun _ => ?_)
set_option maxHeartbeats 8000000 in
set_option maxRecDepth 100000 in
theorem payment_find.calls (k : Nat) (A0 : Option Addr) (c0 : Nat) (l0 : List (S74)) (a1 : Int) (r1 : Int) (r2 : Int) (w : World) (hr0 : Kd.C k74 w A0 l0.length l0) (hc0 : l0.length ≤ c0) (h : payment_find.f k l0 a1 = some (r1, r2)) :
    Calls Try.prog 115 #[.slice A0 l0.length c0, .int .u64 a1] w fun e w' => e = .returned (.tuple #[.int .i64 r1, .int .i64 r2]) ∧ Below w.heap.size w w' := by
  have HR0 := Aside0.mk hr0
  have HC0 := Aside0.mk hc0
  clear hr0 hc0
  have HB := Aside0.mk (Below.refl w.heap.size w)
  have H : ((payment_Check.f k l0).bind fun t243 => (if t243 = 0 then ((slices_BinarySearchFunc_uint64_at_payment_order.f k l0 a1).bind fun bt244 => (if bt244.2 = true then (some (bt244.1, 0)) else (some (bt244.1, 5)))) else (some (0, t243)))) = some (r1, r2) := h
  clear h
  replace H := Option.bind_eq_some_iff.mp H
  obtain ⟨t243, A30, H⟩ := H
  replace H : (if t243 = 0 then ((slices_BinarySearchFunc_uint64_at_payment_order.f k l0 a1).bind fun bt244 => (if bt244.2 = true then (some (bt244.1, 0)) else (some (bt244.1, 5)))) else (some (0, t243))) = some (r1, r2) := H
  have A3 := Aside0.mk A30
  clear A30
  by_cases c4 : t243 = 0
  · rw [if_pos c4] at H
    have c4b0 : (t243 == 0) = true := beq_iff_eq.mpr c4
    have c4b1 : (t243 != 0) = false := bne_eq_false_iff_eq.mpr c4
    clear c4
    replace H := Option.bind_eq_some_iff.mp H
    obtain ⟨⟨t244, t245⟩, A50, H⟩ := H
    replace H : (if t245 = true then (some (t244, 0)) else (some (t244, 5))) = some (r1, r2) := H
    have A5 := Aside0.mk A50
    clear A50
    by_cases c6 : t245 = true
    · subst c6
      have H1 : (some (t244, 0)) = some (r1, r2) := by rw [if_pos rfl] at H; exact H
      clear H
      have H := H1
      clear H1
      simp only [Option.some.injEq, Prod.mk.injEq] at H
      obtain ⟨rfl, rfl⟩ := H
      go_enter Try.func115, Try.ntmps115
      go_wp2_with (first | ((with_reducible refine gate_callee (f := 73) rfl ?_); refine goesL_ (some 10) rfl rfl Try.func73 (by kernel_rfl) rfl #[.slice A0 l0.length c0] rfl (by (try simp only [List.map_toArray, List.map_cons, List.map_nil]); first | done | rfl | (simp only [List.length_drop, List.length_take]; rfl)) ?_; (with_reducible refine (payment_Check.calls k _ _ l0 t243 _ ?side1 ?side2 A3.out).mono ?_); (case side1 => repeat (first | exact HR0.out | (with_reducible refine Kd.C_alloc ?_ _) | (with_reducible refine Kd.C_drewN ?_ _) | (with_reducible refine Kd.C_drew ?_))); (case side2 => exact HC0.out); rintro e w7 ⟨rfl, hb⟩; refine ⟨_, rfl, ?_⟩; have n0_ := Aside0.mk (below_step (belN HB) hb); clear HB; have HB := n0_; clear n0_; (try clear hb); (try clear hb2); (try clear hk); (try clear hi)) | ((with_reducible refine gate_callee (f := 137) rfl ?_); refine goesL_ (some 17) rfl rfl Try.func137 (by kernel_rfl) rfl #[.slice A0 l0.length c0, .int .u64 a1, .func (.func 122) #[] #[]] rfl (by (try simp only [List.map_toArray, List.map_cons, List.map_nil]); first | done | rfl | (simp only [List.length_drop, List.length_take]; rfl)) ?_; (with_reducible refine (slices_BinarySearchFunc_uint64_at_payment_order.calls k _ _ l0 a1  t244 true _ ?side1 ?side2 A5.out).mono ?_); (case side1 => repeat (first | exact (Kd.C_below HR0.out HB.out) | (with_reducible refine Kd.C_alloc ?_ _) | (with_reducible refine Kd.C_drewN ?_ _) | (with_reducible refine Kd.C_drew ?_))); (case side2 => exact HC0.out); rintro e w8 ⟨rfl, hb⟩; refine ⟨_, rfl, ?_⟩; have n0_ := Aside0.mk (below_step (belN HB) hb); clear HB; have HB := n0_; clear n0_; (try clear hb); (try clear hb2); (try clear hk); (try clear hi)))
      go_ret2
      exact ⟨by first | rfl | (simp [errW_none, errW_some] <;> rfl) | (simp [*, errW_none, errW_some] <;> rfl), by repeat (first | (with_reducible first | exact HB.out | apply below_alloc | apply pw_below_drewN | apply below_drew1) | exact HB.out)⟩
    · replace c6 := Bool.eq_false_iff.mpr c6
      subst c6
      have H1 : (some (t244, 5)) = some (r1, r2) := by rw [if_neg (show ¬ (false = true) by decide)] at H; exact H
      clear H
      have H := H1
      clear H1
      simp only [Option.some.injEq, Prod.mk.injEq] at H
      obtain ⟨rfl, rfl⟩ := H
      go_enter Try.func115, Try.ntmps115
      go_wp2_with (first | ((with_reducible refine gate_callee (f := 73) rfl ?_); refine goesL_ (some 10) rfl rfl Try.func73 (by kernel_rfl) rfl #[.slice A0 l0.length c0] rfl (by (try simp only [List.map_toArray, List.map_cons, List.map_nil]); first | done | rfl | (simp only [List.length_drop, List.length_take]; rfl)) ?_; (with_reducible refine (payment_Check.calls k _ _ l0 t243 _ ?side1 ?side2 A3.out).mono ?_); (case side1 => repeat (first | exact HR0.out | (with_reducible refine Kd.C_alloc ?_ _) | (with_reducible refine Kd.C_drewN ?_ _) | (with_reducible refine Kd.C_drew ?_))); (case side2 => exact HC0.out); rintro e w9 ⟨rfl, hb⟩; refine ⟨_, rfl, ?_⟩; have n0_ := Aside0.mk (below_step (belN HB) hb); clear HB; have HB := n0_; clear n0_; (try clear hb); (try clear hb2); (try clear hk); (try clear hi)) | ((with_reducible refine gate_callee (f := 137) rfl ?_); refine goesL_ (some 17) rfl rfl Try.func137 (by kernel_rfl) rfl #[.slice A0 l0.length c0, .int .u64 a1, .func (.func 122) #[] #[]] rfl (by (try simp only [List.map_toArray, List.map_cons, List.map_nil]); first | done | rfl | (simp only [List.length_drop, List.length_take]; rfl)) ?_; (with_reducible refine (slices_BinarySearchFunc_uint64_at_payment_order.calls k _ _ l0 a1  t244 false _ ?side1 ?side2 A5.out).mono ?_); (case side1 => repeat (first | exact (Kd.C_below HR0.out HB.out) | (with_reducible refine Kd.C_alloc ?_ _) | (with_reducible refine Kd.C_drewN ?_ _) | (with_reducible refine Kd.C_drew ?_))); (case side2 => exact HC0.out); rintro e w10 ⟨rfl, hb⟩; refine ⟨_, rfl, ?_⟩; have n0_ := Aside0.mk (below_step (belN HB) hb); clear HB; have HB := n0_; clear n0_; (try clear hb); (try clear hb2); (try clear hk); (try clear hi)))
      go_ret2
      exact ⟨by first | rfl | (simp [errW_none, errW_some] <;> rfl) | (simp [*, errW_none, errW_some] <;> rfl), by repeat (first | (with_reducible first | exact HB.out | apply below_alloc | apply pw_below_drewN | apply below_drew1) | exact HB.out)⟩
  · rw [if_neg c4] at H
    have c4b0 : (t243 == 0) = false := beq_eq_false_iff_ne.mpr c4
    have c4b1 : (t243 != 0) = true := bne_iff_ne.mpr c4
    simp only [Option.some.injEq, Prod.mk.injEq] at H
    obtain ⟨rfl, rfl⟩ := H
    go_enter Try.func115, Try.ntmps115
    go_wp2_with (first | ((with_reducible refine gate_callee (f := 73) rfl ?_); refine goesL_ (some 10) rfl rfl Try.func73 (by kernel_rfl) rfl #[.slice A0 l0.length c0] rfl (by (try simp only [List.map_toArray, List.map_cons, List.map_nil]); first | done | rfl | (simp only [List.length_drop, List.length_take]; rfl)) ?_; (with_reducible refine (payment_Check.calls k _ _ l0 t243 _ ?side1 ?side2 A3.out).mono ?_); (case side1 => repeat (first | exact HR0.out | (with_reducible refine Kd.C_alloc ?_ _) | (with_reducible refine Kd.C_drewN ?_ _) | (with_reducible refine Kd.C_drew ?_))); (case side2 => exact HC0.out); rintro e w11 ⟨rfl, hb⟩; refine ⟨_, rfl, ?_⟩; have n0_ := Aside0.mk (below_step (belN HB) hb); clear HB; have HB := n0_; clear n0_; (try clear hb); (try clear hb2); (try clear hk); (try clear hi)))
    go_ret2
    exact ⟨by first | rfl | (simp [errW_none, errW_some] <;> rfl) | (simp [*, errW_none, errW_some] <;> rfl), by repeat (first | (with_reducible first | exact HB.out | apply below_alloc | apply pw_below_drewN | apply below_drew1) | exact HB.out)⟩

/-! ### slices_Clone_Payment: function 117 (by hand) -/
def slices_Clone_Payment.f (l0 : List (S74)) : Option (List (S74)) := if l0.length < 3518437208883 then (some l0) else (none)
set_option maxHeartbeats 8000000 in
set_option maxRecDepth 100000 in
theorem slices_Clone_Payment.calls (A0 : Option Addr) (c0 : Nat) (l0 : List (S74)) (r : List (S74)) (w : World) (hr0 : Kd.C k74 w A0 l0.length l0) (hc0 : l0.length ≤ c0) (h : slices_Clone_Payment.f l0 = some r) :
    Calls Try.prog 117 #[.slice A0 l0.length c0] w fun e w' => ∃ v0_ : Value, e = .returned (v0_) ∧ Kd.R k74 74 w' w.heap.size (fun _ => True) v0_ r ∧ Below w.heap.size w w' := by
  have H : (if l0.length < 3518437208883 then (some l0) else (none)) = some r := h
  clear h
  cases A0 with
  | none =>
    have hl : l0 = [] := C_none_ hr0
    subst hl
    have hr : r = [] := by simpa using H.symm
    subst hr
    clear H hr0
    have hnil := fun W => Lib.run_eql_slice_nil (P := Try.prog) W 71 74 none 0 c0 0 0 Try.underlying71
    go_enter Try.func117, Try.ntmps117
    go_wp2
    go_ret
    exact ⟨_, rfl, Kd.R_nil _ _ _ _ _, Below.refl _ _⟩
  | some A0 =>
    have HR0 := Aside0.mk hr0
    have HC0 := Aside0.mk hc0
    clear hr0 hc0
    have HB := Aside0.mk (Below.refl w.heap.size w)
    by_cases c2 : l0.length < 3518437208883
    · rw [if_pos c2] at H
      have LMc2 := Aside0.mk c2
      clear c2
      obtain rfl := Option.some.inj H
      have hnil := fun W => Lib.run_eql_slice_nil (P := Try.prog) W 71 74 (some A0) l0.length c0 0 0 Try.underlying71
      go_enter Try.func117, Try.ntmps117
      go_wp2_with (first | ((with_reducible refine gate_dst (N := 5) rfl ?_); refine Kd.R_lit k74 _ 74 ?hg (N := 5) ?hd (xs := ([] : List (S74))) (inner := []) (ok := fun _ => True) (okp := fun _ => True) ?hr ?hp (fun _ hk => hk) trivial (Below.refl _ _) (Nat.le_refl _) (by simp) ?_; (case hd => rfl); (case hg => rfl); (case hr => first | (go_simp; done) | (go_simp; rfl)); (case hp => exact (Reps.none _ _)); intro v141 w3 ho4 hb hg_ hnew_; clear hg_ hnew_; have n0_ := Aside0.mk (Kd.R_lower ho4 (below_size (by repeat (first | (with_reducible first | exact HB.out | apply below_alloc | apply pw_below_drewN | apply below_drew1) | exact HB.out)))); have n1_ := Aside0.mk (below_step (by repeat (first | (with_reducible first | exact HB.out | apply below_alloc | apply pw_below_drewN | apply below_drew1) | exact HB.out)) hb); clear HB; have HO142 := n0_; have HB := n1_; clear n0_ n1_; clear hb ho4) | ((with_reducible refine gate_builtin (b := .append) (xs := #[.tmp 5, .tmp 6]) rfl ?_); at_builtin; refine Kd.R_append_rows k74 (w0 := w) w.heap.size rfl (.tmp 5) (.tmp 6) 71 74 (.agg #[(.int .u64 0), (.int .u64 0), (.int .u64 0), (.int .u64 0), (.int .i64 0)]) 40 rfl Try.underlying71 info74 rfl (by decide) (by omega) v141 [] l0 _ _ _ (fun _ => True) (fun _ => False) rfl rfl ?aO ?aR (fun _ _ h => h) (fun _ h => h.elim) ?aF ?aB ?aS ?aL ?_; (case aR => repeat (first | exact (Kd.C_below HR0.out HB.out) | (with_reducible refine Kd.C_alloc ?_ _) | (with_reducible refine Kd.C_drewN ?_ _) | (with_reducible refine Kd.C_drew ?_))); (case aB => exact (by repeat (first | (with_reducible first | exact HB.out | apply below_alloc | apply pw_below_drewN | apply below_drew1) | exact HB.out))); (case aF => exact (fun _ _ => trivial)); (case aO => exact (by (with_reducible repeat (first | apply Kd.R_alloc | apply Kd.R_drewN | apply Kd.R_drew)); exact HO142.out)); (case aS => exact (below_size (by repeat (first | (with_reducible first | exact HB.out | apply below_alloc | apply pw_below_drewN | apply below_drew1) | exact HB.out)))); (case aL => have := LMc2.out; simp only [List.length_nil]; omega); intro v144 w5 ho hb hg hat; rw [List.nil_append] at ho; have n0_ := Aside0.mk (hb); have n1_ := Aside0.mk (ho); clear HB; clear HO142; have HB := n0_; have HO145 := n1_; clear n0_ n1_; clear ho hb hg hat))
      go_ret
      exact ⟨_, by first | rfl | (simp [errW_none, errW_some] <;> rfl) | (simp [*, errW_none, errW_some] <;> rfl), by (with_reducible repeat (first | apply Kd.R_alloc | apply Kd.R_drewN | apply Kd.R_drew)); exact HO145.out, by repeat (first | (with_reducible first | exact HB.out | apply below_alloc | apply pw_below_drewN | apply below_drew1) | exact HB.out)⟩
    · rw [if_neg c2] at H
      exact absurd H (by simp)

-- NOT PRINTED: function 118 (slices_IndexFunc_Payment)

end Go.Proofs.Ytcfbcoinbecdfaa.P
