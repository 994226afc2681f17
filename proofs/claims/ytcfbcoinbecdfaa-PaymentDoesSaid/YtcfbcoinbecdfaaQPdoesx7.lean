-- written by a program of this session (wip/print)
import Derived.Test.YtcfbcoinbecdfaaQPdoesx0
import Derived.Test.YtcfbcoinbecdfaaQPdoesx6
namespace Go.Proofs.Ytcfbcoinbecdfaa.P
open Go.RowKit Go.Proofs.YtcfbcoinbecdfaaW.PrintWords Go.Proofs.YtcfbcoinbecdfaaW.PrintLast Go.Proofs.YtcfbcoinbecdfaaW.PrintMore
attribute [local go_sem] max2_int min2_int max_two min_two max_three min_three max_four min_four run_sub64_   -- for this text's walks alone
set_option linter.unusedVariables false
set_option linter.unusedSimpArgs false

/-! ### damsonref13_Check: function 81 -/
def damsonref13_Check.l0 : Nat → List (S74) → List (S74) → Int → Int → Option (Int)
 | 0, _, _, _, _ => none
 | k + 1, x0, x8, x9, x10 => if x10 < x9 then (if 0 ≤ x10 then (if x10 < (x8.length : Int) then (if x10 > 0 then (if 0 ≤ (wrap64 (x10 - 1)) then (if (wrap64 (x10 - 1)) < (x0.length : Int) then (if ((rd_T74 x0 (wrap64 (x10 - 1))).f0) ≥ ((rd_T74 x8 x10).f0) then (some 1) else ((damsonref13_may.f k ((rd_T74 x8 x10).f0) ((rd_T74 x8 x10).f1) ((rd_T74 x8 x10).f2) ((rd_T74 x8 x10).f3) ((rd_T74 x8 x10).f4)).bind fun t203 => (if t203 = true then (damsonref13_Check.l0 k x0 x8 x9 (wrap64 (x10 + 1))) else (some 1)))) else (none)) else (none)) else ((damsonref13_may.f k ((rd_T74 x8 x10).f0) ((rd_T74 x8 x10).f1) ((rd_T74 x8 x10).f2) ((rd_T74 x8 x10).f3) ((rd_T74 x8 x10).f4)).bind fun t204 => (if t204 = true then (damsonref13_Check.l0 k x0 x8 x9 (wrap64 (x10 + 1))) else (some 1)))) else (none)) else (none)) else (some 0)
def damsonref13_Check.f (k : Nat) (l0 : List (S74)) : Option (Int) := if (l0.length : Int) > 256 then (some 1) else (damsonref13_Check.l0 k l0 l0 (l0.length : Int) 0)
theorem damsonref13_Check.mono_l : ∀ k, (∀ y0 y1 y2 y3, LeO (damsonref13_Check.l0 k y0 y1 y2 y3) (damsonref13_Check.l0 (k + 1) y0 y1 y2 y3))
 | 0 => fun _ _ _ _ r h => by simp [damsonref13_Check.l0] at h
 | k + 1 => by
  have ih0 := damsonref13_Check.mono_l k
  ·intro y0 y1 y2 y3
   unfold damsonref13_Check.l0
   repeat' first
   | (with_reducible exact ih0 _ _ _ _)
   | (with_reducible exact damsonref13_may.mono _ _ _ _ _ _)
   | (with_reducible exact LeO.refl _)
   | (with_reducible exact LeO.none _)
   | (with_reducible refine LeO.ite ?_ ?_)
   | (with_reducible refine LeO.bind ?_ (fun _ => ?_))
   | exact ih0 _ _ _ _
   | exact damsonref13_may.mono _ _ _ _ _ _
   | exact LeO.none _
   | refine LeO.ite ?_ ?_
   | refine LeO.bind ?_ (fun _ => ?_)
theorem damsonref13_Check.mono : ∀ a0 k, LeO (damsonref13_Check.f k a0) (damsonref13_Check.f (k + 1) a0) := by
 intro a0 k
 have ih0 := damsonref13_Check.mono_l k
 unfold damsonref13_Check.f
 repeat' first
   | (with_reducible exact ih0 _ _ _ _)
   | (with_reducible exact damsonref13_may.mono _ _ _ _ _ _)
   | (with_reducible exact LeO.refl _)
   | (with_reducible exact LeO.none _)
   | (with_reducible refine LeO.ite ?_ ?_)
   | (with_reducible refine LeO.bind ?_ (fun _ => ?_))
   | exact ih0 _ _ _ _
   | exact damsonref13_may.mono _ _ _ _ _ _
   | exact LeO.none _
   | refine LeO.ite ?_ ?_
   | refine LeO.bind ?_ (fun _ => ?_)
def damsonref13_Check.T6 : Bool × List (List Nat × List Nat) := (true, [([], []), ([0], [0]), ([1], [1]), ([2], [2]), ([2], [2]), ([4, 2], [2, 4]), ([3, 5, 2], [2, 3, 5]), ([6, 2], [2, 6]), ([7, 2], [2, 7]), ([2], [2]), ([9, 2], [2, 9]), ([8, 10, 2], [2, 8, 10]), ([2, 11], [2, 11]), ([12, 2], [12]), ([13], [13]), ([14, 13, 13], [13, 14]), ([15, 13], [13, 15]), ([13, 16], [13, 16])])
def damsonref13_Check.B6 : List Nat := [0, 1, 3, 7, 7, 23, 63, 127, 255, 7, 519, 2047, 4095, 8191, 16383, 32767, 65535, 131071]
theorem damsonref13_Check.tab6 : rtab .any (opsOf Try.f81 6) = damsonref13_Check.T6 := by kernel_rfl
theorem damsonref13_Check.bits6 : waitsOk damsonref13_Check.T6.2 damsonref13_Check.B6 = true := by kernel_rfl
set_option maxHeartbeats 8000000 in
set_option maxRecDepth 100000 in
theorem damsonref13_Check.calls (k : Nat) (A0 : Option Addr) (c0 : Nat) (l0 : List (S74)) (r : Int) (w : World) (hr0 : Kd.C k74 w A0 l0.length l0) (hc0 : l0.length ≤ c0) (h : damsonref13_Check.f k l0 = some r) :
  Calls Try.prog 81 #[.slice A0 l0.length c0] w fun e w' => e = .returned (.int .i64 r) ∧ Below w.heap.size w w' := by
 have hu74 := Try.underlying74
 have HR0 := Aside0.mk hr0
 have HC0 := Aside0.mk hc0
 clear hr0 hc0
 have HB := Aside0.mk (Below.refl w.heap.size w)
 have H : (if (l0.length : Int) > 256 then (some 1) else (damsonref13_Check.l0 k l0 l0 (l0.length : Int) 0)) = some r := h
 clear h
 by_cases c2 : (l0.length : Int) > 256
 ·rw [if_pos c2] at H
  have c2b0 : decide (256 < (l0.length : Int)) = true := decide_eq_true c2
  have c2b1 : decide (256 < l0.length) = true := decide_eq_true (by omega)
  clear c2
  obtain rfl := Option.some.inj H
  go_enter Try.func81, Try.ntmps81
  go_wp2
  go_ret
  exact ⟨by first | rfl | (simp [errW_none, errW_some] <;> rfl) | (simp [*, errW_none, errW_some] <;> rfl), by repeat (first | (with_reducible first | exact HB.out | apply below_alloc | apply pw_below_drewN | apply below_drew1) | exact HB.out)⟩
 ·rw [if_neg c2] at H
  have c2b0 : decide (256 < (l0.length : Int)) = false := decide_eq_false c2
  have c2b1 : decide (256 < l0.length) = false := decide_eq_false (by omega)
  clear c2
  have H' := Aside0.mk H
  clear H
  go_enter Try.func81, Try.ntmps81
  go_wp2
  go_loopg [10] k (fun kq v10 w' => ∃ (x10_1 : Int), v10 = .int .i64 x10_1 ∧ Aside0 (damsonref13_Check.l0 kq l0 l0 (l0.length : Int) x10_1 = some r) ∧ Aside0 (kq ≤ k) ∧ Aside0 (Below w.heap.size w w'))
  case atStart => exact ⟨(0), (by first | rfl | (simp; done) | (simp [*]; done)), H', ⟨Nat.le_refl _⟩, ⟨by repeat (first | (with_reducible first | exact HB.out | apply below_alloc | apply pw_below_drewN | apply below_drew1) | exact HB.out)⟩⟩
  case round =>
   clear H'
   try clear c2
   try clear c2b0
   try clear c2b1
   try clear p2
   obtain ⟨x10_1, rfl, HA, HK1, HB⟩ := hrel
   cases gk with
   | zero => exact absurd HA.out (by simp [damsonref13_Check.l0])
   | succ k1 =>
    have H := HA.out
    clear HA
    simp only [damsonref13_Check.l0] at H
    by_cases c3 : x10_1 < (l0.length : Int)
    ·rw [if_pos c3] at H
     have c3b0 : decide (x10_1 < (l0.length : Int)) = true := decide_eq_true c3
     clear c3
     by_cases c4 : 0 ≤ x10_1
     ·rw [if_pos c4] at H
      have c4b0 : decide (0 ≤ x10_1) = true := decide_eq_true c4
      clear c4
      by_cases c5 : x10_1 < (l0.length : Int)
      ·rw [if_pos c5] at H
       have c5b0 : decide (x10_1 < (l0.length : Int)) = true := decide_eq_true c5
       clear c5
       by_cases c6 : x10_1 > 0
       ·rw [if_pos c6] at H
        have c6b0 : decide (0 < x10_1) = true := decide_eq_true c6
        clear c6
        obtain ⟨ji7, hji7⟩ : ∃ j_ : Int, (wrap64 (x10_1 - 1)) = j_ := ⟨_, rfl⟩
        replace H : (if 0 ≤ (ji7) then (if (ji7) < (l0.length : Int) then (if ((rd_T74 l0 (ji7)).f0) ≥ ((rd_T74 l0 x10_1).f0) then (some 1) else ((damsonref13_may.f k1 ((rd_T74 l0 x10_1).f0) ((rd_T74 l0 x10_1).f1) ((rd_T74 l0 x10_1).f2) ((rd_T74 l0 x10_1).f3) ((rd_T74 l0 x10_1).f4)).bind fun t203 => (if t203 = true then (damsonref13_Check.l0 k1 l0 l0 (l0.length : Int) (wrap64 (x10_1 + 1))) else (some 1)))) else (none)) else (none)) = some r := by first | (rw [hji7] at H; exact H) | (simp only [hji7] at H ⊢; exact H)
        have hji7w : (IntKind.i64.wrap (x10_1 - 1)) = ji7 := (i64_w _).trans hji7
        by_cases c8 : 0 ≤ (ji7)
        ·rw [if_pos c8] at H
         have c8b0 : decide (0 ≤ (ji7)) = true := decide_eq_true c8
         clear c8
         by_cases c9 : (ji7) < (l0.length : Int)
         ·rw [if_pos c9] at H
          have c9b0 : decide ((ji7) < (l0.length : Int)) = true := decide_eq_true c9
          clear c9
          by_cases c10 : ((rd_T74 l0 (ji7)).f0) ≥ ((rd_T74 l0 x10_1).f0)
          ·rw [if_pos c10] at H
           have c10b0 : decide (((rd_T74 l0 x10_1).f0) ≤ ((rd_T74 l0 (ji7)).f0)) = true := decide_eq_true c10
           clear c10
           obtain rfl := Option.some.inj H
           have p200 : 0 ≤ (x10_1 : Int) := of_decide_eq_true (by first | (with_reducible assumption) | assumption)
           have q200 : x10_1 < (l0.length : Int) := of_decide_eq_true (by first | (with_reducible assumption) | assumption)
           obtain ⟨ad200, e200, hx200_0, hx200_1, hx200_2, hx200_3, hx200_4⟩ := at_T74 HR0.out x10_1 p200 q200
           cases e200
           replace hx200_0 := (HB.out.cell (World.block_lt_of_cell? w _ hx200_0)).trans hx200_0
           replace hx200_1 := (HB.out.cell (World.block_lt_of_cell? w _ hx200_1)).trans hx200_1
           replace hx200_2 := (HB.out.cell (World.block_lt_of_cell? w _ hx200_2)).trans hx200_2
           replace hx200_3 := (HB.out.cell (World.block_lt_of_cell? w _ hx200_3)).trans hx200_3
           replace hx200_4 := (HB.out.cell (World.block_lt_of_cell? w _ hx200_4)).trans hx200_4
           replace p200 := eq_true p200
           replace q200 := eq_true q200
           try go_wp2_with (first | ((with_reducible refine gate_dst (N := 4) rfl ?_); refine box_event ?hg (N := 4) ?hd (cs := #[.int .u64 0, .int .u64 0, .int .u64 0, .int .u64 0, .int .i64 0]) (t := 74) ?hr ?_; (case hd => rfl); (case hg => rfl); (case hr => first | (go_simp; done) | (go_simp; rfl)); intro gb201 hg w11 hbox hb; have n0_ := Aside0.mk (below_step (belN HB) hb); have n1_ := Aside0.mk (hbox); have n2_ := Aside0.mk ((by rw [hg]; exact (below_size (belN HB)) : w.heap.size ≤ gb201)); have n3_ := Aside0.mk ((by rw [hg]; exact (below_size (belN HB)) : w.heap.size ≤ gb201)); clear HB; have HB := n0_; have BK201 := n1_; have GW201 := n2_; have GE201 := n3_; clear n0_ n1_ n2_ n3_; clear hb hbox hg; obtain ⟨hcz12_0, hcz12_1, hcz12_2, hcz12_3, hcz12_4, hfz12_0, hfz12_1, hfz12_2, hfz12_3, hfz12_4⟩ := cz5_ (w := w11) BK201.out) | ((with_reducible refine gate_store (t := 74) (p := 4) rfl ?_); refine store_event (t := 74) (p := 4) (v := ?vo_w13) (w1 := (((((w11.setCell ⟨gb201, 0, none⟩ (.int .u64 ((rd_T74 l0 x10_1).f0))).setCell ⟨gb201, 1, none⟩ (.int .u64 ((rd_T74 l0 x10_1).f1))).setCell ⟨gb201, 2, none⟩ (.int .u64 ((rd_T74 l0 x10_1).f2))).setCell ⟨gb201, 3, none⟩ (.int .u64 ((rd_T74 l0 x10_1).f3))).setCell ⟨gb201, 4, none⟩ (.int .i64 ((rd_T74 l0 x10_1).f4)))) ?hg ?ho ?hn ?hr ?_; (case ho => rfl); (case hg => rfl); (case hn => rfl); (case hr => first | (go_simp; done) | (go_simp; rfl)); intro w13 hw; have n0_ : Aside0 (w13.heap[gb201]? = some (.cells #[.int .u64 ((rd_T74 l0 x10_1).f0), .int .u64 ((rd_T74 l0 x10_1).f1), .int .u64 ((rd_T74 l0 x10_1).f2), .int .u64 ((rd_T74 l0 x10_1).f3), .int .i64 ((rd_T74 l0 x10_1).f4)] 74 (0, 0))) := ⟨(by rw [hw]; exact (by (with_reducible repeat (first | refine blk_drewN ?_ _ | refine blk_drew ?_ | refine blk_alloc ?_ _)); refine blk_put (cs := #[.int .u64 ((rd_T74 l0 x10_1).f0), .int .u64 ((rd_T74 l0 x10_1).f1), .int .u64 ((rd_T74 l0 x10_1).f2), .int .u64 ((rd_T74 l0 x10_1).f3), .int .i64 0]) ?_ 4 _ rfl; refine blk_put (cs := #[.int .u64 ((rd_T74 l0 x10_1).f0), .int .u64 ((rd_T74 l0 x10_1).f1), .int .u64 ((rd_T74 l0 x10_1).f2), .int .u64 0, .int .i64 0]) ?_ 3 _ rfl; refine blk_put (cs := #[.int .u64 ((rd_T74 l0 x10_1).f0), .int .u64 ((rd_T74 l0 x10_1).f1), .int .u64 0, .int .u64 0, .int .i64 0]) ?_ 2 _ rfl; refine blk_put (cs := #[.int .u64 ((rd_T74 l0 x10_1).f0), .int .u64 0, .int .u64 0, .int .u64 0, .int .i64 0]) ?_ 1 _ rfl; refine blk_put (cs := #[.int .u64 0, .int .u64 0, .int .u64 0, .int .u64 0, .int .i64 0]) ?_ 0 _ rfl; (with_reducible repeat (first | refine blk_drewN ?_ _ | refine blk_drew ?_ | refine blk_alloc ?_ _)); exact BK201.out))⟩; have n1_ : Aside0 (Below w.heap.size w w13) := ⟨(by rw [hw]; exact (belN HB))⟩; clear hw; clear BK201; clear HB; have BK201 := n0_; have HB := n1_; clear n0_ n1_))
           have n0_ := Aside0.mk (blk_drew BK201.out)
           have n1_ := Aside0.mk (below_drew1 HB.out)
           clear BK201
           clear HB
           have BK201 := n0_
           have HB := n1_
           clear n0_ n1_
           have p202 : 0 ≤ ((ji7) : Int) := of_decide_eq_true (by first | (with_reducible assumption) | assumption)
           have q202 : (ji7) < (l0.length : Int) := of_decide_eq_true (by first | (with_reducible assumption) | assumption)
           obtain ⟨ad202, e202, hx202_0, hx202_1, hx202_2, hx202_3, hx202_4⟩ := at_T74 HR0.out (ji7) p202 q202
           have hw202_4 := hx202_4
           have hw202_3 := hx202_3
           have hw202_2 := hx202_2
           have hw202_1 := hx202_1
           have hw202_0 := hx202_0
           obtain rfl : ad200 = ad202 := (by injection e202)
           replace hx202_0 := (HB.out.cell (World.block_lt_of_cell? w _ hx202_0)).trans hx202_0
           replace hx202_1 := (HB.out.cell (World.block_lt_of_cell? w _ hx202_1)).trans hx202_1
           replace hx202_2 := (HB.out.cell (World.block_lt_of_cell? w _ hx202_2)).trans hx202_2
           replace hx202_3 := (HB.out.cell (World.block_lt_of_cell? w _ hx202_3)).trans hx202_3
           replace hx202_4 := (HB.out.cell (World.block_lt_of_cell? w _ hx202_4)).trans hx202_4
           replace p202 := eq_true p202
           replace q202 := eq_true q202
           refine start_ (n := 18) (S := fun w' => w'.cell? ⟨gb201, 0, none⟩ = some (.int .u64 ((rd_T74 l0 x10_1).f0)) ∧ w'.cell? ⟨gb201, 1, none⟩ = some (.int .u64 ((rd_T74 l0 x10_1).f1)) ∧ w'.cell? ⟨gb201, 2, none⟩ = some (.int .u64 ((rd_T74 l0 x10_1).f2)) ∧ w'.cell? ⟨gb201, 3, none⟩ = some (.int .u64 ((rd_T74 l0 x10_1).f3)) ∧ w'.cell? ⟨gb201, 4, none⟩ = some (.int .i64 ((rd_T74 l0 x10_1).f4)) ∧ w'.cell? (ad200.add (((ji7)).toNat * 5)) = some (.int .u64 ((rd_T74 l0 (ji7)).f0)) ∧ w'.cell? ⟨(ad200.add (((ji7)).toNat * 5)).block, (ad200.add (((ji7)).toNat * 5)).off + 1, none⟩ = some (.int .u64 ((rd_T74 l0 (ji7)).f1)) ∧ w'.cell? ⟨(ad200.add (((ji7)).toNat * 5)).block, (ad200.add (((ji7)).toNat * 5)).off + 2, none⟩ = some (.int .u64 ((rd_T74 l0 (ji7)).f2)) ∧ w'.cell? ⟨(ad200.add (((ji7)).toNat * 5)).block, (ad200.add (((ji7)).toNat * 5)).off + 3, none⟩ = some (.int .u64 ((rd_T74 l0 (ji7)).f3)) ∧ w'.cell? ⟨(ad200.add (((ji7)).toNat * 5)).block, (ad200.add (((ji7)).toNat * 5)).off + 4, none⟩ = some (.int .i64 ((rd_T74 l0 (ji7)).f4))) (ds := []) #[false, false, false, false, false, false, false, false, false, false, false, false, false, false, false, false, false, false] (by kernel_rfl) rfl rfl ⟨(blk_cell BK201.out 0).trans rfl, (blk_cell BK201.out 1).trans rfl, (blk_cell BK201.out 2).trans rfl, (blk_cell BK201.out 3).trans rfl, (blk_cell BK201.out 4).trans rfl, ((HB.out.cell (World.block_lt_of_cell? w _ hw202_0)).trans hw202_0), ((HB.out.cell (World.block_lt_of_cell? w _ hw202_1)).trans hw202_1), ((HB.out.cell (World.block_lt_of_cell? w _ hw202_2)).trans hw202_2), ((HB.out.cell (World.block_lt_of_cell? w _ hw202_3)).trans hw202_3), ((HB.out.cell (World.block_lt_of_cell? w _ hw202_4)).trans hw202_4)⟩ (fun hHeld => ?_); refine with_tabW damsonref13_Check.tab6 damsonref13_Check.bits6 (fun HT_ HW_ => ?_)
           generalize w13.drew = w14 at BK201 HB hx202_0 hx202_1 hx202_2 hx202_3 hx202_4 hHeld ⊢
           refine pureA_ 0 15 (bm 18 1) ?_
           refine pureA_ 1 16 (bm 18 3) ?_
           refine pureA_ 2 17 (bm 18 7) ?_
           refine pureA_ 3 18 (bm 18 15) ?_
           refine pureA_ 4 19 (bm 18 31) ?_
           refine pureA_ 5 20 (bm 18 63) ?_
           refine pureA_ 6 21 (bm 18 127) ?_
           refine pureA_ 7 22 (bm 18 255) ?_
           refine pureA_ 9 24 (bm 18 767) ?_
           refine take_ (i := 8) (N := some 23) (v := ?_) (a' := ?_) #[true, true, true, true, true, true, true, true, true, true, false, false, false, false, false, false, false, false] rfl rfl (take_ofW HT_.out HW_.out (by kernel_rfl)) (fun _ _ _ h => h) (Or.inl ⟨by rfl, ?_⟩) hHeld ?_ ?_
           rotate_left
           ·rintro w' ⟨s0, s1, s2, s3, s4, s5, s6, s7, s8, s9⟩
            go_simp
            with_reducible rfl
           rotate_left
           ·simp only [Act.put, List.setIfInBounds_toArray, List.set_cons_zero, List.set_cons_succ, i64_w, i32_w]
            rfl
           refine take_ (i := 10) (N := some 25) (v := ?_) (a' := ?_) #[true, true, true, true, true, true, true, true, true, true, true, false, false, false, false, false, false, false] rfl rfl (take_ofW HT_.out HW_.out (by kernel_rfl)) (fun _ _ _ h => h) (Or.inl ⟨by rfl, ?_⟩) hHeld ?_ ?_
           rotate_left
           ·rintro w' ⟨s0, s1, s2, s3, s4, s5, s6, s7, s8, s9⟩
            go_simp
            with_reducible rfl
           rotate_left
           ·simp only [Act.put, List.setIfInBounds_toArray, List.set_cons_zero, List.set_cons_succ, i64_w, i32_w]
            rfl
           refine pureA_ 11 26 (bm 18 4095) ?_
           refine pureA_ 12 27 (bm 18 8191) ?_
           refine pureA_ 13 28 (bm 18 16383) ?_
           refine pureU_ 14 29 (bm 18 32767) ?_
           refine pureU_ 15 30 (bm 18 65535) ?_
           refine pureU_ 16 31 (bm 18 131071) ?_
           refine pureA_ 17 32 (bm 18 262143) ?_
           refine done_ (done_of HT_.out (by kernel_rfl)) ?_
           try go_wp2
           go_ret
           exact ⟨by first | rfl | (simp [errW_none, errW_some] <;> rfl) | (simp only [← hji7]; first | rfl | (simp [errW_none, errW_some] <;> rfl)) | (simp [*, errW_none, errW_some] <;> rfl), by repeat (first | (with_reducible first | exact HB.out | apply below_alloc | apply pw_below_drewN | apply below_drew1 | refine below_set ?_ GE201.out) | exact HB.out)⟩
          ·rw [if_neg c10] at H
           have c10b0 : decide (((rd_T74 l0 x10_1).f0) ≤ ((rd_T74 l0 (ji7)).f0)) = false := decide_eq_false c10
           clear c10
           replace H := Option.bind_eq_some_iff.mp H
           obtain ⟨t203, A150, H⟩ := H
           replace H : (if t203 = true then (damsonref13_Check.l0 k1 l0 l0 (l0.length : Int) (wrap64 (x10_1 + 1))) else (some 1)) = some r := H
           have A15 := Aside0.mk A150
           clear A150
           by_cases c16 : t203 = true
           ·subst c16
            have H1 : (damsonref13_Check.l0 k1 l0 l0 (l0.length : Int) (wrap64 (x10_1 + 1))) = some r := by rw [if_pos rfl] at H; exact H
            clear H
            have H := H1
            clear H1
            have H' := Aside0.mk H
            clear H
            have p200 : 0 ≤ (x10_1 : Int) := of_decide_eq_true (by first | (with_reducible assumption) | assumption)
            have q200 : x10_1 < (l0.length : Int) := of_decide_eq_true (by first | (with_reducible assumption) | assumption)
            obtain ⟨ad200, e200, hx200_0, hx200_1, hx200_2, hx200_3, hx200_4⟩ := at_T74 HR0.out x10_1 p200 q200
            cases e200
            replace hx200_0 := (HB.out.cell (World.block_lt_of_cell? w _ hx200_0)).trans hx200_0
            replace hx200_1 := (HB.out.cell (World.block_lt_of_cell? w _ hx200_1)).trans hx200_1
            replace hx200_2 := (HB.out.cell (World.block_lt_of_cell? w _ hx200_2)).trans hx200_2
            replace hx200_3 := (HB.out.cell (World.block_lt_of_cell? w _ hx200_3)).trans hx200_3
            replace hx200_4 := (HB.out.cell (World.block_lt_of_cell? w _ hx200_4)).trans hx200_4
            replace p200 := eq_true p200
            replace q200 := eq_true q200
            try go_wp2_with (first | ((with_reducible refine gate_dst (N := 4) rfl ?_); refine box_event ?hg (N := 4) ?hd (cs := #[.int .u64 0, .int .u64 0, .int .u64 0, .int .u64 0, .int .i64 0]) (t := 74) ?hr ?_; (case hd => rfl); (case hg => rfl); (case hr => first | (go_simp; done) | (go_simp; rfl)); intro gb201 hg w17 hbox hb; have n0_ := Aside0.mk (below_step (belN HB) hb); have n1_ := Aside0.mk (hbox); have n2_ := Aside0.mk ((by rw [hg]; exact (below_size (belN HB)) : w.heap.size ≤ gb201)); have n3_ := Aside0.mk ((by rw [hg]; exact (below_size (belN HB)) : w.heap.size ≤ gb201)); clear HB; have HB := n0_; have BK201 := n1_; have GW201 := n2_; have GE201 := n3_; clear n0_ n1_ n2_ n3_; clear hb hbox hg; obtain ⟨hcz18_0, hcz18_1, hcz18_2, hcz18_3, hcz18_4, hfz18_0, hfz18_1, hfz18_2, hfz18_3, hfz18_4⟩ := cz5_ (w := w17) BK201.out) | ((with_reducible refine gate_store (t := 74) (p := 4) rfl ?_); refine store_event (t := 74) (p := 4) (v := ?vo_w19) (w1 := (((((w17.setCell ⟨gb201, 0, none⟩ (.int .u64 ((rd_T74 l0 x10_1).f0))).setCell ⟨gb201, 1, none⟩ (.int .u64 ((rd_T74 l0 x10_1).f1))).setCell ⟨gb201, 2, none⟩ (.int .u64 ((rd_T74 l0 x10_1).f2))).setCell ⟨gb201, 3, none⟩ (.int .u64 ((rd_T74 l0 x10_1).f3))).setCell ⟨gb201, 4, none⟩ (.int .i64 ((rd_T74 l0 x10_1).f4)))) ?hg ?ho ?hn ?hr ?_; (case ho => rfl); (case hg => rfl); (case hn => rfl); (case hr => first | (go_simp; done) | (go_simp; rfl)); intro w19 hw; have n0_ : Aside0 (w19.heap[gb201]? = some (.cells #[.int .u64 ((rd_T74 l0 x10_1).f0), .int .u64 ((rd_T74 l0 x10_1).f1), .int .u64 ((rd_T74 l0 x10_1).f2), .int .u64 ((rd_T74 l0 x10_1).f3), .int .i64 ((rd_T74 l0 x10_1).f4)] 74 (0, 0))) := ⟨(by rw [hw]; exact (by (with_reducible repeat (first | refine blk_drewN ?_ _ | refine blk_drew ?_ | refine blk_alloc ?_ _)); refine blk_put (cs := #[.int .u64 ((rd_T74 l0 x10_1).f0), .int .u64 ((rd_T74 l0 x10_1).f1), .int .u64 ((rd_T74 l0 x10_1).f2), .int .u64 ((rd_T74 l0 x10_1).f3), .int .i64 0]) ?_ 4 _ rfl; refine blk_put (cs := #[.int .u64 ((rd_T74 l0 x10_1).f0), .int .u64 ((rd_T74 l0 x10_1).f1), .int .u64 ((rd_T74 l0 x10_1).f2), .int .u64 0, .int .i64 0]) ?_ 3 _ rfl; refine blk_put (cs := #[.int .u64 ((rd_T74 l0 x10_1).f0), .int .u64 ((rd_T74 l0 x10_1).f1), .int .u64 0, .int .u64 0, .int .i64 0]) ?_ 2 _ rfl; refine blk_put (cs := #[.int .u64 ((rd_T74 l0 x10_1).f0), .int .u64 0, .int .u64 0, .int .u64 0, .int .i64 0]) ?_ 1 _ rfl; refine blk_put (cs := #[.int .u64 0, .int .u64 0, .int .u64 0, .int .u64 0, .int .i64 0]) ?_ 0 _ rfl; (with_reducible repeat (first | refine blk_drewN ?_ _ | refine blk_drew ?_ | refine blk_alloc ?_ _)); exact BK201.out))⟩; have n1_ : Aside0 (Below w.heap.size w w19) := ⟨(by rw [hw]; exact (belN HB))⟩; clear hw; clear BK201; clear HB; have BK201 := n0_; have HB := n1_; clear n0_ n1_))
            have n0_ := Aside0.mk (blk_drew BK201.out)
            have n1_ := Aside0.mk (below_drew1 HB.out)
            clear BK201
            clear HB
            have BK201 := n0_
            have HB := n1_
            clear n0_ n1_
            have p202 : 0 ≤ ((ji7) : Int) := of_decide_eq_true (by first | (with_reducible assumption) | assumption)
            have q202 : (ji7) < (l0.length : Int) := of_decide_eq_true (by first | (with_reducible assumption) | assumption)
            obtain ⟨ad202, e202, hx202_0, hx202_1, hx202_2, hx202_3, hx202_4⟩ := at_T74 HR0.out (ji7) p202 q202
            have hw202_4 := hx202_4
            have hw202_3 := hx202_3
            have hw202_2 := hx202_2
            have hw202_1 := hx202_1
            have hw202_0 := hx202_0
            obtain rfl : ad200 = ad202 := (by injection e202)
            replace hx202_0 := (HB.out.cell (World.block_lt_of_cell? w _ hx202_0)).trans hx202_0
            replace hx202_1 := (HB.out.cell (World.block_lt_of_cell? w _ hx202_1)).trans hx202_1
            replace hx202_2 := (HB.out.cell (World.block_lt_of_cell? w _ hx202_2)).trans hx202_2
            replace hx202_3 := (HB.out.cell (World.block_lt_of_cell? w _ hx202_3)).trans hx202_3
            replace hx202_4 := (HB.out.cell (World.block_lt_of_cell? w _ hx202_4)).trans hx202_4
            replace p202 := eq_true p202
            replace q202 := eq_true q202
            refine start_ (n := 18) (S := fun w' => w'.cell? ⟨gb201, 0, none⟩ = some (.int .u64 ((rd_T74 l0 x10_1).f0)) ∧ w'.cell? ⟨gb201, 1, none⟩ = some (.int .u64 ((rd_T74 l0 x10_1).f1)) ∧ w'.cell? ⟨gb201, 2, none⟩ = some (.int .u64 ((rd_T74 l0 x10_1).f2)) ∧ w'.cell? ⟨gb201, 3, none⟩ = some (.int .u64 ((rd_T74 l0 x10_1).f3)) ∧ w'.cell? ⟨gb201, 4, none⟩ = some (.int .i64 ((rd_T74 l0 x10_1).f4)) ∧ w'.cell? (ad200.add (((ji7)).toNat * 5)) = some (.int .u64 ((rd_T74 l0 (ji7)).f0)) ∧ w'.cell? ⟨(ad200.add (((ji7)).toNat * 5)).block, (ad200.add (((ji7)).toNat * 5)).off + 1, none⟩ = some (.int .u64 ((rd_T74 l0 (ji7)).f1)) ∧ w'.cell? ⟨(ad200.add (((ji7)).toNat * 5)).block, (ad200.add (((ji7)).toNat * 5)).off + 2, none⟩ = some (.int .u64 ((rd_T74 l0 (ji7)).f2)) ∧ w'.cell? ⟨(ad200.add (((ji7)).toNat * 5)).block, (ad200.add (((ji7)).toNat * 5)).off + 3, none⟩ = some (.int .u64 ((rd_T74 l0 (ji7)).f3)) ∧ w'.cell? ⟨(ad200.add (((ji7)).toNat * 5)).block, (ad200.add (((ji7)).toNat * 5)).off + 4, none⟩ = some (.int .i64 ((rd_T74 l0 (ji7)).f4))) (ds := []) #[false, false, false, false, false, false, false, false, false, false, false, false, false, false, false, false, false, false] (by kernel_rfl) rfl rfl ⟨(blk_cell BK201.out 0).trans rfl, (blk_cell BK201.out 1).trans rfl, (blk_cell BK201.out 2).trans rfl, (blk_cell BK201.out 3).trans rfl, (blk_cell BK201.out 4).trans rfl, ((HB.out.cell (World.block_lt_of_cell? w _ hw202_0)).trans hw202_0), ((HB.out.cell (World.block_lt_of_cell? w _ hw202_1)).trans hw202_1), ((HB.out.cell (World.block_lt_of_cell? w _ hw202_2)).trans hw202_2), ((HB.out.cell (World.block_lt_of_cell? w _ hw202_3)).trans hw202_3), ((HB.out.cell (World.block_lt_of_cell? w _ hw202_4)).trans hw202_4)⟩ (fun hHeld => ?_); refine with_tabW damsonref13_Check.tab6 damsonref13_Check.bits6 (fun HT_ HW_ => ?_)
            generalize w19.drew = w20 at BK201 HB hx202_0 hx202_1 hx202_2 hx202_3 hx202_4 hHeld ⊢
            refine pureA_ 0 15 (bm 18 1) ?_
            refine pureA_ 1 16 (bm 18 3) ?_
            refine pureA_ 2 17 (bm 18 7) ?_
            refine pureA_ 3 18 (bm 18 15) ?_
            refine pureA_ 4 19 (bm 18 31) ?_
            refine pureA_ 5 20 (bm 18 63) ?_
            refine pureA_ 6 21 (bm 18 127) ?_
            refine pureA_ 7 22 (bm 18 255) ?_
            refine pureA_ 9 24 (bm 18 767) ?_
            refine take_ (i := 8) (N := some 23) (v := ?_) (a' := ?_) #[true, true, true, true, true, true, true, true, true, true, false, false, false, false, false, false, false, false] rfl rfl (take_ofW HT_.out HW_.out (by kernel_rfl)) (fun _ _ _ h => h) (Or.inl ⟨by rfl, ?_⟩) hHeld ?_ ?_
            rotate_left
            ·rintro w' ⟨s0, s1, s2, s3, s4, s5, s6, s7, s8, s9⟩
             go_simp
             with_reducible rfl
            rotate_left
            ·simp only [Act.put, List.setIfInBounds_toArray, List.set_cons_zero, List.set_cons_succ, i64_w, i32_w]
             rfl
            refine take_ (i := 10) (N := some 25) (v := ?_) (a' := ?_) #[true, true, true, true, true, true, true, true, true, true, true, false, false, false, false, false, false, false] rfl rfl (take_ofW HT_.out HW_.out (by kernel_rfl)) (fun _ _ _ h => h) (Or.inl ⟨by rfl, ?_⟩) hHeld ?_ ?_
            rotate_left
            ·rintro w' ⟨s0, s1, s2, s3, s4, s5, s6, s7, s8, s9⟩
             go_simp
             with_reducible rfl
            rotate_left
            ·simp only [Act.put, List.setIfInBounds_toArray, List.set_cons_zero, List.set_cons_succ, i64_w, i32_w]
             rfl
            refine pureA_ 11 26 (bm 18 4095) ?_
            refine pureA_ 12 27 (bm 18 8191) ?_
            refine pureA_ 13 28 (bm 18 16383) ?_
            refine take_ (i := 14) (N := some 29) (v := ?_) (a' := ?_) #[true, true, true, true, true, true, true, true, true, true, true, true, true, true, true, false, false, false] rfl rfl (take_ofW HT_.out HW_.out (by kernel_rfl)) (fun _ _ _ h => h) (Or.inl ⟨by rfl, ?_⟩) hHeld ?_ ?_
            rotate_left
            ·rintro w' ⟨s0, s1, s2, s3, s4, s5, s6, s7, s8, s9⟩
             go_simp
             with_reducible rfl
            rotate_left
            ·simp only [Act.put, List.setIfInBounds_toArray, List.set_cons_zero, List.set_cons_succ, i64_w, i32_w]
             rfl
            refine one_ (i := 15) (N := some 30) #[true, true, true, true, true, true, true, true, true, true, true, true, true, true, true, true, false, false] rfl rfl (one_of HT_.out (by kernel_rfl)) (by decide) (fun K hK => ?_)
            refine goes_ Try.func125 (by kernel_rfl) rfl #[.agg #[.int .u64 ((rd_T74 l0 x10_1).f0), .int .u64 ((rd_T74 l0 x10_1).f1), .int .u64 ((rd_T74 l0 x10_1).f2), .int .u64 ((rd_T74 l0 x10_1).f3), .int .i64 ((rd_T74 l0 x10_1).f4)]] (by rfl) rfl rfl (by (try simp only [List.map_toArray, List.map_cons, List.map_nil]); first | done | rfl | (simp only [List.length_drop, List.length_take]; rfl)) ?_
            with_reducible refine (damsonref13_may.calls k1 ((rd_T74 l0 x10_1).f0) ((rd_T74 l0 x10_1).f1) ((rd_T74 l0 x10_1).f2) ((rd_T74 l0 x10_1).f3) ((rd_T74 l0 x10_1).f4) true _ A15.out).mono ?_
            rintro e w21 ⟨rfl, hb⟩
            refine ⟨_, rfl, ?_⟩
            have n0_ := Aside0.mk (blk_below (g := gb201) (blkN BK201) hb)
            have n1_ := Aside0.mk (below_step (belN HB) hb)
            clear BK201
            clear HB
            have BK201 := n0_
            have HB := n1_
            clear n0_ n1_
            (try clear hb)
            (try clear hb2)
            (try clear hk)
            (try clear hi)
            refine hK.out _ _ ⟨(blk_cell BK201.out 0).trans rfl, (blk_cell BK201.out 1).trans rfl, (blk_cell BK201.out 2).trans rfl, (blk_cell BK201.out 3).trans rfl, (blk_cell BK201.out 4).trans rfl, ((HB.out.cell (World.block_lt_of_cell? w _ hw202_0)).trans hw202_0), ((HB.out.cell (World.block_lt_of_cell? w _ hw202_1)).trans hw202_1), ((HB.out.cell (World.block_lt_of_cell? w _ hw202_2)).trans hw202_2), ((HB.out.cell (World.block_lt_of_cell? w _ hw202_3)).trans hw202_3), ((HB.out.cell (World.block_lt_of_cell? w _ hw202_4)).trans hw202_4)⟩ (fun hHeld => ?_)
            clear hK K
            refine norm_ (a' := ?_) ?_ ?_
            rotate_left
            ·show Act.put _ (some 30) _ = _
             simp only [Act.put, List.setIfInBounds_toArray, List.set_cons_zero, List.set_cons_succ, i64_w, i32_w]
             rfl
            refine pureA_ 16 31 (bm 18 131071) ?_
            refine pureA_ 17 32 (bm 18 262143) ?_
            refine done_ (done_of HT_.out (by kernel_rfl)) ?_
            try go_wp2
            go_roundg k1
            case measure => have := HK1.out; omega
            case rel => exact ⟨(wrap64 (x10_1 + 1)), (by first | rfl | (simp; done) | (simp [*]; done)), H', ⟨by have := HK1.out; omega⟩, ⟨by repeat (first | (with_reducible first | exact HB.out | apply below_alloc | apply pw_below_drewN | apply below_drew1 | refine below_set ?_ GE201.out) | exact HB.out)⟩⟩
           ·replace c16 := Bool.eq_false_iff.mpr c16
            subst c16
            have H1 : (some 1) = some r := by rw [if_neg (show ¬ (false = true) by decide)] at H; exact H
            clear H
            have H := H1
            clear H1
            obtain rfl := Option.some.inj H
            have p200 : 0 ≤ (x10_1 : Int) := of_decide_eq_true (by first | (with_reducible assumption) | assumption)
            have q200 : x10_1 < (l0.length : Int) := of_decide_eq_true (by first | (with_reducible assumption) | assumption)
            obtain ⟨ad200, e200, hx200_0, hx200_1, hx200_2, hx200_3, hx200_4⟩ := at_T74 HR0.out x10_1 p200 q200
            cases e200
            replace hx200_0 := (HB.out.cell (World.block_lt_of_cell? w _ hx200_0)).trans hx200_0
            replace hx200_1 := (HB.out.cell (World.block_lt_of_cell? w _ hx200_1)).trans hx200_1
            replace hx200_2 := (HB.out.cell (World.block_lt_of_cell? w _ hx200_2)).trans hx200_2
            replace hx200_3 := (HB.out.cell (World.block_lt_of_cell? w _ hx200_3)).trans hx200_3
            replace hx200_4 := (HB.out.cell (World.block_lt_of_cell? w _ hx200_4)).trans hx200_4
            replace p200 := eq_true p200
            replace q200 := eq_true q200
            try go_wp2_with (first | ((with_reducible refine gate_dst (N := 4) rfl ?_); refine box_event ?hg (N := 4) ?hd (cs := #[.int .u64 0, .int .u64 0, .int .u64 0, .int .u64 0, .int .i64 0]) (t := 74) ?hr ?_; (case hd => rfl); (case hg => rfl); (case hr => first | (go_simp; done) | (go_simp; rfl)); intro gb201 hg w22 hbox hb; have n0_ := Aside0.mk (below_step (belN HB) hb); have n1_ := Aside0.mk (hbox); have n2_ := Aside0.mk ((by rw [hg]; exact (below_size (belN HB)) : w.heap.size ≤ gb201)); have n3_ := Aside0.mk ((by rw [hg]; exact (below_size (belN HB)) : w.heap.size ≤ gb201)); clear HB; have HB := n0_; have BK201 := n1_; have GW201 := n2_; have GE201 := n3_; clear n0_ n1_ n2_ n3_; clear hb hbox hg; obtain ⟨hcz23_0, hcz23_1, hcz23_2, hcz23_3, hcz23_4, hfz23_0, hfz23_1, hfz23_2, hfz23_3, hfz23_4⟩ := cz5_ (w := w22) BK201.out) | ((with_reducible refine gate_store (t := 74) (p := 4) rfl ?_); refine store_event (t := 74) (p := 4) (v := ?vo_w24) (w1 := (((((w22.setCell ⟨gb201, 0, none⟩ (.int .u64 ((rd_T74 l0 x10_1).f0))).setCell ⟨gb201, 1, none⟩ (.int .u64 ((rd_T74 l0 x10_1).f1))).setCell ⟨gb201, 2, none⟩ (.int .u64 ((rd_T74 l0 x10_1).f2))).setCell ⟨gb201, 3, none⟩ (.int .u64 ((rd_T74 l0 x10_1).f3))).setCell ⟨gb201, 4, none⟩ (.int .i64 ((rd_T74 l0 x10_1).f4)))) ?hg ?ho ?hn ?hr ?_; (case ho => rfl); (case hg => rfl); (case hn => rfl); (case hr => first | (go_simp; done) | (go_simp; rfl)); intro w24 hw; have n0_ : Aside0 (w24.heap[gb201]? = some (.cells #[.int .u64 ((rd_T74 l0 x10_1).f0), .int .u64 ((rd_T74 l0 x10_1).f1), .int .u64 ((rd_T74 l0 x10_1).f2), .int .u64 ((rd_T74 l0 x10_1).f3), .int .i64 ((rd_T74 l0 x10_1).f4)] 74 (0, 0))) := ⟨(by rw [hw]; exact (by (with_reducible repeat (first | refine blk_drewN ?_ _ | refine blk_drew ?_ | refine blk_alloc ?_ _)); refine blk_put (cs := #[.int .u64 ((rd_T74 l0 x10_1).f0), .int .u64 ((rd_T74 l0 x10_1).f1), .int .u64 ((rd_T74 l0 x10_1).f2), .int .u64 ((rd_T74 l0 x10_1).f3), .int .i64 0]) ?_ 4 _ rfl; refine blk_put (cs := #[.int .u64 ((rd_T74 l0 x10_1).f0), .int .u64 ((rd_T74 l0 x10_1).f1), .int .u64 ((rd_T74 l0 x10_1).f2), .int .u64 0, .int .i64 0]) ?_ 3 _ rfl; refine blk_put (cs := #[.int .u64 ((rd_T74 l0 x10_1).f0), .int .u64 ((rd_T74 l0 x10_1).f1), .int .u64 0, .int .u64 0, .int .i64 0]) ?_ 2 _ rfl; refine blk_put (cs := #[.int .u64 ((rd_T74 l0 x10_1).f0), .int .u64 0, .int .u64 0, .int .u64 0, .int .i64 0]) ?_ 1 _ rfl; refine blk_put (cs := #[.int .u64 0, .int .u64 0, .int .u64 0, .int .u64 0, .int .i64 0]) ?_ 0 _ rfl; (with_reducible repeat (first | refine blk_drewN ?_ _ | refine blk_drew ?_ | refine blk_alloc ?_ _)); exact BK201.out))⟩; have n1_ : Aside0 (Below w.heap.size w w24) := ⟨(by rw [hw]; exact (belN HB))⟩; clear hw; clear BK201; clear HB; have BK201 := n0_; have HB := n1_; clear n0_ n1_))
            have n0_ := Aside0.mk (blk_drew BK201.out)
            have n1_ := Aside0.mk (below_drew1 HB.out)
            clear BK201
            clear HB
            have BK201 := n0_
            have HB := n1_
            clear n0_ n1_
            have p202 : 0 ≤ ((ji7) : Int) := of_decide_eq_true (by first | (with_reducible assumption) | assumption)
            have q202 : (ji7) < (l0.length : Int) := of_decide_eq_true (by first | (with_reducible assumption) | assumption)
            obtain ⟨ad202, e202, hx202_0, hx202_1, hx202_2, hx202_3, hx202_4⟩ := at_T74 HR0.out (ji7) p202 q202
            have hw202_4 := hx202_4
            have hw202_3 := hx202_3
            have hw202_2 := hx202_2
            have hw202_1 := hx202_1
            have hw202_0 := hx202_0
            obtain rfl : ad200 = ad202 := (by injection e202)
            replace hx202_0 := (HB.out.cell (World.block_lt_of_cell? w _ hx202_0)).trans hx202_0
            replace hx202_1 := (HB.out.cell (World.block_lt_of_cell? w _ hx202_1)).trans hx202_1
            replace hx202_2 := (HB.out.cell (World.block_lt_of_cell? w _ hx202_2)).trans hx202_2
            replace hx202_3 := (HB.out.cell (World.block_lt_of_cell? w _ hx202_3)).trans hx202_3
            replace hx202_4 := (HB.out.cell (World.block_lt_of_cell? w _ hx202_4)).trans hx202_4
            replace p202 := eq_true p202
            replace q202 := eq_true q202
            refine start_ (n := 18) (S := fun w' => w'.cell? ⟨gb201, 0, none⟩ = some (.int .u64 ((rd_T74 l0 x10_1).f0)) ∧ w'.cell? ⟨gb201, 1, none⟩ = some (.int .u64 ((rd_T74 l0 x10_1).f1)) ∧ w'.cell? ⟨gb201, 2, none⟩ = some (.int .u64 ((rd_T74 l0 x10_1).f2)) ∧ w'.cell? ⟨gb201, 3, none⟩ = some (.int .u64 ((rd_T74 l0 x10_1).f3)) ∧ w'.cell? ⟨gb201, 4, none⟩ = some (.int .i64 ((rd_T74 l0 x10_1).f4)) ∧ w'.cell? (ad200.add (((ji7)).toNat * 5)) = some (.int .u64 ((rd_T74 l0 (ji7)).f0)) ∧ w'.cell? ⟨(ad200.add (((ji7)).toNat * 5)).block, (ad200.add (((ji7)).toNat * 5)).off + 1, none⟩ = some (.int .u64 ((rd_T74 l0 (ji7)).f1)) ∧ w'.cell? ⟨(ad200.add (((ji7)).toNat * 5)).block, (ad200.add (((ji7)).toNat * 5)).off + 2, none⟩ = some (.int .u64 ((rd_T74 l0 (ji7)).f2)) ∧ w'.cell? ⟨(ad200.add (((ji7)).toNat * 5)).block, (ad200.add (((ji7)).toNat * 5)).off + 3, none⟩ = some (.int .u64 ((rd_T74 l0 (ji7)).f3)) ∧ w'.cell? ⟨(ad200.add (((ji7)).toNat * 5)).block, (ad200.add (((ji7)).toNat * 5)).off + 4, none⟩ = some (.int .i64 ((rd_T74 l0 (ji7)).f4))) (ds := []) #[false, false, false, false, false, false, false, false, false, false, false, false, false, false, false, false, false, false] (by kernel_rfl) rfl rfl ⟨(blk_cell BK201.out 0).trans rfl, (blk_cell BK201.out 1).trans rfl, (blk_cell BK201.out 2).trans rfl, (blk_cell BK201.out 3).trans rfl, (blk_cell BK201.out 4).trans rfl, ((HB.out.cell (World.block_lt_of_cell? w _ hw202_0)).trans hw202_0), ((HB.out.cell (World.block_lt_of_cell? w _ hw202_1)).trans hw202_1), ((HB.out.cell (World.block_lt_of_cell? w _ hw202_2)).trans hw202_2), ((HB.out.cell (World.block_lt_of_cell? w _ hw202_3)).trans hw202_3), ((HB.out.cell (World.block_lt_of_cell? w _ hw202_4)).trans hw202_4)⟩ (fun hHeld => ?_); refine with_tabW damsonref13_Check.tab6 damsonref13_Check.bits6 (fun HT_ HW_ => ?_)
            generalize w24.drew = w25 at BK201 HB hx202_0 hx202_1 hx202_2 hx202_3 hx202_4 hHeld ⊢
            refine pureA_ 0 15 (bm 18 1) ?_
            refine pureA_ 1 16 (bm 18 3) ?_
            refine pureA_ 2 17 (bm 18 7) ?_
            refine pureA_ 3 18 (bm 18 15) ?_
            refine pureA_ 4 19 (bm 18 31) ?_
            refine pureA_ 5 20 (bm 18 63) ?_
            refine pureA_ 6 21 (bm 18 127) ?_
            refine pureA_ 7 22 (bm 18 255) ?_
            refine pureA_ 9 24 (bm 18 767) ?_
            refine take_ (i := 8) (N := some 23) (v := ?_) (a' := ?_) #[true, true, true, true, true, true, true, true, true, true, false, false, false, false, false, false, false, false] rfl rfl (take_ofW HT_.out HW_.out (by kernel_rfl)) (fun _ _ _ h => h) (Or.inl ⟨by rfl, ?_⟩) hHeld ?_ ?_
            rotate_left
            ·rintro w' ⟨s0, s1, s2, s3, s4, s5, s6, s7, s8, s9⟩
             go_simp
             with_reducible rfl
            rotate_left
            ·simp only [Act.put, List.setIfInBounds_toArray, List.set_cons_zero, List.set_cons_succ, i64_w, i32_w]
             rfl
            refine take_ (i := 10) (N := some 25) (v := ?_) (a' := ?_) #[true, true, true, true, true, true, true, true, true, true, true, false, false, false, false, false, false, false] rfl rfl (take_ofW HT_.out HW_.out (by kernel_rfl)) (fun _ _ _ h => h) (Or.inl ⟨by rfl, ?_⟩) hHeld ?_ ?_
            rotate_left
            ·rintro w' ⟨s0, s1, s2, s3, s4, s5, s6, s7, s8, s9⟩
             go_simp
             with_reducible rfl
            rotate_left
            ·simp only [Act.put, List.setIfInBounds_toArray, List.set_cons_zero, List.set_cons_succ, i64_w, i32_w]
             rfl
            refine pureA_ 11 26 (bm 18 4095) ?_
            refine pureA_ 12 27 (bm 18 8191) ?_
            refine pureA_ 13 28 (bm 18 16383) ?_
            refine take_ (i := 14) (N := some 29) (v := ?_) (a' := ?_) #[true, true, true, true, true, true, true, true, true, true, true, true, true, true, true, false, false, false] rfl rfl (take_ofW HT_.out HW_.out (by kernel_rfl)) (fun _ _ _ h => h) (Or.inl ⟨by rfl, ?_⟩) hHeld ?_ ?_
            rotate_left
            ·rintro w' ⟨s0, s1, s2, s3, s4, s5, s6, s7, s8, s9⟩
             go_simp
             with_reducible rfl
            rotate_left
            ·simp only [Act.put, List.setIfInBounds_toArray, List.set_cons_zero, List.set_cons_succ, i64_w, i32_w]
             rfl
            refine one_ (i := 15) (N := some 30) #[true, true, true, true, true, true, true, true, true, true, true, true, true, true, true, true, false, false] rfl rfl (one_of HT_.out (by kernel_rfl)) (by decide) (fun K hK => ?_)
            refine goes_ Try.func125 (by kernel_rfl) rfl #[.agg #[.int .u64 ((rd_T74 l0 x10_1).f0), .int .u64 ((rd_T74 l0 x10_1).f1), .int .u64 ((rd_T74 l0 x10_1).f2), .int .u64 ((rd_T74 l0 x10_1).f3), .int .i64 ((rd_T74 l0 x10_1).f4)]] (by rfl) rfl rfl (by (try simp only [List.map_toArray, List.map_cons, List.map_nil]); first | done | rfl | (simp only [List.length_drop, List.length_take]; rfl)) ?_
            with_reducible refine (damsonref13_may.calls k1 ((rd_T74 l0 x10_1).f0) ((rd_T74 l0 x10_1).f1) ((rd_T74 l0 x10_1).f2) ((rd_T74 l0 x10_1).f3) ((rd_T74 l0 x10_1).f4) false _ A15.out).mono ?_
            rintro e w26 ⟨rfl, hb⟩
            refine ⟨_, rfl, ?_⟩
            have n0_ := Aside0.mk (blk_below (g := gb201) (blkN BK201) hb)
            have n1_ := Aside0.mk (below_step (belN HB) hb)
            clear BK201
            clear HB
            have BK201 := n0_
            have HB := n1_
            clear n0_ n1_
            (try clear hb)
            (try clear hb2)
            (try clear hk)
            (try clear hi)
            refine hK.out _ _ ⟨(blk_cell BK201.out 0).trans rfl, (blk_cell BK201.out 1).trans rfl, (blk_cell BK201.out 2).trans rfl, (blk_cell BK201.out 3).trans rfl, (blk_cell BK201.out 4).trans rfl, ((HB.out.cell (World.block_lt_of_cell? w _ hw202_0)).trans hw202_0), ((HB.out.cell (World.block_lt_of_cell? w _ hw202_1)).trans hw202_1), ((HB.out.cell (World.block_lt_of_cell? w _ hw202_2)).trans hw202_2), ((HB.out.cell (World.block_lt_of_cell? w _ hw202_3)).trans hw202_3), ((HB.out.cell (World.block_lt_of_cell? w _ hw202_4)).trans hw202_4)⟩ (fun hHeld => ?_)
            clear hK K
            refine norm_ (a' := ?_) ?_ ?_
            rotate_left
            ·show Act.put _ (some 30) _ = _
             simp only [Act.put, List.setIfInBounds_toArray, List.set_cons_zero, List.set_cons_succ, i64_w, i32_w]
             rfl
            refine pureA_ 16 31 (bm 18 131071) ?_
            refine pureA_ 17 32 (bm 18 262143) ?_
            refine done_ (done_of HT_.out (by kernel_rfl)) ?_
            try go_wp2
            go_ret
            exact ⟨by first | rfl | (simp [errW_none, errW_some] <;> rfl) | (simp only [← hji7]; first | rfl | (simp [errW_none, errW_some] <;> rfl)) | (simp [*, errW_none, errW_some] <;> rfl), by repeat (first | (with_reducible first | exact HB.out | apply below_alloc | apply pw_below_drewN | apply below_drew1 | refine below_set ?_ GE201.out) | exact HB.out)⟩
         ·rw [if_neg c9] at H
          exact absurd H (by simp)
        ·rw [if_neg c8] at H
         exact absurd H (by simp)
       ·rw [if_neg c6] at H
        have c6b0 : decide (0 < x10_1) = false := decide_eq_false c6
        clear c6
        replace H := Option.bind_eq_some_iff.mp H
        obtain ⟨t204, A270, H⟩ := H
        replace H : (if t204 = true then (damsonref13_Check.l0 k1 l0 l0 (l0.length : Int) (wrap64 (x10_1 + 1))) else (some 1)) = some r := H
        have A27 := Aside0.mk A270
        clear A270
        by_cases c28 : t204 = true
        ·subst c28
         have H1 : (damsonref13_Check.l0 k1 l0 l0 (l0.length : Int) (wrap64 (x10_1 + 1))) = some r := by rw [if_pos rfl] at H; exact H
         clear H
         have H := H1
         clear H1
         have H' := Aside0.mk H
         clear H
         have p200 : 0 ≤ (x10_1 : Int) := of_decide_eq_true (by first | (with_reducible assumption) | assumption)
         have q200 : x10_1 < (l0.length : Int) := of_decide_eq_true (by first | (with_reducible assumption) | assumption)
         obtain ⟨ad200, e200, hx200_0, hx200_1, hx200_2, hx200_3, hx200_4⟩ := at_T74 HR0.out x10_1 p200 q200
         cases e200
         replace hx200_0 := (HB.out.cell (World.block_lt_of_cell? w _ hx200_0)).trans hx200_0
         replace hx200_1 := (HB.out.cell (World.block_lt_of_cell? w _ hx200_1)).trans hx200_1
         replace hx200_2 := (HB.out.cell (World.block_lt_of_cell? w _ hx200_2)).trans hx200_2
         replace hx200_3 := (HB.out.cell (World.block_lt_of_cell? w _ hx200_3)).trans hx200_3
         replace hx200_4 := (HB.out.cell (World.block_lt_of_cell? w _ hx200_4)).trans hx200_4
         replace p200 := eq_true p200
         replace q200 := eq_true q200
         try go_wp2_with (first | ((with_reducible refine gate_dst (N := 4) rfl ?_); refine box_event ?hg (N := 4) ?hd (cs := #[.int .u64 0, .int .u64 0, .int .u64 0, .int .u64 0, .int .i64 0]) (t := 74) ?hr ?_; (case hd => rfl); (case hg => rfl); (case hr => first | (go_simp; done) | (go_simp; rfl)); intro gb201 hg w29 hbox hb; have n0_ := Aside0.mk (below_step (belN HB) hb); have n1_ := Aside0.mk (hbox); have n2_ := Aside0.mk ((by rw [hg]; exact (below_size (belN HB)) : w.heap.size ≤ gb201)); have n3_ := Aside0.mk ((by rw [hg]; exact (below_size (belN HB)) : w.heap.size ≤ gb201)); clear HB; have HB := n0_; have BK201 := n1_; have GW201 := n2_; have GE201 := n3_; clear n0_ n1_ n2_ n3_; clear hb hbox hg; obtain ⟨hcz30_0, hcz30_1, hcz30_2, hcz30_3, hcz30_4, hfz30_0, hfz30_1, hfz30_2, hfz30_3, hfz30_4⟩ := cz5_ (w := w29) BK201.out) | ((with_reducible refine gate_store (t := 74) (p := 4) rfl ?_); refine store_event (t := 74) (p := 4) (v := ?vo_w31) (w1 := (((((w29.setCell ⟨gb201, 0, none⟩ (.int .u64 ((rd_T74 l0 x10_1).f0))).setCell ⟨gb201, 1, none⟩ (.int .u64 ((rd_T74 l0 x10_1).f1))).setCell ⟨gb201, 2, none⟩ (.int .u64 ((rd_T74 l0 x10_1).f2))).setCell ⟨gb201, 3, none⟩ (.int .u64 ((rd_T74 l0 x10_1).f3))).setCell ⟨gb201, 4, none⟩ (.int .i64 ((rd_T74 l0 x10_1).f4)))) ?hg ?ho ?hn ?hr ?_; (case ho => rfl); (case hg => rfl); (case hn => rfl); (case hr => first | (go_simp; done) | (go_simp; rfl)); intro w31 hw; have n0_ : Aside0 (w31.heap[gb201]? = some (.cells #[.int .u64 ((rd_T74 l0 x10_1).f0), .int .u64 ((rd_T74 l0 x10_1).f1), .int .u64 ((rd_T74 l0 x10_1).f2), .int .u64 ((rd_T74 l0 x10_1).f3), .int .i64 ((rd_T74 l0 x10_1).f4)] 74 (0, 0))) := ⟨(by rw [hw]; exact (by (with_reducible repeat (first | refine blk_drewN ?_ _ | refine blk_drew ?_ | refine blk_alloc ?_ _)); refine blk_put (cs := #[.int .u64 ((rd_T74 l0 x10_1).f0), .int .u64 ((rd_T74 l0 x10_1).f1), .int .u64 ((rd_T74 l0 x10_1).f2), .int .u64 ((rd_T74 l0 x10_1).f3), .int .i64 0]) ?_ 4 _ rfl; refine blk_put (cs := #[.int .u64 ((rd_T74 l0 x10_1).f0), .int .u64 ((rd_T74 l0 x10_1).f1), .int .u64 ((rd_T74 l0 x10_1).f2), .int .u64 0, .int .i64 0]) ?_ 3 _ rfl; refine blk_put (cs := #[.int .u64 ((rd_T74 l0 x10_1).f0), .int .u64 ((rd_T74 l0 x10_1).f1), .int .u64 0, .int .u64 0, .int .i64 0]) ?_ 2 _ rfl; refine blk_put (cs := #[.int .u64 ((rd_T74 l0 x10_1).f0), .int .u64 0, .int .u64 0, .int .u64 0, .int .i64 0]) ?_ 1 _ rfl; refine blk_put (cs := #[.int .u64 0, .int .u64 0, .int .u64 0, .int .u64 0, .int .i64 0]) ?_ 0 _ rfl; (with_reducible repeat (first | refine blk_drewN ?_ _ | refine blk_drew ?_ | refine blk_alloc ?_ _)); exact BK201.out))⟩; have n1_ : Aside0 (Below w.heap.size w w31) := ⟨(by rw [hw]; exact (belN HB))⟩; clear hw; clear BK201; clear HB; have BK201 := n0_; have HB := n1_; clear n0_ n1_))
         have n0_ := Aside0.mk (blk_drew BK201.out)
         have n1_ := Aside0.mk (below_drew1 HB.out)
         clear BK201
         clear HB
         have BK201 := n0_
         have HB := n1_
         clear n0_ n1_
         refine start_ (n := 18) (S := fun w' => w'.cell? ⟨gb201, 0, none⟩ = some (.int .u64 ((rd_T74 l0 x10_1).f0)) ∧ w'.cell? ⟨gb201, 1, none⟩ = some (.int .u64 ((rd_T74 l0 x10_1).f1)) ∧ w'.cell? ⟨gb201, 2, none⟩ = some (.int .u64 ((rd_T74 l0 x10_1).f2)) ∧ w'.cell? ⟨gb201, 3, none⟩ = some (.int .u64 ((rd_T74 l0 x10_1).f3)) ∧ w'.cell? ⟨gb201, 4, none⟩ = some (.int .i64 ((rd_T74 l0 x10_1).f4))) (ds := []) #[false, false, false, false, false, false, false, false, false, false, false, false, false, false, false, false, false, false] (by kernel_rfl) rfl rfl ⟨(blk_cell BK201.out 0).trans rfl, (blk_cell BK201.out 1).trans rfl, (blk_cell BK201.out 2).trans rfl, (blk_cell BK201.out 3).trans rfl, (blk_cell BK201.out 4).trans rfl⟩ (fun hHeld => ?_); refine with_tabW damsonref13_Check.tab6 damsonref13_Check.bits6 (fun HT_ HW_ => ?_)
         generalize w31.drew = w32 at BK201 HB hHeld ⊢
         refine pureA_ 0 15 (bm 18 1) ?_
         refine pureA_ 1 16 (bm 18 3) ?_
         refine pureA_ 2 17 (bm 18 7) ?_
         refine pureU_ 3 18 (bm 18 15) ?_
         refine pureU_ 4 19 (bm 18 31) ?_
         refine pureU_ 5 20 (bm 18 63) ?_
         refine pureU_ 6 21 (bm 18 127) ?_
         refine pureU_ 7 22 (bm 18 255) ?_
         refine pureU_ 8 23 (bm 18 511) ?_
         refine pureU_ 9 24 (bm 18 1023) ?_
         refine pureU_ 10 25 (bm 18 2047) ?_
         refine pureU_ 11 26 (bm 18 4095) ?_
         refine pureA_ 12 27 (bm 18 8191) ?_
         refine pureA_ 13 28 (bm 18 16383) ?_
         refine take_ (i := 14) (N := some 29) (v := ?_) (a' := ?_) #[true, true, true, true, true, true, true, true, true, true, true, true, true, true, true, false, false, false] rfl rfl (take_ofW HT_.out HW_.out (by kernel_rfl)) (fun _ _ _ h => h) (Or.inl ⟨by rfl, ?_⟩) hHeld ?_ ?_
         rotate_left
         ·rintro w' ⟨s0, s1, s2, s3, s4⟩
          go_simp
          with_reducible rfl
         rotate_left
         ·simp only [Act.put, List.setIfInBounds_toArray, List.set_cons_zero, List.set_cons_succ, i64_w, i32_w]
          rfl
         refine one_ (i := 15) (N := some 30) #[true, true, true, true, true, true, true, true, true, true, true, true, true, true, true, true, false, false] rfl rfl (one_of HT_.out (by kernel_rfl)) (by decide) (fun K hK => ?_)
         refine goes_ Try.func125 (by kernel_rfl) rfl #[.agg #[.int .u64 ((rd_T74 l0 x10_1).f0), .int .u64 ((rd_T74 l0 x10_1).f1), .int .u64 ((rd_T74 l0 x10_1).f2), .int .u64 ((rd_T74 l0 x10_1).f3), .int .i64 ((rd_T74 l0 x10_1).f4)]] (by rfl) rfl rfl (by (try simp only [List.map_toArray, List.map_cons, List.map_nil]); first | done | rfl | (simp only [List.length_drop, List.length_take]; rfl)) ?_
         with_reducible refine (damsonref13_may.calls k1 ((rd_T74 l0 x10_1).f0) ((rd_T74 l0 x10_1).f1) ((rd_T74 l0 x10_1).f2) ((rd_T74 l0 x10_1).f3) ((rd_T74 l0 x10_1).f4) true _ A27.out).mono ?_
         rintro e w33 ⟨rfl, hb⟩
         refine ⟨_, rfl, ?_⟩
         have n0_ := Aside0.mk (blk_below (g := gb201) (blkN BK201) hb)
         have n1_ := Aside0.mk (below_step (belN HB) hb)
         clear BK201
         clear HB
         have BK201 := n0_
         have HB := n1_
         clear n0_ n1_
         (try clear hb)
         (try clear hb2)
         (try clear hk)
         (try clear hi)
         refine hK.out _ _ ⟨(blk_cell BK201.out 0).trans rfl, (blk_cell BK201.out 1).trans rfl, (blk_cell BK201.out 2).trans rfl, (blk_cell BK201.out 3).trans rfl, (blk_cell BK201.out 4).trans rfl⟩ (fun hHeld => ?_)
         clear hK K
         refine norm_ (a' := ?_) ?_ ?_
         rotate_left
         ·show Act.put _ (some 30) _ = _
          simp only [Act.put, List.setIfInBounds_toArray, List.set_cons_zero, List.set_cons_succ, i64_w, i32_w]
          rfl
         refine pureA_ 16 31 (bm 18 131071) ?_
         refine pureA_ 17 32 (bm 18 262143) ?_
         refine done_ (done_of HT_.out (by kernel_rfl)) ?_
         try go_wp2
         go_roundg k1
         case measure => have := HK1.out; omega
         case rel => exact ⟨(wrap64 (x10_1 + 1)), (by first | rfl | (simp; done) | (simp [*]; done)), H', ⟨by have := HK1.out; omega⟩, ⟨by repeat (first | (with_reducible first | exact HB.out | apply below_alloc | apply pw_below_drewN | apply below_drew1 | refine below_set ?_ GE201.out) | exact HB.out)⟩⟩
        ·replace c28 := Bool.eq_false_iff.mpr c28
         subst c28
         have H1 : (some 1) = some r := by rw [if_neg (show ¬ (false = true) by decide)] at H; exact H
         clear H
         have H := H1
         clear H1
         obtain rfl := Option.some.inj H
         have p200 : 0 ≤ (x10_1 : Int) := of_decide_eq_true (by first | (with_reducible assumption) | assumption)
         have q200 : x10_1 < (l0.length : Int) := of_decide_eq_true (by first | (with_reducible assumption) | assumption)
         obtain ⟨ad200, e200, hx200_0, hx200_1, hx200_2, hx200_3, hx200_4⟩ := at_T74 HR0.out x10_1 p200 q200
         cases e200
         replace hx200_0 := (HB.out.cell (World.block_lt_of_cell? w _ hx200_0)).trans hx200_0
         replace hx200_1 := (HB.out.cell (World.block_lt_of_cell? w _ hx200_1)).trans hx200_1
         replace hx200_2 := (HB.out.cell (World.block_lt_of_cell? w _ hx200_2)).trans hx200_2
         replace hx200_3 := (HB.out.cell (World.block_lt_of_cell? w _ hx200_3)).trans hx200_3
         replace hx200_4 := (HB.out.cell (World.block_lt_of_cell? w _ hx200_4)).trans hx200_4
         replace p200 := eq_true p200
         replace q200 := eq_true q200
         try go_wp2_with (first | ((with_reducible refine gate_dst (N := 4) rfl ?_); refine box_event ?hg (N := 4) ?hd (cs := #[.int .u64 0, .int .u64 0, .int .u64 0, .int .u64 0, .int .i64 0]) (t := 74) ?hr ?_; (case hd => rfl); (case hg => rfl); (case hr => first | (go_simp; done) | (go_simp; rfl)); intro gb201 hg w34 hbox hb; have n0_ := Aside0.mk (below_step (belN HB) hb); have n1_ := Aside0.mk (hbox); have n2_ := Aside0.mk ((by rw [hg]; exact (below_size (belN HB)) : w.heap.size ≤ gb201)); have n3_ := Aside0.mk ((by rw [hg]; exact (below_size (belN HB)) : w.heap.size ≤ gb201)); clear HB; have HB := n0_; have BK201 := n1_; have GW201 := n2_; have GE201 := n3_; clear n0_ n1_ n2_ n3_; clear hb hbox hg; obtain ⟨hcz35_0, hcz35_1, hcz35_2, hcz35_3, hcz35_4, hfz35_0, hfz35_1, hfz35_2, hfz35_3, hfz35_4⟩ := cz5_ (w := w34) BK201.out) | ((with_reducible refine gate_store (t := 74) (p := 4) rfl ?_); refine store_event (t := 74) (p := 4) (v := ?vo_w36) (w1 := (((((w34.setCell ⟨gb201, 0, none⟩ (.int .u64 ((rd_T74 l0 x10_1).f0))).setCell ⟨gb201, 1, none⟩ (.int .u64 ((rd_T74 l0 x10_1).f1))).setCell ⟨gb201, 2, none⟩ (.int .u64 ((rd_T74 l0 x10_1).f2))).setCell ⟨gb201, 3, none⟩ (.int .u64 ((rd_T74 l0 x10_1).f3))).setCell ⟨gb201, 4, none⟩ (.int .i64 ((rd_T74 l0 x10_1).f4)))) ?hg ?ho ?hn ?hr ?_; (case ho => rfl); (case hg => rfl); (case hn => rfl); (case hr => first | (go_simp; done) | (go_simp; rfl)); intro w36 hw; have n0_ : Aside0 (w36.heap[gb201]? = some (.cells #[.int .u64 ((rd_T74 l0 x10_1).f0), .int .u64 ((rd_T74 l0 x10_1).f1), .int .u64 ((rd_T74 l0 x10_1).f2), .int .u64 ((rd_T74 l0 x10_1).f3), .int .i64 ((rd_T74 l0 x10_1).f4)] 74 (0, 0))) := ⟨(by rw [hw]; exact (by (with_reducible repeat (first | refine blk_drewN ?_ _ | refine blk_drew ?_ | refine blk_alloc ?_ _)); refine blk_put (cs := #[.int .u64 ((rd_T74 l0 x10_1).f0), .int .u64 ((rd_T74 l0 x10_1).f1), .int .u64 ((rd_T74 l0 x10_1).f2), .int .u64 ((rd_T74 l0 x10_1).f3), .int .i64 0]) ?_ 4 _ rfl; refine blk_put (cs := #[.int .u64 ((rd_T74 l0 x10_1).f0), .int .u64 ((rd_T74 l0 x10_1).f1), .int .u64 ((rd_T74 l0 x10_1).f2), .int .u64 0, .int .i64 0]) ?_ 3 _ rfl; refine blk_put (cs := #[.int .u64 ((rd_T74 l0 x10_1).f0), .int .u64 ((rd_T74 l0 x10_1).f1), .int .u64 0, .int .u64 0, .int .i64 0]) ?_ 2 _ rfl; refine blk_put (cs := #[.int .u64 ((rd_T74 l0 x10_1).f0), .int .u64 0, .int .u64 0, .int .u64 0, .int .i64 0]) ?_ 1 _ rfl; refine blk_put (cs := #[.int .u64 0, .int .u64 0, .int .u64 0, .int .u64 0, .int .i64 0]) ?_ 0 _ rfl; (with_reducible repeat (first | refine blk_drewN ?_ _ | refine blk_drew ?_ | refine blk_alloc ?_ _)); exact BK201.out))⟩; have n1_ : Aside0 (Below w.heap.size w w36) := ⟨(by rw [hw]; exact (belN HB))⟩; clear hw; clear BK201; clear HB; have BK201 := n0_; have HB := n1_; clear n0_ n1_))
         have n0_ := Aside0.mk (blk_drew BK201.out)
         have n1_ := Aside0.mk (below_drew1 HB.out)
         clear BK201
         clear HB
         have BK201 := n0_
         have HB := n1_
         clear n0_ n1_
         refine start_ (n := 18) (S := fun w' => w'.cell? ⟨gb201, 0, none⟩ = some (.int .u64 ((rd_T74 l0 x10_1).f0)) ∧ w'.cell? ⟨gb201, 1, none⟩ = some (.int .u64 ((rd_T74 l0 x10_1).f1)) ∧ w'.cell? ⟨gb201, 2, none⟩ = some (.int .u64 ((rd_T74 l0 x10_1).f2)) ∧ w'.cell? ⟨gb201, 3, none⟩ = some (.int .u64 ((rd_T74 l0 x10_1).f3)) ∧ w'.cell? ⟨gb201, 4, none⟩ = some (.int .i64 ((rd_T74 l0 x10_1).f4))) (ds := []) #[false, false, false, false, false, false, false, false, false, false, false, false, false, false, false, false, false, false] (by kernel_rfl) rfl rfl ⟨(blk_cell BK201.out 0).trans rfl, (blk_cell BK201.out 1).trans rfl, (blk_cell BK201.out 2).trans rfl, (blk_cell BK201.out 3).trans rfl, (blk_cell BK201.out 4).trans rfl⟩ (fun hHeld => ?_); refine with_tabW damsonref13_Check.tab6 damsonref13_Check.bits6 (fun HT_ HW_ => ?_)
         generalize w36.drew = w37 at BK201 HB hHeld ⊢
         refine pureA_ 0 15 (bm 18 1) ?_
         refine pureA_ 1 16 (bm 18 3) ?_
         refine pureA_ 2 17 (bm 18 7) ?_
         refine pureU_ 3 18 (bm 18 15) ?_
         refine pureU_ 4 19 (bm 18 31) ?_
         refine pureU_ 5 20 (bm 18 63) ?_
         refine pureU_ 6 21 (bm 18 127) ?_
         refine pureU_ 7 22 (bm 18 255) ?_
         refine pureU_ 8 23 (bm 18 511) ?_
         refine pureU_ 9 24 (bm 18 1023) ?_
         refine pureU_ 10 25 (bm 18 2047) ?_
         refine pureU_ 11 26 (bm 18 4095) ?_
         refine pureA_ 12 27 (bm 18 8191) ?_
         refine pureA_ 13 28 (bm 18 16383) ?_
         refine take_ (i := 14) (N := some 29) (v := ?_) (a' := ?_) #[true, true, true, true, true, true, true, true, true, true, true, true, true, true, true, false, false, false] rfl rfl (take_ofW HT_.out HW_.out (by kernel_rfl)) (fun _ _ _ h => h) (Or.inl ⟨by rfl, ?_⟩) hHeld ?_ ?_
         rotate_left
         ·rintro w' ⟨s0, s1, s2, s3, s4⟩
          go_simp
          with_reducible rfl
         rotate_left
         ·simp only [Act.put, List.setIfInBounds_toArray, List.set_cons_zero, List.set_cons_succ, i64_w, i32_w]
          rfl
         refine one_ (i := 15) (N := some 30) #[true, true, true, true, true, true, true, true, true, true, true, true, true, true, true, true, false, false] rfl rfl (one_of HT_.out (by kernel_rfl)) (by decide) (fun K hK => ?_)
         refine goes_ Try.func125 (by kernel_rfl) rfl #[.agg #[.int .u64 ((rd_T74 l0 x10_1).f0), .int .u64 ((rd_T74 l0 x10_1).f1), .int .u64 ((rd_T74 l0 x10_1).f2), .int .u64 ((rd_T74 l0 x10_1).f3), .int .i64 ((rd_T74 l0 x10_1).f4)]] (by rfl) rfl rfl (by (try simp only [List.map_toArray, List.map_cons, List.map_nil]); first | done | rfl | (simp only [List.length_drop, List.length_take]; rfl)) ?_
         with_reducible refine (damsonref13_may.calls k1 ((rd_T74 l0 x10_1).f0) ((rd_T74 l0 x10_1).f1) ((rd_T74 l0 x10_1).f2) ((rd_T74 l0 x10_1).f3) ((rd_T74 l0 x10_1).f4) false _ A27.out).mono ?_
         rintro e w38 ⟨rfl, hb⟩
         refine ⟨_, rfl, ?_⟩
         have n0_ := Aside0.mk (blk_below (g := gb201) (blkN BK201) hb)
         have n1_ := Aside0.mk (below_step (belN HB) hb)
         clear BK201
         clear HB
         have BK201 := n0_
         have HB := n1_
         clear n0_ n1_
         (try clear hb)
         (try clear hb2)
         (try clear hk)
         (try clear hi)
         refine hK.out _ _ ⟨(blk_cell BK201.out 0).trans rfl, (blk_cell BK201.out 1).trans rfl, (blk_cell BK201.out 2).trans rfl, (blk_cell BK201.out 3).trans rfl, (blk_cell BK201.out 4).trans rfl⟩ (fun hHeld => ?_)
         clear hK K
         refine norm_ (a' := ?_) ?_ ?_
         rotate_left
         ·show Act.put _ (some 30) _ = _
          simp only [Act.put, List.setIfInBounds_toArray, List.set_cons_zero, List.set_cons_succ, i64_w, i32_w]
          rfl
         refine pureA_ 16 31 (bm 18 131071) ?_
         refine pureA_ 17 32 (bm 18 262143) ?_
         refine done_ (done_of HT_.out (by kernel_rfl)) ?_
         try go_wp2
         go_ret
         exact ⟨by first | rfl | (simp [errW_none, errW_some] <;> rfl) | (simp [*, errW_none, errW_some] <;> rfl), by repeat (first | (with_reducible first | exact HB.out | apply below_alloc | apply pw_below_drewN | apply below_drew1 | refine below_set ?_ GE201.out) | exact HB.out)⟩
      ·rw [if_neg c5] at H
       exact absurd H (by simp)
     ·rw [if_neg c4] at H
      exact absurd H (by simp)
    ·rw [if_neg c3] at H
     have c3b0 : decide (x10_1 < (l0.length : Int)) = false := decide_eq_false c3
     clear c3
     obtain rfl := Option.some.inj H
     go_wp2
     go_ret
     exact ⟨by first | rfl | (simp [errW_none, errW_some] <;> rfl) | (simp [*, errW_none, errW_some] <;> rfl), by repeat (first | (with_reducible first | exact HB.out | apply below_alloc | apply pw_below_drewN | apply below_drew1) | exact HB.out)⟩

/-! ### damsonref13_Get: function 78 -/
def damsonref13_Get.l0 : Nat → Int → List (S74) → Int → Int → Option (Int × Int × Int × Int × Int × Int)
  | 0, _, _, _, _ => none
  | k + 1, x1, x12, x13, x14 => if x14 < x13 then (if 0 ≤ x14 then (if x14 < (x12.length : Int) then (if ((rd_T74 x12 x14).f0) = x1 then (some ((rd_T74 x12 x14).f0, (rd_T74 x12 x14).f1, (rd_T74 x12 x14).f2, (rd_T74 x12 x14).f3, (rd_T74 x12 x14).f4, 0)) else (damsonref13_Get.l0 k x1 x12 x13 (wrap64 (x14 + 1)))) else (none)) else (none)) else (some (0, 0, 0, 0, 0, 5))
def damsonref13_Get.f (k : Nat) (l0 : List (S74)) (a1 : Int) : Option (Int × Int × Int × Int × Int × Int) := (damsonref13_Check.f k l0).bind fun t206 => (if t206 = 0 then (damsonref13_Get.l0 k a1 l0 (l0.length : Int) 0) else (some (0, 0, 0, 0, 0, 1)))
theorem damsonref13_Get.mono_l : ∀ k, (∀ y0 y1 y2 y3, LeO (damsonref13_Get.l0 k y0 y1 y2 y3) (damsonref13_Get.l0 (k + 1) y0 y1 y2 y3))
  | 0 => fun _ _ _ _ r h => by simp [damsonref13_Get.l0] at h
  | k + 1 => by
    have ih0 := damsonref13_Get.mono_l k
    · intro y0 y1 y2 y3
      unfold damsonref13_Get.l0
      repeat' first
      | (with_reducible exact ih0 _ _ _ _)
      | (with_reducible exact damsonref13_Check.mono _ _)
      | (with_reducible exact LeO.refl _)
      | (with_reducible exact LeO.none _)
      | (with_reducible refine LeO.ite ?_ ?_)
      | (with_reducible refine LeO.bind ?_ (fun _ => ?_))
      | exact ih0 _ _ _ _
      | exact damsonref13_Check.mono _ _
      | exact LeO.none _
      | refine LeO.ite ?_ ?_
      | refine LeO.bind ?_ (fun _ => ?_)
theorem damsonref13_Get.mono : ∀ a0 a1 k, LeO (damsonref13_Get.f k a0 a1) (damsonref13_Get.f (k + 1) a0 a1) := by
  intro a0 a1 k
  have ih0 := damsonref13_Get.mono_l k
  unfold damsonref13_Get.f
  repeat' first
      | (with_reducible exact ih0 _ _ _ _)
      | (with_reducible exact damsonref13_Check.mono _ _)
      | (with_reducible exact LeO.refl _)
      | (with_reducible exact LeO.none _)
      | (with_reducible refine LeO.ite ?_ ?_)
      | (with_reducible refine LeO.bind ?_ (fun _ => ?_))
      | exact ih0 _ _ _ _
      | exact damsonref13_Check.mono _ _
      | exact LeO.none _
      | refine LeO.ite ?_ ?_
      | refine LeO.bind ?_ (fun _ => ?_)
set_option maxHeartbeats 8000000 in
set_option maxRecDepth 100000 in
theorem damsonref13_Get.calls (k : Nat) (A0 : Option Addr) (c0 : Nat) (l0 : List (S74)) (a1 : Int) (r1 : Int) (r2 : Int) (r3 : Int) (r4 : Int) (r5 : Int) (r6 : Int) (w : World) (hr0 : Kd.C k74 w A0 l0.length l0) (hc0 : l0.length ≤ c0) (h : damsonref13_Get.f k l0 a1 = some (r1, r2, r3, r4, r5, r6)) :
    Calls Try.prog 78 #[.slice A0 l0.length c0, .int .u64 a1] w fun e w' => e = .returned (.tuple #[.agg #[.int .u64 r1, .int .u64 r2, .int .u64 r3, .int .u64 r4, .int .i64 r5], .int .i64 r6]) ∧ Below w.heap.size w w' := by
  have hu74 := Try.underlying74
  have HR0 := Aside0.mk hr0
  have HC0 := Aside0.mk hc0
  clear hr0 hc0
  have HB := Aside0.mk (Below.refl w.heap.size w)
  have H : ((damsonref13_Check.f k l0).bind fun t206 => (if t206 = 0 then (damsonref13_Get.l0 k a1 l0 (l0.length : Int) 0) else (some (0, 0, 0, 0, 0, 1)))) = some (r1, r2, r3, r4, r5, r6) := h
  clear h
  replace H := Option.bind_eq_some_iff.mp H
  obtain ⟨t206, A30, H⟩ := H
  replace H : (if t206 = 0 then (damsonref13_Get.l0 k a1 l0 (l0.length : Int) 0) else (some (0, 0, 0, 0, 0, 1))) = some (r1, r2, r3, r4, r5, r6) := H
  have A3 := Aside0.mk A30
  clear A30
  by_cases c4 : t206 = 0
  · rw [if_pos c4] at H
    have c4b0 : (t206 == 0) = true := beq_iff_eq.mpr c4
    have c4b1 : (t206 != 0) = false := bne_eq_false_iff_eq.mpr c4
    clear c4
    have H' := Aside0.mk H
    clear H
    go_enter Try.func78, Try.ntmps78
    go_wp2_with (first | ((with_reducible refine gate_dst (N := 4) rfl ?_); refine box_event ?hg (N := 4) ?hd (cs := #[.int .u64 0, .int .u64 0, .int .u64 0, .int .u64 0, .int .i64 0]) (t := 74) ?hr ?_; (case hd => rfl); (case hg => rfl); (case hr => first | (go_simp; done) | (go_simp; rfl)); intro gb205 hg w5 hbox hb; have n0_ := Aside0.mk (below_step (belN HB) hb); have n1_ := Aside0.mk (hbox); have n2_ := Aside0.mk ((by rw [hg]; exact (below_size (belN HB)) : w.heap.size ≤ gb205)); have n3_ := Aside0.mk ((by rw [hg]; exact (below_size (belN HB)) : w.heap.size ≤ gb205)); clear HB; have HB := n0_; have BK205 := n1_; have GW205 := n2_; have GE205 := n3_; clear n0_ n1_ n2_ n3_; clear hb hbox hg) | ((with_reducible refine gate_callee (f := 81) rfl ?_); refine goesL_ (some 9) rfl rfl Try.func81 (by kernel_rfl) rfl #[.slice A0 l0.length c0] rfl (by (try simp only [List.map_toArray, List.map_cons, List.map_nil]); first | done | rfl | (simp only [List.length_drop, List.length_take]; rfl)) ?_; (with_reducible refine (damsonref13_Check.calls k _ _ l0 t206 _ ?side1 ?side2 A3.out).mono ?_); (case side1 => repeat (first | exact (Kd.C_below HR0.out HB.out) | (with_reducible refine Kd.C_alloc ?_ _) | (with_reducible refine Kd.C_drewN ?_ _) | (with_reducible refine Kd.C_drew ?_))); (case side2 => exact HC0.out); rintro e w6 ⟨rfl, hb⟩; refine ⟨_, rfl, ?_⟩; have n0_ := Aside0.mk (blk_below (g := gb205) (blkN BK205) hb); have n1_ := Aside0.mk (below_step (belN HB) hb); clear BK205; clear HB; have BK205 := n0_; have HB := n1_; clear n0_ n1_; (try clear hb); (try clear hb2); (try clear hk); (try clear hi)))
    go_loopg [14] k (fun kq v14 w' => ∃ (x14_1 : Int) (x206000_1 : Int) (x206001_1 : Int) (x206002_1 : Int) (x206003_1 : Int) (x206004_1 : Int), v14 = .int .i64 x14_1 ∧ Aside0 (damsonref13_Get.l0 kq a1 l0 (l0.length : Int) x14_1 = some (r1, r2, r3, r4, r5, r6)) ∧ Aside0 (kq ≤ k) ∧ Aside0 (w'.heap[gb205]? = some (.cells #[.int .u64 x206000_1, .int .u64 x206001_1, .int .u64 x206002_1, .int .u64 x206003_1, .int .i64 x206004_1] 74 (0, 0))) ∧ Aside0 (Below w.heap.size w w'))
    case atStart => exact ⟨(0), (0), (0), (0), (0), (0), (by first | rfl | (simp; done) | (simp [*]; done)), H', ⟨Nat.le_refl _⟩, ⟨by (with_reducible repeat (first | refine blk_drewN ?_ _ | refine blk_drew ?_ | refine blk_alloc ?_ _)); exact BK205.out⟩, ⟨by repeat (first | (with_reducible first | exact HB.out | apply below_alloc | apply pw_below_drewN | apply below_drew1 | refine below_set ?_ GE205.out) | exact HB.out)⟩⟩
    case round =>
      clear H'
      try clear p2
      try clear c4
      try clear c4b0
      try clear c4b1
      obtain ⟨x14_1, x206000_1, x206001_1, x206002_1, x206003_1, x206004_1, rfl, HA, HK1, BK205, HB⟩ := hrel
      cases gk with
      | zero => exact absurd HA.out (by simp [damsonref13_Get.l0])
      | succ k1 =>
        have H := HA.out
        clear HA
        simp only [damsonref13_Get.l0] at H
        by_cases c7 : x14_1 < (l0.length : Int)
        · rw [if_pos c7] at H
          have c7b0 : decide (x14_1 < (l0.length : Int)) = true := decide_eq_true c7
          clear c7
          by_cases c8 : 0 ≤ x14_1
          · rw [if_pos c8] at H
            have c8b0 : decide (0 ≤ x14_1) = true := decide_eq_true c8
            clear c8
            by_cases c9 : x14_1 < (l0.length : Int)
            · rw [if_pos c9] at H
              have c9b0 : decide (x14_1 < (l0.length : Int)) = true := decide_eq_true c9
              clear c9
              by_cases c10 : ((rd_T74 l0 x14_1).f0) = a1
              · rw [if_pos c10] at H
                have c10b0 : (((rd_T74 l0 x14_1).f0) == a1) = true := beq_iff_eq.mpr c10
                have c10b1 : (((rd_T74 l0 x14_1).f0) != a1) = false := bne_eq_false_iff_eq.mpr c10
                clear c10
                simp only [Option.some.injEq, Prod.mk.injEq] at H
                obtain ⟨rfl, rfl, rfl, rfl, rfl, rfl⟩ := H
                have p207 : 0 ≤ (x14_1 : Int) := of_decide_eq_true (by first | (with_reducible assumption) | assumption)
                have q207 : x14_1 < (l0.length : Int) := of_decide_eq_true (by first | (with_reducible assumption) | assumption)
                obtain ⟨ad207, e207, hx207_0, hx207_1, hx207_2, hx207_3, hx207_4⟩ := at_T74 HR0.out x14_1 p207 q207
                cases e207
                replace hx207_0 := (HB.out.cell (World.block_lt_of_cell? w _ hx207_0)).trans hx207_0
                replace hx207_1 := (HB.out.cell (World.block_lt_of_cell? w _ hx207_1)).trans hx207_1
                replace hx207_2 := (HB.out.cell (World.block_lt_of_cell? w _ hx207_2)).trans hx207_2
                replace hx207_3 := (HB.out.cell (World.block_lt_of_cell? w _ hx207_3)).trans hx207_3
                replace hx207_4 := (HB.out.cell (World.block_lt_of_cell? w _ hx207_4)).trans hx207_4
                replace p207 := eq_true p207
                replace q207 := eq_true q207
                go_wp2_with (first | ((with_reducible refine gate_dst (N := 7) rfl ?_); refine box_event ?hg (N := 7) ?hd (cs := #[.int .u64 0, .int .u64 0, .int .u64 0, .int .u64 0, .int .i64 0]) (t := 74) ?hr ?_; (case hd => rfl); (case hg => rfl); (case hr => first | (go_simp; done) | (go_simp; rfl)); intro gb208 hg w11 hbox hb; have n0_ := Aside0.mk (blk_below (g := gb205) (blkN BK205) hb); have n1_ := Aside0.mk (below_step (belN HB) hb); have n2_ := Aside0.mk (hbox); have n3_ := Aside0.mk ((by rw [hg]; exact (below_size (belN HB)) : w.heap.size ≤ gb208)); have n4_ := Aside0.mk ((by rw [hg]; exact (below_size (belN HB)) : w.heap.size ≤ gb208)); have n5_ := Aside0.mk ((by rw [hg]; exact Nat.ne_of_lt (blk_lt (g := gb205) (blkN BK205)) : gb205 ≠ gb208)); have n6_ := Aside0.mk ((by rw [hg]; exact Nat.ne_of_gt (blk_lt (g := gb205) (blkN BK205)) : gb208 ≠ gb205)); clear BK205; clear HB; have BK205 := n0_; have HB := n1_; have BK208 := n2_; have GW208 := n3_; have GE208 := n4_; have NB205_208 := n5_; have NB208_205 := n6_; clear n0_ n1_ n2_ n3_ n4_ n5_ n6_; clear hb hbox hg; have hnb12 := NB208_205.out; have hnc12 := NB205_208.out; obtain ⟨hcz13_0, hcz13_1, hcz13_2, hcz13_3, hcz13_4, hfz13_0, hfz13_1, hfz13_2, hfz13_3, hfz13_4⟩ := cz5_ (w := w11) BK208.out) | ((with_reducible refine gate_store (t := 74) (p := 7) rfl ?_); refine store_event (t := 74) (p := 7) (v := ?vo_w14) (w1 := (((((w11.setCell ⟨gb208, 0, none⟩ (.int .u64 ((rd_T74 l0 x14_1).f0))).setCell ⟨gb208, 1, none⟩ (.int .u64 ((rd_T74 l0 x14_1).f1))).setCell ⟨gb208, 2, none⟩ (.int .u64 ((rd_T74 l0 x14_1).f2))).setCell ⟨gb208, 3, none⟩ (.int .u64 ((rd_T74 l0 x14_1).f3))).setCell ⟨gb208, 4, none⟩ (.int .i64 ((rd_T74 l0 x14_1).f4)))) ?hg ?ho ?hn ?hr ?_; (case ho => rfl); (case hg => rfl); (case hn => rfl); (case hr => first | (go_simp; done) | (go_simp; rfl)); intro w14 hw; have n0_ : Aside0 (w14.heap[gb205]? = some (.cells #[.int .u64 x206000_1, .int .u64 x206001_1, .int .u64 x206002_1, .int .u64 x206003_1, .int .i64 x206004_1] 74 (0, 0))) := ⟨(by rw [hw]; exact (blkF BK205))⟩; have n1_ : Aside0 (w14.heap[gb208]? = some (.cells #[.int .u64 ((rd_T74 l0 x14_1).f0), .int .u64 ((rd_T74 l0 x14_1).f1), .int .u64 ((rd_T74 l0 x14_1).f2), .int .u64 ((rd_T74 l0 x14_1).f3), .int .i64 ((rd_T74 l0 x14_1).f4)] 74 (0, 0))) := ⟨(by rw [hw]; exact (by (with_reducible repeat (first | refine blk_drewN ?_ _ | refine blk_drew ?_ | refine blk_alloc ?_ _)); refine blk_put (cs := #[.int .u64 ((rd_T74 l0 x14_1).f0), .int .u64 ((rd_T74 l0 x14_1).f1), .int .u64 ((rd_T74 l0 x14_1).f2), .int .u64 ((rd_T74 l0 x14_1).f3), .int .i64 0]) ?_ 4 _ rfl; refine blk_put (cs := #[.int .u64 ((rd_T74 l0 x14_1).f0), .int .u64 ((rd_T74 l0 x14_1).f1), .int .u64 ((rd_T74 l0 x14_1).f2), .int .u64 0, .int .i64 0]) ?_ 3 _ rfl; refine blk_put (cs := #[.int .u64 ((rd_T74 l0 x14_1).f0), .int .u64 ((rd_T74 l0 x14_1).f1), .int .u64 0, .int .u64 0, .int .i64 0]) ?_ 2 _ rfl; refine blk_put (cs := #[.int .u64 ((rd_T74 l0 x14_1).f0), .int .u64 0, .int .u64 0, .int .u64 0, .int .i64 0]) ?_ 1 _ rfl; refine blk_put (cs := #[.int .u64 0, .int .u64 0, .int .u64 0, .int .u64 0, .int .i64 0]) ?_ 0 _ rfl; (with_reducible repeat (first | refine blk_drewN ?_ _ | refine blk_drew ?_ | refine blk_alloc ?_ _)); exact BK208.out))⟩; have n2_ : Aside0 (Below w.heap.size w w14) := ⟨(by rw [hw]; exact (belN HB))⟩; clear hw; clear BK205; clear BK208; clear HB; have BK205 := n0_; have BK208 := n1_; have HB := n2_; clear n0_ n1_ n2_; obtain ⟨hcz15_0, hcz15_1, hcz15_2, hcz15_3, hcz15_4, hfz15_0, hfz15_1, hfz15_2, hfz15_3, hfz15_4⟩ := cz5_ (w := w14) BK208.out; obtain ⟨hcz16_0, hcz16_1, hcz16_2, hcz16_3, hcz16_4, hfz16_0, hfz16_1, hfz16_2, hfz16_3, hfz16_4⟩ := cz5_ (w := w14) BK205.out) | ((with_reducible refine gate_store (t := 74) (p := 4) rfl ?_); refine store_event (t := 74) (p := 4) (v := ?vo_w17) (w1 := (((((w14.setCell ⟨gb205, 0, none⟩ (.int .u64 ((rd_T74 l0 x14_1).f0))).setCell ⟨gb205, 1, none⟩ (.int .u64 ((rd_T74 l0 x14_1).f1))).setCell ⟨gb205, 2, none⟩ (.int .u64 ((rd_T74 l0 x14_1).f2))).setCell ⟨gb205, 3, none⟩ (.int .u64 ((rd_T74 l0 x14_1).f3))).setCell ⟨gb205, 4, none⟩ (.int .i64 ((rd_T74 l0 x14_1).f4)))) ?hg ?ho ?hn ?hr ?_; (case ho => rfl); (case hg => rfl); (case hn => rfl); (case hr => first | (go_simp; done) | (go_simp; rfl)); intro w17 hw; have n0_ : Aside0 (w17.heap[gb205]? = some (.cells #[.int .u64 ((rd_T74 l0 x14_1).f0), .int .u64 ((rd_T74 l0 x14_1).f1), .int .u64 ((rd_T74 l0 x14_1).f2), .int .u64 ((rd_T74 l0 x14_1).f3), .int .i64 ((rd_T74 l0 x14_1).f4)] 74 (0, 0))) := ⟨(by rw [hw]; exact (by (with_reducible repeat (first | refine blk_drewN ?_ _ | refine blk_drew ?_ | refine blk_alloc ?_ _)); refine blk_put (cs := #[.int .u64 ((rd_T74 l0 x14_1).f0), .int .u64 ((rd_T74 l0 x14_1).f1), .int .u64 ((rd_T74 l0 x14_1).f2), .int .u64 ((rd_T74 l0 x14_1).f3), .int .i64 x206004_1]) ?_ 4 _ rfl; refine blk_put (cs := #[.int .u64 ((rd_T74 l0 x14_1).f0), .int .u64 ((rd_T74 l0 x14_1).f1), .int .u64 ((rd_T74 l0 x14_1).f2), .int .u64 x206003_1, .int .i64 x206004_1]) ?_ 3 _ rfl; refine blk_put (cs := #[.int .u64 ((rd_T74 l0 x14_1).f0), .int .u64 ((rd_T74 l0 x14_1).f1), .int .u64 x206002_1, .int .u64 x206003_1, .int .i64 x206004_1]) ?_ 2 _ rfl; refine blk_put (cs := #[.int .u64 ((rd_T74 l0 x14_1).f0), .int .u64 x206001_1, .int .u64 x206002_1, .int .u64 x206003_1, .int .i64 x206004_1]) ?_ 1 _ rfl; refine blk_put (cs := #[.int .u64 x206000_1, .int .u64 x206001_1, .int .u64 x206002_1, .int .u64 x206003_1, .int .i64 x206004_1]) ?_ 0 _ rfl; (with_reducible repeat (first | refine blk_drewN ?_ _ | refine blk_drew ?_ | refine blk_alloc ?_ _)); exact BK205.out))⟩; have n1_ : Aside0 (w17.heap[gb208]? = some (.cells #[.int .u64 ((rd_T74 l0 x14_1).f0), .int .u64 ((rd_T74 l0 x14_1).f1), .int .u64 ((rd_T74 l0 x14_1).f2), .int .u64 ((rd_T74 l0 x14_1).f3), .int .i64 ((rd_T74 l0 x14_1).f4)] 74 (0, 0))) := ⟨(by rw [hw]; exact (blkF BK208))⟩; have n2_ : Aside0 (Below w.heap.size w w17) := ⟨(by rw [hw]; exact (belN HB))⟩; clear hw; clear BK205; clear BK208; clear HB; have BK205 := n0_; have BK208 := n1_; have HB := n2_; clear n0_ n1_ n2_))
                refine bodyPost_ret (results_ct rfl _ _ gb205 74 #[.int .u64 ((rd_T74 l0 x14_1).f0), .int .u64 ((rd_T74 l0 x14_1).f1), .int .u64 ((rd_T74 l0 x14_1).f2), .int .u64 ((rd_T74 l0 x14_1).f3), .int .i64 ((rd_T74 l0 x14_1).f4)] (0, 0) _ rfl (blkN BK205) Try.underlying74 rfl (by kernel_rfl)) rfl ?_
                exact ⟨by first | rfl | (simp [errW_none, errW_some] <;> rfl) | (simp [*, errW_none, errW_some] <;> rfl), by repeat (first | (with_reducible first | exact HB.out | apply below_alloc | apply pw_below_drewN | apply below_drew1 | refine below_set ?_ GE205.out | refine below_set ?_ GE208.out) | exact HB.out)⟩
              · rw [if_neg c10] at H
                have c10b0 : (((rd_T74 l0 x14_1).f0) == a1) = false := beq_eq_false_iff_ne.mpr c10
                have c10b1 : (((rd_T74 l0 x14_1).f0) != a1) = true := bne_iff_ne.mpr c10
                have H' := Aside0.mk H
                clear H
                have p207 : 0 ≤ (x14_1 : Int) := of_decide_eq_true (by first | (with_reducible assumption) | assumption)
                have q207 : x14_1 < (l0.length : Int) := of_decide_eq_true (by first | (with_reducible assumption) | assumption)
                obtain ⟨ad207, e207, hx207_0, hx207_1, hx207_2, hx207_3, hx207_4⟩ := at_T74 HR0.out x14_1 p207 q207
                cases e207
                replace hx207_0 := (HB.out.cell (World.block_lt_of_cell? w _ hx207_0)).trans hx207_0
                replace hx207_1 := (HB.out.cell (World.block_lt_of_cell? w _ hx207_1)).trans hx207_1
                replace hx207_2 := (HB.out.cell (World.block_lt_of_cell? w _ hx207_2)).trans hx207_2
                replace hx207_3 := (HB.out.cell (World.block_lt_of_cell? w _ hx207_3)).trans hx207_3
                replace hx207_4 := (HB.out.cell (World.block_lt_of_cell? w _ hx207_4)).trans hx207_4
                replace p207 := eq_true p207
                replace q207 := eq_true q207
                go_wp2_with (first | ((with_reducible refine gate_dst (N := 7) rfl ?_); refine box_event ?hg (N := 7) ?hd (cs := #[.int .u64 0, .int .u64 0, .int .u64 0, .int .u64 0, .int .i64 0]) (t := 74) ?hr ?_; (case hd => rfl); (case hg => rfl); (case hr => first | (go_simp; done) | (go_simp; rfl)); intro gb208 hg w18 hbox hb; have n0_ := Aside0.mk (blk_below (g := gb205) (blkN BK205) hb); have n1_ := Aside0.mk (below_step (belN HB) hb); have n2_ := Aside0.mk (hbox); have n3_ := Aside0.mk ((by rw [hg]; exact (below_size (belN HB)) : w.heap.size ≤ gb208)); have n4_ := Aside0.mk ((by rw [hg]; exact (below_size (belN HB)) : w.heap.size ≤ gb208)); have n5_ := Aside0.mk ((by rw [hg]; exact Nat.ne_of_lt (blk_lt (g := gb205) (blkN BK205)) : gb205 ≠ gb208)); have n6_ := Aside0.mk ((by rw [hg]; exact Nat.ne_of_gt (blk_lt (g := gb205) (blkN BK205)) : gb208 ≠ gb205)); clear BK205; clear HB; have BK205 := n0_; have HB := n1_; have BK208 := n2_; have GW208 := n3_; have GE208 := n4_; have NB205_208 := n5_; have NB208_205 := n6_; clear n0_ n1_ n2_ n3_ n4_ n5_ n6_; clear hb hbox hg; have hnb19 := NB208_205.out; have hnc19 := NB205_208.out; obtain ⟨hcz20_0, hcz20_1, hcz20_2, hcz20_3, hcz20_4, hfz20_0, hfz20_1, hfz20_2, hfz20_3, hfz20_4⟩ := cz5_ (w := w18) BK208.out) | ((with_reducible refine gate_store (t := 74) (p := 7) rfl ?_); refine store_event (t := 74) (p := 7) (v := ?vo_w21) (w1 := (((((w18.setCell ⟨gb208, 0, none⟩ (.int .u64 ((rd_T74 l0 x14_1).f0))).setCell ⟨gb208, 1, none⟩ (.int .u64 ((rd_T74 l0 x14_1).f1))).setCell ⟨gb208, 2, none⟩ (.int .u64 ((rd_T74 l0 x14_1).f2))).setCell ⟨gb208, 3, none⟩ (.int .u64 ((rd_T74 l0 x14_1).f3))).setCell ⟨gb208, 4, none⟩ (.int .i64 ((rd_T74 l0 x14_1).f4)))) ?hg ?ho ?hn ?hr ?_; (case ho => rfl); (case hg => rfl); (case hn => rfl); (case hr => first | (go_simp; done) | (go_simp; rfl)); intro w21 hw; have n0_ : Aside0 (w21.heap[gb205]? = some (.cells #[.int .u64 x206000_1, .int .u64 x206001_1, .int .u64 x206002_1, .int .u64 x206003_1, .int .i64 x206004_1] 74 (0, 0))) := ⟨(by rw [hw]; exact (blkF BK205))⟩; have n1_ : Aside0 (w21.heap[gb208]? = some (.cells #[.int .u64 ((rd_T74 l0 x14_1).f0), .int .u64 ((rd_T74 l0 x14_1).f1), .int .u64 ((rd_T74 l0 x14_1).f2), .int .u64 ((rd_T74 l0 x14_1).f3), .int .i64 ((rd_T74 l0 x14_1).f4)] 74 (0, 0))) := ⟨(by rw [hw]; exact (by (with_reducible repeat (first | refine blk_drewN ?_ _ | refine blk_drew ?_ | refine blk_alloc ?_ _)); refine blk_put (cs := #[.int .u64 ((rd_T74 l0 x14_1).f0), .int .u64 ((rd_T74 l0 x14_1).f1), .int .u64 ((rd_T74 l0 x14_1).f2), .int .u64 ((rd_T74 l0 x14_1).f3), .int .i64 0]) ?_ 4 _ rfl; refine blk_put (cs := #[.int .u64 ((rd_T74 l0 x14_1).f0), .int .u64 ((rd_T74 l0 x14_1).f1), .int .u64 ((rd_T74 l0 x14_1).f2), .int .u64 0, .int .i64 0]) ?_ 3 _ rfl; refine blk_put (cs := #[.int .u64 ((rd_T74 l0 x14_1).f0), .int .u64 ((rd_T74 l0 x14_1).f1), .int .u64 0, .int .u64 0, .int .i64 0]) ?_ 2 _ rfl; refine blk_put (cs := #[.int .u64 ((rd_T74 l0 x14_1).f0), .int .u64 0, .int .u64 0, .int .u64 0, .int .i64 0]) ?_ 1 _ rfl; refine blk_put (cs := #[.int .u64 0, .int .u64 0, .int .u64 0, .int .u64 0, .int .i64 0]) ?_ 0 _ rfl; (with_reducible repeat (first | refine blk_drewN ?_ _ | refine blk_drew ?_ | refine blk_alloc ?_ _)); exact BK208.out))⟩; have n2_ : Aside0 (Below w.heap.size w w21) := ⟨(by rw [hw]; exact (belN HB))⟩; clear hw; clear BK205; clear BK208; clear HB; have BK205 := n0_; have BK208 := n1_; have HB := n2_; clear n0_ n1_ n2_; obtain ⟨hcz22_0, hcz22_1, hcz22_2, hcz22_3, hcz22_4, hfz22_0, hfz22_1, hfz22_2, hfz22_3, hfz22_4⟩ := cz5_ (w := w21) BK208.out))
                go_roundg k1
                case measure => have := HK1.out; omega
                case rel => exact ⟨(wrap64 (x14_1 + 1)), (x206000_1), (x206001_1), (x206002_1), (x206003_1), (x206004_1), (by first | rfl | (simp; done) | (simp [*]; done)), H', ⟨by have := HK1.out; omega⟩, ⟨by (with_reducible repeat (first | refine blk_drewN ?_ _ | refine blk_drew ?_ | refine blk_alloc ?_ _)); exact BK205.out⟩, ⟨by repeat (first | (with_reducible first | exact HB.out | apply below_alloc | apply pw_below_drewN | apply below_drew1 | refine below_set ?_ GE205.out | refine below_set ?_ GE208.out) | exact HB.out)⟩⟩
            · rw [if_neg c9] at H
              exact absurd H (by simp)
          · rw [if_neg c8] at H
            exact absurd H (by simp)
        · rw [if_neg c7] at H
          have c7b0 : decide (x14_1 < (l0.length : Int)) = false := decide_eq_false c7
          clear c7
          simp only [Option.some.injEq, Prod.mk.injEq] at H
          obtain ⟨rfl, rfl, rfl, rfl, rfl, rfl⟩ := H
          obtain ⟨hcz23_0, hcz23_1, hcz23_2, hcz23_3, hcz23_4, hfz23_0, hfz23_1, hfz23_2, hfz23_3, hfz23_4⟩ := cz5_ (w := wr) BK205.out
          go_wp2_with (first | ((with_reducible refine gate_store (t := 74) (p := 4) rfl ?_); refine store_event (t := 74) (p := 4) (v := ?vo_w24) (w1 := (((((wr.setCell ⟨gb205, 0, none⟩ (.int .u64 0)).setCell ⟨gb205, 1, none⟩ (.int .u64 0)).setCell ⟨gb205, 2, none⟩ (.int .u64 0)).setCell ⟨gb205, 3, none⟩ (.int .u64 0)).setCell ⟨gb205, 4, none⟩ (.int .i64 0))) ?hg ?ho ?hn ?hr ?_; (case ho => rfl); (case hg => rfl); (case hn => rfl); (case hr => first | (go_simp; done) | (go_simp; rfl)); intro w24 hw; have n0_ : Aside0 (w24.heap[gb205]? = some (.cells #[.int .u64 0, .int .u64 0, .int .u64 0, .int .u64 0, .int .i64 0] 74 (0, 0))) := ⟨(by rw [hw]; exact (by (with_reducible repeat (first | refine blk_drewN ?_ _ | refine blk_drew ?_ | refine blk_alloc ?_ _)); refine blk_put (cs := #[.int .u64 0, .int .u64 0, .int .u64 0, .int .u64 0, .int .i64 x206004_1]) ?_ 4 _ rfl; refine blk_put (cs := #[.int .u64 0, .int .u64 0, .int .u64 0, .int .u64 x206003_1, .int .i64 x206004_1]) ?_ 3 _ rfl; refine blk_put (cs := #[.int .u64 0, .int .u64 0, .int .u64 x206002_1, .int .u64 x206003_1, .int .i64 x206004_1]) ?_ 2 _ rfl; refine blk_put (cs := #[.int .u64 0, .int .u64 x206001_1, .int .u64 x206002_1, .int .u64 x206003_1, .int .i64 x206004_1]) ?_ 1 _ rfl; refine blk_put (cs := #[.int .u64 x206000_1, .int .u64 x206001_1, .int .u64 x206002_1, .int .u64 x206003_1, .int .i64 x206004_1]) ?_ 0 _ rfl; (with_reducible repeat (first | refine blk_drewN ?_ _ | refine blk_drew ?_ | refine blk_alloc ?_ _)); exact BK205.out))⟩; have n1_ : Aside0 (Below w.heap.size w w24) := ⟨(by rw [hw]; exact (belN HB))⟩; clear hw; clear BK205; clear HB; have BK205 := n0_; have HB := n1_; clear n0_ n1_))
          refine bodyPost_ret (results_ct rfl _ _ gb205 74 #[.int .u64 0, .int .u64 0, .int .u64 0, .int .u64 0, .int .i64 0] (0, 0) _ rfl (blkN BK205) Try.underlying74 rfl (by kernel_rfl)) rfl ?_
          exact ⟨by first | rfl | (simp [errW_none, errW_some] <;> rfl) | (simp [*, errW_none, errW_some] <;> rfl), by repeat (first | (with_reducible first | exact HB.out | apply below_alloc | apply pw_below_drewN | apply below_drew1 | refine below_set ?_ GE205.out) | exact HB.out)⟩
  · rw [if_neg c4] at H
    have c4b0 : (t206 == 0) = false := beq_eq_false_iff_ne.mpr c4
    have c4b1 : (t206 != 0) = true := bne_iff_ne.mpr c4
    simp only [Option.some.injEq, Prod.mk.injEq] at H
    obtain ⟨rfl, rfl, rfl, rfl, rfl, rfl⟩ := H
    go_enter Try.func78, Try.ntmps78
    go_wp2_with (first | ((with_reducible refine gate_dst (N := 4) rfl ?_); refine box_event ?hg (N := 4) ?hd (cs := #[.int .u64 0, .int .u64 0, .int .u64 0, .int .u64 0, .int .i64 0]) (t := 74) ?hr ?_; (case hd => rfl); (case hg => rfl); (case hr => first | (go_simp; done) | (go_simp; rfl)); intro gb205 hg w25 hbox hb; have n0_ := Aside0.mk (below_step (belN HB) hb); have n1_ := Aside0.mk (hbox); have n2_ := Aside0.mk ((by rw [hg]; exact (below_size (belN HB)) : w.heap.size ≤ gb205)); have n3_ := Aside0.mk ((by rw [hg]; exact (below_size (belN HB)) : w.heap.size ≤ gb205)); clear HB; have HB := n0_; have BK205 := n1_; have GW205 := n2_; have GE205 := n3_; clear n0_ n1_ n2_ n3_; clear hb hbox hg) | ((with_reducible refine gate_callee (f := 81) rfl ?_); refine goesL_ (some 9) rfl rfl Try.func81 (by kernel_rfl) rfl #[.slice A0 l0.length c0] rfl (by (try simp only [List.map_toArray, List.map_cons, List.map_nil]); first | done | rfl | (simp only [List.length_drop, List.length_take]; rfl)) ?_; (with_reducible refine (damsonref13_Check.calls k _ _ l0 t206 _ ?side1 ?side2 A3.out).mono ?_); (case side1 => repeat (first | exact (Kd.C_below HR0.out HB.out) | (with_reducible refine Kd.C_alloc ?_ _) | (with_reducible refine Kd.C_drewN ?_ _) | (with_reducible refine Kd.C_drew ?_))); (case side2 => exact HC0.out); rintro e w26 ⟨rfl, hb⟩; refine ⟨_, rfl, ?_⟩; have n0_ := Aside0.mk (blk_below (g := gb205) (blkN BK205) hb); have n1_ := Aside0.mk (below_step (belN HB) hb); clear BK205; clear HB; have BK205 := n0_; have HB := n1_; clear n0_ n1_; (try clear hb); (try clear hb2); (try clear hk); (try clear hi); obtain ⟨hcz27_0, hcz27_1, hcz27_2, hcz27_3, hcz27_4, hfz27_0, hfz27_1, hfz27_2, hfz27_3, hfz27_4⟩ := cz5_ (w := w26) BK205.out) | ((with_reducible refine gate_store (t := 74) (p := 4) rfl ?_); refine store_event (t := 74) (p := 4) (v := ?vo_w28) (w1 := (((((w26.setCell ⟨gb205, 0, none⟩ (.int .u64 0)).setCell ⟨gb205, 1, none⟩ (.int .u64 0)).setCell ⟨gb205, 2, none⟩ (.int .u64 0)).setCell ⟨gb205, 3, none⟩ (.int .u64 0)).setCell ⟨gb205, 4, none⟩ (.int .i64 0))) ?hg ?ho ?hn ?hr ?_; (case ho => rfl); (case hg => rfl); (case hn => rfl); (case hr => first | (go_simp; done) | (go_simp; rfl)); intro w28 hw; have n0_ : Aside0 (w28.heap[gb205]? = some (.cells #[.int .u64 0, .int .u64 0, .int .u64 0, .int .u64 0, .int .i64 0] 74 (0, 0))) := ⟨(by rw [hw]; exact (by (with_reducible repeat (first | refine blk_drewN ?_ _ | refine blk_drew ?_ | refine blk_alloc ?_ _)); refine blk_put (cs := #[.int .u64 0, .int .u64 0, .int .u64 0, .int .u64 0, .int .i64 0]) ?_ 4 _ rfl; refine blk_put (cs := #[.int .u64 0, .int .u64 0, .int .u64 0, .int .u64 0, .int .i64 0]) ?_ 3 _ rfl; refine blk_put (cs := #[.int .u64 0, .int .u64 0, .int .u64 0, .int .u64 0, .int .i64 0]) ?_ 2 _ rfl; refine blk_put (cs := #[.int .u64 0, .int .u64 0, .int .u64 0, .int .u64 0, .int .i64 0]) ?_ 1 _ rfl; refine blk_put (cs := #[.int .u64 0, .int .u64 0, .int .u64 0, .int .u64 0, .int .i64 0]) ?_ 0 _ rfl; (with_reducible repeat (first | refine blk_drewN ?_ _ | refine blk_drew ?_ | refine blk_alloc ?_ _)); exact BK205.out))⟩; have n1_ : Aside0 (Below w.heap.size w w28) := ⟨(by rw [hw]; exact (belN HB))⟩; clear hw; clear BK205; clear HB; have BK205 := n0_; have HB := n1_; clear n0_ n1_))
    refine bodyPost_ret (results_ct rfl _ _ gb205 74 #[.int .u64 0, .int .u64 0, .int .u64 0, .int .u64 0, .int .i64 0] (0, 0) _ rfl (blkN BK205) Try.underlying74 rfl (by kernel_rfl)) rfl ?_
    exact ⟨by first | rfl | (simp [errW_none, errW_some] <;> rfl) | (simp [*, errW_none, errW_some] <;> rfl), by repeat (first | (with_reducible first | exact HB.out | apply below_alloc | apply pw_below_drewN | apply below_drew1 | refine below_set ?_ GE205.out) | exact HB.out)⟩

end Go.Proofs.Ytcfbcoinbecdfaa.P
