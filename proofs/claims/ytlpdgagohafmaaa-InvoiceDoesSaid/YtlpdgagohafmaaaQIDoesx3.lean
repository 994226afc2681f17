-- written by a program of this session (wip/print)
import Derived.Test.YtlpdgagohafmaaaQIDoesx0
import Derived.Test.YtlpdgagohafmaaaQIDoesx2
namespace Go.Proofs.Ytlpdgagohafmaaa.P
open Go.RowKit Go.Proofs.YtlpdgagohafmaaaW.PrintWords Go.Proofs.YtlpdgagohafmaaaW.PrintLast Go.Proofs.YtlpdgagohafmaaaW.PrintMore
attribute [local go_sem] max2_int min2_int max_two min_two max_three min_three max_four min_four   -- for this text's walks alone
set_option linter.unusedVariables false
set_option linter.unusedSimpArgs false

/-! ### invoice_Check: function 17 -/
def invoice_Check.l0 : Nat → List (S34) → List (S34) → Int → Int → Option (Int)
  | 0, _, _, _, _ => none
  | k + 1, x0, x8, x9, x10 => if x10 < x9 then (if 0 ≤ x10 then (if x10 < (x8.length : Int) then (if x10 > 0 then (if 0 ≤ (wrap64 (x10 - 1)) then (if (wrap64 (x10 - 1)) < (x0.length : Int) then ((invoice_order.f ((rd_T34 x0 (wrap64 (x10 - 1))).f0) ((rd_T34 x0 (wrap64 (x10 - 1))).f1) ((rd_T34 x0 (wrap64 (x10 - 1))).f2) ((rd_T34 x0 (wrap64 (x10 - 1))).f3) ((rd_T34 x8 x10).f0)).bind fun t115 => (if t115 ≥ 0 then (some 1) else ((invoice_bill.f k ((rd_T34 x8 x10).f1)).bind fun t116 => (if t116 = true then (if ((rd_T34 x8 x10).f3) < 1 then (some 1) else (if ((rd_T34 x8 x10).f3) > 3 then (some 1) else (invoice_Check.l0 k x0 x8 x9 (wrap64 (x10 + 1))))) else (some 1))))) else (none)) else (none)) else ((invoice_bill.f k ((rd_T34 x8 x10).f1)).bind fun t117 => (if t117 = true then (if ((rd_T34 x8 x10).f3) < 1 then (some 1) else (if ((rd_T34 x8 x10).f3) > 3 then (some 1) else (invoice_Check.l0 k x0 x8 x9 (wrap64 (x10 + 1))))) else (some 1)))) else (none)) else (none)) else (some 0)
def invoice_Check.f (k : Nat) (l0 : List (S34)) : Option (Int) := if (l0.length : Int) > 256 then (some 1) else (invoice_Check.l0 k l0 l0 (l0.length : Int) 0)
theorem invoice_Check.mono_l : ∀ k, (∀ y0 y1 y2 y3, LeO (invoice_Check.l0 k y0 y1 y2 y3) (invoice_Check.l0 (k + 1) y0 y1 y2 y3))
  | 0 => fun _ _ _ _ r h => by simp [invoice_Check.l0] at h
  | k + 1 => by
    have ih0 := invoice_Check.mono_l k
    · intro y0 y1 y2 y3
      unfold invoice_Check.l0
      repeat' first
      | (with_reducible exact ih0 _ _ _ _)
      | (with_reducible exact invoice_bill.mono _ _)
      | (with_reducible exact LeO.refl _)
      | (with_reducible exact LeO.none _)
      | (with_reducible refine LeO.ite ?_ ?_)
      | (with_reducible refine LeO.bind ?_ (fun _ => ?_))
      | exact ih0 _ _ _ _
      | exact invoice_bill.mono _ _
      | exact LeO.none _
      | refine LeO.ite ?_ ?_
      | refine LeO.bind ?_ (fun _ => ?_)
theorem invoice_Check.mono : ∀ a0 k, LeO (invoice_Check.f k a0) (invoice_Check.f (k + 1) a0) := by
  intro a0 k
  have ih0 := invoice_Check.mono_l k
  unfold invoice_Check.f
  repeat' first
      | (with_reducible exact ih0 _ _ _ _)
      | (with_reducible exact invoice_bill.mono _ _)
      | (with_reducible exact LeO.refl _)
      | (with_reducible exact LeO.none _)
      | (with_reducible refine LeO.ite ?_ ?_)
      | (with_reducible refine LeO.bind ?_ (fun _ => ?_))
      | exact ih0 _ _ _ _
      | exact invoice_bill.mono _ _
      | exact LeO.none _
      | refine LeO.ite ?_ ?_
      | refine LeO.bind ?_ (fun _ => ?_)
def invoice_Check.T6 : Bool × List (List Nat × List Nat) := (true, [([], []), ([0], [0]), ([1], [1]), ([2], [2]), ([2], [2]), ([4, 2], [2, 4]), ([3, 5, 2], [2, 3, 5]), ([6, 2], [2, 6]), ([2], [2]), ([8, 2], [2, 8]), ([7, 9, 2, 2], [2, 7, 9]), ([10, 2], [2, 10]), ([2, 11], [2, 11]), ([12, 10], [12]), ([13], [13]), ([14, 13], [13, 14]), ([15, 13, 13], [13, 15]), ([16, 13], [13, 16]), ([13, 17], [13, 17]), ([18, 16], [18]), ([19], [19]), ([20, 19], [19, 20]), ([21, 19], [19, 21]), ([19, 22], [19, 22]), ([23, 19], [23]), ([24], [24]), ([25, 24], [24, 25]), ([26, 24], [24, 26]), ([24, 27], [24, 27])])
def invoice_Check.B6 : List Nat := [0, 1, 3, 7, 7, 23, 63, 127, 7, 263, 1023, 2047, 4095, 8191, 16383, 32767, 65535, 131071, 262143, 524287, 1048575, 2097151, 4194303, 8388607, 16777215, 33554431, 67108863, 134217727, 268435455]
theorem invoice_Check.tab6 : rtab .any (opsOf Try.f17 6) = invoice_Check.T6 := by kernel_rfl
theorem invoice_Check.bits6 : waitsOk invoice_Check.T6.2 invoice_Check.B6 = true := by kernel_rfl
set_option maxHeartbeats 8000000 in
set_option maxRecDepth 100000 in
theorem invoice_Check.calls (k : Nat) (A0 : Option Addr) (c0 : Nat) (l0 : List (S34)) (r : Int) (w : World) (hr0 : Kd.C k34 w A0 l0.length l0) (hc0 : l0.length ≤ c0) (h : invoice_Check.f k l0 = some r) :
    Calls Try.prog 17 #[.slice A0 l0.length c0] w fun e w' => e = .returned (.int .i64 r) ∧ Below w.heap.size w w' := by
  have hu34 := Try.underlying34
  have HR0 := Aside0.mk hr0
  have HC0 := Aside0.mk hc0
  clear hr0 hc0
  have HB := Aside0.mk (Below.refl w.heap.size w)
  have H : (if (l0.length : Int) > 256 then (some 1) else (invoice_Check.l0 k l0 l0 (l0.length : Int) 0)) = some r := h
  clear h
  by_cases c2 : (l0.length : Int) > 256
  · rw [if_pos c2] at H
    have c2b0 : decide (256 < (l0.length : Int)) = true := decide_eq_true c2
    have c2b1 : decide (256 < l0.length) = true := decide_eq_true (by omega)
    clear c2
    obtain rfl := Option.some.inj H
    go_enter Try.func17, Try.ntmps17
    go_wp2
    go_ret
    exact ⟨by first | rfl | (simp [errW_none, errW_some] <;> rfl) | (simp [*, errW_none, errW_some] <;> rfl), by repeat (first | (with_reducible first | exact HB.out | apply below_alloc | apply pw_below_drewN | apply below_drew1) | exact HB.out)⟩
  · rw [if_neg c2] at H
    have c2b0 : decide (256 < (l0.length : Int)) = false := decide_eq_false c2
    have c2b1 : decide (256 < l0.length) = false := decide_eq_false (by omega)
    clear c2
    have H' := Aside0.mk H
    clear H
    go_enter Try.func17, Try.ntmps17
    go_wp2
    go_loopg [10] k (fun kq v10 w' => ∃ (x10_1 : Int), v10 = .int .i64 x10_1 ∧ Aside0 (invoice_Check.l0 kq l0 l0 (l0.length : Int) x10_1 = some r) ∧ Aside0 (kq ≤ k) ∧ Aside0 (Below w.heap.size w w'))
    case atStart => exact ⟨(0), (by first | rfl | (simp; done) | (simp [*]; done)), H', ⟨Nat.le_refl _⟩, ⟨by repeat (first | (with_reducible first | exact HB.out | apply below_alloc | apply pw_below_drewN | apply below_drew1) | exact HB.out)⟩⟩
    case round =>
      clear H'
      try clear c1
      try clear c2
      try clear c2b0
      try clear c2b1
      try clear p2
      obtain ⟨x10_1, rfl, HA, HK1, HB⟩ := hrel
      cases gk with
      | zero => exact absurd HA.out (by simp [invoice_Check.l0])
      | succ k1 =>
        have H := HA.out
        clear HA
        simp only [invoice_Check.l0] at H
        by_cases c3 : x10_1 < (l0.length : Int)
        · rw [if_pos c3] at H
          have c3b0 : decide (x10_1 < (l0.length : Int)) = true := decide_eq_true c3
          clear c3
          by_cases c4 : 0 ≤ x10_1
          · rw [if_pos c4] at H
            have c4b0 : decide (0 ≤ x10_1) = true := decide_eq_true c4
            clear c4
            by_cases c5 : x10_1 < (l0.length : Int)
            · rw [if_pos c5] at H
              have c5b0 : decide (x10_1 < (l0.length : Int)) = true := decide_eq_true c5
              clear c5
              by_cases c6 : x10_1 > 0
              · rw [if_pos c6] at H
                have c6b0 : decide (0 < x10_1) = true := decide_eq_true c6
                clear c6
                obtain ⟨ji7, hji7⟩ : ∃ j_ : Int, (wrap64 (x10_1 - 1)) = j_ := ⟨_, rfl⟩
                replace H : (if 0 ≤ (ji7) then (if (ji7) < (l0.length : Int) then ((invoice_order.f ((rd_T34 l0 (ji7)).f0) ((rd_T34 l0 (ji7)).f1) ((rd_T34 l0 (ji7)).f2) ((rd_T34 l0 (ji7)).f3) ((rd_T34 l0 x10_1).f0)).bind fun t115 => (if t115 ≥ 0 then (some 1) else ((invoice_bill.f k1 ((rd_T34 l0 x10_1).f1)).bind fun t116 => (if t116 = true then (if ((rd_T34 l0 x10_1).f3) < 1 then (some 1) else (if ((rd_T34 l0 x10_1).f3) > 3 then (some 1) else (invoice_Check.l0 k1 l0 l0 (l0.length : Int) (wrap64 (x10_1 + 1))))) else (some 1))))) else (none)) else (none)) = some r := by first | (rw [hji7] at H; exact H) | (simp only [hji7] at H ⊢; exact H)
                have hji7w : (IntKind.i64.wrap (x10_1 - 1)) = ji7 := (i64_w _).trans hji7
                by_cases c8 : 0 ≤ (ji7)
                · rw [if_pos c8] at H
                  have c8b0 : decide (0 ≤ (ji7)) = true := decide_eq_true c8
                  clear c8
                  by_cases c9 : (ji7) < (l0.length : Int)
                  · rw [if_pos c9] at H
                    have c9b0 : decide ((ji7) < (l0.length : Int)) = true := decide_eq_true c9
                    clear c9
                    replace H := Option.bind_eq_some_iff.mp H
                    obtain ⟨t115, A100, H⟩ := H
                    replace H : (if t115 ≥ 0 then (some 1) else ((invoice_bill.f k1 ((rd_T34 l0 x10_1).f1)).bind fun t116 => (if t116 = true then (if ((rd_T34 l0 x10_1).f3) < 1 then (some 1) else (if ((rd_T34 l0 x10_1).f3) > 3 then (some 1) else (invoice_Check.l0 k1 l0 l0 (l0.length : Int) (wrap64 (x10_1 + 1))))) else (some 1)))) = some r := H
                    have A10 := Aside0.mk A100
                    clear A100
                    by_cases c11 : t115 ≥ 0
                    · rw [if_pos c11] at H
                      have c11b0 : decide (0 ≤ t115) = true := decide_eq_true c11
                      clear c11
                      obtain rfl := Option.some.inj H
                      have p112 : 0 ≤ (x10_1 : Int) := of_decide_eq_true (by first | (with_reducible assumption) | assumption)
                      have q112 : x10_1 < (l0.length : Int) := of_decide_eq_true (by first | (with_reducible assumption) | assumption)
                      obtain ⟨ad112, e112, hx112_0, hx112_1, hx112_2, hx112_3⟩ := at_T34 HR0.out x10_1 p112 q112
                      cases e112
                      replace hx112_0 := (HB.out.cell (World.block_lt_of_cell? w _ hx112_0)).trans hx112_0
                      replace hx112_1 := (HB.out.cell (World.block_lt_of_cell? w _ hx112_1)).trans hx112_1
                      replace hx112_2 := (HB.out.cell (World.block_lt_of_cell? w _ hx112_2)).trans hx112_2
                      replace hx112_3 := (HB.out.cell (World.block_lt_of_cell? w _ hx112_3)).trans hx112_3
                      replace p112 := eq_true p112
                      replace q112 := eq_true q112
                      try go_wp2_with (first | ((with_reducible refine gate_dst (N := 4) rfl ?_); refine box_event ?hg (N := 4) ?hd (cs := #[.int .u64 0, .int .u64 0, .int .u64 0, .int .i64 0]) (t := 34) ?hr ?_; (case hd => rfl); (case hg => rfl); (case hr => first | (go_simp; done) | (go_simp; rfl)); intro gb113 hg w12 hbox hb; have n0_ := Aside0.mk (below_step (belN HB) hb); have n1_ := Aside0.mk (hbox); have n2_ := Aside0.mk ((by rw [hg]; exact (below_size (belN HB)) : w.heap.size ≤ gb113)); have n3_ := Aside0.mk ((by rw [hg]; exact (below_size (belN HB)) : w.heap.size ≤ gb113)); clear HB; have HB := n0_; have BK113 := n1_; have GW113 := n2_; have GE113 := n3_; clear n0_ n1_ n2_ n3_; clear hb hbox hg; obtain ⟨hcz13_0, hcz13_1, hcz13_2, hcz13_3, hfz13_0, hfz13_1, hfz13_2, hfz13_3⟩ := cz4_ (w := w12) BK113.out) | ((with_reducible refine gate_store (t := 34) (p := 4) rfl ?_); refine store_event (t := 34) (p := 4) (v := ?vo_w14) (w1 := ((((w12.setCell ⟨gb113, 0, none⟩ (.int .u64 ((rd_T34 l0 x10_1).f0))).setCell ⟨gb113, 1, none⟩ (.int .u64 ((rd_T34 l0 x10_1).f1))).setCell ⟨gb113, 2, none⟩ (.int .u64 ((rd_T34 l0 x10_1).f2))).setCell ⟨gb113, 3, none⟩ (.int .i64 ((rd_T34 l0 x10_1).f3)))) ?hg ?ho ?hn ?hr ?_; (case ho => rfl); (case hg => rfl); (case hn => rfl); (case hr => first | (go_simp; done) | (go_simp; rfl)); intro w14 hw; have n0_ : Aside0 (w14.heap[gb113]? = some (.cells #[.int .u64 ((rd_T34 l0 x10_1).f0), .int .u64 ((rd_T34 l0 x10_1).f1), .int .u64 ((rd_T34 l0 x10_1).f2), .int .i64 ((rd_T34 l0 x10_1).f3)] 34 (0, 0))) := ⟨(by rw [hw]; exact (by (with_reducible repeat (first | refine blk_drewN ?_ _ | refine blk_drew ?_ | refine blk_alloc ?_ _)); refine blk_put (cs := #[.int .u64 ((rd_T34 l0 x10_1).f0), .int .u64 ((rd_T34 l0 x10_1).f1), .int .u64 ((rd_T34 l0 x10_1).f2), .int .i64 0]) ?_ 3 _ rfl; refine blk_put (cs := #[.int .u64 ((rd_T34 l0 x10_1).f0), .int .u64 ((rd_T34 l0 x10_1).f1), .int .u64 0, .int .i64 0]) ?_ 2 _ rfl; refine blk_put (cs := #[.int .u64 ((rd_T34 l0 x10_1).f0), .int .u64 0, .int .u64 0, .int .i64 0]) ?_ 1 _ rfl; refine blk_put (cs := #[.int .u64 0, .int .u64 0, .int .u64 0, .int .i64 0]) ?_ 0 _ rfl; (with_reducible repeat (first | refine blk_drewN ?_ _ | refine blk_drew ?_ | refine blk_alloc ?_ _)); exact BK113.out))⟩; have n1_ : Aside0 (Below w.heap.size w w14) := ⟨(by rw [hw]; exact (belN HB))⟩; clear hw; clear BK113; clear HB; have BK113 := n0_; have HB := n1_; clear n0_ n1_))
                      have n0_ := Aside0.mk (blk_drew BK113.out)
                      have n1_ := Aside0.mk (below_drew1 HB.out)
                      clear BK113
                      clear HB
                      have BK113 := n0_
                      have HB := n1_
                      clear n0_ n1_
                      have p114 : 0 ≤ ((ji7) : Int) := of_decide_eq_true (by first | (with_reducible assumption) | assumption)
                      have q114 : (ji7) < (l0.length : Int) := of_decide_eq_true (by first | (with_reducible assumption) | assumption)
                      obtain ⟨ad114, e114, hx114_0, hx114_1, hx114_2, hx114_3⟩ := at_T34 HR0.out (ji7) p114 q114
                      have hw114_3 := hx114_3
                      have hw114_2 := hx114_2
                      have hw114_1 := hx114_1
                      have hw114_0 := hx114_0
                      obtain rfl : ad112 = ad114 := (by injection e114)
                      replace hx114_0 := (HB.out.cell (World.block_lt_of_cell? w _ hx114_0)).trans hx114_0
                      replace hx114_1 := (HB.out.cell (World.block_lt_of_cell? w _ hx114_1)).trans hx114_1
                      replace hx114_2 := (HB.out.cell (World.block_lt_of_cell? w _ hx114_2)).trans hx114_2
                      replace hx114_3 := (HB.out.cell (World.block_lt_of_cell? w _ hx114_3)).trans hx114_3
                      replace p114 := eq_true p114
                      replace q114 := eq_true q114
                      refine start_ (n := 29) (S := fun w' => w'.cell? ⟨gb113, 0, none⟩ = some (.int .u64 ((rd_T34 l0 x10_1).f0)) ∧ w'.cell? ⟨gb113, 1, none⟩ = some (.int .u64 ((rd_T34 l0 x10_1).f1)) ∧ w'.cell? ⟨gb113, 2, none⟩ = some (.int .u64 ((rd_T34 l0 x10_1).f2)) ∧ w'.cell? ⟨gb113, 3, none⟩ = some (.int .i64 ((rd_T34 l0 x10_1).f3)) ∧ w'.cell? (ad112.add (((ji7)).toNat * 4)) = some (.int .u64 ((rd_T34 l0 (ji7)).f0)) ∧ w'.cell? ⟨(ad112.add (((ji7)).toNat * 4)).block, (ad112.add (((ji7)).toNat * 4)).off + 1, none⟩ = some (.int .u64 ((rd_T34 l0 (ji7)).f1)) ∧ w'.cell? ⟨(ad112.add (((ji7)).toNat * 4)).block, (ad112.add (((ji7)).toNat * 4)).off + 2, none⟩ = some (.int .u64 ((rd_T34 l0 (ji7)).f2)) ∧ w'.cell? ⟨(ad112.add (((ji7)).toNat * 4)).block, (ad112.add (((ji7)).toNat * 4)).off + 3, none⟩ = some (.int .i64 ((rd_T34 l0 (ji7)).f3))) (ds := []) #[false, false, false, false, false, false, false, false, false, false, false, false, false, false, false, false, false, false, false, false, false, false, false, false, false, false, false, false, false] (by kernel_rfl) rfl rfl ⟨(blk_cell BK113.out 0).trans rfl, (blk_cell BK113.out 1).trans rfl, (blk_cell BK113.out 2).trans rfl, (blk_cell BK113.out 3).trans rfl, ((HB.out.cell (World.block_lt_of_cell? w _ hw114_0)).trans hw114_0), ((HB.out.cell (World.block_lt_of_cell? w _ hw114_1)).trans hw114_1), ((HB.out.cell (World.block_lt_of_cell? w _ hw114_2)).trans hw114_2), ((HB.out.cell (World.block_lt_of_cell? w _ hw114_3)).trans hw114_3)⟩ (fun hHeld => ?_); refine with_tabW invoice_Check.tab6 invoice_Check.bits6 (fun HT_ HW_ => ?_)
                      generalize w14.drew = w15 at BK113 HB hx114_0 hx114_1 hx114_2 hx114_3 hHeld ⊢
                      refine pureA_ 0 15 (bm 29 1) ?_
                      refine pureA_ 1 16 (bm 29 3) ?_
                      refine pureA_ 2 17 (bm 29 7) ?_
                      refine pureA_ 3 18 (bm 29 15) ?_
                      refine pureA_ 4 19 (bm 29 31) ?_
                      refine pureA_ 5 20 (bm 29 63) ?_
                      refine pureA_ 6 21 (bm 29 127) ?_
                      refine pureA_ 8 23 (bm 29 383) ?_
                      refine take_ (i := 7) (N := some 22) (v := ?_) (a' := ?_) #[true, true, true, true, true, true, true, true, true, false, false, false, false, false, false, false, false, false, false, false, false, false, false, false, false, false, false, false, false] rfl rfl (take_ofW HT_.out HW_.out (by kernel_rfl)) (fun _ _ _ h => h) (Or.inl ⟨by rfl, ?_⟩) hHeld ?_ ?_
                      rotate_left
                      · rintro w' ⟨s0, s1, s2, s3, s4, s5, s6, s7⟩
                        go_simp
                        with_reducible rfl
                      rotate_left
                      · simp only [Act.put, List.setIfInBounds_toArray, List.set_cons_zero, List.set_cons_succ, i64_w, i32_w]
                        rfl
                      refine take_ (i := 9) (N := some 24) (v := ?_) (a' := ?_) #[true, true, true, true, true, true, true, true, true, true, false, false, false, false, false, false, false, false, false, false, false, false, false, false, false, false, false, false, false] rfl rfl (take_ofW HT_.out HW_.out (by kernel_rfl)) (fun _ _ _ h => h) (Or.inl ⟨by rfl, ?_⟩) hHeld ?_ ?_
                      rotate_left
                      · rintro w' ⟨s0, s1, s2, s3, s4, s5, s6, s7⟩
                        go_simp
                        with_reducible rfl
                      rotate_left
                      · simp only [Act.put, List.setIfInBounds_toArray, List.set_cons_zero, List.set_cons_succ, i64_w, i32_w]
                        rfl
                      refine one_ (i := 10) (N := some 25) #[true, true, true, true, true, true, true, true, true, true, true, false, false, false, false, false, false, false, false, false, false, false, false, false, false, false, false, false, false] rfl rfl (one_of HT_.out (by kernel_rfl)) (by decide) (fun K hK => ?_)
                      refine goes_ Try.func35 (by kernel_rfl) rfl #[.agg #[.int .u64 ((rd_T34 l0 (ji7)).f0), .int .u64 ((rd_T34 l0 (ji7)).f1), .int .u64 ((rd_T34 l0 (ji7)).f2), .int .i64 ((rd_T34 l0 (ji7)).f3)], .int .u64 ((rd_T34 l0 x10_1).f0)] (by rfl) rfl rfl (by (try simp only [List.map_toArray, List.map_cons, List.map_nil]); first | done | (simp only [hji7]; rfl) | rfl | (simp only [List.length_drop, List.length_take]; rfl)) ?_
                      with_reducible refine (invoice_order.calls ((rd_T34 l0 (ji7)).f0) ((rd_T34 l0 (ji7)).f1) ((rd_T34 l0 (ji7)).f2) ((rd_T34 l0 (ji7)).f3) ((rd_T34 l0 x10_1).f0) t115 _ A10.out).mono ?_
                      rintro e w16 ⟨rfl, hb⟩
                      refine ⟨_, rfl, ?_⟩
                      have n0_ := Aside0.mk (blk_below (g := gb113) (blkN BK113) hb)
                      have n1_ := Aside0.mk (below_step (belN HB) hb)
                      clear BK113
                      clear HB
                      have BK113 := n0_
                      have HB := n1_
                      clear n0_ n1_
                      (try clear hb)
                      (try clear hb2)
                      (try clear hk)
                      (try clear hi)
                      refine hK.out _ _ ⟨(blk_cell BK113.out 0).trans rfl, (blk_cell BK113.out 1).trans rfl, (blk_cell BK113.out 2).trans rfl, (blk_cell BK113.out 3).trans rfl, ((HB.out.cell (World.block_lt_of_cell? w _ hw114_0)).trans hw114_0), ((HB.out.cell (World.block_lt_of_cell? w _ hw114_1)).trans hw114_1), ((HB.out.cell (World.block_lt_of_cell? w _ hw114_2)).trans hw114_2), ((HB.out.cell (World.block_lt_of_cell? w _ hw114_3)).trans hw114_3)⟩ (fun hHeld => ?_)
                      clear hK K
                      refine norm_ (a' := ?_) ?_ ?_
                      rotate_left
                      · show Act.put _ (some 25) _ = _
                        simp only [Act.put, List.setIfInBounds_toArray, List.set_cons_zero, List.set_cons_succ, i64_w, i32_w]
                        rfl
                      refine pureA_ 11 26 (bm 29 4095) ?_
                      refine pureA_ 12 27 (bm 29 8191) ?_
                      refine pureA_ 13 28 (bm 29 16383) ?_
                      refine pureU_ 14 29 (bm 29 32767) ?_
                      refine pureU_ 15 30 (bm 29 65535) ?_
                      refine pureU_ 16 31 (bm 29 131071) ?_
                      refine pureU_ 17 32 (bm 29 262143) ?_
                      refine pureA_ 18 33 (bm 29 524287) ?_
                      refine pureA_ 19 34 (bm 29 1048575) ?_
                      refine pureU_ 20 35 (bm 29 2097151) ?_
                      refine pureU_ 21 36 (bm 29 4194303) ?_
                      refine pureU_ 22 37 (bm 29 8388607) ?_
                      refine pureA_ 23 38 (bm 29 16777215) ?_
                      refine pureA_ 24 39 (bm 29 33554431) ?_
                      refine pureU_ 25 40 (bm 29 67108863) ?_
                      refine pureU_ 26 41 (bm 29 134217727) ?_
                      refine pureU_ 27 42 (bm 29 268435455) ?_
                      refine pureA_ 28 43 (bm 29 536870911) ?_
                      refine done_ (done_of HT_.out (by kernel_rfl)) ?_
                      try go_wp2
                      go_ret
                      exact ⟨by first | rfl | (simp [errW_none, errW_some] <;> rfl) | (simp only [← hji7]; first | rfl | (simp [errW_none, errW_some] <;> rfl)) | (simp [*, errW_none, errW_some] <;> rfl), by repeat (first | (with_reducible first | exact HB.out | apply below_alloc | apply pw_below_drewN | apply below_drew1 | refine below_set ?_ GE113.out) | exact HB.out)⟩
                    · rw [if_neg c11] at H
                      have c11b0 : decide (0 ≤ t115) = false := decide_eq_false c11
                      clear c11
                      replace H := Option.bind_eq_some_iff.mp H
                      obtain ⟨t116, A170, H⟩ := H
                      replace H : (if t116 = true then (if ((rd_T34 l0 x10_1).f3) < 1 then (some 1) else (if ((rd_T34 l0 x10_1).f3) > 3 then (some 1) else (invoice_Check.l0 k1 l0 l0 (l0.length : Int) (wrap64 (x10_1 + 1))))) else (some 1)) = some r := H
                      have A17 := Aside0.mk A170
                      clear A170
                      by_cases c18 : t116 = true
                      · subst c18
                        have H1 : (if ((rd_T34 l0 x10_1).f3) < 1 then (some 1) else (if ((rd_T34 l0 x10_1).f3) > 3 then (some 1) else (invoice_Check.l0 k1 l0 l0 (l0.length : Int) (wrap64 (x10_1 + 1))))) = some r := by rw [if_pos rfl] at H; exact H
                        clear H
                        have H := H1
                        clear H1
                        by_cases c19 : ((rd_T34 l0 x10_1).f3) < 1
                        · rw [if_pos c19] at H
                          have c19b0 : decide (((rd_T34 l0 x10_1).f3) < 1) = true := decide_eq_true c19
                          clear c19
                          obtain rfl := Option.some.inj H
                          have p112 : 0 ≤ (x10_1 : Int) := of_decide_eq_true (by first | (with_reducible assumption) | assumption)
                          have q112 : x10_1 < (l0.length : Int) := of_decide_eq_true (by first | (with_reducible assumption) | assumption)
                          obtain ⟨ad112, e112, hx112_0, hx112_1, hx112_2, hx112_3⟩ := at_T34 HR0.out x10_1 p112 q112
                          cases e112
                          replace hx112_0 := (HB.out.cell (World.block_lt_of_cell? w _ hx112_0)).trans hx112_0
                          replace hx112_1 := (HB.out.cell (World.block_lt_of_cell? w _ hx112_1)).trans hx112_1
                          replace hx112_2 := (HB.out.cell (World.block_lt_of_cell? w _ hx112_2)).trans hx112_2
                          replace hx112_3 := (HB.out.cell (World.block_lt_of_cell? w _ hx112_3)).trans hx112_3
                          replace p112 := eq_true p112
                          replace q112 := eq_true q112
                          try go_wp2_with (first | ((with_reducible refine gate_dst (N := 4) rfl ?_); refine box_event ?hg (N := 4) ?hd (cs := #[.int .u64 0, .int .u64 0, .int .u64 0, .int .i64 0]) (t := 34) ?hr ?_; (case hd => rfl); (case hg => rfl); (case hr => first | (go_simp; done) | (go_simp; rfl)); intro gb113 hg w20 hbox hb; have n0_ := Aside0.mk (below_step (belN HB) hb); have n1_ := Aside0.mk (hbox); have n2_ := Aside0.mk ((by rw [hg]; exact (below_size (belN HB)) : w.heap.size ≤ gb113)); have n3_ := Aside0.mk ((by rw [hg]; exact (below_size (belN HB)) : w.heap.size ≤ gb113)); clear HB; have HB := n0_; have BK113 := n1_; have GW113 := n2_; have GE113 := n3_; clear n0_ n1_ n2_ n3_; clear hb hbox hg; obtain ⟨hcz21_0, hcz21_1, hcz21_2, hcz21_3, hfz21_0, hfz21_1, hfz21_2, hfz21_3⟩ := cz4_ (w := w20) BK113.out) | ((with_reducible refine gate_store (t := 34) (p := 4) rfl ?_); refine store_event (t := 34) (p := 4) (v := ?vo_w22) (w1 := ((((w20.setCell ⟨gb113, 0, none⟩ (.int .u64 ((rd_T34 l0 x10_1).f0))).setCell ⟨gb113, 1, none⟩ (.int .u64 ((rd_T34 l0 x10_1).f1))).setCell ⟨gb113, 2, none⟩ (.int .u64 ((rd_T34 l0 x10_1).f2))).setCell ⟨gb113, 3, none⟩ (.int .i64 ((rd_T34 l0 x10_1).f3)))) ?hg ?ho ?hn ?hr ?_; (case ho => rfl); (case hg => rfl); (case hn => rfl); (case hr => first | (go_simp; done) | (go_simp; rfl)); intro w22 hw; have n0_ : Aside0 (w22.heap[gb113]? = some (.cells #[.int .u64 ((rd_T34 l0 x10_1).f0), .int .u64 ((rd_T34 l0 x10_1).f1), .int .u64 ((rd_T34 l0 x10_1).f2), .int .i64 ((rd_T34 l0 x10_1).f3)] 34 (0, 0))) := ⟨(by rw [hw]; exact (by (with_reducible repeat (first | refine blk_drewN ?_ _ | refine blk_drew ?_ | refine blk_alloc ?_ _)); refine blk_put (cs := #[.int .u64 ((rd_T34 l0 x10_1).f0), .int .u64 ((rd_T34 l0 x10_1).f1), .int .u64 ((rd_T34 l0 x10_1).f2), .int .i64 0]) ?_ 3 _ rfl; refine blk_put (cs := #[.int .u64 ((rd_T34 l0 x10_1).f0), .int .u64 ((rd_T34 l0 x10_1).f1), .int .u64 0, .int .i64 0]) ?_ 2 _ rfl; refine blk_put (cs := #[.int .u64 ((rd_T34 l0 x10_1).f0), .int .u64 0, .int .u64 0, .int .i64 0]) ?_ 1 _ rfl; refine blk_put (cs := #[.int .u64 0, .int .u64 0, .int .u64 0, .int .i64 0]) ?_ 0 _ rfl; (with_reducible repeat (first | refine blk_drewN ?_ _ | refine blk_drew ?_ | refine blk_alloc ?_ _)); exact BK113.out))⟩; have n1_ : Aside0 (Below w.heap.size w w22) := ⟨(by rw [hw]; exact (belN HB))⟩; clear hw; clear BK113; clear HB; have BK113 := n0_; have HB := n1_; clear n0_ n1_))
                          have n0_ := Aside0.mk (blk_drew BK113.out)
                          have n1_ := Aside0.mk (below_drew1 HB.out)
                          clear BK113
                          clear HB
                          have BK113 := n0_
                          have HB := n1_
                          clear n0_ n1_
                          have p114 : 0 ≤ ((ji7) : Int) := of_decide_eq_true (by first | (with_reducible assumption) | assumption)
                          have q114 : (ji7) < (l0.length : Int) := of_decide_eq_true (by first | (with_reducible assumption) | assumption)
                          obtain ⟨ad114, e114, hx114_0, hx114_1, hx114_2, hx114_3⟩ := at_T34 HR0.out (ji7) p114 q114
                          have hw114_3 := hx114_3
                          have hw114_2 := hx114_2
                          have hw114_1 := hx114_1
                          have hw114_0 := hx114_0
                          obtain rfl : ad112 = ad114 := (by injection e114)
                          replace hx114_0 := (HB.out.cell (World.block_lt_of_cell? w _ hx114_0)).trans hx114_0
                          replace hx114_1 := (HB.out.cell (World.block_lt_of_cell? w _ hx114_1)).trans hx114_1
                          replace hx114_2 := (HB.out.cell (World.block_lt_of_cell? w _ hx114_2)).trans hx114_2
                          replace hx114_3 := (HB.out.cell (World.block_lt_of_cell? w _ hx114_3)).trans hx114_3
                          replace p114 := eq_true p114
                          replace q114 := eq_true q114
                          refine start_ (n := 29) (S := fun w' => w'.cell? ⟨gb113, 0, none⟩ = some (.int .u64 ((rd_T34 l0 x10_1).f0)) ∧ w'.cell? ⟨gb113, 1, none⟩ = some (.int .u64 ((rd_T34 l0 x10_1).f1)) ∧ w'.cell? ⟨gb113, 2, none⟩ = some (.int .u64 ((rd_T34 l0 x10_1).f2)) ∧ w'.cell? ⟨gb113, 3, none⟩ = some (.int .i64 ((rd_T34 l0 x10_1).f3)) ∧ w'.cell? (ad112.add (((ji7)).toNat * 4)) = some (.int .u64 ((rd_T34 l0 (ji7)).f0)) ∧ w'.cell? ⟨(ad112.add (((ji7)).toNat * 4)).block, (ad112.add (((ji7)).toNat * 4)).off + 1, none⟩ = some (.int .u64 ((rd_T34 l0 (ji7)).f1)) ∧ w'.cell? ⟨(ad112.add (((ji7)).toNat * 4)).block, (ad112.add (((ji7)).toNat * 4)).off + 2, none⟩ = some (.int .u64 ((rd_T34 l0 (ji7)).f2)) ∧ w'.cell? ⟨(ad112.add (((ji7)).toNat * 4)).block, (ad112.add (((ji7)).toNat * 4)).off + 3, none⟩ = some (.int .i64 ((rd_T34 l0 (ji7)).f3))) (ds := []) #[false, false, false, false, false, false, false, false, false, false, false, false, false, false, false, false, false, false, false, false, false, false, false, false, false, false, false, false, false] (by kernel_rfl) rfl rfl ⟨(blk_cell BK113.out 0).trans rfl, (blk_cell BK113.out 1).trans rfl, (blk_cell BK113.out 2).trans rfl, (blk_cell BK113.out 3).trans rfl, ((HB.out.cell (World.block_lt_of_cell? w _ hw114_0)).trans hw114_0), ((HB.out.cell (World.block_lt_of_cell? w _ hw114_1)).trans hw114_1), ((HB.out.cell (World.block_lt_of_cell? w _ hw114_2)).trans hw114_2), ((HB.out.cell (World.block_lt_of_cell? w _ hw114_3)).trans hw114_3)⟩ (fun hHeld => ?_); refine with_tabW invoice_Check.tab6 invoice_Check.bits6 (fun HT_ HW_ => ?_)
                          generalize w22.drew = w23 at BK113 HB hx114_0 hx114_1 hx114_2 hx114_3 hHeld ⊢
                          refine pureA_ 0 15 (bm 29 1) ?_
                          refine pureA_ 1 16 (bm 29 3) ?_
                          refine pureA_ 2 17 (bm 29 7) ?_
                          refine pureA_ 3 18 (bm 29 15) ?_
                          refine pureA_ 4 19 (bm 29 31) ?_
                          refine pureA_ 5 20 (bm 29 63) ?_
                          refine pureA_ 6 21 (bm 29 127) ?_
                          refine pureA_ 8 23 (bm 29 383) ?_
                          refine take_ (i := 7) (N := some 22) (v := ?_) (a' := ?_) #[true, true, true, true, true, true, true, true, true, false, false, false, false, false, false, false, false, false, false, false, false, false, false, false, false, false, false, false, false] rfl rfl (take_ofW HT_.out HW_.out (by kernel_rfl)) (fun _ _ _ h => h) (Or.inl ⟨by rfl, ?_⟩) hHeld ?_ ?_
                          rotate_left
                          · rintro w' ⟨s0, s1, s2, s3, s4, s5, s6, s7⟩
                            go_simp
                            with_reducible rfl
                          rotate_left
                          · simp only [Act.put, List.setIfInBounds_toArray, List.set_cons_zero, List.set_cons_succ, i64_w, i32_w]
                            rfl
                          refine take_ (i := 9) (N := some 24) (v := ?_) (a' := ?_) #[true, true, true, true, true, true, true, true, true, true, false, false, false, false, false, false, false, false, false, false, false, false, false, false, false, false, false, false, false] rfl rfl (take_ofW HT_.out HW_.out (by kernel_rfl)) (fun _ _ _ h => h) (Or.inl ⟨by rfl, ?_⟩) hHeld ?_ ?_
                          rotate_left
                          · rintro w' ⟨s0, s1, s2, s3, s4, s5, s6, s7⟩
                            go_simp
                            with_reducible rfl
                          rotate_left
                          · simp only [Act.put, List.setIfInBounds_toArray, List.set_cons_zero, List.set_cons_succ, i64_w, i32_w]
                            rfl
                          refine one_ (i := 10) (N := some 25) #[true, true, true, true, true, true, true, true, true, true, true, false, false, false, false, false, false, false, false, false, false, false, false, false, false, false, false, false, false] rfl rfl (one_of HT_.out (by kernel_rfl)) (by decide) (fun K hK => ?_)
                          refine goes_ Try.func35 (by kernel_rfl) rfl #[.agg #[.int .u64 ((rd_T34 l0 (ji7)).f0), .int .u64 ((rd_T34 l0 (ji7)).f1), .int .u64 ((rd_T34 l0 (ji7)).f2), .int .i64 ((rd_T34 l0 (ji7)).f3)], .int .u64 ((rd_T34 l0 x10_1).f0)] (by rfl) rfl rfl (by (try simp only [List.map_toArray, List.map_cons, List.map_nil]); first | done | (simp only [hji7]; rfl) | rfl | (simp only [List.length_drop, List.length_take]; rfl)) ?_
                          with_reducible refine (invoice_order.calls ((rd_T34 l0 (ji7)).f0) ((rd_T34 l0 (ji7)).f1) ((rd_T34 l0 (ji7)).f2) ((rd_T34 l0 (ji7)).f3) ((rd_T34 l0 x10_1).f0) t115 _ A10.out).mono ?_
                          rintro e w24 ⟨rfl, hb⟩
                          refine ⟨_, rfl, ?_⟩
                          have n0_ := Aside0.mk (blk_below (g := gb113) (blkN BK113) hb)
                          have n1_ := Aside0.mk (below_step (belN HB) hb)
                          clear BK113
                          clear HB
                          have BK113 := n0_
                          have HB := n1_
                          clear n0_ n1_
                          (try clear hb)
                          (try clear hb2)
                          (try clear hk)
                          (try clear hi)
                          refine hK.out _ _ ⟨(blk_cell BK113.out 0).trans rfl, (blk_cell BK113.out 1).trans rfl, (blk_cell BK113.out 2).trans rfl, (blk_cell BK113.out 3).trans rfl, ((HB.out.cell (World.block_lt_of_cell? w _ hw114_0)).trans hw114_0), ((HB.out.cell (World.block_lt_of_cell? w _ hw114_1)).trans hw114_1), ((HB.out.cell (World.block_lt_of_cell? w _ hw114_2)).trans hw114_2), ((HB.out.cell (World.block_lt_of_cell? w _ hw114_3)).trans hw114_3)⟩ (fun hHeld => ?_)
                          clear hK K
                          refine norm_ (a' := ?_) ?_ ?_
                          rotate_left
                          · show Act.put _ (some 25) _ = _
                            simp only [Act.put, List.setIfInBounds_toArray, List.set_cons_zero, List.set_cons_succ, i64_w, i32_w]
                            rfl
                          refine pureA_ 11 26 (bm 29 4095) ?_
                          refine pureA_ 12 27 (bm 29 8191) ?_
                          refine pureA_ 13 28 (bm 29 16383) ?_
                          refine pureA_ 14 29 (bm 29 32767) ?_
                          refine take_ (i := 15) (N := some 30) (v := ?_) (a' := ?_) #[true, true, true, true, true, true, true, true, true, true, true, true, true, true, true, true, false, false, false, false, false, false, false, false, false, false, false, false, false] rfl rfl (take_ofW HT_.out HW_.out (by kernel_rfl)) (fun _ _ _ h => h) (Or.inl ⟨by rfl, ?_⟩) hHeld ?_ ?_
                          rotate_left
                          · rintro w' ⟨s0, s1, s2, s3, s4, s5, s6, s7⟩
                            go_simp
                            with_reducible rfl
                          rotate_left
                          · simp only [Act.put, List.setIfInBounds_toArray, List.set_cons_zero, List.set_cons_succ, i64_w, i32_w]
                            rfl
                          refine one_ (i := 16) (N := some 31) #[true, true, true, true, true, true, true, true, true, true, true, true, true, true, true, true, true, false, false, false, false, false, false, false, false, false, false, false, false] rfl rfl (one_of HT_.out (by kernel_rfl)) (by decide) (fun K hK => ?_)
                          refine goes_ Try.func26 (by kernel_rfl) rfl #[.int .u64 ((rd_T34 l0 x10_1).f1)] (by rfl) rfl rfl (by (try simp only [List.map_toArray, List.map_cons, List.map_nil]); first | done | rfl | (simp only [List.length_drop, List.length_take]; rfl)) ?_
                          with_reducible refine (invoice_bill.calls k1 ((rd_T34 l0 x10_1).f1) true _ A17.out).mono ?_
                          rintro e w25 ⟨rfl, hb⟩
                          refine ⟨_, rfl, ?_⟩
                          have n0_ := Aside0.mk (blk_below (g := gb113) (blkN BK113) hb)
                          have n1_ := Aside0.mk (below_step (belN HB) hb)
                          clear BK113
                          clear HB
                          have BK113 := n0_
                          have HB := n1_
                          clear n0_ n1_
                          (try clear hb)
                          (try clear hb2)
                          (try clear hk)
                          (try clear hi)
                          refine hK.out _ _ ⟨(blk_cell BK113.out 0).trans rfl, (blk_cell BK113.out 1).trans rfl, (blk_cell BK113.out 2).trans rfl, (blk_cell BK113.out 3).trans rfl, ((HB.out.cell (World.block_lt_of_cell? w _ hw114_0)).trans hw114_0), ((HB.out.cell (World.block_lt_of_cell? w _ hw114_1)).trans hw114_1), ((HB.out.cell (World.block_lt_of_cell? w _ hw114_2)).trans hw114_2), ((HB.out.cell (World.block_lt_of_cell? w _ hw114_3)).trans hw114_3)⟩ (fun hHeld => ?_)
                          clear hK K
                          refine norm_ (a' := ?_) ?_ ?_
                          rotate_left
                          · show Act.put _ (some 31) _ = _
                            simp only [Act.put, List.setIfInBounds_toArray, List.set_cons_zero, List.set_cons_succ, i64_w, i32_w]
                            rfl
                          refine pureA_ 17 32 (bm 29 262143) ?_
                          refine pureA_ 18 33 (bm 29 524287) ?_
                          refine pureA_ 19 34 (bm 29 1048575) ?_
                          refine pureA_ 20 35 (bm 29 2097151) ?_
                          refine take_ (i := 21) (N := some 36) (v := ?_) (a' := ?_) #[true, true, true, true, true, true, true, true, true, true, true, true, true, true, true, true, true, true, true, true, true, true, false, false, false, false, false, false, false] rfl rfl (take_ofW HT_.out HW_.out (by kernel_rfl)) (fun _ _ _ h => h) (Or.inl ⟨by rfl, ?_⟩) hHeld ?_ ?_
                          rotate_left
                          · rintro w' ⟨s0, s1, s2, s3, s4, s5, s6, s7⟩
                            go_simp
                            with_reducible rfl
                          rotate_left
                          · simp only [Act.put, List.setIfInBounds_toArray, List.set_cons_zero, List.set_cons_succ, i64_w, i32_w]
                            rfl
                          refine pureA_ 22 37 (bm 29 8388607) ?_
                          refine pureA_ 23 38 (bm 29 16777215) ?_
                          refine pureA_ 24 39 (bm 29 33554431) ?_
                          refine pureU_ 25 40 (bm 29 67108863) ?_
                          refine pureU_ 26 41 (bm 29 134217727) ?_
                          refine pureU_ 27 42 (bm 29 268435455) ?_
                          refine pureA_ 28 43 (bm 29 536870911) ?_
                          refine done_ (done_of HT_.out (by kernel_rfl)) ?_
                          try go_wp2
                          go_ret
                          exact ⟨by first | rfl | (simp [errW_none, errW_some] <;> rfl) | (simp only [← hji7]; first | rfl | (simp [errW_none, errW_some] <;> rfl)) | (simp [*, errW_none, errW_some] <;> rfl), by repeat (first | (with_reducible first | exact HB.out | apply below_alloc | apply pw_below_drewN | apply below_drew1 | refine below_set ?_ GE113.out) | exact HB.out)⟩
                        · rw [if_neg c19] at H
                          have c19b0 : decide (((rd_T34 l0 x10_1).f3) < 1) = false := decide_eq_false c19
                          clear c19
                          by_cases c26 : ((rd_T34 l0 x10_1).f3) > 3
                          · rw [if_pos c26] at H
                            have c26b0 : decide (3 < ((rd_T34 l0 x10_1).f3)) = true := decide_eq_true c26
                            clear c26
                            obtain rfl := Option.some.inj H
                            have p112 : 0 ≤ (x10_1 : Int) := of_decide_eq_true (by first | (with_reducible assumption) | assumption)
                            have q112 : x10_1 < (l0.length : Int) := of_decide_eq_true (by first | (with_reducible assumption) | assumption)
                            obtain ⟨ad112, e112, hx112_0, hx112_1, hx112_2, hx112_3⟩ := at_T34 HR0.out x10_1 p112 q112
                            cases e112
                            replace hx112_0 := (HB.out.cell (World.block_lt_of_cell? w _ hx112_0)).trans hx112_0
                            replace hx112_1 := (HB.out.cell (World.block_lt_of_cell? w _ hx112_1)).trans hx112_1
                            replace hx112_2 := (HB.out.cell (World.block_lt_of_cell? w _ hx112_2)).trans hx112_2
                            replace hx112_3 := (HB.out.cell (World.block_lt_of_cell? w _ hx112_3)).trans hx112_3
                            replace p112 := eq_true p112
                            replace q112 := eq_true q112
                            try go_wp2_with (first | ((with_reducible refine gate_dst (N := 4) rfl ?_); refine box_event ?hg (N := 4) ?hd (cs := #[.int .u64 0, .int .u64 0, .int .u64 0, .int .i64 0]) (t := 34) ?hr ?_; (case hd => rfl); (case hg => rfl); (case hr => first | (go_simp; done) | (go_simp; rfl)); intro gb113 hg w27 hbox hb; have n0_ := Aside0.mk (below_step (belN HB) hb); have n1_ := Aside0.mk (hbox); have n2_ := Aside0.mk ((by rw [hg]; exact (below_size (belN HB)) : w.heap.size ≤ gb113)); have n3_ := Aside0.mk ((by rw [hg]; exact (below_size (belN HB)) : w.heap.size ≤ gb113)); clear HB; have HB := n0_; have BK113 := n1_; have GW113 := n2_; have GE113 := n3_; clear n0_ n1_ n2_ n3_; clear hb hbox hg; obtain ⟨hcz28_0, hcz28_1, hcz28_2, hcz28_3, hfz28_0, hfz28_1, hfz28_2, hfz28_3⟩ := cz4_ (w := w27) BK113.out) | ((with_reducible refine gate_store (t := 34) (p := 4) rfl ?_); refine store_event (t := 34) (p := 4) (v := ?vo_w29) (w1 := ((((w27.setCell ⟨gb113, 0, none⟩ (.int .u64 ((rd_T34 l0 x10_1).f0))).setCell ⟨gb113, 1, none⟩ (.int .u64 ((rd_T34 l0 x10_1).f1))).setCell ⟨gb113, 2, none⟩ (.int .u64 ((rd_T34 l0 x10_1).f2))).setCell ⟨gb113, 3, none⟩ (.int .i64 ((rd_T34 l0 x10_1).f3)))) ?hg ?ho ?hn ?hr ?_; (case ho => rfl); (case hg => rfl); (case hn => rfl); (case hr => first | (go_simp; done) | (go_simp; rfl)); intro w29 hw; have n0_ : Aside0 (w29.heap[gb113]? = some (.cells #[.int .u64 ((rd_T34 l0 x10_1).f0), .int .u64 ((rd_T34 l0 x10_1).f1), .int .u64 ((rd_T34 l0 x10_1).f2), .int .i64 ((rd_T34 l0 x10_1).f3)] 34 (0, 0))) := ⟨(by rw [hw]; exact (by (with_reducible repeat (first | refine blk_drewN ?_ _ | refine blk_drew ?_ | refine blk_alloc ?_ _)); refine blk_put (cs := #[.int .u64 ((rd_T34 l0 x10_1).f0), .int .u64 ((rd_T34 l0 x10_1).f1), .int .u64 ((rd_T34 l0 x10_1).f2), .int .i64 0]) ?_ 3 _ rfl; refine blk_put (cs := #[.int .u64 ((rd_T34 l0 x10_1).f0), .int .u64 ((rd_T34 l0 x10_1).f1), .int .u64 0, .int .i64 0]) ?_ 2 _ rfl; refine blk_put (cs := #[.int .u64 ((rd_T34 l0 x10_1).f0), .int .u64 0, .int .u64 0, .int .i64 0]) ?_ 1 _ rfl; refine blk_put (cs := #[.int .u64 0, .int .u64 0, .int .u64 0, .int .i64 0]) ?_ 0 _ rfl; (with_reducible repeat (first | refine blk_drewN ?_ _ | refine blk_drew ?_ | refine blk_alloc ?_ _)); exact BK113.out))⟩; have n1_ : Aside0 (Below w.heap.size w w29) := ⟨(by rw [hw]; exact (belN HB))⟩; clear hw; clear BK113; clear HB; have BK113 := n0_; have HB := n1_; clear n0_ n1_))
                            have n0_ := Aside0.mk (blk_drew BK113.out)
                            have n1_ := Aside0.mk (below_drew1 HB.out)
                            clear BK113
                            clear HB
                            have BK113 := n0_
                            have HB := n1_
                            clear n0_ n1_
                            have p114 : 0 ≤ ((ji7) : Int) := of_decide_eq_true (by first | (with_reducible assumption) | assumption)
                            have q114 : (ji7) < (l0.length : Int) := of_decide_eq_true (by first | (with_reducible assumption) | assumption)
                            obtain ⟨ad114, e114, hx114_0, hx114_1, hx114_2, hx114_3⟩ := at_T34 HR0.out (ji7) p114 q114
                            have hw114_3 := hx114_3
                            have hw114_2 := hx114_2
                            have hw114_1 := hx114_1
                            have hw114_0 := hx114_0
                            obtain rfl : ad112 = ad114 := (by injection e114)
                            replace hx114_0 := (HB.out.cell (World.block_lt_of_cell? w _ hx114_0)).trans hx114_0
                            replace hx114_1 := (HB.out.cell (World.block_lt_of_cell? w _ hx114_1)).trans hx114_1
                            replace hx114_2 := (HB.out.cell (World.block_lt_of_cell? w _ hx114_2)).trans hx114_2
                            replace hx114_3 := (HB.out.cell (World.block_lt_of_cell? w _ hx114_3)).trans hx114_3
                            replace p114 := eq_true p114
                            replace q114 := eq_true q114
                            refine start_ (n := 29) (S := fun w' => w'.cell? ⟨gb113, 0, none⟩ = some (.int .u64 ((rd_T34 l0 x10_1).f0)) ∧ w'.cell? ⟨gb113, 1, none⟩ = some (.int .u64 ((rd_T34 l0 x10_1).f1)) ∧ w'.cell? ⟨gb113, 2, none⟩ = some (.int .u64 ((rd_T34 l0 x10_1).f2)) ∧ w'.cell? ⟨gb113, 3, none⟩ = some (.int .i64 ((rd_T34 l0 x10_1).f3)) ∧ w'.cell? (ad112.add (((ji7)).toNat * 4)) = some (.int .u64 ((rd_T34 l0 (ji7)).f0)) ∧ w'.cell? ⟨(ad112.add (((ji7)).toNat * 4)).block, (ad112.add (((ji7)).toNat * 4)).off + 1, none⟩ = some (.int .u64 ((rd_T34 l0 (ji7)).f1)) ∧ w'.cell? ⟨(ad112.add (((ji7)).toNat * 4)).block, (ad112.add (((ji7)).toNat * 4)).off + 2, none⟩ = some (.int .u64 ((rd_T34 l0 (ji7)).f2)) ∧ w'.cell? ⟨(ad112.add (((ji7)).toNat * 4)).block, (ad112.add (((ji7)).toNat * 4)).off + 3, none⟩ = some (.int .i64 ((rd_T34 l0 (ji7)).f3))) (ds := []) #[false, false, false, false, false, false, false, false, false, false, false, false, false, false, false, false, false, false, false, false, false, false, false, false, false, false, false, false, false] (by kernel_rfl) rfl rfl ⟨(blk_cell BK113.out 0).trans rfl, (blk_cell BK113.out 1).trans rfl, (blk_cell BK113.out 2).trans rfl, (blk_cell BK113.out 3).trans rfl, ((HB.out.cell (World.block_lt_of_cell? w _ hw114_0)).trans hw114_0), ((HB.out.cell (World.block_lt_of_cell? w _ hw114_1)).trans hw114_1), ((HB.out.cell (World.block_lt_of_cell? w _ hw114_2)).trans hw114_2), ((HB.out.cell (World.block_lt_of_cell? w _ hw114_3)).trans hw114_3)⟩ (fun hHeld => ?_); refine with_tabW invoice_Check.tab6 invoice_Check.bits6 (fun HT_ HW_ => ?_)
                            generalize w29.drew = w30 at BK113 HB hx114_0 hx114_1 hx114_2 hx114_3 hHeld ⊢
                            refine pureA_ 0 15 (bm 29 1) ?_
                            refine pureA_ 1 16 (bm 29 3) ?_
                            refine pureA_ 2 17 (bm 29 7) ?_
                            refine pureA_ 3 18 (bm 29 15) ?_
                            refine pureA_ 4 19 (bm 29 31) ?_
                            refine pureA_ 5 20 (bm 29 63) ?_
                            refine pureA_ 6 21 (bm 29 127) ?_
                            refine pureA_ 8 23 (bm 29 383) ?_
                            refine take_ (i := 7) (N := some 22) (v := ?_) (a' := ?_) #[true, true, true, true, true, true, true, true, true, false, false, false, false, false, false, false, false, false, false, false, false, false, false, false, false, false, false, false, false] rfl rfl (take_ofW HT_.out HW_.out (by kernel_rfl)) (fun _ _ _ h => h) (Or.inl ⟨by rfl, ?_⟩) hHeld ?_ ?_
                            rotate_left
                            · rintro w' ⟨s0, s1, s2, s3, s4, s5, s6, s7⟩
                              go_simp
                              with_reducible rfl
                            rotate_left
                            · simp only [Act.put, List.setIfInBounds_toArray, List.set_cons_zero, List.set_cons_succ, i64_w, i32_w]
                              rfl
                            refine take_ (i := 9) (N := some 24) (v := ?_) (a' := ?_) #[true, true, true, true, true, true, true, true, true, true, false, false, false, false, false, false, false, false, false, false, false, false, false, false, false, false, false, false, false] rfl rfl (take_ofW HT_.out HW_.out (by kernel_rfl)) (fun _ _ _ h => h) (Or.inl ⟨by rfl, ?_⟩) hHeld ?_ ?_
                            rotate_left
                            · rintro w' ⟨s0, s1, s2, s3, s4, s5, s6, s7⟩
                              go_simp
                              with_reducible rfl
                            rotate_left
                            · simp only [Act.put, List.setIfInBounds_toArray, List.set_cons_zero, List.set_cons_succ, i64_w, i32_w]
                              rfl
                            refine one_ (i := 10) (N := some 25) #[true, true, true, true, true, true, true, true, true, true, true, false, false, false, false, false, false, false, false, false, false, false, false, false, false, false, false, false, false] rfl rfl (one_of HT_.out (by kernel_rfl)) (by decide) (fun K hK => ?_)
                            refine goes_ Try.func35 (by kernel_rfl) rfl #[.agg #[.int .u64 ((rd_T34 l0 (ji7)).f0), .int .u64 ((rd_T34 l0 (ji7)).f1), .int .u64 ((rd_T34 l0 (ji7)).f2), .int .i64 ((rd_T34 l0 (ji7)).f3)], .int .u64 ((rd_T34 l0 x10_1).f0)] (by rfl) rfl rfl (by (try simp only [List.map_toArray, List.map_cons, List.map_nil]); first | done | (simp only [hji7]; rfl) | rfl | (simp only [List.length_drop, List.length_take]; rfl)) ?_
                            with_reducible refine (invoice_order.calls ((rd_T34 l0 (ji7)).f0) ((rd_T34 l0 (ji7)).f1) ((rd_T34 l0 (ji7)).f2) ((rd_T34 l0 (ji7)).f3) ((rd_T34 l0 x10_1).f0) t115 _ A10.out).mono ?_
                            rintro e w31 ⟨rfl, hb⟩
                            refine ⟨_, rfl, ?_⟩
                            have n0_ := Aside0.mk (blk_below (g := gb113) (blkN BK113) hb)
                            have n1_ := Aside0.mk (below_step (belN HB) hb)
                            clear BK113
                            clear HB
                            have BK113 := n0_
                            have HB := n1_
                            clear n0_ n1_
                            (try clear hb)
                            (try clear hb2)
                            (try clear hk)
                            (try clear hi)
                            refine hK.out _ _ ⟨(blk_cell BK113.out 0).trans rfl, (blk_cell BK113.out 1).trans rfl, (blk_cell BK113.out 2).trans rfl, (blk_cell BK113.out 3).trans rfl, ((HB.out.cell (World.block_lt_of_cell? w _ hw114_0)).trans hw114_0), ((HB.out.cell (World.block_lt_of_cell? w _ hw114_1)).trans hw114_1), ((HB.out.cell (World.block_lt_of_cell? w _ hw114_2)).trans hw114_2), ((HB.out.cell (World.block_lt_of_cell? w _ hw114_3)).trans hw114_3)⟩ (fun hHeld => ?_)
                            clear hK K
                            refine norm_ (a' := ?_) ?_ ?_
                            rotate_left
                            · show Act.put _ (some 25) _ = _
                              simp only [Act.put, List.setIfInBounds_toArray, List.set_cons_zero, List.set_cons_succ, i64_w, i32_w]
                              rfl
                            refine pureA_ 11 26 (bm 29 4095) ?_
                            refine pureA_ 12 27 (bm 29 8191) ?_
                            refine pureA_ 13 28 (bm 29 16383) ?_
                            refine pureA_ 14 29 (bm 29 32767) ?_
                            refine take_ (i := 15) (N := some 30) (v := ?_) (a' := ?_) #[true, true, true, true, true, true, true, true, true, true, true, true, true, true, true, true, false, false, false, false, false, false, false, false, false, false, false, false, false] rfl rfl (take_ofW HT_.out HW_.out (by kernel_rfl)) (fun _ _ _ h => h) (Or.inl ⟨by rfl, ?_⟩) hHeld ?_ ?_
                            rotate_left
                            · rintro w' ⟨s0, s1, s2, s3, s4, s5, s6, s7⟩
                              go_simp
                              with_reducible rfl
                            rotate_left
                            · simp only [Act.put, List.setIfInBounds_toArray, List.set_cons_zero, List.set_cons_succ, i64_w, i32_w]
                              rfl
                            refine one_ (i := 16) (N := some 31) #[true, true, true, true, true, true, true, true, true, true, true, true, true, true, true, true, true, false, false, false, false, false, false, false, false, false, false, false, false] rfl rfl (one_of HT_.out (by kernel_rfl)) (by decide) (fun K hK => ?_)
                            refine goes_ Try.func26 (by kernel_rfl) rfl #[.int .u64 ((rd_T34 l0 x10_1).f1)] (by rfl) rfl rfl (by (try simp only [List.map_toArray, List.map_cons, List.map_nil]); first | done | rfl | (simp only [List.length_drop, List.length_take]; rfl)) ?_
                            with_reducible refine (invoice_bill.calls k1 ((rd_T34 l0 x10_1).f1) true _ A17.out).mono ?_
                            rintro e w32 ⟨rfl, hb⟩
                            refine ⟨_, rfl, ?_⟩
                            have n0_ := Aside0.mk (blk_below (g := gb113) (blkN BK113) hb)
                            have n1_ := Aside0.mk (below_step (belN HB) hb)
                            clear BK113
                            clear HB
                            have BK113 := n0_
                            have HB := n1_
                            clear n0_ n1_
                            (try clear hb)
                            (try clear hb2)
                            (try clear hk)
                            (try clear hi)
                            refine hK.out _ _ ⟨(blk_cell BK113.out 0).trans rfl, (blk_cell BK113.out 1).trans rfl, (blk_cell BK113.out 2).trans rfl, (blk_cell BK113.out 3).trans rfl, ((HB.out.cell (World.block_lt_of_cell? w _ hw114_0)).trans hw114_0), ((HB.out.cell (World.block_lt_of_cell? w _ hw114_1)).trans hw114_1), ((HB.out.cell (World.block_lt_of_cell? w _ hw114_2)).trans hw114_2), ((HB.out.cell (World.block_lt_of_cell? w _ hw114_3)).trans hw114_3)⟩ (fun hHeld => ?_)
                            clear hK K
                            refine norm_ (a' := ?_) ?_ ?_
                            rotate_left
                            · show Act.put _ (some 31) _ = _
                              simp only [Act.put, List.setIfInBounds_toArray, List.set_cons_zero, List.set_cons_succ, i64_w, i32_w]
                              rfl
                            refine pureA_ 17 32 (bm 29 262143) ?_
                            refine pureA_ 18 33 (bm 29 524287) ?_
                            refine pureA_ 19 34 (bm 29 1048575) ?_
                            refine pureA_ 20 35 (bm 29 2097151) ?_
                            refine take_ (i := 21) (N := some 36) (v := ?_) (a' := ?_) #[true, true, true, true, true, true, true, true, true, true, true, true, true, true, true, true, true, true, true, true, true, true, false, false, false, false, false, false, false] rfl rfl (take_ofW HT_.out HW_.out (by kernel_rfl)) (fun _ _ _ h => h) (Or.inl ⟨by rfl, ?_⟩) hHeld ?_ ?_
                            rotate_left
                            · rintro w' ⟨s0, s1, s2, s3, s4, s5, s6, s7⟩
                              go_simp
                              with_reducible rfl
                            rotate_left
                            · simp only [Act.put, List.setIfInBounds_toArray, List.set_cons_zero, List.set_cons_succ, i64_w, i32_w]
                              rfl
                            refine pureA_ 22 37 (bm 29 8388607) ?_
                            refine pureA_ 23 38 (bm 29 16777215) ?_
                            refine pureA_ 24 39 (bm 29 33554431) ?_
                            refine pureA_ 25 40 (bm 29 67108863) ?_
                            refine take_ (i := 26) (N := some 41) (v := ?_) (a' := ?_) #[true, true, true, true, true, true, true, true, true, true, true, true, true, true, true, true, true, true, true, true, true, true, true, true, true, true, true, false, false] rfl rfl (take_ofW HT_.out HW_.out (by kernel_rfl)) (fun _ _ _ h => h) (Or.inl ⟨by rfl, ?_⟩) hHeld ?_ ?_
                            rotate_left
                            · rintro w' ⟨s0, s1, s2, s3, s4, s5, s6, s7⟩
                              go_simp
                              with_reducible rfl
                            rotate_left
                            · simp only [Act.put, List.setIfInBounds_toArray, List.set_cons_zero, List.set_cons_succ, i64_w, i32_w]
                              rfl
                            refine pureA_ 27 42 (bm 29 268435455) ?_
                            refine pureA_ 28 43 (bm 29 536870911) ?_
                            refine done_ (done_of HT_.out (by kernel_rfl)) ?_
                            try go_wp2
                            go_ret
                            exact ⟨by first | rfl | (simp [errW_none, errW_some] <;> rfl) | (simp only [← hji7]; first | rfl | (simp [errW_none, errW_some] <;> rfl)) | (simp [*, errW_none, errW_some] <;> rfl), by repeat (first | (with_reducible first | exact HB.out | apply below_alloc | apply pw_below_drewN | apply below_drew1 | refine below_set ?_ GE113.out) | exact HB.out)⟩
                          · rw [if_neg c26] at H
                            have c26b0 : decide (3 < ((rd_T34 l0 x10_1).f3)) = false := decide_eq_false c26
                            clear c26
                            have H' := Aside0.mk H
                            clear H
                            have p112 : 0 ≤ (x10_1 : Int) := of_decide_eq_true (by first | (with_reducible assumption) | assumption)
                            have q112 : x10_1 < (l0.length : Int) := of_decide_eq_true (by first | (with_reducible assumption) | assumption)
                            obtain ⟨ad112, e112, hx112_0, hx112_1, hx112_2, hx112_3⟩ := at_T34 HR0.out x10_1 p112 q112
                            cases e112
                            replace hx112_0 := (HB.out.cell (World.block_lt_of_cell? w _ hx112_0)).trans hx112_0
                            replace hx112_1 := (HB.out.cell (World.block_lt_of_cell? w _ hx112_1)).trans hx112_1
                            replace hx112_2 := (HB.out.cell (World.block_lt_of_cell? w _ hx112_2)).trans hx112_2
                            replace hx112_3 := (HB.out.cell (World.block_lt_of_cell? w _ hx112_3)).trans hx112_3
                            replace p112 := eq_true p112
                            replace q112 := eq_true q112
                            try go_wp2_with (first | ((with_reducible refine gate_dst (N := 4) rfl ?_); refine box_event ?hg (N := 4) ?hd (cs := #[.int .u64 0, .int .u64 0, .int .u64 0, .int .i64 0]) (t := 34) ?hr ?_; (case hd => rfl); (case hg => rfl); (case hr => first | (go_simp; done) | (go_simp; rfl)); intro gb113 hg w33 hbox hb; have n0_ := Aside0.mk (below_step (belN HB) hb); have n1_ := Aside0.mk (hbox); have n2_ := Aside0.mk ((by rw [hg]; exact (below_size (belN HB)) : w.heap.size ≤ gb113)); have n3_ := Aside0.mk ((by rw [hg]; exact (below_size (belN HB)) : w.heap.size ≤ gb113)); clear HB; have HB := n0_; have BK113 := n1_; have GW113 := n2_; have GE113 := n3_; clear n0_ n1_ n2_ n3_; clear hb hbox hg; obtain ⟨hcz34_0, hcz34_1, hcz34_2, hcz34_3, hfz34_0, hfz34_1, hfz34_2, hfz34_3⟩ := cz4_ (w := w33) BK113.out) | ((with_reducible refine gate_store (t := 34) (p := 4) rfl ?_); refine store_event (t := 34) (p := 4) (v := ?vo_w35) (w1 := ((((w33.setCell ⟨gb113, 0, none⟩ (.int .u64 ((rd_T34 l0 x10_1).f0))).setCell ⟨gb113, 1, none⟩ (.int .u64 ((rd_T34 l0 x10_1).f1))).setCell ⟨gb113, 2, none⟩ (.int .u64 ((rd_T34 l0 x10_1).f2))).setCell ⟨gb113, 3, none⟩ (.int .i64 ((rd_T34 l0 x10_1).f3)))) ?hg ?ho ?hn ?hr ?_; (case ho => rfl); (case hg => rfl); (case hn => rfl); (case hr => first | (go_simp; done) | (go_simp; rfl)); intro w35 hw; have n0_ : Aside0 (w35.heap[gb113]? = some (.cells #[.int .u64 ((rd_T34 l0 x10_1).f0), .int .u64 ((rd_T34 l0 x10_1).f1), .int .u64 ((rd_T34 l0 x10_1).f2), .int .i64 ((rd_T34 l0 x10_1).f3)] 34 (0, 0))) := ⟨(by rw [hw]; exact (by (with_reducible repeat (first | refine blk_drewN ?_ _ | refine blk_drew ?_ | refine blk_alloc ?_ _)); refine blk_put (cs := #[.int .u64 ((rd_T34 l0 x10_1).f0), .int .u64 ((rd_T34 l0 x10_1).f1), .int .u64 ((rd_T34 l0 x10_1).f2), .int .i64 0]) ?_ 3 _ rfl; refine blk_put (cs := #[.int .u64 ((rd_T34 l0 x10_1).f0), .int .u64 ((rd_T34 l0 x10_1).f1), .int .u64 0, .int .i64 0]) ?_ 2 _ rfl; refine blk_put (cs := #[.int .u64 ((rd_T34 l0 x10_1).f0), .int .u64 0, .int .u64 0, .int .i64 0]) ?_ 1 _ rfl; refine blk_put (cs := #[.int .u64 0, .int .u64 0, .int .u64 0, .int .i64 0]) ?_ 0 _ rfl; (with_reducible repeat (first | refine blk_drewN ?_ _ | refine blk_drew ?_ | refine blk_alloc ?_ _)); exact BK113.out))⟩; have n1_ : Aside0 (Below w.heap.size w w35) := ⟨(by rw [hw]; exact (belN HB))⟩; clear hw; clear BK113; clear HB; have BK113 := n0_; have HB := n1_; clear n0_ n1_))
                            have n0_ := Aside0.mk (blk_drew BK113.out)
                            have n1_ := Aside0.mk (below_drew1 HB.out)
                            clear BK113
                            clear HB
                            have BK113 := n0_
                            have HB := n1_
                            clear n0_ n1_
                            have p114 : 0 ≤ ((ji7) : Int) := of_decide_eq_true (by first | (with_reducible assumption) | assumption)
                            have q114 : (ji7) < (l0.length : Int) := of_decide_eq_true (by first | (with_reducible assumption) | assumption)
                            obtain ⟨ad114, e114, hx114_0, hx114_1, hx114_2, hx114_3⟩ := at_T34 HR0.out (ji7) p114 q114
                            have hw114_3 := hx114_3
                            have hw114_2 := hx114_2
                            have hw114_1 := hx114_1
                            have hw114_0 := hx114_0
                            obtain rfl : ad112 = ad114 := (by injection e114)
                            replace hx114_0 := (HB.out.cell (World.block_lt_of_cell? w _ hx114_0)).trans hx114_0
                            replace hx114_1 := (HB.out.cell (World.block_lt_of_cell? w _ hx114_1)).trans hx114_1
                            replace hx114_2 := (HB.out.cell (World.block_lt_of_cell? w _ hx114_2)).trans hx114_2
                            replace hx114_3 := (HB.out.cell (World.block_lt_of_cell? w _ hx114_3)).trans hx114_3
                            replace p114 := eq_true p114
                            replace q114 := eq_true q114
                            refine start_ (n := 29) (S := fun w' => w'.cell? ⟨gb113, 0, none⟩ = some (.int .u64 ((rd_T34 l0 x10_1).f0)) ∧ w'.cell? ⟨gb113, 1, none⟩ = some (.int .u64 ((rd_T34 l0 x10_1).f1)) ∧ w'.cell? ⟨gb113, 2, none⟩ = some (.int .u64 ((rd_T34 l0 x10_1).f2)) ∧ w'.cell? ⟨gb113, 3, none⟩ = some (.int .i64 ((rd_T34 l0 x10_1).f3)) ∧ w'.cell? (ad112.add (((ji7)).toNat * 4)) = some (.int .u64 ((rd_T34 l0 (ji7)).f0)) ∧ w'.cell? ⟨(ad112.add (((ji7)).toNat * 4)).block, (ad112.add (((ji7)).toNat * 4)).off + 1, none⟩ = some (.int .u64 ((rd_T34 l0 (ji7)).f1)) ∧ w'.cell? ⟨(ad112.add (((ji7)).toNat * 4)).block, (ad112.add (((ji7)).toNat * 4)).off + 2, none⟩ = some (.int .u64 ((rd_T34 l0 (ji7)).f2)) ∧ w'.cell? ⟨(ad112.add (((ji7)).toNat * 4)).block, (ad112.add (((ji7)).toNat * 4)).off + 3, none⟩ = some (.int .i64 ((rd_T34 l0 (ji7)).f3))) (ds := []) #[false, false, false, false, false, false, false, false, false, false, false, false, false, false, false, false, false, false, false, false, false, false, false, false, false, false, false, false, false] (by kernel_rfl) rfl rfl ⟨(blk_cell BK113.out 0).trans rfl, (blk_cell BK113.out 1).trans rfl, (blk_cell BK113.out 2).trans rfl, (blk_cell BK113.out 3).trans rfl, ((HB.out.cell (World.block_lt_of_cell? w _ hw114_0)).trans hw114_0), ((HB.out.cell (World.block_lt_of_cell? w _ hw114_1)).trans hw114_1), ((HB.out.cell (World.block_lt_of_cell? w _ hw114_2)).trans hw114_2), ((HB.out.cell (World.block_lt_of_cell? w _ hw114_3)).trans hw114_3)⟩ (fun hHeld => ?_); refine with_tabW invoice_Check.tab6 invoice_Check.bits6 (fun HT_ HW_ => ?_)
                            generalize w35.drew = w36 at BK113 HB hx114_0 hx114_1 hx114_2 hx114_3 hHeld ⊢
                            refine pureA_ 0 15 (bm 29 1) ?_
                            refine pureA_ 1 16 (bm 29 3) ?_
                            refine pureA_ 2 17 (bm 29 7) ?_
                            refine pureA_ 3 18 (bm 29 15) ?_
                            refine pureA_ 4 19 (bm 29 31) ?_
                            refine pureA_ 5 20 (bm 29 63) ?_
                            refine pureA_ 6 21 (bm 29 127) ?_
                            refine pureA_ 8 23 (bm 29 383) ?_
                            refine take_ (i := 7) (N := some 22) (v := ?_) (a' := ?_) #[true, true, true, true, true, true, true, true, true, false, false, false, false, false, false, false, false, false, false, false, false, false, false, false, false, false, false, false, false] rfl rfl (take_ofW HT_.out HW_.out (by kernel_rfl)) (fun _ _ _ h => h) (Or.inl ⟨by rfl, ?_⟩) hHeld ?_ ?_
                            rotate_left
                            · rintro w' ⟨s0, s1, s2, s3, s4, s5, s6, s7⟩
                              go_simp
                              with_reducible rfl
                            rotate_left
                            · simp only [Act.put, List.setIfInBounds_toArray, List.set_cons_zero, List.set_cons_succ, i64_w, i32_w]
                              rfl
                            refine take_ (i := 9) (N := some 24) (v := ?_) (a' := ?_) #[true, true, true, true, true, true, true, true, true, true, false, false, false, false, false, false, false, false, false, false, false, false, false, false, false, false, false, false, false] rfl rfl (take_ofW HT_.out HW_.out (by kernel_rfl)) (fun _ _ _ h => h) (Or.inl ⟨by rfl, ?_⟩) hHeld ?_ ?_
                            rotate_left
                            · rintro w' ⟨s0, s1, s2, s3, s4, s5, s6, s7⟩
                              go_simp
                              with_reducible rfl
                            rotate_left
                            · simp only [Act.put, List.setIfInBounds_toArray, List.set_cons_zero, List.set_cons_succ, i64_w, i32_w]
                              rfl
                            refine one_ (i := 10) (N := some 25) #[true, true, true, true, true, true, true, true, true, true, true, false, false, false, false, false, false, false, false, false, false, false, false, false, false, false, false, false, false] rfl rfl (one_of HT_.out (by kernel_rfl)) (by decide) (fun K hK => ?_)
                            refine goes_ Try.func35 (by kernel_rfl) rfl #[.agg #[.int .u64 ((rd_T34 l0 (ji7)).f0), .int .u64 ((rd_T34 l0 (ji7)).f1), .int .u64 ((rd_T34 l0 (ji7)).f2), .int .i64 ((rd_T34 l0 (ji7)).f3)], .int .u64 ((rd_T34 l0 x10_1).f0)] (by rfl) rfl rfl (by (try simp only [List.map_toArray, List.map_cons, List.map_nil]); first | done | (simp only [hji7]; rfl) | rfl | (simp only [List.length_drop, List.length_take]; rfl)) ?_
                            with_reducible refine (invoice_order.calls ((rd_T34 l0 (ji7)).f0) ((rd_T34 l0 (ji7)).f1) ((rd_T34 l0 (ji7)).f2) ((rd_T34 l0 (ji7)).f3) ((rd_T34 l0 x10_1).f0) t115 _ A10.out).mono ?_
                            rintro e w37 ⟨rfl, hb⟩
                            refine ⟨_, rfl, ?_⟩
                            have n0_ := Aside0.mk (blk_below (g := gb113) (blkN BK113) hb)
                            have n1_ := Aside0.mk (below_step (belN HB) hb)
                            clear BK113
                            clear HB
                            have BK113 := n0_
                            have HB := n1_
                            clear n0_ n1_
                            (try clear hb)
                            (try clear hb2)
                            (try clear hk)
                            (try clear hi)
                            refine hK.out _ _ ⟨(blk_cell BK113.out 0).trans rfl, (blk_cell BK113.out 1).trans rfl, (blk_cell BK113.out 2).trans rfl, (blk_cell BK113.out 3).trans rfl, ((HB.out.cell (World.block_lt_of_cell? w _ hw114_0)).trans hw114_0), ((HB.out.cell (World.block_lt_of_cell? w _ hw114_1)).trans hw114_1), ((HB.out.cell (World.block_lt_of_cell? w _ hw114_2)).trans hw114_2), ((HB.out.cell (World.block_lt_of_cell? w _ hw114_3)).trans hw114_3)⟩ (fun hHeld => ?_)
                            clear hK K
                            refine norm_ (a' := ?_) ?_ ?_
                            rotate_left
                            · show Act.put _ (some 25) _ = _
                              simp only [Act.put, List.setIfInBounds_toArray, List.set_cons_zero, List.set_cons_succ, i64_w, i32_w]
                              rfl
                            refine pureA_ 11 26 (bm 29 4095) ?_
                            refine pureA_ 12 27 (bm 29 8191) ?_
                            refine pureA_ 13 28 (bm 29 16383) ?_
                            refine pureA_ 14 29 (bm 29 32767) ?_
                            refine take_ (i := 15) (N := some 30) (v := ?_) (a' := ?_) #[true, true, true, true, true, true, true, true, true, true, true, true, true, true, true, true, false, false, false, false, false, false, false, false, false, false, false, false, false] rfl rfl (take_ofW HT_.out HW_.out (by kernel_rfl)) (fun _ _ _ h => h) (Or.inl ⟨by rfl, ?_⟩) hHeld ?_ ?_
                            rotate_left
                            · rintro w' ⟨s0, s1, s2, s3, s4, s5, s6, s7⟩
                              go_simp
                              with_reducible rfl
                            rotate_left
                            · simp only [Act.put, List.setIfInBounds_toArray, List.set_cons_zero, List.set_cons_succ, i64_w, i32_w]
                              rfl
                            refine one_ (i := 16) (N := some 31) #[true, true, true, true, true, true, true, true, true, true, true, true, true, true, true, true, true, false, false, false, false, false, false, false, false, false, false, false, false] rfl rfl (one_of HT_.out (by kernel_rfl)) (by decide) (fun K hK => ?_)
                            refine goes_ Try.func26 (by kernel_rfl) rfl #[.int .u64 ((rd_T34 l0 x10_1).f1)] (by rfl) rfl rfl (by (try simp only [List.map_toArray, List.map_cons, List.map_nil]); first | done | rfl | (simp only [List.length_drop, List.length_take]; rfl)) ?_
                            with_reducible refine (invoice_bill.calls k1 ((rd_T34 l0 x10_1).f1) true _ A17.out).mono ?_
                            rintro e w38 ⟨rfl, hb⟩
                            refine ⟨_, rfl, ?_⟩
                            have n0_ := Aside0.mk (blk_below (g := gb113) (blkN BK113) hb)
                            have n1_ := Aside0.mk (below_step (belN HB) hb)
                            clear BK113
                            clear HB
                            have BK113 := n0_
                            have HB := n1_
                            clear n0_ n1_
                            (try clear hb)
                            (try clear hb2)
                            (try clear hk)
                            (try clear hi)
                            refine hK.out _ _ ⟨(blk_cell BK113.out 0).trans rfl, (blk_cell BK113.out 1).trans rfl, (blk_cell BK113.out 2).trans rfl, (blk_cell BK113.out 3).trans rfl, ((HB.out.cell (World.block_lt_of_cell? w _ hw114_0)).trans hw114_0), ((HB.out.cell (World.block_lt_of_cell? w _ hw114_1)).trans hw114_1), ((HB.out.cell (World.block_lt_of_cell? w _ hw114_2)).trans hw114_2), ((HB.out.cell (World.block_lt_of_cell? w _ hw114_3)).trans hw114_3)⟩ (fun hHeld => ?_)
                            clear hK K
                            refine norm_ (a' := ?_) ?_ ?_
                            rotate_left
                            · show Act.put _ (some 31) _ = _
                              simp only [Act.put, List.setIfInBounds_toArray, List.set_cons_zero, List.set_cons_succ, i64_w, i32_w]
                              rfl
                            refine pureA_ 17 32 (bm 29 262143) ?_
                            refine pureA_ 18 33 (bm 29 524287) ?_
                            refine pureA_ 19 34 (bm 29 1048575) ?_
                            refine pureA_ 20 35 (bm 29 2097151) ?_
                            refine take_ (i := 21) (N := some 36) (v := ?_) (a' := ?_) #[true, true, true, true, true, true, true, true, true, true, true, true, true, true, true, true, true, true, true, true, true, true, false, false, false, false, false, false, false] rfl rfl (take_ofW HT_.out HW_.out (by kernel_rfl)) (fun _ _ _ h => h) (Or.inl ⟨by rfl, ?_⟩) hHeld ?_ ?_
                            rotate_left
                            · rintro w' ⟨s0, s1, s2, s3, s4, s5, s6, s7⟩
                              go_simp
                              with_reducible rfl
                            rotate_left
                            · simp only [Act.put, List.setIfInBounds_toArray, List.set_cons_zero, List.set_cons_succ, i64_w, i32_w]
                              rfl
                            refine pureA_ 22 37 (bm 29 8388607) ?_
                            refine pureA_ 23 38 (bm 29 16777215) ?_
                            refine pureA_ 24 39 (bm 29 33554431) ?_
                            refine pureA_ 25 40 (bm 29 67108863) ?_
                            refine take_ (i := 26) (N := some 41) (v := ?_) (a' := ?_) #[true, true, true, true, true, true, true, true, true, true, true, true, true, true, true, true, true, true, true, true, true, true, true, true, true, true, true, false, false] rfl rfl (take_ofW HT_.out HW_.out (by kernel_rfl)) (fun _ _ _ h => h) (Or.inl ⟨by rfl, ?_⟩) hHeld ?_ ?_
                            rotate_left
                            · rintro w' ⟨s0, s1, s2, s3, s4, s5, s6, s7⟩
                              go_simp
                              with_reducible rfl
                            rotate_left
                            · simp only [Act.put, List.setIfInBounds_toArray, List.set_cons_zero, List.set_cons_succ, i64_w, i32_w]
                              rfl
                            refine pureA_ 27 42 (bm 29 268435455) ?_
                            refine pureA_ 28 43 (bm 29 536870911) ?_
                            refine done_ (done_of HT_.out (by kernel_rfl)) ?_
                            try go_wp2
                            go_roundg k1
                            case measure => have := HK1.out; omega
                            case rel => exact ⟨(wrap64 (x10_1 + 1)), (by first | rfl | (simp; done) | (simp [*]; done)), H', ⟨by have := HK1.out; omega⟩, ⟨by repeat (first | (with_reducible first | exact HB.out | apply below_alloc | apply pw_below_drewN | apply below_drew1 | refine below_set ?_ GE113.out) | exact HB.out)⟩⟩
                      · replace c18 := Bool.eq_false_iff.mpr c18
                        subst c18
                        have H1 : (some 1) = some r := by rw [if_neg (show ¬ (false = true) by decide)] at H; exact H
                        clear H
                        have H := H1
                        clear H1
                        obtain rfl := Option.some.inj H
                        have p112 : 0 ≤ (x10_1 : Int) := of_decide_eq_true (by first | (with_reducible assumption) | assumption)
                        have q112 : x10_1 < (l0.length : Int) := of_decide_eq_true (by first | (with_reducible assumption) | assumption)
                        obtain ⟨ad112, e112, hx112_0, hx112_1, hx112_2, hx112_3⟩ := at_T34 HR0.out x10_1 p112 q112
                        cases e112
                        replace hx112_0 := (HB.out.cell (World.block_lt_of_cell? w _ hx112_0)).trans hx112_0
                        replace hx112_1 := (HB.out.cell (World.block_lt_of_cell? w _ hx112_1)).trans hx112_1
                        replace hx112_2 := (HB.out.cell (World.block_lt_of_cell? w _ hx112_2)).trans hx112_2
                        replace hx112_3 := (HB.out.cell (World.block_lt_of_cell? w _ hx112_3)).trans hx112_3
                        replace p112 := eq_true p112
                        replace q112 := eq_true q112
                        try go_wp2_with (first | ((with_reducible refine gate_dst (N := 4) rfl ?_); refine box_event ?hg (N := 4) ?hd (cs := #[.int .u64 0, .int .u64 0, .int .u64 0, .int .i64 0]) (t := 34) ?hr ?_; (case hd => rfl); (case hg => rfl); (case hr => first | (go_simp; done) | (go_simp; rfl)); intro gb113 hg w39 hbox hb; have n0_ := Aside0.mk (below_step (belN HB) hb); have n1_ := Aside0.mk (hbox); have n2_ := Aside0.mk ((by rw [hg]; exact (below_size (belN HB)) : w.heap.size ≤ gb113)); have n3_ := Aside0.mk ((by rw [hg]; exact (below_size (belN HB)) : w.heap.size ≤ gb113)); clear HB; have HB := n0_; have BK113 := n1_; have GW113 := n2_; have GE113 := n3_; clear n0_ n1_ n2_ n3_; clear hb hbox hg; obtain ⟨hcz40_0, hcz40_1, hcz40_2, hcz40_3, hfz40_0, hfz40_1, hfz40_2, hfz40_3⟩ := cz4_ (w := w39) BK113.out) | ((with_reducible refine gate_store (t := 34) (p := 4) rfl ?_); refine store_event (t := 34) (p := 4) (v := ?vo_w41) (w1 := ((((w39.setCell ⟨gb113, 0, none⟩ (.int .u64 ((rd_T34 l0 x10_1).f0))).setCell ⟨gb113, 1, none⟩ (.int .u64 ((rd_T34 l0 x10_1).f1))).setCell ⟨gb113, 2, none⟩ (.int .u64 ((rd_T34 l0 x10_1).f2))).setCell ⟨gb113, 3, none⟩ (.int .i64 ((rd_T34 l0 x10_1).f3)))) ?hg ?ho ?hn ?hr ?_; (case ho => rfl); (case hg => rfl); (case hn => rfl); (case hr => first | (go_simp; done) | (go_simp; rfl)); intro w41 hw; have n0_ : Aside0 (w41.heap[gb113]? = some (.cells #[.int .u64 ((rd_T34 l0 x10_1).f0), .int .u64 ((rd_T34 l0 x10_1).f1), .int .u64 ((rd_T34 l0 x10_1).f2), .int .i64 ((rd_T34 l0 x10_1).f3)] 34 (0, 0))) := ⟨(by rw [hw]; exact (by (with_reducible repeat (first | refine blk_drewN ?_ _ | refine blk_drew ?_ | refine blk_alloc ?_ _)); refine blk_put (cs := #[.int .u64 ((rd_T34 l0 x10_1).f0), .int .u64 ((rd_T34 l0 x10_1).f1), .int .u64 ((rd_T34 l0 x10_1).f2), .int .i64 0]) ?_ 3 _ rfl; refine blk_put (cs := #[.int .u64 ((rd_T34 l0 x10_1).f0), .int .u64 ((rd_T34 l0 x10_1).f1), .int .u64 0, .int .i64 0]) ?_ 2 _ rfl; refine blk_put (cs := #[.int .u64 ((rd_T34 l0 x10_1).f0), .int .u64 0, .int .u64 0, .int .i64 0]) ?_ 1 _ rfl; refine blk_put (cs := #[.int .u64 0, .int .u64 0, .int .u64 0, .int .i64 0]) ?_ 0 _ rfl; (with_reducible repeat (first | refine blk_drewN ?_ _ | refine blk_drew ?_ | refine blk_alloc ?_ _)); exact BK113.out))⟩; have n1_ : Aside0 (Below w.heap.size w w41) := ⟨(by rw [hw]; exact (belN HB))⟩; clear hw; clear BK113; clear HB; have BK113 := n0_; have HB := n1_; clear n0_ n1_))
                        have n0_ := Aside0.mk (blk_drew BK113.out)
                        have n1_ := Aside0.mk (below_drew1 HB.out)
                        clear BK113
                        clear HB
                        have BK113 := n0_
                        have HB := n1_
                        clear n0_ n1_
                        have p114 : 0 ≤ ((ji7) : Int) := of_decide_eq_true (by first | (with_reducible assumption) | assumption)
                        have q114 : (ji7) < (l0.length : Int) := of_decide_eq_true (by first | (with_reducible assumption) | assumption)
                        obtain ⟨ad114, e114, hx114_0, hx114_1, hx114_2, hx114_3⟩ := at_T34 HR0.out (ji7) p114 q114
                        have hw114_3 := hx114_3
                        have hw114_2 := hx114_2
                        have hw114_1 := hx114_1
                        have hw114_0 := hx114_0
                        obtain rfl : ad112 = ad114 := (by injection e114)
                        replace hx114_0 := (HB.out.cell (World.block_lt_of_cell? w _ hx114_0)).trans hx114_0
                        replace hx114_1 := (HB.out.cell (World.block_lt_of_cell? w _ hx114_1)).trans hx114_1
                        replace hx114_2 := (HB.out.cell (World.block_lt_of_cell? w _ hx114_2)).trans hx114_2
                        replace hx114_3 := (HB.out.cell (World.block_lt_of_cell? w _ hx114_3)).trans hx114_3
                        replace p114 := eq_true p114
                        replace q114 := eq_true q114
                        refine start_ (n := 29) (S := fun w' => w'.cell? ⟨gb113, 0, none⟩ = some (.int .u64 ((rd_T34 l0 x10_1).f0)) ∧ w'.cell? ⟨gb113, 1, none⟩ = some (.int .u64 ((rd_T34 l0 x10_1).f1)) ∧ w'.cell? ⟨gb113, 2, none⟩ = some (.int .u64 ((rd_T34 l0 x10_1).f2)) ∧ w'.cell? ⟨gb113, 3, none⟩ = some (.int .i64 ((rd_T34 l0 x10_1).f3)) ∧ w'.cell? (ad112.add (((ji7)).toNat * 4)) = some (.int .u64 ((rd_T34 l0 (ji7)).f0)) ∧ w'.cell? ⟨(ad112.add (((ji7)).toNat * 4)).block, (ad112.add (((ji7)).toNat * 4)).off + 1, none⟩ = some (.int .u64 ((rd_T34 l0 (ji7)).f1)) ∧ w'.cell? ⟨(ad112.add (((ji7)).toNat * 4)).block, (ad112.add (((ji7)).toNat * 4)).off + 2, none⟩ = some (.int .u64 ((rd_T34 l0 (ji7)).f2)) ∧ w'.cell? ⟨(ad112.add (((ji7)).toNat * 4)).block, (ad112.add (((ji7)).toNat * 4)).off + 3, none⟩ = some (.int .i64 ((rd_T34 l0 (ji7)).f3))) (ds := []) #[false, false, false, false, false, false, false, false, false, false, false, false, false, false, false, false, false, false, false, false, false, false, false, false, false, false, false, false, false] (by kernel_rfl) rfl rfl ⟨(blk_cell BK113.out 0).trans rfl, (blk_cell BK113.out 1).trans rfl, (blk_cell BK113.out 2).trans rfl, (blk_cell BK113.out 3).trans rfl, ((HB.out.cell (World.block_lt_of_cell? w _ hw114_0)).trans hw114_0), ((HB.out.cell (World.block_lt_of_cell? w _ hw114_1)).trans hw114_1), ((HB.out.cell (World.block_lt_of_cell? w _ hw114_2)).trans hw114_2), ((HB.out.cell (World.block_lt_of_cell? w _ hw114_3)).trans hw114_3)⟩ (fun hHeld => ?_); refine with_tabW invoice_Check.tab6 invoice_Check.bits6 (fun HT_ HW_ => ?_)
                        generalize w41.drew = w42 at BK113 HB hx114_0 hx114_1 hx114_2 hx114_3 hHeld ⊢
                        refine pureA_ 0 15 (bm 29 1) ?_
                        refine pureA_ 1 16 (bm 29 3) ?_
                        refine pureA_ 2 17 (bm 29 7) ?_
                        refine pureA_ 3 18 (bm 29 15) ?_
                        refine pureA_ 4 19 (bm 29 31) ?_
                        refine pureA_ 5 20 (bm 29 63) ?_
                        refine pureA_ 6 21 (bm 29 127) ?_
                        refine pureA_ 8 23 (bm 29 383) ?_
                        refine take_ (i := 7) (N := some 22) (v := ?_) (a' := ?_) #[true, true, true, true, true, true, true, true, true, false, false, false, false, false, false, false, false, false, false, false, false, false, false, false, false, false, false, false, false] rfl rfl (take_ofW HT_.out HW_.out (by kernel_rfl)) (fun _ _ _ h => h) (Or.inl ⟨by rfl, ?_⟩) hHeld ?_ ?_
                        rotate_left
                        · rintro w' ⟨s0, s1, s2, s3, s4, s5, s6, s7⟩
                          go_simp
                          with_reducible rfl
                        rotate_left
                        · simp only [Act.put, List.setIfInBounds_toArray, List.set_cons_zero, List.set_cons_succ, i64_w, i32_w]
                          rfl
                        refine take_ (i := 9) (N := some 24) (v := ?_) (a' := ?_) #[true, true, true, true, true, true, true, true, true, true, false, false, false, false, false, false, false, false, false, false, false, false, false, false, false, false, false, false, false] rfl rfl (take_ofW HT_.out HW_.out (by kernel_rfl)) (fun _ _ _ h => h) (Or.inl ⟨by rfl, ?_⟩) hHeld ?_ ?_
                        rotate_left
                        · rintro w' ⟨s0, s1, s2, s3, s4, s5, s6, s7⟩
                          go_simp
                          with_reducible rfl
                        rotate_left
                        · simp only [Act.put, List.setIfInBounds_toArray, List.set_cons_zero, List.set_cons_succ, i64_w, i32_w]
                          rfl
                        refine one_ (i := 10) (N := some 25) #[true, true, true, true, true, true, true, true, true, true, true, false, false, false, false, false, false, false, false, false, false, false, false, false, false, false, false, false, false] rfl rfl (one_of HT_.out (by kernel_rfl)) (by decide) (fun K hK => ?_)
                        refine goes_ Try.func35 (by kernel_rfl) rfl #[.agg #[.int .u64 ((rd_T34 l0 (ji7)).f0), .int .u64 ((rd_T34 l0 (ji7)).f1), .int .u64 ((rd_T34 l0 (ji7)).f2), .int .i64 ((rd_T34 l0 (ji7)).f3)], .int .u64 ((rd_T34 l0 x10_1).f0)] (by rfl) rfl rfl (by (try simp only [List.map_toArray, List.map_cons, List.map_nil]); first | done | (simp only [hji7]; rfl) | rfl | (simp only [List.length_drop, List.length_take]; rfl)) ?_
                        with_reducible refine (invoice_order.calls ((rd_T34 l0 (ji7)).f0) ((rd_T34 l0 (ji7)).f1) ((rd_T34 l0 (ji7)).f2) ((rd_T34 l0 (ji7)).f3) ((rd_T34 l0 x10_1).f0) t115 _ A10.out).mono ?_
                        rintro e w43 ⟨rfl, hb⟩
                        refine ⟨_, rfl, ?_⟩
                        have n0_ := Aside0.mk (blk_below (g := gb113) (blkN BK113) hb)
                        have n1_ := Aside0.mk (below_step (belN HB) hb)
                        clear BK113
                        clear HB
                        have BK113 := n0_
                        have HB := n1_
                        clear n0_ n1_
                        (try clear hb)
                        (try clear hb2)
                        (try clear hk)
                        (try clear hi)
                        refine hK.out _ _ ⟨(blk_cell BK113.out 0).trans rfl, (blk_cell BK113.out 1).trans rfl, (blk_cell BK113.out 2).trans rfl, (blk_cell BK113.out 3).trans rfl, ((HB.out.cell (World.block_lt_of_cell? w _ hw114_0)).trans hw114_0), ((HB.out.cell (World.block_lt_of_cell? w _ hw114_1)).trans hw114_1), ((HB.out.cell (World.block_lt_of_cell? w _ hw114_2)).trans hw114_2), ((HB.out.cell (World.block_lt_of_cell? w _ hw114_3)).trans hw114_3)⟩ (fun hHeld => ?_)
                        clear hK K
                        refine norm_ (a' := ?_) ?_ ?_
                        rotate_left
                        · show Act.put _ (some 25) _ = _
                          simp only [Act.put, List.setIfInBounds_toArray, List.set_cons_zero, List.set_cons_succ, i64_w, i32_w]
                          rfl
                        refine pureA_ 11 26 (bm 29 4095) ?_
                        refine pureA_ 12 27 (bm 29 8191) ?_
                        refine pureA_ 13 28 (bm 29 16383) ?_
                        refine pureA_ 14 29 (bm 29 32767) ?_
                        refine take_ (i := 15) (N := some 30) (v := ?_) (a' := ?_) #[true, true, true, true, true, true, true, true, true, true, true, true, true, true, true, true, false, false, false, false, false, false, false, false, false, false, false, false, false] rfl rfl (take_ofW HT_.out HW_.out (by kernel_rfl)) (fun _ _ _ h => h) (Or.inl ⟨by rfl, ?_⟩) hHeld ?_ ?_
                        rotate_left
                        · rintro w' ⟨s0, s1, s2, s3, s4, s5, s6, s7⟩
                          go_simp
                          with_reducible rfl
                        rotate_left
                        · simp only [Act.put, List.setIfInBounds_toArray, List.set_cons_zero, List.set_cons_succ, i64_w, i32_w]
                          rfl
                        refine one_ (i := 16) (N := some 31) #[true, true, true, true, true, true, true, true, true, true, true, true, true, true, true, true, true, false, false, false, false, false, false, false, false, false, false, false, false] rfl rfl (one_of HT_.out (by kernel_rfl)) (by decide) (fun K hK => ?_)
                        refine goes_ Try.func26 (by kernel_rfl) rfl #[.int .u64 ((rd_T34 l0 x10_1).f1)] (by rfl) rfl rfl (by (try simp only [List.map_toArray, List.map_cons, List.map_nil]); first | done | rfl | (simp only [List.length_drop, List.length_take]; rfl)) ?_
                        with_reducible refine (invoice_bill.calls k1 ((rd_T34 l0 x10_1).f1) false _ A17.out).mono ?_
                        rintro e w44 ⟨rfl, hb⟩
                        refine ⟨_, rfl, ?_⟩
                        have n0_ := Aside0.mk (blk_below (g := gb113) (blkN BK113) hb)
                        have n1_ := Aside0.mk (below_step (belN HB) hb)
                        clear BK113
                        clear HB
                        have BK113 := n0_
                        have HB := n1_
                        clear n0_ n1_
                        (try clear hb)
                        (try clear hb2)
                        (try clear hk)
                        (try clear hi)
                        refine hK.out _ _ ⟨(blk_cell BK113.out 0).trans rfl, (blk_cell BK113.out 1).trans rfl, (blk_cell BK113.out 2).trans rfl, (blk_cell BK113.out 3).trans rfl, ((HB.out.cell (World.block_lt_of_cell? w _ hw114_0)).trans hw114_0), ((HB.out.cell (World.block_lt_of_cell? w _ hw114_1)).trans hw114_1), ((HB.out.cell (World.block_lt_of_cell? w _ hw114_2)).trans hw114_2), ((HB.out.cell (World.block_lt_of_cell? w _ hw114_3)).trans hw114_3)⟩ (fun hHeld => ?_)
                        clear hK K
                        refine norm_ (a' := ?_) ?_ ?_
                        rotate_left
                        · show Act.put _ (some 31) _ = _
                          simp only [Act.put, List.setIfInBounds_toArray, List.set_cons_zero, List.set_cons_succ, i64_w, i32_w]
                          rfl
                        refine pureA_ 17 32 (bm 29 262143) ?_
                        refine pureA_ 18 33 (bm 29 524287) ?_
                        refine pureA_ 19 34 (bm 29 1048575) ?_
                        refine pureU_ 20 35 (bm 29 2097151) ?_
                        refine pureU_ 21 36 (bm 29 4194303) ?_
                        refine pureU_ 22 37 (bm 29 8388607) ?_
                        refine pureA_ 23 38 (bm 29 16777215) ?_
                        refine pureA_ 24 39 (bm 29 33554431) ?_
                        refine pureU_ 25 40 (bm 29 67108863) ?_
                        refine pureU_ 26 41 (bm 29 134217727) ?_
                        refine pureU_ 27 42 (bm 29 268435455) ?_
                        refine pureA_ 28 43 (bm 29 536870911) ?_
                        refine done_ (done_of HT_.out (by kernel_rfl)) ?_
                        try go_wp2
                        go_ret
                        exact ⟨by first | rfl | (simp [errW_none, errW_some] <;> rfl) | (simp only [← hji7]; first | rfl | (simp [errW_none, errW_some] <;> rfl)) | (simp [*, errW_none, errW_some] <;> rfl), by repeat (first | (with_reducible first | exact HB.out | apply below_alloc | apply pw_below_drewN | apply below_drew1 | refine below_set ?_ GE113.out) | exact HB.out)⟩
                  · rw [if_neg c9] at H
                    exact absurd H (by simp)
                · rw [if_neg c8] at H
                  exact absurd H (by simp)
              · rw [if_neg c6] at H
                have c6b0 : decide (0 < x10_1) = false := decide_eq_false c6
                clear c6
                replace H := Option.bind_eq_some_iff.mp H
                obtain ⟨t117, A450, H⟩ := H
                replace H : (if t117 = true then (if ((rd_T34 l0 x10_1).f3) < 1 then (some 1) else (if ((rd_T34 l0 x10_1).f3) > 3 then (some 1) else (invoice_Check.l0 k1 l0 l0 (l0.length : Int) (wrap64 (x10_1 + 1))))) else (some 1)) = some r := H
                have A45 := Aside0.mk A450
                clear A450
                by_cases c46 : t117 = true
                · subst c46
                  have H1 : (if ((rd_T34 l0 x10_1).f3) < 1 then (some 1) else (if ((rd_T34 l0 x10_1).f3) > 3 then (some 1) else (invoice_Check.l0 k1 l0 l0 (l0.length : Int) (wrap64 (x10_1 + 1))))) = some r := by rw [if_pos rfl] at H; exact H
                  clear H
                  have H := H1
                  clear H1
                  by_cases c47 : ((rd_T34 l0 x10_1).f3) < 1
                  · rw [if_pos c47] at H
                    have c47b0 : decide (((rd_T34 l0 x10_1).f3) < 1) = true := decide_eq_true c47
                    clear c47
                    obtain rfl := Option.some.inj H
                    have p112 : 0 ≤ (x10_1 : Int) := of_decide_eq_true (by first | (with_reducible assumption) | assumption)
                    have q112 : x10_1 < (l0.length : Int) := of_decide_eq_true (by first | (with_reducible assumption) | assumption)
                    obtain ⟨ad112, e112, hx112_0, hx112_1, hx112_2, hx112_3⟩ := at_T34 HR0.out x10_1 p112 q112
                    cases e112
                    replace hx112_0 := (HB.out.cell (World.block_lt_of_cell? w _ hx112_0)).trans hx112_0
                    replace hx112_1 := (HB.out.cell (World.block_lt_of_cell? w _ hx112_1)).trans hx112_1
                    replace hx112_2 := (HB.out.cell (World.block_lt_of_cell? w _ hx112_2)).trans hx112_2
                    replace hx112_3 := (HB.out.cell (World.block_lt_of_cell? w _ hx112_3)).trans hx112_3
                    replace p112 := eq_true p112
                    replace q112 := eq_true q112
                    try go_wp2_with (first | ((with_reducible refine gate_dst (N := 4) rfl ?_); refine box_event ?hg (N := 4) ?hd (cs := #[.int .u64 0, .int .u64 0, .int .u64 0, .int .i64 0]) (t := 34) ?hr ?_; (case hd => rfl); (case hg => rfl); (case hr => first | (go_simp; done) | (go_simp; rfl)); intro gb113 hg w48 hbox hb; have n0_ := Aside0.mk (below_step (belN HB) hb); have n1_ := Aside0.mk (hbox); have n2_ := Aside0.mk ((by rw [hg]; exact (below_size (belN HB)) : w.heap.size ≤ gb113)); have n3_ := Aside0.mk ((by rw [hg]; exact (below_size (belN HB)) : w.heap.size ≤ gb113)); clear HB; have HB := n0_; have BK113 := n1_; have GW113 := n2_; have GE113 := n3_; clear n0_ n1_ n2_ n3_; clear hb hbox hg; obtain ⟨hcz49_0, hcz49_1, hcz49_2, hcz49_3, hfz49_0, hfz49_1, hfz49_2, hfz49_3⟩ := cz4_ (w := w48) BK113.out) | ((with_reducible refine gate_store (t := 34) (p := 4) rfl ?_); refine store_event (t := 34) (p := 4) (v := ?vo_w50) (w1 := ((((w48.setCell ⟨gb113, 0, none⟩ (.int .u64 ((rd_T34 l0 x10_1).f0))).setCell ⟨gb113, 1, none⟩ (.int .u64 ((rd_T34 l0 x10_1).f1))).setCell ⟨gb113, 2, none⟩ (.int .u64 ((rd_T34 l0 x10_1).f2))).setCell ⟨gb113, 3, none⟩ (.int .i64 ((rd_T34 l0 x10_1).f3)))) ?hg ?ho ?hn ?hr ?_; (case ho => rfl); (case hg => rfl); (case hn => rfl); (case hr => first | (go_simp; done) | (go_simp; rfl)); intro w50 hw; have n0_ : Aside0 (w50.heap[gb113]? = some (.cells #[.int .u64 ((rd_T34 l0 x10_1).f0), .int .u64 ((rd_T34 l0 x10_1).f1), .int .u64 ((rd_T34 l0 x10_1).f2), .int .i64 ((rd_T34 l0 x10_1).f3)] 34 (0, 0))) := ⟨(by rw [hw]; exact (by (with_reducible repeat (first | refine blk_drewN ?_ _ | refine blk_drew ?_ | refine blk_alloc ?_ _)); refine blk_put (cs := #[.int .u64 ((rd_T34 l0 x10_1).f0), .int .u64 ((rd_T34 l0 x10_1).f1), .int .u64 ((rd_T34 l0 x10_1).f2), .int .i64 0]) ?_ 3 _ rfl; refine blk_put (cs := #[.int .u64 ((rd_T34 l0 x10_1).f0), .int .u64 ((rd_T34 l0 x10_1).f1), .int .u64 0, .int .i64 0]) ?_ 2 _ rfl; refine blk_put (cs := #[.int .u64 ((rd_T34 l0 x10_1).f0), .int .u64 0, .int .u64 0, .int .i64 0]) ?_ 1 _ rfl; refine blk_put (cs := #[.int .u64 0, .int .u64 0, .int .u64 0, .int .i64 0]) ?_ 0 _ rfl; (with_reducible repeat (first | refine blk_drewN ?_ _ | refine blk_drew ?_ | refine blk_alloc ?_ _)); exact BK113.out))⟩; have n1_ : Aside0 (Below w.heap.size w w50) := ⟨(by rw [hw]; exact (belN HB))⟩; clear hw; clear BK113; clear HB; have BK113 := n0_; have HB := n1_; clear n0_ n1_))
                    have n0_ := Aside0.mk (blk_drew BK113.out)
                    have n1_ := Aside0.mk (below_drew1 HB.out)
                    clear BK113
                    clear HB
                    have BK113 := n0_
                    have HB := n1_
                    clear n0_ n1_
                    refine start_ (n := 29) (S := fun w' => w'.cell? ⟨gb113, 0, none⟩ = some (.int .u64 ((rd_T34 l0 x10_1).f0)) ∧ w'.cell? ⟨gb113, 1, none⟩ = some (.int .u64 ((rd_T34 l0 x10_1).f1)) ∧ w'.cell? ⟨gb113, 2, none⟩ = some (.int .u64 ((rd_T34 l0 x10_1).f2)) ∧ w'.cell? ⟨gb113, 3, none⟩ = some (.int .i64 ((rd_T34 l0 x10_1).f3))) (ds := []) #[false, false, false, false, false, false, false, false, false, false, false, false, false, false, false, false, false, false, false, false, false, false, false, false, false, false, false, false, false] (by kernel_rfl) rfl rfl ⟨(blk_cell BK113.out 0).trans rfl, (blk_cell BK113.out 1).trans rfl, (blk_cell BK113.out 2).trans rfl, (blk_cell BK113.out 3).trans rfl⟩ (fun hHeld => ?_); refine with_tabW invoice_Check.tab6 invoice_Check.bits6 (fun HT_ HW_ => ?_)
                    generalize w50.drew = w51 at BK113 HB hHeld ⊢
                    refine pureA_ 0 15 (bm 29 1) ?_
                    refine pureA_ 1 16 (bm 29 3) ?_
                    refine pureA_ 2 17 (bm 29 7) ?_
                    refine pureU_ 3 18 (bm 29 15) ?_
                    refine pureU_ 4 19 (bm 29 31) ?_
                    refine pureU_ 5 20 (bm 29 63) ?_
                    refine pureU_ 6 21 (bm 29 127) ?_
                    refine pureU_ 7 22 (bm 29 255) ?_
                    refine pureU_ 8 23 (bm 29 511) ?_
                    refine pureU_ 9 24 (bm 29 1023) ?_
                    refine pureU_ 10 25 (bm 29 2047) ?_
                    refine pureU_ 11 26 (bm 29 4095) ?_
                    refine pureA_ 12 27 (bm 29 8191) ?_
                    refine pureA_ 13 28 (bm 29 16383) ?_
                    refine pureA_ 14 29 (bm 29 32767) ?_
                    refine take_ (i := 15) (N := some 30) (v := ?_) (a' := ?_) #[true, true, true, true, true, true, true, true, true, true, true, true, true, true, true, true, false, false, false, false, false, false, false, false, false, false, false, false, false] rfl rfl (take_ofW HT_.out HW_.out (by kernel_rfl)) (fun _ _ _ h => h) (Or.inl ⟨by rfl, ?_⟩) hHeld ?_ ?_
                    rotate_left
                    · rintro w' ⟨s0, s1, s2, s3⟩
                      go_simp
                      with_reducible rfl
                    rotate_left
                    · simp only [Act.put, List.setIfInBounds_toArray, List.set_cons_zero, List.set_cons_succ, i64_w, i32_w]
                      rfl
                    refine one_ (i := 16) (N := some 31) #[true, true, true, true, true, true, true, true, true, true, true, true, true, true, true, true, true, false, false, false, false, false, false, false, false, false, false, false, false] rfl rfl (one_of HT_.out (by kernel_rfl)) (by decide) (fun K hK => ?_)
                    refine goes_ Try.func26 (by kernel_rfl) rfl #[.int .u64 ((rd_T34 l0 x10_1).f1)] (by rfl) rfl rfl (by (try simp only [List.map_toArray, List.map_cons, List.map_nil]); first | done | rfl | (simp only [List.length_drop, List.length_take]; rfl)) ?_
                    with_reducible refine (invoice_bill.calls k1 ((rd_T34 l0 x10_1).f1) true _ A45.out).mono ?_
                    rintro e w52 ⟨rfl, hb⟩
                    refine ⟨_, rfl, ?_⟩
                    have n0_ := Aside0.mk (blk_below (g := gb113) (blkN BK113) hb)
                    have n1_ := Aside0.mk (below_step (belN HB) hb)
                    clear BK113
                    clear HB
                    have BK113 := n0_
                    have HB := n1_
                    clear n0_ n1_
                    (try clear hb)
                    (try clear hb2)
                    (try clear hk)
                    (try clear hi)
                    refine hK.out _ _ ⟨(blk_cell BK113.out 0).trans rfl, (blk_cell BK113.out 1).trans rfl, (blk_cell BK113.out 2).trans rfl, (blk_cell BK113.out 3).trans rfl⟩ (fun hHeld => ?_)
                    clear hK K
                    refine norm_ (a' := ?_) ?_ ?_
                    rotate_left
                    · show Act.put _ (some 31) _ = _
                      simp only [Act.put, List.setIfInBounds_toArray, List.set_cons_zero, List.set_cons_succ, i64_w, i32_w]
                      rfl
                    refine pureA_ 17 32 (bm 29 262143) ?_
                    refine pureA_ 18 33 (bm 29 524287) ?_
                    refine pureA_ 19 34 (bm 29 1048575) ?_
                    refine pureA_ 20 35 (bm 29 2097151) ?_
                    refine take_ (i := 21) (N := some 36) (v := ?_) (a' := ?_) #[true, true, true, true, true, true, true, true, true, true, true, true, true, true, true, true, true, true, true, true, true, true, false, false, false, false, false, false, false] rfl rfl (take_ofW HT_.out HW_.out (by kernel_rfl)) (fun _ _ _ h => h) (Or.inl ⟨by rfl, ?_⟩) hHeld ?_ ?_
                    rotate_left
                    · rintro w' ⟨s0, s1, s2, s3⟩
                      go_simp
                      with_reducible rfl
                    rotate_left
                    · simp only [Act.put, List.setIfInBounds_toArray, List.set_cons_zero, List.set_cons_succ, i64_w, i32_w]
                      rfl
                    refine pureA_ 22 37 (bm 29 8388607) ?_
                    refine pureA_ 23 38 (bm 29 16777215) ?_
                    refine pureA_ 24 39 (bm 29 33554431) ?_
                    refine pureU_ 25 40 (bm 29 67108863) ?_
                    refine pureU_ 26 41 (bm 29 134217727) ?_
                    refine pureU_ 27 42 (bm 29 268435455) ?_
                    refine pureA_ 28 43 (bm 29 536870911) ?_
                    refine done_ (done_of HT_.out (by kernel_rfl)) ?_
                    try go_wp2
                    go_ret
                    exact ⟨by first | rfl | (simp [errW_none, errW_some] <;> rfl) | (simp [*, errW_none, errW_some] <;> rfl), by repeat (first | (with_reducible first | exact HB.out | apply below_alloc | apply pw_below_drewN | apply below_drew1 | refine below_set ?_ GE113.out) | exact HB.out)⟩
                  · rw [if_neg c47] at H
                    have c47b0 : decide (((rd_T34 l0 x10_1).f3) < 1) = false := decide_eq_false c47
                    clear c47
                    by_cases c53 : ((rd_T34 l0 x10_1).f3) > 3
                    · rw [if_pos c53] at H
                      have c53b0 : decide (3 < ((rd_T34 l0 x10_1).f3)) = true := decide_eq_true c53
                      clear c53
                      obtain rfl := Option.some.inj H
                      have p112 : 0 ≤ (x10_1 : Int) := of_decide_eq_true (by first | (with_reducible assumption) | assumption)
                      have q112 : x10_1 < (l0.length : Int) := of_decide_eq_true (by first | (with_reducible assumption) | assumption)
                      obtain ⟨ad112, e112, hx112_0, hx112_1, hx112_2, hx112_3⟩ := at_T34 HR0.out x10_1 p112 q112
                      cases e112
                      replace hx112_0 := (HB.out.cell (World.block_lt_of_cell? w _ hx112_0)).trans hx112_0
                      replace hx112_1 := (HB.out.cell (World.block_lt_of_cell? w _ hx112_1)).trans hx112_1
                      replace hx112_2 := (HB.out.cell (World.block_lt_of_cell? w _ hx112_2)).trans hx112_2
                      replace hx112_3 := (HB.out.cell (World.block_lt_of_cell? w _ hx112_3)).trans hx112_3
                      replace p112 := eq_true p112
                      replace q112 := eq_true q112
                      try go_wp2_with (first | ((with_reducible refine gate_dst (N := 4) rfl ?_); refine box_event ?hg (N := 4) ?hd (cs := #[.int .u64 0, .int .u64 0, .int .u64 0, .int .i64 0]) (t := 34) ?hr ?_; (case hd => rfl); (case hg => rfl); (case hr => first | (go_simp; done) | (go_simp; rfl)); intro gb113 hg w54 hbox hb; have n0_ := Aside0.mk (below_step (belN HB) hb); have n1_ := Aside0.mk (hbox); have n2_ := Aside0.mk ((by rw [hg]; exact (below_size (belN HB)) : w.heap.size ≤ gb113)); have n3_ := Aside0.mk ((by rw [hg]; exact (below_size (belN HB)) : w.heap.size ≤ gb113)); clear HB; have HB := n0_; have BK113 := n1_; have GW113 := n2_; have GE113 := n3_; clear n0_ n1_ n2_ n3_; clear hb hbox hg; obtain ⟨hcz55_0, hcz55_1, hcz55_2, hcz55_3, hfz55_0, hfz55_1, hfz55_2, hfz55_3⟩ := cz4_ (w := w54) BK113.out) | ((with_reducible refine gate_store (t := 34) (p := 4) rfl ?_); refine store_event (t := 34) (p := 4) (v := ?vo_w56) (w1 := ((((w54.setCell ⟨gb113, 0, none⟩ (.int .u64 ((rd_T34 l0 x10_1).f0))).setCell ⟨gb113, 1, none⟩ (.int .u64 ((rd_T34 l0 x10_1).f1))).setCell ⟨gb113, 2, none⟩ (.int .u64 ((rd_T34 l0 x10_1).f2))).setCell ⟨gb113, 3, none⟩ (.int .i64 ((rd_T34 l0 x10_1).f3)))) ?hg ?ho ?hn ?hr ?_; (case ho => rfl); (case hg => rfl); (case hn => rfl); (case hr => first | (go_simp; done) | (go_simp; rfl)); intro w56 hw; have n0_ : Aside0 (w56.heap[gb113]? = some (.cells #[.int .u64 ((rd_T34 l0 x10_1).f0), .int .u64 ((rd_T34 l0 x10_1).f1), .int .u64 ((rd_T34 l0 x10_1).f2), .int .i64 ((rd_T34 l0 x10_1).f3)] 34 (0, 0))) := ⟨(by rw [hw]; exact (by (with_reducible repeat (first | refine blk_drewN ?_ _ | refine blk_drew ?_ | refine blk_alloc ?_ _)); refine blk_put (cs := #[.int .u64 ((rd_T34 l0 x10_1).f0), .int .u64 ((rd_T34 l0 x10_1).f1), .int .u64 ((rd_T34 l0 x10_1).f2), .int .i64 0]) ?_ 3 _ rfl; refine blk_put (cs := #[.int .u64 ((rd_T34 l0 x10_1).f0), .int .u64 ((rd_T34 l0 x10_1).f1), .int .u64 0, .int .i64 0]) ?_ 2 _ rfl; refine blk_put (cs := #[.int .u64 ((rd_T34 l0 x10_1).f0), .int .u64 0, .int .u64 0, .int .i64 0]) ?_ 1 _ rfl; refine blk_put (cs := #[.int .u64 0, .int .u64 0, .int .u64 0, .int .i64 0]) ?_ 0 _ rfl; (with_reducible repeat (first | refine blk_drewN ?_ _ | refine blk_drew ?_ | refine blk_alloc ?_ _)); exact BK113.out))⟩; have n1_ : Aside0 (Below w.heap.size w w56) := ⟨(by rw [hw]; exact (belN HB))⟩; clear hw; clear BK113; clear HB; have BK113 := n0_; have HB := n1_; clear n0_ n1_))
                      have n0_ := Aside0.mk (blk_drew BK113.out)
                      have n1_ := Aside0.mk (below_drew1 HB.out)
                      clear BK113
                      clear HB
                      have BK113 := n0_
                      have HB := n1_
                      clear n0_ n1_
                      refine start_ (n := 29) (S := fun w' => w'.cell? ⟨gb113, 0, none⟩ = some (.int .u64 ((rd_T34 l0 x10_1).f0)) ∧ w'.cell? ⟨gb113, 1, none⟩ = some (.int .u64 ((rd_T34 l0 x10_1).f1)) ∧ w'.cell? ⟨gb113, 2, none⟩ = some (.int .u64 ((rd_T34 l0 x10_1).f2)) ∧ w'.cell? ⟨gb113, 3, none⟩ = some (.int .i64 ((rd_T34 l0 x10_1).f3))) (ds := []) #[false, false, false, false, false, false, false, false, false, false, false, false, false, false, false, false, false, false, false, false, false, false, false, false, false, false, false, false, false] (by kernel_rfl) rfl rfl ⟨(blk_cell BK113.out 0).trans rfl, (blk_cell BK113.out 1).trans rfl, (blk_cell BK113.out 2).trans rfl, (blk_cell BK113.out 3).trans rfl⟩ (fun hHeld => ?_); refine with_tabW invoice_Check.tab6 invoice_Check.bits6 (fun HT_ HW_ => ?_)
                      generalize w56.drew = w57 at BK113 HB hHeld ⊢
                      refine pureA_ 0 15 (bm 29 1) ?_
                      refine pureA_ 1 16 (bm 29 3) ?_
                      refine pureA_ 2 17 (bm 29 7) ?_
                      refine pureU_ 3 18 (bm 29 15) ?_
                      refine pureU_ 4 19 (bm 29 31) ?_
                      refine pureU_ 5 20 (bm 29 63) ?_
                      refine pureU_ 6 21 (bm 29 127) ?_
                      refine pureU_ 7 22 (bm 29 255) ?_
                      refine pureU_ 8 23 (bm 29 511) ?_
                      refine pureU_ 9 24 (bm 29 1023) ?_
                      refine pureU_ 10 25 (bm 29 2047) ?_
                      refine pureU_ 11 26 (bm 29 4095) ?_
                      refine pureA_ 12 27 (bm 29 8191) ?_
                      refine pureA_ 13 28 (bm 29 16383) ?_
                      refine pureA_ 14 29 (bm 29 32767) ?_
                      refine take_ (i := 15) (N := some 30) (v := ?_) (a' := ?_) #[true, true, true, true, true, true, true, true, true, true, true, true, true, true, true, true, false, false, false, false, false, false, false, false, false, false, false, false, false] rfl rfl (take_ofW HT_.out HW_.out (by kernel_rfl)) (fun _ _ _ h => h) (Or.inl ⟨by rfl, ?_⟩) hHeld ?_ ?_
                      rotate_left
                      · rintro w' ⟨s0, s1, s2, s3⟩
                        go_simp
                        with_reducible rfl
                      rotate_left
                      · simp only [Act.put, List.setIfInBounds_toArray, List.set_cons_zero, List.set_cons_succ, i64_w, i32_w]
                        rfl
                      refine one_ (i := 16) (N := some 31) #[true, true, true, true, true, true, true, true, true, true, true, true, true, true, true, true, true, false, false, false, false, false, false, false, false, false, false, false, false] rfl rfl (one_of HT_.out (by kernel_rfl)) (by decide) (fun K hK => ?_)
                      refine goes_ Try.func26 (by kernel_rfl) rfl #[.int .u64 ((rd_T34 l0 x10_1).f1)] (by rfl) rfl rfl (by (try simp only [List.map_toArray, List.map_cons, List.map_nil]); first | done | rfl | (simp only [List.length_drop, List.length_take]; rfl)) ?_
                      with_reducible refine (invoice_bill.calls k1 ((rd_T34 l0 x10_1).f1) true _ A45.out).mono ?_
                      rintro e w58 ⟨rfl, hb⟩
                      refine ⟨_, rfl, ?_⟩
                      have n0_ := Aside0.mk (blk_below (g := gb113) (blkN BK113) hb)
                      have n1_ := Aside0.mk (below_step (belN HB) hb)
                      clear BK113
                      clear HB
                      have BK113 := n0_
                      have HB := n1_
                      clear n0_ n1_
                      (try clear hb)
                      (try clear hb2)
                      (try clear hk)
                      (try clear hi)
                      refine hK.out _ _ ⟨(blk_cell BK113.out 0).trans rfl, (blk_cell BK113.out 1).trans rfl, (blk_cell BK113.out 2).trans rfl, (blk_cell BK113.out 3).trans rfl⟩ (fun hHeld => ?_)
                      clear hK K
                      refine norm_ (a' := ?_) ?_ ?_
                      rotate_left
                      · show Act.put _ (some 31) _ = _
                        simp only [Act.put, List.setIfInBounds_toArray, List.set_cons_zero, List.set_cons_succ, i64_w, i32_w]
                        rfl
                      refine pureA_ 17 32 (bm 29 262143) ?_
                      refine pureA_ 18 33 (bm 29 524287) ?_
                      refine pureA_ 19 34 (bm 29 1048575) ?_
                      refine pureA_ 20 35 (bm 29 2097151) ?_
                      refine take_ (i := 21) (N := some 36) (v := ?_) (a' := ?_) #[true, true, true, true, true, true, true, true, true, true, true, true, true, true, true, true, true, true, true, true, true, true, false, false, false, false, false, false, false] rfl rfl (take_ofW HT_.out HW_.out (by kernel_rfl)) (fun _ _ _ h => h) (Or.inl ⟨by rfl, ?_⟩) hHeld ?_ ?_
                      rotate_left
                      · rintro w' ⟨s0, s1, s2, s3⟩
                        go_simp
                        with_reducible rfl
                      rotate_left
                      · simp only [Act.put, List.setIfInBounds_toArray, List.set_cons_zero, List.set_cons_succ, i64_w, i32_w]
                        rfl
                      refine pureA_ 22 37 (bm 29 8388607) ?_
                      refine pureA_ 23 38 (bm 29 16777215) ?_
                      refine pureA_ 24 39 (bm 29 33554431) ?_
                      refine pureA_ 25 40 (bm 29 67108863) ?_
                      refine take_ (i := 26) (N := some 41) (v := ?_) (a' := ?_) #[true, true, true, true, true, true, true, true, true, true, true, true, true, true, true, true, true, true, true, true, true, true, true, true, true, true, true, false, false] rfl rfl (take_ofW HT_.out HW_.out (by kernel_rfl)) (fun _ _ _ h => h) (Or.inl ⟨by rfl, ?_⟩) hHeld ?_ ?_
                      rotate_left
                      · rintro w' ⟨s0, s1, s2, s3⟩
                        go_simp
                        with_reducible rfl
                      rotate_left
                      · simp only [Act.put, List.setIfInBounds_toArray, List.set_cons_zero, List.set_cons_succ, i64_w, i32_w]
                        rfl
                      refine pureA_ 27 42 (bm 29 268435455) ?_
                      refine pureA_ 28 43 (bm 29 536870911) ?_
                      refine done_ (done_of HT_.out (by kernel_rfl)) ?_
                      try go_wp2
                      go_ret
                      exact ⟨by first | rfl | (simp [errW_none, errW_some] <;> rfl) | (simp [*, errW_none, errW_some] <;> rfl), by repeat (first | (with_reducible first | exact HB.out | apply below_alloc | apply pw_below_drewN | apply below_drew1 | refine below_set ?_ GE113.out) | exact HB.out)⟩
                    · rw [if_neg c53] at H
                      have c53b0 : decide (3 < ((rd_T34 l0 x10_1).f3)) = false := decide_eq_false c53
                      clear c53
                      have H' := Aside0.mk H
                      clear H
                      have p112 : 0 ≤ (x10_1 : Int) := of_decide_eq_true (by first | (with_reducible assumption) | assumption)
                      have q112 : x10_1 < (l0.length : Int) := of_decide_eq_true (by first | (with_reducible assumption) | assumption)
                      obtain ⟨ad112, e112, hx112_0, hx112_1, hx112_2, hx112_3⟩ := at_T34 HR0.out x10_1 p112 q112
                      cases e112
                      replace hx112_0 := (HB.out.cell (World.block_lt_of_cell? w _ hx112_0)).trans hx112_0
                      replace hx112_1 := (HB.out.cell (World.block_lt_of_cell? w _ hx112_1)).trans hx112_1
                      replace hx112_2 := (HB.out.cell (World.block_lt_of_cell? w _ hx112_2)).trans hx112_2
                      replace hx112_3 := (HB.out.cell (World.block_lt_of_cell? w _ hx112_3)).trans hx112_3
                      replace p112 := eq_true p112
                      replace q112 := eq_true q112
                      try go_wp2_with (first | ((with_reducible refine gate_dst (N := 4) rfl ?_); refine box_event ?hg (N := 4) ?hd (cs := #[.int .u64 0, .int .u64 0, .int .u64 0, .int .i64 0]) (t := 34) ?hr ?_; (case hd => rfl); (case hg => rfl); (case hr => first | (go_simp; done) | (go_simp; rfl)); intro gb113 hg w59 hbox hb; have n0_ := Aside0.mk (below_step (belN HB) hb); have n1_ := Aside0.mk (hbox); have n2_ := Aside0.mk ((by rw [hg]; exact (below_size (belN HB)) : w.heap.size ≤ gb113)); have n3_ := Aside0.mk ((by rw [hg]; exact (below_size (belN HB)) : w.heap.size ≤ gb113)); clear HB; have HB := n0_; have BK113 := n1_; have GW113 := n2_; have GE113 := n3_; clear n0_ n1_ n2_ n3_; clear hb hbox hg; obtain ⟨hcz60_0, hcz60_1, hcz60_2, hcz60_3, hfz60_0, hfz60_1, hfz60_2, hfz60_3⟩ := cz4_ (w := w59) BK113.out) | ((with_reducible refine gate_store (t := 34) (p := 4) rfl ?_); refine store_event (t := 34) (p := 4) (v := ?vo_w61) (w1 := ((((w59.setCell ⟨gb113, 0, none⟩ (.int .u64 ((rd_T34 l0 x10_1).f0))).setCell ⟨gb113, 1, none⟩ (.int .u64 ((rd_T34 l0 x10_1).f1))).setCell ⟨gb113, 2, none⟩ (.int .u64 ((rd_T34 l0 x10_1).f2))).setCell ⟨gb113, 3, none⟩ (.int .i64 ((rd_T34 l0 x10_1).f3)))) ?hg ?ho ?hn ?hr ?_; (case ho => rfl); (case hg => rfl); (case hn => rfl); (case hr => first | (go_simp; done) | (go_simp; rfl)); intro w61 hw; have n0_ : Aside0 (w61.heap[gb113]? = some (.cells #[.int .u64 ((rd_T34 l0 x10_1).f0), .int .u64 ((rd_T34 l0 x10_1).f1), .int .u64 ((rd_T34 l0 x10_1).f2), .int .i64 ((rd_T34 l0 x10_1).f3)] 34 (0, 0))) := ⟨(by rw [hw]; exact (by (with_reducible repeat (first | refine blk_drewN ?_ _ | refine blk_drew ?_ | refine blk_alloc ?_ _)); refine blk_put (cs := #[.int .u64 ((rd_T34 l0 x10_1).f0), .int .u64 ((rd_T34 l0 x10_1).f1), .int .u64 ((rd_T34 l0 x10_1).f2), .int .i64 0]) ?_ 3 _ rfl; refine blk_put (cs := #[.int .u64 ((rd_T34 l0 x10_1).f0), .int .u64 ((rd_T34 l0 x10_1).f1), .int .u64 0, .int .i64 0]) ?_ 2 _ rfl; refine blk_put (cs := #[.int .u64 ((rd_T34 l0 x10_1).f0), .int .u64 0, .int .u64 0, .int .i64 0]) ?_ 1 _ rfl; refine blk_put (cs := #[.int .u64 0, .int .u64 0, .int .u64 0, .int .i64 0]) ?_ 0 _ rfl; (with_reducible repeat (first | refine blk_drewN ?_ _ | refine blk_drew ?_ | refine blk_alloc ?_ _)); exact BK113.out))⟩; have n1_ : Aside0 (Below w.heap.size w w61) := ⟨(by rw [hw]; exact (belN HB))⟩; clear hw; clear BK113; clear HB; have BK113 := n0_; have HB := n1_; clear n0_ n1_))
                      have n0_ := Aside0.mk (blk_drew BK113.out)
                      have n1_ := Aside0.mk (below_drew1 HB.out)
                      clear BK113
                      clear HB
                      have BK113 := n0_
                      have HB := n1_
                      clear n0_ n1_
                      refine start_ (n := 29) (S := fun w' => w'.cell? ⟨gb113, 0, none⟩ = some (.int .u64 ((rd_T34 l0 x10_1).f0)) ∧ w'.cell? ⟨gb113, 1, none⟩ = some (.int .u64 ((rd_T34 l0 x10_1).f1)) ∧ w'.cell? ⟨gb113, 2, none⟩ = some (.int .u64 ((rd_T34 l0 x10_1).f2)) ∧ w'.cell? ⟨gb113, 3, none⟩ = some (.int .i64 ((rd_T34 l0 x10_1).f3))) (ds := []) #[false, false, false, false, false, false, false, false, false, false, false, false, false, false, false, false, false, false, false, false, false, false, false, false, false, false, false, false, false] (by kernel_rfl) rfl rfl ⟨(blk_cell BK113.out 0).trans rfl, (blk_cell BK113.out 1).trans rfl, (blk_cell BK113.out 2).trans rfl, (blk_cell BK113.out 3).trans rfl⟩ (fun hHeld => ?_); refine with_tabW invoice_Check.tab6 invoice_Check.bits6 (fun HT_ HW_ => ?_)
                      generalize w61.drew = w62 at BK113 HB hHeld ⊢
                      refine pureA_ 0 15 (bm 29 1) ?_
                      refine pureA_ 1 16 (bm 29 3) ?_
                      refine pureA_ 2 17 (bm 29 7) ?_
                      refine pureU_ 3 18 (bm 29 15) ?_
                      refine pureU_ 4 19 (bm 29 31) ?_
                      refine pureU_ 5 20 (bm 29 63) ?_
                      refine pureU_ 6 21 (bm 29 127) ?_
                      refine pureU_ 7 22 (bm 29 255) ?_
                      refine pureU_ 8 23 (bm 29 511) ?_
                      refine pureU_ 9 24 (bm 29 1023) ?_
                      refine pureU_ 10 25 (bm 29 2047) ?_
                      refine pureU_ 11 26 (bm 29 4095) ?_
                      refine pureA_ 12 27 (bm 29 8191) ?_
                      refine pureA_ 13 28 (bm 29 16383) ?_
                      refine pureA_ 14 29 (bm 29 32767) ?_
                      refine take_ (i := 15) (N := some 30) (v := ?_) (a' := ?_) #[true, true, true, true, true, true, true, true, true, true, true, true, true, true, true, true, false, false, false, false, false, false, false, false, false, false, false, false, false] rfl rfl (take_ofW HT_.out HW_.out (by kernel_rfl)) (fun _ _ _ h => h) (Or.inl ⟨by rfl, ?_⟩) hHeld ?_ ?_
                      rotate_left
                      · rintro w' ⟨s0, s1, s2, s3⟩
                        go_simp
                        with_reducible rfl
                      rotate_left
                      · simp only [Act.put, List.setIfInBounds_toArray, List.set_cons_zero, List.set_cons_succ, i64_w, i32_w]
                        rfl
                      refine one_ (i := 16) (N := some 31) #[true, true, true, true, true, true, true, true, true, true, true, true, true, true, true, true, true, false, false, false, false, false, false, false, false, false, false, false, false] rfl rfl (one_of HT_.out (by kernel_rfl)) (by decide) (fun K hK => ?_)
                      refine goes_ Try.func26 (by kernel_rfl) rfl #[.int .u64 ((rd_T34 l0 x10_1).f1)] (by rfl) rfl rfl (by (try simp only [List.map_toArray, List.map_cons, List.map_nil]); first | done | rfl | (simp only [List.length_drop, List.length_take]; rfl)) ?_
                      with_reducible refine (invoice_bill.calls k1 ((rd_T34 l0 x10_1).f1) true _ A45.out).mono ?_
                      rintro e w63 ⟨rfl, hb⟩
                      refine ⟨_, rfl, ?_⟩
                      have n0_ := Aside0.mk (blk_below (g := gb113) (blkN BK113) hb)
                      have n1_ := Aside0.mk (below_step (belN HB) hb)
                      clear BK113
                      clear HB
                      have BK113 := n0_
                      have HB := n1_
                      clear n0_ n1_
                      (try clear hb)
                      (try clear hb2)
                      (try clear hk)
                      (try clear hi)
                      refine hK.out _ _ ⟨(blk_cell BK113.out 0).trans rfl, (blk_cell BK113.out 1).trans rfl, (blk_cell BK113.out 2).trans rfl, (blk_cell BK113.out 3).trans rfl⟩ (fun hHeld => ?_)
                      clear hK K
                      refine norm_ (a' := ?_) ?_ ?_
                      rotate_left
                      · show Act.put _ (some 31) _ = _
                        simp only [Act.put, List.setIfInBounds_toArray, List.set_cons_zero, List.set_cons_succ, i64_w, i32_w]
                        rfl
                      refine pureA_ 17 32 (bm 29 262143) ?_
                      refine pureA_ 18 33 (bm 29 524287) ?_
                      refine pureA_ 19 34 (bm 29 1048575) ?_
                      refine pureA_ 20 35 (bm 29 2097151) ?_
                      refine take_ (i := 21) (N := some 36) (v := ?_) (a' := ?_) #[true, true, true, true, true, true, true, true, true, true, true, true, true, true, true, true, true, true, true, true, true, true, false, false, false, false, false, false, false] rfl rfl (take_ofW HT_.out HW_.out (by kernel_rfl)) (fun _ _ _ h => h) (Or.inl ⟨by rfl, ?_⟩) hHeld ?_ ?_
                      rotate_left
                      · rintro w' ⟨s0, s1, s2, s3⟩
                        go_simp
                        with_reducible rfl
                      rotate_left
                      · simp only [Act.put, List.setIfInBounds_toArray, List.set_cons_zero, List.set_cons_succ, i64_w, i32_w]
                        rfl
                      refine pureA_ 22 37 (bm 29 8388607) ?_
                      refine pureA_ 23 38 (bm 29 16777215) ?_
                      refine pureA_ 24 39 (bm 29 33554431) ?_
                      refine pureA_ 25 40 (bm 29 67108863) ?_
                      refine take_ (i := 26) (N := some 41) (v := ?_) (a' := ?_) #[true, true, true, true, true, true, true, true, true, true, true, true, true, true, true, true, true, true, true, true, true, true, true, true, true, true, true, false, false] rfl rfl (take_ofW HT_.out HW_.out (by kernel_rfl)) (fun _ _ _ h => h) (Or.inl ⟨by rfl, ?_⟩) hHeld ?_ ?_
                      rotate_left
                      · rintro w' ⟨s0, s1, s2, s3⟩
                        go_simp
                        with_reducible rfl
                      rotate_left
                      · simp only [Act.put, List.setIfInBounds_toArray, List.set_cons_zero, List.set_cons_succ, i64_w, i32_w]
                        rfl
                      refine pureA_ 27 42 (bm 29 268435455) ?_
                      refine pureA_ 28 43 (bm 29 536870911) ?_
                      refine done_ (done_of HT_.out (by kernel_rfl)) ?_
                      try go_wp2
                      go_roundg k1
                      case measure => have := HK1.out; omega
                      case rel => exact ⟨(wrap64 (x10_1 + 1)), (by first | rfl | (simp; done) | (simp [*]; done)), H', ⟨by have := HK1.out; omega⟩, ⟨by repeat (first | (with_reducible first | exact HB.out | apply below_alloc | apply pw_below_drewN | apply below_drew1 | refine below_set ?_ GE113.out) | exact HB.out)⟩⟩
                · replace c46 := Bool.eq_false_iff.mpr c46
                  subst c46
                  have H1 : (some 1) = some r := by rw [if_neg (show ¬ (false = true) by decide)] at H; exact H
                  clear H
                  have H := H1
                  clear H1
                  obtain rfl := Option.some.inj H
                  have p112 : 0 ≤ (x10_1 : Int) := of_decide_eq_true (by first | (with_reducible assumption) | assumption)
                  have q112 : x10_1 < (l0.length : Int) := of_decide_eq_true (by first | (with_reducible assumption) | assumption)
                  obtain ⟨ad112, e112, hx112_0, hx112_1, hx112_2, hx112_3⟩ := at_T34 HR0.out x10_1 p112 q112
                  cases e112
                  replace hx112_0 := (HB.out.cell (World.block_lt_of_cell? w _ hx112_0)).trans hx112_0
                  replace hx112_1 := (HB.out.cell (World.block_lt_of_cell? w _ hx112_1)).trans hx112_1
                  replace hx112_2 := (HB.out.cell (World.block_lt_of_cell? w _ hx112_2)).trans hx112_2
                  replace hx112_3 := (HB.out.cell (World.block_lt_of_cell? w _ hx112_3)).trans hx112_3
                  replace p112 := eq_true p112
                  replace q112 := eq_true q112
                  try go_wp2_with (first | ((with_reducible refine gate_dst (N := 4) rfl ?_); refine box_event ?hg (N := 4) ?hd (cs := #[.int .u64 0, .int .u64 0, .int .u64 0, .int .i64 0]) (t := 34) ?hr ?_; (case hd => rfl); (case hg => rfl); (case hr => first | (go_simp; done) | (go_simp; rfl)); intro gb113 hg w64 hbox hb; have n0_ := Aside0.mk (below_step (belN HB) hb); have n1_ := Aside0.mk (hbox); have n2_ := Aside0.mk ((by rw [hg]; exact (below_size (belN HB)) : w.heap.size ≤ gb113)); have n3_ := Aside0.mk ((by rw [hg]; exact (below_size (belN HB)) : w.heap.size ≤ gb113)); clear HB; have HB := n0_; have BK113 := n1_; have GW113 := n2_; have GE113 := n3_; clear n0_ n1_ n2_ n3_; clear hb hbox hg; obtain ⟨hcz65_0, hcz65_1, hcz65_2, hcz65_3, hfz65_0, hfz65_1, hfz65_2, hfz65_3⟩ := cz4_ (w := w64) BK113.out) | ((with_reducible refine gate_store (t := 34) (p := 4) rfl ?_); refine store_event (t := 34) (p := 4) (v := ?vo_w66) (w1 := ((((w64.setCell ⟨gb113, 0, none⟩ (.int .u64 ((rd_T34 l0 x10_1).f0))).setCell ⟨gb113, 1, none⟩ (.int .u64 ((rd_T34 l0 x10_1).f1))).setCell ⟨gb113, 2, none⟩ (.int .u64 ((rd_T34 l0 x10_1).f2))).setCell ⟨gb113, 3, none⟩ (.int .i64 ((rd_T34 l0 x10_1).f3)))) ?hg ?ho ?hn ?hr ?_; (case ho => rfl); (case hg => rfl); (case hn => rfl); (case hr => first | (go_simp; done) | (go_simp; rfl)); intro w66 hw; have n0_ : Aside0 (w66.heap[gb113]? = some (.cells #[.int .u64 ((rd_T34 l0 x10_1).f0), .int .u64 ((rd_T34 l0 x10_1).f1), .int .u64 ((rd_T34 l0 x10_1).f2), .int .i64 ((rd_T34 l0 x10_1).f3)] 34 (0, 0))) := ⟨(by rw [hw]; exact (by (with_reducible repeat (first | refine blk_drewN ?_ _ | refine blk_drew ?_ | refine blk_alloc ?_ _)); refine blk_put (cs := #[.int .u64 ((rd_T34 l0 x10_1).f0), .int .u64 ((rd_T34 l0 x10_1).f1), .int .u64 ((rd_T34 l0 x10_1).f2), .int .i64 0]) ?_ 3 _ rfl; refine blk_put (cs := #[.int .u64 ((rd_T34 l0 x10_1).f0), .int .u64 ((rd_T34 l0 x10_1).f1), .int .u64 0, .int .i64 0]) ?_ 2 _ rfl; refine blk_put (cs := #[.int .u64 ((rd_T34 l0 x10_1).f0), .int .u64 0, .int .u64 0, .int .i64 0]) ?_ 1 _ rfl; refine blk_put (cs := #[.int .u64 0, .int .u64 0, .int .u64 0, .int .i64 0]) ?_ 0 _ rfl; (with_reducible repeat (first | refine blk_drewN ?_ _ | refine blk_drew ?_ | refine blk_alloc ?_ _)); exact BK113.out))⟩; have n1_ : Aside0 (Below w.heap.size w w66) := ⟨(by rw [hw]; exact (belN HB))⟩; clear hw; clear BK113; clear HB; have BK113 := n0_; have HB := n1_; clear n0_ n1_))
                  have n0_ := Aside0.mk (blk_drew BK113.out)
                  have n1_ := Aside0.mk (below_drew1 HB.out)
                  clear BK113
                  clear HB
                  have BK113 := n0_
                  have HB := n1_
                  clear n0_ n1_
                  refine start_ (n := 29) (S := fun w' => w'.cell? ⟨gb113, 0, none⟩ = some (.int .u64 ((rd_T34 l0 x10_1).f0)) ∧ w'.cell? ⟨gb113, 1, none⟩ = some (.int .u64 ((rd_T34 l0 x10_1).f1)) ∧ w'.cell? ⟨gb113, 2, none⟩ = some (.int .u64 ((rd_T34 l0 x10_1).f2)) ∧ w'.cell? ⟨gb113, 3, none⟩ = some (.int .i64 ((rd_T34 l0 x10_1).f3))) (ds := []) #[false, false, false, false, false, false, false, false, false, false, false, false, false, false, false, false, false, false, false, false, false, false, false, false, false, false, false, false, false] (by kernel_rfl) rfl rfl ⟨(blk_cell BK113.out 0).trans rfl, (blk_cell BK113.out 1).trans rfl, (blk_cell BK113.out 2).trans rfl, (blk_cell BK113.out 3).trans rfl⟩ (fun hHeld => ?_); refine with_tabW invoice_Check.tab6 invoice_Check.bits6 (fun HT_ HW_ => ?_)
                  generalize w66.drew = w67 at BK113 HB hHeld ⊢
                  refine pureA_ 0 15 (bm 29 1) ?_
                  refine pureA_ 1 16 (bm 29 3) ?_
                  refine pureA_ 2 17 (bm 29 7) ?_
                  refine pureU_ 3 18 (bm 29 15) ?_
                  refine pureU_ 4 19 (bm 29 31) ?_
                  refine pureU_ 5 20 (bm 29 63) ?_
                  refine pureU_ 6 21 (bm 29 127) ?_
                  refine pureU_ 7 22 (bm 29 255) ?_
                  refine pureU_ 8 23 (bm 29 511) ?_
                  refine pureU_ 9 24 (bm 29 1023) ?_
                  refine pureU_ 10 25 (bm 29 2047) ?_
                  refine pureU_ 11 26 (bm 29 4095) ?_
                  refine pureA_ 12 27 (bm 29 8191) ?_
                  refine pureA_ 13 28 (bm 29 16383) ?_
                  refine pureA_ 14 29 (bm 29 32767) ?_
                  refine take_ (i := 15) (N := some 30) (v := ?_) (a' := ?_) #[true, true, true, true, true, true, true, true, true, true, true, true, true, true, true, true, false, false, false, false, false, false, false, false, false, false, false, false, false] rfl rfl (take_ofW HT_.out HW_.out (by kernel_rfl)) (fun _ _ _ h => h) (Or.inl ⟨by rfl, ?_⟩) hHeld ?_ ?_
                  rotate_left
                  · rintro w' ⟨s0, s1, s2, s3⟩
                    go_simp
                    with_reducible rfl
                  rotate_left
                  · simp only [Act.put, List.setIfInBounds_toArray, List.set_cons_zero, List.set_cons_succ, i64_w, i32_w]
                    rfl
                  refine one_ (i := 16) (N := some 31) #[true, true, true, true, true, true, true, true, true, true, true, true, true, true, true, true, true, false, false, false, false, false, false, false, false, false, false, false, false] rfl rfl (one_of HT_.out (by kernel_rfl)) (by decide) (fun K hK => ?_)
                  refine goes_ Try.func26 (by kernel_rfl) rfl #[.int .u64 ((rd_T34 l0 x10_1).f1)] (by rfl) rfl rfl (by (try simp only [List.map_toArray, List.map_cons, List.map_nil]); first | done | rfl | (simp only [List.length_drop, List.length_take]; rfl)) ?_
                  with_reducible refine (invoice_bill.calls k1 ((rd_T34 l0 x10_1).f1) false _ A45.out).mono ?_
                  rintro e w68 ⟨rfl, hb⟩
                  refine ⟨_, rfl, ?_⟩
                  have n0_ := Aside0.mk (blk_below (g := gb113) (blkN BK113) hb)
                  have n1_ := Aside0.mk (below_step (belN HB) hb)
                  clear BK113
                  clear HB
                  have BK113 := n0_
                  have HB := n1_
                  clear n0_ n1_
                  (try clear hb)
                  (try clear hb2)
                  (try clear hk)
                  (try clear hi)
                  refine hK.out _ _ ⟨(blk_cell BK113.out 0).trans rfl, (blk_cell BK113.out 1).trans rfl, (blk_cell BK113.out 2).trans rfl, (blk_cell BK113.out 3).trans rfl⟩ (fun hHeld => ?_)
                  clear hK K
                  refine norm_ (a' := ?_) ?_ ?_
                  rotate_left
                  · show Act.put _ (some 31) _ = _
                    simp only [Act.put, List.setIfInBounds_toArray, List.set_cons_zero, List.set_cons_succ, i64_w, i32_w]
                    rfl
                  refine pureA_ 17 32 (bm 29 262143) ?_
                  refine pureA_ 18 33 (bm 29 524287) ?_
                  refine pureA_ 19 34 (bm 29 1048575) ?_
                  refine pureU_ 20 35 (bm 29 2097151) ?_
                  refine pureU_ 21 36 (bm 29 4194303) ?_
                  refine pureU_ 22 37 (bm 29 8388607) ?_
                  refine pureA_ 23 38 (bm 29 16777215) ?_
                  refine pureA_ 24 39 (bm 29 33554431) ?_
                  refine pureU_ 25 40 (bm 29 67108863) ?_
                  refine pureU_ 26 41 (bm 29 134217727) ?_
                  refine pureU_ 27 42 (bm 29 268435455) ?_
                  refine pureA_ 28 43 (bm 29 536870911) ?_
                  refine done_ (done_of HT_.out (by kernel_rfl)) ?_
                  try go_wp2
                  go_ret
                  exact ⟨by first | rfl | (simp [errW_none, errW_some] <;> rfl) | (simp [*, errW_none, errW_some] <;> rfl), by repeat (first | (with_reducible first | exact HB.out | apply below_alloc | apply pw_below_drewN | apply below_drew1 | refine below_set ?_ GE113.out) | exact HB.out)⟩
            · rw [if_neg c5] at H
              exact absurd H (by simp)
          · rw [if_neg c4] at H
            exact absurd H (by simp)
        · rw [if_neg c3] at H
          have c3b0 : decide (x10_1 < (l0.length : Int)) = false := decide_eq_false c3
          clear c3
          obtain rfl := Option.some.inj H
          go_wp2
          go_ret
          exact ⟨by first | rfl | (simp [errW_none, errW_some] <;> rfl) | (simp [*, errW_none, errW_some] <;> rfl), by repeat (first | (with_reducible first | exact HB.out | apply below_alloc | apply pw_below_drewN | apply below_drew1) | exact HB.out)⟩

end Go.Proofs.Ytlpdgagohafmaaa.P
