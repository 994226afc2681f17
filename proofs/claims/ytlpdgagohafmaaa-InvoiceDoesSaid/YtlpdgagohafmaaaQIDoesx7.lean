-- written by a program of this session (wip/print)
import Derived.Test.YtlpdgagohafmaaaQIDoesx0
import Derived.Test.YtlpdgagohafmaaaQIDoesx6
namespace Go.Proofs.Ytlpdgagohafmaaa.P
open Go.RowKit Go.Proofs.YtlpdgagohafmaaaW.PrintWords Go.Proofs.YtlpdgagohafmaaaW.PrintLast Go.Proofs.YtlpdgagohafmaaaW.PrintMore
attribute [local go_sem] max2_int min2_int max_two min_two max_three min_three max_four min_four   -- for this text's walks alone
set_option linter.unusedVariables false
set_option linter.unusedSimpArgs false

/-! ### damsonref12_Check: function 24 -/
def damsonref12_Check.l0 : Nat → List (S34) → List (S34) → Int → Int → Option (Int)
  | 0, _, _, _, _ => none
  | k + 1, x0, x8, x9, x10 => if x10 < x9 then (if 0 ≤ x10 then (if x10 < (x8.length : Int) then (if x10 > 0 then (if 0 ≤ (wrap64 (x10 - 1)) then (if (wrap64 (x10 - 1)) < (x0.length : Int) then (if ((rd_T34 x0 (wrap64 (x10 - 1))).f0) ≥ ((rd_T34 x8 x10).f0) then (some 1) else (if ((rd_T34 x8 x10).f1) = 0 then (some 1) else ((damsonref04_Check.f k (([(rd_T34 x8 x10).f1] : List Int))).bind fun t182 => (if t182 = 0 then (if ((rd_T34 x8 x10).f3) < 1 then (some 1) else (if ((rd_T34 x8 x10).f3) > 3 then (some 1) else (damsonref12_Check.l0 k x0 x8 x9 (wrap64 (x10 + 1))))) else (some 1))))) else (none)) else (none)) else (if ((rd_T34 x8 x10).f1) = 0 then (some 1) else ((damsonref04_Check.f k (([(rd_T34 x8 x10).f1] : List Int))).bind fun t186 => (if t186 = 0 then (if ((rd_T34 x8 x10).f3) < 1 then (some 1) else (if ((rd_T34 x8 x10).f3) > 3 then (some 1) else (damsonref12_Check.l0 k x0 x8 x9 (wrap64 (x10 + 1))))) else (some 1))))) else (none)) else (none)) else (some 0)
def damsonref12_Check.f (k : Nat) (l0 : List (S34)) : Option (Int) := if (l0.length : Int) > 256 then (some 1) else (damsonref12_Check.l0 k l0 l0 (l0.length : Int) 0)
theorem damsonref12_Check.mono_l : ∀ k, (∀ y0 y1 y2 y3, LeO (damsonref12_Check.l0 k y0 y1 y2 y3) (damsonref12_Check.l0 (k + 1) y0 y1 y2 y3))
  | 0 => fun _ _ _ _ r h => by simp [damsonref12_Check.l0] at h
  | k + 1 => by
    have ih0 := damsonref12_Check.mono_l k
    · intro y0 y1 y2 y3
      unfold damsonref12_Check.l0
      repeat' first
      | (with_reducible exact ih0 _ _ _ _)
      | (with_reducible exact damsonref04_Check.mono _ _)
      | (with_reducible exact LeO.refl _)
      | (with_reducible exact LeO.none _)
      | (with_reducible refine LeO.ite ?_ ?_)
      | (with_reducible refine LeO.bind ?_ (fun _ => ?_))
      | exact ih0 _ _ _ _
      | exact damsonref04_Check.mono _ _
      | exact LeO.none _
      | refine LeO.ite ?_ ?_
      | refine LeO.bind ?_ (fun _ => ?_)
theorem damsonref12_Check.mono : ∀ a0 k, LeO (damsonref12_Check.f k a0) (damsonref12_Check.f (k + 1) a0) := by
  intro a0 k
  have ih0 := damsonref12_Check.mono_l k
  unfold damsonref12_Check.f
  repeat' first
      | (with_reducible exact ih0 _ _ _ _)
      | (with_reducible exact damsonref04_Check.mono _ _)
      | (with_reducible exact LeO.refl _)
      | (with_reducible exact LeO.none _)
      | (with_reducible refine LeO.ite ?_ ?_)
      | (with_reducible refine LeO.bind ?_ (fun _ => ?_))
      | exact ih0 _ _ _ _
      | exact damsonref04_Check.mono _ _
      | exact LeO.none _
      | refine LeO.ite ?_ ?_
      | refine LeO.bind ?_ (fun _ => ?_)
def damsonref12_Check.T6 : Bool × List (List Nat × List Nat) := (true, [([], []), ([0], [0]), ([1], [1]), ([2], [2]), ([2], [2]), ([4, 2], [2, 4]), ([3, 5, 2], [2, 3, 5]), ([6, 2], [2, 6]), ([7, 2], [2, 7]), ([2], [2]), ([9, 2], [2, 9]), ([8, 10, 2], [2, 8, 10]), ([2, 11], [2, 11]), ([12, 2], [12]), ([13], [13]), ([14, 13], [13, 14]), ([15, 13], [13, 15]), ([13, 16], [13, 16]), ([17, 13], [17]), ([18], [18]), ([19, 18], [18, 19]), ([20, 18], [18, 20]), ([21, 18, 18], [18, 21]), ([22, 18], [18, 22]), ([18, 23], [18, 23]), ([24, 22], [24]), ([25], [25]), ([26, 25], [25, 26]), ([27, 25], [25, 27]), ([25, 28], [25, 28]), ([29, 25], [29]), ([30], [30]), ([31, 30], [30, 31]), ([32, 30], [30, 32]), ([30, 33], [30, 33])])
def damsonref12_Check.B6 : List Nat := [0, 1, 3, 7, 7, 23, 63, 127, 255, 7, 519, 2047, 4095, 8191, 16383, 32767, 65535, 131071, 262143, 524287, 1048575, 2097151, 4194303, 8388607, 16777215, 33554431, 67108863, 134217727, 268435455, 536870911, 1073741823, 2147483647, 4294967295, 8589934591, 17179869183]
theorem damsonref12_Check.tab6 : rtab .any (opsOf Try.f24 6) = damsonref12_Check.T6 := by kernel_rfl
theorem damsonref12_Check.bits6 : waitsOk damsonref12_Check.T6.2 damsonref12_Check.B6 = true := by kernel_rfl
set_option maxHeartbeats 8000000 in
set_option maxRecDepth 100000 in
theorem damsonref12_Check.calls (k : Nat) (A0 : Option Addr) (c0 : Nat) (l0 : List (S34)) (r : Int) (w : World) (hr0 : Kd.C k34 w A0 l0.length l0) (hc0 : l0.length ≤ c0) (h : damsonref12_Check.f k l0 = some r) :
    Calls Try.prog 24 #[.slice A0 l0.length c0] w fun e w' => e = .returned (.int .i64 r) ∧ Below w.heap.size w w' := by
  have hu34 := Try.underlying34
  have HR0 := Aside0.mk hr0
  have HC0 := Aside0.mk hc0
  clear hr0 hc0
  have HB := Aside0.mk (Below.refl w.heap.size w)
  have H : (if (l0.length : Int) > 256 then (some 1) else (damsonref12_Check.l0 k l0 l0 (l0.length : Int) 0)) = some r := h
  clear h
  by_cases c2 : (l0.length : Int) > 256
  · rw [if_pos c2] at H
    have c2b0 : decide (256 < (l0.length : Int)) = true := decide_eq_true c2
    have c2b1 : decide (256 < l0.length) = true := decide_eq_true (by omega)
    clear c2
    obtain rfl := Option.some.inj H
    go_enter Try.func24, Try.ntmps24
    go_wp2
    go_ret
    exact ⟨by first | rfl | (simp [errW_none, errW_some] <;> rfl) | (simp [*, errW_none, errW_some] <;> rfl), by repeat (first | (with_reducible first | exact HB.out | apply below_alloc | apply pw_below_drewN | apply below_drew1) | exact HB.out)⟩
  · rw [if_neg c2] at H
    have c2b0 : decide (256 < (l0.length : Int)) = false := decide_eq_false c2
    have c2b1 : decide (256 < l0.length) = false := decide_eq_false (by omega)
    clear c2
    have H' := Aside0.mk H
    clear H
    go_enter Try.func24, Try.ntmps24
    go_wp2
    go_loopg [10] k (fun kq v10 w' => ∃ (x10_1 : Int), v10 = .int .i64 x10_1 ∧ Aside0 (damsonref12_Check.l0 kq l0 l0 (l0.length : Int) x10_1 = some r) ∧ Aside0 (kq ≤ k) ∧ Aside0 (Below w.heap.size w w'))
    case atStart => exact ⟨(0), (by first | rfl | (simp; done) | (simp [*]; done)), H', ⟨Nat.le_refl _⟩, ⟨by repeat (first | (with_reducible first | exact HB.out | apply below_alloc | apply pw_below_drewN | apply below_drew1) | exact HB.out)⟩⟩
    case round =>
      clear H'
      try clear c2
      try clear c2b0
      try clear c2b1
      try clear p2
      obtain ⟨x10_1, rfl, HA, HK1, HB⟩ := hrel
      cases gk with
      | zero => exact absurd HA.out (by simp [damsonref12_Check.l0])
      | succ k1 =>
        have H := HA.out
        clear HA
        simp only [damsonref12_Check.l0] at H
        by_cases c3 : x10_1 < (l0.length : Int)
        · rw [if_pos c3] at H
          have c3b0 : decide (x10_1 < (l0.length : Int)) = true := decide_eq_true c3
          clear c3
          by_cases c4 : 0 ≤ x10_1
          · rw [if_pos c4] at H
            have c4b0 : decide (0 ≤ x10_1) = true := decide_eq_true c4
            clear c4
            by_cases c5 : x10_1 < (l0.length : Int)
            · rw [if_pos c5] at H
              have c5b0 : decide (x10_1 < (l0.length : Int)) = true := decide_eq_true c5
              clear c5
              by_cases c6 : x10_1 > 0
              · rw [if_pos c6] at H
                have c6b0 : decide (0 < x10_1) = true := decide_eq_true c6
                clear c6
                obtain ⟨ji7, hji7⟩ : ∃ j_ : Int, (wrap64 (x10_1 - 1)) = j_ := ⟨_, rfl⟩
                replace H : (if 0 ≤ (ji7) then (if (ji7) < (l0.length : Int) then (if ((rd_T34 l0 (ji7)).f0) ≥ ((rd_T34 l0 x10_1).f0) then (some 1) else (if ((rd_T34 l0 x10_1).f1) = 0 then (some 1) else ((damsonref04_Check.f k1 (([(rd_T34 l0 x10_1).f1] : List Int))).bind fun t182 => (if t182 = 0 then (if ((rd_T34 l0 x10_1).f3) < 1 then (some 1) else (if ((rd_T34 l0 x10_1).f3) > 3 then (some 1) else (damsonref12_Check.l0 k1 l0 l0 (l0.length : Int) (wrap64 (x10_1 + 1))))) else (some 1))))) else (none)) else (none)) = some r := by first | (rw [hji7] at H; exact H) | (simp only [hji7] at H ⊢; exact H)
                have hji7w : (IntKind.i64.wrap (x10_1 - 1)) = ji7 := (i64_w _).trans hji7
                by_cases c8 : 0 ≤ (ji7)
                · rw [if_pos c8] at H
                  have c8b0 : decide (0 ≤ (ji7)) = true := decide_eq_true c8
                  clear c8
                  by_cases c9 : (ji7) < (l0.length : Int)
                  · rw [if_pos c9] at H
                    have c9b0 : decide ((ji7) < (l0.length : Int)) = true := decide_eq_true c9
                    clear c9
                    by_cases c10 : ((rd_T34 l0 (ji7)).f0) ≥ ((rd_T34 l0 x10_1).f0)
                    · rw [if_pos c10] at H
                      have c10b0 : decide (((rd_T34 l0 x10_1).f0) ≤ ((rd_T34 l0 (ji7)).f0)) = true := decide_eq_true c10
                      clear c10
                      obtain rfl := Option.some.inj H
                      have p176 : 0 ≤ (x10_1 : Int) := of_decide_eq_true (by first | (with_reducible assumption) | assumption)
                      have q176 : x10_1 < (l0.length : Int) := of_decide_eq_true (by first | (with_reducible assumption) | assumption)
                      obtain ⟨ad176, e176, hx176_0, hx176_1, hx176_2, hx176_3⟩ := at_T34 HR0.out x10_1 p176 q176
                      cases e176
                      replace hx176_0 := (HB.out.cell (World.block_lt_of_cell? w _ hx176_0)).trans hx176_0
                      replace hx176_1 := (HB.out.cell (World.block_lt_of_cell? w _ hx176_1)).trans hx176_1
                      replace hx176_2 := (HB.out.cell (World.block_lt_of_cell? w _ hx176_2)).trans hx176_2
                      replace hx176_3 := (HB.out.cell (World.block_lt_of_cell? w _ hx176_3)).trans hx176_3
                      replace p176 := eq_true p176
                      replace q176 := eq_true q176
                      try go_wp2_with (first | ((with_reducible refine gate_dst (N := 4) rfl ?_); (try (refine gate_guard (by rfl) ?_; dsimp only)); refine box_event ?hg (N := 4) ?hd (cs := #[.int .u64 0, .int .u64 0, .int .u64 0, .int .i64 0]) (t := 34) ?hr ?_; (case hd => rfl); (case hg => rfl); (case hr => first | (go_simp; done) | (go_simp; rfl)); intro gb177 hg w11 hbox hb; have n0_ := Aside0.mk (below_step (belN HB) hb); have n1_ := Aside0.mk (hbox); have n2_ := Aside0.mk ((by rw [hg]; exact (below_size (belN HB)) : w.heap.size ≤ gb177)); have n3_ := Aside0.mk ((by rw [hg]; exact (below_size (belN HB)) : w.heap.size ≤ gb177)); clear HB; have HB := n0_; have BK177 := n1_; have GW177 := n2_; have GE177 := n3_; clear n0_ n1_ n2_ n3_; clear hb hbox hg; obtain ⟨hcz12_0, hcz12_1, hcz12_2, hcz12_3, hfz12_0, hfz12_1, hfz12_2, hfz12_3⟩ := cz4_ (w := w11) BK177.out) | ((with_reducible refine gate_store (t := 34) (p := 4) rfl ?_); refine store_event (t := 34) (p := 4) (v := ?vo_w13) (w1 := ((((w11.setCell ⟨gb177, 0, none⟩ (.int .u64 ((rd_T34 l0 x10_1).f0))).setCell ⟨gb177, 1, none⟩ (.int .u64 ((rd_T34 l0 x10_1).f1))).setCell ⟨gb177, 2, none⟩ (.int .u64 ((rd_T34 l0 x10_1).f2))).setCell ⟨gb177, 3, none⟩ (.int .i64 ((rd_T34 l0 x10_1).f3)))) ?hg ?ho ?hn ?hr ?_; (case ho => rfl); (case hg => rfl); (case hn => rfl); (case hr => first | (go_simp; done) | (go_simp; rfl)); intro w13 hw; have n0_ : Aside0 (w13.heap[gb177]? = some (.cells #[.int .u64 ((rd_T34 l0 x10_1).f0), .int .u64 ((rd_T34 l0 x10_1).f1), .int .u64 ((rd_T34 l0 x10_1).f2), .int .i64 ((rd_T34 l0 x10_1).f3)] 34 (0, 0))) := ⟨(by rw [hw]; exact (by (with_reducible repeat (first | refine blk_drewN ?_ _ | refine blk_drew ?_ | refine blk_alloc ?_ _)); refine blk_put (cs := #[.int .u64 ((rd_T34 l0 x10_1).f0), .int .u64 ((rd_T34 l0 x10_1).f1), .int .u64 ((rd_T34 l0 x10_1).f2), .int .i64 0]) ?_ 3 _ rfl; refine blk_put (cs := #[.int .u64 ((rd_T34 l0 x10_1).f0), .int .u64 ((rd_T34 l0 x10_1).f1), .int .u64 0, .int .i64 0]) ?_ 2 _ rfl; refine blk_put (cs := #[.int .u64 ((rd_T34 l0 x10_1).f0), .int .u64 0, .int .u64 0, .int .i64 0]) ?_ 1 _ rfl; refine blk_put (cs := #[.int .u64 0, .int .u64 0, .int .u64 0, .int .i64 0]) ?_ 0 _ rfl; (with_reducible repeat (first | refine blk_drewN ?_ _ | refine blk_drew ?_ | refine blk_alloc ?_ _)); exact BK177.out))⟩; have n1_ : Aside0 (Below w.heap.size w w13) := ⟨(by rw [hw]; exact (belN HB))⟩; clear hw; clear BK177; clear HB; have BK177 := n0_; have HB := n1_; clear n0_ n1_))
                      have n0_ := Aside0.mk (blk_drew BK177.out)
                      have n1_ := Aside0.mk (below_drew1 HB.out)
                      clear BK177
                      clear HB
                      have BK177 := n0_
                      have HB := n1_
                      clear n0_ n1_
                      have p178 : 0 ≤ ((ji7) : Int) := of_decide_eq_true (by first | (with_reducible assumption) | assumption)
                      have q178 : (ji7) < (l0.length : Int) := of_decide_eq_true (by first | (with_reducible assumption) | assumption)
                      obtain ⟨ad178, e178, hx178_0, hx178_1, hx178_2, hx178_3⟩ := at_T34 HR0.out (ji7) p178 q178
                      have hw178_3 := hx178_3
                      have hw178_2 := hx178_2
                      have hw178_1 := hx178_1
                      have hw178_0 := hx178_0
                      obtain rfl : ad176 = ad178 := (by injection e178)
                      replace hx178_0 := (HB.out.cell (World.block_lt_of_cell? w _ hx178_0)).trans hx178_0
                      replace hx178_1 := (HB.out.cell (World.block_lt_of_cell? w _ hx178_1)).trans hx178_1
                      replace hx178_2 := (HB.out.cell (World.block_lt_of_cell? w _ hx178_2)).trans hx178_2
                      replace hx178_3 := (HB.out.cell (World.block_lt_of_cell? w _ hx178_3)).trans hx178_3
                      replace p178 := eq_true p178
                      replace q178 := eq_true q178
                      refine start_ (n := 35) (S := fun w' => w'.cell? ⟨gb177, 0, none⟩ = some (.int .u64 ((rd_T34 l0 x10_1).f0)) ∧ w'.cell? ⟨gb177, 1, none⟩ = some (.int .u64 ((rd_T34 l0 x10_1).f1)) ∧ w'.cell? ⟨gb177, 2, none⟩ = some (.int .u64 ((rd_T34 l0 x10_1).f2)) ∧ w'.cell? ⟨gb177, 3, none⟩ = some (.int .i64 ((rd_T34 l0 x10_1).f3)) ∧ w'.cell? (ad176.add (((ji7)).toNat * 4)) = some (.int .u64 ((rd_T34 l0 (ji7)).f0)) ∧ w'.cell? ⟨(ad176.add (((ji7)).toNat * 4)).block, (ad176.add (((ji7)).toNat * 4)).off + 1, none⟩ = some (.int .u64 ((rd_T34 l0 (ji7)).f1)) ∧ w'.cell? ⟨(ad176.add (((ji7)).toNat * 4)).block, (ad176.add (((ji7)).toNat * 4)).off + 2, none⟩ = some (.int .u64 ((rd_T34 l0 (ji7)).f2)) ∧ w'.cell? ⟨(ad176.add (((ji7)).toNat * 4)).block, (ad176.add (((ji7)).toNat * 4)).off + 3, none⟩ = some (.int .i64 ((rd_T34 l0 (ji7)).f3))) (ds := []) #[false, false, false, false, false, false, false, false, false, false, false, false, false, false, false, false, false, false, false, false, false, false, false, false, false, false, false, false, false, false, false, false, false, false, false] (by kernel_rfl) rfl rfl ⟨(blk_cell BK177.out 0).trans rfl, (blk_cell BK177.out 1).trans rfl, (blk_cell BK177.out 2).trans rfl, (blk_cell BK177.out 3).trans rfl, ((HB.out.cell (World.block_lt_of_cell? w _ hw178_0)).trans hw178_0), ((HB.out.cell (World.block_lt_of_cell? w _ hw178_1)).trans hw178_1), ((HB.out.cell (World.block_lt_of_cell? w _ hw178_2)).trans hw178_2), ((HB.out.cell (World.block_lt_of_cell? w _ hw178_3)).trans hw178_3)⟩ (fun hHeld => ?_); refine with_tabW damsonref12_Check.tab6 damsonref12_Check.bits6 (fun HT_ HW_ => ?_)
                      generalize w13.drew = w14 at BK177 HB hx178_0 hx178_1 hx178_2 hx178_3 hHeld ⊢
                      refine pureA_ 0 15 (bm 35 1) ?_
                      refine pureA_ 1 16 (bm 35 3) ?_
                      refine pureA_ 2 17 (bm 35 7) ?_
                      refine pureA_ 3 18 (bm 35 15) ?_
                      refine pureA_ 4 19 (bm 35 31) ?_
                      refine pureA_ 5 20 (bm 35 63) ?_
                      refine pureA_ 6 21 (bm 35 127) ?_
                      refine pureA_ 7 22 (bm 35 255) ?_
                      refine pureA_ 9 24 (bm 35 767) ?_
                      refine take_ (i := 8) (N := some 23) (v := ?_) (a' := ?_) #[true, true, true, true, true, true, true, true, true, true, false, false, false, false, false, false, false, false, false, false, false, false, false, false, false, false, false, false, false, false, false, false, false, false, false] rfl rfl (take_ofW HT_.out HW_.out (by kernel_rfl)) (fun _ _ _ h => h) (Or.inl ⟨by rfl, ?_⟩) hHeld ?_ ?_
                      rotate_left
                      · rintro w' ⟨s0, s1, s2, s3, s4, s5, s6, s7⟩
                        go_simp
                        with_reducible rfl
                      rotate_left
                      · simp only [Act.put, List.setIfInBounds_toArray, List.set_cons_zero, List.set_cons_succ, i64_w, i32_w]
                        rfl
                      refine take_ (i := 10) (N := some 25) (v := ?_) (a' := ?_) #[true, true, true, true, true, true, true, true, true, true, true, false, false, false, false, false, false, false, false, false, false, false, false, false, false, false, false, false, false, false, false, false, false, false, false] rfl rfl (take_ofW HT_.out HW_.out (by kernel_rfl)) (fun _ _ _ h => h) (Or.inl ⟨by rfl, ?_⟩) hHeld ?_ ?_
                      rotate_left
                      · rintro w' ⟨s0, s1, s2, s3, s4, s5, s6, s7⟩
                        go_simp
                        with_reducible rfl
                      rotate_left
                      · simp only [Act.put, List.setIfInBounds_toArray, List.set_cons_zero, List.set_cons_succ, i64_w, i32_w]
                        rfl
                      refine pureA_ 11 26 (bm 35 4095) ?_
                      refine pureA_ 12 27 (bm 35 8191) ?_
                      refine pureA_ 13 28 (bm 35 16383) ?_
                      refine pureU_ 14 29 (bm 35 32767) ?_
                      refine pureU_ 15 30 (bm 35 65535) ?_
                      refine pureU_ 16 31 (bm 35 131071) ?_
                      refine pureA_ 17 32 (bm 35 262143) ?_
                      refine pureA_ 18 33 (bm 35 524287) ?_
                      refine pureU_ 19 34 (bm 35 1048575) ?_
                      refine pureU_ 20 35 (bm 35 2097151) ?_
                      refine pureU_ 21 36 (bm 35 4194303) ?_
                      refine pureU_ 22 37 (bm 35 8388607) ?_
                      refine pureU_ 23 38 (bm 35 16777215) ?_
                      refine pureA_ 24 39 (bm 35 33554431) ?_
                      refine pureA_ 25 40 (bm 35 67108863) ?_
                      refine pureU_ 26 41 (bm 35 134217727) ?_
                      refine pureU_ 27 42 (bm 35 268435455) ?_
                      refine pureU_ 28 43 (bm 35 536870911) ?_
                      refine pureA_ 29 44 (bm 35 1073741823) ?_
                      refine pureA_ 30 45 (bm 35 2147483647) ?_
                      refine pureU_ 31 46 (bm 35 4294967295) ?_
                      refine pureU_ 32 47 (bm 35 8589934591) ?_
                      refine pureU_ 33 48 (bm 35 17179869183) ?_
                      refine pureA_ 34 49 (bm 35 34359738367) ?_
                      refine done_ (done_of HT_.out (by kernel_rfl)) ?_
                      try go_wp2
                      go_ret
                      exact ⟨by first | rfl | (simp [errW_none, errW_some] <;> rfl) | (simp only [← hji7]; first | rfl | (simp [errW_none, errW_some] <;> rfl)) | (simp [*, errW_none, errW_some] <;> rfl), by repeat (first | (with_reducible first | exact HB.out | apply below_alloc | apply pw_below_drewN | apply below_drew1 | refine below_set ?_ GE177.out) | exact HB.out)⟩
                    · rw [if_neg c10] at H
                      have c10b0 : decide (((rd_T34 l0 x10_1).f0) ≤ ((rd_T34 l0 (ji7)).f0)) = false := decide_eq_false c10
                      clear c10
                      by_cases c15 : ((rd_T34 l0 x10_1).f1) = 0
                      · rw [if_pos c15] at H
                        have c15b0 : (((rd_T34 l0 x10_1).f1) == 0) = true := beq_iff_eq.mpr c15
                        have c15b1 : (((rd_T34 l0 x10_1).f1) != 0) = false := bne_eq_false_iff_eq.mpr c15
                        clear c15
                        obtain rfl := Option.some.inj H
                        have p176 : 0 ≤ (x10_1 : Int) := of_decide_eq_true (by first | (with_reducible assumption) | assumption)
                        have q176 : x10_1 < (l0.length : Int) := of_decide_eq_true (by first | (with_reducible assumption) | assumption)
                        obtain ⟨ad176, e176, hx176_0, hx176_1, hx176_2, hx176_3⟩ := at_T34 HR0.out x10_1 p176 q176
                        cases e176
                        replace hx176_0 := (HB.out.cell (World.block_lt_of_cell? w _ hx176_0)).trans hx176_0
                        replace hx176_1 := (HB.out.cell (World.block_lt_of_cell? w _ hx176_1)).trans hx176_1
                        replace hx176_2 := (HB.out.cell (World.block_lt_of_cell? w _ hx176_2)).trans hx176_2
                        replace hx176_3 := (HB.out.cell (World.block_lt_of_cell? w _ hx176_3)).trans hx176_3
                        replace p176 := eq_true p176
                        replace q176 := eq_true q176
                        try go_wp2_with (first | ((with_reducible refine gate_dst (N := 4) rfl ?_); (try (refine gate_guard (by rfl) ?_; dsimp only)); refine box_event ?hg (N := 4) ?hd (cs := #[.int .u64 0, .int .u64 0, .int .u64 0, .int .i64 0]) (t := 34) ?hr ?_; (case hd => rfl); (case hg => rfl); (case hr => first | (go_simp; done) | (go_simp; rfl)); intro gb177 hg w16 hbox hb; have n0_ := Aside0.mk (below_step (belN HB) hb); have n1_ := Aside0.mk (hbox); have n2_ := Aside0.mk ((by rw [hg]; exact (below_size (belN HB)) : w.heap.size ≤ gb177)); have n3_ := Aside0.mk ((by rw [hg]; exact (below_size (belN HB)) : w.heap.size ≤ gb177)); clear HB; have HB := n0_; have BK177 := n1_; have GW177 := n2_; have GE177 := n3_; clear n0_ n1_ n2_ n3_; clear hb hbox hg; obtain ⟨hcz17_0, hcz17_1, hcz17_2, hcz17_3, hfz17_0, hfz17_1, hfz17_2, hfz17_3⟩ := cz4_ (w := w16) BK177.out) | ((with_reducible refine gate_store (t := 34) (p := 4) rfl ?_); refine store_event (t := 34) (p := 4) (v := ?vo_w18) (w1 := ((((w16.setCell ⟨gb177, 0, none⟩ (.int .u64 ((rd_T34 l0 x10_1).f0))).setCell ⟨gb177, 1, none⟩ (.int .u64 ((rd_T34 l0 x10_1).f1))).setCell ⟨gb177, 2, none⟩ (.int .u64 ((rd_T34 l0 x10_1).f2))).setCell ⟨gb177, 3, none⟩ (.int .i64 ((rd_T34 l0 x10_1).f3)))) ?hg ?ho ?hn ?hr ?_; (case ho => rfl); (case hg => rfl); (case hn => rfl); (case hr => first | (go_simp; done) | (go_simp; rfl)); intro w18 hw; have n0_ : Aside0 (w18.heap[gb177]? = some (.cells #[.int .u64 ((rd_T34 l0 x10_1).f0), .int .u64 ((rd_T34 l0 x10_1).f1), .int .u64 ((rd_T34 l0 x10_1).f2), .int .i64 ((rd_T34 l0 x10_1).f3)] 34 (0, 0))) := ⟨(by rw [hw]; exact (by (with_reducible repeat (first | refine blk_drewN ?_ _ | refine blk_drew ?_ | refine blk_alloc ?_ _)); refine blk_put (cs := #[.int .u64 ((rd_T34 l0 x10_1).f0), .int .u64 ((rd_T34 l0 x10_1).f1), .int .u64 ((rd_T34 l0 x10_1).f2), .int .i64 0]) ?_ 3 _ rfl; refine blk_put (cs := #[.int .u64 ((rd_T34 l0 x10_1).f0), .int .u64 ((rd_T34 l0 x10_1).f1), .int .u64 0, .int .i64 0]) ?_ 2 _ rfl; refine blk_put (cs := #[.int .u64 ((rd_T34 l0 x10_1).f0), .int .u64 0, .int .u64 0, .int .i64 0]) ?_ 1 _ rfl; refine blk_put (cs := #[.int .u64 0, .int .u64 0, .int .u64 0, .int .i64 0]) ?_ 0 _ rfl; (with_reducible repeat (first | refine blk_drewN ?_ _ | refine blk_drew ?_ | refine blk_alloc ?_ _)); exact BK177.out))⟩; have n1_ : Aside0 (Below w.heap.size w w18) := ⟨(by rw [hw]; exact (belN HB))⟩; clear hw; clear BK177; clear HB; have BK177 := n0_; have HB := n1_; clear n0_ n1_))
                        have n0_ := Aside0.mk (blk_drew BK177.out)
                        have n1_ := Aside0.mk (below_drew1 HB.out)
                        clear BK177
                        clear HB
                        have BK177 := n0_
                        have HB := n1_
                        clear n0_ n1_
                        have p178 : 0 ≤ ((ji7) : Int) := of_decide_eq_true (by first | (with_reducible assumption) | assumption)
                        have q178 : (ji7) < (l0.length : Int) := of_decide_eq_true (by first | (with_reducible assumption) | assumption)
                        obtain ⟨ad178, e178, hx178_0, hx178_1, hx178_2, hx178_3⟩ := at_T34 HR0.out (ji7) p178 q178
                        have hw178_3 := hx178_3
                        have hw178_2 := hx178_2
                        have hw178_1 := hx178_1
                        have hw178_0 := hx178_0
                        obtain rfl : ad176 = ad178 := (by injection e178)
                        replace hx178_0 := (HB.out.cell (World.block_lt_of_cell? w _ hx178_0)).trans hx178_0
                        replace hx178_1 := (HB.out.cell (World.block_lt_of_cell? w _ hx178_1)).trans hx178_1
                        replace hx178_2 := (HB.out.cell (World.block_lt_of_cell? w _ hx178_2)).trans hx178_2
                        replace hx178_3 := (HB.out.cell (World.block_lt_of_cell? w _ hx178_3)).trans hx178_3
                        replace p178 := eq_true p178
                        replace q178 := eq_true q178
                        refine start_ (n := 35) (S := fun w' => w'.cell? ⟨gb177, 0, none⟩ = some (.int .u64 ((rd_T34 l0 x10_1).f0)) ∧ w'.cell? ⟨gb177, 1, none⟩ = some (.int .u64 ((rd_T34 l0 x10_1).f1)) ∧ w'.cell? ⟨gb177, 2, none⟩ = some (.int .u64 ((rd_T34 l0 x10_1).f2)) ∧ w'.cell? ⟨gb177, 3, none⟩ = some (.int .i64 ((rd_T34 l0 x10_1).f3)) ∧ w'.cell? (ad176.add (((ji7)).toNat * 4)) = some (.int .u64 ((rd_T34 l0 (ji7)).f0)) ∧ w'.cell? ⟨(ad176.add (((ji7)).toNat * 4)).block, (ad176.add (((ji7)).toNat * 4)).off + 1, none⟩ = some (.int .u64 ((rd_T34 l0 (ji7)).f1)) ∧ w'.cell? ⟨(ad176.add (((ji7)).toNat * 4)).block, (ad176.add (((ji7)).toNat * 4)).off + 2, none⟩ = some (.int .u64 ((rd_T34 l0 (ji7)).f2)) ∧ w'.cell? ⟨(ad176.add (((ji7)).toNat * 4)).block, (ad176.add (((ji7)).toNat * 4)).off + 3, none⟩ = some (.int .i64 ((rd_T34 l0 (ji7)).f3))) (ds := []) #[false, false, false, false, false, false, false, false, false, false, false, false, false, false, false, false, false, false, false, false, false, false, false, false, false, false, false, false, false, false, false, false, false, false, false] (by kernel_rfl) rfl rfl ⟨(blk_cell BK177.out 0).trans rfl, (blk_cell BK177.out 1).trans rfl, (blk_cell BK177.out 2).trans rfl, (blk_cell BK177.out 3).trans rfl, ((HB.out.cell (World.block_lt_of_cell? w _ hw178_0)).trans hw178_0), ((HB.out.cell (World.block_lt_of_cell? w _ hw178_1)).trans hw178_1), ((HB.out.cell (World.block_lt_of_cell? w _ hw178_2)).trans hw178_2), ((HB.out.cell (World.block_lt_of_cell? w _ hw178_3)).trans hw178_3)⟩ (fun hHeld => ?_); refine with_tabW damsonref12_Check.tab6 damsonref12_Check.bits6 (fun HT_ HW_ => ?_)
                        generalize w18.drew = w19 at BK177 HB hx178_0 hx178_1 hx178_2 hx178_3 hHeld ⊢
                        refine pureA_ 0 15 (bm 35 1) ?_
                        refine pureA_ 1 16 (bm 35 3) ?_
                        refine pureA_ 2 17 (bm 35 7) ?_
                        refine pureA_ 3 18 (bm 35 15) ?_
                        refine pureA_ 4 19 (bm 35 31) ?_
                        refine pureA_ 5 20 (bm 35 63) ?_
                        refine pureA_ 6 21 (bm 35 127) ?_
                        refine pureA_ 7 22 (bm 35 255) ?_
                        refine pureA_ 9 24 (bm 35 767) ?_
                        refine take_ (i := 8) (N := some 23) (v := ?_) (a' := ?_) #[true, true, true, true, true, true, true, true, true, true, false, false, false, false, false, false, false, false, false, false, false, false, false, false, false, false, false, false, false, false, false, false, false, false, false] rfl rfl (take_ofW HT_.out HW_.out (by kernel_rfl)) (fun _ _ _ h => h) (Or.inl ⟨by rfl, ?_⟩) hHeld ?_ ?_
                        rotate_left
                        · rintro w' ⟨s0, s1, s2, s3, s4, s5, s6, s7⟩
                          go_simp
                          with_reducible rfl
                        rotate_left
                        · simp only [Act.put, List.setIfInBounds_toArray, List.set_cons_zero, List.set_cons_succ, i64_w, i32_w]
                          rfl
                        refine take_ (i := 10) (N := some 25) (v := ?_) (a' := ?_) #[true, true, true, true, true, true, true, true, true, true, true, false, false, false, false, false, false, false, false, false, false, false, false, false, false, false, false, false, false, false, false, false, false, false, false] rfl rfl (take_ofW HT_.out HW_.out (by kernel_rfl)) (fun _ _ _ h => h) (Or.inl ⟨by rfl, ?_⟩) hHeld ?_ ?_
                        rotate_left
                        · rintro w' ⟨s0, s1, s2, s3, s4, s5, s6, s7⟩
                          go_simp
                          with_reducible rfl
                        rotate_left
                        · simp only [Act.put, List.setIfInBounds_toArray, List.set_cons_zero, List.set_cons_succ, i64_w, i32_w]
                          rfl
                        refine pureA_ 11 26 (bm 35 4095) ?_
                        refine pureA_ 12 27 (bm 35 8191) ?_
                        refine pureA_ 13 28 (bm 35 16383) ?_
                        refine pureA_ 14 29 (bm 35 32767) ?_
                        refine take_ (i := 15) (N := some 30) (v := ?_) (a' := ?_) #[true, true, true, true, true, true, true, true, true, true, true, true, true, true, true, true, false, false, false, false, false, false, false, false, false, false, false, false, false, false, false, false, false, false, false] rfl rfl (take_ofW HT_.out HW_.out (by kernel_rfl)) (fun _ _ _ h => h) (Or.inl ⟨by rfl, ?_⟩) hHeld ?_ ?_
                        rotate_left
                        · rintro w' ⟨s0, s1, s2, s3, s4, s5, s6, s7⟩
                          go_simp
                          with_reducible rfl
                        rotate_left
                        · simp only [Act.put, List.setIfInBounds_toArray, List.set_cons_zero, List.set_cons_succ, i64_w, i32_w]
                          rfl
                        refine pureA_ 16 31 (bm 35 131071) ?_
                        refine pureA_ 17 32 (bm 35 262143) ?_
                        refine pureA_ 18 33 (bm 35 524287) ?_
                        refine pureU_ 19 34 (bm 35 1048575) ?_
                        refine pureU_ 20 35 (bm 35 2097151) ?_
                        refine pureU_ 21 36 (bm 35 4194303) ?_
                        refine pureU_ 22 37 (bm 35 8388607) ?_
                        refine pureU_ 23 38 (bm 35 16777215) ?_
                        refine pureA_ 24 39 (bm 35 33554431) ?_
                        refine pureA_ 25 40 (bm 35 67108863) ?_
                        refine pureU_ 26 41 (bm 35 134217727) ?_
                        refine pureU_ 27 42 (bm 35 268435455) ?_
                        refine pureU_ 28 43 (bm 35 536870911) ?_
                        refine pureA_ 29 44 (bm 35 1073741823) ?_
                        refine pureA_ 30 45 (bm 35 2147483647) ?_
                        refine pureU_ 31 46 (bm 35 4294967295) ?_
                        refine pureU_ 32 47 (bm 35 8589934591) ?_
                        refine pureU_ 33 48 (bm 35 17179869183) ?_
                        refine pureA_ 34 49 (bm 35 34359738367) ?_
                        refine done_ (done_of HT_.out (by kernel_rfl)) ?_
                        try go_wp2
                        go_ret
                        exact ⟨by first | rfl | (simp [errW_none, errW_some] <;> rfl) | (simp only [← hji7]; first | rfl | (simp [errW_none, errW_some] <;> rfl)) | (simp [*, errW_none, errW_some] <;> rfl), by repeat (first | (with_reducible first | exact HB.out | apply below_alloc | apply pw_below_drewN | apply below_drew1 | refine below_set ?_ GE177.out) | exact HB.out)⟩
                      · rw [if_neg c15] at H
                        have c15b0 : (((rd_T34 l0 x10_1).f1) == 0) = false := beq_eq_false_iff_ne.mpr c15
                        have c15b1 : (((rd_T34 l0 x10_1).f1) != 0) = true := bne_iff_ne.mpr c15
                        obtain ⟨y179, hy179⟩ : ∃ y_ : List Int, y_ = (([(rd_T34 l0 x10_1).f1] : List Int)) := ⟨_, rfl⟩
                        replace H : ((damsonref04_Check.f k1 y179).bind fun t182 => (if t182 = 0 then (if ((rd_T34 l0 x10_1).f3) < 1 then (some 1) else (if ((rd_T34 l0 x10_1).f3) > 3 then (some 1) else (damsonref12_Check.l0 k1 l0 l0 (l0.length : Int) (wrap64 (x10_1 + 1))))) else (some 1))) = some r := by first | (rw [hy179]; with_reducible exact H) | (have H2_ := (Option.bind_some _ _).symm.trans H; rw [hy179]; with_reducible exact H2_) | (have H2_ := (Option.bind_some _ _).symm.trans H; with_reducible exact H2_) | with_reducible exact H | (rw [hy179]; exact H) | exact H
                        have Ny179 := Aside0.mk hy179
                        clear hy179
                        replace H := Option.bind_eq_some_iff.mp H
                        obtain ⟨t182, A200, H⟩ := H
                        replace H : (if t182 = 0 then (if ((rd_T34 l0 x10_1).f3) < 1 then (some 1) else (if ((rd_T34 l0 x10_1).f3) > 3 then (some 1) else (damsonref12_Check.l0 k1 l0 l0 (l0.length : Int) (wrap64 (x10_1 + 1))))) else (some 1)) = some r := H
                        have A20 := Aside0.mk A200
                        clear A200
                        by_cases c21 : t182 = 0
                        · rw [if_pos c21] at H
                          have c21b0 : (t182 == 0) = true := beq_iff_eq.mpr c21
                          have c21b1 : (t182 != 0) = false := bne_eq_false_iff_eq.mpr c21
                          clear c21
                          by_cases c22 : ((rd_T34 l0 x10_1).f3) < 1
                          · rw [if_pos c22] at H
                            have c22b0 : decide (((rd_T34 l0 x10_1).f3) < 1) = true := decide_eq_true c22
                            clear c22
                            obtain rfl := Option.some.inj H
                            have p176 : 0 ≤ (x10_1 : Int) := of_decide_eq_true (by first | (with_reducible assumption) | assumption)
                            have q176 : x10_1 < (l0.length : Int) := of_decide_eq_true (by first | (with_reducible assumption) | assumption)
                            obtain ⟨ad176, e176, hx176_0, hx176_1, hx176_2, hx176_3⟩ := at_T34 HR0.out x10_1 p176 q176
                            cases e176
                            replace hx176_0 := (HB.out.cell (World.block_lt_of_cell? w _ hx176_0)).trans hx176_0
                            replace hx176_1 := (HB.out.cell (World.block_lt_of_cell? w _ hx176_1)).trans hx176_1
                            replace hx176_2 := (HB.out.cell (World.block_lt_of_cell? w _ hx176_2)).trans hx176_2
                            replace hx176_3 := (HB.out.cell (World.block_lt_of_cell? w _ hx176_3)).trans hx176_3
                            replace p176 := eq_true p176
                            replace q176 := eq_true q176
                            try go_wp2_with (first | ((with_reducible refine gate_dst (N := 4) rfl ?_); (try (refine gate_guard (by rfl) ?_; dsimp only)); refine box_event ?hg (N := 4) ?hd (cs := #[.int .u64 0, .int .u64 0, .int .u64 0, .int .i64 0]) (t := 34) ?hr ?_; (case hd => rfl); (case hg => rfl); (case hr => first | (go_simp; done) | (go_simp; rfl)); intro gb177 hg w23 hbox hb; have n0_ := Aside0.mk (below_step (belN HB) hb); have n1_ := Aside0.mk (hbox); have n2_ := Aside0.mk ((by rw [hg]; exact (below_size (belN HB)) : w.heap.size ≤ gb177)); have n3_ := Aside0.mk ((by rw [hg]; exact (below_size (belN HB)) : w.heap.size ≤ gb177)); clear HB; have HB := n0_; have BK177 := n1_; have GW177 := n2_; have GE177 := n3_; clear n0_ n1_ n2_ n3_; clear hb hbox hg; obtain ⟨hcz24_0, hcz24_1, hcz24_2, hcz24_3, hfz24_0, hfz24_1, hfz24_2, hfz24_3⟩ := cz4_ (w := w23) BK177.out) | ((with_reducible refine gate_store (t := 34) (p := 4) rfl ?_); refine store_event (t := 34) (p := 4) (v := ?vo_w25) (w1 := ((((w23.setCell ⟨gb177, 0, none⟩ (.int .u64 ((rd_T34 l0 x10_1).f0))).setCell ⟨gb177, 1, none⟩ (.int .u64 ((rd_T34 l0 x10_1).f1))).setCell ⟨gb177, 2, none⟩ (.int .u64 ((rd_T34 l0 x10_1).f2))).setCell ⟨gb177, 3, none⟩ (.int .i64 ((rd_T34 l0 x10_1).f3)))) ?hg ?ho ?hn ?hr ?_; (case ho => rfl); (case hg => rfl); (case hn => rfl); (case hr => first | (go_simp; done) | (go_simp; rfl)); intro w25 hw; have n0_ : Aside0 (w25.heap[gb177]? = some (.cells #[.int .u64 ((rd_T34 l0 x10_1).f0), .int .u64 ((rd_T34 l0 x10_1).f1), .int .u64 ((rd_T34 l0 x10_1).f2), .int .i64 ((rd_T34 l0 x10_1).f3)] 34 (0, 0))) := ⟨(by rw [hw]; exact (by (with_reducible repeat (first | refine blk_drewN ?_ _ | refine blk_drew ?_ | refine blk_alloc ?_ _)); refine blk_put (cs := #[.int .u64 ((rd_T34 l0 x10_1).f0), .int .u64 ((rd_T34 l0 x10_1).f1), .int .u64 ((rd_T34 l0 x10_1).f2), .int .i64 0]) ?_ 3 _ rfl; refine blk_put (cs := #[.int .u64 ((rd_T34 l0 x10_1).f0), .int .u64 ((rd_T34 l0 x10_1).f1), .int .u64 0, .int .i64 0]) ?_ 2 _ rfl; refine blk_put (cs := #[.int .u64 ((rd_T34 l0 x10_1).f0), .int .u64 0, .int .u64 0, .int .i64 0]) ?_ 1 _ rfl; refine blk_put (cs := #[.int .u64 0, .int .u64 0, .int .u64 0, .int .i64 0]) ?_ 0 _ rfl; (with_reducible repeat (first | refine blk_drewN ?_ _ | refine blk_drew ?_ | refine blk_alloc ?_ _)); exact BK177.out))⟩; have n1_ : Aside0 (Below w.heap.size w w25) := ⟨(by rw [hw]; exact (belN HB))⟩; clear hw; clear BK177; clear HB; have BK177 := n0_; have HB := n1_; clear n0_ n1_))
                            have n0_ := Aside0.mk (blk_drew BK177.out)
                            have n1_ := Aside0.mk (below_drew1 HB.out)
                            clear BK177
                            clear HB
                            have BK177 := n0_
                            have HB := n1_
                            clear n0_ n1_
                            have p178 : 0 ≤ ((ji7) : Int) := of_decide_eq_true (by first | (with_reducible assumption) | assumption)
                            have q178 : (ji7) < (l0.length : Int) := of_decide_eq_true (by first | (with_reducible assumption) | assumption)
                            obtain ⟨ad178, e178, hx178_0, hx178_1, hx178_2, hx178_3⟩ := at_T34 HR0.out (ji7) p178 q178
                            have hw178_3 := hx178_3
                            have hw178_2 := hx178_2
                            have hw178_1 := hx178_1
                            have hw178_0 := hx178_0
                            obtain rfl : ad176 = ad178 := (by injection e178)
                            replace hx178_0 := (HB.out.cell (World.block_lt_of_cell? w _ hx178_0)).trans hx178_0
                            replace hx178_1 := (HB.out.cell (World.block_lt_of_cell? w _ hx178_1)).trans hx178_1
                            replace hx178_2 := (HB.out.cell (World.block_lt_of_cell? w _ hx178_2)).trans hx178_2
                            replace hx178_3 := (HB.out.cell (World.block_lt_of_cell? w _ hx178_3)).trans hx178_3
                            replace p178 := eq_true p178
                            replace q178 := eq_true q178
                            refine start_ (n := 35) (S := fun w' => w'.cell? ⟨gb177, 0, none⟩ = some (.int .u64 ((rd_T34 l0 x10_1).f0)) ∧ w'.cell? ⟨gb177, 1, none⟩ = some (.int .u64 ((rd_T34 l0 x10_1).f1)) ∧ w'.cell? ⟨gb177, 2, none⟩ = some (.int .u64 ((rd_T34 l0 x10_1).f2)) ∧ w'.cell? ⟨gb177, 3, none⟩ = some (.int .i64 ((rd_T34 l0 x10_1).f3)) ∧ w'.cell? (ad176.add (((ji7)).toNat * 4)) = some (.int .u64 ((rd_T34 l0 (ji7)).f0)) ∧ w'.cell? ⟨(ad176.add (((ji7)).toNat * 4)).block, (ad176.add (((ji7)).toNat * 4)).off + 1, none⟩ = some (.int .u64 ((rd_T34 l0 (ji7)).f1)) ∧ w'.cell? ⟨(ad176.add (((ji7)).toNat * 4)).block, (ad176.add (((ji7)).toNat * 4)).off + 2, none⟩ = some (.int .u64 ((rd_T34 l0 (ji7)).f2)) ∧ w'.cell? ⟨(ad176.add (((ji7)).toNat * 4)).block, (ad176.add (((ji7)).toNat * 4)).off + 3, none⟩ = some (.int .i64 ((rd_T34 l0 (ji7)).f3))) (ds := []) #[false, false, false, false, false, false, false, false, false, false, false, false, false, false, false, false, false, false, false, false, false, false, false, false, false, false, false, false, false, false, false, false, false, false, false] (by kernel_rfl) rfl rfl ⟨(blk_cell BK177.out 0).trans rfl, (blk_cell BK177.out 1).trans rfl, (blk_cell BK177.out 2).trans rfl, (blk_cell BK177.out 3).trans rfl, ((HB.out.cell (World.block_lt_of_cell? w _ hw178_0)).trans hw178_0), ((HB.out.cell (World.block_lt_of_cell? w _ hw178_1)).trans hw178_1), ((HB.out.cell (World.block_lt_of_cell? w _ hw178_2)).trans hw178_2), ((HB.out.cell (World.block_lt_of_cell? w _ hw178_3)).trans hw178_3)⟩ (fun hHeld => ?_); refine with_tabW damsonref12_Check.tab6 damsonref12_Check.bits6 (fun HT_ HW_ => ?_)
                            generalize w25.drew = w26 at BK177 HB hx178_0 hx178_1 hx178_2 hx178_3 hHeld ⊢
                            refine pureA_ 0 15 (bm 35 1) ?_
                            refine pureA_ 1 16 (bm 35 3) ?_
                            refine pureA_ 2 17 (bm 35 7) ?_
                            refine pureA_ 3 18 (bm 35 15) ?_
                            refine pureA_ 4 19 (bm 35 31) ?_
                            refine pureA_ 5 20 (bm 35 63) ?_
                            refine pureA_ 6 21 (bm 35 127) ?_
                            refine pureA_ 7 22 (bm 35 255) ?_
                            refine pureA_ 9 24 (bm 35 767) ?_
                            refine take_ (i := 8) (N := some 23) (v := ?_) (a' := ?_) #[true, true, true, true, true, true, true, true, true, true, false, false, false, false, false, false, false, false, false, false, false, false, false, false, false, false, false, false, false, false, false, false, false, false, false] rfl rfl (take_ofW HT_.out HW_.out (by kernel_rfl)) (fun _ _ _ h => h) (Or.inl ⟨by rfl, ?_⟩) hHeld ?_ ?_
                            rotate_left
                            · rintro w' ⟨s0, s1, s2, s3, s4, s5, s6, s7⟩
                              go_simp
                              with_reducible rfl
                            rotate_left
                            · simp only [Act.put, List.setIfInBounds_toArray, List.set_cons_zero, List.set_cons_succ, i64_w, i32_w]
                              rfl
                            refine take_ (i := 10) (N := some 25) (v := ?_) (a' := ?_) #[true, true, true, true, true, true, true, true, true, true, true, false, false, false, false, false, false, false, false, false, false, false, false, false, false, false, false, false, false, false, false, false, false, false, false] rfl rfl (take_ofW HT_.out HW_.out (by kernel_rfl)) (fun _ _ _ h => h) (Or.inl ⟨by rfl, ?_⟩) hHeld ?_ ?_
                            rotate_left
                            · rintro w' ⟨s0, s1, s2, s3, s4, s5, s6, s7⟩
                              go_simp
                              with_reducible rfl
                            rotate_left
                            · simp only [Act.put, List.setIfInBounds_toArray, List.set_cons_zero, List.set_cons_succ, i64_w, i32_w]
                              rfl
                            refine pureA_ 11 26 (bm 35 4095) ?_
                            refine pureA_ 12 27 (bm 35 8191) ?_
                            refine pureA_ 13 28 (bm 35 16383) ?_
                            refine pureA_ 14 29 (bm 35 32767) ?_
                            refine take_ (i := 15) (N := some 30) (v := ?_) (a' := ?_) #[true, true, true, true, true, true, true, true, true, true, true, true, true, true, true, true, false, false, false, false, false, false, false, false, false, false, false, false, false, false, false, false, false, false, false] rfl rfl (take_ofW HT_.out HW_.out (by kernel_rfl)) (fun _ _ _ h => h) (Or.inl ⟨by rfl, ?_⟩) hHeld ?_ ?_
                            rotate_left
                            · rintro w' ⟨s0, s1, s2, s3, s4, s5, s6, s7⟩
                              go_simp
                              with_reducible rfl
                            rotate_left
                            · simp only [Act.put, List.setIfInBounds_toArray, List.set_cons_zero, List.set_cons_succ, i64_w, i32_w]
                              rfl
                            refine pureA_ 16 31 (bm 35 131071) ?_
                            refine pureA_ 17 32 (bm 35 262143) ?_
                            refine pureA_ 18 33 (bm 35 524287) ?_
                            refine pureA_ 19 34 (bm 35 1048575) ?_
                            refine take_ (i := 20) (N := some 35) (v := ?_) (a' := ?_) #[true, true, true, true, true, true, true, true, true, true, true, true, true, true, true, true, true, true, true, true, true, false, false, false, false, false, false, false, false, false, false, false, false, false, false] rfl rfl (take_ofW HT_.out HW_.out (by kernel_rfl)) (fun _ _ _ h => h) (Or.inl ⟨by rfl, ?_⟩) hHeld ?_ ?_
                            rotate_left
                            · rintro w' ⟨s0, s1, s2, s3, s4, s5, s6, s7⟩
                              go_simp
                              with_reducible rfl
                            rotate_left
                            · simp only [Act.put, List.setIfInBounds_toArray, List.set_cons_zero, List.set_cons_succ, i64_w, i32_w]
                              rfl
                            refine one_ (i := 21) (N := some 36) #[true, true, true, true, true, true, true, true, true, true, true, true, true, true, true, true, true, true, true, true, true, true, false, false, false, false, false, false, false, false, false, false, false, false, false] rfl rfl (one_of HT_.out (by kernel_rfl)) (by decide) (fun K hK => ?_)
                            refine Kd.R_lit_step (Kd.int .u64) _ 23 ?hg (N := 36) ?hd (xs := ([(rd_T34 l0 x10_1).f1] : List Int)) (inner := [.int .u64 ((rd_T34 l0 x10_1).f1)]) (ok := fun _ => True) (okp := fun _ => True) ?hr ?hp (fun _ hk => hk) trivial (Below.refl _ _) (Nat.le_refl _) (by simp) ?_; (case hd => rfl); (case hg => rfl); (case hr => first | (go_simp; done) | (go_simp; rfl)); (case hp => exact (Reps.one (show Kd.M (Kd.int .u64) _ _ _ ((rd_T34 l0 x10_1).f1) [.int .u64 ((rd_T34 l0 x10_1).f1)] from rfl) (Reps.none _ _)))
                            intro v180 w27 ho28 hb hg_ hnew_
                            clear hg_ hnew_
                            (first | rw [← Ny179.out] at ho28 | (simp only [Int.reduceToNat] at ho28; rw [← Ny179.out] at ho28))
                            have n0_ := Aside0.mk (Kd.R_lower ho28 (below_size (belN HB)))
                            have n1_ := Aside0.mk (blk_below (g := gb177) (blkN BK177) hb)
                            have n2_ := Aside0.mk (below_step (belN HB) hb)
                            clear BK177
                            clear HB
                            have HO181 := n0_
                            have BK177 := n1_
                            have HB := n2_
                            clear n0_ n1_ n2_
                            clear hb ho28
                            obtain ⟨Ao29, co29, eo29⟩ := Kd.R_slice HO181.out
                            (first | subst eo29 | (injection eo29 with f1_ f2_ f3_; have f4_ := f1_.symm; have f5_ := f3_.symm; clear f1_ f2_ f3_; subst f4_; subst f5_))
                            refine hK.out _ _ ⟨(blk_cell BK177.out 0).trans rfl, (blk_cell BK177.out 1).trans rfl, (blk_cell BK177.out 2).trans rfl, (blk_cell BK177.out 3).trans rfl, ((HB.out.cell (World.block_lt_of_cell? w _ hw178_0)).trans hw178_0), ((HB.out.cell (World.block_lt_of_cell? w _ hw178_1)).trans hw178_1), ((HB.out.cell (World.block_lt_of_cell? w _ hw178_2)).trans hw178_2), ((HB.out.cell (World.block_lt_of_cell? w _ hw178_3)).trans hw178_3)⟩ (fun hHeld => ?_)
                            clear hK K
                            refine norm_ (a' := ?_) ?_ ?_
                            rotate_left
                            · show Act.put _ (some 36) _ = _
                              simp only [Act.put, List.setIfInBounds_toArray, List.set_cons_zero, List.set_cons_succ, i64_w, i32_w]
                              rfl
                            refine one_ (i := 22) (N := some 37) #[true, true, true, true, true, true, true, true, true, true, true, true, true, true, true, true, true, true, true, true, true, true, true, false, false, false, false, false, false, false, false, false, false, false, false] rfl rfl (one_of HT_.out (by kernel_rfl)) (by decide) (fun K hK => ?_)
                            refine goes_ Try.func36 (by kernel_rfl) rfl #[.slice Ao29 y179.length co29] (by rfl) rfl rfl (by (try simp only [List.map_toArray, List.map_cons, List.map_nil]); first | done | rfl | (simp only [List.length_drop, List.length_take]; rfl)) ?_
                            with_reducible refine (damsonref04_Check.calls k1 _ _ y179 t182 _ ?side1 ?side2 A20.out).mono ?_
                            (case side1 => exact Kd.CN (Kd.R_reads' HO181.out).2.2)
                            (case side2 => exact (Kd.R_reads' HO181.out).2.1)
                            rintro e w' ⟨rfl, ⟨nd, rfl⟩⟩
                            refine ⟨_, rfl, ?_⟩
                            refine hK.out _ _ ⟨(blk_cell BK177.out 0).trans rfl, (blk_cell BK177.out 1).trans rfl, (blk_cell BK177.out 2).trans rfl, (blk_cell BK177.out 3).trans rfl, ((HB.out.cell (World.block_lt_of_cell? w _ hw178_0)).trans hw178_0), ((HB.out.cell (World.block_lt_of_cell? w _ hw178_1)).trans hw178_1), ((HB.out.cell (World.block_lt_of_cell? w _ hw178_2)).trans hw178_2), ((HB.out.cell (World.block_lt_of_cell? w _ hw178_3)).trans hw178_3)⟩ (fun hHeld => ?_)
                            clear hK K
                            refine norm_ (a' := ?_) ?_ ?_
                            rotate_left
                            · show Act.put _ (some 37) _ = _
                              simp only [Act.put, List.setIfInBounds_toArray, List.set_cons_zero, List.set_cons_succ, i64_w, i32_w]
                              rfl
                            refine pureA_ 23 38 (bm 35 16777215) ?_
                            refine pureA_ 24 39 (bm 35 33554431) ?_
                            refine pureA_ 25 40 (bm 35 67108863) ?_
                            refine pureA_ 26 41 (bm 35 134217727) ?_
                            refine take_ (i := 27) (N := some 42) (v := ?_) (a' := ?_) #[true, true, true, true, true, true, true, true, true, true, true, true, true, true, true, true, true, true, true, true, true, true, true, true, true, true, true, true, false, false, false, false, false, false, false] rfl rfl (take_ofW HT_.out HW_.out (by kernel_rfl)) (fun _ _ _ h => h) (Or.inl ⟨by rfl, ?_⟩) hHeld ?_ ?_
                            rotate_left
                            · rintro w' ⟨s0, s1, s2, s3, s4, s5, s6, s7⟩
                              go_simp
                              with_reducible rfl
                            rotate_left
                            · simp only [Act.put, List.setIfInBounds_toArray, List.set_cons_zero, List.set_cons_succ, i64_w, i32_w]
                              rfl
                            refine pureA_ 28 43 (bm 35 536870911) ?_
                            refine pureA_ 29 44 (bm 35 1073741823) ?_
                            refine pureA_ 30 45 (bm 35 2147483647) ?_
                            refine pureU_ 31 46 (bm 35 4294967295) ?_
                            refine pureU_ 32 47 (bm 35 8589934591) ?_
                            refine pureU_ 33 48 (bm 35 17179869183) ?_
                            refine pureA_ 34 49 (bm 35 34359738367) ?_
                            refine done_ (done_of HT_.out (by kernel_rfl)) ?_
                            try go_wp2
                            go_ret
                            exact ⟨by first | rfl | (simp [errW_none, errW_some] <;> rfl) | (simp only [← hji7]; first | rfl | (simp [errW_none, errW_some] <;> rfl)) | (simp [*, errW_none, errW_some] <;> rfl), by repeat (first | (with_reducible first | exact HB.out | apply below_alloc | apply pw_below_drewN | apply below_drew1 | refine below_set ?_ GE177.out) | exact HB.out)⟩
                          · rw [if_neg c22] at H
                            have c22b0 : decide (((rd_T34 l0 x10_1).f3) < 1) = false := decide_eq_false c22
                            clear c22
                            by_cases c30 : ((rd_T34 l0 x10_1).f3) > 3
                            · rw [if_pos c30] at H
                              have c30b0 : decide (3 < ((rd_T34 l0 x10_1).f3)) = true := decide_eq_true c30
                              clear c30
                              obtain rfl := Option.some.inj H
                              have p176 : 0 ≤ (x10_1 : Int) := of_decide_eq_true (by first | (with_reducible assumption) | assumption)
                              have q176 : x10_1 < (l0.length : Int) := of_decide_eq_true (by first | (with_reducible assumption) | assumption)
                              obtain ⟨ad176, e176, hx176_0, hx176_1, hx176_2, hx176_3⟩ := at_T34 HR0.out x10_1 p176 q176
                              cases e176
                              replace hx176_0 := (HB.out.cell (World.block_lt_of_cell? w _ hx176_0)).trans hx176_0
                              replace hx176_1 := (HB.out.cell (World.block_lt_of_cell? w _ hx176_1)).trans hx176_1
                              replace hx176_2 := (HB.out.cell (World.block_lt_of_cell? w _ hx176_2)).trans hx176_2
                              replace hx176_3 := (HB.out.cell (World.block_lt_of_cell? w _ hx176_3)).trans hx176_3
                              replace p176 := eq_true p176
                              replace q176 := eq_true q176
                              try go_wp2_with (first | ((with_reducible refine gate_dst (N := 4) rfl ?_); (try (refine gate_guard (by rfl) ?_; dsimp only)); refine box_event ?hg (N := 4) ?hd (cs := #[.int .u64 0, .int .u64 0, .int .u64 0, .int .i64 0]) (t := 34) ?hr ?_; (case hd => rfl); (case hg => rfl); (case hr => first | (go_simp; done) | (go_simp; rfl)); intro gb177 hg w31 hbox hb; have n0_ := Aside0.mk (below_step (belN HB) hb); have n1_ := Aside0.mk (hbox); have n2_ := Aside0.mk ((by rw [hg]; exact (below_size (belN HB)) : w.heap.size ≤ gb177)); have n3_ := Aside0.mk ((by rw [hg]; exact (below_size (belN HB)) : w.heap.size ≤ gb177)); clear HB; have HB := n0_; have BK177 := n1_; have GW177 := n2_; have GE177 := n3_; clear n0_ n1_ n2_ n3_; clear hb hbox hg; obtain ⟨hcz32_0, hcz32_1, hcz32_2, hcz32_3, hfz32_0, hfz32_1, hfz32_2, hfz32_3⟩ := cz4_ (w := w31) BK177.out) | ((with_reducible refine gate_store (t := 34) (p := 4) rfl ?_); refine store_event (t := 34) (p := 4) (v := ?vo_w33) (w1 := ((((w31.setCell ⟨gb177, 0, none⟩ (.int .u64 ((rd_T34 l0 x10_1).f0))).setCell ⟨gb177, 1, none⟩ (.int .u64 ((rd_T34 l0 x10_1).f1))).setCell ⟨gb177, 2, none⟩ (.int .u64 ((rd_T34 l0 x10_1).f2))).setCell ⟨gb177, 3, none⟩ (.int .i64 ((rd_T34 l0 x10_1).f3)))) ?hg ?ho ?hn ?hr ?_; (case ho => rfl); (case hg => rfl); (case hn => rfl); (case hr => first | (go_simp; done) | (go_simp; rfl)); intro w33 hw; have n0_ : Aside0 (w33.heap[gb177]? = some (.cells #[.int .u64 ((rd_T34 l0 x10_1).f0), .int .u64 ((rd_T34 l0 x10_1).f1), .int .u64 ((rd_T34 l0 x10_1).f2), .int .i64 ((rd_T34 l0 x10_1).f3)] 34 (0, 0))) := ⟨(by rw [hw]; exact (by (with_reducible repeat (first | refine blk_drewN ?_ _ | refine blk_drew ?_ | refine blk_alloc ?_ _)); refine blk_put (cs := #[.int .u64 ((rd_T34 l0 x10_1).f0), .int .u64 ((rd_T34 l0 x10_1).f1), .int .u64 ((rd_T34 l0 x10_1).f2), .int .i64 0]) ?_ 3 _ rfl; refine blk_put (cs := #[.int .u64 ((rd_T34 l0 x10_1).f0), .int .u64 ((rd_T34 l0 x10_1).f1), .int .u64 0, .int .i64 0]) ?_ 2 _ rfl; refine blk_put (cs := #[.int .u64 ((rd_T34 l0 x10_1).f0), .int .u64 0, .int .u64 0, .int .i64 0]) ?_ 1 _ rfl; refine blk_put (cs := #[.int .u64 0, .int .u64 0, .int .u64 0, .int .i64 0]) ?_ 0 _ rfl; (with_reducible repeat (first | refine blk_drewN ?_ _ | refine blk_drew ?_ | refine blk_alloc ?_ _)); exact BK177.out))⟩; have n1_ : Aside0 (Below w.heap.size w w33) := ⟨(by rw [hw]; exact (belN HB))⟩; clear hw; clear BK177; clear HB; have BK177 := n0_; have HB := n1_; clear n0_ n1_))
                              have n0_ := Aside0.mk (blk_drew BK177.out)
                              have n1_ := Aside0.mk (below_drew1 HB.out)
                              clear BK177
                              clear HB
                              have BK177 := n0_
                              have HB := n1_
                              clear n0_ n1_
                              have p178 : 0 ≤ ((ji7) : Int) := of_decide_eq_true (by first | (with_reducible assumption) | assumption)
                              have q178 : (ji7) < (l0.length : Int) := of_decide_eq_true (by first | (with_reducible assumption) | assumption)
                              obtain ⟨ad178, e178, hx178_0, hx178_1, hx178_2, hx178_3⟩ := at_T34 HR0.out (ji7) p178 q178
                              have hw178_3 := hx178_3
                              have hw178_2 := hx178_2
                              have hw178_1 := hx178_1
                              have hw178_0 := hx178_0
                              obtain rfl : ad176 = ad178 := (by injection e178)
                              replace hx178_0 := (HB.out.cell (World.block_lt_of_cell? w _ hx178_0)).trans hx178_0
                              replace hx178_1 := (HB.out.cell (World.block_lt_of_cell? w _ hx178_1)).trans hx178_1
                              replace hx178_2 := (HB.out.cell (World.block_lt_of_cell? w _ hx178_2)).trans hx178_2
                              replace hx178_3 := (HB.out.cell (World.block_lt_of_cell? w _ hx178_3)).trans hx178_3
                              replace p178 := eq_true p178
                              replace q178 := eq_true q178
                              refine start_ (n := 35) (S := fun w' => w'.cell? ⟨gb177, 0, none⟩ = some (.int .u64 ((rd_T34 l0 x10_1).f0)) ∧ w'.cell? ⟨gb177, 1, none⟩ = some (.int .u64 ((rd_T34 l0 x10_1).f1)) ∧ w'.cell? ⟨gb177, 2, none⟩ = some (.int .u64 ((rd_T34 l0 x10_1).f2)) ∧ w'.cell? ⟨gb177, 3, none⟩ = some (.int .i64 ((rd_T34 l0 x10_1).f3)) ∧ w'.cell? (ad176.add (((ji7)).toNat * 4)) = some (.int .u64 ((rd_T34 l0 (ji7)).f0)) ∧ w'.cell? ⟨(ad176.add (((ji7)).toNat * 4)).block, (ad176.add (((ji7)).toNat * 4)).off + 1, none⟩ = some (.int .u64 ((rd_T34 l0 (ji7)).f1)) ∧ w'.cell? ⟨(ad176.add (((ji7)).toNat * 4)).block, (ad176.add (((ji7)).toNat * 4)).off + 2, none⟩ = some (.int .u64 ((rd_T34 l0 (ji7)).f2)) ∧ w'.cell? ⟨(ad176.add (((ji7)).toNat * 4)).block, (ad176.add (((ji7)).toNat * 4)).off + 3, none⟩ = some (.int .i64 ((rd_T34 l0 (ji7)).f3))) (ds := []) #[false, false, false, false, false, false, false, false, false, false, false, false, false, false, false, false, false, false, false, false, false, false, false, false, false, false, false, false, false, false, false, false, false, false, false] (by kernel_rfl) rfl rfl ⟨(blk_cell BK177.out 0).trans rfl, (blk_cell BK177.out 1).trans rfl, (blk_cell BK177.out 2).trans rfl, (blk_cell BK177.out 3).trans rfl, ((HB.out.cell (World.block_lt_of_cell? w _ hw178_0)).trans hw178_0), ((HB.out.cell (World.block_lt_of_cell? w _ hw178_1)).trans hw178_1), ((HB.out.cell (World.block_lt_of_cell? w _ hw178_2)).trans hw178_2), ((HB.out.cell (World.block_lt_of_cell? w _ hw178_3)).trans hw178_3)⟩ (fun hHeld => ?_); refine with_tabW damsonref12_Check.tab6 damsonref12_Check.bits6 (fun HT_ HW_ => ?_)
                              generalize w33.drew = w34 at BK177 HB hx178_0 hx178_1 hx178_2 hx178_3 hHeld ⊢
                              refine pureA_ 0 15 (bm 35 1) ?_
                              refine pureA_ 1 16 (bm 35 3) ?_
                              refine pureA_ 2 17 (bm 35 7) ?_
                              refine pureA_ 3 18 (bm 35 15) ?_
                              refine pureA_ 4 19 (bm 35 31) ?_
                              refine pureA_ 5 20 (bm 35 63) ?_
                              refine pureA_ 6 21 (bm 35 127) ?_
                              refine pureA_ 7 22 (bm 35 255) ?_
                              refine pureA_ 9 24 (bm 35 767) ?_
                              refine take_ (i := 8) (N := some 23) (v := ?_) (a' := ?_) #[true, true, true, true, true, true, true, true, true, true, false, false, false, false, false, false, false, false, false, false, false, false, false, false, false, false, false, false, false, false, false, false, false, false, false] rfl rfl (take_ofW HT_.out HW_.out (by kernel_rfl)) (fun _ _ _ h => h) (Or.inl ⟨by rfl, ?_⟩) hHeld ?_ ?_
                              rotate_left
                              · rintro w' ⟨s0, s1, s2, s3, s4, s5, s6, s7⟩
                                go_simp
                                with_reducible rfl
                              rotate_left
                              · simp only [Act.put, List.setIfInBounds_toArray, List.set_cons_zero, List.set_cons_succ, i64_w, i32_w]
                                rfl
                              refine take_ (i := 10) (N := some 25) (v := ?_) (a' := ?_) #[true, true, true, true, true, true, true, true, true, true, true, false, false, false, false, false, false, false, false, false, false, false, false, false, false, false, false, false, false, false, false, false, false, false, false] rfl rfl (take_ofW HT_.out HW_.out (by kernel_rfl)) (fun _ _ _ h => h) (Or.inl ⟨by rfl, ?_⟩) hHeld ?_ ?_
                              rotate_left
                              · rintro w' ⟨s0, s1, s2, s3, s4, s5, s6, s7⟩
                                go_simp
                                with_reducible rfl
                              rotate_left
                              · simp only [Act.put, List.setIfInBounds_toArray, List.set_cons_zero, List.set_cons_succ, i64_w, i32_w]
                                rfl
                              refine pureA_ 11 26 (bm 35 4095) ?_
                              refine pureA_ 12 27 (bm 35 8191) ?_
                              refine pureA_ 13 28 (bm 35 16383) ?_
                              refine pureA_ 14 29 (bm 35 32767) ?_
                              refine take_ (i := 15) (N := some 30) (v := ?_) (a' := ?_) #[true, true, true, true, true, true, true, true, true, true, true, true, true, true, true, true, false, false, false, false, false, false, false, false, false, false, false, false, false, false, false, false, false, false, false] rfl rfl (take_ofW HT_.out HW_.out (by kernel_rfl)) (fun _ _ _ h => h) (Or.inl ⟨by rfl, ?_⟩) hHeld ?_ ?_
                              rotate_left
                              · rintro w' ⟨s0, s1, s2, s3, s4, s5, s6, s7⟩
                                go_simp
                                with_reducible rfl
                              rotate_left
                              · simp only [Act.put, List.setIfInBounds_toArray, List.set_cons_zero, List.set_cons_succ, i64_w, i32_w]
                                rfl
                              refine pureA_ 16 31 (bm 35 131071) ?_
                              refine pureA_ 17 32 (bm 35 262143) ?_
                              refine pureA_ 18 33 (bm 35 524287) ?_
                              refine pureA_ 19 34 (bm 35 1048575) ?_
                              refine take_ (i := 20) (N := some 35) (v := ?_) (a' := ?_) #[true, true, true, true, true, true, true, true, true, true, true, true, true, true, true, true, true, true, true, true, true, false, false, false, false, false, false, false, false, false, false, false, false, false, false] rfl rfl (take_ofW HT_.out HW_.out (by kernel_rfl)) (fun _ _ _ h => h) (Or.inl ⟨by rfl, ?_⟩) hHeld ?_ ?_
                              rotate_left
                              · rintro w' ⟨s0, s1, s2, s3, s4, s5, s6, s7⟩
                                go_simp
                                with_reducible rfl
                              rotate_left
                              · simp only [Act.put, List.setIfInBounds_toArray, List.set_cons_zero, List.set_cons_succ, i64_w, i32_w]
                                rfl
                              refine one_ (i := 21) (N := some 36) #[true, true, true, true, true, true, true, true, true, true, true, true, true, true, true, true, true, true, true, true, true, true, false, false, false, false, false, false, false, false, false, false, false, false, false] rfl rfl (one_of HT_.out (by kernel_rfl)) (by decide) (fun K hK => ?_)
                              refine Kd.R_lit_step (Kd.int .u64) _ 23 ?hg (N := 36) ?hd (xs := ([(rd_T34 l0 x10_1).f1] : List Int)) (inner := [.int .u64 ((rd_T34 l0 x10_1).f1)]) (ok := fun _ => True) (okp := fun _ => True) ?hr ?hp (fun _ hk => hk) trivial (Below.refl _ _) (Nat.le_refl _) (by simp) ?_; (case hd => rfl); (case hg => rfl); (case hr => first | (go_simp; done) | (go_simp; rfl)); (case hp => exact (Reps.one (show Kd.M (Kd.int .u64) _ _ _ ((rd_T34 l0 x10_1).f1) [.int .u64 ((rd_T34 l0 x10_1).f1)] from rfl) (Reps.none _ _)))
                              intro v180 w35 ho36 hb hg_ hnew_
                              clear hg_ hnew_
                              (first | rw [← Ny179.out] at ho36 | (simp only [Int.reduceToNat] at ho36; rw [← Ny179.out] at ho36))
                              have n0_ := Aside0.mk (Kd.R_lower ho36 (below_size (belN HB)))
                              have n1_ := Aside0.mk (blk_below (g := gb177) (blkN BK177) hb)
                              have n2_ := Aside0.mk (below_step (belN HB) hb)
                              clear BK177
                              clear HB
                              have HO181 := n0_
                              have BK177 := n1_
                              have HB := n2_
                              clear n0_ n1_ n2_
                              clear hb ho36
                              obtain ⟨Ao37, co37, eo37⟩ := Kd.R_slice HO181.out
                              (first | subst eo37 | (injection eo37 with f1_ f2_ f3_; have f4_ := f1_.symm; have f5_ := f3_.symm; clear f1_ f2_ f3_; subst f4_; subst f5_))
                              refine hK.out _ _ ⟨(blk_cell BK177.out 0).trans rfl, (blk_cell BK177.out 1).trans rfl, (blk_cell BK177.out 2).trans rfl, (blk_cell BK177.out 3).trans rfl, ((HB.out.cell (World.block_lt_of_cell? w _ hw178_0)).trans hw178_0), ((HB.out.cell (World.block_lt_of_cell? w _ hw178_1)).trans hw178_1), ((HB.out.cell (World.block_lt_of_cell? w _ hw178_2)).trans hw178_2), ((HB.out.cell (World.block_lt_of_cell? w _ hw178_3)).trans hw178_3)⟩ (fun hHeld => ?_)
                              clear hK K
                              refine norm_ (a' := ?_) ?_ ?_
                              rotate_left
                              · show Act.put _ (some 36) _ = _
                                simp only [Act.put, List.setIfInBounds_toArray, List.set_cons_zero, List.set_cons_succ, i64_w, i32_w]
                                rfl
                              refine one_ (i := 22) (N := some 37) #[true, true, true, true, true, true, true, true, true, true, true, true, true, true, true, true, true, true, true, true, true, true, true, false, false, false, false, false, false, false, false, false, false, false, false] rfl rfl (one_of HT_.out (by kernel_rfl)) (by decide) (fun K hK => ?_)
                              refine goes_ Try.func36 (by kernel_rfl) rfl #[.slice Ao37 y179.length co37] (by rfl) rfl rfl (by (try simp only [List.map_toArray, List.map_cons, List.map_nil]); first | done | rfl | (simp only [List.length_drop, List.length_take]; rfl)) ?_
                              with_reducible refine (damsonref04_Check.calls k1 _ _ y179 t182 _ ?side1 ?side2 A20.out).mono ?_
                              (case side1 => exact Kd.CN (Kd.R_reads' HO181.out).2.2)
                              (case side2 => exact (Kd.R_reads' HO181.out).2.1)
                              rintro e w' ⟨rfl, ⟨nd, rfl⟩⟩
                              refine ⟨_, rfl, ?_⟩
                              refine hK.out _ _ ⟨(blk_cell BK177.out 0).trans rfl, (blk_cell BK177.out 1).trans rfl, (blk_cell BK177.out 2).trans rfl, (blk_cell BK177.out 3).trans rfl, ((HB.out.cell (World.block_lt_of_cell? w _ hw178_0)).trans hw178_0), ((HB.out.cell (World.block_lt_of_cell? w _ hw178_1)).trans hw178_1), ((HB.out.cell (World.block_lt_of_cell? w _ hw178_2)).trans hw178_2), ((HB.out.cell (World.block_lt_of_cell? w _ hw178_3)).trans hw178_3)⟩ (fun hHeld => ?_)
                              clear hK K
                              refine norm_ (a' := ?_) ?_ ?_
                              rotate_left
                              · show Act.put _ (some 37) _ = _
                                simp only [Act.put, List.setIfInBounds_toArray, List.set_cons_zero, List.set_cons_succ, i64_w, i32_w]
                                rfl
                              refine pureA_ 23 38 (bm 35 16777215) ?_
                              refine pureA_ 24 39 (bm 35 33554431) ?_
                              refine pureA_ 25 40 (bm 35 67108863) ?_
                              refine pureA_ 26 41 (bm 35 134217727) ?_
                              refine take_ (i := 27) (N := some 42) (v := ?_) (a' := ?_) #[true, true, true, true, true, true, true, true, true, true, true, true, true, true, true, true, true, true, true, true, true, true, true, true, true, true, true, true, false, false, false, false, false, false, false] rfl rfl (take_ofW HT_.out HW_.out (by kernel_rfl)) (fun _ _ _ h => h) (Or.inl ⟨by rfl, ?_⟩) hHeld ?_ ?_
                              rotate_left
                              · rintro w' ⟨s0, s1, s2, s3, s4, s5, s6, s7⟩
                                go_simp
                                with_reducible rfl
                              rotate_left
                              · simp only [Act.put, List.setIfInBounds_toArray, List.set_cons_zero, List.set_cons_succ, i64_w, i32_w]
                                rfl
                              refine pureA_ 28 43 (bm 35 536870911) ?_
                              refine pureA_ 29 44 (bm 35 1073741823) ?_
                              refine pureA_ 30 45 (bm 35 2147483647) ?_
                              refine pureA_ 31 46 (bm 35 4294967295) ?_
                              refine take_ (i := 32) (N := some 47) (v := ?_) (a' := ?_) #[true, true, true, true, true, true, true, true, true, true, true, true, true, true, true, true, true, true, true, true, true, true, true, true, true, true, true, true, true, true, true, true, true, false, false] rfl rfl (take_ofW HT_.out HW_.out (by kernel_rfl)) (fun _ _ _ h => h) (Or.inl ⟨by rfl, ?_⟩) hHeld ?_ ?_
                              rotate_left
                              · rintro w' ⟨s0, s1, s2, s3, s4, s5, s6, s7⟩
                                go_simp
                                with_reducible rfl
                              rotate_left
                              · simp only [Act.put, List.setIfInBounds_toArray, List.set_cons_zero, List.set_cons_succ, i64_w, i32_w]
                                rfl
                              refine pureA_ 33 48 (bm 35 17179869183) ?_
                              refine pureA_ 34 49 (bm 35 34359738367) ?_
                              refine done_ (done_of HT_.out (by kernel_rfl)) ?_
                              try go_wp2
                              go_ret
                              exact ⟨by first | rfl | (simp [errW_none, errW_some] <;> rfl) | (simp only [← hji7]; first | rfl | (simp [errW_none, errW_some] <;> rfl)) | (simp [*, errW_none, errW_some] <;> rfl), by repeat (first | (with_reducible first | exact HB.out | apply below_alloc | apply pw_below_drewN | apply below_drew1 | refine below_set ?_ GE177.out) | exact HB.out)⟩
                            · rw [if_neg c30] at H
                              have c30b0 : decide (3 < ((rd_T34 l0 x10_1).f3)) = false := decide_eq_false c30
                              clear c30
                              have H' := Aside0.mk H
                              clear H
                              have p176 : 0 ≤ (x10_1 : Int) := of_decide_eq_true (by first | (with_reducible assumption) | assumption)
                              have q176 : x10_1 < (l0.length : Int) := of_decide_eq_true (by first | (with_reducible assumption) | assumption)
                              obtain ⟨ad176, e176, hx176_0, hx176_1, hx176_2, hx176_3⟩ := at_T34 HR0.out x10_1 p176 q176
                              cases e176
                              replace hx176_0 := (HB.out.cell (World.block_lt_of_cell? w _ hx176_0)).trans hx176_0
                              replace hx176_1 := (HB.out.cell (World.block_lt_of_cell? w _ hx176_1)).trans hx176_1
                              replace hx176_2 := (HB.out.cell (World.block_lt_of_cell? w _ hx176_2)).trans hx176_2
                              replace hx176_3 := (HB.out.cell (World.block_lt_of_cell? w _ hx176_3)).trans hx176_3
                              replace p176 := eq_true p176
                              replace q176 := eq_true q176
                              try go_wp2_with (first | ((with_reducible refine gate_dst (N := 4) rfl ?_); (try (refine gate_guard (by rfl) ?_; dsimp only)); refine box_event ?hg (N := 4) ?hd (cs := #[.int .u64 0, .int .u64 0, .int .u64 0, .int .i64 0]) (t := 34) ?hr ?_; (case hd => rfl); (case hg => rfl); (case hr => first | (go_simp; done) | (go_simp; rfl)); intro gb177 hg w38 hbox hb; have n0_ := Aside0.mk (below_step (belN HB) hb); have n1_ := Aside0.mk (hbox); have n2_ := Aside0.mk ((by rw [hg]; exact (below_size (belN HB)) : w.heap.size ≤ gb177)); have n3_ := Aside0.mk ((by rw [hg]; exact (below_size (belN HB)) : w.heap.size ≤ gb177)); clear HB; have HB := n0_; have BK177 := n1_; have GW177 := n2_; have GE177 := n3_; clear n0_ n1_ n2_ n3_; clear hb hbox hg; obtain ⟨hcz39_0, hcz39_1, hcz39_2, hcz39_3, hfz39_0, hfz39_1, hfz39_2, hfz39_3⟩ := cz4_ (w := w38) BK177.out) | ((with_reducible refine gate_store (t := 34) (p := 4) rfl ?_); refine store_event (t := 34) (p := 4) (v := ?vo_w40) (w1 := ((((w38.setCell ⟨gb177, 0, none⟩ (.int .u64 ((rd_T34 l0 x10_1).f0))).setCell ⟨gb177, 1, none⟩ (.int .u64 ((rd_T34 l0 x10_1).f1))).setCell ⟨gb177, 2, none⟩ (.int .u64 ((rd_T34 l0 x10_1).f2))).setCell ⟨gb177, 3, none⟩ (.int .i64 ((rd_T34 l0 x10_1).f3)))) ?hg ?ho ?hn ?hr ?_; (case ho => rfl); (case hg => rfl); (case hn => rfl); (case hr => first | (go_simp; done) | (go_simp; rfl)); intro w40 hw; have n0_ : Aside0 (w40.heap[gb177]? = some (.cells #[.int .u64 ((rd_T34 l0 x10_1).f0), .int .u64 ((rd_T34 l0 x10_1).f1), .int .u64 ((rd_T34 l0 x10_1).f2), .int .i64 ((rd_T34 l0 x10_1).f3)] 34 (0, 0))) := ⟨(by rw [hw]; exact (by (with_reducible repeat (first | refine blk_drewN ?_ _ | refine blk_drew ?_ | refine blk_alloc ?_ _)); refine blk_put (cs := #[.int .u64 ((rd_T34 l0 x10_1).f0), .int .u64 ((rd_T34 l0 x10_1).f1), .int .u64 ((rd_T34 l0 x10_1).f2), .int .i64 0]) ?_ 3 _ rfl; refine blk_put (cs := #[.int .u64 ((rd_T34 l0 x10_1).f0), .int .u64 ((rd_T34 l0 x10_1).f1), .int .u64 0, .int .i64 0]) ?_ 2 _ rfl; refine blk_put (cs := #[.int .u64 ((rd_T34 l0 x10_1).f0), .int .u64 0, .int .u64 0, .int .i64 0]) ?_ 1 _ rfl; refine blk_put (cs := #[.int .u64 0, .int .u64 0, .int .u64 0, .int .i64 0]) ?_ 0 _ rfl; (with_reducible repeat (first | refine blk_drewN ?_ _ | refine blk_drew ?_ | refine blk_alloc ?_ _)); exact BK177.out))⟩; have n1_ : Aside0 (Below w.heap.size w w40) := ⟨(by rw [hw]; exact (belN HB))⟩; clear hw; clear BK177; clear HB; have BK177 := n0_; have HB := n1_; clear n0_ n1_))
                              have n0_ := Aside0.mk (blk_drew BK177.out)
                              have n1_ := Aside0.mk (below_drew1 HB.out)
                              clear BK177
                              clear HB
                              have BK177 := n0_
                              have HB := n1_
                              clear n0_ n1_
                              have p178 : 0 ≤ ((ji7) : Int) := of_decide_eq_true (by first | (with_reducible assumption) | assumption)
                              have q178 : (ji7) < (l0.length : Int) := of_decide_eq_true (by first | (with_reducible assumption) | assumption)
                              obtain ⟨ad178, e178, hx178_0, hx178_1, hx178_2, hx178_3⟩ := at_T34 HR0.out (ji7) p178 q178
                              have hw178_3 := hx178_3
                              have hw178_2 := hx178_2
                              have hw178_1 := hx178_1
                              have hw178_0 := hx178_0
                              obtain rfl : ad176 = ad178 := (by injection e178)
                              replace hx178_0 := (HB.out.cell (World.block_lt_of_cell? w _ hx178_0)).trans hx178_0
                              replace hx178_1 := (HB.out.cell (World.block_lt_of_cell? w _ hx178_1)).trans hx178_1
                              replace hx178_2 := (HB.out.cell (World.block_lt_of_cell? w _ hx178_2)).trans hx178_2
                              replace hx178_3 := (HB.out.cell (World.block_lt_of_cell? w _ hx178_3)).trans hx178_3
                              replace p178 := eq_true p178
                              replace q178 := eq_true q178
                              refine start_ (n := 35) (S := fun w' => w'.cell? ⟨gb177, 0, none⟩ = some (.int .u64 ((rd_T34 l0 x10_1).f0)) ∧ w'.cell? ⟨gb177, 1, none⟩ = some (.int .u64 ((rd_T34 l0 x10_1).f1)) ∧ w'.cell? ⟨gb177, 2, none⟩ = some (.int .u64 ((rd_T34 l0 x10_1).f2)) ∧ w'.cell? ⟨gb177, 3, none⟩ = some (.int .i64 ((rd_T34 l0 x10_1).f3)) ∧ w'.cell? (ad176.add (((ji7)).toNat * 4)) = some (.int .u64 ((rd_T34 l0 (ji7)).f0)) ∧ w'.cell? ⟨(ad176.add (((ji7)).toNat * 4)).block, (ad176.add (((ji7)).toNat * 4)).off + 1, none⟩ = some (.int .u64 ((rd_T34 l0 (ji7)).f1)) ∧ w'.cell? ⟨(ad176.add (((ji7)).toNat * 4)).block, (ad176.add (((ji7)).toNat * 4)).off + 2, none⟩ = some (.int .u64 ((rd_T34 l0 (ji7)).f2)) ∧ w'.cell? ⟨(ad176.add (((ji7)).toNat * 4)).block, (ad176.add (((ji7)).toNat * 4)).off + 3, none⟩ = some (.int .i64 ((rd_T34 l0 (ji7)).f3))) (ds := []) #[false, false, false, false, false, false, false, false, false, false, false, false, false, false, false, false, false, false, false, false, false, false, false, false, false, false, false, false, false, false, false, false, false, false, false] (by kernel_rfl) rfl rfl ⟨(blk_cell BK177.out 0).trans rfl, (blk_cell BK177.out 1).trans rfl, (blk_cell BK177.out 2).trans rfl, (blk_cell BK177.out 3).trans rfl, ((HB.out.cell (World.block_lt_of_cell? w _ hw178_0)).trans hw178_0), ((HB.out.cell (World.block_lt_of_cell? w _ hw178_1)).trans hw178_1), ((HB.out.cell (World.block_lt_of_cell? w _ hw178_2)).trans hw178_2), ((HB.out.cell (World.block_lt_of_cell? w _ hw178_3)).trans hw178_3)⟩ (fun hHeld => ?_); refine with_tabW damsonref12_Check.tab6 damsonref12_Check.bits6 (fun HT_ HW_ => ?_)
                              generalize w40.drew = w41 at BK177 HB hx178_0 hx178_1 hx178_2 hx178_3 hHeld ⊢
                              refine pureA_ 0 15 (bm 35 1) ?_
                              refine pureA_ 1 16 (bm 35 3) ?_
                              refine pureA_ 2 17 (bm 35 7) ?_
                              refine pureA_ 3 18 (bm 35 15) ?_
                              refine pureA_ 4 19 (bm 35 31) ?_
                              refine pureA_ 5 20 (bm 35 63) ?_
                              refine pureA_ 6 21 (bm 35 127) ?_
                              refine pureA_ 7 22 (bm 35 255) ?_
                              refine pureA_ 9 24 (bm 35 767) ?_
                              refine take_ (i := 8) (N := some 23) (v := ?_) (a' := ?_) #[true, true, true, true, true, true, true, true, true, true, false, false, false, false, false, false, false, false, false, false, false, false, false, false, false, false, false, false, false, false, false, false, false, false, false] rfl rfl (take_ofW HT_.out HW_.out (by kernel_rfl)) (fun _ _ _ h => h) (Or.inl ⟨by rfl, ?_⟩) hHeld ?_ ?_
                              rotate_left
                              · rintro w' ⟨s0, s1, s2, s3, s4, s5, s6, s7⟩
                                go_simp
                                with_reducible rfl
                              rotate_left
                              · simp only [Act.put, List.setIfInBounds_toArray, List.set_cons_zero, List.set_cons_succ, i64_w, i32_w]
                                rfl
                              refine take_ (i := 10) (N := some 25) (v := ?_) (a' := ?_) #[true, true, true, true, true, true, true, true, true, true, true, false, false, false, false, false, false, false, false, false, false, false, false, false, false, false, false, false, false, false, false, false, false, false, false] rfl rfl (take_ofW HT_.out HW_.out (by kernel_rfl)) (fun _ _ _ h => h) (Or.inl ⟨by rfl, ?_⟩) hHeld ?_ ?_
                              rotate_left
                              · rintro w' ⟨s0, s1, s2, s3, s4, s5, s6, s7⟩
                                go_simp
                                with_reducible rfl
                              rotate_left
                              · simp only [Act.put, List.setIfInBounds_toArray, List.set_cons_zero, List.set_cons_succ, i64_w, i32_w]
                                rfl
                              refine pureA_ 11 26 (bm 35 4095) ?_
                              refine pureA_ 12 27 (bm 35 8191) ?_
                              refine pureA_ 13 28 (bm 35 16383) ?_
                              refine pureA_ 14 29 (bm 35 32767) ?_
                              refine take_ (i := 15) (N := some 30) (v := ?_) (a' := ?_) #[true, true, true, true, true, true, true, true, true, true, true, true, true, true, true, true, false, false, false, false, false, false, false, false, false, false, false, false, false, false, false, false, false, false, false] rfl rfl (take_ofW HT_.out HW_.out (by kernel_rfl)) (fun _ _ _ h => h) (Or.inl ⟨by rfl, ?_⟩) hHeld ?_ ?_
                              rotate_left
                              · rintro w' ⟨s0, s1, s2, s3, s4, s5, s6, s7⟩
                                go_simp
                                with_reducible rfl
                              rotate_left
                              · simp only [Act.put, List.setIfInBounds_toArray, List.set_cons_zero, List.set_cons_succ, i64_w, i32_w]
                                rfl
                              refine pureA_ 16 31 (bm 35 131071) ?_
                              refine pureA_ 17 32 (bm 35 262143) ?_
                              refine pureA_ 18 33 (bm 35 524287) ?_
                              refine pureA_ 19 34 (bm 35 1048575) ?_
                              refine take_ (i := 20) (N := some 35) (v := ?_) (a' := ?_) #[true, true, true, true, true, true, true, true, true, true, true, true, true, true, true, true, true, true, true, true, true, false, false, false, false, false, false, false, false, false, false, false, false, false, false] rfl rfl (take_ofW HT_.out HW_.out (by kernel_rfl)) (fun _ _ _ h => h) (Or.inl ⟨by rfl, ?_⟩) hHeld ?_ ?_
                              rotate_left
                              · rintro w' ⟨s0, s1, s2, s3, s4, s5, s6, s7⟩
                                go_simp
                                with_reducible rfl
                              rotate_left
                              · simp only [Act.put, List.setIfInBounds_toArray, List.set_cons_zero, List.set_cons_succ, i64_w, i32_w]
                                rfl
                              refine one_ (i := 21) (N := some 36) #[true, true, true, true, true, true, true, true, true, true, true, true, true, true, true, true, true, true, true, true, true, true, false, false, false, false, false, false, false, false, false, false, false, false, false] rfl rfl (one_of HT_.out (by kernel_rfl)) (by decide) (fun K hK => ?_)
                              refine Kd.R_lit_step (Kd.int .u64) _ 23 ?hg (N := 36) ?hd (xs := ([(rd_T34 l0 x10_1).f1] : List Int)) (inner := [.int .u64 ((rd_T34 l0 x10_1).f1)]) (ok := fun _ => True) (okp := fun _ => True) ?hr ?hp (fun _ hk => hk) trivial (Below.refl _ _) (Nat.le_refl _) (by simp) ?_; (case hd => rfl); (case hg => rfl); (case hr => first | (go_simp; done) | (go_simp; rfl)); (case hp => exact (Reps.one (show Kd.M (Kd.int .u64) _ _ _ ((rd_T34 l0 x10_1).f1) [.int .u64 ((rd_T34 l0 x10_1).f1)] from rfl) (Reps.none _ _)))
                              intro v180 w42 ho43 hb hg_ hnew_
                              clear hg_ hnew_
                              (first | rw [← Ny179.out] at ho43 | (simp only [Int.reduceToNat] at ho43; rw [← Ny179.out] at ho43))
                              have n0_ := Aside0.mk (Kd.R_lower ho43 (below_size (belN HB)))
                              have n1_ := Aside0.mk (blk_below (g := gb177) (blkN BK177) hb)
                              have n2_ := Aside0.mk (below_step (belN HB) hb)
                              clear BK177
                              clear HB
                              have HO181 := n0_
                              have BK177 := n1_
                              have HB := n2_
                              clear n0_ n1_ n2_
                              clear hb ho43
                              obtain ⟨Ao44, co44, eo44⟩ := Kd.R_slice HO181.out
                              (first | subst eo44 | (injection eo44 with f1_ f2_ f3_; have f4_ := f1_.symm; have f5_ := f3_.symm; clear f1_ f2_ f3_; subst f4_; subst f5_))
                              refine hK.out _ _ ⟨(blk_cell BK177.out 0).trans rfl, (blk_cell BK177.out 1).trans rfl, (blk_cell BK177.out 2).trans rfl, (blk_cell BK177.out 3).trans rfl, ((HB.out.cell (World.block_lt_of_cell? w _ hw178_0)).trans hw178_0), ((HB.out.cell (World.block_lt_of_cell? w _ hw178_1)).trans hw178_1), ((HB.out.cell (World.block_lt_of_cell? w _ hw178_2)).trans hw178_2), ((HB.out.cell (World.block_lt_of_cell? w _ hw178_3)).trans hw178_3)⟩ (fun hHeld => ?_)
                              clear hK K
                              refine norm_ (a' := ?_) ?_ ?_
                              rotate_left
                              · show Act.put _ (some 36) _ = _
                                simp only [Act.put, List.setIfInBounds_toArray, List.set_cons_zero, List.set_cons_succ, i64_w, i32_w]
                                rfl
                              refine one_ (i := 22) (N := some 37) #[true, true, true, true, true, true, true, true, true, true, true, true, true, true, true, true, true, true, true, true, true, true, true, false, false, false, false, false, false, false, false, false, false, false, false] rfl rfl (one_of HT_.out (by kernel_rfl)) (by decide) (fun K hK => ?_)
                              refine goes_ Try.func36 (by kernel_rfl) rfl #[.slice Ao44 y179.length co44] (by rfl) rfl rfl (by (try simp only [List.map_toArray, List.map_cons, List.map_nil]); first | done | rfl | (simp only [List.length_drop, List.length_take]; rfl)) ?_
                              with_reducible refine (damsonref04_Check.calls k1 _ _ y179 t182 _ ?side1 ?side2 A20.out).mono ?_
                              (case side1 => exact Kd.CN (Kd.R_reads' HO181.out).2.2)
                              (case side2 => exact (Kd.R_reads' HO181.out).2.1)
                              rintro e w' ⟨rfl, ⟨nd, rfl⟩⟩
                              refine ⟨_, rfl, ?_⟩
                              refine hK.out _ _ ⟨(blk_cell BK177.out 0).trans rfl, (blk_cell BK177.out 1).trans rfl, (blk_cell BK177.out 2).trans rfl, (blk_cell BK177.out 3).trans rfl, ((HB.out.cell (World.block_lt_of_cell? w _ hw178_0)).trans hw178_0), ((HB.out.cell (World.block_lt_of_cell? w _ hw178_1)).trans hw178_1), ((HB.out.cell (World.block_lt_of_cell? w _ hw178_2)).trans hw178_2), ((HB.out.cell (World.block_lt_of_cell? w _ hw178_3)).trans hw178_3)⟩ (fun hHeld => ?_)
                              clear hK K
                              refine norm_ (a' := ?_) ?_ ?_
                              rotate_left
                              · show Act.put _ (some 37) _ = _
                                simp only [Act.put, List.setIfInBounds_toArray, List.set_cons_zero, List.set_cons_succ, i64_w, i32_w]
                                rfl
                              refine pureA_ 23 38 (bm 35 16777215) ?_
                              refine pureA_ 24 39 (bm 35 33554431) ?_
                              refine pureA_ 25 40 (bm 35 67108863) ?_
                              refine pureA_ 26 41 (bm 35 134217727) ?_
                              refine take_ (i := 27) (N := some 42) (v := ?_) (a' := ?_) #[true, true, true, true, true, true, true, true, true, true, true, true, true, true, true, true, true, true, true, true, true, true, true, true, true, true, true, true, false, false, false, false, false, false, false] rfl rfl (take_ofW HT_.out HW_.out (by kernel_rfl)) (fun _ _ _ h => h) (Or.inl ⟨by rfl, ?_⟩) hHeld ?_ ?_
                              rotate_left
                              · rintro w' ⟨s0, s1, s2, s3, s4, s5, s6, s7⟩
                                go_simp
                                with_reducible rfl
                              rotate_left
                              · simp only [Act.put, List.setIfInBounds_toArray, List.set_cons_zero, List.set_cons_succ, i64_w, i32_w]
                                rfl
                              refine pureA_ 28 43 (bm 35 536870911) ?_
                              refine pureA_ 29 44 (bm 35 1073741823) ?_
                              refine pureA_ 30 45 (bm 35 2147483647) ?_
                              refine pureA_ 31 46 (bm 35 4294967295) ?_
                              refine take_ (i := 32) (N := some 47) (v := ?_) (a' := ?_) #[true, true, true, true, true, true, true, true, true, true, true, true, true, true, true, true, true, true, true, true, true, true, true, true, true, true, true, true, true, true, true, true, true, false, false] rfl rfl (take_ofW HT_.out HW_.out (by kernel_rfl)) (fun _ _ _ h => h) (Or.inl ⟨by rfl, ?_⟩) hHeld ?_ ?_
                              rotate_left
                              · rintro w' ⟨s0, s1, s2, s3, s4, s5, s6, s7⟩
                                go_simp
                                with_reducible rfl
                              rotate_left
                              · simp only [Act.put, List.setIfInBounds_toArray, List.set_cons_zero, List.set_cons_succ, i64_w, i32_w]
                                rfl
                              refine pureA_ 33 48 (bm 35 17179869183) ?_
                              refine pureA_ 34 49 (bm 35 34359738367) ?_
                              refine done_ (done_of HT_.out (by kernel_rfl)) ?_
                              try go_wp2
                              go_roundg k1
                              case measure => have := HK1.out; omega
                              case rel => exact ⟨(wrap64 (x10_1 + 1)), (by first | rfl | (simp; done) | (simp [*]; done)), H', ⟨by have := HK1.out; omega⟩, ⟨by repeat (first | (with_reducible first | exact HB.out | apply below_alloc | apply pw_below_drewN | apply below_drew1 | refine below_set ?_ GE177.out) | exact HB.out)⟩⟩
                        · rw [if_neg c21] at H
                          have c21b0 : (t182 == 0) = false := beq_eq_false_iff_ne.mpr c21
                          have c21b1 : (t182 != 0) = true := bne_iff_ne.mpr c21
                          obtain rfl := Option.some.inj H
                          have p176 : 0 ≤ (x10_1 : Int) := of_decide_eq_true (by first | (with_reducible assumption) | assumption)
                          have q176 : x10_1 < (l0.length : Int) := of_decide_eq_true (by first | (with_reducible assumption) | assumption)
                          obtain ⟨ad176, e176, hx176_0, hx176_1, hx176_2, hx176_3⟩ := at_T34 HR0.out x10_1 p176 q176
                          cases e176
                          replace hx176_0 := (HB.out.cell (World.block_lt_of_cell? w _ hx176_0)).trans hx176_0
                          replace hx176_1 := (HB.out.cell (World.block_lt_of_cell? w _ hx176_1)).trans hx176_1
                          replace hx176_2 := (HB.out.cell (World.block_lt_of_cell? w _ hx176_2)).trans hx176_2
                          replace hx176_3 := (HB.out.cell (World.block_lt_of_cell? w _ hx176_3)).trans hx176_3
                          replace p176 := eq_true p176
                          replace q176 := eq_true q176
                          try go_wp2_with (first | ((with_reducible refine gate_dst (N := 4) rfl ?_); (try (refine gate_guard (by rfl) ?_; dsimp only)); refine box_event ?hg (N := 4) ?hd (cs := #[.int .u64 0, .int .u64 0, .int .u64 0, .int .i64 0]) (t := 34) ?hr ?_; (case hd => rfl); (case hg => rfl); (case hr => first | (go_simp; done) | (go_simp; rfl)); intro gb177 hg w45 hbox hb; have n0_ := Aside0.mk (below_step (belN HB) hb); have n1_ := Aside0.mk (hbox); have n2_ := Aside0.mk ((by rw [hg]; exact (below_size (belN HB)) : w.heap.size ≤ gb177)); have n3_ := Aside0.mk ((by rw [hg]; exact (below_size (belN HB)) : w.heap.size ≤ gb177)); clear HB; have HB := n0_; have BK177 := n1_; have GW177 := n2_; have GE177 := n3_; clear n0_ n1_ n2_ n3_; clear hb hbox hg; obtain ⟨hcz46_0, hcz46_1, hcz46_2, hcz46_3, hfz46_0, hfz46_1, hfz46_2, hfz46_3⟩ := cz4_ (w := w45) BK177.out) | ((with_reducible refine gate_store (t := 34) (p := 4) rfl ?_); refine store_event (t := 34) (p := 4) (v := ?vo_w47) (w1 := ((((w45.setCell ⟨gb177, 0, none⟩ (.int .u64 ((rd_T34 l0 x10_1).f0))).setCell ⟨gb177, 1, none⟩ (.int .u64 ((rd_T34 l0 x10_1).f1))).setCell ⟨gb177, 2, none⟩ (.int .u64 ((rd_T34 l0 x10_1).f2))).setCell ⟨gb177, 3, none⟩ (.int .i64 ((rd_T34 l0 x10_1).f3)))) ?hg ?ho ?hn ?hr ?_; (case ho => rfl); (case hg => rfl); (case hn => rfl); (case hr => first | (go_simp; done) | (go_simp; rfl)); intro w47 hw; have n0_ : Aside0 (w47.heap[gb177]? = some (.cells #[.int .u64 ((rd_T34 l0 x10_1).f0), .int .u64 ((rd_T34 l0 x10_1).f1), .int .u64 ((rd_T34 l0 x10_1).f2), .int .i64 ((rd_T34 l0 x10_1).f3)] 34 (0, 0))) := ⟨(by rw [hw]; exact (by (with_reducible repeat (first | refine blk_drewN ?_ _ | refine blk_drew ?_ | refine blk_alloc ?_ _)); refine blk_put (cs := #[.int .u64 ((rd_T34 l0 x10_1).f0), .int .u64 ((rd_T34 l0 x10_1).f1), .int .u64 ((rd_T34 l0 x10_1).f2), .int .i64 0]) ?_ 3 _ rfl; refine blk_put (cs := #[.int .u64 ((rd_T34 l0 x10_1).f0), .int .u64 ((rd_T34 l0 x10_1).f1), .int .u64 0, .int .i64 0]) ?_ 2 _ rfl; refine blk_put (cs := #[.int .u64 ((rd_T34 l0 x10_1).f0), .int .u64 0, .int .u64 0, .int .i64 0]) ?_ 1 _ rfl; refine blk_put (cs := #[.int .u64 0, .int .u64 0, .int .u64 0, .int .i64 0]) ?_ 0 _ rfl; (with_reducible repeat (first | refine blk_drewN ?_ _ | refine blk_drew ?_ | refine blk_alloc ?_ _)); exact BK177.out))⟩; have n1_ : Aside0 (Below w.heap.size w w47) := ⟨(by rw [hw]; exact (belN HB))⟩; clear hw; clear BK177; clear HB; have BK177 := n0_; have HB := n1_; clear n0_ n1_))
                          have n0_ := Aside0.mk (blk_drew BK177.out)
                          have n1_ := Aside0.mk (below_drew1 HB.out)
                          clear BK177
                          clear HB
                          have BK177 := n0_
                          have HB := n1_
                          clear n0_ n1_
                          have p178 : 0 ≤ ((ji7) : Int) := of_decide_eq_true (by first | (with_reducible assumption) | assumption)
                          have q178 : (ji7) < (l0.length : Int) := of_decide_eq_true (by first | (with_reducible assumption) | assumption)
                          obtain ⟨ad178, e178, hx178_0, hx178_1, hx178_2, hx178_3⟩ := at_T34 HR0.out (ji7) p178 q178
                          have hw178_3 := hx178_3
                          have hw178_2 := hx178_2
                          have hw178_1 := hx178_1
                          have hw178_0 := hx178_0
                          obtain rfl : ad176 = ad178 := (by injection e178)
                          replace hx178_0 := (HB.out.cell (World.block_lt_of_cell? w _ hx178_0)).trans hx178_0
                          replace hx178_1 := (HB.out.cell (World.block_lt_of_cell? w _ hx178_1)).trans hx178_1
                          replace hx178_2 := (HB.out.cell (World.block_lt_of_cell? w _ hx178_2)).trans hx178_2
                          replace hx178_3 := (HB.out.cell (World.block_lt_of_cell? w _ hx178_3)).trans hx178_3
                          replace p178 := eq_true p178
                          replace q178 := eq_true q178
                          refine start_ (n := 35) (S := fun w' => w'.cell? ⟨gb177, 0, none⟩ = some (.int .u64 ((rd_T34 l0 x10_1).f0)) ∧ w'.cell? ⟨gb177, 1, none⟩ = some (.int .u64 ((rd_T34 l0 x10_1).f1)) ∧ w'.cell? ⟨gb177, 2, none⟩ = some (.int .u64 ((rd_T34 l0 x10_1).f2)) ∧ w'.cell? ⟨gb177, 3, none⟩ = some (.int .i64 ((rd_T34 l0 x10_1).f3)) ∧ w'.cell? (ad176.add (((ji7)).toNat * 4)) = some (.int .u64 ((rd_T34 l0 (ji7)).f0)) ∧ w'.cell? ⟨(ad176.add (((ji7)).toNat * 4)).block, (ad176.add (((ji7)).toNat * 4)).off + 1, none⟩ = some (.int .u64 ((rd_T34 l0 (ji7)).f1)) ∧ w'.cell? ⟨(ad176.add (((ji7)).toNat * 4)).block, (ad176.add (((ji7)).toNat * 4)).off + 2, none⟩ = some (.int .u64 ((rd_T34 l0 (ji7)).f2)) ∧ w'.cell? ⟨(ad176.add (((ji7)).toNat * 4)).block, (ad176.add (((ji7)).toNat * 4)).off + 3, none⟩ = some (.int .i64 ((rd_T34 l0 (ji7)).f3))) (ds := []) #[false, false, false, false, false, false, false, false, false, false, false, false, false, false, false, false, false, false, false, false, false, false, false, false, false, false, false, false, false, false, false, false, false, false, false] (by kernel_rfl) rfl rfl ⟨(blk_cell BK177.out 0).trans rfl, (blk_cell BK177.out 1).trans rfl, (blk_cell BK177.out 2).trans rfl, (blk_cell BK177.out 3).trans rfl, ((HB.out.cell (World.block_lt_of_cell? w _ hw178_0)).trans hw178_0), ((HB.out.cell (World.block_lt_of_cell? w _ hw178_1)).trans hw178_1), ((HB.out.cell (World.block_lt_of_cell? w _ hw178_2)).trans hw178_2), ((HB.out.cell (World.block_lt_of_cell? w _ hw178_3)).trans hw178_3)⟩ (fun hHeld => ?_); refine with_tabW damsonref12_Check.tab6 damsonref12_Check.bits6 (fun HT_ HW_ => ?_)
                          generalize w47.drew = w48 at BK177 HB hx178_0 hx178_1 hx178_2 hx178_3 hHeld ⊢
                          refine pureA_ 0 15 (bm 35 1) ?_
                          refine pureA_ 1 16 (bm 35 3) ?_
                          refine pureA_ 2 17 (bm 35 7) ?_
                          refine pureA_ 3 18 (bm 35 15) ?_
                          refine pureA_ 4 19 (bm 35 31) ?_
                          refine pureA_ 5 20 (bm 35 63) ?_
                          refine pureA_ 6 21 (bm 35 127) ?_
                          refine pureA_ 7 22 (bm 35 255) ?_
                          refine pureA_ 9 24 (bm 35 767) ?_
                          refine take_ (i := 8) (N := some 23) (v := ?_) (a' := ?_) #[true, true, true, true, true, true, true, true, true, true, false, false, false, false, false, false, false, false, false, false, false, false, false, false, false, false, false, false, false, false, false, false, false, false, false] rfl rfl (take_ofW HT_.out HW_.out (by kernel_rfl)) (fun _ _ _ h => h) (Or.inl ⟨by rfl, ?_⟩) hHeld ?_ ?_
                          rotate_left
                          · rintro w' ⟨s0, s1, s2, s3, s4, s5, s6, s7⟩
                            go_simp
                            with_reducible rfl
                          rotate_left
                          · simp only [Act.put, List.setIfInBounds_toArray, List.set_cons_zero, List.set_cons_succ, i64_w, i32_w]
                            rfl
                          refine take_ (i := 10) (N := some 25) (v := ?_) (a' := ?_) #[true, true, true, true, true, true, true, true, true, true, true, false, false, false, false, false, false, false, false, false, false, false, false, false, false, false, false, false, false, false, false, false, false, false, false] rfl rfl (take_ofW HT_.out HW_.out (by kernel_rfl)) (fun _ _ _ h => h) (Or.inl ⟨by rfl, ?_⟩) hHeld ?_ ?_
                          rotate_left
                          · rintro w' ⟨s0, s1, s2, s3, s4, s5, s6, s7⟩
                            go_simp
                            with_reducible rfl
                          rotate_left
                          · simp only [Act.put, List.setIfInBounds_toArray, List.set_cons_zero, List.set_cons_succ, i64_w, i32_w]
                            rfl
                          refine pureA_ 11 26 (bm 35 4095) ?_
                          refine pureA_ 12 27 (bm 35 8191) ?_
                          refine pureA_ 13 28 (bm 35 16383) ?_
                          refine pureA_ 14 29 (bm 35 32767) ?_
                          refine take_ (i := 15) (N := some 30) (v := ?_) (a' := ?_) #[true, true, true, true, true, true, true, true, true, true, true, true, true, true, true, true, false, false, false, false, false, false, false, false, false, false, false, false, false, false, false, false, false, false, false] rfl rfl (take_ofW HT_.out HW_.out (by kernel_rfl)) (fun _ _ _ h => h) (Or.inl ⟨by rfl, ?_⟩) hHeld ?_ ?_
                          rotate_left
                          · rintro w' ⟨s0, s1, s2, s3, s4, s5, s6, s7⟩
                            go_simp
                            with_reducible rfl
                          rotate_left
                          · simp only [Act.put, List.setIfInBounds_toArray, List.set_cons_zero, List.set_cons_succ, i64_w, i32_w]
                            rfl
                          refine pureA_ 16 31 (bm 35 131071) ?_
                          refine pureA_ 17 32 (bm 35 262143) ?_
                          refine pureA_ 18 33 (bm 35 524287) ?_
                          refine pureA_ 19 34 (bm 35 1048575) ?_
                          refine take_ (i := 20) (N := some 35) (v := ?_) (a' := ?_) #[true, true, true, true, true, true, true, true, true, true, true, true, true, true, true, true, true, true, true, true, true, false, false, false, false, false, false, false, false, false, false, false, false, false, false] rfl rfl (take_ofW HT_.out HW_.out (by kernel_rfl)) (fun _ _ _ h => h) (Or.inl ⟨by rfl, ?_⟩) hHeld ?_ ?_
                          rotate_left
                          · rintro w' ⟨s0, s1, s2, s3, s4, s5, s6, s7⟩
                            go_simp
                            with_reducible rfl
                          rotate_left
                          · simp only [Act.put, List.setIfInBounds_toArray, List.set_cons_zero, List.set_cons_succ, i64_w, i32_w]
                            rfl
                          refine one_ (i := 21) (N := some 36) #[true, true, true, true, true, true, true, true, true, true, true, true, true, true, true, true, true, true, true, true, true, true, false, false, false, false, false, false, false, false, false, false, false, false, false] rfl rfl (one_of HT_.out (by kernel_rfl)) (by decide) (fun K hK => ?_)
                          refine Kd.R_lit_step (Kd.int .u64) _ 23 ?hg (N := 36) ?hd (xs := ([(rd_T34 l0 x10_1).f1] : List Int)) (inner := [.int .u64 ((rd_T34 l0 x10_1).f1)]) (ok := fun _ => True) (okp := fun _ => True) ?hr ?hp (fun _ hk => hk) trivial (Below.refl _ _) (Nat.le_refl _) (by simp) ?_; (case hd => rfl); (case hg => rfl); (case hr => first | (go_simp; done) | (go_simp; rfl)); (case hp => exact (Reps.one (show Kd.M (Kd.int .u64) _ _ _ ((rd_T34 l0 x10_1).f1) [.int .u64 ((rd_T34 l0 x10_1).f1)] from rfl) (Reps.none _ _)))
                          intro v180 w49 ho50 hb hg_ hnew_
                          clear hg_ hnew_
                          (first | rw [← Ny179.out] at ho50 | (simp only [Int.reduceToNat] at ho50; rw [← Ny179.out] at ho50))
                          have n0_ := Aside0.mk (Kd.R_lower ho50 (below_size (belN HB)))
                          have n1_ := Aside0.mk (blk_below (g := gb177) (blkN BK177) hb)
                          have n2_ := Aside0.mk (below_step (belN HB) hb)
                          clear BK177
                          clear HB
                          have HO181 := n0_
                          have BK177 := n1_
                          have HB := n2_
                          clear n0_ n1_ n2_
                          clear hb ho50
                          obtain ⟨Ao51, co51, eo51⟩ := Kd.R_slice HO181.out
                          (first | subst eo51 | (injection eo51 with f1_ f2_ f3_; have f4_ := f1_.symm; have f5_ := f3_.symm; clear f1_ f2_ f3_; subst f4_; subst f5_))
                          refine hK.out _ _ ⟨(blk_cell BK177.out 0).trans rfl, (blk_cell BK177.out 1).trans rfl, (blk_cell BK177.out 2).trans rfl, (blk_cell BK177.out 3).trans rfl, ((HB.out.cell (World.block_lt_of_cell? w _ hw178_0)).trans hw178_0), ((HB.out.cell (World.block_lt_of_cell? w _ hw178_1)).trans hw178_1), ((HB.out.cell (World.block_lt_of_cell? w _ hw178_2)).trans hw178_2), ((HB.out.cell (World.block_lt_of_cell? w _ hw178_3)).trans hw178_3)⟩ (fun hHeld => ?_)
                          clear hK K
                          refine norm_ (a' := ?_) ?_ ?_
                          rotate_left
                          · show Act.put _ (some 36) _ = _
                            simp only [Act.put, List.setIfInBounds_toArray, List.set_cons_zero, List.set_cons_succ, i64_w, i32_w]
                            rfl
                          refine one_ (i := 22) (N := some 37) #[true, true, true, true, true, true, true, true, true, true, true, true, true, true, true, true, true, true, true, true, true, true, true, false, false, false, false, false, false, false, false, false, false, false, false] rfl rfl (one_of HT_.out (by kernel_rfl)) (by decide) (fun K hK => ?_)
                          refine goes_ Try.func36 (by kernel_rfl) rfl #[.slice Ao51 y179.length co51] (by rfl) rfl rfl (by (try simp only [List.map_toArray, List.map_cons, List.map_nil]); first | done | rfl | (simp only [List.length_drop, List.length_take]; rfl)) ?_
                          with_reducible refine (damsonref04_Check.calls k1 _ _ y179 t182 _ ?side1 ?side2 A20.out).mono ?_
                          (case side1 => exact Kd.CN (Kd.R_reads' HO181.out).2.2)
                          (case side2 => exact (Kd.R_reads' HO181.out).2.1)
                          rintro e w' ⟨rfl, ⟨nd, rfl⟩⟩
                          refine ⟨_, rfl, ?_⟩
                          refine hK.out _ _ ⟨(blk_cell BK177.out 0).trans rfl, (blk_cell BK177.out 1).trans rfl, (blk_cell BK177.out 2).trans rfl, (blk_cell BK177.out 3).trans rfl, ((HB.out.cell (World.block_lt_of_cell? w _ hw178_0)).trans hw178_0), ((HB.out.cell (World.block_lt_of_cell? w _ hw178_1)).trans hw178_1), ((HB.out.cell (World.block_lt_of_cell? w _ hw178_2)).trans hw178_2), ((HB.out.cell (World.block_lt_of_cell? w _ hw178_3)).trans hw178_3)⟩ (fun hHeld => ?_)
                          clear hK K
                          refine norm_ (a' := ?_) ?_ ?_
                          rotate_left
                          · show Act.put _ (some 37) _ = _
                            simp only [Act.put, List.setIfInBounds_toArray, List.set_cons_zero, List.set_cons_succ, i64_w, i32_w]
                            rfl
                          refine pureA_ 23 38 (bm 35 16777215) ?_
                          refine pureA_ 24 39 (bm 35 33554431) ?_
                          refine pureA_ 25 40 (bm 35 67108863) ?_
                          refine pureU_ 26 41 (bm 35 134217727) ?_
                          refine pureU_ 27 42 (bm 35 268435455) ?_
                          refine pureU_ 28 43 (bm 35 536870911) ?_
                          refine pureA_ 29 44 (bm 35 1073741823) ?_
                          refine pureA_ 30 45 (bm 35 2147483647) ?_
                          refine pureU_ 31 46 (bm 35 4294967295) ?_
                          refine pureU_ 32 47 (bm 35 8589934591) ?_
                          refine pureU_ 33 48 (bm 35 17179869183) ?_
                          refine pureA_ 34 49 (bm 35 34359738367) ?_
                          refine done_ (done_of HT_.out (by kernel_rfl)) ?_
                          try go_wp2
                          go_ret
                          exact ⟨by first | rfl | (simp [errW_none, errW_some] <;> rfl) | (simp only [← hji7]; first | rfl | (simp [errW_none, errW_some] <;> rfl)) | (simp [*, errW_none, errW_some] <;> rfl), by repeat (first | (with_reducible first | exact HB.out | apply below_alloc | apply pw_below_drewN | apply below_drew1 | refine below_set ?_ GE177.out) | exact HB.out)⟩
                  · rw [if_neg c9] at H
                    exact absurd H (by simp)
                · rw [if_neg c8] at H
                  exact absurd H (by simp)
              · rw [if_neg c6] at H
                have c6b0 : decide (0 < x10_1) = false := decide_eq_false c6
                clear c6
                by_cases c52 : ((rd_T34 l0 x10_1).f1) = 0
                · rw [if_pos c52] at H
                  have c52b0 : (((rd_T34 l0 x10_1).f1) == 0) = true := beq_iff_eq.mpr c52
                  have c52b1 : (((rd_T34 l0 x10_1).f1) != 0) = false := bne_eq_false_iff_eq.mpr c52
                  clear c52
                  obtain rfl := Option.some.inj H
                  have p176 : 0 ≤ (x10_1 : Int) := of_decide_eq_true (by first | (with_reducible assumption) | assumption)
                  have q176 : x10_1 < (l0.length : Int) := of_decide_eq_true (by first | (with_reducible assumption) | assumption)
                  obtain ⟨ad176, e176, hx176_0, hx176_1, hx176_2, hx176_3⟩ := at_T34 HR0.out x10_1 p176 q176
                  cases e176
                  replace hx176_0 := (HB.out.cell (World.block_lt_of_cell? w _ hx176_0)).trans hx176_0
                  replace hx176_1 := (HB.out.cell (World.block_lt_of_cell? w _ hx176_1)).trans hx176_1
                  replace hx176_2 := (HB.out.cell (World.block_lt_of_cell? w _ hx176_2)).trans hx176_2
                  replace hx176_3 := (HB.out.cell (World.block_lt_of_cell? w _ hx176_3)).trans hx176_3
                  replace p176 := eq_true p176
                  replace q176 := eq_true q176
                  try go_wp2_with (first | ((with_reducible refine gate_dst (N := 4) rfl ?_); (try (refine gate_guard (by rfl) ?_; dsimp only)); refine box_event ?hg (N := 4) ?hd (cs := #[.int .u64 0, .int .u64 0, .int .u64 0, .int .i64 0]) (t := 34) ?hr ?_; (case hd => rfl); (case hg => rfl); (case hr => first | (go_simp; done) | (go_simp; rfl)); intro gb177 hg w53 hbox hb; have n0_ := Aside0.mk (below_step (belN HB) hb); have n1_ := Aside0.mk (hbox); have n2_ := Aside0.mk ((by rw [hg]; exact (below_size (belN HB)) : w.heap.size ≤ gb177)); have n3_ := Aside0.mk ((by rw [hg]; exact (below_size (belN HB)) : w.heap.size ≤ gb177)); clear HB; have HB := n0_; have BK177 := n1_; have GW177 := n2_; have GE177 := n3_; clear n0_ n1_ n2_ n3_; clear hb hbox hg; obtain ⟨hcz54_0, hcz54_1, hcz54_2, hcz54_3, hfz54_0, hfz54_1, hfz54_2, hfz54_3⟩ := cz4_ (w := w53) BK177.out) | ((with_reducible refine gate_store (t := 34) (p := 4) rfl ?_); refine store_event (t := 34) (p := 4) (v := ?vo_w55) (w1 := ((((w53.setCell ⟨gb177, 0, none⟩ (.int .u64 ((rd_T34 l0 x10_1).f0))).setCell ⟨gb177, 1, none⟩ (.int .u64 ((rd_T34 l0 x10_1).f1))).setCell ⟨gb177, 2, none⟩ (.int .u64 ((rd_T34 l0 x10_1).f2))).setCell ⟨gb177, 3, none⟩ (.int .i64 ((rd_T34 l0 x10_1).f3)))) ?hg ?ho ?hn ?hr ?_; (case ho => rfl); (case hg => rfl); (case hn => rfl); (case hr => first | (go_simp; done) | (go_simp; rfl)); intro w55 hw; have n0_ : Aside0 (w55.heap[gb177]? = some (.cells #[.int .u64 ((rd_T34 l0 x10_1).f0), .int .u64 ((rd_T34 l0 x10_1).f1), .int .u64 ((rd_T34 l0 x10_1).f2), .int .i64 ((rd_T34 l0 x10_1).f3)] 34 (0, 0))) := ⟨(by rw [hw]; exact (by (with_reducible repeat (first | refine blk_drewN ?_ _ | refine blk_drew ?_ | refine blk_alloc ?_ _)); refine blk_put (cs := #[.int .u64 ((rd_T34 l0 x10_1).f0), .int .u64 ((rd_T34 l0 x10_1).f1), .int .u64 ((rd_T34 l0 x10_1).f2), .int .i64 0]) ?_ 3 _ rfl; refine blk_put (cs := #[.int .u64 ((rd_T34 l0 x10_1).f0), .int .u64 ((rd_T34 l0 x10_1).f1), .int .u64 0, .int .i64 0]) ?_ 2 _ rfl; refine blk_put (cs := #[.int .u64 ((rd_T34 l0 x10_1).f0), .int .u64 0, .int .u64 0, .int .i64 0]) ?_ 1 _ rfl; refine blk_put (cs := #[.int .u64 0, .int .u64 0, .int .u64 0, .int .i64 0]) ?_ 0 _ rfl; (with_reducible repeat (first | refine blk_drewN ?_ _ | refine blk_drew ?_ | refine blk_alloc ?_ _)); exact BK177.out))⟩; have n1_ : Aside0 (Below w.heap.size w w55) := ⟨(by rw [hw]; exact (belN HB))⟩; clear hw; clear BK177; clear HB; have BK177 := n0_; have HB := n1_; clear n0_ n1_))
                  have n0_ := Aside0.mk (blk_drew BK177.out)
                  have n1_ := Aside0.mk (below_drew1 HB.out)
                  clear BK177
                  clear HB
                  have BK177 := n0_
                  have HB := n1_
                  clear n0_ n1_
                  refine start_ (n := 35) (S := fun w' => w'.cell? ⟨gb177, 0, none⟩ = some (.int .u64 ((rd_T34 l0 x10_1).f0)) ∧ w'.cell? ⟨gb177, 1, none⟩ = some (.int .u64 ((rd_T34 l0 x10_1).f1)) ∧ w'.cell? ⟨gb177, 2, none⟩ = some (.int .u64 ((rd_T34 l0 x10_1).f2)) ∧ w'.cell? ⟨gb177, 3, none⟩ = some (.int .i64 ((rd_T34 l0 x10_1).f3))) (ds := []) #[false, false, false, false, false, false, false, false, false, false, false, false, false, false, false, false, false, false, false, false, false, false, false, false, false, false, false, false, false, false, false, false, false, false, false] (by kernel_rfl) rfl rfl ⟨(blk_cell BK177.out 0).trans rfl, (blk_cell BK177.out 1).trans rfl, (blk_cell BK177.out 2).trans rfl, (blk_cell BK177.out 3).trans rfl⟩ (fun hHeld => ?_); refine with_tabW damsonref12_Check.tab6 damsonref12_Check.bits6 (fun HT_ HW_ => ?_)
                  generalize w55.drew = w56 at BK177 HB hHeld ⊢
                  refine pureA_ 0 15 (bm 35 1) ?_
                  refine pureA_ 1 16 (bm 35 3) ?_
                  refine pureA_ 2 17 (bm 35 7) ?_
                  refine pureU_ 3 18 (bm 35 15) ?_
                  refine pureU_ 4 19 (bm 35 31) ?_
                  refine pureU_ 5 20 (bm 35 63) ?_
                  refine pureU_ 6 21 (bm 35 127) ?_
                  refine pureU_ 7 22 (bm 35 255) ?_
                  refine pureU_ 8 23 (bm 35 511) ?_
                  refine pureU_ 9 24 (bm 35 1023) ?_
                  refine pureU_ 10 25 (bm 35 2047) ?_
                  refine pureU_ 11 26 (bm 35 4095) ?_
                  refine pureA_ 12 27 (bm 35 8191) ?_
                  refine pureA_ 13 28 (bm 35 16383) ?_
                  refine pureA_ 14 29 (bm 35 32767) ?_
                  refine take_ (i := 15) (N := some 30) (v := ?_) (a' := ?_) #[true, true, true, true, true, true, true, true, true, true, true, true, true, true, true, true, false, false, false, false, false, false, false, false, false, false, false, false, false, false, false, false, false, false, false] rfl rfl (take_ofW HT_.out HW_.out (by kernel_rfl)) (fun _ _ _ h => h) (Or.inl ⟨by rfl, ?_⟩) hHeld ?_ ?_
                  rotate_left
                  · rintro w' ⟨s0, s1, s2, s3⟩
                    go_simp
                    with_reducible rfl
                  rotate_left
                  · simp only [Act.put, List.setIfInBounds_toArray, List.set_cons_zero, List.set_cons_succ, i64_w, i32_w]
                    rfl
                  refine pureA_ 16 31 (bm 35 131071) ?_
                  refine pureA_ 17 32 (bm 35 262143) ?_
                  refine pureA_ 18 33 (bm 35 524287) ?_
                  refine pureU_ 19 34 (bm 35 1048575) ?_
                  refine pureU_ 20 35 (bm 35 2097151) ?_
                  refine pureU_ 21 36 (bm 35 4194303) ?_
                  refine pureU_ 22 37 (bm 35 8388607) ?_
                  refine pureU_ 23 38 (bm 35 16777215) ?_
                  refine pureA_ 24 39 (bm 35 33554431) ?_
                  refine pureA_ 25 40 (bm 35 67108863) ?_
                  refine pureU_ 26 41 (bm 35 134217727) ?_
                  refine pureU_ 27 42 (bm 35 268435455) ?_
                  refine pureU_ 28 43 (bm 35 536870911) ?_
                  refine pureA_ 29 44 (bm 35 1073741823) ?_
                  refine pureA_ 30 45 (bm 35 2147483647) ?_
                  refine pureU_ 31 46 (bm 35 4294967295) ?_
                  refine pureU_ 32 47 (bm 35 8589934591) ?_
                  refine pureU_ 33 48 (bm 35 17179869183) ?_
                  refine pureA_ 34 49 (bm 35 34359738367) ?_
                  refine done_ (done_of HT_.out (by kernel_rfl)) ?_
                  try go_wp2
                  go_ret
                  exact ⟨by first | rfl | (simp [errW_none, errW_some] <;> rfl) | (simp [*, errW_none, errW_some] <;> rfl), by repeat (first | (with_reducible first | exact HB.out | apply below_alloc | apply pw_below_drewN | apply below_drew1 | refine below_set ?_ GE177.out) | exact HB.out)⟩
                · rw [if_neg c52] at H
                  have c52b0 : (((rd_T34 l0 x10_1).f1) == 0) = false := beq_eq_false_iff_ne.mpr c52
                  have c52b1 : (((rd_T34 l0 x10_1).f1) != 0) = true := bne_iff_ne.mpr c52
                  obtain ⟨y183, hy183⟩ : ∃ y_ : List Int, y_ = (([(rd_T34 l0 x10_1).f1] : List Int)) := ⟨_, rfl⟩
                  replace H : ((damsonref04_Check.f k1 y183).bind fun t186 => (if t186 = 0 then (if ((rd_T34 l0 x10_1).f3) < 1 then (some 1) else (if ((rd_T34 l0 x10_1).f3) > 3 then (some 1) else (damsonref12_Check.l0 k1 l0 l0 (l0.length : Int) (wrap64 (x10_1 + 1))))) else (some 1))) = some r := by first | (rw [hy183]; with_reducible exact H) | (have H2_ := (Option.bind_some _ _).symm.trans H; rw [hy183]; with_reducible exact H2_) | (have H2_ := (Option.bind_some _ _).symm.trans H; with_reducible exact H2_) | with_reducible exact H | (rw [hy183]; exact H) | exact H
                  have Ny183 := Aside0.mk hy183
                  clear hy183
                  replace H := Option.bind_eq_some_iff.mp H
                  obtain ⟨t186, A570, H⟩ := H
                  replace H : (if t186 = 0 then (if ((rd_T34 l0 x10_1).f3) < 1 then (some 1) else (if ((rd_T34 l0 x10_1).f3) > 3 then (some 1) else (damsonref12_Check.l0 k1 l0 l0 (l0.length : Int) (wrap64 (x10_1 + 1))))) else (some 1)) = some r := H
                  have A57 := Aside0.mk A570
                  clear A570
                  by_cases c58 : t186 = 0
                  · rw [if_pos c58] at H
                    have c58b0 : (t186 == 0) = true := beq_iff_eq.mpr c58
                    have c58b1 : (t186 != 0) = false := bne_eq_false_iff_eq.mpr c58
                    clear c58
                    by_cases c59 : ((rd_T34 l0 x10_1).f3) < 1
                    · rw [if_pos c59] at H
                      have c59b0 : decide (((rd_T34 l0 x10_1).f3) < 1) = true := decide_eq_true c59
                      clear c59
                      obtain rfl := Option.some.inj H
                      have p176 : 0 ≤ (x10_1 : Int) := of_decide_eq_true (by first | (with_reducible assumption) | assumption)
                      have q176 : x10_1 < (l0.length : Int) := of_decide_eq_true (by first | (with_reducible assumption) | assumption)
                      obtain ⟨ad176, e176, hx176_0, hx176_1, hx176_2, hx176_3⟩ := at_T34 HR0.out x10_1 p176 q176
                      cases e176
                      replace hx176_0 := (HB.out.cell (World.block_lt_of_cell? w _ hx176_0)).trans hx176_0
                      replace hx176_1 := (HB.out.cell (World.block_lt_of_cell? w _ hx176_1)).trans hx176_1
                      replace hx176_2 := (HB.out.cell (World.block_lt_of_cell? w _ hx176_2)).trans hx176_2
                      replace hx176_3 := (HB.out.cell (World.block_lt_of_cell? w _ hx176_3)).trans hx176_3
                      replace p176 := eq_true p176
                      replace q176 := eq_true q176
                      try go_wp2_with (first | ((with_reducible refine gate_dst (N := 4) rfl ?_); (try (refine gate_guard (by rfl) ?_; dsimp only)); refine box_event ?hg (N := 4) ?hd (cs := #[.int .u64 0, .int .u64 0, .int .u64 0, .int .i64 0]) (t := 34) ?hr ?_; (case hd => rfl); (case hg => rfl); (case hr => first | (go_simp; done) | (go_simp; rfl)); intro gb177 hg w60 hbox hb; have n0_ := Aside0.mk (below_step (belN HB) hb); have n1_ := Aside0.mk (hbox); have n2_ := Aside0.mk ((by rw [hg]; exact (below_size (belN HB)) : w.heap.size ≤ gb177)); have n3_ := Aside0.mk ((by rw [hg]; exact (below_size (belN HB)) : w.heap.size ≤ gb177)); clear HB; have HB := n0_; have BK177 := n1_; have GW177 := n2_; have GE177 := n3_; clear n0_ n1_ n2_ n3_; clear hb hbox hg; obtain ⟨hcz61_0, hcz61_1, hcz61_2, hcz61_3, hfz61_0, hfz61_1, hfz61_2, hfz61_3⟩ := cz4_ (w := w60) BK177.out) | ((with_reducible refine gate_store (t := 34) (p := 4) rfl ?_); refine store_event (t := 34) (p := 4) (v := ?vo_w62) (w1 := ((((w60.setCell ⟨gb177, 0, none⟩ (.int .u64 ((rd_T34 l0 x10_1).f0))).setCell ⟨gb177, 1, none⟩ (.int .u64 ((rd_T34 l0 x10_1).f1))).setCell ⟨gb177, 2, none⟩ (.int .u64 ((rd_T34 l0 x10_1).f2))).setCell ⟨gb177, 3, none⟩ (.int .i64 ((rd_T34 l0 x10_1).f3)))) ?hg ?ho ?hn ?hr ?_; (case ho => rfl); (case hg => rfl); (case hn => rfl); (case hr => first | (go_simp; done) | (go_simp; rfl)); intro w62 hw; have n0_ : Aside0 (w62.heap[gb177]? = some (.cells #[.int .u64 ((rd_T34 l0 x10_1).f0), .int .u64 ((rd_T34 l0 x10_1).f1), .int .u64 ((rd_T34 l0 x10_1).f2), .int .i64 ((rd_T34 l0 x10_1).f3)] 34 (0, 0))) := ⟨(by rw [hw]; exact (by (with_reducible repeat (first | refine blk_drewN ?_ _ | refine blk_drew ?_ | refine blk_alloc ?_ _)); refine blk_put (cs := #[.int .u64 ((rd_T34 l0 x10_1).f0), .int .u64 ((rd_T34 l0 x10_1).f1), .int .u64 ((rd_T34 l0 x10_1).f2), .int .i64 0]) ?_ 3 _ rfl; refine blk_put (cs := #[.int .u64 ((rd_T34 l0 x10_1).f0), .int .u64 ((rd_T34 l0 x10_1).f1), .int .u64 0, .int .i64 0]) ?_ 2 _ rfl; refine blk_put (cs := #[.int .u64 ((rd_T34 l0 x10_1).f0), .int .u64 0, .int .u64 0, .int .i64 0]) ?_ 1 _ rfl; refine blk_put (cs := #[.int .u64 0, .int .u64 0, .int .u64 0, .int .i64 0]) ?_ 0 _ rfl; (with_reducible repeat (first | refine blk_drewN ?_ _ | refine blk_drew ?_ | refine blk_alloc ?_ _)); exact BK177.out))⟩; have n1_ : Aside0 (Below w.heap.size w w62) := ⟨(by rw [hw]; exact (belN HB))⟩; clear hw; clear BK177; clear HB; have BK177 := n0_; have HB := n1_; clear n0_ n1_))
                      have n0_ := Aside0.mk (blk_drew BK177.out)
                      have n1_ := Aside0.mk (below_drew1 HB.out)
                      clear BK177
                      clear HB
                      have BK177 := n0_
                      have HB := n1_
                      clear n0_ n1_
                      refine start_ (n := 35) (S := fun w' => w'.cell? ⟨gb177, 0, none⟩ = some (.int .u64 ((rd_T34 l0 x10_1).f0)) ∧ w'.cell? ⟨gb177, 1, none⟩ = some (.int .u64 ((rd_T34 l0 x10_1).f1)) ∧ w'.cell? ⟨gb177, 2, none⟩ = some (.int .u64 ((rd_T34 l0 x10_1).f2)) ∧ w'.cell? ⟨gb177, 3, none⟩ = some (.int .i64 ((rd_T34 l0 x10_1).f3))) (ds := []) #[false, false, false, false, false, false, false, false, false, false, false, false, false, false, false, false, false, false, false, false, false, false, false, false, false, false, false, false, false, false, false, false, false, false, false] (by kernel_rfl) rfl rfl ⟨(blk_cell BK177.out 0).trans rfl, (blk_cell BK177.out 1).trans rfl, (blk_cell BK177.out 2).trans rfl, (blk_cell BK177.out 3).trans rfl⟩ (fun hHeld => ?_); refine with_tabW damsonref12_Check.tab6 damsonref12_Check.bits6 (fun HT_ HW_ => ?_)
                      generalize w62.drew = w63 at BK177 HB hHeld ⊢
                      refine pureA_ 0 15 (bm 35 1) ?_
                      refine pureA_ 1 16 (bm 35 3) ?_
                      refine pureA_ 2 17 (bm 35 7) ?_
                      refine pureU_ 3 18 (bm 35 15) ?_
                      refine pureU_ 4 19 (bm 35 31) ?_
                      refine pureU_ 5 20 (bm 35 63) ?_
                      refine pureU_ 6 21 (bm 35 127) ?_
                      refine pureU_ 7 22 (bm 35 255) ?_
                      refine pureU_ 8 23 (bm 35 511) ?_
                      refine pureU_ 9 24 (bm 35 1023) ?_
                      refine pureU_ 10 25 (bm 35 2047) ?_
                      refine pureU_ 11 26 (bm 35 4095) ?_
                      refine pureA_ 12 27 (bm 35 8191) ?_
                      refine pureA_ 13 28 (bm 35 16383) ?_
                      refine pureA_ 14 29 (bm 35 32767) ?_
                      refine take_ (i := 15) (N := some 30) (v := ?_) (a' := ?_) #[true, true, true, true, true, true, true, true, true, true, true, true, true, true, true, true, false, false, false, false, false, false, false, false, false, false, false, false, false, false, false, false, false, false, false] rfl rfl (take_ofW HT_.out HW_.out (by kernel_rfl)) (fun _ _ _ h => h) (Or.inl ⟨by rfl, ?_⟩) hHeld ?_ ?_
                      rotate_left
                      · rintro w' ⟨s0, s1, s2, s3⟩
                        go_simp
                        with_reducible rfl
                      rotate_left
                      · simp only [Act.put, List.setIfInBounds_toArray, List.set_cons_zero, List.set_cons_succ, i64_w, i32_w]
                        rfl
                      refine pureA_ 16 31 (bm 35 131071) ?_
                      refine pureA_ 17 32 (bm 35 262143) ?_
                      refine pureA_ 18 33 (bm 35 524287) ?_
                      refine pureA_ 19 34 (bm 35 1048575) ?_
                      refine take_ (i := 20) (N := some 35) (v := ?_) (a' := ?_) #[true, true, true, true, true, true, true, true, true, true, true, true, true, true, true, true, true, true, true, true, true, false, false, false, false, false, false, false, false, false, false, false, false, false, false] rfl rfl (take_ofW HT_.out HW_.out (by kernel_rfl)) (fun _ _ _ h => h) (Or.inl ⟨by rfl, ?_⟩) hHeld ?_ ?_
                      rotate_left
                      · rintro w' ⟨s0, s1, s2, s3⟩
                        go_simp
                        with_reducible rfl
                      rotate_left
                      · simp only [Act.put, List.setIfInBounds_toArray, List.set_cons_zero, List.set_cons_succ, i64_w, i32_w]
                        rfl
                      refine one_ (i := 21) (N := some 36) #[true, true, true, true, true, true, true, true, true, true, true, true, true, true, true, true, true, true, true, true, true, true, false, false, false, false, false, false, false, false, false, false, false, false, false] rfl rfl (one_of HT_.out (by kernel_rfl)) (by decide) (fun K hK => ?_)
                      refine Kd.R_lit_step (Kd.int .u64) _ 23 ?hg (N := 36) ?hd (xs := ([(rd_T34 l0 x10_1).f1] : List Int)) (inner := [.int .u64 ((rd_T34 l0 x10_1).f1)]) (ok := fun _ => True) (okp := fun _ => True) ?hr ?hp (fun _ hk => hk) trivial (Below.refl _ _) (Nat.le_refl _) (by simp) ?_; (case hd => rfl); (case hg => rfl); (case hr => first | (go_simp; done) | (go_simp; rfl)); (case hp => exact (Reps.one (show Kd.M (Kd.int .u64) _ _ _ ((rd_T34 l0 x10_1).f1) [.int .u64 ((rd_T34 l0 x10_1).f1)] from rfl) (Reps.none _ _)))
                      intro v184 w64 ho65 hb hg_ hnew_
                      clear hg_ hnew_
                      (first | rw [← Ny183.out] at ho65 | (simp only [Int.reduceToNat] at ho65; rw [← Ny183.out] at ho65))
                      have n0_ := Aside0.mk (Kd.R_lower ho65 (below_size (belN HB)))
                      have n1_ := Aside0.mk (blk_below (g := gb177) (blkN BK177) hb)
                      have n2_ := Aside0.mk (below_step (belN HB) hb)
                      clear BK177
                      clear HB
                      have HO185 := n0_
                      have BK177 := n1_
                      have HB := n2_
                      clear n0_ n1_ n2_
                      clear hb ho65
                      obtain ⟨Ao66, co66, eo66⟩ := Kd.R_slice HO185.out
                      (first | subst eo66 | (injection eo66 with f1_ f2_ f3_; have f4_ := f1_.symm; have f5_ := f3_.symm; clear f1_ f2_ f3_; subst f4_; subst f5_))
                      refine hK.out _ _ ⟨(blk_cell BK177.out 0).trans rfl, (blk_cell BK177.out 1).trans rfl, (blk_cell BK177.out 2).trans rfl, (blk_cell BK177.out 3).trans rfl⟩ (fun hHeld => ?_)
                      clear hK K
                      refine norm_ (a' := ?_) ?_ ?_
                      rotate_left
                      · show Act.put _ (some 36) _ = _
                        simp only [Act.put, List.setIfInBounds_toArray, List.set_cons_zero, List.set_cons_succ, i64_w, i32_w]
                        rfl
                      refine one_ (i := 22) (N := some 37) #[true, true, true, true, true, true, true, true, true, true, true, true, true, true, true, true, true, true, true, true, true, true, true, false, false, false, false, false, false, false, false, false, false, false, false] rfl rfl (one_of HT_.out (by kernel_rfl)) (by decide) (fun K hK => ?_)
                      refine goes_ Try.func36 (by kernel_rfl) rfl #[.slice Ao66 y183.length co66] (by rfl) rfl rfl (by (try simp only [List.map_toArray, List.map_cons, List.map_nil]); first | done | rfl | (simp only [List.length_drop, List.length_take]; rfl)) ?_
                      with_reducible refine (damsonref04_Check.calls k1 _ _ y183 t186 _ ?side1 ?side2 A57.out).mono ?_
                      (case side1 => exact Kd.CN (Kd.R_reads' HO185.out).2.2)
                      (case side2 => exact (Kd.R_reads' HO185.out).2.1)
                      rintro e w' ⟨rfl, ⟨nd, rfl⟩⟩
                      refine ⟨_, rfl, ?_⟩
                      refine hK.out _ _ ⟨(blk_cell BK177.out 0).trans rfl, (blk_cell BK177.out 1).trans rfl, (blk_cell BK177.out 2).trans rfl, (blk_cell BK177.out 3).trans rfl⟩ (fun hHeld => ?_)
                      clear hK K
                      refine norm_ (a' := ?_) ?_ ?_
                      rotate_left
                      · show Act.put _ (some 37) _ = _
                        simp only [Act.put, List.setIfInBounds_toArray, List.set_cons_zero, List.set_cons_succ, i64_w, i32_w]
                        rfl
                      refine pureA_ 23 38 (bm 35 16777215) ?_
                      refine pureA_ 24 39 (bm 35 33554431) ?_
                      refine pureA_ 25 40 (bm 35 67108863) ?_
                      refine pureA_ 26 41 (bm 35 134217727) ?_
                      refine take_ (i := 27) (N := some 42) (v := ?_) (a' := ?_) #[true, true, true, true, true, true, true, true, true, true, true, true, true, true, true, true, true, true, true, true, true, true, true, true, true, true, true, true, false, false, false, false, false, false, false] rfl rfl (take_ofW HT_.out HW_.out (by kernel_rfl)) (fun _ _ _ h => h) (Or.inl ⟨by rfl, ?_⟩) hHeld ?_ ?_
                      rotate_left
                      · rintro w' ⟨s0, s1, s2, s3⟩
                        go_simp
                        with_reducible rfl
                      rotate_left
                      · simp only [Act.put, List.setIfInBounds_toArray, List.set_cons_zero, List.set_cons_succ, i64_w, i32_w]
                        rfl
                      refine pureA_ 28 43 (bm 35 536870911) ?_
                      refine pureA_ 29 44 (bm 35 1073741823) ?_
                      refine pureA_ 30 45 (bm 35 2147483647) ?_
                      refine pureU_ 31 46 (bm 35 4294967295) ?_
                      refine pureU_ 32 47 (bm 35 8589934591) ?_
                      refine pureU_ 33 48 (bm 35 17179869183) ?_
                      refine pureA_ 34 49 (bm 35 34359738367) ?_
                      refine done_ (done_of HT_.out (by kernel_rfl)) ?_
                      try go_wp2
                      go_ret
                      exact ⟨by first | rfl | (simp [errW_none, errW_some] <;> rfl) | (simp [*, errW_none, errW_some] <;> rfl), by repeat (first | (with_reducible first | exact HB.out | apply below_alloc | apply pw_below_drewN | apply below_drew1 | refine below_set ?_ GE177.out) | exact HB.out)⟩
                    · rw [if_neg c59] at H
                      have c59b0 : decide (((rd_T34 l0 x10_1).f3) < 1) = false := decide_eq_false c59
                      clear c59
                      by_cases c67 : ((rd_T34 l0 x10_1).f3) > 3
                      · rw [if_pos c67] at H
                        have c67b0 : decide (3 < ((rd_T34 l0 x10_1).f3)) = true := decide_eq_true c67
                        clear c67
                        obtain rfl := Option.some.inj H
                        have p176 : 0 ≤ (x10_1 : Int) := of_decide_eq_true (by first | (with_reducible assumption) | assumption)
                        have q176 : x10_1 < (l0.length : Int) := of_decide_eq_true (by first | (with_reducible assumption) | assumption)
                        obtain ⟨ad176, e176, hx176_0, hx176_1, hx176_2, hx176_3⟩ := at_T34 HR0.out x10_1 p176 q176
                        cases e176
                        replace hx176_0 := (HB.out.cell (World.block_lt_of_cell? w _ hx176_0)).trans hx176_0
                        replace hx176_1 := (HB.out.cell (World.block_lt_of_cell? w _ hx176_1)).trans hx176_1
                        replace hx176_2 := (HB.out.cell (World.block_lt_of_cell? w _ hx176_2)).trans hx176_2
                        replace hx176_3 := (HB.out.cell (World.block_lt_of_cell? w _ hx176_3)).trans hx176_3
                        replace p176 := eq_true p176
                        replace q176 := eq_true q176
                        try go_wp2_with (first | ((with_reducible refine gate_dst (N := 4) rfl ?_); (try (refine gate_guard (by rfl) ?_; dsimp only)); refine box_event ?hg (N := 4) ?hd (cs := #[.int .u64 0, .int .u64 0, .int .u64 0, .int .i64 0]) (t := 34) ?hr ?_; (case hd => rfl); (case hg => rfl); (case hr => first | (go_simp; done) | (go_simp; rfl)); intro gb177 hg w68 hbox hb; have n0_ := Aside0.mk (below_step (belN HB) hb); have n1_ := Aside0.mk (hbox); have n2_ := Aside0.mk ((by rw [hg]; exact (below_size (belN HB)) : w.heap.size ≤ gb177)); have n3_ := Aside0.mk ((by rw [hg]; exact (below_size (belN HB)) : w.heap.size ≤ gb177)); clear HB; have HB := n0_; have BK177 := n1_; have GW177 := n2_; have GE177 := n3_; clear n0_ n1_ n2_ n3_; clear hb hbox hg; obtain ⟨hcz69_0, hcz69_1, hcz69_2, hcz69_3, hfz69_0, hfz69_1, hfz69_2, hfz69_3⟩ := cz4_ (w := w68) BK177.out) | ((with_reducible refine gate_store (t := 34) (p := 4) rfl ?_); refine store_event (t := 34) (p := 4) (v := ?vo_w70) (w1 := ((((w68.setCell ⟨gb177, 0, none⟩ (.int .u64 ((rd_T34 l0 x10_1).f0))).setCell ⟨gb177, 1, none⟩ (.int .u64 ((rd_T34 l0 x10_1).f1))).setCell ⟨gb177, 2, none⟩ (.int .u64 ((rd_T34 l0 x10_1).f2))).setCell ⟨gb177, 3, none⟩ (.int .i64 ((rd_T34 l0 x10_1).f3)))) ?hg ?ho ?hn ?hr ?_; (case ho => rfl); (case hg => rfl); (case hn => rfl); (case hr => first | (go_simp; done) | (go_simp; rfl)); intro w70 hw; have n0_ : Aside0 (w70.heap[gb177]? = some (.cells #[.int .u64 ((rd_T34 l0 x10_1).f0), .int .u64 ((rd_T34 l0 x10_1).f1), .int .u64 ((rd_T34 l0 x10_1).f2), .int .i64 ((rd_T34 l0 x10_1).f3)] 34 (0, 0))) := ⟨(by rw [hw]; exact (by (with_reducible repeat (first | refine blk_drewN ?_ _ | refine blk_drew ?_ | refine blk_alloc ?_ _)); refine blk_put (cs := #[.int .u64 ((rd_T34 l0 x10_1).f0), .int .u64 ((rd_T34 l0 x10_1).f1), .int .u64 ((rd_T34 l0 x10_1).f2), .int .i64 0]) ?_ 3 _ rfl; refine blk_put (cs := #[.int .u64 ((rd_T34 l0 x10_1).f0), .int .u64 ((rd_T34 l0 x10_1).f1), .int .u64 0, .int .i64 0]) ?_ 2 _ rfl; refine blk_put (cs := #[.int .u64 ((rd_T34 l0 x10_1).f0), .int .u64 0, .int .u64 0, .int .i64 0]) ?_ 1 _ rfl; refine blk_put (cs := #[.int .u64 0, .int .u64 0, .int .u64 0, .int .i64 0]) ?_ 0 _ rfl; (with_reducible repeat (first | refine blk_drewN ?_ _ | refine blk_drew ?_ | refine blk_alloc ?_ _)); exact BK177.out))⟩; have n1_ : Aside0 (Below w.heap.size w w70) := ⟨(by rw [hw]; exact (belN HB))⟩; clear hw; clear BK177; clear HB; have BK177 := n0_; have HB := n1_; clear n0_ n1_))
                        have n0_ := Aside0.mk (blk_drew BK177.out)
                        have n1_ := Aside0.mk (below_drew1 HB.out)
                        clear BK177
                        clear HB
                        have BK177 := n0_
                        have HB := n1_
                        clear n0_ n1_
                        refine start_ (n := 35) (S := fun w' => w'.cell? ⟨gb177, 0, none⟩ = some (.int .u64 ((rd_T34 l0 x10_1).f0)) ∧ w'.cell? ⟨gb177, 1, none⟩ = some (.int .u64 ((rd_T34 l0 x10_1).f1)) ∧ w'.cell? ⟨gb177, 2, none⟩ = some (.int .u64 ((rd_T34 l0 x10_1).f2)) ∧ w'.cell? ⟨gb177, 3, none⟩ = some (.int .i64 ((rd_T34 l0 x10_1).f3))) (ds := []) #[false, false, false, false, false, false, false, false, false, false, false, false, false, false, false, false, false, false, false, false, false, false, false, false, false, false, false, false, false, false, false, false, false, false, false] (by kernel_rfl) rfl rfl ⟨(blk_cell BK177.out 0).trans rfl, (blk_cell BK177.out 1).trans rfl, (blk_cell BK177.out 2).trans rfl, (blk_cell BK177.out 3).trans rfl⟩ (fun hHeld => ?_); refine with_tabW damsonref12_Check.tab6 damsonref12_Check.bits6 (fun HT_ HW_ => ?_)
                        generalize w70.drew = w71 at BK177 HB hHeld ⊢
                        refine pureA_ 0 15 (bm 35 1) ?_
                        refine pureA_ 1 16 (bm 35 3) ?_
                        refine pureA_ 2 17 (bm 35 7) ?_
                        refine pureU_ 3 18 (bm 35 15) ?_
                        refine pureU_ 4 19 (bm 35 31) ?_
                        refine pureU_ 5 20 (bm 35 63) ?_
                        refine pureU_ 6 21 (bm 35 127) ?_
                        refine pureU_ 7 22 (bm 35 255) ?_
                        refine pureU_ 8 23 (bm 35 511) ?_
                        refine pureU_ 9 24 (bm 35 1023) ?_
                        refine pureU_ 10 25 (bm 35 2047) ?_
                        refine pureU_ 11 26 (bm 35 4095) ?_
                        refine pureA_ 12 27 (bm 35 8191) ?_
                        refine pureA_ 13 28 (bm 35 16383) ?_
                        refine pureA_ 14 29 (bm 35 32767) ?_
                        refine take_ (i := 15) (N := some 30) (v := ?_) (a' := ?_) #[true, true, true, true, true, true, true, true, true, true, true, true, true, true, true, true, false, false, false, false, false, false, false, false, false, false, false, false, false, false, false, false, false, false, false] rfl rfl (take_ofW HT_.out HW_.out (by kernel_rfl)) (fun _ _ _ h => h) (Or.inl ⟨by rfl, ?_⟩) hHeld ?_ ?_
                        rotate_left
                        · rintro w' ⟨s0, s1, s2, s3⟩
                          go_simp
                          with_reducible rfl
                        rotate_left
                        · simp only [Act.put, List.setIfInBounds_toArray, List.set_cons_zero, List.set_cons_succ, i64_w, i32_w]
                          rfl
                        refine pureA_ 16 31 (bm 35 131071) ?_
                        refine pureA_ 17 32 (bm 35 262143) ?_
                        refine pureA_ 18 33 (bm 35 524287) ?_
                        refine pureA_ 19 34 (bm 35 1048575) ?_
                        refine take_ (i := 20) (N := some 35) (v := ?_) (a' := ?_) #[true, true, true, true, true, true, true, true, true, true, true, true, true, true, true, true, true, true, true, true, true, false, false, false, false, false, false, false, false, false, false, false, false, false, false] rfl rfl (take_ofW HT_.out HW_.out (by kernel_rfl)) (fun _ _ _ h => h) (Or.inl ⟨by rfl, ?_⟩) hHeld ?_ ?_
                        rotate_left
                        · rintro w' ⟨s0, s1, s2, s3⟩
                          go_simp
                          with_reducible rfl
                        rotate_left
                        · simp only [Act.put, List.setIfInBounds_toArray, List.set_cons_zero, List.set_cons_succ, i64_w, i32_w]
                          rfl
                        refine one_ (i := 21) (N := some 36) #[true, true, true, true, true, true, true, true, true, true, true, true, true, true, true, true, true, true, true, true, true, true, false, false, false, false, false, false, false, false, false, false, false, false, false] rfl rfl (one_of HT_.out (by kernel_rfl)) (by decide) (fun K hK => ?_)
                        refine Kd.R_lit_step (Kd.int .u64) _ 23 ?hg (N := 36) ?hd (xs := ([(rd_T34 l0 x10_1).f1] : List Int)) (inner := [.int .u64 ((rd_T34 l0 x10_1).f1)]) (ok := fun _ => True) (okp := fun _ => True) ?hr ?hp (fun _ hk => hk) trivial (Below.refl _ _) (Nat.le_refl _) (by simp) ?_; (case hd => rfl); (case hg => rfl); (case hr => first | (go_simp; done) | (go_simp; rfl)); (case hp => exact (Reps.one (show Kd.M (Kd.int .u64) _ _ _ ((rd_T34 l0 x10_1).f1) [.int .u64 ((rd_T34 l0 x10_1).f1)] from rfl) (Reps.none _ _)))
                        intro v184 w72 ho73 hb hg_ hnew_
                        clear hg_ hnew_
                        (first | rw [← Ny183.out] at ho73 | (simp only [Int.reduceToNat] at ho73; rw [← Ny183.out] at ho73))
                        have n0_ := Aside0.mk (Kd.R_lower ho73 (below_size (belN HB)))
                        have n1_ := Aside0.mk (blk_below (g := gb177) (blkN BK177) hb)
                        have n2_ := Aside0.mk (below_step (belN HB) hb)
                        clear BK177
                        clear HB
                        have HO185 := n0_
                        have BK177 := n1_
                        have HB := n2_
                        clear n0_ n1_ n2_
                        clear hb ho73
                        obtain ⟨Ao74, co74, eo74⟩ := Kd.R_slice HO185.out
                        (first | subst eo74 | (injection eo74 with f1_ f2_ f3_; have f4_ := f1_.symm; have f5_ := f3_.symm; clear f1_ f2_ f3_; subst f4_; subst f5_))
                        refine hK.out _ _ ⟨(blk_cell BK177.out 0).trans rfl, (blk_cell BK177.out 1).trans rfl, (blk_cell BK177.out 2).trans rfl, (blk_cell BK177.out 3).trans rfl⟩ (fun hHeld => ?_)
                        clear hK K
                        refine norm_ (a' := ?_) ?_ ?_
                        rotate_left
                        · show Act.put _ (some 36) _ = _
                          simp only [Act.put, List.setIfInBounds_toArray, List.set_cons_zero, List.set_cons_succ, i64_w, i32_w]
                          rfl
                        refine one_ (i := 22) (N := some 37) #[true, true, true, true, true, true, true, true, true, true, true, true, true, true, true, true, true, true, true, true, true, true, true, false, false, false, false, false, false, false, false, false, false, false, false] rfl rfl (one_of HT_.out (by kernel_rfl)) (by decide) (fun K hK => ?_)
                        refine goes_ Try.func36 (by kernel_rfl) rfl #[.slice Ao74 y183.length co74] (by rfl) rfl rfl (by (try simp only [List.map_toArray, List.map_cons, List.map_nil]); first | done | rfl | (simp only [List.length_drop, List.length_take]; rfl)) ?_
                        with_reducible refine (damsonref04_Check.calls k1 _ _ y183 t186 _ ?side1 ?side2 A57.out).mono ?_
                        (case side1 => exact Kd.CN (Kd.R_reads' HO185.out).2.2)
                        (case side2 => exact (Kd.R_reads' HO185.out).2.1)
                        rintro e w' ⟨rfl, ⟨nd, rfl⟩⟩
                        refine ⟨_, rfl, ?_⟩
                        refine hK.out _ _ ⟨(blk_cell BK177.out 0).trans rfl, (blk_cell BK177.out 1).trans rfl, (blk_cell BK177.out 2).trans rfl, (blk_cell BK177.out 3).trans rfl⟩ (fun hHeld => ?_)
                        clear hK K
                        refine norm_ (a' := ?_) ?_ ?_
                        rotate_left
                        · show Act.put _ (some 37) _ = _
                          simp only [Act.put, List.setIfInBounds_toArray, List.set_cons_zero, List.set_cons_succ, i64_w, i32_w]
                          rfl
                        refine pureA_ 23 38 (bm 35 16777215) ?_
                        refine pureA_ 24 39 (bm 35 33554431) ?_
                        refine pureA_ 25 40 (bm 35 67108863) ?_
                        refine pureA_ 26 41 (bm 35 134217727) ?_
                        refine take_ (i := 27) (N := some 42) (v := ?_) (a' := ?_) #[true, true, true, true, true, true, true, true, true, true, true, true, true, true, true, true, true, true, true, true, true, true, true, true, true, true, true, true, false, false, false, false, false, false, false] rfl rfl (take_ofW HT_.out HW_.out (by kernel_rfl)) (fun _ _ _ h => h) (Or.inl ⟨by rfl, ?_⟩) hHeld ?_ ?_
                        rotate_left
                        · rintro w' ⟨s0, s1, s2, s3⟩
                          go_simp
                          with_reducible rfl
                        rotate_left
                        · simp only [Act.put, List.setIfInBounds_toArray, List.set_cons_zero, List.set_cons_succ, i64_w, i32_w]
                          rfl
                        refine pureA_ 28 43 (bm 35 536870911) ?_
                        refine pureA_ 29 44 (bm 35 1073741823) ?_
                        refine pureA_ 30 45 (bm 35 2147483647) ?_
                        refine pureA_ 31 46 (bm 35 4294967295) ?_
                        refine take_ (i := 32) (N := some 47) (v := ?_) (a' := ?_) #[true, true, true, true, true, true, true, true, true, true, true, true, true, true, true, true, true, true, true, true, true, true, true, true, true, true, true, true, true, true, true, true, true, false, false] rfl rfl (take_ofW HT_.out HW_.out (by kernel_rfl)) (fun _ _ _ h => h) (Or.inl ⟨by rfl, ?_⟩) hHeld ?_ ?_
                        rotate_left
                        · rintro w' ⟨s0, s1, s2, s3⟩
                          go_simp
                          with_reducible rfl
                        rotate_left
                        · simp only [Act.put, List.setIfInBounds_toArray, List.set_cons_zero, List.set_cons_succ, i64_w, i32_w]
                          rfl
                        refine pureA_ 33 48 (bm 35 17179869183) ?_
                        refine pureA_ 34 49 (bm 35 34359738367) ?_
                        refine done_ (done_of HT_.out (by kernel_rfl)) ?_
                        try go_wp2
                        go_ret
                        exact ⟨by first | rfl | (simp [errW_none, errW_some] <;> rfl) | (simp [*, errW_none, errW_some] <;> rfl), by repeat (first | (with_reducible first | exact HB.out | apply below_alloc | apply pw_below_drewN | apply below_drew1 | refine below_set ?_ GE177.out) | exact HB.out)⟩
                      · rw [if_neg c67] at H
                        have c67b0 : decide (3 < ((rd_T34 l0 x10_1).f3)) = false := decide_eq_false c67
                        clear c67
                        have H' := Aside0.mk H
                        clear H
                        have p176 : 0 ≤ (x10_1 : Int) := of_decide_eq_true (by first | (with_reducible assumption) | assumption)
                        have q176 : x10_1 < (l0.length : Int) := of_decide_eq_true (by first | (with_reducible assumption) | assumption)
                        obtain ⟨ad176, e176, hx176_0, hx176_1, hx176_2, hx176_3⟩ := at_T34 HR0.out x10_1 p176 q176
                        cases e176
                        replace hx176_0 := (HB.out.cell (World.block_lt_of_cell? w _ hx176_0)).trans hx176_0
                        replace hx176_1 := (HB.out.cell (World.block_lt_of_cell? w _ hx176_1)).trans hx176_1
                        replace hx176_2 := (HB.out.cell (World.block_lt_of_cell? w _ hx176_2)).trans hx176_2
                        replace hx176_3 := (HB.out.cell (World.block_lt_of_cell? w _ hx176_3)).trans hx176_3
                        replace p176 := eq_true p176
                        replace q176 := eq_true q176
                        try go_wp2_with (first | ((with_reducible refine gate_dst (N := 4) rfl ?_); (try (refine gate_guard (by rfl) ?_; dsimp only)); refine box_event ?hg (N := 4) ?hd (cs := #[.int .u64 0, .int .u64 0, .int .u64 0, .int .i64 0]) (t := 34) ?hr ?_; (case hd => rfl); (case hg => rfl); (case hr => first | (go_simp; done) | (go_simp; rfl)); intro gb177 hg w75 hbox hb; have n0_ := Aside0.mk (below_step (belN HB) hb); have n1_ := Aside0.mk (hbox); have n2_ := Aside0.mk ((by rw [hg]; exact (below_size (belN HB)) : w.heap.size ≤ gb177)); have n3_ := Aside0.mk ((by rw [hg]; exact (below_size (belN HB)) : w.heap.size ≤ gb177)); clear HB; have HB := n0_; have BK177 := n1_; have GW177 := n2_; have GE177 := n3_; clear n0_ n1_ n2_ n3_; clear hb hbox hg; obtain ⟨hcz76_0, hcz76_1, hcz76_2, hcz76_3, hfz76_0, hfz76_1, hfz76_2, hfz76_3⟩ := cz4_ (w := w75) BK177.out) | ((with_reducible refine gate_store (t := 34) (p := 4) rfl ?_); refine store_event (t := 34) (p := 4) (v := ?vo_w77) (w1 := ((((w75.setCell ⟨gb177, 0, none⟩ (.int .u64 ((rd_T34 l0 x10_1).f0))).setCell ⟨gb177, 1, none⟩ (.int .u64 ((rd_T34 l0 x10_1).f1))).setCell ⟨gb177, 2, none⟩ (.int .u64 ((rd_T34 l0 x10_1).f2))).setCell ⟨gb177, 3, none⟩ (.int .i64 ((rd_T34 l0 x10_1).f3)))) ?hg ?ho ?hn ?hr ?_; (case ho => rfl); (case hg => rfl); (case hn => rfl); (case hr => first | (go_simp; done) | (go_simp; rfl)); intro w77 hw; have n0_ : Aside0 (w77.heap[gb177]? = some (.cells #[.int .u64 ((rd_T34 l0 x10_1).f0), .int .u64 ((rd_T34 l0 x10_1).f1), .int .u64 ((rd_T34 l0 x10_1).f2), .int .i64 ((rd_T34 l0 x10_1).f3)] 34 (0, 0))) := ⟨(by rw [hw]; exact (by (with_reducible repeat (first | refine blk_drewN ?_ _ | refine blk_drew ?_ | refine blk_alloc ?_ _)); refine blk_put (cs := #[.int .u64 ((rd_T34 l0 x10_1).f0), .int .u64 ((rd_T34 l0 x10_1).f1), .int .u64 ((rd_T34 l0 x10_1).f2), .int .i64 0]) ?_ 3 _ rfl; refine blk_put (cs := #[.int .u64 ((rd_T34 l0 x10_1).f0), .int .u64 ((rd_T34 l0 x10_1).f1), .int .u64 0, .int .i64 0]) ?_ 2 _ rfl; refine blk_put (cs := #[.int .u64 ((rd_T34 l0 x10_1).f0), .int .u64 0, .int .u64 0, .int .i64 0]) ?_ 1 _ rfl; refine blk_put (cs := #[.int .u64 0, .int .u64 0, .int .u64 0, .int .i64 0]) ?_ 0 _ rfl; (with_reducible repeat (first | refine blk_drewN ?_ _ | refine blk_drew ?_ | refine blk_alloc ?_ _)); exact BK177.out))⟩; have n1_ : Aside0 (Below w.heap.size w w77) := ⟨(by rw [hw]; exact (belN HB))⟩; clear hw; clear BK177; clear HB; have BK177 := n0_; have HB := n1_; clear n0_ n1_))
                        have n0_ := Aside0.mk (blk_drew BK177.out)
                        have n1_ := Aside0.mk (below_drew1 HB.out)
                        clear BK177
                        clear HB
                        have BK177 := n0_
                        have HB := n1_
                        clear n0_ n1_
                        refine start_ (n := 35) (S := fun w' => w'.cell? ⟨gb177, 0, none⟩ = some (.int .u64 ((rd_T34 l0 x10_1).f0)) ∧ w'.cell? ⟨gb177, 1, none⟩ = some (.int .u64 ((rd_T34 l0 x10_1).f1)) ∧ w'.cell? ⟨gb177, 2, none⟩ = some (.int .u64 ((rd_T34 l0 x10_1).f2)) ∧ w'.cell? ⟨gb177, 3, none⟩ = some (.int .i64 ((rd_T34 l0 x10_1).f3))) (ds := []) #[false, false, false, false, false, false, false, false, false, false, false, false, false, false, false, false, false, false, false, false, false, false, false, false, false, false, false, false, false, false, false, false, false, false, false] (by kernel_rfl) rfl rfl ⟨(blk_cell BK177.out 0).trans rfl, (blk_cell BK177.out 1).trans rfl, (blk_cell BK177.out 2).trans rfl, (blk_cell BK177.out 3).trans rfl⟩ (fun hHeld => ?_); refine with_tabW damsonref12_Check.tab6 damsonref12_Check.bits6 (fun HT_ HW_ => ?_)
                        generalize w77.drew = w78 at BK177 HB hHeld ⊢
                        refine pureA_ 0 15 (bm 35 1) ?_
                        refine pureA_ 1 16 (bm 35 3) ?_
                        refine pureA_ 2 17 (bm 35 7) ?_
                        refine pureU_ 3 18 (bm 35 15) ?_
                        refine pureU_ 4 19 (bm 35 31) ?_
                        refine pureU_ 5 20 (bm 35 63) ?_
                        refine pureU_ 6 21 (bm 35 127) ?_
                        refine pureU_ 7 22 (bm 35 255) ?_
                        refine pureU_ 8 23 (bm 35 511) ?_
                        refine pureU_ 9 24 (bm 35 1023) ?_
                        refine pureU_ 10 25 (bm 35 2047) ?_
                        refine pureU_ 11 26 (bm 35 4095) ?_
                        refine pureA_ 12 27 (bm 35 8191) ?_
                        refine pureA_ 13 28 (bm 35 16383) ?_
                        refine pureA_ 14 29 (bm 35 32767) ?_
                        refine take_ (i := 15) (N := some 30) (v := ?_) (a' := ?_) #[true, true, true, true, true, true, true, true, true, true, true, true, true, true, true, true, false, false, false, false, false, false, false, false, false, false, false, false, false, false, false, false, false, false, false] rfl rfl (take_ofW HT_.out HW_.out (by kernel_rfl)) (fun _ _ _ h => h) (Or.inl ⟨by rfl, ?_⟩) hHeld ?_ ?_
                        rotate_left
                        · rintro w' ⟨s0, s1, s2, s3⟩
                          go_simp
                          with_reducible rfl
                        rotate_left
                        · simp only [Act.put, List.setIfInBounds_toArray, List.set_cons_zero, List.set_cons_succ, i64_w, i32_w]
                          rfl
                        refine pureA_ 16 31 (bm 35 131071) ?_
                        refine pureA_ 17 32 (bm 35 262143) ?_
                        refine pureA_ 18 33 (bm 35 524287) ?_
                        refine pureA_ 19 34 (bm 35 1048575) ?_
                        refine take_ (i := 20) (N := some 35) (v := ?_) (a' := ?_) #[true, true, true, true, true, true, true, true, true, true, true, true, true, true, true, true, true, true, true, true, true, false, false, false, false, false, false, false, false, false, false, false, false, false, false] rfl rfl (take_ofW HT_.out HW_.out (by kernel_rfl)) (fun _ _ _ h => h) (Or.inl ⟨by rfl, ?_⟩) hHeld ?_ ?_
                        rotate_left
                        · rintro w' ⟨s0, s1, s2, s3⟩
                          go_simp
                          with_reducible rfl
                        rotate_left
                        · simp only [Act.put, List.setIfInBounds_toArray, List.set_cons_zero, List.set_cons_succ, i64_w, i32_w]
                          rfl
                        refine one_ (i := 21) (N := some 36) #[true, true, true, true, true, true, true, true, true, true, true, true, true, true, true, true, true, true, true, true, true, true, false, false, false, false, false, false, false, false, false, false, false, false, false] rfl rfl (one_of HT_.out (by kernel_rfl)) (by decide) (fun K hK => ?_)
                        refine Kd.R_lit_step (Kd.int .u64) _ 23 ?hg (N := 36) ?hd (xs := ([(rd_T34 l0 x10_1).f1] : List Int)) (inner := [.int .u64 ((rd_T34 l0 x10_1).f1)]) (ok := fun _ => True) (okp := fun _ => True) ?hr ?hp (fun _ hk => hk) trivial (Below.refl _ _) (Nat.le_refl _) (by simp) ?_; (case hd => rfl); (case hg => rfl); (case hr => first | (go_simp; done) | (go_simp; rfl)); (case hp => exact (Reps.one (show Kd.M (Kd.int .u64) _ _ _ ((rd_T34 l0 x10_1).f1) [.int .u64 ((rd_T34 l0 x10_1).f1)] from rfl) (Reps.none _ _)))
                        intro v184 w79 ho80 hb hg_ hnew_
                        clear hg_ hnew_
                        (first | rw [← Ny183.out] at ho80 | (simp only [Int.reduceToNat] at ho80; rw [← Ny183.out] at ho80))
                        have n0_ := Aside0.mk (Kd.R_lower ho80 (below_size (belN HB)))
                        have n1_ := Aside0.mk (blk_below (g := gb177) (blkN BK177) hb)
                        have n2_ := Aside0.mk (below_step (belN HB) hb)
                        clear BK177
                        clear HB
                        have HO185 := n0_
                        have BK177 := n1_
                        have HB := n2_
                        clear n0_ n1_ n2_
                        clear hb ho80
                        obtain ⟨Ao81, co81, eo81⟩ := Kd.R_slice HO185.out
                        (first | subst eo81 | (injection eo81 with f1_ f2_ f3_; have f4_ := f1_.symm; have f5_ := f3_.symm; clear f1_ f2_ f3_; subst f4_; subst f5_))
                        refine hK.out _ _ ⟨(blk_cell BK177.out 0).trans rfl, (blk_cell BK177.out 1).trans rfl, (blk_cell BK177.out 2).trans rfl, (blk_cell BK177.out 3).trans rfl⟩ (fun hHeld => ?_)
                        clear hK K
                        refine norm_ (a' := ?_) ?_ ?_
                        rotate_left
                        · show Act.put _ (some 36) _ = _
                          simp only [Act.put, List.setIfInBounds_toArray, List.set_cons_zero, List.set_cons_succ, i64_w, i32_w]
                          rfl
                        refine one_ (i := 22) (N := some 37) #[true, true, true, true, true, true, true, true, true, true, true, true, true, true, true, true, true, true, true, true, true, true, true, false, false, false, false, false, false, false, false, false, false, false, false] rfl rfl (one_of HT_.out (by kernel_rfl)) (by decide) (fun K hK => ?_)
                        refine goes_ Try.func36 (by kernel_rfl) rfl #[.slice Ao81 y183.length co81] (by rfl) rfl rfl (by (try simp only [List.map_toArray, List.map_cons, List.map_nil]); first | done | rfl | (simp only [List.length_drop, List.length_take]; rfl)) ?_
                        with_reducible refine (damsonref04_Check.calls k1 _ _ y183 t186 _ ?side1 ?side2 A57.out).mono ?_
                        (case side1 => exact Kd.CN (Kd.R_reads' HO185.out).2.2)
                        (case side2 => exact (Kd.R_reads' HO185.out).2.1)
                        rintro e w' ⟨rfl, ⟨nd, rfl⟩⟩
                        refine ⟨_, rfl, ?_⟩
                        refine hK.out _ _ ⟨(blk_cell BK177.out 0).trans rfl, (blk_cell BK177.out 1).trans rfl, (blk_cell BK177.out 2).trans rfl, (blk_cell BK177.out 3).trans rfl⟩ (fun hHeld => ?_)
                        clear hK K
                        refine norm_ (a' := ?_) ?_ ?_
                        rotate_left
                        · show Act.put _ (some 37) _ = _
                          simp only [Act.put, List.setIfInBounds_toArray, List.set_cons_zero, List.set_cons_succ, i64_w, i32_w]
                          rfl
                        refine pureA_ 23 38 (bm 35 16777215) ?_
                        refine pureA_ 24 39 (bm 35 33554431) ?_
                        refine pureA_ 25 40 (bm 35 67108863) ?_
                        refine pureA_ 26 41 (bm 35 134217727) ?_
                        refine take_ (i := 27) (N := some 42) (v := ?_) (a' := ?_) #[true, true, true, true, true, true, true, true, true, true, true, true, true, true, true, true, true, true, true, true, true, true, true, true, true, true, true, true, false, false, false, false, false, false, false] rfl rfl (take_ofW HT_.out HW_.out (by kernel_rfl)) (fun _ _ _ h => h) (Or.inl ⟨by rfl, ?_⟩) hHeld ?_ ?_
                        rotate_left
                        · rintro w' ⟨s0, s1, s2, s3⟩
                          go_simp
                          with_reducible rfl
                        rotate_left
                        · simp only [Act.put, List.setIfInBounds_toArray, List.set_cons_zero, List.set_cons_succ, i64_w, i32_w]
                          rfl
                        refine pureA_ 28 43 (bm 35 536870911) ?_
                        refine pureA_ 29 44 (bm 35 1073741823) ?_
                        refine pureA_ 30 45 (bm 35 2147483647) ?_
                        refine pureA_ 31 46 (bm 35 4294967295) ?_
                        refine take_ (i := 32) (N := some 47) (v := ?_) (a' := ?_) #[true, true, true, true, true, true, true, true, true, true, true, true, true, true, true, true, true, true, true, true, true, true, true, true, true, true, true, true, true, true, true, true, true, false, false] rfl rfl (take_ofW HT_.out HW_.out (by kernel_rfl)) (fun _ _ _ h => h) (Or.inl ⟨by rfl, ?_⟩) hHeld ?_ ?_
                        rotate_left
                        · rintro w' ⟨s0, s1, s2, s3⟩
                          go_simp
                          with_reducible rfl
                        rotate_left
                        · simp only [Act.put, List.setIfInBounds_toArray, List.set_cons_zero, List.set_cons_succ, i64_w, i32_w]
                          rfl
                        refine pureA_ 33 48 (bm 35 17179869183) ?_
                        refine pureA_ 34 49 (bm 35 34359738367) ?_
                        refine done_ (done_of HT_.out (by kernel_rfl)) ?_
                        try go_wp2
                        go_roundg k1
                        case measure => have := HK1.out; omega
                        case rel => exact ⟨(wrap64 (x10_1 + 1)), (by first | rfl | (simp; done) | (simp [*]; done)), H', ⟨by have := HK1.out; omega⟩, ⟨by repeat (first | (with_reducible first | exact HB.out | apply below_alloc | apply pw_below_drewN | apply below_drew1 | refine below_set ?_ GE177.out) | exact HB.out)⟩⟩
                  · rw [if_neg c58] at H
                    have c58b0 : (t186 == 0) = false := beq_eq_false_iff_ne.mpr c58
                    have c58b1 : (t186 != 0) = true := bne_iff_ne.mpr c58
                    obtain rfl := Option.some.inj H
                    have p176 : 0 ≤ (x10_1 : Int) := of_decide_eq_true (by first | (with_reducible assumption) | assumption)
                    have q176 : x10_1 < (l0.length : Int) := of_decide_eq_true (by first | (with_reducible assumption) | assumption)
                    obtain ⟨ad176, e176, hx176_0, hx176_1, hx176_2, hx176_3⟩ := at_T34 HR0.out x10_1 p176 q176
                    cases e176
                    replace hx176_0 := (HB.out.cell (World.block_lt_of_cell? w _ hx176_0)).trans hx176_0
                    replace hx176_1 := (HB.out.cell (World.block_lt_of_cell? w _ hx176_1)).trans hx176_1
                    replace hx176_2 := (HB.out.cell (World.block_lt_of_cell? w _ hx176_2)).trans hx176_2
                    replace hx176_3 := (HB.out.cell (World.block_lt_of_cell? w _ hx176_3)).trans hx176_3
                    replace p176 := eq_true p176
                    replace q176 := eq_true q176
                    try go_wp2_with (first | ((with_reducible refine gate_dst (N := 4) rfl ?_); (try (refine gate_guard (by rfl) ?_; dsimp only)); refine box_event ?hg (N := 4) ?hd (cs := #[.int .u64 0, .int .u64 0, .int .u64 0, .int .i64 0]) (t := 34) ?hr ?_; (case hd => rfl); (case hg => rfl); (case hr => first | (go_simp; done) | (go_simp; rfl)); intro gb177 hg w82 hbox hb; have n0_ := Aside0.mk (below_step (belN HB) hb); have n1_ := Aside0.mk (hbox); have n2_ := Aside0.mk ((by rw [hg]; exact (below_size (belN HB)) : w.heap.size ≤ gb177)); have n3_ := Aside0.mk ((by rw [hg]; exact (below_size (belN HB)) : w.heap.size ≤ gb177)); clear HB; have HB := n0_; have BK177 := n1_; have GW177 := n2_; have GE177 := n3_; clear n0_ n1_ n2_ n3_; clear hb hbox hg; obtain ⟨hcz83_0, hcz83_1, hcz83_2, hcz83_3, hfz83_0, hfz83_1, hfz83_2, hfz83_3⟩ := cz4_ (w := w82) BK177.out) | ((with_reducible refine gate_store (t := 34) (p := 4) rfl ?_); refine store_event (t := 34) (p := 4) (v := ?vo_w84) (w1 := ((((w82.setCell ⟨gb177, 0, none⟩ (.int .u64 ((rd_T34 l0 x10_1).f0))).setCell ⟨gb177, 1, none⟩ (.int .u64 ((rd_T34 l0 x10_1).f1))).setCell ⟨gb177, 2, none⟩ (.int .u64 ((rd_T34 l0 x10_1).f2))).setCell ⟨gb177, 3, none⟩ (.int .i64 ((rd_T34 l0 x10_1).f3)))) ?hg ?ho ?hn ?hr ?_; (case ho => rfl); (case hg => rfl); (case hn => rfl); (case hr => first | (go_simp; done) | (go_simp; rfl)); intro w84 hw; have n0_ : Aside0 (w84.heap[gb177]? = some (.cells #[.int .u64 ((rd_T34 l0 x10_1).f0), .int .u64 ((rd_T34 l0 x10_1).f1), .int .u64 ((rd_T34 l0 x10_1).f2), .int .i64 ((rd_T34 l0 x10_1).f3)] 34 (0, 0))) := ⟨(by rw [hw]; exact (by (with_reducible repeat (first | refine blk_drewN ?_ _ | refine blk_drew ?_ | refine blk_alloc ?_ _)); refine blk_put (cs := #[.int .u64 ((rd_T34 l0 x10_1).f0), .int .u64 ((rd_T34 l0 x10_1).f1), .int .u64 ((rd_T34 l0 x10_1).f2), .int .i64 0]) ?_ 3 _ rfl; refine blk_put (cs := #[.int .u64 ((rd_T34 l0 x10_1).f0), .int .u64 ((rd_T34 l0 x10_1).f1), .int .u64 0, .int .i64 0]) ?_ 2 _ rfl; refine blk_put (cs := #[.int .u64 ((rd_T34 l0 x10_1).f0), .int .u64 0, .int .u64 0, .int .i64 0]) ?_ 1 _ rfl; refine blk_put (cs := #[.int .u64 0, .int .u64 0, .int .u64 0, .int .i64 0]) ?_ 0 _ rfl; (with_reducible repeat (first | refine blk_drewN ?_ _ | refine blk_drew ?_ | refine blk_alloc ?_ _)); exact BK177.out))⟩; have n1_ : Aside0 (Below w.heap.size w w84) := ⟨(by rw [hw]; exact (belN HB))⟩; clear hw; clear BK177; clear HB; have BK177 := n0_; have HB := n1_; clear n0_ n1_))
                    have n0_ := Aside0.mk (blk_drew BK177.out)
                    have n1_ := Aside0.mk (below_drew1 HB.out)
                    clear BK177
                    clear HB
                    have BK177 := n0_
                    have HB := n1_
                    clear n0_ n1_
                    refine start_ (n := 35) (S := fun w' => w'.cell? ⟨gb177, 0, none⟩ = some (.int .u64 ((rd_T34 l0 x10_1).f0)) ∧ w'.cell? ⟨gb177, 1, none⟩ = some (.int .u64 ((rd_T34 l0 x10_1).f1)) ∧ w'.cell? ⟨gb177, 2, none⟩ = some (.int .u64 ((rd_T34 l0 x10_1).f2)) ∧ w'.cell? ⟨gb177, 3, none⟩ = some (.int .i64 ((rd_T34 l0 x10_1).f3))) (ds := []) #[false, false, false, false, false, false, false, false, false, false, false, false, false, false, false, false, false, false, false, false, false, false, false, false, false, false, false, false, false, false, false, false, false, false, false] (by kernel_rfl) rfl rfl ⟨(blk_cell BK177.out 0).trans rfl, (blk_cell BK177.out 1).trans rfl, (blk_cell BK177.out 2).trans rfl, (blk_cell BK177.out 3).trans rfl⟩ (fun hHeld => ?_); refine with_tabW damsonref12_Check.tab6 damsonref12_Check.bits6 (fun HT_ HW_ => ?_)
                    generalize w84.drew = w85 at BK177 HB hHeld ⊢
                    refine pureA_ 0 15 (bm 35 1) ?_
                    refine pureA_ 1 16 (bm 35 3) ?_
                    refine pureA_ 2 17 (bm 35 7) ?_
                    refine pureU_ 3 18 (bm 35 15) ?_
                    refine pureU_ 4 19 (bm 35 31) ?_
                    refine pureU_ 5 20 (bm 35 63) ?_
                    refine pureU_ 6 21 (bm 35 127) ?_
                    refine pureU_ 7 22 (bm 35 255) ?_
                    refine pureU_ 8 23 (bm 35 511) ?_
                    refine pureU_ 9 24 (bm 35 1023) ?_
                    refine pureU_ 10 25 (bm 35 2047) ?_
                    refine pureU_ 11 26 (bm 35 4095) ?_
                    refine pureA_ 12 27 (bm 35 8191) ?_
                    refine pureA_ 13 28 (bm 35 16383) ?_
                    refine pureA_ 14 29 (bm 35 32767) ?_
                    refine take_ (i := 15) (N := some 30) (v := ?_) (a' := ?_) #[true, true, true, true, true, true, true, true, true, true, true, true, true, true, true, true, false, false, false, false, false, false, false, false, false, false, false, false, false, false, false, false, false, false, false] rfl rfl (take_ofW HT_.out HW_.out (by kernel_rfl)) (fun _ _ _ h => h) (Or.inl ⟨by rfl, ?_⟩) hHeld ?_ ?_
                    rotate_left
                    · rintro w' ⟨s0, s1, s2, s3⟩
                      go_simp
                      with_reducible rfl
                    rotate_left
                    · simp only [Act.put, List.setIfInBounds_toArray, List.set_cons_zero, List.set_cons_succ, i64_w, i32_w]
                      rfl
                    refine pureA_ 16 31 (bm 35 131071) ?_
                    refine pureA_ 17 32 (bm 35 262143) ?_
                    refine pureA_ 18 33 (bm 35 524287) ?_
                    refine pureA_ 19 34 (bm 35 1048575) ?_
                    refine take_ (i := 20) (N := some 35) (v := ?_) (a' := ?_) #[true, true, true, true, true, true, true, true, true, true, true, true, true, true, true, true, true, true, true, true, true, false, false, false, false, false, false, false, false, false, false, false, false, false, false] rfl rfl (take_ofW HT_.out HW_.out (by kernel_rfl)) (fun _ _ _ h => h) (Or.inl ⟨by rfl, ?_⟩) hHeld ?_ ?_
                    rotate_left
                    · rintro w' ⟨s0, s1, s2, s3⟩
                      go_simp
                      with_reducible rfl
                    rotate_left
                    · simp only [Act.put, List.setIfInBounds_toArray, List.set_cons_zero, List.set_cons_succ, i64_w, i32_w]
                      rfl
                    refine one_ (i := 21) (N := some 36) #[true, true, true, true, true, true, true, true, true, true, true, true, true, true, true, true, true, true, true, true, true, true, false, false, false, false, false, false, false, false, false, false, false, false, false] rfl rfl (one_of HT_.out (by kernel_rfl)) (by decide) (fun K hK => ?_)
                    refine Kd.R_lit_step (Kd.int .u64) _ 23 ?hg (N := 36) ?hd (xs := ([(rd_T34 l0 x10_1).f1] : List Int)) (inner := [.int .u64 ((rd_T34 l0 x10_1).f1)]) (ok := fun _ => True) (okp := fun _ => True) ?hr ?hp (fun _ hk => hk) trivial (Below.refl _ _) (Nat.le_refl _) (by simp) ?_; (case hd => rfl); (case hg => rfl); (case hr => first | (go_simp; done) | (go_simp; rfl)); (case hp => exact (Reps.one (show Kd.M (Kd.int .u64) _ _ _ ((rd_T34 l0 x10_1).f1) [.int .u64 ((rd_T34 l0 x10_1).f1)] from rfl) (Reps.none _ _)))
                    intro v184 w86 ho87 hb hg_ hnew_
                    clear hg_ hnew_
                    (first | rw [← Ny183.out] at ho87 | (simp only [Int.reduceToNat] at ho87; rw [← Ny183.out] at ho87))
                    have n0_ := Aside0.mk (Kd.R_lower ho87 (below_size (belN HB)))
                    have n1_ := Aside0.mk (blk_below (g := gb177) (blkN BK177) hb)
                    have n2_ := Aside0.mk (below_step (belN HB) hb)
                    clear BK177
                    clear HB
                    have HO185 := n0_
                    have BK177 := n1_
                    have HB := n2_
                    clear n0_ n1_ n2_
                    clear hb ho87
                    obtain ⟨Ao88, co88, eo88⟩ := Kd.R_slice HO185.out
                    (first | subst eo88 | (injection eo88 with f1_ f2_ f3_; have f4_ := f1_.symm; have f5_ := f3_.symm; clear f1_ f2_ f3_; subst f4_; subst f5_))
                    refine hK.out _ _ ⟨(blk_cell BK177.out 0).trans rfl, (blk_cell BK177.out 1).trans rfl, (blk_cell BK177.out 2).trans rfl, (blk_cell BK177.out 3).trans rfl⟩ (fun hHeld => ?_)
                    clear hK K
                    refine norm_ (a' := ?_) ?_ ?_
                    rotate_left
                    · show Act.put _ (some 36) _ = _
                      simp only [Act.put, List.setIfInBounds_toArray, List.set_cons_zero, List.set_cons_succ, i64_w, i32_w]
                      rfl
                    refine one_ (i := 22) (N := some 37) #[true, true, true, true, true, true, true, true, true, true, true, true, true, true, true, true, true, true, true, true, true, true, true, false, false, false, false, false, false, false, false, false, false, false, false] rfl rfl (one_of HT_.out (by kernel_rfl)) (by decide) (fun K hK => ?_)
                    refine goes_ Try.func36 (by kernel_rfl) rfl #[.slice Ao88 y183.length co88] (by rfl) rfl rfl (by (try simp only [List.map_toArray, List.map_cons, List.map_nil]); first | done | rfl | (simp only [List.length_drop, List.length_take]; rfl)) ?_
                    with_reducible refine (damsonref04_Check.calls k1 _ _ y183 t186 _ ?side1 ?side2 A57.out).mono ?_
                    (case side1 => exact Kd.CN (Kd.R_reads' HO185.out).2.2)
                    (case side2 => exact (Kd.R_reads' HO185.out).2.1)
                    rintro e w' ⟨rfl, ⟨nd, rfl⟩⟩
                    refine ⟨_, rfl, ?_⟩
                    refine hK.out _ _ ⟨(blk_cell BK177.out 0).trans rfl, (blk_cell BK177.out 1).trans rfl, (blk_cell BK177.out 2).trans rfl, (blk_cell BK177.out 3).trans rfl⟩ (fun hHeld => ?_)
                    clear hK K
                    refine norm_ (a' := ?_) ?_ ?_
                    rotate_left
                    · show Act.put _ (some 37) _ = _
                      simp only [Act.put, List.setIfInBounds_toArray, List.set_cons_zero, List.set_cons_succ, i64_w, i32_w]
                      rfl
                    refine pureA_ 23 38 (bm 35 16777215) ?_
                    refine pureA_ 24 39 (bm 35 33554431) ?_
                    refine pureA_ 25 40 (bm 35 67108863) ?_
                    refine pureU_ 26 41 (bm 35 134217727) ?_
                    refine pureU_ 27 42 (bm 35 268435455) ?_
                    refine pureU_ 28 43 (bm 35 536870911) ?_
                    refine pureA_ 29 44 (bm 35 1073741823) ?_
                    refine pureA_ 30 45 (bm 35 2147483647) ?_
                    refine pureU_ 31 46 (bm 35 4294967295) ?_
                    refine pureU_ 32 47 (bm 35 8589934591) ?_
                    refine pureU_ 33 48 (bm 35 17179869183) ?_
                    refine pureA_ 34 49 (bm 35 34359738367) ?_
                    refine done_ (done_of HT_.out (by kernel_rfl)) ?_
                    try go_wp2
                    go_ret
                    exact ⟨by first | rfl | (simp [errW_none, errW_some] <;> rfl) | (simp [*, errW_none, errW_some] <;> rfl), by repeat (first | (with_reducible first | exact HB.out | apply below_alloc | apply pw_below_drewN | apply below_drew1 | refine below_set ?_ GE177.out) | exact HB.out)⟩
            · rw [if_neg c5] at H
              exact absurd H (by simp)
          · rw [if_neg c4] at H
            exact absurd H (by simp)
        · rw [if_neg c3] at H
          have c3b0 : decide (x10_1 < (l0.length : Int)) = false := decide_eq_false c3
          clear c3
          obtain rfl := Option.some.inj H
          go_wp2
          go_ret
          exact ⟨by first | rfl | (simp [errW_none, errW_some] <;> rfl) | (simp [*, errW_none, errW_some] <;> rfl), by repeat (first | (with_reducible first | exact HB.out | apply below_alloc | apply pw_below_drewN | apply below_drew1) | exact HB.out)⟩

end Go.Proofs.Ytlpdgagohafmaaa.P
