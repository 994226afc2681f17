-- written by a program of this session (wip/print)
import Derived.Test.YtcfbcoinbecdfaaQLtellsx0
import Derived.Test.YtcfbcoinbecdfaaQLtellsx11
import Derived.Test.YtcfbcoinbecdfaaQLtellsx12
namespace Go.Proofs.Ytcfbcoinbecdfaa.P
open Go.RowKit Go.Proofs.YtcfbcoinbecdfaaW.PrintWords Go.Proofs.YtcfbcoinbecdfaaW.PrintLast Go.Proofs.YtcfbcoinbecdfaaW.PrintMore
attribute [local go_sem] max2_int min2_int max_two min_two max_three min_three max_four min_four run_sub64_   -- for this text's walks alone
set_option linter.unusedVariables false
set_option linter.unusedSimpArgs false

/-! ### damsonref10_Check: function 55 -/
mutual
def damsonref10_Check.l0 : Nat → List (S25) → List (S25) → Int → Int → Option (Int)
 | 0, _, _, _, _ => none
 | k + 1, x0, x12, x13, x14 => if x14 < x13 then (if 0 ≤ x14 then (if x14 < (x12.length : Int) then ((damsonref09_Check.f k ((rd_T25 x12 x14).f0) ((rd_T25 x12 x14).f1) ((rd_T25 x12 x14).f2) ((rd_T25 x12 x14).f3) ((rd_T25 x12 x14).f4) ((rd_T25 x12 x14).f5) ((rd_T25 x12 x14).f6)).bind fun t268 => (if t268 = 0 then (if x14 > 0 then (if 0 ≤ (wrap64 (x14 - 1)) then (if (wrap64 (x14 - 1)) < (x0.length : Int) then (damsonref10_Check.j1 k x0 x14 x12 x13 x14 (decide (((rd_T25 x0 (wrap64 (x14 - 1))).f0) ≥ ((rd_T25 x12 x14).f0))) ((rd_T25 x12 x14).f0) ((rd_T25 x12 x14).f1) ((rd_T25 x12 x14).f2) ((rd_T25 x12 x14).f3) ((rd_T25 x12 x14).f4) ((rd_T25 x12 x14).f5) ((rd_T25 x12 x14).f6)) else (none)) else (none)) else (damsonref10_Check.j1 k x0 x14 x12 x13 x14 false ((rd_T25 x12 x14).f0) ((rd_T25 x12 x14).f1) ((rd_T25 x12 x14).f2) ((rd_T25 x12 x14).f3) ((rd_T25 x12 x14).f4) ((rd_T25 x12 x14).f5) ((rd_T25 x12 x14).f6))) else (damsonref10_Check.j1 k x0 x14 x12 x13 x14 true ((rd_T25 x12 x14).f0) ((rd_T25 x12 x14).f1) ((rd_T25 x12 x14).f2) ((rd_T25 x12 x14).f3) ((rd_T25 x12 x14).f4) ((rd_T25 x12 x14).f5) ((rd_T25 x12 x14).f6)))) else (none)) else (none)) else ((damsonref10_all.f k x0).bind fun bt264 => (if bt264.2 = true then (some 0) else (some 1)))
def damsonref10_Check.j1 : Nat → List (S25) → Int → List (S25) → Int → Int → Bool → Int → Int → Int → Int → Int → List (S44) → Bool → Option (Int)
 | 0, _, _, _, _, _, _, _, _, _, _, _, _, _ => none
 | k + 1, x0, x3, x12, x13, x14, x36, x268000, x268001, x268002, x268003, x268004, x268005, x268006 => if x36 = true then (some 1) else (damsonref10_Check.l1 k x0 x3 x12 x13 x14 x268005 (x268005.length : Int) 0)
def damsonref10_Check.l1 : Nat → List (S25) → Int → List (S25) → Int → Int → List (S44) → Int → Int → Option (Int)
 | 0, _, _, _, _, _, _, _, _ => none
 | k + 1, x0, x3, x12, x13, x14, x38, x39, x40 => if x40 < x39 then (if 0 ≤ x40 then (if x40 < (x38.length : Int) then (if 0 ≤ x3 then (if x3 ≤ (x0.length : Int) then ((damsonref10_where.f k (x0.take (x3 : Int).toNat) ((rd_T44 x38 x40).f0)).bind fun t276 => (if t276 ≥ 0 then (some 1) else (damsonref10_Check.l1 k x0 x3 x12 x13 x14 x38 x39 (wrap64 (x40 + 1))))) else (none)) else (none)) else (none)) else (none)) else (damsonref10_Check.l0 k x0 x12 x13 (wrap64 (x14 + 1)))
end
def damsonref10_Check.f (k : Nat) (l0 : List (S25)) : Option (Int) := if (l0.length : Int) > 32 then (some 1) else (damsonref10_Check.l0 k l0 l0 (l0.length : Int) 0)
theorem damsonref10_Check.mono_l : ∀ k, (∀ y0 y1 y2 y3, LeO (damsonref10_Check.l0 k y0 y1 y2 y3) (damsonref10_Check.l0 (k + 1) y0 y1 y2 y3)) ∧ (∀ y0 y1 y2 y3 y4 y5 y6 y7 y8 y9 y10 y11 y12, LeO (damsonref10_Check.j1 k y0 y1 y2 y3 y4 y5 y6 y7 y8 y9 y10 y11 y12) (damsonref10_Check.j1 (k + 1) y0 y1 y2 y3 y4 y5 y6 y7 y8 y9 y10 y11 y12)) ∧ (∀ y0 y1 y2 y3 y4 y5 y6 y7, LeO (damsonref10_Check.l1 k y0 y1 y2 y3 y4 y5 y6 y7) (damsonref10_Check.l1 (k + 1) y0 y1 y2 y3 y4 y5 y6 y7))
 | 0 => ⟨fun _ _ _ _ r h => by simp [damsonref10_Check.l0] at h, fun _ _ _ _ _ _ _ _ _ _ _ _ _ r h => by simp [damsonref10_Check.j1] at h, fun _ _ _ _ _ _ _ _ r h => by simp [damsonref10_Check.l1] at h⟩
 | k + 1 => by
  obtain ⟨ih0, ih1, ih2⟩ := damsonref10_Check.mono_l k
  refine ⟨?_, ?_, ?_⟩
  ·intro y0 y1 y2 y3
   unfold damsonref10_Check.l0
   repeat' first
   | (with_reducible exact ih0 _ _ _ _)
   | (with_reducible exact ih1 _ _ _ _ _ _ _ _ _ _ _ _ _)
   | (with_reducible exact ih2 _ _ _ _ _ _ _ _)
   | (with_reducible exact damsonref09_Check.mono _ _ _ _ _ _ _ _)
   | (with_reducible exact damsonref10_all.mono _ _)
   | (with_reducible exact damsonref10_where.mono _ _ _)
   | (with_reducible exact LeO.refl _)
   | (with_reducible exact LeO.none _)
   | (with_reducible refine LeO.ite ?_ ?_)
   | (with_reducible refine LeO.bind ?_ (fun _ => ?_))
   | exact ih0 _ _ _ _
   | exact ih1 _ _ _ _ _ _ _ _ _ _ _ _ _
   | exact ih2 _ _ _ _ _ _ _ _
   | exact damsonref09_Check.mono _ _ _ _ _ _ _ _
   | exact damsonref10_all.mono _ _
   | exact damsonref10_where.mono _ _ _
   | exact LeO.none _
   | refine LeO.ite ?_ ?_
   | refine LeO.bind ?_ (fun _ => ?_)
  ·intro y0 y1 y2 y3 y4 y5 y6 y7 y8 y9 y10 y11 y12
   unfold damsonref10_Check.j1
   repeat' first
   | (with_reducible exact ih0 _ _ _ _)
   | (with_reducible exact ih1 _ _ _ _ _ _ _ _ _ _ _ _ _)
   | (with_reducible exact ih2 _ _ _ _ _ _ _ _)
   | (with_reducible exact damsonref09_Check.mono _ _ _ _ _ _ _ _)
   | (with_reducible exact damsonref10_all.mono _ _)
   | (with_reducible exact damsonref10_where.mono _ _ _)
   | (with_reducible exact LeO.refl _)
   | (with_reducible exact LeO.none _)
   | (with_reducible refine LeO.ite ?_ ?_)
   | (with_reducible refine LeO.bind ?_ (fun _ => ?_))
   | exact ih0 _ _ _ _
   | exact ih1 _ _ _ _ _ _ _ _ _ _ _ _ _
   | exact ih2 _ _ _ _ _ _ _ _
   | exact damsonref09_Check.mono _ _ _ _ _ _ _ _
   | exact damsonref10_all.mono _ _
   | exact damsonref10_where.mono _ _ _
   | exact LeO.none _
   | refine LeO.ite ?_ ?_
   | refine LeO.bind ?_ (fun _ => ?_)
  ·intro y0 y1 y2 y3 y4 y5 y6 y7
   unfold damsonref10_Check.l1
   repeat' first
   | (with_reducible exact ih0 _ _ _ _)
   | (with_reducible exact ih1 _ _ _ _ _ _ _ _ _ _ _ _ _)
   | (with_reducible exact ih2 _ _ _ _ _ _ _ _)
   | (with_reducible exact damsonref09_Check.mono _ _ _ _ _ _ _ _)
   | (with_reducible exact damsonref10_all.mono _ _)
   | (with_reducible exact damsonref10_where.mono _ _ _)
   | (with_reducible exact LeO.refl _)
   | (with_reducible exact LeO.none _)
   | (with_reducible refine LeO.ite ?_ ?_)
   | (with_reducible refine LeO.bind ?_ (fun _ => ?_))
   | exact ih0 _ _ _ _
   | exact ih1 _ _ _ _ _ _ _ _ _ _ _ _ _
   | exact ih2 _ _ _ _ _ _ _ _
   | exact damsonref09_Check.mono _ _ _ _ _ _ _ _
   | exact damsonref10_all.mono _ _
   | exact damsonref10_where.mono _ _ _
   | exact LeO.none _
   | refine LeO.ite ?_ ?_
   | refine LeO.bind ?_ (fun _ => ?_)
theorem damsonref10_Check.mono : ∀ a0 k, LeO (damsonref10_Check.f k a0) (damsonref10_Check.f (k + 1) a0) := by
 intro a0 k
 obtain ⟨ih0, ih1, ih2⟩ := damsonref10_Check.mono_l k
 unfold damsonref10_Check.f
 repeat' first
   | (with_reducible exact ih0 _ _ _ _)
   | (with_reducible exact ih1 _ _ _ _ _ _ _ _ _ _ _ _ _)
   | (with_reducible exact ih2 _ _ _ _ _ _ _ _)
   | (with_reducible exact damsonref09_Check.mono _ _ _ _ _ _ _ _)
   | (with_reducible exact damsonref10_all.mono _ _)
   | (with_reducible exact damsonref10_where.mono _ _ _)
   | (with_reducible exact LeO.refl _)
   | (with_reducible exact LeO.none _)
   | (with_reducible refine LeO.ite ?_ ?_)
   | (with_reducible refine LeO.bind ?_ (fun _ => ?_))
   | exact ih0 _ _ _ _
   | exact ih1 _ _ _ _ _ _ _ _ _ _ _ _ _
   | exact ih2 _ _ _ _ _ _ _ _
   | exact damsonref09_Check.mono _ _ _ _ _ _ _ _
   | exact damsonref10_all.mono _ _
   | exact damsonref10_where.mono _ _ _
   | exact LeO.none _
   | refine LeO.ite ?_ ?_
   | refine LeO.bind ?_ (fun _ => ?_)
def damsonref10_Check.T6 : Bool × List (List Nat × List Nat) := (true, [([], []), ([0], [0]), ([1], [1]), ([2, 1], [2]), ([3], [3]), ([4, 3], [3, 4]), ([5, 3, 3], [3, 5]), ([6], [6]), ([6], [6]), ([8, 6], [6, 8]), ([7, 9, 6], [6, 7, 9]), ([10, 6], [6, 10]), ([11, 6], [6, 11]), ([6], [6]), ([13, 6], [6, 13]), ([12, 14, 6], [6, 12, 14]), ([6, 15, 3], [3, 6, 15]), ([3, 16], [3, 16])])
def damsonref10_Check.B6 : List Nat := [0, 1, 3, 7, 15, 31, 63, 127, 127, 383, 1023, 2047, 4095, 127, 8319, 32767, 65535, 131071]
theorem damsonref10_Check.tab6 : rtab .any (opsOf Try.f55 6) = damsonref10_Check.T6 := by kernel_rfl
theorem damsonref10_Check.bits6 : waitsOk damsonref10_Check.T6.2 damsonref10_Check.B6 = true := by kernel_rfl
set_option maxHeartbeats 8000000 in
set_option maxRecDepth 100000 in
theorem damsonref10_Check.calls (k : Nat) (A0 : Option Addr) (c0 : Nat) (l0 : List (S25)) (r : Int) (w : World) (hr0 : Kd.C k25 w A0 l0.length l0) (hc0 : l0.length ≤ c0) (h : damsonref10_Check.f k l0 = some r) :
  Calls Try.prog 55 #[.slice A0 l0.length c0] w fun e w' => e = .returned (.int .i64 r) ∧ Below w.heap.size w w' := by
 have hu25 := Try.underlying25
 have hu44 := Try.underlying44
 have HR0 := Aside0.mk hr0
 have HC0 := Aside0.mk hc0
 clear hr0 hc0
 have HB := Aside0.mk (Below.refl w.heap.size w)
 have H : (if (l0.length : Int) > 32 then (some 1) else (damsonref10_Check.l0 k l0 l0 (l0.length : Int) 0)) = some r := h
 clear h
 by_cases c2 : (l0.length : Int) > 32
 ·rw [if_pos c2] at H
  have c2b0 : decide (32 < (l0.length : Int)) = true := decide_eq_true c2
  have c2b1 : decide (32 < l0.length) = true := decide_eq_true (by omega)
  clear c2
  obtain rfl := Option.some.inj H
  go_enter Try.func55, Try.ntmps55
  go_wp2
  go_ret
  exact ⟨by first | rfl | (simp [errW_none, errW_some] <;> rfl) | (simp [*, errW_none, errW_some] <;> rfl), by repeat (first | (with_reducible first | exact HB.out | apply below_alloc | apply pw_below_drewN | apply below_drew1) | exact HB.out)⟩
 ·rw [if_neg c2] at H
  have c2b0 : decide (32 < (l0.length : Int)) = false := decide_eq_false c2
  have c2b1 : decide (32 < l0.length) = false := decide_eq_false (by omega)
  clear c2
  have H' := Aside0.mk H
  clear H
  go_enter Try.func55, Try.ntmps55
  go_wp2
  go_loopg [14] k (fun kq v14 w' => ∃ (x14_1 : Int), v14 = .int .i64 x14_1 ∧ Aside0 (damsonref10_Check.l0 kq l0 l0 (l0.length : Int) x14_1 = some r) ∧ Aside0 (kq ≤ k) ∧ Aside0 (Below w.heap.size w w'))
  case atStart => exact ⟨(0), (by first | rfl | (simp; done) | (simp [*]; done)), H', ⟨Nat.le_refl _⟩, ⟨by repeat (first | (with_reducible first | exact HB.out | apply below_alloc | apply pw_below_drewN | apply below_drew1) | exact HB.out)⟩⟩
  case round =>
   clear H'
   try clear c2
   try clear c2b0
   try clear c2b1
   try clear p2
   obtain ⟨x14_1, rfl, HA, HK1, HB⟩ := hrel
   cases gk with
   | zero => exact absurd HA.out (by simp [damsonref10_Check.l0])
   | succ k1 =>
    have H := HA.out
    clear HA
    simp only [damsonref10_Check.l0] at H
    by_cases c3 : x14_1 < (l0.length : Int)
    ·rw [if_pos c3] at H
     have c3b0 : decide (x14_1 < (l0.length : Int)) = true := decide_eq_true c3
     clear c3
     by_cases c4 : 0 ≤ x14_1
     ·rw [if_pos c4] at H
      have c4b0 : decide (0 ≤ x14_1) = true := decide_eq_true c4
      clear c4
      by_cases c5 : x14_1 < (l0.length : Int)
      ·rw [if_pos c5] at H
       have c5b0 : decide (x14_1 < (l0.length : Int)) = true := decide_eq_true c5
       clear c5
       have HC6 := Aside0.mk H
       clear H
       have p266 : 0 ≤ (x14_1 : Int) := of_decide_eq_true (by first | (with_reducible assumption) | assumption)
       have q266 : x14_1 < (l0.length : Int) := of_decide_eq_true (by first | (with_reducible assumption) | assumption)
       obtain ⟨ad266, A266_5, c266_5, e266, hx266_0, hx266_1, hx266_2, hx266_3, hx266_4, hx266_5, hx266_6, hl266_5, hi266_5⟩ := at_T25 HR0.out x14_1 p266 q266
       cases e266
       replace hx266_0 := (HB.out.cell (World.block_lt_of_cell? w _ hx266_0)).trans hx266_0
       replace hx266_1 := (HB.out.cell (World.block_lt_of_cell? w _ hx266_1)).trans hx266_1
       replace hx266_2 := (HB.out.cell (World.block_lt_of_cell? w _ hx266_2)).trans hx266_2
       replace hx266_3 := (HB.out.cell (World.block_lt_of_cell? w _ hx266_3)).trans hx266_3
       replace hx266_4 := (HB.out.cell (World.block_lt_of_cell? w _ hx266_4)).trans hx266_4
       replace hx266_5 := (HB.out.cell (World.block_lt_of_cell? w _ hx266_5)).trans hx266_5
       replace hx266_6 := (HB.out.cell (World.block_lt_of_cell? w _ hx266_6)).trans hx266_6
       have HR266_5 := Aside0.mk hi266_5
       have HC266_5 := Aside0.mk hl266_5
       clear hi266_5 hl266_5
       replace p266 := eq_true p266
       replace q266 := eq_true q266
       go_upto_region 6 with (first | ((with_reducible refine gate_dst (N := 4) rfl ?_); refine box_event ?hg (N := 4) ?hd (cs := #[.int .u64 0, .int .u64 0, .int .u64 0, .int .u64 0, .int .u64 0, .slice none 0 0, .bool false]) (t := 25) ?hr ?_; (case hd => rfl); (case hg => rfl); (case hr => first | (go_simp; done) | (go_simp; rfl)); intro gb267 hg w7 hbox hb; have n0_ := Aside0.mk (below_step (belN HB) hb); have n1_ := Aside0.mk (hbox); have n2_ := Aside0.mk ((by rw [hg]; exact (below_size (belN HB)) : w.heap.size ≤ gb267)); have n3_ := Aside0.mk ((by rw [hg]; exact (below_size (belN HB)) : w.heap.size ≤ gb267)); clear HB; have HB := n0_; have BK267 := n1_; have GW267 := n2_; have GE267 := n3_; clear n0_ n1_ n2_ n3_; clear hb hbox hg; obtain ⟨hcz8_0, hcz8_1, hcz8_2, hcz8_3, hcz8_4, hcz8_5, hcz8_6, hfz8_0, hfz8_1, hfz8_2, hfz8_3, hfz8_4, hfz8_5, hfz8_6⟩ := cz7_ (w := w7) BK267.out))
       (try simp only [Act.put, List.setIfInBounds_toArray, List.set_cons_zero, List.set_cons_succ])
       go_cut [36] (fun v36 wc => ∃ (kq : Nat) (x36_5 : Bool), v36 = .bool x36_5 ∧ Aside0 (damsonref10_Check.j1 kq l0 x14_1 l0 (l0.length : Int) x14_1 x36_5 ((rd_T25 l0 x14_1).f0) ((rd_T25 l0 x14_1).f1) ((rd_T25 l0 x14_1).f2) ((rd_T25 l0 x14_1).f3) ((rd_T25 l0 x14_1).f4) ((rd_T25 l0 x14_1).f5) ((rd_T25 l0 x14_1).f6) = some r) ∧ Aside0 (kq ≤ k1) ∧ Aside0 (wc.heap[gb267]? = some (.cells #[.int .u64 ((rd_T25 l0 x14_1).f0), .int .u64 ((rd_T25 l0 x14_1).f1), .int .u64 ((rd_T25 l0 x14_1).f2), .int .u64 ((rd_T25 l0 x14_1).f3), .int .u64 ((rd_T25 l0 x14_1).f4), (.slice A266_5 ((rd_T25 l0 x14_1).f5).length c266_5), .bool ((rd_T25 l0 x14_1).f6)] 25 (0, 0))) ∧ Aside0 (Below w.heap.size w wc))
       case first =>
        have H := HC6.out
        clear HC6
        replace H := Option.bind_eq_some_iff.mp H
        obtain ⟨t268, A90, H⟩ := H
        replace H : (if t268 = 0 then (if x14_1 > 0 then (if 0 ≤ (wrap64 (x14_1 - 1)) then (if (wrap64 (x14_1 - 1)) < (l0.length : Int) then (damsonref10_Check.j1 k1 l0 x14_1 l0 (l0.length : Int) x14_1 (decide (((rd_T25 l0 (wrap64 (x14_1 - 1))).f0) ≥ ((rd_T25 l0 x14_1).f0))) ((rd_T25 l0 x14_1).f0) ((rd_T25 l0 x14_1).f1) ((rd_T25 l0 x14_1).f2) ((rd_T25 l0 x14_1).f3) ((rd_T25 l0 x14_1).f4) ((rd_T25 l0 x14_1).f5) ((rd_T25 l0 x14_1).f6)) else (none)) else (none)) else (damsonref10_Check.j1 k1 l0 x14_1 l0 (l0.length : Int) x14_1 false ((rd_T25 l0 x14_1).f0) ((rd_T25 l0 x14_1).f1) ((rd_T25 l0 x14_1).f2) ((rd_T25 l0 x14_1).f3) ((rd_T25 l0 x14_1).f4) ((rd_T25 l0 x14_1).f5) ((rd_T25 l0 x14_1).f6))) else (damsonref10_Check.j1 k1 l0 x14_1 l0 (l0.length : Int) x14_1 true ((rd_T25 l0 x14_1).f0) ((rd_T25 l0 x14_1).f1) ((rd_T25 l0 x14_1).f2) ((rd_T25 l0 x14_1).f3) ((rd_T25 l0 x14_1).f4) ((rd_T25 l0 x14_1).f5) ((rd_T25 l0 x14_1).f6))) = some r := H
        have A9 := Aside0.mk A90
        clear A90
        by_cases c10 : t268 = 0
        ·rw [if_pos c10] at H
         have c10b0 : (t268 == 0) = true := beq_iff_eq.mpr c10
         have c10b1 : (t268 != 0) = false := bne_eq_false_iff_eq.mpr c10
         clear c10
         (first | rw [c10b0] | (simp only [i64_w, i32_w]; rw [c10b0]) | skip)
         by_cases c11 : x14_1 > 0
         ·rw [if_pos c11] at H
          have c11b0 : decide (0 < x14_1) = true := decide_eq_true c11
          clear c11
          obtain ⟨ji12, hji12⟩ : ∃ j_ : Int, (wrap64 (x14_1 - 1)) = j_ := ⟨_, rfl⟩
          replace H : (if 0 ≤ (ji12) then (if (ji12) < (l0.length : Int) then (damsonref10_Check.j1 k1 l0 x14_1 l0 (l0.length : Int) x14_1 (decide (((rd_T25 l0 (ji12)).f0) ≥ ((rd_T25 l0 x14_1).f0))) ((rd_T25 l0 x14_1).f0) ((rd_T25 l0 x14_1).f1) ((rd_T25 l0 x14_1).f2) ((rd_T25 l0 x14_1).f3) ((rd_T25 l0 x14_1).f4) ((rd_T25 l0 x14_1).f5) ((rd_T25 l0 x14_1).f6)) else (none)) else (none)) = some r := by first | (rw [hji12] at H; exact H) | (simp only [hji12] at H ⊢; exact H)
          (try rw [hji12] at A9)
          have hji12w : (IntKind.i64.wrap (x14_1 - 1)) = ji12 := (i64_w _).trans hji12
          by_cases c13 : 0 ≤ (ji12)
          ·rw [if_pos c13] at H
           have c13b0 : decide (0 ≤ (ji12)) = true := decide_eq_true c13
           clear c13
           by_cases c14 : (ji12) < (l0.length : Int)
           ·rw [if_pos c14] at H
            have c14b0 : decide ((ji12) < (l0.length : Int)) = true := decide_eq_true c14
            clear c14
            have H' := Aside0.mk H
            clear H
            try go_wp2
            have n0_ : Aside0 ((((((((w7.setCell ⟨gb267, 0, none⟩ (.int .u64 ((rd_T25 l0 x14_1).f0))).setCell ⟨gb267, 1, none⟩ (.int .u64 ((rd_T25 l0 x14_1).f1))).setCell ⟨gb267, 2, none⟩ (.int .u64 ((rd_T25 l0 x14_1).f2))).setCell ⟨gb267, 3, none⟩ (.int .u64 ((rd_T25 l0 x14_1).f3))).setCell ⟨gb267, 4, none⟩ (.int .u64 ((rd_T25 l0 x14_1).f4))).setCell ⟨gb267, 5, none⟩ (.slice A266_5 ((rd_T25 l0 x14_1).f5).length c266_5)).setCell ⟨gb267, 6, none⟩ (.bool ((rd_T25 l0 x14_1).f6))).heap[gb267]? = some (.cells #[.int .u64 ((rd_T25 l0 x14_1).f0), .int .u64 ((rd_T25 l0 x14_1).f1), .int .u64 ((rd_T25 l0 x14_1).f2), .int .u64 ((rd_T25 l0 x14_1).f3), .int .u64 ((rd_T25 l0 x14_1).f4), .slice A266_5 ((rd_T25 l0 x14_1).f5).length c266_5, .bool ((rd_T25 l0 x14_1).f6)] 25 (0, 0))) := ⟨by (with_reducible repeat (first | refine blk_drewN ?_ _ | refine blk_drew ?_ | refine blk_alloc ?_ _)); refine blk_put (cs := #[.int .u64 ((rd_T25 l0 x14_1).f0), .int .u64 ((rd_T25 l0 x14_1).f1), .int .u64 ((rd_T25 l0 x14_1).f2), .int .u64 ((rd_T25 l0 x14_1).f3), .int .u64 ((rd_T25 l0 x14_1).f4), .slice A266_5 ((rd_T25 l0 x14_1).f5).length c266_5, .bool false]) ?_ 6 _ rfl; refine blk_put (cs := #[.int .u64 ((rd_T25 l0 x14_1).f0), .int .u64 ((rd_T25 l0 x14_1).f1), .int .u64 ((rd_T25 l0 x14_1).f2), .int .u64 ((rd_T25 l0 x14_1).f3), .int .u64 ((rd_T25 l0 x14_1).f4), .slice none 0 0, .bool false]) ?_ 5 _ rfl; refine blk_put (cs := #[.int .u64 ((rd_T25 l0 x14_1).f0), .int .u64 ((rd_T25 l0 x14_1).f1), .int .u64 ((rd_T25 l0 x14_1).f2), .int .u64 ((rd_T25 l0 x14_1).f3), .int .u64 0, .slice none 0 0, .bool false]) ?_ 4 _ rfl; refine blk_put (cs := #[.int .u64 ((rd_T25 l0 x14_1).f0), .int .u64 ((rd_T25 l0 x14_1).f1), .int .u64 ((rd_T25 l0 x14_1).f2), .int .u64 0, .int .u64 0, .slice none 0 0, .bool false]) ?_ 3 _ rfl; refine blk_put (cs := #[.int .u64 ((rd_T25 l0 x14_1).f0), .int .u64 ((rd_T25 l0 x14_1).f1), .int .u64 0, .int .u64 0, .int .u64 0, .slice none 0 0, .bool false]) ?_ 2 _ rfl; refine blk_put (cs := #[.int .u64 ((rd_T25 l0 x14_1).f0), .int .u64 0, .int .u64 0, .int .u64 0, .int .u64 0, .slice none 0 0, .bool false]) ?_ 1 _ rfl; refine blk_put (cs := #[.int .u64 0, .int .u64 0, .int .u64 0, .int .u64 0, .int .u64 0, .slice none 0 0, .bool false]) ?_ 0 _ rfl; (with_reducible repeat (first | refine blk_drewN ?_ _ | refine blk_drew ?_ | refine blk_alloc ?_ _)); exact BK267.out⟩
            have n1_ : Aside0 (Below w.heap.size w (((((((w7.setCell ⟨gb267, 0, none⟩ (.int .u64 ((rd_T25 l0 x14_1).f0))).setCell ⟨gb267, 1, none⟩ (.int .u64 ((rd_T25 l0 x14_1).f1))).setCell ⟨gb267, 2, none⟩ (.int .u64 ((rd_T25 l0 x14_1).f2))).setCell ⟨gb267, 3, none⟩ (.int .u64 ((rd_T25 l0 x14_1).f3))).setCell ⟨gb267, 4, none⟩ (.int .u64 ((rd_T25 l0 x14_1).f4))).setCell ⟨gb267, 5, none⟩ (.slice A266_5 ((rd_T25 l0 x14_1).f5).length c266_5)).setCell ⟨gb267, 6, none⟩ (.bool ((rd_T25 l0 x14_1).f6)))) := ⟨by repeat (first | (with_reducible first | exact HB.out | apply below_alloc | apply pw_below_drewN | apply below_drew1 | refine below_set ?_ GE267.out) | exact HB.out)⟩
            (try clear BK267)
            (try clear HB)
            generalize (((((((w7.setCell ⟨gb267, 0, none⟩ (.int .u64 ((rd_T25 l0 x14_1).f0))).setCell ⟨gb267, 1, none⟩ (.int .u64 ((rd_T25 l0 x14_1).f1))).setCell ⟨gb267, 2, none⟩ (.int .u64 ((rd_T25 l0 x14_1).f2))).setCell ⟨gb267, 3, none⟩ (.int .u64 ((rd_T25 l0 x14_1).f3))).setCell ⟨gb267, 4, none⟩ (.int .u64 ((rd_T25 l0 x14_1).f4))).setCell ⟨gb267, 5, none⟩ (.slice A266_5 ((rd_T25 l0 x14_1).f5).length c266_5)).setCell ⟨gb267, 6, none⟩ (.bool ((rd_T25 l0 x14_1).f6))) = w15 at n0_ n1_ ⊢
            have BK267 := n0_
            have HB := n1_
            clear n0_ n1_
            have n0_ := Aside0.mk (blk_drew BK267.out)
            have n1_ := Aside0.mk (below_drew1 HB.out)
            clear BK267
            clear HB
            have BK267 := n0_
            have HB := n1_
            clear n0_ n1_
            have p269 : 0 ≤ ((ji12) : Int) := of_decide_eq_true (by first | (with_reducible assumption) | assumption)
            have q269 : (ji12) < (l0.length : Int) := of_decide_eq_true (by first | (with_reducible assumption) | assumption)
            obtain ⟨ad269, A269_5, c269_5, e269, hx269_0, hx269_1, hx269_2, hx269_3, hx269_4, hx269_5, hx269_6, hl269_5, hi269_5⟩ := at_T25 HR0.out (ji12) p269 q269
            have hw269_6 := hx269_6
            have hw269_5 := hx269_5
            have hw269_4 := hx269_4
            have hw269_3 := hx269_3
            have hw269_2 := hx269_2
            have hw269_1 := hx269_1
            have hw269_0 := hx269_0
            obtain rfl : ad266 = ad269 := (by injection e269)
            replace hx269_0 := (HB.out.cell (World.block_lt_of_cell? w _ hx269_0)).trans hx269_0
            replace hx269_1 := (HB.out.cell (World.block_lt_of_cell? w _ hx269_1)).trans hx269_1
            replace hx269_2 := (HB.out.cell (World.block_lt_of_cell? w _ hx269_2)).trans hx269_2
            replace hx269_3 := (HB.out.cell (World.block_lt_of_cell? w _ hx269_3)).trans hx269_3
            replace hx269_4 := (HB.out.cell (World.block_lt_of_cell? w _ hx269_4)).trans hx269_4
            replace hx269_5 := (HB.out.cell (World.block_lt_of_cell? w _ hx269_5)).trans hx269_5
            replace hx269_6 := (HB.out.cell (World.block_lt_of_cell? w _ hx269_6)).trans hx269_6
            have HR269_5 := Aside0.mk hi269_5
            have HC269_5 := Aside0.mk hl269_5
            clear hi269_5 hl269_5
            replace p269 := eq_true p269
            replace q269 := eq_true q269
            refine start_ (n := 18) (S := fun w' => w'.cell? ⟨gb267, 0, none⟩ = some (.int .u64 ((rd_T25 l0 x14_1).f0)) ∧ w'.cell? ⟨gb267, 1, none⟩ = some (.int .u64 ((rd_T25 l0 x14_1).f1)) ∧ w'.cell? ⟨gb267, 2, none⟩ = some (.int .u64 ((rd_T25 l0 x14_1).f2)) ∧ w'.cell? ⟨gb267, 3, none⟩ = some (.int .u64 ((rd_T25 l0 x14_1).f3)) ∧ w'.cell? ⟨gb267, 4, none⟩ = some (.int .u64 ((rd_T25 l0 x14_1).f4)) ∧ w'.cell? ⟨gb267, 5, none⟩ = some (.slice A266_5 ((rd_T25 l0 x14_1).f5).length c266_5) ∧ w'.cell? ⟨gb267, 6, none⟩ = some (.bool ((rd_T25 l0 x14_1).f6)) ∧ w'.cell? (ad266.add (((ji12)).toNat * 7)) = some (.int .u64 ((rd_T25 l0 (ji12)).f0)) ∧ w'.cell? ⟨(ad266.add (((ji12)).toNat * 7)).block, (ad266.add (((ji12)).toNat * 7)).off + 1, none⟩ = some (.int .u64 ((rd_T25 l0 (ji12)).f1)) ∧ w'.cell? ⟨(ad266.add (((ji12)).toNat * 7)).block, (ad266.add (((ji12)).toNat * 7)).off + 2, none⟩ = some (.int .u64 ((rd_T25 l0 (ji12)).f2)) ∧ w'.cell? ⟨(ad266.add (((ji12)).toNat * 7)).block, (ad266.add (((ji12)).toNat * 7)).off + 3, none⟩ = some (.int .u64 ((rd_T25 l0 (ji12)).f3)) ∧ w'.cell? ⟨(ad266.add (((ji12)).toNat * 7)).block, (ad266.add (((ji12)).toNat * 7)).off + 4, none⟩ = some (.int .u64 ((rd_T25 l0 (ji12)).f4)) ∧ w'.cell? ⟨(ad266.add (((ji12)).toNat * 7)).block, (ad266.add (((ji12)).toNat * 7)).off + 5, none⟩ = some (.slice A269_5 ((rd_T25 l0 (ji12)).f5).length c269_5) ∧ w'.cell? ⟨(ad266.add (((ji12)).toNat * 7)).block, (ad266.add (((ji12)).toNat * 7)).off + 6, none⟩ = some (.bool ((rd_T25 l0 (ji12)).f6))) (ds := []) #[false, false, false, false, false, false, false, false, false, false, false, false, false, false, false, false, false, false] (by kernel_rfl) rfl rfl ⟨(blk_cell BK267.out 0).trans rfl, (blk_cell BK267.out 1).trans rfl, (blk_cell BK267.out 2).trans rfl, (blk_cell BK267.out 3).trans rfl, (blk_cell BK267.out 4).trans rfl, (blk_cell BK267.out 5).trans rfl, (blk_cell BK267.out 6).trans rfl, ((HB.out.cell (World.block_lt_of_cell? w _ hw269_0)).trans hw269_0), ((HB.out.cell (World.block_lt_of_cell? w _ hw269_1)).trans hw269_1), ((HB.out.cell (World.block_lt_of_cell? w _ hw269_2)).trans hw269_2), ((HB.out.cell (World.block_lt_of_cell? w _ hw269_3)).trans hw269_3), ((HB.out.cell (World.block_lt_of_cell? w _ hw269_4)).trans hw269_4), ((HB.out.cell (World.block_lt_of_cell? w _ hw269_5)).trans hw269_5), ((HB.out.cell (World.block_lt_of_cell? w _ hw269_6)).trans hw269_6)⟩ (fun hHeld => ?_); refine with_tabW damsonref10_Check.tab6 damsonref10_Check.bits6 (fun HT_ HW_ => ?_)
            generalize w15.drew = w16 at BK267 HB HR269_5 hx269_0 hx269_1 hx269_2 hx269_3 hx269_4 hx269_5 hx269_6 hHeld ⊢
            refine take_ (i := 0) (N := some 19) (v := ?_) (a' := ?_) #[true, false, false, false, false, false, false, false, false, false, false, false, false, false, false, false, false, false] rfl rfl (take_ofW HT_.out HW_.out (by kernel_rfl)) (fun _ _ _ h => h) (Or.inl ⟨by rfl, ?_⟩) hHeld ?_ ?_
            rotate_left
            ·rintro w' ⟨s0, s1, s2, s3, s4, s5, s6, s7, s8, s9, s10, s11, s12, s13⟩
             go_simp
             with_reducible rfl
            rotate_left
            ·simp only [Act.put, List.setIfInBounds_toArray, List.set_cons_zero, List.set_cons_succ, i64_w, i32_w]
             rfl
            refine one_ (i := 1) (N := some 20) #[true, true, false, false, false, false, false, false, false, false, false, false, false, false, false, false, false, false] rfl rfl (one_of HT_.out (by kernel_rfl)) (by decide) (fun K hK => ?_)
            refine goes_ Try.func34 (by kernel_rfl) rfl #[.agg #[.int .u64 ((rd_T25 l0 x14_1).f0), .int .u64 ((rd_T25 l0 x14_1).f1), .int .u64 ((rd_T25 l0 x14_1).f2), .int .u64 ((rd_T25 l0 x14_1).f3), .int .u64 ((rd_T25 l0 x14_1).f4), .slice A266_5 ((rd_T25 l0 x14_1).f5).length c266_5, .bool ((rd_T25 l0 x14_1).f6)]] (by rfl) rfl rfl (by (try simp only [List.map_toArray, List.map_cons, List.map_nil]); first | done | rfl | (simp only [List.length_drop, List.length_take]; rfl)) ?_
            with_reducible refine (damsonref09_Check.calls k1 ((rd_T25 l0 x14_1).f0) ((rd_T25 l0 x14_1).f1) ((rd_T25 l0 x14_1).f2) ((rd_T25 l0 x14_1).f3) ((rd_T25 l0 x14_1).f4) _ _ ((rd_T25 l0 x14_1).f5) ((rd_T25 l0 x14_1).f6) t268 _ ?side1 ?side2 A9.out).mono ?_
            (case side1 => repeat (first | exact (Kd.C_below HR266_5.out HB.out) | (with_reducible refine Kd.C_alloc ?_ _) | (with_reducible refine Kd.C_drewN ?_ _) | (with_reducible refine Kd.C_drew ?_)))
            (case side2 => exact HC266_5.out)
            rintro e w17 ⟨rfl, hb⟩
            refine ⟨_, rfl, ?_⟩
            have n0_ := Aside0.mk (blk_below (g := gb267) (blkN BK267) hb)
            have n1_ := Aside0.mk (below_step (belN HB) hb)
            clear BK267
            clear HB
            have BK267 := n0_
            have HB := n1_
            clear n0_ n1_
            (try clear hb)
            (try clear hb2)
            (try clear hk)
            (try clear hi)
            refine hK.out _ _ ⟨(blk_cell BK267.out 0).trans rfl, (blk_cell BK267.out 1).trans rfl, (blk_cell BK267.out 2).trans rfl, (blk_cell BK267.out 3).trans rfl, (blk_cell BK267.out 4).trans rfl, (blk_cell BK267.out 5).trans rfl, (blk_cell BK267.out 6).trans rfl, ((HB.out.cell (World.block_lt_of_cell? w _ hw269_0)).trans hw269_0), ((HB.out.cell (World.block_lt_of_cell? w _ hw269_1)).trans hw269_1), ((HB.out.cell (World.block_lt_of_cell? w _ hw269_2)).trans hw269_2), ((HB.out.cell (World.block_lt_of_cell? w _ hw269_3)).trans hw269_3), ((HB.out.cell (World.block_lt_of_cell? w _ hw269_4)).trans hw269_4), ((HB.out.cell (World.block_lt_of_cell? w _ hw269_5)).trans hw269_5), ((HB.out.cell (World.block_lt_of_cell? w _ hw269_6)).trans hw269_6)⟩ (fun hHeld => ?_)
            clear hK K
            refine norm_ (a' := ?_) ?_ ?_
            rotate_left
            ·show Act.put _ (some 20) _ = _
             simp only [Act.put, List.setIfInBounds_toArray, List.set_cons_zero, List.set_cons_succ, i64_w, i32_w]
             rfl
            refine pureA_ 2 21 (bm 18 7) ?_
            refine pureA_ 3 22 (bm 18 15) ?_
            refine pureA_ 4 23 (bm 18 31) ?_
            refine pureA_ 5 24 (bm 18 63) ?_
            refine pureA_ 6 25 (bm 18 127) ?_
            refine pureA_ 7 26 (bm 18 255) ?_
            refine pureA_ 8 27 (bm 18 511) ?_
            refine pureA_ 9 28 (bm 18 1023) ?_
            refine pureA_ 10 29 (bm 18 2047) ?_
            refine pureA_ 11 30 (bm 18 4095) ?_
            refine pureA_ 13 32 (bm 18 12287) ?_
            refine take_ (i := 12) (N := some 31) (v := ?_) (a' := ?_) #[true, true, true, true, true, true, true, true, true, true, true, true, true, true, false, false, false, false] rfl rfl (take_ofW HT_.out HW_.out (by kernel_rfl)) (fun _ _ _ h => h) (Or.inl ⟨by rfl, ?_⟩) hHeld ?_ ?_
            rotate_left
            ·rintro w' ⟨s0, s1, s2, s3, s4, s5, s6, s7, s8, s9, s10, s11, s12, s13⟩
             go_simp
             with_reducible rfl
            rotate_left
            ·simp only [Act.put, List.setIfInBounds_toArray, List.set_cons_zero, List.set_cons_succ, i64_w, i32_w]
             rfl
            refine take_ (i := 14) (N := some 33) (v := ?_) (a' := ?_) #[true, true, true, true, true, true, true, true, true, true, true, true, true, true, true, false, false, false] rfl rfl (take_ofW HT_.out HW_.out (by kernel_rfl)) (fun _ _ _ h => h) (Or.inl ⟨by rfl, ?_⟩) hHeld ?_ ?_
            rotate_left
            ·rintro w' ⟨s0, s1, s2, s3, s4, s5, s6, s7, s8, s9, s10, s11, s12, s13⟩
             go_simp
             with_reducible rfl
            rotate_left
            ·simp only [Act.put, List.setIfInBounds_toArray, List.set_cons_zero, List.set_cons_succ, i64_w, i32_w]
             rfl
            refine pureA_ 15 34 (bm 18 65535) ?_
            refine pureA_ 16 35 (bm 18 131071) ?_
            refine pureA_ 17 36 (bm 18 262143) ?_
            refine done_ (done_of HT_.out (by kernel_rfl)) ?_
            try go_wp2
            go_meet
            case rel => exact ⟨_, (decide (((rd_T25 l0 (ji12)).f0) ≥ ((rd_T25 l0 x14_1).f0))), (by first | rfl | (simp; done) | (simp only [← hji12] <;> (first | rfl | simp)) | (simp [*]; done)), H', ⟨by have := HK1.out; first | omega | exact Nat.le_refl _⟩, ⟨by (with_reducible repeat (first | refine blk_drewN ?_ _ | refine blk_drew ?_ | refine blk_alloc ?_ _)); exact BK267.out⟩, ⟨by repeat (first | (with_reducible first | exact HB.out | apply below_alloc | apply pw_below_drewN | apply below_drew1 | refine below_set ?_ GE267.out) | exact HB.out)⟩⟩
           ·rw [if_neg c14] at H
            exact absurd H (by simp)
          ·rw [if_neg c13] at H
           exact absurd H (by simp)
         ·rw [if_neg c11] at H
          have c11b0 : decide (0 < x14_1) = false := decide_eq_false c11
          clear c11
          have H' := Aside0.mk H
          clear H
          try go_wp2
          have n0_ : Aside0 ((((((((w7.setCell ⟨gb267, 0, none⟩ (.int .u64 ((rd_T25 l0 x14_1).f0))).setCell ⟨gb267, 1, none⟩ (.int .u64 ((rd_T25 l0 x14_1).f1))).setCell ⟨gb267, 2, none⟩ (.int .u64 ((rd_T25 l0 x14_1).f2))).setCell ⟨gb267, 3, none⟩ (.int .u64 ((rd_T25 l0 x14_1).f3))).setCell ⟨gb267, 4, none⟩ (.int .u64 ((rd_T25 l0 x14_1).f4))).setCell ⟨gb267, 5, none⟩ (.slice A266_5 ((rd_T25 l0 x14_1).f5).length c266_5)).setCell ⟨gb267, 6, none⟩ (.bool ((rd_T25 l0 x14_1).f6))).heap[gb267]? = some (.cells #[.int .u64 ((rd_T25 l0 x14_1).f0), .int .u64 ((rd_T25 l0 x14_1).f1), .int .u64 ((rd_T25 l0 x14_1).f2), .int .u64 ((rd_T25 l0 x14_1).f3), .int .u64 ((rd_T25 l0 x14_1).f4), .slice A266_5 ((rd_T25 l0 x14_1).f5).length c266_5, .bool ((rd_T25 l0 x14_1).f6)] 25 (0, 0))) := ⟨by (with_reducible repeat (first | refine blk_drewN ?_ _ | refine blk_drew ?_ | refine blk_alloc ?_ _)); refine blk_put (cs := #[.int .u64 ((rd_T25 l0 x14_1).f0), .int .u64 ((rd_T25 l0 x14_1).f1), .int .u64 ((rd_T25 l0 x14_1).f2), .int .u64 ((rd_T25 l0 x14_1).f3), .int .u64 ((rd_T25 l0 x14_1).f4), .slice A266_5 ((rd_T25 l0 x14_1).f5).length c266_5, .bool false]) ?_ 6 _ rfl; refine blk_put (cs := #[.int .u64 ((rd_T25 l0 x14_1).f0), .int .u64 ((rd_T25 l0 x14_1).f1), .int .u64 ((rd_T25 l0 x14_1).f2), .int .u64 ((rd_T25 l0 x14_1).f3), .int .u64 ((rd_T25 l0 x14_1).f4), .slice none 0 0, .bool false]) ?_ 5 _ rfl; refine blk_put (cs := #[.int .u64 ((rd_T25 l0 x14_1).f0), .int .u64 ((rd_T25 l0 x14_1).f1), .int .u64 ((rd_T25 l0 x14_1).f2), .int .u64 ((rd_T25 l0 x14_1).f3), .int .u64 0, .slice none 0 0, .bool false]) ?_ 4 _ rfl; refine blk_put (cs := #[.int .u64 ((rd_T25 l0 x14_1).f0), .int .u64 ((rd_T25 l0 x14_1).f1), .int .u64 ((rd_T25 l0 x14_1).f2), .int .u64 0, .int .u64 0, .slice none 0 0, .bool false]) ?_ 3 _ rfl; refine blk_put (cs := #[.int .u64 ((rd_T25 l0 x14_1).f0), .int .u64 ((rd_T25 l0 x14_1).f1), .int .u64 0, .int .u64 0, .int .u64 0, .slice none 0 0, .bool false]) ?_ 2 _ rfl; refine blk_put (cs := #[.int .u64 ((rd_T25 l0 x14_1).f0), .int .u64 0, .int .u64 0, .int .u64 0, .int .u64 0, .slice none 0 0, .bool false]) ?_ 1 _ rfl; refine blk_put (cs := #[.int .u64 0, .int .u64 0, .int .u64 0, .int .u64 0, .int .u64 0, .slice none 0 0, .bool false]) ?_ 0 _ rfl; (with_reducible repeat (first | refine blk_drewN ?_ _ | refine blk_drew ?_ | refine blk_alloc ?_ _)); exact BK267.out⟩
          have n1_ : Aside0 (Below w.heap.size w (((((((w7.setCell ⟨gb267, 0, none⟩ (.int .u64 ((rd_T25 l0 x14_1).f0))).setCell ⟨gb267, 1, none⟩ (.int .u64 ((rd_T25 l0 x14_1).f1))).setCell ⟨gb267, 2, none⟩ (.int .u64 ((rd_T25 l0 x14_1).f2))).setCell ⟨gb267, 3, none⟩ (.int .u64 ((rd_T25 l0 x14_1).f3))).setCell ⟨gb267, 4, none⟩ (.int .u64 ((rd_T25 l0 x14_1).f4))).setCell ⟨gb267, 5, none⟩ (.slice A266_5 ((rd_T25 l0 x14_1).f5).length c266_5)).setCell ⟨gb267, 6, none⟩ (.bool ((rd_T25 l0 x14_1).f6)))) := ⟨by repeat (first | (with_reducible first | exact HB.out | apply below_alloc | apply pw_below_drewN | apply below_drew1 | refine below_set ?_ GE267.out) | exact HB.out)⟩
          (try clear BK267)
          (try clear HB)
          generalize (((((((w7.setCell ⟨gb267, 0, none⟩ (.int .u64 ((rd_T25 l0 x14_1).f0))).setCell ⟨gb267, 1, none⟩ (.int .u64 ((rd_T25 l0 x14_1).f1))).setCell ⟨gb267, 2, none⟩ (.int .u64 ((rd_T25 l0 x14_1).f2))).setCell ⟨gb267, 3, none⟩ (.int .u64 ((rd_T25 l0 x14_1).f3))).setCell ⟨gb267, 4, none⟩ (.int .u64 ((rd_T25 l0 x14_1).f4))).setCell ⟨gb267, 5, none⟩ (.slice A266_5 ((rd_T25 l0 x14_1).f5).length c266_5)).setCell ⟨gb267, 6, none⟩ (.bool ((rd_T25 l0 x14_1).f6))) = w18 at n0_ n1_ ⊢
          have BK267 := n0_
          have HB := n1_
          clear n0_ n1_
          have n0_ := Aside0.mk (blk_drew BK267.out)
          have n1_ := Aside0.mk (below_drew1 HB.out)
          clear BK267
          clear HB
          have BK267 := n0_
          have HB := n1_
          clear n0_ n1_
          refine start_ (n := 18) (S := fun w' => w'.cell? ⟨gb267, 0, none⟩ = some (.int .u64 ((rd_T25 l0 x14_1).f0)) ∧ w'.cell? ⟨gb267, 1, none⟩ = some (.int .u64 ((rd_T25 l0 x14_1).f1)) ∧ w'.cell? ⟨gb267, 2, none⟩ = some (.int .u64 ((rd_T25 l0 x14_1).f2)) ∧ w'.cell? ⟨gb267, 3, none⟩ = some (.int .u64 ((rd_T25 l0 x14_1).f3)) ∧ w'.cell? ⟨gb267, 4, none⟩ = some (.int .u64 ((rd_T25 l0 x14_1).f4)) ∧ w'.cell? ⟨gb267, 5, none⟩ = some (.slice A266_5 ((rd_T25 l0 x14_1).f5).length c266_5) ∧ w'.cell? ⟨gb267, 6, none⟩ = some (.bool ((rd_T25 l0 x14_1).f6))) (ds := []) #[false, false, false, false, false, false, false, false, false, false, false, false, false, false, false, false, false, false] (by kernel_rfl) rfl rfl ⟨(blk_cell BK267.out 0).trans rfl, (blk_cell BK267.out 1).trans rfl, (blk_cell BK267.out 2).trans rfl, (blk_cell BK267.out 3).trans rfl, (blk_cell BK267.out 4).trans rfl, (blk_cell BK267.out 5).trans rfl, (blk_cell BK267.out 6).trans rfl⟩ (fun hHeld => ?_); refine with_tabW damsonref10_Check.tab6 damsonref10_Check.bits6 (fun HT_ HW_ => ?_)
          generalize w18.drew = w19 at BK267 HB hHeld ⊢
          refine take_ (i := 0) (N := some 19) (v := ?_) (a' := ?_) #[true, false, false, false, false, false, false, false, false, false, false, false, false, false, false, false, false, false] rfl rfl (take_ofW HT_.out HW_.out (by kernel_rfl)) (fun _ _ _ h => h) (Or.inl ⟨by rfl, ?_⟩) hHeld ?_ ?_
          rotate_left
          ·rintro w' ⟨s0, s1, s2, s3, s4, s5, s6⟩
           go_simp
           with_reducible rfl
          rotate_left
          ·simp only [Act.put, List.setIfInBounds_toArray, List.set_cons_zero, List.set_cons_succ, i64_w, i32_w]
           rfl
          refine one_ (i := 1) (N := some 20) #[true, true, false, false, false, false, false, false, false, false, false, false, false, false, false, false, false, false] rfl rfl (one_of HT_.out (by kernel_rfl)) (by decide) (fun K hK => ?_)
          refine goes_ Try.func34 (by kernel_rfl) rfl #[.agg #[.int .u64 ((rd_T25 l0 x14_1).f0), .int .u64 ((rd_T25 l0 x14_1).f1), .int .u64 ((rd_T25 l0 x14_1).f2), .int .u64 ((rd_T25 l0 x14_1).f3), .int .u64 ((rd_T25 l0 x14_1).f4), .slice A266_5 ((rd_T25 l0 x14_1).f5).length c266_5, .bool ((rd_T25 l0 x14_1).f6)]] (by rfl) rfl rfl (by (try simp only [List.map_toArray, List.map_cons, List.map_nil]); first | done | rfl | (simp only [List.length_drop, List.length_take]; rfl)) ?_
          with_reducible refine (damsonref09_Check.calls k1 ((rd_T25 l0 x14_1).f0) ((rd_T25 l0 x14_1).f1) ((rd_T25 l0 x14_1).f2) ((rd_T25 l0 x14_1).f3) ((rd_T25 l0 x14_1).f4) _ _ ((rd_T25 l0 x14_1).f5) ((rd_T25 l0 x14_1).f6) t268 _ ?side1 ?side2 A9.out).mono ?_
          (case side1 => repeat (first | exact (Kd.C_below HR266_5.out HB.out) | (with_reducible refine Kd.C_alloc ?_ _) | (with_reducible refine Kd.C_drewN ?_ _) | (with_reducible refine Kd.C_drew ?_)))
          (case side2 => exact HC266_5.out)
          rintro e w20 ⟨rfl, hb⟩
          refine ⟨_, rfl, ?_⟩
          have n0_ := Aside0.mk (blk_below (g := gb267) (blkN BK267) hb)
          have n1_ := Aside0.mk (below_step (belN HB) hb)
          clear BK267
          clear HB
          have BK267 := n0_
          have HB := n1_
          clear n0_ n1_
          (try clear hb)
          (try clear hb2)
          (try clear hk)
          (try clear hi)
          refine hK.out _ _ ⟨(blk_cell BK267.out 0).trans rfl, (blk_cell BK267.out 1).trans rfl, (blk_cell BK267.out 2).trans rfl, (blk_cell BK267.out 3).trans rfl, (blk_cell BK267.out 4).trans rfl, (blk_cell BK267.out 5).trans rfl, (blk_cell BK267.out 6).trans rfl⟩ (fun hHeld => ?_)
          clear hK K
          refine norm_ (a' := ?_) ?_ ?_
          rotate_left
          ·show Act.put _ (some 20) _ = _
           simp only [Act.put, List.setIfInBounds_toArray, List.set_cons_zero, List.set_cons_succ, i64_w, i32_w]
           rfl
          refine pureA_ 2 21 (bm 18 7) ?_
          refine pureA_ 3 22 (bm 18 15) ?_
          refine pureA_ 4 23 (bm 18 31) ?_
          refine pureA_ 5 24 (bm 18 63) ?_
          refine pureA_ 6 25 (bm 18 127) ?_
          refine pureU_ 7 26 (bm 18 255) ?_
          refine pureU_ 8 27 (bm 18 511) ?_
          refine pureU_ 9 28 (bm 18 1023) ?_
          refine pureU_ 10 29 (bm 18 2047) ?_
          refine pureU_ 11 30 (bm 18 4095) ?_
          refine pureU_ 12 31 (bm 18 8191) ?_
          refine pureU_ 13 32 (bm 18 16383) ?_
          refine pureU_ 14 33 (bm 18 32767) ?_
          refine pureU_ 15 34 (bm 18 65535) ?_
          refine pureA_ 16 35 (bm 18 131071) ?_
          refine pureA_ 17 36 (bm 18 262143) ?_
          refine done_ (done_of HT_.out (by kernel_rfl)) ?_
          try go_wp2
          go_meet
          case rel => exact ⟨_, (false), (by first | rfl | (simp; done) | (simp [*]; done)), H', ⟨by have := HK1.out; first | omega | exact Nat.le_refl _⟩, ⟨by (with_reducible repeat (first | refine blk_drewN ?_ _ | refine blk_drew ?_ | refine blk_alloc ?_ _)); exact BK267.out⟩, ⟨by repeat (first | (with_reducible first | exact HB.out | apply below_alloc | apply pw_below_drewN | apply below_drew1 | refine below_set ?_ GE267.out) | exact HB.out)⟩⟩
        ·rw [if_neg c10] at H
         have c10b0 : (t268 == 0) = false := beq_eq_false_iff_ne.mpr c10
         have c10b1 : (t268 != 0) = true := bne_iff_ne.mpr c10
         (first | rw [c10b0] | (simp only [i64_w, i32_w]; rw [c10b0]) | skip)
         have H' := Aside0.mk H
         clear H
         try go_wp2
         have n0_ : Aside0 ((((((((w7.setCell ⟨gb267, 0, none⟩ (.int .u64 ((rd_T25 l0 x14_1).f0))).setCell ⟨gb267, 1, none⟩ (.int .u64 ((rd_T25 l0 x14_1).f1))).setCell ⟨gb267, 2, none⟩ (.int .u64 ((rd_T25 l0 x14_1).f2))).setCell ⟨gb267, 3, none⟩ (.int .u64 ((rd_T25 l0 x14_1).f3))).setCell ⟨gb267, 4, none⟩ (.int .u64 ((rd_T25 l0 x14_1).f4))).setCell ⟨gb267, 5, none⟩ (.slice A266_5 ((rd_T25 l0 x14_1).f5).length c266_5)).setCell ⟨gb267, 6, none⟩ (.bool ((rd_T25 l0 x14_1).f6))).heap[gb267]? = some (.cells #[.int .u64 ((rd_T25 l0 x14_1).f0), .int .u64 ((rd_T25 l0 x14_1).f1), .int .u64 ((rd_T25 l0 x14_1).f2), .int .u64 ((rd_T25 l0 x14_1).f3), .int .u64 ((rd_T25 l0 x14_1).f4), .slice A266_5 ((rd_T25 l0 x14_1).f5).length c266_5, .bool ((rd_T25 l0 x14_1).f6)] 25 (0, 0))) := ⟨by (with_reducible repeat (first | refine blk_drewN ?_ _ | refine blk_drew ?_ | refine blk_alloc ?_ _)); refine blk_put (cs := #[.int .u64 ((rd_T25 l0 x14_1).f0), .int .u64 ((rd_T25 l0 x14_1).f1), .int .u64 ((rd_T25 l0 x14_1).f2), .int .u64 ((rd_T25 l0 x14_1).f3), .int .u64 ((rd_T25 l0 x14_1).f4), .slice A266_5 ((rd_T25 l0 x14_1).f5).length c266_5, .bool false]) ?_ 6 _ rfl; refine blk_put (cs := #[.int .u64 ((rd_T25 l0 x14_1).f0), .int .u64 ((rd_T25 l0 x14_1).f1), .int .u64 ((rd_T25 l0 x14_1).f2), .int .u64 ((rd_T25 l0 x14_1).f3), .int .u64 ((rd_T25 l0 x14_1).f4), .slice none 0 0, .bool false]) ?_ 5 _ rfl; refine blk_put (cs := #[.int .u64 ((rd_T25 l0 x14_1).f0), .int .u64 ((rd_T25 l0 x14_1).f1), .int .u64 ((rd_T25 l0 x14_1).f2), .int .u64 ((rd_T25 l0 x14_1).f3), .int .u64 0, .slice none 0 0, .bool false]) ?_ 4 _ rfl; refine blk_put (cs := #[.int .u64 ((rd_T25 l0 x14_1).f0), .int .u64 ((rd_T25 l0 x14_1).f1), .int .u64 ((rd_T25 l0 x14_1).f2), .int .u64 0, .int .u64 0, .slice none 0 0, .bool false]) ?_ 3 _ rfl; refine blk_put (cs := #[.int .u64 ((rd_T25 l0 x14_1).f0), .int .u64 ((rd_T25 l0 x14_1).f1), .int .u64 0, .int .u64 0, .int .u64 0, .slice none 0 0, .bool false]) ?_ 2 _ rfl; refine blk_put (cs := #[.int .u64 ((rd_T25 l0 x14_1).f0), .int .u64 0, .int .u64 0, .int .u64 0, .int .u64 0, .slice none 0 0, .bool false]) ?_ 1 _ rfl; refine blk_put (cs := #[.int .u64 0, .int .u64 0, .int .u64 0, .int .u64 0, .int .u64 0, .slice none 0 0, .bool false]) ?_ 0 _ rfl; (with_reducible repeat (first | refine blk_drewN ?_ _ | refine blk_drew ?_ | refine blk_alloc ?_ _)); exact BK267.out⟩
         have n1_ : Aside0 (Below w.heap.size w (((((((w7.setCell ⟨gb267, 0, none⟩ (.int .u64 ((rd_T25 l0 x14_1).f0))).setCell ⟨gb267, 1, none⟩ (.int .u64 ((rd_T25 l0 x14_1).f1))).setCell ⟨gb267, 2, none⟩ (.int .u64 ((rd_T25 l0 x14_1).f2))).setCell ⟨gb267, 3, none⟩ (.int .u64 ((rd_T25 l0 x14_1).f3))).setCell ⟨gb267, 4, none⟩ (.int .u64 ((rd_T25 l0 x14_1).f4))).setCell ⟨gb267, 5, none⟩ (.slice A266_5 ((rd_T25 l0 x14_1).f5).length c266_5)).setCell ⟨gb267, 6, none⟩ (.bool ((rd_T25 l0 x14_1).f6)))) := ⟨by repeat (first | (with_reducible first | exact HB.out | apply below_alloc | apply pw_below_drewN | apply below_drew1 | refine below_set ?_ GE267.out) | exact HB.out)⟩
         (try clear BK267)
         (try clear HB)
         generalize (((((((w7.setCell ⟨gb267, 0, none⟩ (.int .u64 ((rd_T25 l0 x14_1).f0))).setCell ⟨gb267, 1, none⟩ (.int .u64 ((rd_T25 l0 x14_1).f1))).setCell ⟨gb267, 2, none⟩ (.int .u64 ((rd_T25 l0 x14_1).f2))).setCell ⟨gb267, 3, none⟩ (.int .u64 ((rd_T25 l0 x14_1).f3))).setCell ⟨gb267, 4, none⟩ (.int .u64 ((rd_T25 l0 x14_1).f4))).setCell ⟨gb267, 5, none⟩ (.slice A266_5 ((rd_T25 l0 x14_1).f5).length c266_5)).setCell ⟨gb267, 6, none⟩ (.bool ((rd_T25 l0 x14_1).f6))) = w21 at n0_ n1_ ⊢
         have BK267 := n0_
         have HB := n1_
         clear n0_ n1_
         have n0_ := Aside0.mk (blk_drew BK267.out)
         have n1_ := Aside0.mk (below_drew1 HB.out)
         clear BK267
         clear HB
         have BK267 := n0_
         have HB := n1_
         clear n0_ n1_
         refine start_ (n := 18) (S := fun w' => w'.cell? ⟨gb267, 0, none⟩ = some (.int .u64 ((rd_T25 l0 x14_1).f0)) ∧ w'.cell? ⟨gb267, 1, none⟩ = some (.int .u64 ((rd_T25 l0 x14_1).f1)) ∧ w'.cell? ⟨gb267, 2, none⟩ = some (.int .u64 ((rd_T25 l0 x14_1).f2)) ∧ w'.cell? ⟨gb267, 3, none⟩ = some (.int .u64 ((rd_T25 l0 x14_1).f3)) ∧ w'.cell? ⟨gb267, 4, none⟩ = some (.int .u64 ((rd_T25 l0 x14_1).f4)) ∧ w'.cell? ⟨gb267, 5, none⟩ = some (.slice A266_5 ((rd_T25 l0 x14_1).f5).length c266_5) ∧ w'.cell? ⟨gb267, 6, none⟩ = some (.bool ((rd_T25 l0 x14_1).f6))) (ds := []) #[false, false, false, false, false, false, false, false, false, false, false, false, false, false, false, false, false, false] (by kernel_rfl) rfl rfl ⟨(blk_cell BK267.out 0).trans rfl, (blk_cell BK267.out 1).trans rfl, (blk_cell BK267.out 2).trans rfl, (blk_cell BK267.out 3).trans rfl, (blk_cell BK267.out 4).trans rfl, (blk_cell BK267.out 5).trans rfl, (blk_cell BK267.out 6).trans rfl⟩ (fun hHeld => ?_); refine with_tabW damsonref10_Check.tab6 damsonref10_Check.bits6 (fun HT_ HW_ => ?_)
         generalize w21.drew = w22 at BK267 HB hHeld ⊢
         refine take_ (i := 0) (N := some 19) (v := ?_) (a' := ?_) #[true, false, false, false, false, false, false, false, false, false, false, false, false, false, false, false, false, false] rfl rfl (take_ofW HT_.out HW_.out (by kernel_rfl)) (fun _ _ _ h => h) (Or.inl ⟨by rfl, ?_⟩) hHeld ?_ ?_
         rotate_left
         ·rintro w' ⟨s0, s1, s2, s3, s4, s5, s6⟩
          go_simp
          with_reducible rfl
         rotate_left
         ·simp only [Act.put, List.setIfInBounds_toArray, List.set_cons_zero, List.set_cons_succ, i64_w, i32_w]
          rfl
         refine one_ (i := 1) (N := some 20) #[true, true, false, false, false, false, false, false, false, false, false, false, false, false, false, false, false, false] rfl rfl (one_of HT_.out (by kernel_rfl)) (by decide) (fun K hK => ?_)
         refine goes_ Try.func34 (by kernel_rfl) rfl #[.agg #[.int .u64 ((rd_T25 l0 x14_1).f0), .int .u64 ((rd_T25 l0 x14_1).f1), .int .u64 ((rd_T25 l0 x14_1).f2), .int .u64 ((rd_T25 l0 x14_1).f3), .int .u64 ((rd_T25 l0 x14_1).f4), .slice A266_5 ((rd_T25 l0 x14_1).f5).length c266_5, .bool ((rd_T25 l0 x14_1).f6)]] (by rfl) rfl rfl (by (try simp only [List.map_toArray, List.map_cons, List.map_nil]); first | done | rfl | (simp only [List.length_drop, List.length_take]; rfl)) ?_
         with_reducible refine (damsonref09_Check.calls k1 ((rd_T25 l0 x14_1).f0) ((rd_T25 l0 x14_1).f1) ((rd_T25 l0 x14_1).f2) ((rd_T25 l0 x14_1).f3) ((rd_T25 l0 x14_1).f4) _ _ ((rd_T25 l0 x14_1).f5) ((rd_T25 l0 x14_1).f6) t268 _ ?side1 ?side2 A9.out).mono ?_
         (case side1 => repeat (first | exact (Kd.C_below HR266_5.out HB.out) | (with_reducible refine Kd.C_alloc ?_ _) | (with_reducible refine Kd.C_drewN ?_ _) | (with_reducible refine Kd.C_drew ?_)))
         (case side2 => exact HC266_5.out)
         rintro e w23 ⟨rfl, hb⟩
         refine ⟨_, rfl, ?_⟩
         have n0_ := Aside0.mk (blk_below (g := gb267) (blkN BK267) hb)
         have n1_ := Aside0.mk (below_step (belN HB) hb)
         clear BK267
         clear HB
         have BK267 := n0_
         have HB := n1_
         clear n0_ n1_
         (try clear hb)
         (try clear hb2)
         (try clear hk)
         (try clear hi)
         refine hK.out _ _ ⟨(blk_cell BK267.out 0).trans rfl, (blk_cell BK267.out 1).trans rfl, (blk_cell BK267.out 2).trans rfl, (blk_cell BK267.out 3).trans rfl, (blk_cell BK267.out 4).trans rfl, (blk_cell BK267.out 5).trans rfl, (blk_cell BK267.out 6).trans rfl⟩ (fun hHeld => ?_)
         clear hK K
         refine norm_ (a' := ?_) ?_ ?_
         rotate_left
         ·show Act.put _ (some 20) _ = _
          simp only [Act.put, List.setIfInBounds_toArray, List.set_cons_zero, List.set_cons_succ, i64_w, i32_w]
          rfl
         refine pureA_ 2 21 (bm 18 7) ?_
         refine pureA_ 3 22 (bm 18 15) ?_
         refine pureU_ 4 23 (bm 18 31) ?_
         refine pureU_ 5 24 (bm 18 63) ?_
         refine pureU_ 6 25 (bm 18 127) ?_
         refine pureU_ 7 26 (bm 18 255) ?_
         refine pureU_ 8 27 (bm 18 511) ?_
         refine pureU_ 9 28 (bm 18 1023) ?_
         refine pureU_ 10 29 (bm 18 2047) ?_
         refine pureU_ 11 30 (bm 18 4095) ?_
         refine pureU_ 12 31 (bm 18 8191) ?_
         refine pureU_ 13 32 (bm 18 16383) ?_
         refine pureU_ 14 33 (bm 18 32767) ?_
         refine pureU_ 15 34 (bm 18 65535) ?_
         refine pureU_ 16 35 (bm 18 131071) ?_
         refine pureA_ 17 36 (bm 18 262143) ?_
         refine done_ (done_of HT_.out (by kernel_rfl)) ?_
         try go_wp2
         go_meet
         case rel => exact ⟨_, (true), (by first | rfl | (simp; done) | (simp [*]; done)), H', ⟨by have := HK1.out; first | omega | exact Nat.le_refl _⟩, ⟨by (with_reducible repeat (first | refine blk_drewN ?_ _ | refine blk_drew ?_ | refine blk_alloc ?_ _)); exact BK267.out⟩, ⟨by repeat (first | (with_reducible first | exact HB.out | apply below_alloc | apply pw_below_drewN | apply below_drew1 | refine below_set ?_ GE267.out) | exact HB.out)⟩⟩
       case rest =>
        clear HC6
        try clear c1
        try clear c2
        try clear c2b0
        try clear c2b1
        try clear p2
        try clear q2
        try clear hx2
        try clear c3
        try clear c3b0
        try clear c4
        try clear c4b0
        try clear c5
        try clear c5b0
        try clear p6
        try clear c10
        try clear c10b0
        try clear c10b1
        try clear c11
        try clear c11b0
        try clear c13
        try clear c13b0
        try clear c14
        try clear c14b0
        try clear hcz8_0
        try clear hcz8_1
        try clear hcz8_2
        try clear hcz8_3
        try clear hcz8_4
        try clear hcz8_5
        try clear hcz8_6
        try clear hfz8_0
        try clear hfz8_1
        try clear hfz8_2
        try clear hfz8_3
        try clear hfz8_4
        try clear hfz8_5
        try clear hfz8_6
        try clear hx266_0
        try clear hx266_1
        try clear hx266_2
        try clear hx266_3
        try clear hx266_4
        try clear hx266_5
        try clear hx266_6
        try clear hx269_0
        try clear hx269_1
        try clear hx269_2
        try clear hx269_3
        try clear hx269_4
        try clear hx269_5
        try clear hx269_6
        try clear p2
        try clear p266
        try clear p269
        try clear q266
        try clear q269
        obtain ⟨kq, x36_5, rfl, HA, HJ5, BK267, HB⟩ := hcut
        cases kq with
        | zero => exact absurd HA.out (by simp [damsonref10_Check.j1])
        | succ kj5 =>
         have H := HA.out
         clear HA
         simp only [damsonref10_Check.j1] at H
         by_cases c24 : x36_5 = true
         ·subst c24
          have H1 : (some 1) = some r := by rw [if_pos rfl] at H; exact H
          clear H
          have H := H1
          clear H1
          obtain rfl := Option.some.inj H
          go_wp2
          go_ret
          exact ⟨by first | rfl | (simp [errW_none, errW_some] <;> rfl) | (simp [*, errW_none, errW_some] <;> rfl), by repeat (first | (with_reducible first | exact HB.out | apply below_alloc | apply pw_below_drewN | apply below_drew1 | refine below_set ?_ GE267.out) | exact HB.out)⟩
         ·replace c24 := Bool.eq_false_iff.mpr c24
          subst c24
          have H1 : (damsonref10_Check.l1 kj5 l0 x14_1 l0 (l0.length : Int) x14_1 ((rd_T25 l0 x14_1).f5) (((rd_T25 l0 x14_1).f5).length : Int) 0) = some r := by rw [if_neg (show ¬ (false = true) by decide)] at H; exact H
          clear H
          have H := H1
          clear H1
          have H' := Aside0.mk H
          clear H
          obtain ⟨hcz25_0, hcz25_1, hcz25_2, hcz25_3, hcz25_4, hcz25_5, hcz25_6, hfz25_0, hfz25_1, hfz25_2, hfz25_3, hfz25_4, hfz25_5, hfz25_6⟩ := cz7_ (w := wc) BK267.out
          go_wp2
          go_loopg [40] kj5 (fun kq v40 w' => ∃ (x40_3 : Int), v40 = .int .i64 x40_3 ∧ Aside0 (damsonref10_Check.l1 kq l0 x14_1 l0 (l0.length : Int) x14_1 ((rd_T25 l0 x14_1).f5) (((rd_T25 l0 x14_1).f5).length : Int) x40_3 = some r) ∧ Aside0 (kq ≤ kj5) ∧ Aside0 (w'.heap[gb267]? = some (.cells #[.int .u64 ((rd_T25 l0 x14_1).f0), .int .u64 ((rd_T25 l0 x14_1).f1), .int .u64 ((rd_T25 l0 x14_1).f2), .int .u64 ((rd_T25 l0 x14_1).f3), .int .u64 ((rd_T25 l0 x14_1).f4), (.slice A266_5 ((rd_T25 l0 x14_1).f5).length c266_5), .bool ((rd_T25 l0 x14_1).f6)] 25 (0, 0))) ∧ Aside0 (Below w.heap.size w w'))
          case atStart => exact ⟨(0), (by first | rfl | (simp; done) | (simp [*]; done)), H', ⟨Nat.le_refl _⟩, ⟨by (with_reducible repeat (first | refine blk_drewN ?_ _ | refine blk_drew ?_ | refine blk_alloc ?_ _)); exact BK267.out⟩, ⟨by repeat (first | (with_reducible first | exact HB.out | apply below_alloc | apply pw_below_drewN | apply below_drew1 | refine below_set ?_ GE267.out) | exact HB.out)⟩⟩
          case round =>
           clear H'
           try clear c1
           try clear c2
           try clear c2b0
           try clear c2b1
           try clear p2
           try clear q2
           try clear hx2
           try clear c3
           try clear c3b0
           try clear c4
           try clear c4b0
           try clear c5
           try clear c5b0
           try clear p6
           try clear c10
           try clear c10b0
           try clear c10b1
           try clear c11
           try clear c11b0
           try clear c13
           try clear c13b0
           try clear c14
           try clear c14b0
           try clear c24
           try clear hcz25_0
           try clear hcz25_1
           try clear hcz25_2
           try clear hcz25_3
           try clear hcz25_4
           try clear hcz25_5
           try clear hcz25_6
           try clear hcz8_0
           try clear hcz8_1
           try clear hcz8_2
           try clear hcz8_3
           try clear hcz8_4
           try clear hcz8_5
           try clear hcz8_6
           try clear hfz25_0
           try clear hfz25_1
           try clear hfz25_2
           try clear hfz25_3
           try clear hfz25_4
           try clear hfz25_5
           try clear hfz25_6
           try clear hfz8_0
           try clear hfz8_1
           try clear hfz8_2
           try clear hfz8_3
           try clear hfz8_4
           try clear hfz8_5
           try clear hfz8_6
           try clear hx266_0
           try clear hx266_1
           try clear hx266_2
           try clear hx266_3
           try clear hx266_4
           try clear hx266_5
           try clear hx266_6
           try clear hx269_0
           try clear hx269_1
           try clear hx269_2
           try clear hx269_3
           try clear hx269_4
           try clear hx269_5
           try clear hx269_6
           try clear p2
           try clear p266
           try clear p269
           try clear p6
           try clear q2
           try clear q266
           try clear q269
           obtain ⟨x40_3, rfl, HA, HK3, BK267, HB⟩ := hrel
           cases gk with
           | zero => exact absurd HA.out (by simp [damsonref10_Check.l1])
           | succ k3 =>
            have H := HA.out
            clear HA
            simp only [damsonref10_Check.l1] at H
            by_cases c26 : x40_3 < (((rd_T25 l0 x14_1).f5).length : Int)
            ·rw [if_pos c26] at H
             have c26b0 : decide (x40_3 < (((rd_T25 l0 x14_1).f5).length : Int)) = true := decide_eq_true c26
             clear c26
             by_cases c27 : 0 ≤ x40_3
             ·rw [if_pos c27] at H
              have c27b0 : decide (0 ≤ x40_3) = true := decide_eq_true c27
              clear c27
              by_cases c28 : x40_3 < (((rd_T25 l0 x14_1).f5).length : Int)
              ·rw [if_pos c28] at H
               have c28b0 : decide (x40_3 < (((rd_T25 l0 x14_1).f5).length : Int)) = true := decide_eq_true c28
               clear c28
               by_cases c29 : 0 ≤ x14_1
               ·rw [if_pos c29] at H
                have c29b0 := eq_true c29
                have c29b1 : decide (0 ≤ x14_1) = true := decide_eq_true c29
                clear c29
                by_cases c30 : x14_1 ≤ (l0.length : Int)
                ·rw [if_pos c30] at H
                 have c30b0 := eq_true c30
                 have c30b1 : decide (x14_1 ≤ (l0.length : Int)) = true := decide_eq_true c30
                 clear c30
                 obtain ⟨y272, hy272⟩ : ∃ y_ : List (S25), y_ = (l0.take (x14_1 : Int).toNat) := ⟨_, rfl⟩
                 replace H : ((damsonref10_where.f k3 y272 ((rd_T44 ((rd_T25 l0 x14_1).f5) x40_3).f0)).bind fun t276 => (if t276 ≥ 0 then (some 1) else (damsonref10_Check.l1 k3 l0 x14_1 l0 (l0.length : Int) x14_1 ((rd_T25 l0 x14_1).f5) (((rd_T25 l0 x14_1).f5).length : Int) (wrap64 (x40_3 + 1))))) = some r := by first | (rw [hy272]; with_reducible exact H) | (have H2_ := (Option.bind_some _ _).symm.trans H; rw [hy272]; with_reducible exact H2_) | (have H2_ := (Option.bind_some _ _).symm.trans H; with_reducible exact H2_) | with_reducible exact H | (rw [hy272]; exact H) | exact H
                 have Ny272 := Aside0.mk hy272
                 clear hy272
                 replace H := Option.bind_eq_some_iff.mp H
                 obtain ⟨t276, A310, H⟩ := H
                 replace H : (if t276 ≥ 0 then (some 1) else (damsonref10_Check.l1 k3 l0 x14_1 l0 (l0.length : Int) x14_1 ((rd_T25 l0 x14_1).f5) (((rd_T25 l0 x14_1).f5).length : Int) (wrap64 (x40_3 + 1)))) = some r := H
                 have A31 := Aside0.mk A310
                 clear A310
                 by_cases c32 : t276 ≥ 0
                 ·rw [if_pos c32] at H
                  have c32b0 : decide (0 ≤ t276) = true := decide_eq_true c32
                  clear c32
                  obtain rfl := Option.some.inj H
                  have p270 : 0 ≤ (x40_3 : Int) := of_decide_eq_true (by first | (with_reducible assumption) | assumption)
                  have q270 : x40_3 < (((rd_T25 l0 x14_1).f5).length : Int) := of_decide_eq_true (by first | (with_reducible assumption) | assumption)
                  obtain ⟨ad270, e270, hx270_0, hx270_1⟩ := at_T44 HR266_5.out x40_3 p270 q270
                  cases e270
                  replace hx270_0 := (HB.out.cell (World.block_lt_of_cell? w _ hx270_0)).trans hx270_0
                  replace hx270_1 := (HB.out.cell (World.block_lt_of_cell? w _ hx270_1)).trans hx270_1
                  replace p270 := eq_true p270
                  replace q270 := eq_true q270
                  try go_wp2_with (first | ((with_reducible refine gate_dst (N := 6) rfl ?_); refine box_event ?hg (N := 6) ?hd (cs := #[.int .u64 0, .int .u64 0]) (t := 44) ?hr ?_; (case hd => rfl); (case hg => rfl); (case hr => first | (go_simp; done) | (go_simp; rfl)); intro gb271 hg w33 hbox hb; have n0_ := Aside0.mk (blk_below (g := gb267) (blkN BK267) hb); have n1_ := Aside0.mk (below_step (belN HB) hb); have n2_ := Aside0.mk (hbox); have n3_ := Aside0.mk ((by rw [hg]; exact (below_size (belN HB)) : w.heap.size ≤ gb271)); have n4_ := Aside0.mk ((by rw [hg]; exact (below_size (belN HB)) : w.heap.size ≤ gb271)); have n5_ := Aside0.mk ((by rw [hg]; exact Nat.ne_of_lt (blk_lt (g := gb267) (blkN BK267)) : gb267 ≠ gb271)); have n6_ := Aside0.mk ((by rw [hg]; exact Nat.ne_of_gt (blk_lt (g := gb267) (blkN BK267)) : gb271 ≠ gb267)); clear BK267; clear HB; have BK267 := n0_; have HB := n1_; have BK271 := n2_; have GW271 := n3_; have GE271 := n4_; have NB267_271 := n5_; have NB271_267 := n6_; clear n0_ n1_ n2_ n3_ n4_ n5_ n6_; clear hb hbox hg; have hnb34 := NB271_267.out; have hnc34 := NB267_271.out; obtain ⟨hcz35_0, hcz35_1, hfz35_0, hfz35_1⟩ := cz2_ (w := w33) BK271.out))
                  have n0_ : Aside0 (((w33.setCell ⟨gb271, 0, none⟩ (.int .u64 ((rd_T44 ((rd_T25 l0 x14_1).f5) x40_3).f0))).setCell ⟨gb271, 1, none⟩ (.int .u64 ((rd_T44 ((rd_T25 l0 x14_1).f5) x40_3).f1))).heap[gb267]? = some (.cells #[.int .u64 ((rd_T25 l0 x14_1).f0), .int .u64 ((rd_T25 l0 x14_1).f1), .int .u64 ((rd_T25 l0 x14_1).f2), .int .u64 ((rd_T25 l0 x14_1).f3), .int .u64 ((rd_T25 l0 x14_1).f4), .slice (some ad270) ((rd_T25 l0 x14_1).f5).length c266_5, .bool ((rd_T25 l0 x14_1).f6)] 25 (0, 0))) := ⟨by (with_reducible repeat (first | refine blk_drewN ?_ _ | refine blk_drew ?_ | refine blk_alloc ?_ _)); refine blk_far ?_ NB267_271.out _; (with_reducible repeat (first | refine blk_drewN ?_ _ | refine blk_drew ?_ | refine blk_alloc ?_ _)); refine blk_far ?_ NB267_271.out _; (with_reducible repeat (first | refine blk_drewN ?_ _ | refine blk_drew ?_ | refine blk_alloc ?_ _)); exact BK267.out⟩
                  have n1_ : Aside0 (((w33.setCell ⟨gb271, 0, none⟩ (.int .u64 ((rd_T44 ((rd_T25 l0 x14_1).f5) x40_3).f0))).setCell ⟨gb271, 1, none⟩ (.int .u64 ((rd_T44 ((rd_T25 l0 x14_1).f5) x40_3).f1))).heap[gb271]? = some (.cells #[.int .u64 ((rd_T44 ((rd_T25 l0 x14_1).f5) x40_3).f0), .int .u64 ((rd_T44 ((rd_T25 l0 x14_1).f5) x40_3).f1)] 44 (0, 0))) := ⟨by (with_reducible repeat (first | refine blk_drewN ?_ _ | refine blk_drew ?_ | refine blk_alloc ?_ _)); refine blk_put (cs := #[.int .u64 ((rd_T44 ((rd_T25 l0 x14_1).f5) x40_3).f0), .int .u64 0]) ?_ 1 _ rfl; refine blk_put (cs := #[.int .u64 0, .int .u64 0]) ?_ 0 _ rfl; (with_reducible repeat (first | refine blk_drewN ?_ _ | refine blk_drew ?_ | refine blk_alloc ?_ _)); exact BK271.out⟩
                  have n2_ : Aside0 (Below w.heap.size w ((w33.setCell ⟨gb271, 0, none⟩ (.int .u64 ((rd_T44 ((rd_T25 l0 x14_1).f5) x40_3).f0))).setCell ⟨gb271, 1, none⟩ (.int .u64 ((rd_T44 ((rd_T25 l0 x14_1).f5) x40_3).f1)))) := ⟨by repeat (first | (with_reducible first | exact HB.out | apply below_alloc | apply pw_below_drewN | apply below_drew1 | refine below_set ?_ GE267.out | refine below_set ?_ GE271.out) | exact HB.out)⟩
                  (try clear BK267)
                  (try clear BK271)
                  (try clear HB)
                  generalize ((w33.setCell ⟨gb271, 0, none⟩ (.int .u64 ((rd_T44 ((rd_T25 l0 x14_1).f5) x40_3).f0))).setCell ⟨gb271, 1, none⟩ (.int .u64 ((rd_T44 ((rd_T25 l0 x14_1).f5) x40_3).f1))) = w36 at n0_ n1_ n2_ ⊢
                  have BK267 := n0_
                  have BK271 := n1_
                  have HB := n2_
                  clear n0_ n1_ n2_
                  have n0_ := Aside0.mk (blk_drew BK267.out)
                  have n1_ := Aside0.mk (blk_drew BK271.out)
                  have n2_ := Aside0.mk (below_drew1 HB.out)
                  clear BK267
                  clear BK271
                  clear HB
                  have BK267 := n0_
                  have BK271 := n1_
                  have HB := n2_
                  clear n0_ n1_ n2_
                  have q38 : (x14_1 : Int) ≤ ((l0.length : Int) : Int) := of_decide_eq_true (by first | (with_reducible assumption) | assumption)
                  obtain ⟨i038, hi038, _, hsz38, _⟩ := info_parts info25
                  have hroom38 : l0.length ≤ c0 := HC0.out
                  have hC38 : Kd.C k25 _ (some ad266) l0.length l0 := HR0.out
                  have hcut38 := cut_to (P := Try.prog) 47 25 .i64 Try.underlying47 hi038 (some ad266) l0.length c0 x14_1 (of_decide_eq_true (by first | (with_reducible assumption) | assumption)) q38 hroom38
                  have hr38 := Kd.C_take (m := (x14_1 : Int).toNat) hC38 (by omega)
                  have hy38 : y272.length = (x14_1 : Int).toNat := (by rw [Ny272.out, List.length_take]; omega)
                  rw [← Ny272.out] at hr38
                  rw [← hy38] at hcut38
                  have HR275 := Aside0.mk hr38
                  have HC275 := Aside0.mk (show y272.length ≤ c0 from by omega)
                  clear hr38 hC38 hroom38 hi038 hsz38
                  have KY38 := Aside0.mk hy38
                  clear hy38
                  replace q38 := eq_true q38
                  refine start_ (n := 7) (S := fun w' => w'.cell? ⟨gb271, 0, none⟩ = some (.int .u64 ((rd_T44 ((rd_T25 l0 x14_1).f5) x40_3).f0)) ∧ w'.cell? ⟨gb271, 1, none⟩ = some (.int .u64 ((rd_T44 ((rd_T25 l0 x14_1).f5) x40_3).f1))) (ds := []) #[false, false, false, false, false, false, false] (by kernel_rfl) rfl rfl ⟨(blk_cell BK271.out 0).trans rfl, (blk_cell BK271.out 1).trans rfl⟩ (fun hHeld => ?_)
                  generalize w36.drew = w37 at BK267 BK271 HB HR275 hHeld ⊢
                  refine pure_ (i := 0) (N := some 44) (v := ?_) (a' := ?_) #[true, false, false, false, false, false, false] rfl rfl (by kernel_rfl) (fun _ _ _ h => h) (Or.inl ⟨by rfl, ?_⟩) ?_ ?_
                  rotate_left
                  ·intro w'
                   go_simp
                   with_reducible rfl
                  rotate_left
                  ·simp only [Act.put, List.setIfInBounds_toArray, List.set_cons_zero, List.set_cons_succ, i64_w, i32_w]
                   rfl
                  refine pure_ (i := 1) (N := some 45) (v := ?_) (a' := ?_) #[true, true, false, false, false, false, false] rfl rfl (by kernel_rfl) (fun _ _ _ h => h) (Or.inl ⟨by rfl, ?_⟩) ?_ ?_
                  rotate_left
                  ·intro w'
                   go_simp
                   with_reducible rfl
                  rotate_left
                  ·simp only [Act.put, List.setIfInBounds_toArray, List.set_cons_zero, List.set_cons_succ, i64_w, i32_w]
                   rfl
                  refine pure_ (i := 2) (N := some 46) (v := ?_) (a' := ?_) #[true, true, true, false, false, false, false] rfl rfl (by kernel_rfl) (fun _ _ _ h => h) (Or.inl ⟨by rfl, ?_⟩) ?_ ?_
                  rotate_left
                  ·intro w'
                   go_simp
                   with_reducible rfl
                  rotate_left
                  ·simp only [Act.put, List.setIfInBounds_toArray, List.set_cons_zero, List.set_cons_succ, i64_w, i32_w]
                   rfl
                  refine pure_ (i := 3) (N := some 47) (v := ?_) (a' := ?_) #[true, true, true, true, false, false, false] rfl rfl (by kernel_rfl) (fun _ _ _ h => h) (Or.inl ⟨by rfl, ?_⟩) ?_ ?_
                  rotate_left
                  ·intro w'
                   go_simp
                   with_reducible rfl
                  rotate_left
                  ·simp only [Act.put, List.setIfInBounds_toArray, List.set_cons_zero, List.set_cons_succ, i64_w, i32_w]
                   rfl
                  refine take_ (i := 4) (N := some 48) (v := ?_) (a' := ?_) #[true, true, true, true, true, false, false] rfl rfl (by kernel_rfl) (fun _ _ _ h => h) (Or.inl ⟨by rfl, ?_⟩) hHeld ?_ ?_
                  rotate_left
                  ·rintro w' ⟨s0, s1⟩
                   go_simp
                   with_reducible rfl
                  rotate_left
                  ·simp only [Act.put, List.setIfInBounds_toArray, List.set_cons_zero, List.set_cons_succ, i64_w, i32_w]
                   rfl
                  refine one_ (i := 5) (N := some 49) #[true, true, true, true, true, true, false] rfl rfl (by kernel_rfl) (by decide) (fun K hK => ?_)
                  refine goes_ Try.func108 (by kernel_rfl) rfl #[.slice (some ad266) y272.length c0, .int .u64 ((rd_T44 ((rd_T25 l0 x14_1).f5) x40_3).f0)] (by rfl) rfl rfl (by (try simp only [List.map_toArray, List.map_cons, List.map_nil]); first | done | rfl | (simp only [List.length_drop, List.length_take]; rfl)) ?_
                  with_reducible refine (damsonref10_where.calls k3 _ _ y272 ((rd_T44 ((rd_T25 l0 x14_1).f5) x40_3).f0) t276 _ ?side1 ?side2 A31.out).mono ?_
                  (case side1 => repeat (first | exact (Kd.C_below HR275.out HB.out) | (with_reducible refine Kd.C_alloc ?_ _) | (with_reducible refine Kd.C_drewN ?_ _) | (with_reducible refine Kd.C_drew ?_)))
                  (case side2 => exact HC275.out)
                  rintro e w39 ⟨rfl, hb⟩
                  refine ⟨_, rfl, ?_⟩
                  have n0_ := Aside0.mk (blk_below (g := gb267) (blkN BK267) hb)
                  have n1_ := Aside0.mk (blk_below (g := gb271) (blkN BK271) hb)
                  have n2_ := Aside0.mk (below_step (belN HB) hb)
                  clear BK267
                  clear BK271
                  clear HB
                  have BK267 := n0_
                  have BK271 := n1_
                  have HB := n2_
                  clear n0_ n1_ n2_
                  (try clear hb)
                  (try clear hb2)
                  (try clear hk)
                  (try clear hi)
                  refine hK.out _ _ ⟨(blk_cell BK271.out 0).trans rfl, (blk_cell BK271.out 1).trans rfl⟩ (fun hHeld => ?_)
                  clear hK K
                  refine norm_ (a' := ?_) ?_ ?_
                  rotate_left
                  ·show Act.put _ (some 49) _ = _
                   simp only [Act.put, List.setIfInBounds_toArray, List.set_cons_zero, List.set_cons_succ, i64_w, i32_w]
                   rfl
                  refine pure_ (i := 6) (N := some 50) (v := ?_) (a' := ?_) #[true, true, true, true, true, true, true] rfl rfl (by kernel_rfl) (fun _ _ _ h => h) (Or.inl ⟨by rfl, ?_⟩) ?_ ?_
                  rotate_left
                  ·intro w'
                   go_simp
                   with_reducible rfl
                  rotate_left
                  ·simp only [Act.put, List.setIfInBounds_toArray, List.set_cons_zero, List.set_cons_succ, i64_w, i32_w]
                   rfl
                  refine done_ (by kernel_rfl) ?_
                  try go_wp2
                  go_ret
                  exact ⟨by first | rfl | (simp [errW_none, errW_some] <;> rfl) | (simp [*, errW_none, errW_some] <;> rfl), by repeat (first | (with_reducible first | exact HB.out | apply below_alloc | apply pw_below_drewN | apply below_drew1 | refine below_set ?_ GE267.out | refine below_set ?_ GE271.out) | exact HB.out)⟩
                 ·rw [if_neg c32] at H
                  have c32b0 : decide (0 ≤ t276) = false := decide_eq_false c32
                  clear c32
                  have H' := Aside0.mk H
                  clear H
                  have p270 : 0 ≤ (x40_3 : Int) := of_decide_eq_true (by first | (with_reducible assumption) | assumption)
                  have q270 : x40_3 < (((rd_T25 l0 x14_1).f5).length : Int) := of_decide_eq_true (by first | (with_reducible assumption) | assumption)
                  obtain ⟨ad270, e270, hx270_0, hx270_1⟩ := at_T44 HR266_5.out x40_3 p270 q270
                  cases e270
                  replace hx270_0 := (HB.out.cell (World.block_lt_of_cell? w _ hx270_0)).trans hx270_0
                  replace hx270_1 := (HB.out.cell (World.block_lt_of_cell? w _ hx270_1)).trans hx270_1
                  replace p270 := eq_true p270
                  replace q270 := eq_true q270
                  try go_wp2_with (first | ((with_reducible refine gate_dst (N := 6) rfl ?_); refine box_event ?hg (N := 6) ?hd (cs := #[.int .u64 0, .int .u64 0]) (t := 44) ?hr ?_; (case hd => rfl); (case hg => rfl); (case hr => first | (go_simp; done) | (go_simp; rfl)); intro gb271 hg w40 hbox hb; have n0_ := Aside0.mk (blk_below (g := gb267) (blkN BK267) hb); have n1_ := Aside0.mk (below_step (belN HB) hb); have n2_ := Aside0.mk (hbox); have n3_ := Aside0.mk ((by rw [hg]; exact (below_size (belN HB)) : w.heap.size ≤ gb271)); have n4_ := Aside0.mk ((by rw [hg]; exact (below_size (belN HB)) : w.heap.size ≤ gb271)); have n5_ := Aside0.mk ((by rw [hg]; exact Nat.ne_of_lt (blk_lt (g := gb267) (blkN BK267)) : gb267 ≠ gb271)); have n6_ := Aside0.mk ((by rw [hg]; exact Nat.ne_of_gt (blk_lt (g := gb267) (blkN BK267)) : gb271 ≠ gb267)); clear BK267; clear HB; have BK267 := n0_; have HB := n1_; have BK271 := n2_; have GW271 := n3_; have GE271 := n4_; have NB267_271 := n5_; have NB271_267 := n6_; clear n0_ n1_ n2_ n3_ n4_ n5_ n6_; clear hb hbox hg; have hnb41 := NB271_267.out; have hnc41 := NB267_271.out; obtain ⟨hcz42_0, hcz42_1, hfz42_0, hfz42_1⟩ := cz2_ (w := w40) BK271.out))
                  have n0_ : Aside0 (((w40.setCell ⟨gb271, 0, none⟩ (.int .u64 ((rd_T44 ((rd_T25 l0 x14_1).f5) x40_3).f0))).setCell ⟨gb271, 1, none⟩ (.int .u64 ((rd_T44 ((rd_T25 l0 x14_1).f5) x40_3).f1))).heap[gb267]? = some (.cells #[.int .u64 ((rd_T25 l0 x14_1).f0), .int .u64 ((rd_T25 l0 x14_1).f1), .int .u64 ((rd_T25 l0 x14_1).f2), .int .u64 ((rd_T25 l0 x14_1).f3), .int .u64 ((rd_T25 l0 x14_1).f4), .slice (some ad270) ((rd_T25 l0 x14_1).f5).length c266_5, .bool ((rd_T25 l0 x14_1).f6)] 25 (0, 0))) := ⟨by (with_reducible repeat (first | refine blk_drewN ?_ _ | refine blk_drew ?_ | refine blk_alloc ?_ _)); refine blk_far ?_ NB267_271.out _; (with_reducible repeat (first | refine blk_drewN ?_ _ | refine blk_drew ?_ | refine blk_alloc ?_ _)); refine blk_far ?_ NB267_271.out _; (with_reducible repeat (first | refine blk_drewN ?_ _ | refine blk_drew ?_ | refine blk_alloc ?_ _)); exact BK267.out⟩
                  have n1_ : Aside0 (((w40.setCell ⟨gb271, 0, none⟩ (.int .u64 ((rd_T44 ((rd_T25 l0 x14_1).f5) x40_3).f0))).setCell ⟨gb271, 1, none⟩ (.int .u64 ((rd_T44 ((rd_T25 l0 x14_1).f5) x40_3).f1))).heap[gb271]? = some (.cells #[.int .u64 ((rd_T44 ((rd_T25 l0 x14_1).f5) x40_3).f0), .int .u64 ((rd_T44 ((rd_T25 l0 x14_1).f5) x40_3).f1)] 44 (0, 0))) := ⟨by (with_reducible repeat (first | refine blk_drewN ?_ _ | refine blk_drew ?_ | refine blk_alloc ?_ _)); refine blk_put (cs := #[.int .u64 ((rd_T44 ((rd_T25 l0 x14_1).f5) x40_3).f0), .int .u64 0]) ?_ 1 _ rfl; refine blk_put (cs := #[.int .u64 0, .int .u64 0]) ?_ 0 _ rfl; (with_reducible repeat (first | refine blk_drewN ?_ _ | refine blk_drew ?_ | refine blk_alloc ?_ _)); exact BK271.out⟩
                  have n2_ : Aside0 (Below w.heap.size w ((w40.setCell ⟨gb271, 0, none⟩ (.int .u64 ((rd_T44 ((rd_T25 l0 x14_1).f5) x40_3).f0))).setCell ⟨gb271, 1, none⟩ (.int .u64 ((rd_T44 ((rd_T25 l0 x14_1).f5) x40_3).f1)))) := ⟨by repeat (first | (with_reducible first | exact HB.out | apply below_alloc | apply pw_below_drewN | apply below_drew1 | refine below_set ?_ GE267.out | refine below_set ?_ GE271.out) | exact HB.out)⟩
                  (try clear BK267)
                  (try clear BK271)
                  (try clear HB)
                  generalize ((w40.setCell ⟨gb271, 0, none⟩ (.int .u64 ((rd_T44 ((rd_T25 l0 x14_1).f5) x40_3).f0))).setCell ⟨gb271, 1, none⟩ (.int .u64 ((rd_T44 ((rd_T25 l0 x14_1).f5) x40_3).f1))) = w43 at n0_ n1_ n2_ ⊢
                  have BK267 := n0_
                  have BK271 := n1_
                  have HB := n2_
                  clear n0_ n1_ n2_
                  have n0_ := Aside0.mk (blk_drew BK267.out)
                  have n1_ := Aside0.mk (blk_drew BK271.out)
                  have n2_ := Aside0.mk (below_drew1 HB.out)
                  clear BK267
                  clear BK271
                  clear HB
                  have BK267 := n0_
                  have BK271 := n1_
                  have HB := n2_
                  clear n0_ n1_ n2_
                  have q45 : (x14_1 : Int) ≤ ((l0.length : Int) : Int) := of_decide_eq_true (by first | (with_reducible assumption) | assumption)
                  obtain ⟨i045, hi045, _, hsz45, _⟩ := info_parts info25
                  have hroom45 : l0.length ≤ c0 := HC0.out
                  have hC45 : Kd.C k25 _ (some ad266) l0.length l0 := HR0.out
                  have hcut45 := cut_to (P := Try.prog) 47 25 .i64 Try.underlying47 hi045 (some ad266) l0.length c0 x14_1 (of_decide_eq_true (by first | (with_reducible assumption) | assumption)) q45 hroom45
                  have hr45 := Kd.C_take (m := (x14_1 : Int).toNat) hC45 (by omega)
                  have hy45 : y272.length = (x14_1 : Int).toNat := (by rw [Ny272.out, List.length_take]; omega)
                  rw [← Ny272.out] at hr45
                  rw [← hy45] at hcut45
                  have HR275 := Aside0.mk hr45
                  have HC275 := Aside0.mk (show y272.length ≤ c0 from by omega)
                  clear hr45 hC45 hroom45 hi045 hsz45
                  have KY45 := Aside0.mk hy45
                  clear hy45
                  replace q45 := eq_true q45
                  refine start_ (n := 7) (S := fun w' => w'.cell? ⟨gb271, 0, none⟩ = some (.int .u64 ((rd_T44 ((rd_T25 l0 x14_1).f5) x40_3).f0)) ∧ w'.cell? ⟨gb271, 1, none⟩ = some (.int .u64 ((rd_T44 ((rd_T25 l0 x14_1).f5) x40_3).f1))) (ds := []) #[false, false, false, false, false, false, false] (by kernel_rfl) rfl rfl ⟨(blk_cell BK271.out 0).trans rfl, (blk_cell BK271.out 1).trans rfl⟩ (fun hHeld => ?_)
                  generalize w43.drew = w44 at BK267 BK271 HB HR275 hHeld ⊢
                  refine pure_ (i := 0) (N := some 44) (v := ?_) (a' := ?_) #[true, false, false, false, false, false, false] rfl rfl (by kernel_rfl) (fun _ _ _ h => h) (Or.inl ⟨by rfl, ?_⟩) ?_ ?_
                  rotate_left
                  ·intro w'
                   go_simp
                   with_reducible rfl
                  rotate_left
                  ·simp only [Act.put, List.setIfInBounds_toArray, List.set_cons_zero, List.set_cons_succ, i64_w, i32_w]
                   rfl
                  refine pure_ (i := 1) (N := some 45) (v := ?_) (a' := ?_) #[true, true, false, false, false, false, false] rfl rfl (by kernel_rfl) (fun _ _ _ h => h) (Or.inl ⟨by rfl, ?_⟩) ?_ ?_
                  rotate_left
                  ·intro w'
                   go_simp
                   with_reducible rfl
                  rotate_left
                  ·simp only [Act.put, List.setIfInBounds_toArray, List.set_cons_zero, List.set_cons_succ, i64_w, i32_w]
                   rfl
                  refine pure_ (i := 2) (N := some 46) (v := ?_) (a' := ?_) #[true, true, true, false, false, false, false] rfl rfl (by kernel_rfl) (fun _ _ _ h => h) (Or.inl ⟨by rfl, ?_⟩) ?_ ?_
                  rotate_left
                  ·intro w'
                   go_simp
                   with_reducible rfl
                  rotate_left
                  ·simp only [Act.put, List.setIfInBounds_toArray, List.set_cons_zero, List.set_cons_succ, i64_w, i32_w]
                   rfl
                  refine pure_ (i := 3) (N := some 47) (v := ?_) (a' := ?_) #[true, true, true, true, false, false, false] rfl rfl (by kernel_rfl) (fun _ _ _ h => h) (Or.inl ⟨by rfl, ?_⟩) ?_ ?_
                  rotate_left
                  ·intro w'
                   go_simp
                   with_reducible rfl
                  rotate_left
                  ·simp only [Act.put, List.setIfInBounds_toArray, List.set_cons_zero, List.set_cons_succ, i64_w, i32_w]
                   rfl
                  refine take_ (i := 4) (N := some 48) (v := ?_) (a' := ?_) #[true, true, true, true, true, false, false] rfl rfl (by kernel_rfl) (fun _ _ _ h => h) (Or.inl ⟨by rfl, ?_⟩) hHeld ?_ ?_
                  rotate_left
                  ·rintro w' ⟨s0, s1⟩
                   go_simp
                   with_reducible rfl
                  rotate_left
                  ·simp only [Act.put, List.setIfInBounds_toArray, List.set_cons_zero, List.set_cons_succ, i64_w, i32_w]
                   rfl
                  refine one_ (i := 5) (N := some 49) #[true, true, true, true, true, true, false] rfl rfl (by kernel_rfl) (by decide) (fun K hK => ?_)
                  refine goes_ Try.func108 (by kernel_rfl) rfl #[.slice (some ad266) y272.length c0, .int .u64 ((rd_T44 ((rd_T25 l0 x14_1).f5) x40_3).f0)] (by rfl) rfl rfl (by (try simp only [List.map_toArray, List.map_cons, List.map_nil]); first | done | rfl | (simp only [List.length_drop, List.length_take]; rfl)) ?_
                  with_reducible refine (damsonref10_where.calls k3 _ _ y272 ((rd_T44 ((rd_T25 l0 x14_1).f5) x40_3).f0) t276 _ ?side1 ?side2 A31.out).mono ?_
                  (case side1 => repeat (first | exact (Kd.C_below HR275.out HB.out) | (with_reducible refine Kd.C_alloc ?_ _) | (with_reducible refine Kd.C_drewN ?_ _) | (with_reducible refine Kd.C_drew ?_)))
                  (case side2 => exact HC275.out)
                  rintro e w46 ⟨rfl, hb⟩
                  refine ⟨_, rfl, ?_⟩
                  have n0_ := Aside0.mk (blk_below (g := gb267) (blkN BK267) hb)
                  have n1_ := Aside0.mk (blk_below (g := gb271) (blkN BK271) hb)
                  have n2_ := Aside0.mk (below_step (belN HB) hb)
                  clear BK267
                  clear BK271
                  clear HB
                  have BK267 := n0_
                  have BK271 := n1_
                  have HB := n2_
                  clear n0_ n1_ n2_
                  (try clear hb)
                  (try clear hb2)
                  (try clear hk)
                  (try clear hi)
                  refine hK.out _ _ ⟨(blk_cell BK271.out 0).trans rfl, (blk_cell BK271.out 1).trans rfl⟩ (fun hHeld => ?_)
                  clear hK K
                  refine norm_ (a' := ?_) ?_ ?_
                  rotate_left
                  ·show Act.put _ (some 49) _ = _
                   simp only [Act.put, List.setIfInBounds_toArray, List.set_cons_zero, List.set_cons_succ, i64_w, i32_w]
                   rfl
                  refine pure_ (i := 6) (N := some 50) (v := ?_) (a' := ?_) #[true, true, true, true, true, true, true] rfl rfl (by kernel_rfl) (fun _ _ _ h => h) (Or.inl ⟨by rfl, ?_⟩) ?_ ?_
                  rotate_left
                  ·intro w'
                   go_simp
                   with_reducible rfl
                  rotate_left
                  ·simp only [Act.put, List.setIfInBounds_toArray, List.set_cons_zero, List.set_cons_succ, i64_w, i32_w]
                   rfl
                  refine done_ (by kernel_rfl) ?_
                  try go_wp2
                  go_roundg k3
                  case measure => have := HK1.out; have := HJ5.out; have := HK3.out; omega
                  case rel => exact ⟨(wrap64 (x40_3 + 1)), (by first | rfl | (simp; done) | (simp [*]; done)), H', ⟨by have := HK1.out; have := HJ5.out; have := HK3.out; omega⟩, ⟨by (with_reducible repeat (first | refine blk_drewN ?_ _ | refine blk_drew ?_ | refine blk_alloc ?_ _)); exact BK267.out⟩, ⟨by repeat (first | (with_reducible first | exact HB.out | apply below_alloc | apply pw_below_drewN | apply below_drew1 | refine below_set ?_ GE267.out | refine below_set ?_ GE271.out) | exact HB.out)⟩⟩
                ·rw [if_neg c30] at H
                 exact absurd H (by simp)
               ·rw [if_neg c29] at H
                exact absurd H (by simp)
              ·rw [if_neg c28] at H
               exact absurd H (by simp)
             ·rw [if_neg c27] at H
              exact absurd H (by simp)
            ·rw [if_neg c26] at H
             have c26b0 : decide (x40_3 < (((rd_T25 l0 x14_1).f5).length : Int)) = false := decide_eq_false c26
             clear c26
             have H' := Aside0.mk H
             clear H
             go_wp2
             go_roundg k3
             case measure => have := HK1.out; have := HJ5.out; have := HK3.out; omega
             case rel => exact ⟨(wrap64 (x14_1 + 1)), (by first | rfl | (simp; done) | (simp [*]; done)), H', ⟨by have := HK1.out; have := HJ5.out; have := HK3.out; omega⟩, ⟨by repeat (first | (with_reducible first | exact HB.out | apply below_alloc | apply pw_below_drewN | apply below_drew1 | refine below_set ?_ GE267.out) | exact HB.out)⟩⟩
      ·rw [if_neg c5] at H
       exact absurd H (by simp)
     ·rw [if_neg c4] at H
      exact absurd H (by simp)
    ·rw [if_neg c3] at H
     have c3b0 : decide (x14_1 < (l0.length : Int)) = false := decide_eq_false c3
     clear c3
     replace H := Option.bind_eq_some_iff.mp H
     obtain ⟨⟨t264, t265⟩, A470, H⟩ := H
     replace H : (if t265 = true then (some 0) else (some 1)) = some r := H
     have A47 := Aside0.mk A470
     clear A470
     by_cases c48 : t265 = true
     ·subst c48
      have H1 : (some 0) = some r := by rw [if_pos rfl] at H; exact H
      clear H
      have H := H1
      clear H1
      obtain rfl := Option.some.inj H
      go_wp2_with (first | ((with_reducible refine gate_callee (f := 109) rfl ?_); refine goesL_ (some 55) rfl rfl Try.func109 (by kernel_rfl) rfl #[.slice A0 l0.length c0] rfl (by (try simp only [List.map_toArray, List.map_cons, List.map_nil]); first | done | rfl | (simp only [List.length_drop, List.length_take]; rfl)) ?_; (with_reducible refine (damsonref10_all.calls k1 _ _ l0 t264 true _ ?side1 ?side2 A47.out).mono ?_); (case side1 => repeat (first | exact (Kd.C_below HR0.out HB.out) | (with_reducible refine Kd.C_alloc ?_ _) | (with_reducible refine Kd.C_drewN ?_ _) | (with_reducible refine Kd.C_drew ?_))); (case side2 => exact HC0.out); rintro e w49 ⟨rfl, hb⟩; refine ⟨_, rfl, ?_⟩; have n0_ := Aside0.mk (below_step (belN HB) hb); clear HB; have HB := n0_; clear n0_; (try clear hb); (try clear hb2); (try clear hk); (try clear hi)))
      go_ret
      exact ⟨by first | rfl | (simp [errW_none, errW_some] <;> rfl) | (simp [*, errW_none, errW_some] <;> rfl), by repeat (first | (with_reducible first | exact HB.out | apply below_alloc | apply pw_below_drewN | apply below_drew1) | exact HB.out)⟩
     ·replace c48 := Bool.eq_false_iff.mpr c48
      subst c48
      have H1 : (some 1) = some r := by rw [if_neg (show ¬ (false = true) by decide)] at H; exact H
      clear H
      have H := H1
      clear H1
      obtain rfl := Option.some.inj H
      go_wp2_with (first | ((with_reducible refine gate_callee (f := 109) rfl ?_); refine goesL_ (some 55) rfl rfl Try.func109 (by kernel_rfl) rfl #[.slice A0 l0.length c0] rfl (by (try simp only [List.map_toArray, List.map_cons, List.map_nil]); first | done | rfl | (simp only [List.length_drop, List.length_take]; rfl)) ?_; (with_reducible refine (damsonref10_all.calls k1 _ _ l0 t264 false _ ?side1 ?side2 A47.out).mono ?_); (case side1 => repeat (first | exact (Kd.C_below HR0.out HB.out) | (with_reducible refine Kd.C_alloc ?_ _) | (with_reducible refine Kd.C_drewN ?_ _) | (with_reducible refine Kd.C_drew ?_))); (case side2 => exact HC0.out); rintro e w50 ⟨rfl, hb⟩; refine ⟨_, rfl, ?_⟩; have n0_ := Aside0.mk (below_step (belN HB) hb); clear HB; have HB := n0_; clear n0_; (try clear hb); (try clear hb2); (try clear hk); (try clear hi)))
      go_ret
      exact ⟨by first | rfl | (simp [errW_none, errW_some] <;> rfl) | (simp [*, errW_none, errW_some] <;> rfl), by repeat (first | (with_reducible first | exact HB.out | apply below_alloc | apply pw_below_drewN | apply below_drew1) | exact HB.out)⟩

end Go.Proofs.Ytcfbcoinbecdfaa.P
