-- written by a program of this session (wip/print)
import Derived.Test.YtmoncgfffdddeaaQIDoesx0
import Derived.Test.YtmoncgfffdddeaaQIDoesx3
import Derived.Test.YtmoncgfffdddeaaQIDoesx6
namespace Go.Proofs.Ytmoncgfffdddeaa.P
open Go.RowKit Go.Proofs.YtmoncgfffdddeaaW.PrintWords Go.Proofs.YtmoncgfffdddeaaW.PrintLast Go.Proofs.YtmoncgfffdddeaaW.PrintMore
attribute [local go_sem] max2_int min2_int max_two min_two max_three min_three max_four min_four   -- for this text's walks alone
set_option linter.unusedVariables false
set_option linter.unusedSimpArgs false

/-! ### damsonref14_Same: function 19 -/
def damsonref14_Same.l0 : Nat → List (S26) → List (S26) → Int → Int → Option (Bool)
  | 0, _, _, _, _ => none
  | k + 1, x0, x1, x12, x13 => if x13 < x12 then (if 0 ≤ x13 then (if x13 < (x0.length : Int) then (if x13 < (x1.length : Int) then ((damsonref14_one.f ((rd_T26 x0 x13).f0) ((rd_T26 x0 x13).f1) ((rd_T26 x0 x13).f2) ((rd_T26 x0 x13).f3) ((rd_T26 x1 x13).f0) ((rd_T26 x1 x13).f1) ((rd_T26 x1 x13).f2) ((rd_T26 x1 x13).f3)).bind fun t190 => (if t190 = true then (damsonref14_Same.l0 k x0 x1 x12 (wrap64 (x13 + 1))) else (some false))) else (none)) else (none)) else (none)) else (some true)
def damsonref14_Same.f (k : Nat) (l0 : List (S26)) (l1 : List (S26)) : Option (Bool) := if (l0.length : Int) = (l1.length : Int) then (damsonref14_Same.l0 k l0 l1 (l0.length : Int) 0) else (some false)
theorem damsonref14_Same.mono_l : ∀ k, (∀ y0 y1 y2 y3, LeO (damsonref14_Same.l0 k y0 y1 y2 y3) (damsonref14_Same.l0 (k + 1) y0 y1 y2 y3))
  | 0 => fun _ _ _ _ r h => by simp [damsonref14_Same.l0] at h
  | k + 1 => by
    have ih0 := damsonref14_Same.mono_l k
    · intro y0 y1 y2 y3
      unfold damsonref14_Same.l0
      repeat' first
      | (with_reducible exact ih0 _ _ _ _)
      | (with_reducible exact LeO.refl _)
      | (with_reducible exact LeO.none _)
      | (with_reducible refine LeO.ite ?_ ?_)
      | (with_reducible refine LeO.bind ?_ (fun _ => ?_))
      | exact ih0 _ _ _ _
      | exact LeO.none _
      | refine LeO.ite ?_ ?_
      | refine LeO.bind ?_ (fun _ => ?_)
theorem damsonref14_Same.mono : ∀ a0 a1 k, LeO (damsonref14_Same.f k a0 a1) (damsonref14_Same.f (k + 1) a0 a1) := by
  intro a0 a1 k
  have ih0 := damsonref14_Same.mono_l k
  unfold damsonref14_Same.f
  repeat' first
      | (with_reducible exact ih0 _ _ _ _)
      | (with_reducible exact LeO.refl _)
      | (with_reducible exact LeO.none _)
      | (with_reducible refine LeO.ite ?_ ?_)
      | (with_reducible refine LeO.bind ?_ (fun _ => ?_))
      | exact ih0 _ _ _ _
      | exact LeO.none _
      | refine LeO.ite ?_ ?_
      | refine LeO.bind ?_ (fun _ => ?_)
def damsonref14_Same.T6 : Bool × List (List Nat × List Nat) := (true, [([], []), ([], []), ([0, 1], [0, 1]), ([2], [2]), ([], []), ([], []), ([4, 5], [4, 5]), ([6], [6]), ([3, 7], [3, 7]), ([8], [8])])
def damsonref14_Same.B6 : List Nat := [0, 0, 3, 7, 0, 0, 48, 112, 255, 511]
theorem damsonref14_Same.tab6 : rtab .any (opsOf Try.f19 6) = damsonref14_Same.T6 := by kernel_rfl
theorem damsonref14_Same.bits6 : waitsOk damsonref14_Same.T6.2 damsonref14_Same.B6 = true := by kernel_rfl
set_option maxHeartbeats 8000000 in
set_option maxRecDepth 100000 in
theorem damsonref14_Same.calls (k : Nat) (A0 : Option Addr) (c0 : Nat) (l0 : List (S26)) (A1 : Option Addr) (c1 : Nat) (l1 : List (S26)) (r : Bool) (w : World) (hr0 : Kd.C k26 w A0 l0.length l0) (hc0 : l0.length ≤ c0) (hr1 : Kd.C k26 w A1 l1.length l1) (hc1 : l1.length ≤ c1) (h : damsonref14_Same.f k l0 l1 = some r) :
    Calls Try.prog 19 #[.slice A0 l0.length c0, .slice A1 l1.length c1] w fun e w' => e = .returned (.bool r) ∧ Below w.heap.size w w' := by
  have hu26 := Try.underlying26
  have HR0 := Aside0.mk hr0
  have HC0 := Aside0.mk hc0
  clear hr0 hc0
  have HR1 := Aside0.mk hr1
  have HC1 := Aside0.mk hc1
  clear hr1 hc1
  have HB := Aside0.mk (Below.refl w.heap.size w)
  have H : (if (l0.length : Int) = (l1.length : Int) then (damsonref14_Same.l0 k l0 l1 (l0.length : Int) 0) else (some false)) = some r := h
  clear h
  by_cases c3 : (l0.length : Int) = (l1.length : Int)
  · rw [if_pos c3] at H
    have c3b0 : ((l0.length : Int) == (l1.length : Int)) = true := beq_iff_eq.mpr c3
    have c3b1 : ((l0.length : Int) != (l1.length : Int)) = false := bne_eq_false_iff_eq.mpr c3
    have c3b2 : (l0.length == l1.length) = true := by first | simpa using c3 | (simp at c3 ⊢; omega)
    clear c3
    have H' := Aside0.mk H
    clear H
    go_enter Try.func19, Try.ntmps19
    go_wp2
    go_loopg [13] k (fun kq v13 w' => ∃ (x13_1 : Int), v13 = .int .i64 x13_1 ∧ Aside0 (damsonref14_Same.l0 kq l0 l1 (l0.length : Int) x13_1 = some r) ∧ Aside0 (kq ≤ k) ∧ Aside0 (Below w.heap.size w w'))
    case atStart => exact ⟨(0), (by first | rfl | (simp; done) | (simp [*]; done)), H', ⟨Nat.le_refl _⟩, ⟨by repeat (first | (with_reducible first | exact HB.out | apply below_alloc | apply pw_below_drewN | apply below_drew1) | exact HB.out)⟩⟩
    case round =>
      clear H'
      try clear c1
      try clear p2
      try clear c3
      try clear c3b0
      try clear c3b1
      try clear c3b2
      obtain ⟨x13_1, rfl, HA, HK1, HB⟩ := hrel
      cases gk with
      | zero => exact absurd HA.out (by simp [damsonref14_Same.l0])
      | succ k1 =>
        have H := HA.out
        clear HA
        simp only [damsonref14_Same.l0] at H
        by_cases c4 : x13_1 < (l0.length : Int)
        · rw [if_pos c4] at H
          have c4b0 : decide (x13_1 < (l0.length : Int)) = true := decide_eq_true c4
          clear c4
          by_cases c5 : 0 ≤ x13_1
          · rw [if_pos c5] at H
            have c5b0 : decide (0 ≤ x13_1) = true := decide_eq_true c5
            clear c5
            by_cases c6 : x13_1 < (l0.length : Int)
            · rw [if_pos c6] at H
              have c6b0 : decide (x13_1 < (l0.length : Int)) = true := decide_eq_true c6
              clear c6
              by_cases c7 : x13_1 < (l1.length : Int)
              · rw [if_pos c7] at H
                have c7b0 : decide (x13_1 < (l1.length : Int)) = true := decide_eq_true c7
                clear c7
                replace H := Option.bind_eq_some_iff.mp H
                obtain ⟨t190, A80, H⟩ := H
                replace H : (if t190 = true then (damsonref14_Same.l0 k1 l0 l1 (l0.length : Int) (wrap64 (x13_1 + 1))) else (some false)) = some r := H
                have A8 := Aside0.mk A80
                clear A80
                by_cases c9 : t190 = true
                · subst c9
                  have H1 : (damsonref14_Same.l0 k1 l0 l1 (l0.length : Int) (wrap64 (x13_1 + 1))) = some r := by rw [if_pos rfl] at H; exact H
                  clear H
                  have H := H1
                  clear H1
                  have H' := Aside0.mk H
                  clear H
                  try go_wp2
                  have n0_ := Aside0.mk (below_drew1 HB.out)
                  clear HB
                  have HB := n0_
                  clear n0_
                  have p188 : 0 ≤ (x13_1 : Int) := of_decide_eq_true (by first | (with_reducible assumption) | assumption)
                  have q188 : x13_1 < (l0.length : Int) := of_decide_eq_true (by first | (with_reducible assumption) | assumption)
                  obtain ⟨ad188, A188_1, c188_1, A188_2, c188_2, e188, hx188_0, hx188_1, hx188_2, hx188_3, hl188_1, hi188_1, hl188_2, hi188_2⟩ := at_T26 HR0.out x13_1 p188 q188
                  have hw188_3 := hx188_3
                  have hw188_2 := hx188_2
                  have hw188_1 := hx188_1
                  have hw188_0 := hx188_0
                  cases e188
                  replace hx188_0 := (HB.out.cell (World.block_lt_of_cell? w _ hx188_0)).trans hx188_0
                  replace hx188_1 := (HB.out.cell (World.block_lt_of_cell? w _ hx188_1)).trans hx188_1
                  replace hx188_2 := (HB.out.cell (World.block_lt_of_cell? w _ hx188_2)).trans hx188_2
                  replace hx188_3 := (HB.out.cell (World.block_lt_of_cell? w _ hx188_3)).trans hx188_3
                  have HR188_1 := Aside0.mk hi188_1
                  have HC188_1 := Aside0.mk hl188_1
                  clear hi188_1 hl188_1
                  have HR188_2 := Aside0.mk hi188_2
                  have HC188_2 := Aside0.mk hl188_2
                  clear hi188_2 hl188_2
                  replace p188 := eq_true p188
                  replace q188 := eq_true q188
                  have p189 : 0 ≤ (x13_1 : Int) := of_decide_eq_true (by first | (with_reducible assumption) | assumption)
                  have q189 : x13_1 < (l1.length : Int) := of_decide_eq_true (by first | (with_reducible assumption) | assumption)
                  obtain ⟨ad189, A189_1, c189_1, A189_2, c189_2, e189, hx189_0, hx189_1, hx189_2, hx189_3, hl189_1, hi189_1, hl189_2, hi189_2⟩ := at_T26 HR1.out x13_1 p189 q189
                  have hw189_3 := hx189_3
                  have hw189_2 := hx189_2
                  have hw189_1 := hx189_1
                  have hw189_0 := hx189_0
                  cases e189
                  replace hx189_0 := (HB.out.cell (World.block_lt_of_cell? w _ hx189_0)).trans hx189_0
                  replace hx189_1 := (HB.out.cell (World.block_lt_of_cell? w _ hx189_1)).trans hx189_1
                  replace hx189_2 := (HB.out.cell (World.block_lt_of_cell? w _ hx189_2)).trans hx189_2
                  replace hx189_3 := (HB.out.cell (World.block_lt_of_cell? w _ hx189_3)).trans hx189_3
                  have HR189_1 := Aside0.mk hi189_1
                  have HC189_1 := Aside0.mk hl189_1
                  clear hi189_1 hl189_1
                  have HR189_2 := Aside0.mk hi189_2
                  have HC189_2 := Aside0.mk hl189_2
                  clear hi189_2 hl189_2
                  replace p189 := eq_true p189
                  replace q189 := eq_true q189
                  refine start_ (n := 10) (S := fun w' => w'.cell? (ad188.add ((x13_1).toNat * 4)) = some (.int .u64 ((rd_T26 l0 x13_1).f0)) ∧ w'.cell? ⟨(ad188.add ((x13_1).toNat * 4)).block, (ad188.add ((x13_1).toNat * 4)).off + 1, none⟩ = some (.slice A188_1 ((rd_T26 l0 x13_1).f1).length c188_1) ∧ w'.cell? ⟨(ad188.add ((x13_1).toNat * 4)).block, (ad188.add ((x13_1).toNat * 4)).off + 2, none⟩ = some (.slice A188_2 ((rd_T26 l0 x13_1).f2).length c188_2) ∧ w'.cell? ⟨(ad188.add ((x13_1).toNat * 4)).block, (ad188.add ((x13_1).toNat * 4)).off + 3, none⟩ = some (.int .u64 ((rd_T26 l0 x13_1).f3)) ∧ w'.cell? (ad189.add ((x13_1).toNat * 4)) = some (.int .u64 ((rd_T26 l1 x13_1).f0)) ∧ w'.cell? ⟨(ad189.add ((x13_1).toNat * 4)).block, (ad189.add ((x13_1).toNat * 4)).off + 1, none⟩ = some (.slice A189_1 ((rd_T26 l1 x13_1).f1).length c189_1) ∧ w'.cell? ⟨(ad189.add ((x13_1).toNat * 4)).block, (ad189.add ((x13_1).toNat * 4)).off + 2, none⟩ = some (.slice A189_2 ((rd_T26 l1 x13_1).f2).length c189_2) ∧ w'.cell? ⟨(ad189.add ((x13_1).toNat * 4)).block, (ad189.add ((x13_1).toNat * 4)).off + 3, none⟩ = some (.int .u64 ((rd_T26 l1 x13_1).f3))) (ds := []) #[false, false, false, false, false, false, false, false, false, false] (by kernel_rfl) rfl rfl ⟨((HB.out.cell (World.block_lt_of_cell? w _ hw188_0)).trans hw188_0), ((HB.out.cell (World.block_lt_of_cell? w _ hw188_1)).trans hw188_1), ((HB.out.cell (World.block_lt_of_cell? w _ hw188_2)).trans hw188_2), ((HB.out.cell (World.block_lt_of_cell? w _ hw188_3)).trans hw188_3), ((HB.out.cell (World.block_lt_of_cell? w _ hw189_0)).trans hw189_0), ((HB.out.cell (World.block_lt_of_cell? w _ hw189_1)).trans hw189_1), ((HB.out.cell (World.block_lt_of_cell? w _ hw189_2)).trans hw189_2), ((HB.out.cell (World.block_lt_of_cell? w _ hw189_3)).trans hw189_3)⟩ (fun hHeld => ?_); refine with_tabW damsonref14_Same.tab6 damsonref14_Same.bits6 (fun HT_ HW_ => ?_)
                  generalize wr.drew = w10 at HB HR188_1 HR188_2 HR189_1 HR189_2 hx188_0 hx188_1 hx188_2 hx188_3 hx189_0 hx189_1 hx189_2 hx189_3 hHeld ⊢
                  refine pureA_ 0 16 (bm 10 1) ?_
                  refine pureA_ 1 17 (bm 10 3) ?_
                  refine pureA_ 2 18 (bm 10 7) ?_
                  refine pureA_ 4 20 (bm 10 23) ?_
                  refine pureA_ 5 21 (bm 10 55) ?_
                  refine pureA_ 6 22 (bm 10 119) ?_
                  refine take_ (i := 3) (N := some 19) (v := ?_) (a' := ?_) #[true, true, true, true, true, true, true, false, false, false] rfl rfl (take_ofW HT_.out HW_.out (by kernel_rfl)) (fun _ _ _ h => h) (Or.inl ⟨by rfl, ?_⟩) hHeld ?_ ?_
                  rotate_left
                  · rintro w' ⟨s0, s1, s2, s3, s4, s5, s6, s7⟩
                    go_simp
                    with_reducible rfl
                  rotate_left
                  · simp only [Act.put, List.setIfInBounds_toArray, List.set_cons_zero, List.set_cons_succ, i64_w, i32_w]
                    rfl
                  refine take_ (i := 7) (N := some 23) (v := ?_) (a' := ?_) #[true, true, true, true, true, true, true, true, false, false] rfl rfl (take_ofW HT_.out HW_.out (by kernel_rfl)) (fun _ _ _ h => h) (Or.inl ⟨by rfl, ?_⟩) hHeld ?_ ?_
                  rotate_left
                  · rintro w' ⟨s0, s1, s2, s3, s4, s5, s6, s7⟩
                    go_simp
                    with_reducible rfl
                  rotate_left
                  · simp only [Act.put, List.setIfInBounds_toArray, List.set_cons_zero, List.set_cons_succ, i64_w, i32_w]
                    rfl
                  refine one_ (i := 8) (N := some 24) #[true, true, true, true, true, true, true, true, true, false] rfl rfl (one_of HT_.out (by kernel_rfl)) (by decide) (fun K hK => ?_)
                  refine goes_ Try.func29 (by kernel_rfl) rfl #[.agg #[.int .u64 ((rd_T26 l0 x13_1).f0), .slice A188_1 ((rd_T26 l0 x13_1).f1).length c188_1, .slice A188_2 ((rd_T26 l0 x13_1).f2).length c188_2, .int .u64 ((rd_T26 l0 x13_1).f3)], .agg #[.int .u64 ((rd_T26 l1 x13_1).f0), .slice A189_1 ((rd_T26 l1 x13_1).f1).length c189_1, .slice A189_2 ((rd_T26 l1 x13_1).f2).length c189_2, .int .u64 ((rd_T26 l1 x13_1).f3)]] (by rfl) rfl rfl (by (try simp only [List.map_toArray, List.map_cons, List.map_nil]); first | done | rfl | (simp only [List.length_drop, List.length_take]; rfl)) ?_
                  with_reducible refine (damsonref14_one.calls ((rd_T26 l0 x13_1).f0) _ _ ((rd_T26 l0 x13_1).f1) _ _ ((rd_T26 l0 x13_1).f2) ((rd_T26 l0 x13_1).f3) ((rd_T26 l1 x13_1).f0) _ _ ((rd_T26 l1 x13_1).f1) _ _ ((rd_T26 l1 x13_1).f2) ((rd_T26 l1 x13_1).f3) true _ ?side1 ?side2 ?side3 ?side4 ?side5 ?side6 ?side7 ?side8 A8.out).mono ?_
                  (case side1 => repeat (first | exact (Kd.C_below HR188_1.out HB.out) | (with_reducible refine Kd.C_alloc ?_ _) | (with_reducible refine Kd.C_drewN ?_ _) | (with_reducible refine Kd.C_drew ?_)))
                  (case side2 => exact HC188_1.out)
                  (case side3 => repeat (first | exact (Kd.C_below HR188_2.out HB.out) | (with_reducible refine Kd.C_alloc ?_ _) | (with_reducible refine Kd.C_drewN ?_ _) | (with_reducible refine Kd.C_drew ?_)))
                  (case side4 => exact HC188_2.out)
                  (case side5 => repeat (first | exact (Kd.C_below HR189_1.out HB.out) | (with_reducible refine Kd.C_alloc ?_ _) | (with_reducible refine Kd.C_drewN ?_ _) | (with_reducible refine Kd.C_drew ?_)))
                  (case side6 => exact HC189_1.out)
                  (case side7 => repeat (first | exact (Kd.C_below HR189_2.out HB.out) | (with_reducible refine Kd.C_alloc ?_ _) | (with_reducible refine Kd.C_drewN ?_ _) | (with_reducible refine Kd.C_drew ?_)))
                  (case side8 => exact HC189_2.out)
                  rintro e w11 ⟨rfl, hb⟩
                  refine ⟨_, rfl, ?_⟩
                  have n0_ := Aside0.mk (below_step (belN HB) hb)
                  clear HB
                  have HB := n0_
                  clear n0_
                  (try clear hb)
                  (try clear hb2)
                  (try clear hk)
                  (try clear hi)
                  refine hK.out _ _ ⟨((HB.out.cell (World.block_lt_of_cell? w _ hw188_0)).trans hw188_0), ((HB.out.cell (World.block_lt_of_cell? w _ hw188_1)).trans hw188_1), ((HB.out.cell (World.block_lt_of_cell? w _ hw188_2)).trans hw188_2), ((HB.out.cell (World.block_lt_of_cell? w _ hw188_3)).trans hw188_3), ((HB.out.cell (World.block_lt_of_cell? w _ hw189_0)).trans hw189_0), ((HB.out.cell (World.block_lt_of_cell? w _ hw189_1)).trans hw189_1), ((HB.out.cell (World.block_lt_of_cell? w _ hw189_2)).trans hw189_2), ((HB.out.cell (World.block_lt_of_cell? w _ hw189_3)).trans hw189_3)⟩ (fun hHeld => ?_)
                  clear hK K
                  refine norm_ (a' := ?_) ?_ ?_
                  rotate_left
                  · show Act.put _ (some 24) _ = _
                    simp only [Act.put, List.setIfInBounds_toArray, List.set_cons_zero, List.set_cons_succ, i64_w, i32_w]
                    rfl
                  refine pureA_ 9 25 (bm 10 1023) ?_
                  refine done_ (done_of HT_.out (by kernel_rfl)) ?_
                  try go_wp2
                  go_roundg k1
                  case measure => have := HK1.out; omega
                  case rel => exact ⟨(wrap64 (x13_1 + 1)), (by first | rfl | (simp; done) | (simp [*]; done)), H', ⟨by have := HK1.out; omega⟩, ⟨by repeat (first | (with_reducible first | exact HB.out | apply below_alloc | apply pw_below_drewN | apply below_drew1) | exact HB.out)⟩⟩
                · replace c9 := Bool.eq_false_iff.mpr c9
                  subst c9
                  have H1 : (some false) = some r := by rw [if_neg (show ¬ (false = true) by decide)] at H; exact H
                  clear H
                  have H := H1
                  clear H1
                  obtain rfl := Option.some.inj H
                  try go_wp2
                  have n0_ := Aside0.mk (below_drew1 HB.out)
                  clear HB
                  have HB := n0_
                  clear n0_
                  have p188 : 0 ≤ (x13_1 : Int) := of_decide_eq_true (by first | (with_reducible assumption) | assumption)
                  have q188 : x13_1 < (l0.length : Int) := of_decide_eq_true (by first | (with_reducible assumption) | assumption)
                  obtain ⟨ad188, A188_1, c188_1, A188_2, c188_2, e188, hx188_0, hx188_1, hx188_2, hx188_3, hl188_1, hi188_1, hl188_2, hi188_2⟩ := at_T26 HR0.out x13_1 p188 q188
                  have hw188_3 := hx188_3
                  have hw188_2 := hx188_2
                  have hw188_1 := hx188_1
                  have hw188_0 := hx188_0
                  cases e188
                  replace hx188_0 := (HB.out.cell (World.block_lt_of_cell? w _ hx188_0)).trans hx188_0
                  replace hx188_1 := (HB.out.cell (World.block_lt_of_cell? w _ hx188_1)).trans hx188_1
                  replace hx188_2 := (HB.out.cell (World.block_lt_of_cell? w _ hx188_2)).trans hx188_2
                  replace hx188_3 := (HB.out.cell (World.block_lt_of_cell? w _ hx188_3)).trans hx188_3
                  have HR188_1 := Aside0.mk hi188_1
                  have HC188_1 := Aside0.mk hl188_1
                  clear hi188_1 hl188_1
                  have HR188_2 := Aside0.mk hi188_2
                  have HC188_2 := Aside0.mk hl188_2
                  clear hi188_2 hl188_2
                  replace p188 := eq_true p188
                  replace q188 := eq_true q188
                  have p189 : 0 ≤ (x13_1 : Int) := of_decide_eq_true (by first | (with_reducible assumption) | assumption)
                  have q189 : x13_1 < (l1.length : Int) := of_decide_eq_true (by first | (with_reducible assumption) | assumption)
                  obtain ⟨ad189, A189_1, c189_1, A189_2, c189_2, e189, hx189_0, hx189_1, hx189_2, hx189_3, hl189_1, hi189_1, hl189_2, hi189_2⟩ := at_T26 HR1.out x13_1 p189 q189
                  have hw189_3 := hx189_3
                  have hw189_2 := hx189_2
                  have hw189_1 := hx189_1
                  have hw189_0 := hx189_0
                  cases e189
                  replace hx189_0 := (HB.out.cell (World.block_lt_of_cell? w _ hx189_0)).trans hx189_0
                  replace hx189_1 := (HB.out.cell (World.block_lt_of_cell? w _ hx189_1)).trans hx189_1
                  replace hx189_2 := (HB.out.cell (World.block_lt_of_cell? w _ hx189_2)).trans hx189_2
                  replace hx189_3 := (HB.out.cell (World.block_lt_of_cell? w _ hx189_3)).trans hx189_3
                  have HR189_1 := Aside0.mk hi189_1
                  have HC189_1 := Aside0.mk hl189_1
                  clear hi189_1 hl189_1
                  have HR189_2 := Aside0.mk hi189_2
                  have HC189_2 := Aside0.mk hl189_2
                  clear hi189_2 hl189_2
                  replace p189 := eq_true p189
                  replace q189 := eq_true q189
                  refine start_ (n := 10) (S := fun w' => w'.cell? (ad188.add ((x13_1).toNat * 4)) = some (.int .u64 ((rd_T26 l0 x13_1).f0)) ∧ w'.cell? ⟨(ad188.add ((x13_1).toNat * 4)).block, (ad188.add ((x13_1).toNat * 4)).off + 1, none⟩ = some (.slice A188_1 ((rd_T26 l0 x13_1).f1).length c188_1) ∧ w'.cell? ⟨(ad188.add ((x13_1).toNat * 4)).block, (ad188.add ((x13_1).toNat * 4)).off + 2, none⟩ = some (.slice A188_2 ((rd_T26 l0 x13_1).f2).length c188_2) ∧ w'.cell? ⟨(ad188.add ((x13_1).toNat * 4)).block, (ad188.add ((x13_1).toNat * 4)).off + 3, none⟩ = some (.int .u64 ((rd_T26 l0 x13_1).f3)) ∧ w'.cell? (ad189.add ((x13_1).toNat * 4)) = some (.int .u64 ((rd_T26 l1 x13_1).f0)) ∧ w'.cell? ⟨(ad189.add ((x13_1).toNat * 4)).block, (ad189.add ((x13_1).toNat * 4)).off + 1, none⟩ = some (.slice A189_1 ((rd_T26 l1 x13_1).f1).length c189_1) ∧ w'.cell? ⟨(ad189.add ((x13_1).toNat * 4)).block, (ad189.add ((x13_1).toNat * 4)).off + 2, none⟩ = some (.slice A189_2 ((rd_T26 l1 x13_1).f2).length c189_2) ∧ w'.cell? ⟨(ad189.add ((x13_1).toNat * 4)).block, (ad189.add ((x13_1).toNat * 4)).off + 3, none⟩ = some (.int .u64 ((rd_T26 l1 x13_1).f3))) (ds := []) #[false, false, false, false, false, false, false, false, false, false] (by kernel_rfl) rfl rfl ⟨((HB.out.cell (World.block_lt_of_cell? w _ hw188_0)).trans hw188_0), ((HB.out.cell (World.block_lt_of_cell? w _ hw188_1)).trans hw188_1), ((HB.out.cell (World.block_lt_of_cell? w _ hw188_2)).trans hw188_2), ((HB.out.cell (World.block_lt_of_cell? w _ hw188_3)).trans hw188_3), ((HB.out.cell (World.block_lt_of_cell? w _ hw189_0)).trans hw189_0), ((HB.out.cell (World.block_lt_of_cell? w _ hw189_1)).trans hw189_1), ((HB.out.cell (World.block_lt_of_cell? w _ hw189_2)).trans hw189_2), ((HB.out.cell (World.block_lt_of_cell? w _ hw189_3)).trans hw189_3)⟩ (fun hHeld => ?_); refine with_tabW damsonref14_Same.tab6 damsonref14_Same.bits6 (fun HT_ HW_ => ?_)
                  generalize wr.drew = w12 at HB HR188_1 HR188_2 HR189_1 HR189_2 hx188_0 hx188_1 hx188_2 hx188_3 hx189_0 hx189_1 hx189_2 hx189_3 hHeld ⊢
                  refine pureA_ 0 16 (bm 10 1) ?_
                  refine pureA_ 1 17 (bm 10 3) ?_
                  refine pureA_ 2 18 (bm 10 7) ?_
                  refine pureA_ 4 20 (bm 10 23) ?_
                  refine pureA_ 5 21 (bm 10 55) ?_
                  refine pureA_ 6 22 (bm 10 119) ?_
                  refine take_ (i := 3) (N := some 19) (v := ?_) (a' := ?_) #[true, true, true, true, true, true, true, false, false, false] rfl rfl (take_ofW HT_.out HW_.out (by kernel_rfl)) (fun _ _ _ h => h) (Or.inl ⟨by rfl, ?_⟩) hHeld ?_ ?_
                  rotate_left
                  · rintro w' ⟨s0, s1, s2, s3, s4, s5, s6, s7⟩
                    go_simp
                    with_reducible rfl
                  rotate_left
                  · simp only [Act.put, List.setIfInBounds_toArray, List.set_cons_zero, List.set_cons_succ, i64_w, i32_w]
                    rfl
                  refine take_ (i := 7) (N := some 23) (v := ?_) (a' := ?_) #[true, true, true, true, true, true, true, true, false, false] rfl rfl (take_ofW HT_.out HW_.out (by kernel_rfl)) (fun _ _ _ h => h) (Or.inl ⟨by rfl, ?_⟩) hHeld ?_ ?_
                  rotate_left
                  · rintro w' ⟨s0, s1, s2, s3, s4, s5, s6, s7⟩
                    go_simp
                    with_reducible rfl
                  rotate_left
                  · simp only [Act.put, List.setIfInBounds_toArray, List.set_cons_zero, List.set_cons_succ, i64_w, i32_w]
                    rfl
                  refine one_ (i := 8) (N := some 24) #[true, true, true, true, true, true, true, true, true, false] rfl rfl (one_of HT_.out (by kernel_rfl)) (by decide) (fun K hK => ?_)
                  refine goes_ Try.func29 (by kernel_rfl) rfl #[.agg #[.int .u64 ((rd_T26 l0 x13_1).f0), .slice A188_1 ((rd_T26 l0 x13_1).f1).length c188_1, .slice A188_2 ((rd_T26 l0 x13_1).f2).length c188_2, .int .u64 ((rd_T26 l0 x13_1).f3)], .agg #[.int .u64 ((rd_T26 l1 x13_1).f0), .slice A189_1 ((rd_T26 l1 x13_1).f1).length c189_1, .slice A189_2 ((rd_T26 l1 x13_1).f2).length c189_2, .int .u64 ((rd_T26 l1 x13_1).f3)]] (by rfl) rfl rfl (by (try simp only [List.map_toArray, List.map_cons, List.map_nil]); first | done | rfl | (simp only [List.length_drop, List.length_take]; rfl)) ?_
                  with_reducible refine (damsonref14_one.calls ((rd_T26 l0 x13_1).f0) _ _ ((rd_T26 l0 x13_1).f1) _ _ ((rd_T26 l0 x13_1).f2) ((rd_T26 l0 x13_1).f3) ((rd_T26 l1 x13_1).f0) _ _ ((rd_T26 l1 x13_1).f1) _ _ ((rd_T26 l1 x13_1).f2) ((rd_T26 l1 x13_1).f3) false _ ?side1 ?side2 ?side3 ?side4 ?side5 ?side6 ?side7 ?side8 A8.out).mono ?_
                  (case side1 => repeat (first | exact (Kd.C_below HR188_1.out HB.out) | (with_reducible refine Kd.C_alloc ?_ _) | (with_reducible refine Kd.C_drewN ?_ _) | (with_reducible refine Kd.C_drew ?_)))
                  (case side2 => exact HC188_1.out)
                  (case side3 => repeat (first | exact (Kd.C_below HR188_2.out HB.out) | (with_reducible refine Kd.C_alloc ?_ _) | (with_reducible refine Kd.C_drewN ?_ _) | (with_reducible refine Kd.C_drew ?_)))
                  (case side4 => exact HC188_2.out)
                  (case side5 => repeat (first | exact (Kd.C_below HR189_1.out HB.out) | (with_reducible refine Kd.C_alloc ?_ _) | (with_reducible refine Kd.C_drewN ?_ _) | (with_reducible refine Kd.C_drew ?_)))
                  (case side6 => exact HC189_1.out)
                  (case side7 => repeat (first | exact (Kd.C_below HR189_2.out HB.out) | (with_reducible refine Kd.C_alloc ?_ _) | (with_reducible refine Kd.C_drewN ?_ _) | (with_reducible refine Kd.C_drew ?_)))
                  (case side8 => exact HC189_2.out)
                  rintro e w13 ⟨rfl, hb⟩
                  refine ⟨_, rfl, ?_⟩
                  have n0_ := Aside0.mk (below_step (belN HB) hb)
                  clear HB
                  have HB := n0_
                  clear n0_
                  (try clear hb)
                  (try clear hb2)
                  (try clear hk)
                  (try clear hi)
                  refine hK.out _ _ ⟨((HB.out.cell (World.block_lt_of_cell? w _ hw188_0)).trans hw188_0), ((HB.out.cell (World.block_lt_of_cell? w _ hw188_1)).trans hw188_1), ((HB.out.cell (World.block_lt_of_cell? w _ hw188_2)).trans hw188_2), ((HB.out.cell (World.block_lt_of_cell? w _ hw188_3)).trans hw188_3), ((HB.out.cell (World.block_lt_of_cell? w _ hw189_0)).trans hw189_0), ((HB.out.cell (World.block_lt_of_cell? w _ hw189_1)).trans hw189_1), ((HB.out.cell (World.block_lt_of_cell? w _ hw189_2)).trans hw189_2), ((HB.out.cell (World.block_lt_of_cell? w _ hw189_3)).trans hw189_3)⟩ (fun hHeld => ?_)
                  clear hK K
                  refine norm_ (a' := ?_) ?_ ?_
                  rotate_left
                  · show Act.put _ (some 24) _ = _
                    simp only [Act.put, List.setIfInBounds_toArray, List.set_cons_zero, List.set_cons_succ, i64_w, i32_w]
                    rfl
                  refine pureA_ 9 25 (bm 10 1023) ?_
                  refine done_ (done_of HT_.out (by kernel_rfl)) ?_
                  try go_wp2
                  go_ret
                  exact ⟨by first | rfl | (simp [errW_none, errW_some] <;> rfl) | (simp [*, errW_none, errW_some] <;> rfl), by repeat (first | (with_reducible first | exact HB.out | apply below_alloc | apply pw_below_drewN | apply below_drew1) | exact HB.out)⟩
              · rw [if_neg c7] at H
                exact absurd H (by simp)
            · rw [if_neg c6] at H
              exact absurd H (by simp)
          · rw [if_neg c5] at H
            exact absurd H (by simp)
        · rw [if_neg c4] at H
          have c4b0 : decide (x13_1 < (l0.length : Int)) = false := decide_eq_false c4
          clear c4
          obtain rfl := Option.some.inj H
          go_wp2
          go_ret
          exact ⟨by first | rfl | (simp [errW_none, errW_some] <;> rfl) | (simp [*, errW_none, errW_some] <;> rfl), by repeat (first | (with_reducible first | exact HB.out | apply below_alloc | apply pw_below_drewN | apply below_drew1) | exact HB.out)⟩
  · rw [if_neg c3] at H
    have c3b0 : ((l0.length : Int) == (l1.length : Int)) = false := beq_eq_false_iff_ne.mpr c3
    have c3b1 : ((l0.length : Int) != (l1.length : Int)) = true := bne_iff_ne.mpr c3
    have c3b2 : (l0.length == l1.length) = false := by first | simpa using c3 | (simp at c3 ⊢; omega)
    obtain rfl := Option.some.inj H
    go_enter Try.func19, Try.ntmps19
    go_wp2
    go_ret
    exact ⟨by first | rfl | (simp [errW_none, errW_some] <;> rfl) | (simp [*, errW_none, errW_some] <;> rfl), by repeat (first | (with_reducible first | exact HB.out | apply below_alloc | apply pw_below_drewN | apply below_drew1) | exact HB.out)⟩

-- NOT PRINTED: function 31 (slices_EqualFunc_Key)

/-! ### idem_one: function 32 -/
def idem_one.f (a0_0 : Int) (l0_1 : List Int) (l0_2 : List Int) (a0_3 : Int) (a1_0 : Int) (l1_1 : List Int) (l1_2 : List Int) (a1_3 : Int) : Option (Bool) := if a0_0 = a1_0 then (if a0_3 = a1_3 then ((bytes_Equal.f l0_1 l1_1).bind fun t193 => (if t193 = true then ((bytes_Equal.f l0_2 l1_2).bind fun t194 => (some t194)) else (some false))) else (some false)) else (some false)
set_option maxHeartbeats 8000000 in
set_option maxRecDepth 100000 in
theorem idem_one.calls (a0_0 : Int) (A0_1 : Option Addr) (c0_1 : Nat) (l0_1 : List Int) (A0_2 : Option Addr) (c0_2 : Nat) (l0_2 : List Int) (a0_3 : Int) (a1_0 : Int) (A1_1 : Option Addr) (c1_1 : Nat) (l1_1 : List Int) (A1_2 : Option Addr) (c1_2 : Nat) (l1_2 : List Int) (a1_3 : Int) (r : Bool) (w : World) (hr0_1 : Kd.C (Kd.int .u8) w A0_1 l0_1.length l0_1) (hc0_1 : l0_1.length ≤ c0_1) (hr0_2 : Kd.C (Kd.int .u8) w A0_2 l0_2.length l0_2) (hc0_2 : l0_2.length ≤ c0_2) (hr1_1 : Kd.C (Kd.int .u8) w A1_1 l1_1.length l1_1) (hc1_1 : l1_1.length ≤ c1_1) (hr1_2 : Kd.C (Kd.int .u8) w A1_2 l1_2.length l1_2) (hc1_2 : l1_2.length ≤ c1_2) (h : idem_one.f a0_0 l0_1 l0_2 a0_3 a1_0 l1_1 l1_2 a1_3 = some r) :
    Calls Try.prog 32 #[.agg #[.int .u64 a0_0, .slice A0_1 l0_1.length c0_1, .slice A0_2 l0_2.length c0_2, .int .u64 a0_3], .agg #[.int .u64 a1_0, .slice A1_1 l1_1.length c1_1, .slice A1_2 l1_2.length c1_2, .int .u64 a1_3]] w fun e w' => e = .returned (.bool r) ∧ Below w.heap.size w w' := by
  have hu26 := Try.underlying26
  have HR0_1 := Aside0.mk hr0_1
  have HC0_1 := Aside0.mk hc0_1
  clear hr0_1 hc0_1
  have HR0_2 := Aside0.mk hr0_2
  have HC0_2 := Aside0.mk hc0_2
  clear hr0_2 hc0_2
  have HR1_1 := Aside0.mk hr1_1
  have HC1_1 := Aside0.mk hc1_1
  clear hr1_1 hc1_1
  have HR1_2 := Aside0.mk hr1_2
  have HC1_2 := Aside0.mk hc1_2
  clear hr1_2 hc1_2
  have HB := Aside0.mk (Below.refl w.heap.size w)
  have H : (if a0_0 = a1_0 then (if a0_3 = a1_3 then ((bytes_Equal.f l0_1 l1_1).bind fun t193 => (if t193 = true then ((bytes_Equal.f l0_2 l1_2).bind fun t194 => (some t194)) else (some false))) else (some false)) else (some false)) = some r := h
  clear h
  by_cases c3 : a0_0 = a1_0
  · rw [if_pos c3] at H
    have c3b0 : (a0_0 == a1_0) = true := beq_iff_eq.mpr c3
    have c3b1 : (a0_0 != a1_0) = false := bne_eq_false_iff_eq.mpr c3
    clear c3
    by_cases c4 : a0_3 = a1_3
    · rw [if_pos c4] at H
      have c4b0 : (a0_3 == a1_3) = true := beq_iff_eq.mpr c4
      have c4b1 : (a0_3 != a1_3) = false := bne_eq_false_iff_eq.mpr c4
      clear c4
      replace H := Option.bind_eq_some_iff.mp H
      obtain ⟨t193, A50, H⟩ := H
      replace H : (if t193 = true then ((bytes_Equal.f l0_2 l1_2).bind fun t194 => (some t194)) else (some false)) = some r := H
      have A5 := Aside0.mk A50
      clear A50
      by_cases c6 : t193 = true
      · subst c6
        have H1 : ((bytes_Equal.f l0_2 l1_2).bind fun t194 => (some t194)) = some r := by rw [if_pos rfl] at H; exact H
        clear H
        have H := H1
        clear H1
        replace H := Option.bind_eq_some_iff.mp H
        obtain ⟨t194, A70, H⟩ := H
        replace H : (some t194) = some r := H
        have A7 := Aside0.mk A70
        clear A70
        obtain rfl := Option.some.inj H
        go_enter Try.func32, Try.ntmps32
        go_wp2_with (first | ((with_reducible refine gate_dst (N := 2) rfl ?_); refine box_event ?hg (N := 2) ?hd (cs := #[.int .u64 a0_0, .slice A0_1 l0_1.length c0_1, .slice A0_2 l0_2.length c0_2, .int .u64 a0_3]) (t := 26) ?hr ?_; (case hd => rfl); (case hg => rfl); (case hr => first | (go_simp; done) | (go_simp; rfl)); intro gb191 hg w8 hbox hb; have n0_ := Aside0.mk (below_step (belN HB) hb); have n1_ := Aside0.mk (hbox); have n2_ := Aside0.mk ((by rw [hg]; exact (below_size (belN HB)) : w.heap.size ≤ gb191)); have n3_ := Aside0.mk ((by rw [hg]; exact (below_size (belN HB)) : w.heap.size ≤ gb191)); clear HB; have HB := n0_; have BK191 := n1_; have GW191 := n2_; have GE191 := n3_; clear n0_ n1_ n2_ n3_; clear hb hbox hg) | ((with_reducible refine gate_dst (N := 3) rfl ?_); refine box_event ?hg (N := 3) ?hd (cs := #[.int .u64 a1_0, .slice A1_1 l1_1.length c1_1, .slice A1_2 l1_2.length c1_2, .int .u64 a1_3]) (t := 26) ?hr ?_; (case hd => rfl); (case hg => rfl); (case hr => first | (go_simp; done) | (go_simp; rfl)); intro gb192 hg w9 hbox hb; have n0_ := Aside0.mk (blk_below (g := gb191) (blkN BK191) hb); have n1_ := Aside0.mk (below_step (belN HB) hb); have n2_ := Aside0.mk (hbox); have n3_ := Aside0.mk ((by rw [hg]; exact (below_size (belN HB)) : w.heap.size ≤ gb192)); have n4_ := Aside0.mk ((by rw [hg]; exact (below_size (belN HB)) : w.heap.size ≤ gb192)); have n5_ := Aside0.mk ((by rw [hg]; exact Nat.ne_of_lt (blk_lt (g := gb191) (blkN BK191)) : gb191 ≠ gb192)); have n6_ := Aside0.mk ((by rw [hg]; exact Nat.ne_of_gt (blk_lt (g := gb191) (blkN BK191)) : gb192 ≠ gb191)); clear BK191; clear HB; have BK191 := n0_; have HB := n1_; have BK192 := n2_; have GW192 := n3_; have GE192 := n4_; have NB191_192 := n5_; have NB192_191 := n6_; clear n0_ n1_ n2_ n3_ n4_ n5_ n6_; clear hb hbox hg; have hnb10 := NB191_192.out; have hnc10 := NB192_191.out; obtain ⟨hcz11_0, hcz11_1, hcz11_2, hcz11_3, hfz11_0, hfz11_1, hfz11_2, hfz11_3⟩ := cz4_ (w := w9) BK191.out; obtain ⟨hcz12_0, hcz12_1, hcz12_2, hcz12_3, hfz12_0, hfz12_1, hfz12_2, hfz12_3⟩ := cz4_ (w := w9) BK192.out) | (go_at_call 28; (with_reducible refine (bytes_Equal.calls _ _ l0_1 _ _ l1_1 true _ ?side1 ?side2 ?side3 ?side4 A5.out).mono ?_); (case side1 => repeat (first | exact (Kd.C_below HR0_1.out HB.out) | (with_reducible refine Kd.C_alloc ?_ _) | (with_reducible refine Kd.C_drewN ?_ _) | (with_reducible refine Kd.C_drew ?_))); (case side2 => exact HC0_1.out); (case side3 => repeat (first | exact (Kd.C_below HR1_1.out HB.out) | (with_reducible refine Kd.C_alloc ?_ _) | (with_reducible refine Kd.C_drewN ?_ _) | (with_reducible refine Kd.C_drew ?_))); (case side4 => exact HC1_1.out); rintro e w' ⟨rfl, ⟨nd, rfl⟩⟩) | (go_at_call 28; (with_reducible refine (bytes_Equal.calls _ _ l0_2 _ _ l1_2 t194 _ ?side1 ?side2 ?side3 ?side4 A7.out).mono ?_); (case side1 => repeat (first | exact (Kd.C_below HR0_2.out (belN HB)) | (with_reducible refine Kd.C_alloc ?_ _) | (with_reducible refine Kd.C_drewN ?_ _) | (with_reducible refine Kd.C_drew ?_))); (case side2 => exact HC0_2.out); (case side3 => repeat (first | exact (Kd.C_below HR1_2.out (belN HB)) | (with_reducible refine Kd.C_alloc ?_ _) | (with_reducible refine Kd.C_drewN ?_ _) | (with_reducible refine Kd.C_drew ?_))); (case side4 => exact HC1_2.out); rintro e w' ⟨rfl, ⟨nd, rfl⟩⟩))
        go_ret
        exact ⟨by first | rfl | (simp [errW_none, errW_some] <;> rfl) | (simp [*, errW_none, errW_some] <;> rfl), by repeat (first | (with_reducible first | exact HB.out | apply below_alloc | apply pw_below_drewN | apply below_drew1 | refine below_set ?_ GE191.out | refine below_set ?_ GE192.out) | exact HB.out)⟩
      · replace c6 := Bool.eq_false_iff.mpr c6
        subst c6
        have H1 : (some false) = some r := by rw [if_neg (show ¬ (false = true) by decide)] at H; exact H
        clear H
        have H := H1
        clear H1
        obtain rfl := Option.some.inj H
        go_enter Try.func32, Try.ntmps32
        go_wp2_with (first | ((with_reducible refine gate_dst (N := 2) rfl ?_); refine box_event ?hg (N := 2) ?hd (cs := #[.int .u64 a0_0, .slice A0_1 l0_1.length c0_1, .slice A0_2 l0_2.length c0_2, .int .u64 a0_3]) (t := 26) ?hr ?_; (case hd => rfl); (case hg => rfl); (case hr => first | (go_simp; done) | (go_simp; rfl)); intro gb191 hg w13 hbox hb; have n0_ := Aside0.mk (below_step (belN HB) hb); have n1_ := Aside0.mk (hbox); have n2_ := Aside0.mk ((by rw [hg]; exact (below_size (belN HB)) : w.heap.size ≤ gb191)); have n3_ := Aside0.mk ((by rw [hg]; exact (below_size (belN HB)) : w.heap.size ≤ gb191)); clear HB; have HB := n0_; have BK191 := n1_; have GW191 := n2_; have GE191 := n3_; clear n0_ n1_ n2_ n3_; clear hb hbox hg) | ((with_reducible refine gate_dst (N := 3) rfl ?_); refine box_event ?hg (N := 3) ?hd (cs := #[.int .u64 a1_0, .slice A1_1 l1_1.length c1_1, .slice A1_2 l1_2.length c1_2, .int .u64 a1_3]) (t := 26) ?hr ?_; (case hd => rfl); (case hg => rfl); (case hr => first | (go_simp; done) | (go_simp; rfl)); intro gb192 hg w14 hbox hb; have n0_ := Aside0.mk (blk_below (g := gb191) (blkN BK191) hb); have n1_ := Aside0.mk (below_step (belN HB) hb); have n2_ := Aside0.mk (hbox); have n3_ := Aside0.mk ((by rw [hg]; exact (below_size (belN HB)) : w.heap.size ≤ gb192)); have n4_ := Aside0.mk ((by rw [hg]; exact (below_size (belN HB)) : w.heap.size ≤ gb192)); have n5_ := Aside0.mk ((by rw [hg]; exact Nat.ne_of_lt (blk_lt (g := gb191) (blkN BK191)) : gb191 ≠ gb192)); have n6_ := Aside0.mk ((by rw [hg]; exact Nat.ne_of_gt (blk_lt (g := gb191) (blkN BK191)) : gb192 ≠ gb191)); clear BK191; clear HB; have BK191 := n0_; have HB := n1_; have BK192 := n2_; have GW192 := n3_; have GE192 := n4_; have NB191_192 := n5_; have NB192_191 := n6_; clear n0_ n1_ n2_ n3_ n4_ n5_ n6_; clear hb hbox hg; have hnb15 := NB191_192.out; have hnc15 := NB192_191.out; obtain ⟨hcz16_0, hcz16_1, hcz16_2, hcz16_3, hfz16_0, hfz16_1, hfz16_2, hfz16_3⟩ := cz4_ (w := w14) BK191.out; obtain ⟨hcz17_0, hcz17_1, hcz17_2, hcz17_3, hfz17_0, hfz17_1, hfz17_2, hfz17_3⟩ := cz4_ (w := w14) BK192.out) | (go_at_call 28; (with_reducible refine (bytes_Equal.calls _ _ l0_1 _ _ l1_1 false _ ?side1 ?side2 ?side3 ?side4 A5.out).mono ?_); (case side1 => repeat (first | exact (Kd.C_below HR0_1.out HB.out) | (with_reducible refine Kd.C_alloc ?_ _) | (with_reducible refine Kd.C_drewN ?_ _) | (with_reducible refine Kd.C_drew ?_))); (case side2 => exact HC0_1.out); (case side3 => repeat (first | exact (Kd.C_below HR1_1.out HB.out) | (with_reducible refine Kd.C_alloc ?_ _) | (with_reducible refine Kd.C_drewN ?_ _) | (with_reducible refine Kd.C_drew ?_))); (case side4 => exact HC1_1.out); rintro e w' ⟨rfl, ⟨nd, rfl⟩⟩))
        go_ret
        exact ⟨by first | rfl | (simp [errW_none, errW_some] <;> rfl) | (simp [*, errW_none, errW_some] <;> rfl), by repeat (first | (with_reducible first | exact HB.out | apply below_alloc | apply pw_below_drewN | apply below_drew1 | refine below_set ?_ GE191.out | refine below_set ?_ GE192.out) | exact HB.out)⟩
    · rw [if_neg c4] at H
      have c4b0 : (a0_3 == a1_3) = false := beq_eq_false_iff_ne.mpr c4
      have c4b1 : (a0_3 != a1_3) = true := bne_iff_ne.mpr c4
      obtain rfl := Option.some.inj H
      go_enter Try.func32, Try.ntmps32
      go_wp2_with (first | ((with_reducible refine gate_dst (N := 2) rfl ?_); refine box_event ?hg (N := 2) ?hd (cs := #[.int .u64 a0_0, .slice A0_1 l0_1.length c0_1, .slice A0_2 l0_2.length c0_2, .int .u64 a0_3]) (t := 26) ?hr ?_; (case hd => rfl); (case hg => rfl); (case hr => first | (go_simp; done) | (go_simp; rfl)); intro gb191 hg w18 hbox hb; have n0_ := Aside0.mk (below_step (belN HB) hb); have n1_ := Aside0.mk (hbox); have n2_ := Aside0.mk ((by rw [hg]; exact (below_size (belN HB)) : w.heap.size ≤ gb191)); have n3_ := Aside0.mk ((by rw [hg]; exact (below_size (belN HB)) : w.heap.size ≤ gb191)); clear HB; have HB := n0_; have BK191 := n1_; have GW191 := n2_; have GE191 := n3_; clear n0_ n1_ n2_ n3_; clear hb hbox hg) | ((with_reducible refine gate_dst (N := 3) rfl ?_); refine box_event ?hg (N := 3) ?hd (cs := #[.int .u64 a1_0, .slice A1_1 l1_1.length c1_1, .slice A1_2 l1_2.length c1_2, .int .u64 a1_3]) (t := 26) ?hr ?_; (case hd => rfl); (case hg => rfl); (case hr => first | (go_simp; done) | (go_simp; rfl)); intro gb192 hg w19 hbox hb; have n0_ := Aside0.mk (blk_below (g := gb191) (blkN BK191) hb); have n1_ := Aside0.mk (below_step (belN HB) hb); have n2_ := Aside0.mk (hbox); have n3_ := Aside0.mk ((by rw [hg]; exact (below_size (belN HB)) : w.heap.size ≤ gb192)); have n4_ := Aside0.mk ((by rw [hg]; exact (below_size (belN HB)) : w.heap.size ≤ gb192)); have n5_ := Aside0.mk ((by rw [hg]; exact Nat.ne_of_lt (blk_lt (g := gb191) (blkN BK191)) : gb191 ≠ gb192)); have n6_ := Aside0.mk ((by rw [hg]; exact Nat.ne_of_gt (blk_lt (g := gb191) (blkN BK191)) : gb192 ≠ gb191)); clear BK191; clear HB; have BK191 := n0_; have HB := n1_; have BK192 := n2_; have GW192 := n3_; have GE192 := n4_; have NB191_192 := n5_; have NB192_191 := n6_; clear n0_ n1_ n2_ n3_ n4_ n5_ n6_; clear hb hbox hg; have hnb20 := NB191_192.out; have hnc20 := NB192_191.out; obtain ⟨hcz21_0, hcz21_1, hcz21_2, hcz21_3, hfz21_0, hfz21_1, hfz21_2, hfz21_3⟩ := cz4_ (w := w19) BK191.out; obtain ⟨hcz22_0, hcz22_1, hcz22_2, hcz22_3, hfz22_0, hfz22_1, hfz22_2, hfz22_3⟩ := cz4_ (w := w19) BK192.out))
      go_ret
      exact ⟨by first | rfl | (simp [errW_none, errW_some] <;> rfl) | (simp [*, errW_none, errW_some] <;> rfl), by repeat (first | (with_reducible first | exact HB.out | apply below_alloc | apply pw_below_drewN | apply below_drew1 | refine below_set ?_ GE191.out | refine below_set ?_ GE192.out) | exact HB.out)⟩
  · rw [if_neg c3] at H
    have c3b0 : (a0_0 == a1_0) = false := beq_eq_false_iff_ne.mpr c3
    have c3b1 : (a0_0 != a1_0) = true := bne_iff_ne.mpr c3
    obtain rfl := Option.some.inj H
    go_enter Try.func32, Try.ntmps32
    go_wp2_with (first | ((with_reducible refine gate_dst (N := 2) rfl ?_); refine box_event ?hg (N := 2) ?hd (cs := #[.int .u64 a0_0, .slice A0_1 l0_1.length c0_1, .slice A0_2 l0_2.length c0_2, .int .u64 a0_3]) (t := 26) ?hr ?_; (case hd => rfl); (case hg => rfl); (case hr => first | (go_simp; done) | (go_simp; rfl)); intro gb191 hg w23 hbox hb; have n0_ := Aside0.mk (below_step (belN HB) hb); have n1_ := Aside0.mk (hbox); have n2_ := Aside0.mk ((by rw [hg]; exact (below_size (belN HB)) : w.heap.size ≤ gb191)); have n3_ := Aside0.mk ((by rw [hg]; exact (below_size (belN HB)) : w.heap.size ≤ gb191)); clear HB; have HB := n0_; have BK191 := n1_; have GW191 := n2_; have GE191 := n3_; clear n0_ n1_ n2_ n3_; clear hb hbox hg) | ((with_reducible refine gate_dst (N := 3) rfl ?_); refine box_event ?hg (N := 3) ?hd (cs := #[.int .u64 a1_0, .slice A1_1 l1_1.length c1_1, .slice A1_2 l1_2.length c1_2, .int .u64 a1_3]) (t := 26) ?hr ?_; (case hd => rfl); (case hg => rfl); (case hr => first | (go_simp; done) | (go_simp; rfl)); intro gb192 hg w24 hbox hb; have n0_ := Aside0.mk (blk_below (g := gb191) (blkN BK191) hb); have n1_ := Aside0.mk (below_step (belN HB) hb); have n2_ := Aside0.mk (hbox); have n3_ := Aside0.mk ((by rw [hg]; exact (below_size (belN HB)) : w.heap.size ≤ gb192)); have n4_ := Aside0.mk ((by rw [hg]; exact (below_size (belN HB)) : w.heap.size ≤ gb192)); have n5_ := Aside0.mk ((by rw [hg]; exact Nat.ne_of_lt (blk_lt (g := gb191) (blkN BK191)) : gb191 ≠ gb192)); have n6_ := Aside0.mk ((by rw [hg]; exact Nat.ne_of_gt (blk_lt (g := gb191) (blkN BK191)) : gb192 ≠ gb191)); clear BK191; clear HB; have BK191 := n0_; have HB := n1_; have BK192 := n2_; have GW192 := n3_; have GE192 := n4_; have NB191_192 := n5_; have NB192_191 := n6_; clear n0_ n1_ n2_ n3_ n4_ n5_ n6_; clear hb hbox hg; have hnb25 := NB191_192.out; have hnc25 := NB192_191.out; obtain ⟨hcz26_0, hcz26_1, hcz26_2, hcz26_3, hfz26_0, hfz26_1, hfz26_2, hfz26_3⟩ := cz4_ (w := w24) BK191.out; obtain ⟨hcz27_0, hcz27_1, hcz27_2, hcz27_3, hfz27_0, hfz27_1, hfz27_2, hfz27_3⟩ := cz4_ (w := w24) BK192.out))
    go_ret
    exact ⟨by first | rfl | (simp [errW_none, errW_some] <;> rfl) | (simp [*, errW_none, errW_some] <;> rfl), by repeat (first | (with_reducible first | exact HB.out | apply below_alloc | apply pw_below_drewN | apply below_drew1 | refine below_set ?_ GE191.out | refine below_set ?_ GE192.out) | exact HB.out)⟩

/-! ### slices_EqualFunc_Key_at_idem_one: function 59 -/
def slices_EqualFunc_Key_at_idem_one.l0 : Nat → List (S26) → List (S26) → Int → Int → Option (Bool)
  | 0, _, _, _, _ => none
  | k + 1, x1, x15, x16, x17 => if x17 < x16 then (if 0 ≤ x17 then (if x17 < (x15.length : Int) then (if x17 < (x1.length : Int) then ((idem_one.f ((rd_T26 x15 x17).f0) ((rd_T26 x15 x17).f1) ((rd_T26 x15 x17).f2) ((rd_T26 x15 x17).f3) ((rd_T26 x1 x17).f0) ((rd_T26 x1 x17).f1) ((rd_T26 x1 x17).f2) ((rd_T26 x1 x17).f3)).bind fun t199 => (if t199 = true then (slices_EqualFunc_Key_at_idem_one.l0 k x1 x15 x16 (wrap64 (x17 + 1))) else (some false))) else (none)) else (none)) else (none)) else (some true)
def slices_EqualFunc_Key_at_idem_one.f (k : Nat) (l0 : List (S26)) (l1 : List (S26))  : Option (Bool) := if (l0.length : Int) = (l1.length : Int) then (slices_EqualFunc_Key_at_idem_one.l0 k l1 l0 (l0.length : Int) 0) else (some false)
theorem slices_EqualFunc_Key_at_idem_one.mono_l : ∀ k, (∀ y0 y1 y2 y3, LeO (slices_EqualFunc_Key_at_idem_one.l0 k y0 y1 y2 y3) (slices_EqualFunc_Key_at_idem_one.l0 (k + 1) y0 y1 y2 y3))
  | 0 => fun _ _ _ _ r h => by simp [slices_EqualFunc_Key_at_idem_one.l0] at h
  | k + 1 => by
    have ih0 := slices_EqualFunc_Key_at_idem_one.mono_l k
    · intro y0 y1 y2 y3
      unfold slices_EqualFunc_Key_at_idem_one.l0
      repeat' first
      | (with_reducible exact ih0 _ _ _ _)
      | (with_reducible exact LeO.refl _)
      | (with_reducible exact LeO.none _)
      | (with_reducible refine LeO.ite ?_ ?_)
      | (with_reducible refine LeO.bind ?_ (fun _ => ?_))
      | exact ih0 _ _ _ _
      | exact LeO.none _
      | refine LeO.ite ?_ ?_
      | refine LeO.bind ?_ (fun _ => ?_)
theorem slices_EqualFunc_Key_at_idem_one.mono : ∀ a0 a1 k, LeO (slices_EqualFunc_Key_at_idem_one.f k a0 a1) (slices_EqualFunc_Key_at_idem_one.f (k + 1) a0 a1) := by
  intro a0 a1 k
  have ih0 := slices_EqualFunc_Key_at_idem_one.mono_l k
  unfold slices_EqualFunc_Key_at_idem_one.f
  repeat' first
      | (with_reducible exact ih0 _ _ _ _)
      | (with_reducible exact LeO.refl _)
      | (with_reducible exact LeO.none _)
      | (with_reducible refine LeO.ite ?_ ?_)
      | (with_reducible refine LeO.bind ?_ (fun _ => ?_))
      | exact ih0 _ _ _ _
      | exact LeO.none _
      | refine LeO.ite ?_ ?_
      | refine LeO.bind ?_ (fun _ => ?_)
set_option maxHeartbeats 8000000 in
set_option maxRecDepth 100000 in
theorem slices_EqualFunc_Key_at_idem_one.calls (k : Nat) (A0 : Option Addr) (c0 : Nat) (l0 : List (S26)) (A1 : Option Addr) (c1 : Nat) (l1 : List (S26))  (r : Bool) (w : World) (hr0 : Kd.C k26 w A0 l0.length l0) (hc0 : l0.length ≤ c0) (hr1 : Kd.C k26 w A1 l1.length l1) (hc1 : l1.length ≤ c1) (h : slices_EqualFunc_Key_at_idem_one.f k l0 l1 = some r) :
    Calls Try.prog 31 #[.slice A0 l0.length c0, .slice A1 l1.length c1, .func (.func 32) #[] #[]] w fun e w' => e = .returned (.bool r) ∧ Below w.heap.size w w' := by
  have hu26 := Try.underlying26
  have HR0 := Aside0.mk hr0
  have HC0 := Aside0.mk hc0
  clear hr0 hc0
  have HR1 := Aside0.mk hr1
  have HC1 := Aside0.mk hc1
  clear hr1 hc1
  have HB := Aside0.mk (Below.refl w.heap.size w)
  have H : (if (l0.length : Int) = (l1.length : Int) then (slices_EqualFunc_Key_at_idem_one.l0 k l1 l0 (l0.length : Int) 0) else (some false)) = some r := h
  clear h
  by_cases c4 : (l0.length : Int) = (l1.length : Int)
  · rw [if_pos c4] at H
    have c4b0 : ((l0.length : Int) == (l1.length : Int)) = true := beq_iff_eq.mpr c4
    have c4b1 : ((l0.length : Int) != (l1.length : Int)) = false := bne_eq_false_iff_eq.mpr c4
    have c4b2 : (l0.length == l1.length) = true := by first | simpa using c4 | (simp at c4 ⊢; omega)
    clear c4
    have H' := Aside0.mk H
    clear H
    go_enter Try.func31, Try.ntmps31
    go_wp2
    go_loopg [17] k (fun kq v17 w' => ∃ (x17_1 : Int), v17 = .int .i64 x17_1 ∧ Aside0 (slices_EqualFunc_Key_at_idem_one.l0 kq l1 l0 (l0.length : Int) x17_1 = some r) ∧ Aside0 (kq ≤ k) ∧ Aside0 (Below w.heap.size w w'))
    case atStart => exact ⟨(0), (by first | rfl | (simp; done) | (simp [*]; done)), H', ⟨Nat.le_refl _⟩, ⟨by repeat (first | (with_reducible first | exact HB.out | apply below_alloc | apply pw_below_drewN | apply below_drew1) | exact HB.out)⟩⟩
    case round =>
      clear H'
      try clear c1
      try clear p2
      try clear c3
      try clear c4
      try clear c4b0
      try clear c4b1
      try clear c4b2
      obtain ⟨x17_1, rfl, HA, HK1, HB⟩ := hrel
      cases gk with
      | zero => exact absurd HA.out (by simp [slices_EqualFunc_Key_at_idem_one.l0])
      | succ k1 =>
        have H := HA.out
        clear HA
        simp only [slices_EqualFunc_Key_at_idem_one.l0] at H
        by_cases c5 : x17_1 < (l0.length : Int)
        · rw [if_pos c5] at H
          have c5b0 : decide (x17_1 < (l0.length : Int)) = true := decide_eq_true c5
          clear c5
          by_cases c6 : 0 ≤ x17_1
          · rw [if_pos c6] at H
            have c6b0 : decide (0 ≤ x17_1) = true := decide_eq_true c6
            clear c6
            by_cases c7 : x17_1 < (l0.length : Int)
            · rw [if_pos c7] at H
              have c7b0 : decide (x17_1 < (l0.length : Int)) = true := decide_eq_true c7
              clear c7
              by_cases c8 : x17_1 < (l1.length : Int)
              · rw [if_pos c8] at H
                have c8b0 : decide (x17_1 < (l1.length : Int)) = true := decide_eq_true c8
                clear c8
                replace H := Option.bind_eq_some_iff.mp H
                obtain ⟨t199, A90, H⟩ := H
                replace H : (if t199 = true then (slices_EqualFunc_Key_at_idem_one.l0 k1 l1 l0 (l0.length : Int) (wrap64 (x17_1 + 1))) else (some false)) = some r := H
                have A9 := Aside0.mk A90
                clear A90
                by_cases c10 : t199 = true
                · subst c10
                  have H1 : (slices_EqualFunc_Key_at_idem_one.l0 k1 l1 l0 (l0.length : Int) (wrap64 (x17_1 + 1))) = some r := by rw [if_pos rfl] at H; exact H
                  clear H
                  have H := H1
                  clear H1
                  have H' := Aside0.mk H
                  clear H
                  have p195 : 0 ≤ (x17_1 : Int) := of_decide_eq_true (by first | (with_reducible assumption) | assumption)
                  have q195 : x17_1 < (l0.length : Int) := of_decide_eq_true (by first | (with_reducible assumption) | assumption)
                  obtain ⟨ad195, A195_1, c195_1, A195_2, c195_2, e195, hx195_0, hx195_1, hx195_2, hx195_3, hl195_1, hi195_1, hl195_2, hi195_2⟩ := at_T26 HR0.out x17_1 p195 q195
                  cases e195
                  replace hx195_0 := (HB.out.cell (World.block_lt_of_cell? w _ hx195_0)).trans hx195_0
                  replace hx195_1 := (HB.out.cell (World.block_lt_of_cell? w _ hx195_1)).trans hx195_1
                  replace hx195_2 := (HB.out.cell (World.block_lt_of_cell? w _ hx195_2)).trans hx195_2
                  replace hx195_3 := (HB.out.cell (World.block_lt_of_cell? w _ hx195_3)).trans hx195_3
                  have HR195_1 := Aside0.mk hi195_1
                  have HC195_1 := Aside0.mk hl195_1
                  clear hi195_1 hl195_1
                  have HR195_2 := Aside0.mk hi195_2
                  have HC195_2 := Aside0.mk hl195_2
                  clear hi195_2 hl195_2
                  replace p195 := eq_true p195
                  replace q195 := eq_true q195
                  go_wp2_with (first | ((with_reducible refine gate_dst (N := 8) rfl ?_); refine box_event ?hg (N := 8) ?hd (cs := #[.int .u64 0, .slice none 0 0, .slice none 0 0, .int .u64 0]) (t := 26) ?hr ?_; (case hd => rfl); (case hg => rfl); (case hr => first | (go_simp; done) | (go_simp; rfl)); intro gb196 hg w11 hbox hb; have n0_ := Aside0.mk (below_step (belN HB) hb); have n1_ := Aside0.mk (hbox); have n2_ := Aside0.mk ((by rw [hg]; exact (below_size (belN HB)) : w.heap.size ≤ gb196)); have n3_ := Aside0.mk ((by rw [hg]; exact (below_size (belN HB)) : w.heap.size ≤ gb196)); clear HB; have HB := n0_; have BK196 := n1_; have GW196 := n2_; have GE196 := n3_; clear n0_ n1_ n2_ n3_; clear hb hbox hg; obtain ⟨hcz12_0, hcz12_1, hcz12_2, hcz12_3, hfz12_0, hfz12_1, hfz12_2, hfz12_3⟩ := cz4_ (w := w11) BK196.out) | ((with_reducible refine gate_store (t := 26) (p := 8) rfl ?_); refine store_event (t := 26) (p := 8) (v := ?vo_w13) (w1 := ((((w11.setCell ⟨gb196, 0, none⟩ (.int .u64 ((rd_T26 l0 x17_1).f0))).setCell ⟨gb196, 1, none⟩ (.slice A195_1 ((rd_T26 l0 x17_1).f1).length c195_1)).setCell ⟨gb196, 2, none⟩ (.slice A195_2 ((rd_T26 l0 x17_1).f2).length c195_2)).setCell ⟨gb196, 3, none⟩ (.int .u64 ((rd_T26 l0 x17_1).f3)))) ?hg ?ho ?hn ?hr ?_; (case ho => rfl); (case hg => rfl); (case hn => rfl); (case hr => first | (go_simp; done) | (go_simp; rfl)); intro w13 hw; have n0_ : Aside0 (w13.heap[gb196]? = some (.cells #[.int .u64 ((rd_T26 l0 x17_1).f0), .slice A195_1 ((rd_T26 l0 x17_1).f1).length c195_1, .slice A195_2 ((rd_T26 l0 x17_1).f2).length c195_2, .int .u64 ((rd_T26 l0 x17_1).f3)] 26 (0, 0))) := ⟨(by rw [hw]; exact (by (with_reducible repeat (first | refine blk_drewN ?_ _ | refine blk_drew ?_ | refine blk_alloc ?_ _)); refine blk_put (cs := #[.int .u64 ((rd_T26 l0 x17_1).f0), .slice A195_1 ((rd_T26 l0 x17_1).f1).length c195_1, .slice A195_2 ((rd_T26 l0 x17_1).f2).length c195_2, .int .u64 0]) ?_ 3 _ rfl; refine blk_put (cs := #[.int .u64 ((rd_T26 l0 x17_1).f0), .slice A195_1 ((rd_T26 l0 x17_1).f1).length c195_1, .slice none 0 0, .int .u64 0]) ?_ 2 _ rfl; refine blk_put (cs := #[.int .u64 ((rd_T26 l0 x17_1).f0), .slice none 0 0, .slice none 0 0, .int .u64 0]) ?_ 1 _ rfl; refine blk_put (cs := #[.int .u64 0, .slice none 0 0, .slice none 0 0, .int .u64 0]) ?_ 0 _ rfl; (with_reducible repeat (first | refine blk_drewN ?_ _ | refine blk_drew ?_ | refine blk_alloc ?_ _)); exact BK196.out))⟩; have n1_ : Aside0 (Below w.heap.size w w13) := ⟨(by rw [hw]; exact (belN HB))⟩; clear hw; clear BK196; clear HB; have BK196 := n0_; have HB := n1_; clear n0_ n1_; have p197 : 0 ≤ (x17_1 : Int) := of_decide_eq_true (by first | (with_reducible assumption) | assumption); have q197 : x17_1 < (l1.length : Int) := of_decide_eq_true (by first | (with_reducible assumption) | assumption); obtain ⟨ad197, A197_1, c197_1, A197_2, c197_2, e197, hx197_0, hx197_1, hx197_2, hx197_3, hl197_1, hi197_1, hl197_2, hi197_2⟩ := at_T26 HR1.out x17_1 p197 q197; cases e197; replace hx197_0 := (HB.out.cell (World.block_lt_of_cell? w _ hx197_0)).trans hx197_0; replace hx197_1 := (HB.out.cell (World.block_lt_of_cell? w _ hx197_1)).trans hx197_1; replace hx197_2 := (HB.out.cell (World.block_lt_of_cell? w _ hx197_2)).trans hx197_2; replace hx197_3 := (HB.out.cell (World.block_lt_of_cell? w _ hx197_3)).trans hx197_3; have HR197_1 := Aside0.mk hi197_1; have HC197_1 := Aside0.mk hl197_1; clear hi197_1 hl197_1; have HR197_2 := Aside0.mk hi197_2; have HC197_2 := Aside0.mk hl197_2; clear hi197_2 hl197_2; replace p197 := eq_true p197; replace q197 := eq_true q197) | ((with_reducible refine gate_dst (N := 9) rfl ?_); refine box_event ?hg (N := 9) ?hd (cs := #[.int .u64 0, .slice none 0 0, .slice none 0 0, .int .u64 0]) (t := 26) ?hr ?_; (case hd => rfl); (case hg => rfl); (case hr => first | (go_simp; done) | (go_simp; rfl)); intro gb198 hg w14 hbox hb; have n0_ := Aside0.mk (blk_below (g := gb196) (blkN BK196) hb); have n1_ := Aside0.mk (below_step (belN HB) hb); have n2_ := Aside0.mk (hbox); have n3_ := Aside0.mk ((by rw [hg]; exact (below_size (belN HB)) : w.heap.size ≤ gb198)); have n4_ := Aside0.mk ((by rw [hg]; exact (below_size (belN HB)) : w.heap.size ≤ gb198)); have n5_ := Aside0.mk ((by rw [hg]; exact Nat.ne_of_lt (blk_lt (g := gb196) (blkN BK196)) : gb196 ≠ gb198)); have n6_ := Aside0.mk ((by rw [hg]; exact Nat.ne_of_gt (blk_lt (g := gb196) (blkN BK196)) : gb198 ≠ gb196)); clear BK196; clear HB; have BK196 := n0_; have HB := n1_; have BK198 := n2_; have GW198 := n3_; have GE198 := n4_; have NB196_198 := n5_; have NB198_196 := n6_; clear n0_ n1_ n2_ n3_ n4_ n5_ n6_; clear hb hbox hg; have hnb15 := NB198_196.out; have hnc15 := NB196_198.out; obtain ⟨hcz16_0, hcz16_1, hcz16_2, hcz16_3, hfz16_0, hfz16_1, hfz16_2, hfz16_3⟩ := cz4_ (w := w14) BK198.out) | ((with_reducible refine gate_store (t := 26) (p := 9) rfl ?_); refine store_event (t := 26) (p := 9) (v := ?vo_w17) (w1 := ((((w14.setCell ⟨gb198, 0, none⟩ (.int .u64 ((rd_T26 l1 x17_1).f0))).setCell ⟨gb198, 1, none⟩ (.slice A197_1 ((rd_T26 l1 x17_1).f1).length c197_1)).setCell ⟨gb198, 2, none⟩ (.slice A197_2 ((rd_T26 l1 x17_1).f2).length c197_2)).setCell ⟨gb198, 3, none⟩ (.int .u64 ((rd_T26 l1 x17_1).f3)))) ?hg ?ho ?hn ?hr ?_; (case ho => rfl); (case hg => rfl); (case hn => rfl); (case hr => first | (go_simp; done) | (go_simp; rfl)); intro w17 hw; have n0_ : Aside0 (w17.heap[gb196]? = some (.cells #[.int .u64 ((rd_T26 l0 x17_1).f0), .slice A195_1 ((rd_T26 l0 x17_1).f1).length c195_1, .slice A195_2 ((rd_T26 l0 x17_1).f2).length c195_2, .int .u64 ((rd_T26 l0 x17_1).f3)] 26 (0, 0))) := ⟨(by rw [hw]; exact (blkF BK196))⟩; have n1_ : Aside0 (w17.heap[gb198]? = some (.cells #[.int .u64 ((rd_T26 l1 x17_1).f0), .slice A197_1 ((rd_T26 l1 x17_1).f1).length c197_1, .slice A197_2 ((rd_T26 l1 x17_1).f2).length c197_2, .int .u64 ((rd_T26 l1 x17_1).f3)] 26 (0, 0))) := ⟨(by rw [hw]; exact (by (with_reducible repeat (first | refine blk_drewN ?_ _ | refine blk_drew ?_ | refine blk_alloc ?_ _)); refine blk_put (cs := #[.int .u64 ((rd_T26 l1 x17_1).f0), .slice A197_1 ((rd_T26 l1 x17_1).f1).length c197_1, .slice A197_2 ((rd_T26 l1 x17_1).f2).length c197_2, .int .u64 0]) ?_ 3 _ rfl; refine blk_put (cs := #[.int .u64 ((rd_T26 l1 x17_1).f0), .slice A197_1 ((rd_T26 l1 x17_1).f1).length c197_1, .slice none 0 0, .int .u64 0]) ?_ 2 _ rfl; refine blk_put (cs := #[.int .u64 ((rd_T26 l1 x17_1).f0), .slice none 0 0, .slice none 0 0, .int .u64 0]) ?_ 1 _ rfl; refine blk_put (cs := #[.int .u64 0, .slice none 0 0, .slice none 0 0, .int .u64 0]) ?_ 0 _ rfl; (with_reducible repeat (first | refine blk_drewN ?_ _ | refine blk_drew ?_ | refine blk_alloc ?_ _)); exact BK198.out))⟩; have n2_ : Aside0 (Below w.heap.size w w17) := ⟨(by rw [hw]; exact (belN HB))⟩; clear hw; clear BK196; clear BK198; clear HB; have BK196 := n0_; have BK198 := n1_; have HB := n2_; clear n0_ n1_ n2_; obtain ⟨hcz18_0, hcz18_1, hcz18_2, hcz18_3, hfz18_0, hfz18_1, hfz18_2, hfz18_3⟩ := cz4_ (w := w17) BK196.out; obtain ⟨hcz19_0, hcz19_1, hcz19_2, hcz19_3, hfz19_0, hfz19_1, hfz19_2, hfz19_3⟩ := cz4_ (w := w17) BK198.out) | ((with_reducible refine gate_tmp (t_ := 26) rfl ?_); refine goesT_ (some 29) rfl rfl Try.func32 (by kernel_rfl) rfl #[.agg #[.int .u64 ((rd_T26 l0 x17_1).f0), .slice A195_1 ((rd_T26 l0 x17_1).f1).length c195_1, .slice A195_2 ((rd_T26 l0 x17_1).f2).length c195_2, .int .u64 ((rd_T26 l0 x17_1).f3)], .agg #[.int .u64 ((rd_T26 l1 x17_1).f0), .slice A197_1 ((rd_T26 l1 x17_1).f1).length c197_1, .slice A197_2 ((rd_T26 l1 x17_1).f2).length c197_2, .int .u64 ((rd_T26 l1 x17_1).f3)]] rfl rfl (by (try simp only [List.map_toArray, List.map_cons, List.map_nil]); first | done | rfl | (simp only [List.length_drop, List.length_take]; rfl)) ?_; (with_reducible refine (idem_one.calls ((rd_T26 l0 x17_1).f0) _ _ ((rd_T26 l0 x17_1).f1) _ _ ((rd_T26 l0 x17_1).f2) ((rd_T26 l0 x17_1).f3) ((rd_T26 l1 x17_1).f0) _ _ ((rd_T26 l1 x17_1).f1) _ _ ((rd_T26 l1 x17_1).f2) ((rd_T26 l1 x17_1).f3) true _ ?side1 ?side2 ?side3 ?side4 ?side5 ?side6 ?side7 ?side8 A9.out).mono ?_); (case side1 => repeat (first | exact (Kd.C_below HR195_1.out HB.out) | (with_reducible refine Kd.C_alloc ?_ _) | (with_reducible refine Kd.C_drewN ?_ _) | (with_reducible refine Kd.C_drew ?_))); (case side2 => exact HC195_1.out); (case side3 => repeat (first | exact (Kd.C_below HR195_2.out HB.out) | (with_reducible refine Kd.C_alloc ?_ _) | (with_reducible refine Kd.C_drewN ?_ _) | (with_reducible refine Kd.C_drew ?_))); (case side4 => exact HC195_2.out); (case side5 => repeat (first | exact (Kd.C_below HR197_1.out HB.out) | (with_reducible refine Kd.C_alloc ?_ _) | (with_reducible refine Kd.C_drewN ?_ _) | (with_reducible refine Kd.C_drew ?_))); (case side6 => exact HC197_1.out); (case side7 => repeat (first | exact (Kd.C_below HR197_2.out HB.out) | (with_reducible refine Kd.C_alloc ?_ _) | (with_reducible refine Kd.C_drewN ?_ _) | (with_reducible refine Kd.C_drew ?_))); (case side8 => exact HC197_2.out); rintro e w20 ⟨rfl, hb⟩; refine ⟨_, rfl, ?_⟩; have n0_ := Aside0.mk (blk_below (g := gb196) (blkN BK196) hb); have n1_ := Aside0.mk (blk_below (g := gb198) (blkN BK198) hb); have n2_ := Aside0.mk (below_step (belN HB) hb); clear BK196; clear BK198; clear HB; have BK196 := n0_; have BK198 := n1_; have HB := n2_; clear n0_ n1_ n2_; (try clear hb); (try clear hb2); (try clear hk); (try clear hi)))
                  go_roundg k1
                  case measure => have := HK1.out; omega
                  case rel => exact ⟨(wrap64 (x17_1 + 1)), (by first | rfl | (simp; done) | (simp [*]; done)), H', ⟨by have := HK1.out; omega⟩, ⟨by repeat (first | (with_reducible first | exact HB.out | apply below_alloc | apply pw_below_drewN | apply below_drew1 | refine below_set ?_ GE196.out | refine below_set ?_ GE198.out) | exact HB.out)⟩⟩
                · replace c10 := Bool.eq_false_iff.mpr c10
                  subst c10
                  have H1 : (some false) = some r := by rw [if_neg (show ¬ (false = true) by decide)] at H; exact H
                  clear H
                  have H := H1
                  clear H1
                  obtain rfl := Option.some.inj H
                  have p195 : 0 ≤ (x17_1 : Int) := of_decide_eq_true (by first | (with_reducible assumption) | assumption)
                  have q195 : x17_1 < (l0.length : Int) := of_decide_eq_true (by first | (with_reducible assumption) | assumption)
                  obtain ⟨ad195, A195_1, c195_1, A195_2, c195_2, e195, hx195_0, hx195_1, hx195_2, hx195_3, hl195_1, hi195_1, hl195_2, hi195_2⟩ := at_T26 HR0.out x17_1 p195 q195
                  cases e195
                  replace hx195_0 := (HB.out.cell (World.block_lt_of_cell? w _ hx195_0)).trans hx195_0
                  replace hx195_1 := (HB.out.cell (World.block_lt_of_cell? w _ hx195_1)).trans hx195_1
                  replace hx195_2 := (HB.out.cell (World.block_lt_of_cell? w _ hx195_2)).trans hx195_2
                  replace hx195_3 := (HB.out.cell (World.block_lt_of_cell? w _ hx195_3)).trans hx195_3
                  have HR195_1 := Aside0.mk hi195_1
                  have HC195_1 := Aside0.mk hl195_1
                  clear hi195_1 hl195_1
                  have HR195_2 := Aside0.mk hi195_2
                  have HC195_2 := Aside0.mk hl195_2
                  clear hi195_2 hl195_2
                  replace p195 := eq_true p195
                  replace q195 := eq_true q195
                  go_wp2_with (first | ((with_reducible refine gate_dst (N := 8) rfl ?_); refine box_event ?hg (N := 8) ?hd (cs := #[.int .u64 0, .slice none 0 0, .slice none 0 0, .int .u64 0]) (t := 26) ?hr ?_; (case hd => rfl); (case hg => rfl); (case hr => first | (go_simp; done) | (go_simp; rfl)); intro gb196 hg w21 hbox hb; have n0_ := Aside0.mk (below_step (belN HB) hb); have n1_ := Aside0.mk (hbox); have n2_ := Aside0.mk ((by rw [hg]; exact (below_size (belN HB)) : w.heap.size ≤ gb196)); have n3_ := Aside0.mk ((by rw [hg]; exact (below_size (belN HB)) : w.heap.size ≤ gb196)); clear HB; have HB := n0_; have BK196 := n1_; have GW196 := n2_; have GE196 := n3_; clear n0_ n1_ n2_ n3_; clear hb hbox hg; obtain ⟨hcz22_0, hcz22_1, hcz22_2, hcz22_3, hfz22_0, hfz22_1, hfz22_2, hfz22_3⟩ := cz4_ (w := w21) BK196.out) | ((with_reducible refine gate_store (t := 26) (p := 8) rfl ?_); refine store_event (t := 26) (p := 8) (v := ?vo_w23) (w1 := ((((w21.setCell ⟨gb196, 0, none⟩ (.int .u64 ((rd_T26 l0 x17_1).f0))).setCell ⟨gb196, 1, none⟩ (.slice A195_1 ((rd_T26 l0 x17_1).f1).length c195_1)).setCell ⟨gb196, 2, none⟩ (.slice A195_2 ((rd_T26 l0 x17_1).f2).length c195_2)).setCell ⟨gb196, 3, none⟩ (.int .u64 ((rd_T26 l0 x17_1).f3)))) ?hg ?ho ?hn ?hr ?_; (case ho => rfl); (case hg => rfl); (case hn => rfl); (case hr => first | (go_simp; done) | (go_simp; rfl)); intro w23 hw; have n0_ : Aside0 (w23.heap[gb196]? = some (.cells #[.int .u64 ((rd_T26 l0 x17_1).f0), .slice A195_1 ((rd_T26 l0 x17_1).f1).length c195_1, .slice A195_2 ((rd_T26 l0 x17_1).f2).length c195_2, .int .u64 ((rd_T26 l0 x17_1).f3)] 26 (0, 0))) := ⟨(by rw [hw]; exact (by (with_reducible repeat (first | refine blk_drewN ?_ _ | refine blk_drew ?_ | refine blk_alloc ?_ _)); refine blk_put (cs := #[.int .u64 ((rd_T26 l0 x17_1).f0), .slice A195_1 ((rd_T26 l0 x17_1).f1).length c195_1, .slice A195_2 ((rd_T26 l0 x17_1).f2).length c195_2, .int .u64 0]) ?_ 3 _ rfl; refine blk_put (cs := #[.int .u64 ((rd_T26 l0 x17_1).f0), .slice A195_1 ((rd_T26 l0 x17_1).f1).length c195_1, .slice none 0 0, .int .u64 0]) ?_ 2 _ rfl; refine blk_put (cs := #[.int .u64 ((rd_T26 l0 x17_1).f0), .slice none 0 0, .slice none 0 0, .int .u64 0]) ?_ 1 _ rfl; refine blk_put (cs := #[.int .u64 0, .slice none 0 0, .slice none 0 0, .int .u64 0]) ?_ 0 _ rfl; (with_reducible repeat (first | refine blk_drewN ?_ _ | refine blk_drew ?_ | refine blk_alloc ?_ _)); exact BK196.out))⟩; have n1_ : Aside0 (Below w.heap.size w w23) := ⟨(by rw [hw]; exact (belN HB))⟩; clear hw; clear BK196; clear HB; have BK196 := n0_; have HB := n1_; clear n0_ n1_; have p197 : 0 ≤ (x17_1 : Int) := of_decide_eq_true (by first | (with_reducible assumption) | assumption); have q197 : x17_1 < (l1.length : Int) := of_decide_eq_true (by first | (with_reducible assumption) | assumption); obtain ⟨ad197, A197_1, c197_1, A197_2, c197_2, e197, hx197_0, hx197_1, hx197_2, hx197_3, hl197_1, hi197_1, hl197_2, hi197_2⟩ := at_T26 HR1.out x17_1 p197 q197; cases e197; replace hx197_0 := (HB.out.cell (World.block_lt_of_cell? w _ hx197_0)).trans hx197_0; replace hx197_1 := (HB.out.cell (World.block_lt_of_cell? w _ hx197_1)).trans hx197_1; replace hx197_2 := (HB.out.cell (World.block_lt_of_cell? w _ hx197_2)).trans hx197_2; replace hx197_3 := (HB.out.cell (World.block_lt_of_cell? w _ hx197_3)).trans hx197_3; have HR197_1 := Aside0.mk hi197_1; have HC197_1 := Aside0.mk hl197_1; clear hi197_1 hl197_1; have HR197_2 := Aside0.mk hi197_2; have HC197_2 := Aside0.mk hl197_2; clear hi197_2 hl197_2; replace p197 := eq_true p197; replace q197 := eq_true q197) | ((with_reducible refine gate_dst (N := 9) rfl ?_); refine box_event ?hg (N := 9) ?hd (cs := #[.int .u64 0, .slice none 0 0, .slice none 0 0, .int .u64 0]) (t := 26) ?hr ?_; (case hd => rfl); (case hg => rfl); (case hr => first | (go_simp; done) | (go_simp; rfl)); intro gb198 hg w24 hbox hb; have n0_ := Aside0.mk (blk_below (g := gb196) (blkN BK196) hb); have n1_ := Aside0.mk (below_step (belN HB) hb); have n2_ := Aside0.mk (hbox); have n3_ := Aside0.mk ((by rw [hg]; exact (below_size (belN HB)) : w.heap.size ≤ gb198)); have n4_ := Aside0.mk ((by rw [hg]; exact (below_size (belN HB)) : w.heap.size ≤ gb198)); have n5_ := Aside0.mk ((by rw [hg]; exact Nat.ne_of_lt (blk_lt (g := gb196) (blkN BK196)) : gb196 ≠ gb198)); have n6_ := Aside0.mk ((by rw [hg]; exact Nat.ne_of_gt (blk_lt (g := gb196) (blkN BK196)) : gb198 ≠ gb196)); clear BK196; clear HB; have BK196 := n0_; have HB := n1_; have BK198 := n2_; have GW198 := n3_; have GE198 := n4_; have NB196_198 := n5_; have NB198_196 := n6_; clear n0_ n1_ n2_ n3_ n4_ n5_ n6_; clear hb hbox hg; have hnb25 := NB198_196.out; have hnc25 := NB196_198.out; obtain ⟨hcz26_0, hcz26_1, hcz26_2, hcz26_3, hfz26_0, hfz26_1, hfz26_2, hfz26_3⟩ := cz4_ (w := w24) BK198.out) | ((with_reducible refine gate_store (t := 26) (p := 9) rfl ?_); refine store_event (t := 26) (p := 9) (v := ?vo_w27) (w1 := ((((w24.setCell ⟨gb198, 0, none⟩ (.int .u64 ((rd_T26 l1 x17_1).f0))).setCell ⟨gb198, 1, none⟩ (.slice A197_1 ((rd_T26 l1 x17_1).f1).length c197_1)).setCell ⟨gb198, 2, none⟩ (.slice A197_2 ((rd_T26 l1 x17_1).f2).length c197_2)).setCell ⟨gb198, 3, none⟩ (.int .u64 ((rd_T26 l1 x17_1).f3)))) ?hg ?ho ?hn ?hr ?_; (case ho => rfl); (case hg => rfl); (case hn => rfl); (case hr => first | (go_simp; done) | (go_simp; rfl)); intro w27 hw; have n0_ : Aside0 (w27.heap[gb196]? = some (.cells #[.int .u64 ((rd_T26 l0 x17_1).f0), .slice A195_1 ((rd_T26 l0 x17_1).f1).length c195_1, .slice A195_2 ((rd_T26 l0 x17_1).f2).length c195_2, .int .u64 ((rd_T26 l0 x17_1).f3)] 26 (0, 0))) := ⟨(by rw [hw]; exact (blkF BK196))⟩; have n1_ : Aside0 (w27.heap[gb198]? = some (.cells #[.int .u64 ((rd_T26 l1 x17_1).f0), .slice A197_1 ((rd_T26 l1 x17_1).f1).length c197_1, .slice A197_2 ((rd_T26 l1 x17_1).f2).length c197_2, .int .u64 ((rd_T26 l1 x17_1).f3)] 26 (0, 0))) := ⟨(by rw [hw]; exact (by (with_reducible repeat (first | refine blk_drewN ?_ _ | refine blk_drew ?_ | refine blk_alloc ?_ _)); refine blk_put (cs := #[.int .u64 ((rd_T26 l1 x17_1).f0), .slice A197_1 ((rd_T26 l1 x17_1).f1).length c197_1, .slice A197_2 ((rd_T26 l1 x17_1).f2).length c197_2, .int .u64 0]) ?_ 3 _ rfl; refine blk_put (cs := #[.int .u64 ((rd_T26 l1 x17_1).f0), .slice A197_1 ((rd_T26 l1 x17_1).f1).length c197_1, .slice none 0 0, .int .u64 0]) ?_ 2 _ rfl; refine blk_put (cs := #[.int .u64 ((rd_T26 l1 x17_1).f0), .slice none 0 0, .slice none 0 0, .int .u64 0]) ?_ 1 _ rfl; refine blk_put (cs := #[.int .u64 0, .slice none 0 0, .slice none 0 0, .int .u64 0]) ?_ 0 _ rfl; (with_reducible repeat (first | refine blk_drewN ?_ _ | refine blk_drew ?_ | refine blk_alloc ?_ _)); exact BK198.out))⟩; have n2_ : Aside0 (Below w.heap.size w w27) := ⟨(by rw [hw]; exact (belN HB))⟩; clear hw; clear BK196; clear BK198; clear HB; have BK196 := n0_; have BK198 := n1_; have HB := n2_; clear n0_ n1_ n2_; obtain ⟨hcz28_0, hcz28_1, hcz28_2, hcz28_3, hfz28_0, hfz28_1, hfz28_2, hfz28_3⟩ := cz4_ (w := w27) BK196.out; obtain ⟨hcz29_0, hcz29_1, hcz29_2, hcz29_3, hfz29_0, hfz29_1, hfz29_2, hfz29_3⟩ := cz4_ (w := w27) BK198.out) | ((with_reducible refine gate_tmp (t_ := 26) rfl ?_); refine goesT_ (some 29) rfl rfl Try.func32 (by kernel_rfl) rfl #[.agg #[.int .u64 ((rd_T26 l0 x17_1).f0), .slice A195_1 ((rd_T26 l0 x17_1).f1).length c195_1, .slice A195_2 ((rd_T26 l0 x17_1).f2).length c195_2, .int .u64 ((rd_T26 l0 x17_1).f3)], .agg #[.int .u64 ((rd_T26 l1 x17_1).f0), .slice A197_1 ((rd_T26 l1 x17_1).f1).length c197_1, .slice A197_2 ((rd_T26 l1 x17_1).f2).length c197_2, .int .u64 ((rd_T26 l1 x17_1).f3)]] rfl rfl (by (try simp only [List.map_toArray, List.map_cons, List.map_nil]); first | done | rfl | (simp only [List.length_drop, List.length_take]; rfl)) ?_; (with_reducible refine (idem_one.calls ((rd_T26 l0 x17_1).f0) _ _ ((rd_T26 l0 x17_1).f1) _ _ ((rd_T26 l0 x17_1).f2) ((rd_T26 l0 x17_1).f3) ((rd_T26 l1 x17_1).f0) _ _ ((rd_T26 l1 x17_1).f1) _ _ ((rd_T26 l1 x17_1).f2) ((rd_T26 l1 x17_1).f3) false _ ?side1 ?side2 ?side3 ?side4 ?side5 ?side6 ?side7 ?side8 A9.out).mono ?_); (case side1 => repeat (first | exact (Kd.C_below HR195_1.out HB.out) | (with_reducible refine Kd.C_alloc ?_ _) | (with_reducible refine Kd.C_drewN ?_ _) | (with_reducible refine Kd.C_drew ?_))); (case side2 => exact HC195_1.out); (case side3 => repeat (first | exact (Kd.C_below HR195_2.out HB.out) | (with_reducible refine Kd.C_alloc ?_ _) | (with_reducible refine Kd.C_drewN ?_ _) | (with_reducible refine Kd.C_drew ?_))); (case side4 => exact HC195_2.out); (case side5 => repeat (first | exact (Kd.C_below HR197_1.out HB.out) | (with_reducible refine Kd.C_alloc ?_ _) | (with_reducible refine Kd.C_drewN ?_ _) | (with_reducible refine Kd.C_drew ?_))); (case side6 => exact HC197_1.out); (case side7 => repeat (first | exact (Kd.C_below HR197_2.out HB.out) | (with_reducible refine Kd.C_alloc ?_ _) | (with_reducible refine Kd.C_drewN ?_ _) | (with_reducible refine Kd.C_drew ?_))); (case side8 => exact HC197_2.out); rintro e w30 ⟨rfl, hb⟩; refine ⟨_, rfl, ?_⟩; have n0_ := Aside0.mk (blk_below (g := gb196) (blkN BK196) hb); have n1_ := Aside0.mk (blk_below (g := gb198) (blkN BK198) hb); have n2_ := Aside0.mk (below_step (belN HB) hb); clear BK196; clear BK198; clear HB; have BK196 := n0_; have BK198 := n1_; have HB := n2_; clear n0_ n1_ n2_; (try clear hb); (try clear hb2); (try clear hk); (try clear hi)))
                  go_ret
                  exact ⟨by first | rfl | (simp [errW_none, errW_some] <;> rfl) | (simp [*, errW_none, errW_some] <;> rfl), by repeat (first | (with_reducible first | exact HB.out | apply below_alloc | apply pw_below_drewN | apply below_drew1 | refine below_set ?_ GE196.out | refine below_set ?_ GE198.out) | exact HB.out)⟩
              · rw [if_neg c8] at H
                exact absurd H (by simp)
            · rw [if_neg c7] at H
              exact absurd H (by simp)
          · rw [if_neg c6] at H
            exact absurd H (by simp)
        · rw [if_neg c5] at H
          have c5b0 : decide (x17_1 < (l0.length : Int)) = false := decide_eq_false c5
          clear c5
          obtain rfl := Option.some.inj H
          go_wp2
          go_ret
          exact ⟨by first | rfl | (simp [errW_none, errW_some] <;> rfl) | (simp [*, errW_none, errW_some] <;> rfl), by repeat (first | (with_reducible first | exact HB.out | apply below_alloc | apply pw_below_drewN | apply below_drew1) | exact HB.out)⟩
  · rw [if_neg c4] at H
    have c4b0 : ((l0.length : Int) == (l1.length : Int)) = false := beq_eq_false_iff_ne.mpr c4
    have c4b1 : ((l0.length : Int) != (l1.length : Int)) = true := bne_iff_ne.mpr c4
    have c4b2 : (l0.length == l1.length) = false := by first | simpa using c4 | (simp at c4 ⊢; omega)
    obtain rfl := Option.some.inj H
    go_enter Try.func31, Try.ntmps31
    go_wp2
    go_ret
    exact ⟨by first | rfl | (simp [errW_none, errW_some] <;> rfl) | (simp [*, errW_none, errW_some] <;> rfl), by repeat (first | (with_reducible first | exact HB.out | apply below_alloc | apply pw_below_drewN | apply below_drew1) | exact HB.out)⟩

/-! ### idem_Same: function 22 -/
def idem_Same.f (k : Nat) (l0 : List (S26)) (l1 : List (S26)) : Option (Bool) := (slices_EqualFunc_Key_at_idem_one.f k l0 l1).bind fun t200 => (some t200)
theorem idem_Same.mono : ∀ a0 a1 k, LeO (idem_Same.f k a0 a1) (idem_Same.f (k + 1) a0 a1) := by
  intro a0 a1 k
  unfold idem_Same.f
  repeat' first
      | (with_reducible exact slices_EqualFunc_Key_at_idem_one.mono _ _ _)
      | (with_reducible exact LeO.refl _)
      | (with_reducible exact LeO.none _)
      | (with_reducible refine LeO.ite ?_ ?_)
      | (with_reducible refine LeO.bind ?_ (fun _ => ?_))
      | exact slices_EqualFunc_Key_at_idem_one.mono _ _ _
      | exact LeO.none _
      | refine LeO.ite ?_ ?_
      | refine LeO.bind ?_ (fun _ => ?_)
set_option maxHeartbeats 8000000 in
set_option maxRecDepth 100000 in
theorem idem_Same.calls (k : Nat) (A0 : Option Addr) (c0 : Nat) (l0 : List (S26)) (A1 : Option Addr) (c1 : Nat) (l1 : List (S26)) (r : Bool) (w : World) (hr0 : Kd.C k26 w A0 l0.length l0) (hc0 : l0.length ≤ c0) (hr1 : Kd.C k26 w A1 l1.length l1) (hc1 : l1.length ≤ c1) (h : idem_Same.f k l0 l1 = some r) :
    Calls Try.prog 22 #[.slice A0 l0.length c0, .slice A1 l1.length c1] w fun e w' => e = .returned (.bool r) ∧ Below w.heap.size w w' := by
  have HR0 := Aside0.mk hr0
  have HC0 := Aside0.mk hc0
  clear hr0 hc0
  have HR1 := Aside0.mk hr1
  have HC1 := Aside0.mk hc1
  clear hr1 hc1
  have HB := Aside0.mk (Below.refl w.heap.size w)
  have H : ((slices_EqualFunc_Key_at_idem_one.f k l0 l1).bind fun t200 => (some t200)) = some r := h
  clear h
  replace H := Option.bind_eq_some_iff.mp H
  obtain ⟨t200, A30, H⟩ := H
  replace H : (some t200) = some r := H
  have A3 := Aside0.mk A30
  clear A30
  obtain rfl := Option.some.inj H
  go_enter Try.func22, Try.ntmps22
  go_wp2_with (first | ((with_reducible refine gate_callee (f := 31) rfl ?_); refine goesL_ (some 7) rfl rfl Try.func31 (by kernel_rfl) rfl #[.slice A0 l0.length c0, .slice A1 l1.length c1, .func (.func 32) #[] #[]] rfl (by (try simp only [List.map_toArray, List.map_cons, List.map_nil]); first | done | rfl | (simp only [List.length_drop, List.length_take]; rfl)) ?_; (with_reducible refine (slices_EqualFunc_Key_at_idem_one.calls k _ _ l0 _ _ l1  t200 _ ?side1 ?side2 ?side3 ?side4 A3.out).mono ?_); (case side1 => repeat (first | exact HR0.out | (with_reducible refine Kd.C_alloc ?_ _) | (with_reducible refine Kd.C_drewN ?_ _) | (with_reducible refine Kd.C_drew ?_))); (case side2 => exact HC0.out); (case side3 => repeat (first | exact HR1.out | (with_reducible refine Kd.C_alloc ?_ _) | (with_reducible refine Kd.C_drewN ?_ _) | (with_reducible refine Kd.C_drew ?_))); (case side4 => exact HC1.out); rintro e w4 ⟨rfl, hb⟩; refine ⟨_, rfl, ?_⟩; have n0_ := Aside0.mk (below_step (belN HB) hb); clear HB; have HB := n0_; clear n0_; (try clear hb); (try clear hb2); (try clear hk); (try clear hi)))
  go_ret
  exact ⟨by first | rfl | (simp [errW_none, errW_some] <;> rfl) | (simp [*, errW_none, errW_some] <;> rfl), by repeat (first | (with_reducible first | exact HB.out | apply below_alloc | apply pw_below_drewN | apply below_drew1) | exact HB.out)⟩

end Go.Proofs.Ytmoncgfffdddeaa.P
