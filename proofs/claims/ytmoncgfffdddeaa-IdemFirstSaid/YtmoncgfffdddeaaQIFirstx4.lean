-- written by a program of this session (wip/print)
import Derived.Test.YtmoncgfffdddeaaQIFirstx0
namespace Go.Proofs.Ytmoncgfffdddeaa.P
open Go.RowKit Go.Proofs.YtmoncgfffdddeaaW.PrintWords Go.Proofs.YtmoncgfffdddeaaW.PrintLast Go.Proofs.YtmoncgfffdddeaaW.PrintMore
attribute [local go_sem] max2_int min2_int max_two min_two max_three min_three max_four min_four   -- for this text's walks alone
set_option linter.unusedVariables false
set_option linter.unusedSimpArgs false

/-! ### damsonref14_Few: function 9 -/
def damsonref14_Few.l0 : Nat → List (S26) → List (S26) → Int → Int → Option (Bool)
  | 0, _, _, _, _ => none
  | k + 1, x0, x5, x6, x7 => if x7 < x6 then (if 0 ≤ x7 then (if x7 < (x5.length : Int) then (if (((rd_T26 x5 x7).f1).length : Int) > 60 then (if (((rd_T26 x5 x7).f1).length : Int) < 4096 then (some false) else (if (((rd_T26 x5 x7).f1).length : Int) > 4100 then (some false) else (if (((rd_T26 x5 x7).f2).length : Int) > 60 then (if (((rd_T26 x5 x7).f2).length : Int) < 4096 then (some false) else (if (((rd_T26 x5 x7).f2).length : Int) > 4100 then (some false) else (damsonref14_Few.l0 k x0 x5 x6 (wrap64 (x7 + 1))))) else (if (((rd_T26 x5 x7).f2).length : Int) > 4100 then (some false) else (damsonref14_Few.l0 k x0 x5 x6 (wrap64 (x7 + 1))))))) else (if (((rd_T26 x5 x7).f1).length : Int) > 4100 then (some false) else (if (((rd_T26 x5 x7).f2).length : Int) > 60 then (if (((rd_T26 x5 x7).f2).length : Int) < 4096 then (some false) else (if (((rd_T26 x5 x7).f2).length : Int) > 4100 then (some false) else (damsonref14_Few.l0 k x0 x5 x6 (wrap64 (x7 + 1))))) else (if (((rd_T26 x5 x7).f2).length : Int) > 4100 then (some false) else (damsonref14_Few.l0 k x0 x5 x6 (wrap64 (x7 + 1))))))) else (none)) else (none)) else (if (x0.length : Int) ≤ 20 then (some true) else (if (x0.length : Int) ≥ 128 then (some (decide ((x0.length : Int) ≤ 130))) else (some false)))
def damsonref14_Few.f (k : Nat) (l0 : List (S26)) : Option (Bool) := damsonref14_Few.l0 k l0 l0 (l0.length : Int) 0
theorem damsonref14_Few.mono_l : ∀ k, (∀ y0 y1 y2 y3, LeO (damsonref14_Few.l0 k y0 y1 y2 y3) (damsonref14_Few.l0 (k + 1) y0 y1 y2 y3))
  | 0 => fun _ _ _ _ r h => by simp [damsonref14_Few.l0] at h
  | k + 1 => by
    have ih0 := damsonref14_Few.mono_l k
    · intro y0 y1 y2 y3
      unfold damsonref14_Few.l0
      repeat' first
      | (with_reducible exact ih0 _ _ _ _)
      | (with_reducible exact LeO.refl _)
      | (with_reducible exact LeO.none _)
      | (with_reducible refine LeO.ite ?_ ?_)
      | (with_reducible refine LeO.bind ?_ (fun _ => ?_))
      | exact ih0 _ _ _ _
      | exact LeO.none _
      | refine LeO.ite ?_ ?_
      | refine LeO.bind ?_ (fun _ => ?_)
theorem damsonref14_Few.mono : ∀ a0 k, LeO (damsonref14_Few.f k a0) (damsonref14_Few.f (k + 1) a0) := by
  intro a0 k
  have ih0 := damsonref14_Few.mono_l k
  unfold damsonref14_Few.f
  repeat' first
      | (with_reducible exact ih0 _ _ _ _)
      | (with_reducible exact LeO.refl _)
      | (with_reducible exact LeO.none _)
      | (with_reducible refine LeO.ite ?_ ?_)
      | (with_reducible refine LeO.bind ?_ (fun _ => ?_))
      | exact ih0 _ _ _ _
      | exact LeO.none _
      | refine LeO.ite ?_ ?_
      | refine LeO.bind ?_ (fun _ => ?_)
set_option maxHeartbeats 8000000 in
set_option maxRecDepth 100000 in
theorem damsonref14_Few.calls (k : Nat) (A0 : Option Addr) (c0 : Nat) (l0 : List (S26)) (r : Bool) (w : World) (hr0 : Kd.C k26 w A0 l0.length l0) (hc0 : l0.length ≤ c0) (h : damsonref14_Few.f k l0 = some r) :
    Calls Try.prog 9 #[.slice A0 l0.length c0] w fun e w' => e = .returned (.bool r) ∧ Below w.heap.size w w' := by
  have hu26 := Try.underlying26
  have HR0 := Aside0.mk hr0
  have HC0 := Aside0.mk hc0
  clear hr0 hc0
  have HB := Aside0.mk (Below.refl w.heap.size w)
  have H : (damsonref14_Few.l0 k l0 l0 (l0.length : Int) 0) = some r := h
  clear h
  have H' := Aside0.mk H
  clear H
  go_enter Try.func9, Try.ntmps9
  go_wp2
  go_loopg [7] k (fun kq v7 w' => ∃ (x7_1 : Int), v7 = .int .i64 x7_1 ∧ Aside0 (damsonref14_Few.l0 kq l0 l0 (l0.length : Int) x7_1 = some r) ∧ Aside0 (kq ≤ k) ∧ Aside0 (Below w.heap.size w w'))
  case atStart => exact ⟨(0), (by first | rfl | (simp; done) | (simp [*]; done)), H', ⟨Nat.le_refl _⟩, ⟨by repeat (first | (with_reducible first | exact HB.out | apply below_alloc | apply pw_below_drewN | apply below_drew1) | exact HB.out)⟩⟩
  case round =>
    clear H'
    obtain ⟨x7_1, rfl, HA, HK1, HB⟩ := hrel
    cases gk with
    | zero => exact absurd HA.out (by simp [damsonref14_Few.l0])
    | succ k1 =>
      have H := HA.out
      clear HA
      simp only [damsonref14_Few.l0] at H
      by_cases c2 : x7_1 < (l0.length : Int)
      · rw [if_pos c2] at H
        have c2b0 : decide (x7_1 < (l0.length : Int)) = true := decide_eq_true c2
        clear c2
        by_cases c3 : 0 ≤ x7_1
        · rw [if_pos c3] at H
          have c3b0 : decide (0 ≤ x7_1) = true := decide_eq_true c3
          clear c3
          by_cases c4 : x7_1 < (l0.length : Int)
          · rw [if_pos c4] at H
            have c4b0 : decide (x7_1 < (l0.length : Int)) = true := decide_eq_true c4
            clear c4
            by_cases c5 : (((rd_T26 l0 x7_1).f1).length : Int) > 60
            · rw [if_pos c5] at H
              have c5b0 : decide (60 < (((rd_T26 l0 x7_1).f1).length : Int)) = true := decide_eq_true c5
              have c5b1 : decide (60 < ((rd_T26 l0 x7_1).f1).length) = true := decide_eq_true (by omega)
              clear c5
              by_cases c6 : (((rd_T26 l0 x7_1).f1).length : Int) < 4096
              · rw [if_pos c6] at H
                have c6b0 : decide ((((rd_T26 l0 x7_1).f1).length : Int) < 4096) = true := decide_eq_true c6
                have c6b1 : decide (((rd_T26 l0 x7_1).f1).length < 4096) = true := decide_eq_true (by omega)
                clear c6
                obtain rfl := Option.some.inj H
                have p137 : 0 ≤ (x7_1 : Int) := of_decide_eq_true (by first | (with_reducible assumption) | assumption)
                have q137 : x7_1 < (l0.length : Int) := of_decide_eq_true (by first | (with_reducible assumption) | assumption)
                obtain ⟨ad137, A137_1, c137_1, A137_2, c137_2, e137, hx137_0, hx137_1, hx137_2, hx137_3, hl137_1, hi137_1, hl137_2, hi137_2⟩ := at_T26 HR0.out x7_1 p137 q137
                cases e137
                replace hx137_0 := (HB.out.cell (World.block_lt_of_cell? w _ hx137_0)).trans hx137_0
                replace hx137_1 := (HB.out.cell (World.block_lt_of_cell? w _ hx137_1)).trans hx137_1
                replace hx137_2 := (HB.out.cell (World.block_lt_of_cell? w _ hx137_2)).trans hx137_2
                replace hx137_3 := (HB.out.cell (World.block_lt_of_cell? w _ hx137_3)).trans hx137_3
                have HR137_1 := Aside0.mk hi137_1
                have HC137_1 := Aside0.mk hl137_1
                clear hi137_1 hl137_1
                have HR137_2 := Aside0.mk hi137_2
                have HC137_2 := Aside0.mk hl137_2
                clear hi137_2 hl137_2
                replace p137 := eq_true p137
                replace q137 := eq_true q137
                go_wp2_with (first | ((with_reducible refine gate_dst (N := 4) rfl ?_); (try (refine gate_guard (by rfl) ?_; dsimp only)); refine box_event ?hg (N := 4) ?hd (cs := #[.int .u64 0, .slice none 0 0, .slice none 0 0, .int .u64 0]) (t := 26) ?hr ?_; (case hd => rfl); (case hg => rfl); (case hr => first | (go_simp; done) | (go_simp; rfl)); intro gb138 hg w7 hbox hb; have n0_ := Aside0.mk (below_step (belN HB) hb); have n1_ := Aside0.mk (hbox); have n2_ := Aside0.mk ((by rw [hg]; exact (below_size (belN HB)) : w.heap.size ≤ gb138)); have n3_ := Aside0.mk ((by rw [hg]; exact (below_size (belN HB)) : w.heap.size ≤ gb138)); clear HB; have HB := n0_; have BK138 := n1_; have GW138 := n2_; have GE138 := n3_; clear n0_ n1_ n2_ n3_; clear hb hbox hg; obtain ⟨hcz8_0, hcz8_1, hcz8_2, hcz8_3, hfz8_0, hfz8_1, hfz8_2, hfz8_3⟩ := cz4_ (w := w7) BK138.out) | ((with_reducible refine gate_store (t := 26) (p := 4) rfl ?_); refine store_event (t := 26) (p := 4) (v := ?vo_w9) (w1 := ((((w7.setCell ⟨gb138, 0, none⟩ (.int .u64 ((rd_T26 l0 x7_1).f0))).setCell ⟨gb138, 1, none⟩ (.slice A137_1 ((rd_T26 l0 x7_1).f1).length c137_1)).setCell ⟨gb138, 2, none⟩ (.slice A137_2 ((rd_T26 l0 x7_1).f2).length c137_2)).setCell ⟨gb138, 3, none⟩ (.int .u64 ((rd_T26 l0 x7_1).f3)))) ?hg ?ho ?hn ?hr ?_; (case ho => rfl); (case hg => rfl); (case hn => rfl); (case hr => first | (go_simp; done) | (go_simp; rfl)); intro w9 hw; have n0_ : Aside0 (w9.heap[gb138]? = some (.cells #[.int .u64 ((rd_T26 l0 x7_1).f0), .slice A137_1 ((rd_T26 l0 x7_1).f1).length c137_1, .slice A137_2 ((rd_T26 l0 x7_1).f2).length c137_2, .int .u64 ((rd_T26 l0 x7_1).f3)] 26 (0, 0))) := ⟨(by rw [hw]; exact (by (with_reducible repeat (first | refine blk_drewN ?_ _ | refine blk_drew ?_ | refine blk_alloc ?_ _)); refine blk_put (cs := #[.int .u64 ((rd_T26 l0 x7_1).f0), .slice A137_1 ((rd_T26 l0 x7_1).f1).length c137_1, .slice A137_2 ((rd_T26 l0 x7_1).f2).length c137_2, .int .u64 0]) ?_ 3 _ rfl; refine blk_put (cs := #[.int .u64 ((rd_T26 l0 x7_1).f0), .slice A137_1 ((rd_T26 l0 x7_1).f1).length c137_1, .slice none 0 0, .int .u64 0]) ?_ 2 _ rfl; refine blk_put (cs := #[.int .u64 ((rd_T26 l0 x7_1).f0), .slice none 0 0, .slice none 0 0, .int .u64 0]) ?_ 1 _ rfl; refine blk_put (cs := #[.int .u64 0, .slice none 0 0, .slice none 0 0, .int .u64 0]) ?_ 0 _ rfl; (with_reducible repeat (first | refine blk_drewN ?_ _ | refine blk_drew ?_ | refine blk_alloc ?_ _)); exact BK138.out))⟩; have n1_ : Aside0 (Below w.heap.size w w9) := ⟨(by rw [hw]; exact (belN HB))⟩; clear hw; clear BK138; clear HB; have BK138 := n0_; have HB := n1_; clear n0_ n1_; obtain ⟨hcz10_0, hcz10_1, hcz10_2, hcz10_3, hfz10_0, hfz10_1, hfz10_2, hfz10_3⟩ := cz4_ (w := w9) BK138.out))
                go_ret
                exact ⟨by first | rfl | (simp [errW_none, errW_some] <;> rfl) | (simp [*, errW_none, errW_some] <;> rfl), by repeat (first | (with_reducible first | exact HB.out | apply below_alloc | apply pw_below_drewN | apply below_drew1 | refine below_set ?_ GE138.out) | exact HB.out)⟩
              · rw [if_neg c6] at H
                have c6b0 : decide ((((rd_T26 l0 x7_1).f1).length : Int) < 4096) = false := decide_eq_false c6
                have c6b1 : decide (((rd_T26 l0 x7_1).f1).length < 4096) = false := decide_eq_false (by omega)
                clear c6
                by_cases c11 : (((rd_T26 l0 x7_1).f1).length : Int) > 4100
                · rw [if_pos c11] at H
                  have c11b0 : decide (4100 < (((rd_T26 l0 x7_1).f1).length : Int)) = true := decide_eq_true c11
                  have c11b1 : decide (4100 < ((rd_T26 l0 x7_1).f1).length) = true := decide_eq_true (by omega)
                  clear c11
                  obtain rfl := Option.some.inj H
                  have p137 : 0 ≤ (x7_1 : Int) := of_decide_eq_true (by first | (with_reducible assumption) | assumption)
                  have q137 : x7_1 < (l0.length : Int) := of_decide_eq_true (by first | (with_reducible assumption) | assumption)
                  obtain ⟨ad137, A137_1, c137_1, A137_2, c137_2, e137, hx137_0, hx137_1, hx137_2, hx137_3, hl137_1, hi137_1, hl137_2, hi137_2⟩ := at_T26 HR0.out x7_1 p137 q137
                  cases e137
                  replace hx137_0 := (HB.out.cell (World.block_lt_of_cell? w _ hx137_0)).trans hx137_0
                  replace hx137_1 := (HB.out.cell (World.block_lt_of_cell? w _ hx137_1)).trans hx137_1
                  replace hx137_2 := (HB.out.cell (World.block_lt_of_cell? w _ hx137_2)).trans hx137_2
                  replace hx137_3 := (HB.out.cell (World.block_lt_of_cell? w _ hx137_3)).trans hx137_3
                  have HR137_1 := Aside0.mk hi137_1
                  have HC137_1 := Aside0.mk hl137_1
                  clear hi137_1 hl137_1
                  have HR137_2 := Aside0.mk hi137_2
                  have HC137_2 := Aside0.mk hl137_2
                  clear hi137_2 hl137_2
                  replace p137 := eq_true p137
                  replace q137 := eq_true q137
                  go_wp2_with (first | ((with_reducible refine gate_dst (N := 4) rfl ?_); (try (refine gate_guard (by rfl) ?_; dsimp only)); refine box_event ?hg (N := 4) ?hd (cs := #[.int .u64 0, .slice none 0 0, .slice none 0 0, .int .u64 0]) (t := 26) ?hr ?_; (case hd => rfl); (case hg => rfl); (case hr => first | (go_simp; done) | (go_simp; rfl)); intro gb138 hg w12 hbox hb; have n0_ := Aside0.mk (below_step (belN HB) hb); have n1_ := Aside0.mk (hbox); have n2_ := Aside0.mk ((by rw [hg]; exact (below_size (belN HB)) : w.heap.size ≤ gb138)); have n3_ := Aside0.mk ((by rw [hg]; exact (below_size (belN HB)) : w.heap.size ≤ gb138)); clear HB; have HB := n0_; have BK138 := n1_; have GW138 := n2_; have GE138 := n3_; clear n0_ n1_ n2_ n3_; clear hb hbox hg; obtain ⟨hcz13_0, hcz13_1, hcz13_2, hcz13_3, hfz13_0, hfz13_1, hfz13_2, hfz13_3⟩ := cz4_ (w := w12) BK138.out) | ((with_reducible refine gate_store (t := 26) (p := 4) rfl ?_); refine store_event (t := 26) (p := 4) (v := ?vo_w14) (w1 := ((((w12.setCell ⟨gb138, 0, none⟩ (.int .u64 ((rd_T26 l0 x7_1).f0))).setCell ⟨gb138, 1, none⟩ (.slice A137_1 ((rd_T26 l0 x7_1).f1).length c137_1)).setCell ⟨gb138, 2, none⟩ (.slice A137_2 ((rd_T26 l0 x7_1).f2).length c137_2)).setCell ⟨gb138, 3, none⟩ (.int .u64 ((rd_T26 l0 x7_1).f3)))) ?hg ?ho ?hn ?hr ?_; (case ho => rfl); (case hg => rfl); (case hn => rfl); (case hr => first | (go_simp; done) | (go_simp; rfl)); intro w14 hw; have n0_ : Aside0 (w14.heap[gb138]? = some (.cells #[.int .u64 ((rd_T26 l0 x7_1).f0), .slice A137_1 ((rd_T26 l0 x7_1).f1).length c137_1, .slice A137_2 ((rd_T26 l0 x7_1).f2).length c137_2, .int .u64 ((rd_T26 l0 x7_1).f3)] 26 (0, 0))) := ⟨(by rw [hw]; exact (by (with_reducible repeat (first | refine blk_drewN ?_ _ | refine blk_drew ?_ | refine blk_alloc ?_ _)); refine blk_put (cs := #[.int .u64 ((rd_T26 l0 x7_1).f0), .slice A137_1 ((rd_T26 l0 x7_1).f1).length c137_1, .slice A137_2 ((rd_T26 l0 x7_1).f2).length c137_2, .int .u64 0]) ?_ 3 _ rfl; refine blk_put (cs := #[.int .u64 ((rd_T26 l0 x7_1).f0), .slice A137_1 ((rd_T26 l0 x7_1).f1).length c137_1, .slice none 0 0, .int .u64 0]) ?_ 2 _ rfl; refine blk_put (cs := #[.int .u64 ((rd_T26 l0 x7_1).f0), .slice none 0 0, .slice none 0 0, .int .u64 0]) ?_ 1 _ rfl; refine blk_put (cs := #[.int .u64 0, .slice none 0 0, .slice none 0 0, .int .u64 0]) ?_ 0 _ rfl; (with_reducible repeat (first | refine blk_drewN ?_ _ | refine blk_drew ?_ | refine blk_alloc ?_ _)); exact BK138.out))⟩; have n1_ : Aside0 (Below w.heap.size w w14) := ⟨(by rw [hw]; exact (belN HB))⟩; clear hw; clear BK138; clear HB; have BK138 := n0_; have HB := n1_; clear n0_ n1_; obtain ⟨hcz15_0, hcz15_1, hcz15_2, hcz15_3, hfz15_0, hfz15_1, hfz15_2, hfz15_3⟩ := cz4_ (w := w14) BK138.out))
                  go_ret
                  exact ⟨by first | rfl | (simp [errW_none, errW_some] <;> rfl) | (simp [*, errW_none, errW_some] <;> rfl), by repeat (first | (with_reducible first | exact HB.out | apply below_alloc | apply pw_below_drewN | apply below_drew1 | refine below_set ?_ GE138.out) | exact HB.out)⟩
                · rw [if_neg c11] at H
                  have c11b0 : decide (4100 < (((rd_T26 l0 x7_1).f1).length : Int)) = false := decide_eq_false c11
                  have c11b1 : decide (4100 < ((rd_T26 l0 x7_1).f1).length) = false := decide_eq_false (by omega)
                  clear c11
                  by_cases c16 : (((rd_T26 l0 x7_1).f2).length : Int) > 60
                  · rw [if_pos c16] at H
                    have c16b0 : decide (60 < (((rd_T26 l0 x7_1).f2).length : Int)) = true := decide_eq_true c16
                    have c16b1 : decide (60 < ((rd_T26 l0 x7_1).f2).length) = true := decide_eq_true (by omega)
                    clear c16
                    by_cases c17 : (((rd_T26 l0 x7_1).f2).length : Int) < 4096
                    · rw [if_pos c17] at H
                      have c17b0 : decide ((((rd_T26 l0 x7_1).f2).length : Int) < 4096) = true := decide_eq_true c17
                      have c17b1 : decide (((rd_T26 l0 x7_1).f2).length < 4096) = true := decide_eq_true (by omega)
                      clear c17
                      obtain rfl := Option.some.inj H
                      have p137 : 0 ≤ (x7_1 : Int) := of_decide_eq_true (by first | (with_reducible assumption) | assumption)
                      have q137 : x7_1 < (l0.length : Int) := of_decide_eq_true (by first | (with_reducible assumption) | assumption)
                      obtain ⟨ad137, A137_1, c137_1, A137_2, c137_2, e137, hx137_0, hx137_1, hx137_2, hx137_3, hl137_1, hi137_1, hl137_2, hi137_2⟩ := at_T26 HR0.out x7_1 p137 q137
                      cases e137
                      replace hx137_0 := (HB.out.cell (World.block_lt_of_cell? w _ hx137_0)).trans hx137_0
                      replace hx137_1 := (HB.out.cell (World.block_lt_of_cell? w _ hx137_1)).trans hx137_1
                      replace hx137_2 := (HB.out.cell (World.block_lt_of_cell? w _ hx137_2)).trans hx137_2
                      replace hx137_3 := (HB.out.cell (World.block_lt_of_cell? w _ hx137_3)).trans hx137_3
                      have HR137_1 := Aside0.mk hi137_1
                      have HC137_1 := Aside0.mk hl137_1
                      clear hi137_1 hl137_1
                      have HR137_2 := Aside0.mk hi137_2
                      have HC137_2 := Aside0.mk hl137_2
                      clear hi137_2 hl137_2
                      replace p137 := eq_true p137
                      replace q137 := eq_true q137
                      go_wp2_with (first | ((with_reducible refine gate_dst (N := 4) rfl ?_); (try (refine gate_guard (by rfl) ?_; dsimp only)); refine box_event ?hg (N := 4) ?hd (cs := #[.int .u64 0, .slice none 0 0, .slice none 0 0, .int .u64 0]) (t := 26) ?hr ?_; (case hd => rfl); (case hg => rfl); (case hr => first | (go_simp; done) | (go_simp; rfl)); intro gb138 hg w18 hbox hb; have n0_ := Aside0.mk (below_step (belN HB) hb); have n1_ := Aside0.mk (hbox); have n2_ := Aside0.mk ((by rw [hg]; exact (below_size (belN HB)) : w.heap.size ≤ gb138)); have n3_ := Aside0.mk ((by rw [hg]; exact (below_size (belN HB)) : w.heap.size ≤ gb138)); clear HB; have HB := n0_; have BK138 := n1_; have GW138 := n2_; have GE138 := n3_; clear n0_ n1_ n2_ n3_; clear hb hbox hg; obtain ⟨hcz19_0, hcz19_1, hcz19_2, hcz19_3, hfz19_0, hfz19_1, hfz19_2, hfz19_3⟩ := cz4_ (w := w18) BK138.out) | ((with_reducible refine gate_store (t := 26) (p := 4) rfl ?_); refine store_event (t := 26) (p := 4) (v := ?vo_w20) (w1 := ((((w18.setCell ⟨gb138, 0, none⟩ (.int .u64 ((rd_T26 l0 x7_1).f0))).setCell ⟨gb138, 1, none⟩ (.slice A137_1 ((rd_T26 l0 x7_1).f1).length c137_1)).setCell ⟨gb138, 2, none⟩ (.slice A137_2 ((rd_T26 l0 x7_1).f2).length c137_2)).setCell ⟨gb138, 3, none⟩ (.int .u64 ((rd_T26 l0 x7_1).f3)))) ?hg ?ho ?hn ?hr ?_; (case ho => rfl); (case hg => rfl); (case hn => rfl); (case hr => first | (go_simp; done) | (go_simp; rfl)); intro w20 hw; have n0_ : Aside0 (w20.heap[gb138]? = some (.cells #[.int .u64 ((rd_T26 l0 x7_1).f0), .slice A137_1 ((rd_T26 l0 x7_1).f1).length c137_1, .slice A137_2 ((rd_T26 l0 x7_1).f2).length c137_2, .int .u64 ((rd_T26 l0 x7_1).f3)] 26 (0, 0))) := ⟨(by rw [hw]; exact (by (with_reducible repeat (first | refine blk_drewN ?_ _ | refine blk_drew ?_ | refine blk_alloc ?_ _)); refine blk_put (cs := #[.int .u64 ((rd_T26 l0 x7_1).f0), .slice A137_1 ((rd_T26 l0 x7_1).f1).length c137_1, .slice A137_2 ((rd_T26 l0 x7_1).f2).length c137_2, .int .u64 0]) ?_ 3 _ rfl; refine blk_put (cs := #[.int .u64 ((rd_T26 l0 x7_1).f0), .slice A137_1 ((rd_T26 l0 x7_1).f1).length c137_1, .slice none 0 0, .int .u64 0]) ?_ 2 _ rfl; refine blk_put (cs := #[.int .u64 ((rd_T26 l0 x7_1).f0), .slice none 0 0, .slice none 0 0, .int .u64 0]) ?_ 1 _ rfl; refine blk_put (cs := #[.int .u64 0, .slice none 0 0, .slice none 0 0, .int .u64 0]) ?_ 0 _ rfl; (with_reducible repeat (first | refine blk_drewN ?_ _ | refine blk_drew ?_ | refine blk_alloc ?_ _)); exact BK138.out))⟩; have n1_ : Aside0 (Below w.heap.size w w20) := ⟨(by rw [hw]; exact (belN HB))⟩; clear hw; clear BK138; clear HB; have BK138 := n0_; have HB := n1_; clear n0_ n1_; obtain ⟨hcz21_0, hcz21_1, hcz21_2, hcz21_3, hfz21_0, hfz21_1, hfz21_2, hfz21_3⟩ := cz4_ (w := w20) BK138.out))
                      go_ret
                      exact ⟨by first | rfl | (simp [errW_none, errW_some] <;> rfl) | (simp [*, errW_none, errW_some] <;> rfl), by repeat (first | (with_reducible first | exact HB.out | apply below_alloc | apply pw_below_drewN | apply below_drew1 | refine below_set ?_ GE138.out) | exact HB.out)⟩
                    · rw [if_neg c17] at H
                      have c17b0 : decide ((((rd_T26 l0 x7_1).f2).length : Int) < 4096) = false := decide_eq_false c17
                      have c17b1 : decide (((rd_T26 l0 x7_1).f2).length < 4096) = false := decide_eq_false (by omega)
                      clear c17
                      by_cases c22 : (((rd_T26 l0 x7_1).f2).length : Int) > 4100
                      · rw [if_pos c22] at H
                        have c22b0 : decide (4100 < (((rd_T26 l0 x7_1).f2).length : Int)) = true := decide_eq_true c22
                        have c22b1 : decide (4100 < ((rd_T26 l0 x7_1).f2).length) = true := decide_eq_true (by omega)
                        clear c22
                        obtain rfl := Option.some.inj H
                        have p137 : 0 ≤ (x7_1 : Int) := of_decide_eq_true (by first | (with_reducible assumption) | assumption)
                        have q137 : x7_1 < (l0.length : Int) := of_decide_eq_true (by first | (with_reducible assumption) | assumption)
                        obtain ⟨ad137, A137_1, c137_1, A137_2, c137_2, e137, hx137_0, hx137_1, hx137_2, hx137_3, hl137_1, hi137_1, hl137_2, hi137_2⟩ := at_T26 HR0.out x7_1 p137 q137
                        cases e137
                        replace hx137_0 := (HB.out.cell (World.block_lt_of_cell? w _ hx137_0)).trans hx137_0
                        replace hx137_1 := (HB.out.cell (World.block_lt_of_cell? w _ hx137_1)).trans hx137_1
                        replace hx137_2 := (HB.out.cell (World.block_lt_of_cell? w _ hx137_2)).trans hx137_2
                        replace hx137_3 := (HB.out.cell (World.block_lt_of_cell? w _ hx137_3)).trans hx137_3
                        have HR137_1 := Aside0.mk hi137_1
                        have HC137_1 := Aside0.mk hl137_1
                        clear hi137_1 hl137_1
                        have HR137_2 := Aside0.mk hi137_2
                        have HC137_2 := Aside0.mk hl137_2
                        clear hi137_2 hl137_2
                        replace p137 := eq_true p137
                        replace q137 := eq_true q137
                        go_wp2_with (first | ((with_reducible refine gate_dst (N := 4) rfl ?_); (try (refine gate_guard (by rfl) ?_; dsimp only)); refine box_event ?hg (N := 4) ?hd (cs := #[.int .u64 0, .slice none 0 0, .slice none 0 0, .int .u64 0]) (t := 26) ?hr ?_; (case hd => rfl); (case hg => rfl); (case hr => first | (go_simp; done) | (go_simp; rfl)); intro gb138 hg w23 hbox hb; have n0_ := Aside0.mk (below_step (belN HB) hb); have n1_ := Aside0.mk (hbox); have n2_ := Aside0.mk ((by rw [hg]; exact (below_size (belN HB)) : w.heap.size ≤ gb138)); have n3_ := Aside0.mk ((by rw [hg]; exact (below_size (belN HB)) : w.heap.size ≤ gb138)); clear HB; have HB := n0_; have BK138 := n1_; have GW138 := n2_; have GE138 := n3_; clear n0_ n1_ n2_ n3_; clear hb hbox hg; obtain ⟨hcz24_0, hcz24_1, hcz24_2, hcz24_3, hfz24_0, hfz24_1, hfz24_2, hfz24_3⟩ := cz4_ (w := w23) BK138.out) | ((with_reducible refine gate_store (t := 26) (p := 4) rfl ?_); refine store_event (t := 26) (p := 4) (v := ?vo_w25) (w1 := ((((w23.setCell ⟨gb138, 0, none⟩ (.int .u64 ((rd_T26 l0 x7_1).f0))).setCell ⟨gb138, 1, none⟩ (.slice A137_1 ((rd_T26 l0 x7_1).f1).length c137_1)).setCell ⟨gb138, 2, none⟩ (.slice A137_2 ((rd_T26 l0 x7_1).f2).length c137_2)).setCell ⟨gb138, 3, none⟩ (.int .u64 ((rd_T26 l0 x7_1).f3)))) ?hg ?ho ?hn ?hr ?_; (case ho => rfl); (case hg => rfl); (case hn => rfl); (case hr => first | (go_simp; done) | (go_simp; rfl)); intro w25 hw; have n0_ : Aside0 (w25.heap[gb138]? = some (.cells #[.int .u64 ((rd_T26 l0 x7_1).f0), .slice A137_1 ((rd_T26 l0 x7_1).f1).length c137_1, .slice A137_2 ((rd_T26 l0 x7_1).f2).length c137_2, .int .u64 ((rd_T26 l0 x7_1).f3)] 26 (0, 0))) := ⟨(by rw [hw]; exact (by (with_reducible repeat (first | refine blk_drewN ?_ _ | refine blk_drew ?_ | refine blk_alloc ?_ _)); refine blk_put (cs := #[.int .u64 ((rd_T26 l0 x7_1).f0), .slice A137_1 ((rd_T26 l0 x7_1).f1).length c137_1, .slice A137_2 ((rd_T26 l0 x7_1).f2).length c137_2, .int .u64 0]) ?_ 3 _ rfl; refine blk_put (cs := #[.int .u64 ((rd_T26 l0 x7_1).f0), .slice A137_1 ((rd_T26 l0 x7_1).f1).length c137_1, .slice none 0 0, .int .u64 0]) ?_ 2 _ rfl; refine blk_put (cs := #[.int .u64 ((rd_T26 l0 x7_1).f0), .slice none 0 0, .slice none 0 0, .int .u64 0]) ?_ 1 _ rfl; refine blk_put (cs := #[.int .u64 0, .slice none 0 0, .slice none 0 0, .int .u64 0]) ?_ 0 _ rfl; (with_reducible repeat (first | refine blk_drewN ?_ _ | refine blk_drew ?_ | refine blk_alloc ?_ _)); exact BK138.out))⟩; have n1_ : Aside0 (Below w.heap.size w w25) := ⟨(by rw [hw]; exact (belN HB))⟩; clear hw; clear BK138; clear HB; have BK138 := n0_; have HB := n1_; clear n0_ n1_; obtain ⟨hcz26_0, hcz26_1, hcz26_2, hcz26_3, hfz26_0, hfz26_1, hfz26_2, hfz26_3⟩ := cz4_ (w := w25) BK138.out))
                        go_ret
                        exact ⟨by first | rfl | (simp [errW_none, errW_some] <;> rfl) | (simp [*, errW_none, errW_some] <;> rfl), by repeat (first | (with_reducible first | exact HB.out | apply below_alloc | apply pw_below_drewN | apply below_drew1 | refine below_set ?_ GE138.out) | exact HB.out)⟩
                      · rw [if_neg c22] at H
                        have c22b0 : decide (4100 < (((rd_T26 l0 x7_1).f2).length : Int)) = false := decide_eq_false c22
                        have c22b1 : decide (4100 < ((rd_T26 l0 x7_1).f2).length) = false := decide_eq_false (by omega)
                        clear c22
                        have H' := Aside0.mk H
                        clear H
                        have p137 : 0 ≤ (x7_1 : Int) := of_decide_eq_true (by first | (with_reducible assumption) | assumption)
                        have q137 : x7_1 < (l0.length : Int) := of_decide_eq_true (by first | (with_reducible assumption) | assumption)
                        obtain ⟨ad137, A137_1, c137_1, A137_2, c137_2, e137, hx137_0, hx137_1, hx137_2, hx137_3, hl137_1, hi137_1, hl137_2, hi137_2⟩ := at_T26 HR0.out x7_1 p137 q137
                        cases e137
                        replace hx137_0 := (HB.out.cell (World.block_lt_of_cell? w _ hx137_0)).trans hx137_0
                        replace hx137_1 := (HB.out.cell (World.block_lt_of_cell? w _ hx137_1)).trans hx137_1
                        replace hx137_2 := (HB.out.cell (World.block_lt_of_cell? w _ hx137_2)).trans hx137_2
                        replace hx137_3 := (HB.out.cell (World.block_lt_of_cell? w _ hx137_3)).trans hx137_3
                        have HR137_1 := Aside0.mk hi137_1
                        have HC137_1 := Aside0.mk hl137_1
                        clear hi137_1 hl137_1
                        have HR137_2 := Aside0.mk hi137_2
                        have HC137_2 := Aside0.mk hl137_2
                        clear hi137_2 hl137_2
                        replace p137 := eq_true p137
                        replace q137 := eq_true q137
                        go_wp2_with (first | ((with_reducible refine gate_dst (N := 4) rfl ?_); (try (refine gate_guard (by rfl) ?_; dsimp only)); refine box_event ?hg (N := 4) ?hd (cs := #[.int .u64 0, .slice none 0 0, .slice none 0 0, .int .u64 0]) (t := 26) ?hr ?_; (case hd => rfl); (case hg => rfl); (case hr => first | (go_simp; done) | (go_simp; rfl)); intro gb138 hg w27 hbox hb; have n0_ := Aside0.mk (below_step (belN HB) hb); have n1_ := Aside0.mk (hbox); have n2_ := Aside0.mk ((by rw [hg]; exact (below_size (belN HB)) : w.heap.size ≤ gb138)); have n3_ := Aside0.mk ((by rw [hg]; exact (below_size (belN HB)) : w.heap.size ≤ gb138)); clear HB; have HB := n0_; have BK138 := n1_; have GW138 := n2_; have GE138 := n3_; clear n0_ n1_ n2_ n3_; clear hb hbox hg; obtain ⟨hcz28_0, hcz28_1, hcz28_2, hcz28_3, hfz28_0, hfz28_1, hfz28_2, hfz28_3⟩ := cz4_ (w := w27) BK138.out) | ((with_reducible refine gate_store (t := 26) (p := 4) rfl ?_); refine store_event (t := 26) (p := 4) (v := ?vo_w29) (w1 := ((((w27.setCell ⟨gb138, 0, none⟩ (.int .u64 ((rd_T26 l0 x7_1).f0))).setCell ⟨gb138, 1, none⟩ (.slice A137_1 ((rd_T26 l0 x7_1).f1).length c137_1)).setCell ⟨gb138, 2, none⟩ (.slice A137_2 ((rd_T26 l0 x7_1).f2).length c137_2)).setCell ⟨gb138, 3, none⟩ (.int .u64 ((rd_T26 l0 x7_1).f3)))) ?hg ?ho ?hn ?hr ?_; (case ho => rfl); (case hg => rfl); (case hn => rfl); (case hr => first | (go_simp; done) | (go_simp; rfl)); intro w29 hw; have n0_ : Aside0 (w29.heap[gb138]? = some (.cells #[.int .u64 ((rd_T26 l0 x7_1).f0), .slice A137_1 ((rd_T26 l0 x7_1).f1).length c137_1, .slice A137_2 ((rd_T26 l0 x7_1).f2).length c137_2, .int .u64 ((rd_T26 l0 x7_1).f3)] 26 (0, 0))) := ⟨(by rw [hw]; exact (by (with_reducible repeat (first | refine blk_drewN ?_ _ | refine blk_drew ?_ | refine blk_alloc ?_ _)); refine blk_put (cs := #[.int .u64 ((rd_T26 l0 x7_1).f0), .slice A137_1 ((rd_T26 l0 x7_1).f1).length c137_1, .slice A137_2 ((rd_T26 l0 x7_1).f2).length c137_2, .int .u64 0]) ?_ 3 _ rfl; refine blk_put (cs := #[.int .u64 ((rd_T26 l0 x7_1).f0), .slice A137_1 ((rd_T26 l0 x7_1).f1).length c137_1, .slice none 0 0, .int .u64 0]) ?_ 2 _ rfl; refine blk_put (cs := #[.int .u64 ((rd_T26 l0 x7_1).f0), .slice none 0 0, .slice none 0 0, .int .u64 0]) ?_ 1 _ rfl; refine blk_put (cs := #[.int .u64 0, .slice none 0 0, .slice none 0 0, .int .u64 0]) ?_ 0 _ rfl; (with_reducible repeat (first | refine blk_drewN ?_ _ | refine blk_drew ?_ | refine blk_alloc ?_ _)); exact BK138.out))⟩; have n1_ : Aside0 (Below w.heap.size w w29) := ⟨(by rw [hw]; exact (belN HB))⟩; clear hw; clear BK138; clear HB; have BK138 := n0_; have HB := n1_; clear n0_ n1_; obtain ⟨hcz30_0, hcz30_1, hcz30_2, hcz30_3, hfz30_0, hfz30_1, hfz30_2, hfz30_3⟩ := cz4_ (w := w29) BK138.out))
                        go_roundg k1
                        case measure => have := HK1.out; omega
                        case rel => exact ⟨(wrap64 (x7_1 + 1)), (by first | rfl | (simp; done) | (simp [*]; done)), H', ⟨by have := HK1.out; omega⟩, ⟨by repeat (first | (with_reducible first | exact HB.out | apply below_alloc | apply pw_below_drewN | apply below_drew1 | refine below_set ?_ GE138.out) | exact HB.out)⟩⟩
                  · rw [if_neg c16] at H
                    have c16b0 : decide (60 < (((rd_T26 l0 x7_1).f2).length : Int)) = false := decide_eq_false c16
                    have c16b1 : decide (60 < ((rd_T26 l0 x7_1).f2).length) = false := decide_eq_false (by omega)
                    clear c16
                    by_cases c31 : (((rd_T26 l0 x7_1).f2).length : Int) > 4100
                    · rw [if_pos c31] at H
                      have c31b0 : decide (4100 < (((rd_T26 l0 x7_1).f2).length : Int)) = true := decide_eq_true c31
                      have c31b1 : decide (4100 < ((rd_T26 l0 x7_1).f2).length) = true := decide_eq_true (by omega)
                      clear c31
                      obtain rfl := Option.some.inj H
                      have p137 : 0 ≤ (x7_1 : Int) := of_decide_eq_true (by first | (with_reducible assumption) | assumption)
                      have q137 : x7_1 < (l0.length : Int) := of_decide_eq_true (by first | (with_reducible assumption) | assumption)
                      obtain ⟨ad137, A137_1, c137_1, A137_2, c137_2, e137, hx137_0, hx137_1, hx137_2, hx137_3, hl137_1, hi137_1, hl137_2, hi137_2⟩ := at_T26 HR0.out x7_1 p137 q137
                      cases e137
                      replace hx137_0 := (HB.out.cell (World.block_lt_of_cell? w _ hx137_0)).trans hx137_0
                      replace hx137_1 := (HB.out.cell (World.block_lt_of_cell? w _ hx137_1)).trans hx137_1
                      replace hx137_2 := (HB.out.cell (World.block_lt_of_cell? w _ hx137_2)).trans hx137_2
                      replace hx137_3 := (HB.out.cell (World.block_lt_of_cell? w _ hx137_3)).trans hx137_3
                      have HR137_1 := Aside0.mk hi137_1
                      have HC137_1 := Aside0.mk hl137_1
                      clear hi137_1 hl137_1
                      have HR137_2 := Aside0.mk hi137_2
                      have HC137_2 := Aside0.mk hl137_2
                      clear hi137_2 hl137_2
                      replace p137 := eq_true p137
                      replace q137 := eq_true q137
                      go_wp2_with (first | ((with_reducible refine gate_dst (N := 4) rfl ?_); (try (refine gate_guard (by rfl) ?_; dsimp only)); refine box_event ?hg (N := 4) ?hd (cs := #[.int .u64 0, .slice none 0 0, .slice none 0 0, .int .u64 0]) (t := 26) ?hr ?_; (case hd => rfl); (case hg => rfl); (case hr => first | (go_simp; done) | (go_simp; rfl)); intro gb138 hg w32 hbox hb; have n0_ := Aside0.mk (below_step (belN HB) hb); have n1_ := Aside0.mk (hbox); have n2_ := Aside0.mk ((by rw [hg]; exact (below_size (belN HB)) : w.heap.size ≤ gb138)); have n3_ := Aside0.mk ((by rw [hg]; exact (below_size (belN HB)) : w.heap.size ≤ gb138)); clear HB; have HB := n0_; have BK138 := n1_; have GW138 := n2_; have GE138 := n3_; clear n0_ n1_ n2_ n3_; clear hb hbox hg; obtain ⟨hcz33_0, hcz33_1, hcz33_2, hcz33_3, hfz33_0, hfz33_1, hfz33_2, hfz33_3⟩ := cz4_ (w := w32) BK138.out) | ((with_reducible refine gate_store (t := 26) (p := 4) rfl ?_); refine store_event (t := 26) (p := 4) (v := ?vo_w34) (w1 := ((((w32.setCell ⟨gb138, 0, none⟩ (.int .u64 ((rd_T26 l0 x7_1).f0))).setCell ⟨gb138, 1, none⟩ (.slice A137_1 ((rd_T26 l0 x7_1).f1).length c137_1)).setCell ⟨gb138, 2, none⟩ (.slice A137_2 ((rd_T26 l0 x7_1).f2).length c137_2)).setCell ⟨gb138, 3, none⟩ (.int .u64 ((rd_T26 l0 x7_1).f3)))) ?hg ?ho ?hn ?hr ?_; (case ho => rfl); (case hg => rfl); (case hn => rfl); (case hr => first | (go_simp; done) | (go_simp; rfl)); intro w34 hw; have n0_ : Aside0 (w34.heap[gb138]? = some (.cells #[.int .u64 ((rd_T26 l0 x7_1).f0), .slice A137_1 ((rd_T26 l0 x7_1).f1).length c137_1, .slice A137_2 ((rd_T26 l0 x7_1).f2).length c137_2, .int .u64 ((rd_T26 l0 x7_1).f3)] 26 (0, 0))) := ⟨(by rw [hw]; exact (by (with_reducible repeat (first | refine blk_drewN ?_ _ | refine blk_drew ?_ | refine blk_alloc ?_ _)); refine blk_put (cs := #[.int .u64 ((rd_T26 l0 x7_1).f0), .slice A137_1 ((rd_T26 l0 x7_1).f1).length c137_1, .slice A137_2 ((rd_T26 l0 x7_1).f2).length c137_2, .int .u64 0]) ?_ 3 _ rfl; refine blk_put (cs := #[.int .u64 ((rd_T26 l0 x7_1).f0), .slice A137_1 ((rd_T26 l0 x7_1).f1).length c137_1, .slice none 0 0, .int .u64 0]) ?_ 2 _ rfl; refine blk_put (cs := #[.int .u64 ((rd_T26 l0 x7_1).f0), .slice none 0 0, .slice none 0 0, .int .u64 0]) ?_ 1 _ rfl; refine blk_put (cs := #[.int .u64 0, .slice none 0 0, .slice none 0 0, .int .u64 0]) ?_ 0 _ rfl; (with_reducible repeat (first | refine blk_drewN ?_ _ | refine blk_drew ?_ | refine blk_alloc ?_ _)); exact BK138.out))⟩; have n1_ : Aside0 (Below w.heap.size w w34) := ⟨(by rw [hw]; exact (belN HB))⟩; clear hw; clear BK138; clear HB; have BK138 := n0_; have HB := n1_; clear n0_ n1_; obtain ⟨hcz35_0, hcz35_1, hcz35_2, hcz35_3, hfz35_0, hfz35_1, hfz35_2, hfz35_3⟩ := cz4_ (w := w34) BK138.out))
                      go_ret
                      exact ⟨by first | rfl | (simp [errW_none, errW_some] <;> rfl) | (simp [*, errW_none, errW_some] <;> rfl), by repeat (first | (with_reducible first | exact HB.out | apply below_alloc | apply pw_below_drewN | apply below_drew1 | refine below_set ?_ GE138.out) | exact HB.out)⟩
                    · rw [if_neg c31] at H
                      have c31b0 : decide (4100 < (((rd_T26 l0 x7_1).f2).length : Int)) = false := decide_eq_false c31
                      have c31b1 : decide (4100 < ((rd_T26 l0 x7_1).f2).length) = false := decide_eq_false (by omega)
                      clear c31
                      have H' := Aside0.mk H
                      clear H
                      have p137 : 0 ≤ (x7_1 : Int) := of_decide_eq_true (by first | (with_reducible assumption) | assumption)
                      have q137 : x7_1 < (l0.length : Int) := of_decide_eq_true (by first | (with_reducible assumption) | assumption)
                      obtain ⟨ad137, A137_1, c137_1, A137_2, c137_2, e137, hx137_0, hx137_1, hx137_2, hx137_3, hl137_1, hi137_1, hl137_2, hi137_2⟩ := at_T26 HR0.out x7_1 p137 q137
                      cases e137
                      replace hx137_0 := (HB.out.cell (World.block_lt_of_cell? w _ hx137_0)).trans hx137_0
                      replace hx137_1 := (HB.out.cell (World.block_lt_of_cell? w _ hx137_1)).trans hx137_1
                      replace hx137_2 := (HB.out.cell (World.block_lt_of_cell? w _ hx137_2)).trans hx137_2
                      replace hx137_3 := (HB.out.cell (World.block_lt_of_cell? w _ hx137_3)).trans hx137_3
                      have HR137_1 := Aside0.mk hi137_1
                      have HC137_1 := Aside0.mk hl137_1
                      clear hi137_1 hl137_1
                      have HR137_2 := Aside0.mk hi137_2
                      have HC137_2 := Aside0.mk hl137_2
                      clear hi137_2 hl137_2
                      replace p137 := eq_true p137
                      replace q137 := eq_true q137
                      go_wp2_with (first | ((with_reducible refine gate_dst (N := 4) rfl ?_); (try (refine gate_guard (by rfl) ?_; dsimp only)); refine box_event ?hg (N := 4) ?hd (cs := #[.int .u64 0, .slice none 0 0, .slice none 0 0, .int .u64 0]) (t := 26) ?hr ?_; (case hd => rfl); (case hg => rfl); (case hr => first | (go_simp; done) | (go_simp; rfl)); intro gb138 hg w36 hbox hb; have n0_ := Aside0.mk (below_step (belN HB) hb); have n1_ := Aside0.mk (hbox); have n2_ := Aside0.mk ((by rw [hg]; exact (below_size (belN HB)) : w.heap.size ≤ gb138)); have n3_ := Aside0.mk ((by rw [hg]; exact (below_size (belN HB)) : w.heap.size ≤ gb138)); clear HB; have HB := n0_; have BK138 := n1_; have GW138 := n2_; have GE138 := n3_; clear n0_ n1_ n2_ n3_; clear hb hbox hg; obtain ⟨hcz37_0, hcz37_1, hcz37_2, hcz37_3, hfz37_0, hfz37_1, hfz37_2, hfz37_3⟩ := cz4_ (w := w36) BK138.out) | ((with_reducible refine gate_store (t := 26) (p := 4) rfl ?_); refine store_event (t := 26) (p := 4) (v := ?vo_w38) (w1 := ((((w36.setCell ⟨gb138, 0, none⟩ (.int .u64 ((rd_T26 l0 x7_1).f0))).setCell ⟨gb138, 1, none⟩ (.slice A137_1 ((rd_T26 l0 x7_1).f1).length c137_1)).setCell ⟨gb138, 2, none⟩ (.slice A137_2 ((rd_T26 l0 x7_1).f2).length c137_2)).setCell ⟨gb138, 3, none⟩ (.int .u64 ((rd_T26 l0 x7_1).f3)))) ?hg ?ho ?hn ?hr ?_; (case ho => rfl); (case hg => rfl); (case hn => rfl); (case hr => first | (go_simp; done) | (go_simp; rfl)); intro w38 hw; have n0_ : Aside0 (w38.heap[gb138]? = some (.cells #[.int .u64 ((rd_T26 l0 x7_1).f0), .slice A137_1 ((rd_T26 l0 x7_1).f1).length c137_1, .slice A137_2 ((rd_T26 l0 x7_1).f2).length c137_2, .int .u64 ((rd_T26 l0 x7_1).f3)] 26 (0, 0))) := ⟨(by rw [hw]; exact (by (with_reducible repeat (first | refine blk_drewN ?_ _ | refine blk_drew ?_ | refine blk_alloc ?_ _)); refine blk_put (cs := #[.int .u64 ((rd_T26 l0 x7_1).f0), .slice A137_1 ((rd_T26 l0 x7_1).f1).length c137_1, .slice A137_2 ((rd_T26 l0 x7_1).f2).length c137_2, .int .u64 0]) ?_ 3 _ rfl; refine blk_put (cs := #[.int .u64 ((rd_T26 l0 x7_1).f0), .slice A137_1 ((rd_T26 l0 x7_1).f1).length c137_1, .slice none 0 0, .int .u64 0]) ?_ 2 _ rfl; refine blk_put (cs := #[.int .u64 ((rd_T26 l0 x7_1).f0), .slice none 0 0, .slice none 0 0, .int .u64 0]) ?_ 1 _ rfl; refine blk_put (cs := #[.int .u64 0, .slice none 0 0, .slice none 0 0, .int .u64 0]) ?_ 0 _ rfl; (with_reducible repeat (first | refine blk_drewN ?_ _ | refine blk_drew ?_ | refine blk_alloc ?_ _)); exact BK138.out))⟩; have n1_ : Aside0 (Below w.heap.size w w38) := ⟨(by rw [hw]; exact (belN HB))⟩; clear hw; clear BK138; clear HB; have BK138 := n0_; have HB := n1_; clear n0_ n1_; obtain ⟨hcz39_0, hcz39_1, hcz39_2, hcz39_3, hfz39_0, hfz39_1, hfz39_2, hfz39_3⟩ := cz4_ (w := w38) BK138.out))
                      go_roundg k1
                      case measure => have := HK1.out; omega
                      case rel => exact ⟨(wrap64 (x7_1 + 1)), (by first | rfl | (simp; done) | (simp [*]; done)), H', ⟨by have := HK1.out; omega⟩, ⟨by repeat (first | (with_reducible first | exact HB.out | apply below_alloc | apply pw_below_drewN | apply below_drew1 | refine below_set ?_ GE138.out) | exact HB.out)⟩⟩
            · rw [if_neg c5] at H
              have c5b0 : decide (60 < (((rd_T26 l0 x7_1).f1).length : Int)) = false := decide_eq_false c5
              have c5b1 : decide (60 < ((rd_T26 l0 x7_1).f1).length) = false := decide_eq_false (by omega)
              clear c5
              by_cases c40 : (((rd_T26 l0 x7_1).f1).length : Int) > 4100
              · rw [if_pos c40] at H
                have c40b0 : decide (4100 < (((rd_T26 l0 x7_1).f1).length : Int)) = true := decide_eq_true c40
                have c40b1 : decide (4100 < ((rd_T26 l0 x7_1).f1).length) = true := decide_eq_true (by omega)
                clear c40
                obtain rfl := Option.some.inj H
                have p137 : 0 ≤ (x7_1 : Int) := of_decide_eq_true (by first | (with_reducible assumption) | assumption)
                have q137 : x7_1 < (l0.length : Int) := of_decide_eq_true (by first | (with_reducible assumption) | assumption)
                obtain ⟨ad137, A137_1, c137_1, A137_2, c137_2, e137, hx137_0, hx137_1, hx137_2, hx137_3, hl137_1, hi137_1, hl137_2, hi137_2⟩ := at_T26 HR0.out x7_1 p137 q137
                cases e137
                replace hx137_0 := (HB.out.cell (World.block_lt_of_cell? w _ hx137_0)).trans hx137_0
                replace hx137_1 := (HB.out.cell (World.block_lt_of_cell? w _ hx137_1)).trans hx137_1
                replace hx137_2 := (HB.out.cell (World.block_lt_of_cell? w _ hx137_2)).trans hx137_2
                replace hx137_3 := (HB.out.cell (World.block_lt_of_cell? w _ hx137_3)).trans hx137_3
                have HR137_1 := Aside0.mk hi137_1
                have HC137_1 := Aside0.mk hl137_1
                clear hi137_1 hl137_1
                have HR137_2 := Aside0.mk hi137_2
                have HC137_2 := Aside0.mk hl137_2
                clear hi137_2 hl137_2
                replace p137 := eq_true p137
                replace q137 := eq_true q137
                go_wp2_with (first | ((with_reducible refine gate_dst (N := 4) rfl ?_); (try (refine gate_guard (by rfl) ?_; dsimp only)); refine box_event ?hg (N := 4) ?hd (cs := #[.int .u64 0, .slice none 0 0, .slice none 0 0, .int .u64 0]) (t := 26) ?hr ?_; (case hd => rfl); (case hg => rfl); (case hr => first | (go_simp; done) | (go_simp; rfl)); intro gb138 hg w41 hbox hb; have n0_ := Aside0.mk (below_step (belN HB) hb); have n1_ := Aside0.mk (hbox); have n2_ := Aside0.mk ((by rw [hg]; exact (below_size (belN HB)) : w.heap.size ≤ gb138)); have n3_ := Aside0.mk ((by rw [hg]; exact (below_size (belN HB)) : w.heap.size ≤ gb138)); clear HB; have HB := n0_; have BK138 := n1_; have GW138 := n2_; have GE138 := n3_; clear n0_ n1_ n2_ n3_; clear hb hbox hg; obtain ⟨hcz42_0, hcz42_1, hcz42_2, hcz42_3, hfz42_0, hfz42_1, hfz42_2, hfz42_3⟩ := cz4_ (w := w41) BK138.out) | ((with_reducible refine gate_store (t := 26) (p := 4) rfl ?_); refine store_event (t := 26) (p := 4) (v := ?vo_w43) (w1 := ((((w41.setCell ⟨gb138, 0, none⟩ (.int .u64 ((rd_T26 l0 x7_1).f0))).setCell ⟨gb138, 1, none⟩ (.slice A137_1 ((rd_T26 l0 x7_1).f1).length c137_1)).setCell ⟨gb138, 2, none⟩ (.slice A137_2 ((rd_T26 l0 x7_1).f2).length c137_2)).setCell ⟨gb138, 3, none⟩ (.int .u64 ((rd_T26 l0 x7_1).f3)))) ?hg ?ho ?hn ?hr ?_; (case ho => rfl); (case hg => rfl); (case hn => rfl); (case hr => first | (go_simp; done) | (go_simp; rfl)); intro w43 hw; have n0_ : Aside0 (w43.heap[gb138]? = some (.cells #[.int .u64 ((rd_T26 l0 x7_1).f0), .slice A137_1 ((rd_T26 l0 x7_1).f1).length c137_1, .slice A137_2 ((rd_T26 l0 x7_1).f2).length c137_2, .int .u64 ((rd_T26 l0 x7_1).f3)] 26 (0, 0))) := ⟨(by rw [hw]; exact (by (with_reducible repeat (first | refine blk_drewN ?_ _ | refine blk_drew ?_ | refine blk_alloc ?_ _)); refine blk_put (cs := #[.int .u64 ((rd_T26 l0 x7_1).f0), .slice A137_1 ((rd_T26 l0 x7_1).f1).length c137_1, .slice A137_2 ((rd_T26 l0 x7_1).f2).length c137_2, .int .u64 0]) ?_ 3 _ rfl; refine blk_put (cs := #[.int .u64 ((rd_T26 l0 x7_1).f0), .slice A137_1 ((rd_T26 l0 x7_1).f1).length c137_1, .slice none 0 0, .int .u64 0]) ?_ 2 _ rfl; refine blk_put (cs := #[.int .u64 ((rd_T26 l0 x7_1).f0), .slice none 0 0, .slice none 0 0, .int .u64 0]) ?_ 1 _ rfl; refine blk_put (cs := #[.int .u64 0, .slice none 0 0, .slice none 0 0, .int .u64 0]) ?_ 0 _ rfl; (with_reducible repeat (first | refine blk_drewN ?_ _ | refine blk_drew ?_ | refine blk_alloc ?_ _)); exact BK138.out))⟩; have n1_ : Aside0 (Below w.heap.size w w43) := ⟨(by rw [hw]; exact (belN HB))⟩; clear hw; clear BK138; clear HB; have BK138 := n0_; have HB := n1_; clear n0_ n1_; obtain ⟨hcz44_0, hcz44_1, hcz44_2, hcz44_3, hfz44_0, hfz44_1, hfz44_2, hfz44_3⟩ := cz4_ (w := w43) BK138.out))
                go_ret
                exact ⟨by first | rfl | (simp [errW_none, errW_some] <;> rfl) | (simp [*, errW_none, errW_some] <;> rfl), by repeat (first | (with_reducible first | exact HB.out | apply below_alloc | apply pw_below_drewN | apply below_drew1 | refine below_set ?_ GE138.out) | exact HB.out)⟩
              · rw [if_neg c40] at H
                have c40b0 : decide (4100 < (((rd_T26 l0 x7_1).f1).length : Int)) = false := decide_eq_false c40
                have c40b1 : decide (4100 < ((rd_T26 l0 x7_1).f1).length) = false := decide_eq_false (by omega)
                clear c40
                by_cases c45 : (((rd_T26 l0 x7_1).f2).length : Int) > 60
                · rw [if_pos c45] at H
                  have c45b0 : decide (60 < (((rd_T26 l0 x7_1).f2).length : Int)) = true := decide_eq_true c45
                  have c45b1 : decide (60 < ((rd_T26 l0 x7_1).f2).length) = true := decide_eq_true (by omega)
                  clear c45
                  by_cases c46 : (((rd_T26 l0 x7_1).f2).length : Int) < 4096
                  · rw [if_pos c46] at H
                    have c46b0 : decide ((((rd_T26 l0 x7_1).f2).length : Int) < 4096) = true := decide_eq_true c46
                    have c46b1 : decide (((rd_T26 l0 x7_1).f2).length < 4096) = true := decide_eq_true (by omega)
                    clear c46
                    obtain rfl := Option.some.inj H
                    have p137 : 0 ≤ (x7_1 : Int) := of_decide_eq_true (by first | (with_reducible assumption) | assumption)
                    have q137 : x7_1 < (l0.length : Int) := of_decide_eq_true (by first | (with_reducible assumption) | assumption)
                    obtain ⟨ad137, A137_1, c137_1, A137_2, c137_2, e137, hx137_0, hx137_1, hx137_2, hx137_3, hl137_1, hi137_1, hl137_2, hi137_2⟩ := at_T26 HR0.out x7_1 p137 q137
                    cases e137
                    replace hx137_0 := (HB.out.cell (World.block_lt_of_cell? w _ hx137_0)).trans hx137_0
                    replace hx137_1 := (HB.out.cell (World.block_lt_of_cell? w _ hx137_1)).trans hx137_1
                    replace hx137_2 := (HB.out.cell (World.block_lt_of_cell? w _ hx137_2)).trans hx137_2
                    replace hx137_3 := (HB.out.cell (World.block_lt_of_cell? w _ hx137_3)).trans hx137_3
                    have HR137_1 := Aside0.mk hi137_1
                    have HC137_1 := Aside0.mk hl137_1
                    clear hi137_1 hl137_1
                    have HR137_2 := Aside0.mk hi137_2
                    have HC137_2 := Aside0.mk hl137_2
                    clear hi137_2 hl137_2
                    replace p137 := eq_true p137
                    replace q137 := eq_true q137
                    go_wp2_with (first | ((with_reducible refine gate_dst (N := 4) rfl ?_); (try (refine gate_guard (by rfl) ?_; dsimp only)); refine box_event ?hg (N := 4) ?hd (cs := #[.int .u64 0, .slice none 0 0, .slice none 0 0, .int .u64 0]) (t := 26) ?hr ?_; (case hd => rfl); (case hg => rfl); (case hr => first | (go_simp; done) | (go_simp; rfl)); intro gb138 hg w47 hbox hb; have n0_ := Aside0.mk (below_step (belN HB) hb); have n1_ := Aside0.mk (hbox); have n2_ := Aside0.mk ((by rw [hg]; exact (below_size (belN HB)) : w.heap.size ≤ gb138)); have n3_ := Aside0.mk ((by rw [hg]; exact (below_size (belN HB)) : w.heap.size ≤ gb138)); clear HB; have HB := n0_; have BK138 := n1_; have GW138 := n2_; have GE138 := n3_; clear n0_ n1_ n2_ n3_; clear hb hbox hg; obtain ⟨hcz48_0, hcz48_1, hcz48_2, hcz48_3, hfz48_0, hfz48_1, hfz48_2, hfz48_3⟩ := cz4_ (w := w47) BK138.out) | ((with_reducible refine gate_store (t := 26) (p := 4) rfl ?_); refine store_event (t := 26) (p := 4) (v := ?vo_w49) (w1 := ((((w47.setCell ⟨gb138, 0, none⟩ (.int .u64 ((rd_T26 l0 x7_1).f0))).setCell ⟨gb138, 1, none⟩ (.slice A137_1 ((rd_T26 l0 x7_1).f1).length c137_1)).setCell ⟨gb138, 2, none⟩ (.slice A137_2 ((rd_T26 l0 x7_1).f2).length c137_2)).setCell ⟨gb138, 3, none⟩ (.int .u64 ((rd_T26 l0 x7_1).f3)))) ?hg ?ho ?hn ?hr ?_; (case ho => rfl); (case hg => rfl); (case hn => rfl); (case hr => first | (go_simp; done) | (go_simp; rfl)); intro w49 hw; have n0_ : Aside0 (w49.heap[gb138]? = some (.cells #[.int .u64 ((rd_T26 l0 x7_1).f0), .slice A137_1 ((rd_T26 l0 x7_1).f1).length c137_1, .slice A137_2 ((rd_T26 l0 x7_1).f2).length c137_2, .int .u64 ((rd_T26 l0 x7_1).f3)] 26 (0, 0))) := ⟨(by rw [hw]; exact (by (with_reducible repeat (first | refine blk_drewN ?_ _ | refine blk_drew ?_ | refine blk_alloc ?_ _)); refine blk_put (cs := #[.int .u64 ((rd_T26 l0 x7_1).f0), .slice A137_1 ((rd_T26 l0 x7_1).f1).length c137_1, .slice A137_2 ((rd_T26 l0 x7_1).f2).length c137_2, .int .u64 0]) ?_ 3 _ rfl; refine blk_put (cs := #[.int .u64 ((rd_T26 l0 x7_1).f0), .slice A137_1 ((rd_T26 l0 x7_1).f1).length c137_1, .slice none 0 0, .int .u64 0]) ?_ 2 _ rfl; refine blk_put (cs := #[.int .u64 ((rd_T26 l0 x7_1).f0), .slice none 0 0, .slice none 0 0, .int .u64 0]) ?_ 1 _ rfl; refine blk_put (cs := #[.int .u64 0, .slice none 0 0, .slice none 0 0, .int .u64 0]) ?_ 0 _ rfl; (with_reducible repeat (first | refine blk_drewN ?_ _ | refine blk_drew ?_ | refine blk_alloc ?_ _)); exact BK138.out))⟩; have n1_ : Aside0 (Below w.heap.size w w49) := ⟨(by rw [hw]; exact (belN HB))⟩; clear hw; clear BK138; clear HB; have BK138 := n0_; have HB := n1_; clear n0_ n1_; obtain ⟨hcz50_0, hcz50_1, hcz50_2, hcz50_3, hfz50_0, hfz50_1, hfz50_2, hfz50_3⟩ := cz4_ (w := w49) BK138.out))
                    go_ret
                    exact ⟨by first | rfl | (simp [errW_none, errW_some] <;> rfl) | (simp [*, errW_none, errW_some] <;> rfl), by repeat (first | (with_reducible first | exact HB.out | apply below_alloc | apply pw_below_drewN | apply below_drew1 | refine below_set ?_ GE138.out) | exact HB.out)⟩
                  · rw [if_neg c46] at H
                    have c46b0 : decide ((((rd_T26 l0 x7_1).f2).length : Int) < 4096) = false := decide_eq_false c46
                    have c46b1 : decide (((rd_T26 l0 x7_1).f2).length < 4096) = false := decide_eq_false (by omega)
                    clear c46
                    by_cases c51 : (((rd_T26 l0 x7_1).f2).length : Int) > 4100
                    · rw [if_pos c51] at H
                      have c51b0 : decide (4100 < (((rd_T26 l0 x7_1).f2).length : Int)) = true := decide_eq_true c51
                      have c51b1 : decide (4100 < ((rd_T26 l0 x7_1).f2).length) = true := decide_eq_true (by omega)
                      clear c51
                      obtain rfl := Option.some.inj H
                      have p137 : 0 ≤ (x7_1 : Int) := of_decide_eq_true (by first | (with_reducible assumption) | assumption)
                      have q137 : x7_1 < (l0.length : Int) := of_decide_eq_true (by first | (with_reducible assumption) | assumption)
                      obtain ⟨ad137, A137_1, c137_1, A137_2, c137_2, e137, hx137_0, hx137_1, hx137_2, hx137_3, hl137_1, hi137_1, hl137_2, hi137_2⟩ := at_T26 HR0.out x7_1 p137 q137
                      cases e137
                      replace hx137_0 := (HB.out.cell (World.block_lt_of_cell? w _ hx137_0)).trans hx137_0
                      replace hx137_1 := (HB.out.cell (World.block_lt_of_cell? w _ hx137_1)).trans hx137_1
                      replace hx137_2 := (HB.out.cell (World.block_lt_of_cell? w _ hx137_2)).trans hx137_2
                      replace hx137_3 := (HB.out.cell (World.block_lt_of_cell? w _ hx137_3)).trans hx137_3
                      have HR137_1 := Aside0.mk hi137_1
                      have HC137_1 := Aside0.mk hl137_1
                      clear hi137_1 hl137_1
                      have HR137_2 := Aside0.mk hi137_2
                      have HC137_2 := Aside0.mk hl137_2
                      clear hi137_2 hl137_2
                      replace p137 := eq_true p137
                      replace q137 := eq_true q137
                      go_wp2_with (first | ((with_reducible refine gate_dst (N := 4) rfl ?_); (try (refine gate_guard (by rfl) ?_; dsimp only)); refine box_event ?hg (N := 4) ?hd (cs := #[.int .u64 0, .slice none 0 0, .slice none 0 0, .int .u64 0]) (t := 26) ?hr ?_; (case hd => rfl); (case hg => rfl); (case hr => first | (go_simp; done) | (go_simp; rfl)); intro gb138 hg w52 hbox hb; have n0_ := Aside0.mk (below_step (belN HB) hb); have n1_ := Aside0.mk (hbox); have n2_ := Aside0.mk ((by rw [hg]; exact (below_size (belN HB)) : w.heap.size ≤ gb138)); have n3_ := Aside0.mk ((by rw [hg]; exact (below_size (belN HB)) : w.heap.size ≤ gb138)); clear HB; have HB := n0_; have BK138 := n1_; have GW138 := n2_; have GE138 := n3_; clear n0_ n1_ n2_ n3_; clear hb hbox hg; obtain ⟨hcz53_0, hcz53_1, hcz53_2, hcz53_3, hfz53_0, hfz53_1, hfz53_2, hfz53_3⟩ := cz4_ (w := w52) BK138.out) | ((with_reducible refine gate_store (t := 26) (p := 4) rfl ?_); refine store_event (t := 26) (p := 4) (v := ?vo_w54) (w1 := ((((w52.setCell ⟨gb138, 0, none⟩ (.int .u64 ((rd_T26 l0 x7_1).f0))).setCell ⟨gb138, 1, none⟩ (.slice A137_1 ((rd_T26 l0 x7_1).f1).length c137_1)).setCell ⟨gb138, 2, none⟩ (.slice A137_2 ((rd_T26 l0 x7_1).f2).length c137_2)).setCell ⟨gb138, 3, none⟩ (.int .u64 ((rd_T26 l0 x7_1).f3)))) ?hg ?ho ?hn ?hr ?_; (case ho => rfl); (case hg => rfl); (case hn => rfl); (case hr => first | (go_simp; done) | (go_simp; rfl)); intro w54 hw; have n0_ : Aside0 (w54.heap[gb138]? = some (.cells #[.int .u64 ((rd_T26 l0 x7_1).f0), .slice A137_1 ((rd_T26 l0 x7_1).f1).length c137_1, .slice A137_2 ((rd_T26 l0 x7_1).f2).length c137_2, .int .u64 ((rd_T26 l0 x7_1).f3)] 26 (0, 0))) := ⟨(by rw [hw]; exact (by (with_reducible repeat (first | refine blk_drewN ?_ _ | refine blk_drew ?_ | refine blk_alloc ?_ _)); refine blk_put (cs := #[.int .u64 ((rd_T26 l0 x7_1).f0), .slice A137_1 ((rd_T26 l0 x7_1).f1).length c137_1, .slice A137_2 ((rd_T26 l0 x7_1).f2).length c137_2, .int .u64 0]) ?_ 3 _ rfl; refine blk_put (cs := #[.int .u64 ((rd_T26 l0 x7_1).f0), .slice A137_1 ((rd_T26 l0 x7_1).f1).length c137_1, .slice none 0 0, .int .u64 0]) ?_ 2 _ rfl; refine blk_put (cs := #[.int .u64 ((rd_T26 l0 x7_1).f0), .slice none 0 0, .slice none 0 0, .int .u64 0]) ?_ 1 _ rfl; refine blk_put (cs := #[.int .u64 0, .slice none 0 0, .slice none 0 0, .int .u64 0]) ?_ 0 _ rfl; (with_reducible repeat (first | refine blk_drewN ?_ _ | refine blk_drew ?_ | refine blk_alloc ?_ _)); exact BK138.out))⟩; have n1_ : Aside0 (Below w.heap.size w w54) := ⟨(by rw [hw]; exact (belN HB))⟩; clear hw; clear BK138; clear HB; have BK138 := n0_; have HB := n1_; clear n0_ n1_; obtain ⟨hcz55_0, hcz55_1, hcz55_2, hcz55_3, hfz55_0, hfz55_1, hfz55_2, hfz55_3⟩ := cz4_ (w := w54) BK138.out))
                      go_ret
                      exact ⟨by first | rfl | (simp [errW_none, errW_some] <;> rfl) | (simp [*, errW_none, errW_some] <;> rfl), by repeat (first | (with_reducible first | exact HB.out | apply below_alloc | apply pw_below_drewN | apply below_drew1 | refine below_set ?_ GE138.out) | exact HB.out)⟩
                    · rw [if_neg c51] at H
                      have c51b0 : decide (4100 < (((rd_T26 l0 x7_1).f2).length : Int)) = false := decide_eq_false c51
                      have c51b1 : decide (4100 < ((rd_T26 l0 x7_1).f2).length) = false := decide_eq_false (by omega)
                      clear c51
                      have H' := Aside0.mk H
                      clear H
                      have p137 : 0 ≤ (x7_1 : Int) := of_decide_eq_true (by first | (with_reducible assumption) | assumption)
                      have q137 : x7_1 < (l0.length : Int) := of_decide_eq_true (by first | (with_reducible assumption) | assumption)
                      obtain ⟨ad137, A137_1, c137_1, A137_2, c137_2, e137, hx137_0, hx137_1, hx137_2, hx137_3, hl137_1, hi137_1, hl137_2, hi137_2⟩ := at_T26 HR0.out x7_1 p137 q137
                      cases e137
                      replace hx137_0 := (HB.out.cell (World.block_lt_of_cell? w _ hx137_0)).trans hx137_0
                      replace hx137_1 := (HB.out.cell (World.block_lt_of_cell? w _ hx137_1)).trans hx137_1
                      replace hx137_2 := (HB.out.cell (World.block_lt_of_cell? w _ hx137_2)).trans hx137_2
                      replace hx137_3 := (HB.out.cell (World.block_lt_of_cell? w _ hx137_3)).trans hx137_3
                      have HR137_1 := Aside0.mk hi137_1
                      have HC137_1 := Aside0.mk hl137_1
                      clear hi137_1 hl137_1
                      have HR137_2 := Aside0.mk hi137_2
                      have HC137_2 := Aside0.mk hl137_2
                      clear hi137_2 hl137_2
                      replace p137 := eq_true p137
                      replace q137 := eq_true q137
                      go_wp2_with (first | ((with_reducible refine gate_dst (N := 4) rfl ?_); (try (refine gate_guard (by rfl) ?_; dsimp only)); refine box_event ?hg (N := 4) ?hd (cs := #[.int .u64 0, .slice none 0 0, .slice none 0 0, .int .u64 0]) (t := 26) ?hr ?_; (case hd => rfl); (case hg => rfl); (case hr => first | (go_simp; done) | (go_simp; rfl)); intro gb138 hg w56 hbox hb; have n0_ := Aside0.mk (below_step (belN HB) hb); have n1_ := Aside0.mk (hbox); have n2_ := Aside0.mk ((by rw [hg]; exact (below_size (belN HB)) : w.heap.size ≤ gb138)); have n3_ := Aside0.mk ((by rw [hg]; exact (below_size (belN HB)) : w.heap.size ≤ gb138)); clear HB; have HB := n0_; have BK138 := n1_; have GW138 := n2_; have GE138 := n3_; clear n0_ n1_ n2_ n3_; clear hb hbox hg; obtain ⟨hcz57_0, hcz57_1, hcz57_2, hcz57_3, hfz57_0, hfz57_1, hfz57_2, hfz57_3⟩ := cz4_ (w := w56) BK138.out) | ((with_reducible refine gate_store (t := 26) (p := 4) rfl ?_); refine store_event (t := 26) (p := 4) (v := ?vo_w58) (w1 := ((((w56.setCell ⟨gb138, 0, none⟩ (.int .u64 ((rd_T26 l0 x7_1).f0))).setCell ⟨gb138, 1, none⟩ (.slice A137_1 ((rd_T26 l0 x7_1).f1).length c137_1)).setCell ⟨gb138, 2, none⟩ (.slice A137_2 ((rd_T26 l0 x7_1).f2).length c137_2)).setCell ⟨gb138, 3, none⟩ (.int .u64 ((rd_T26 l0 x7_1).f3)))) ?hg ?ho ?hn ?hr ?_; (case ho => rfl); (case hg => rfl); (case hn => rfl); (case hr => first | (go_simp; done) | (go_simp; rfl)); intro w58 hw; have n0_ : Aside0 (w58.heap[gb138]? = some (.cells #[.int .u64 ((rd_T26 l0 x7_1).f0), .slice A137_1 ((rd_T26 l0 x7_1).f1).length c137_1, .slice A137_2 ((rd_T26 l0 x7_1).f2).length c137_2, .int .u64 ((rd_T26 l0 x7_1).f3)] 26 (0, 0))) := ⟨(by rw [hw]; exact (by (with_reducible repeat (first | refine blk_drewN ?_ _ | refine blk_drew ?_ | refine blk_alloc ?_ _)); refine blk_put (cs := #[.int .u64 ((rd_T26 l0 x7_1).f0), .slice A137_1 ((rd_T26 l0 x7_1).f1).length c137_1, .slice A137_2 ((rd_T26 l0 x7_1).f2).length c137_2, .int .u64 0]) ?_ 3 _ rfl; refine blk_put (cs := #[.int .u64 ((rd_T26 l0 x7_1).f0), .slice A137_1 ((rd_T26 l0 x7_1).f1).length c137_1, .slice none 0 0, .int .u64 0]) ?_ 2 _ rfl; refine blk_put (cs := #[.int .u64 ((rd_T26 l0 x7_1).f0), .slice none 0 0, .slice none 0 0, .int .u64 0]) ?_ 1 _ rfl; refine blk_put (cs := #[.int .u64 0, .slice none 0 0, .slice none 0 0, .int .u64 0]) ?_ 0 _ rfl; (with_reducible repeat (first | refine blk_drewN ?_ _ | refine blk_drew ?_ | refine blk_alloc ?_ _)); exact BK138.out))⟩; have n1_ : Aside0 (Below w.heap.size w w58) := ⟨(by rw [hw]; exact (belN HB))⟩; clear hw; clear BK138; clear HB; have BK138 := n0_; have HB := n1_; clear n0_ n1_; obtain ⟨hcz59_0, hcz59_1, hcz59_2, hcz59_3, hfz59_0, hfz59_1, hfz59_2, hfz59_3⟩ := cz4_ (w := w58) BK138.out))
                      go_roundg k1
                      case measure => have := HK1.out; omega
                      case rel => exact ⟨(wrap64 (x7_1 + 1)), (by first | rfl | (simp; done) | (simp [*]; done)), H', ⟨by have := HK1.out; omega⟩, ⟨by repeat (first | (with_reducible first | exact HB.out | apply below_alloc | apply pw_below_drewN | apply below_drew1 | refine below_set ?_ GE138.out) | exact HB.out)⟩⟩
                · rw [if_neg c45] at H
                  have c45b0 : decide (60 < (((rd_T26 l0 x7_1).f2).length : Int)) = false := decide_eq_false c45
                  have c45b1 : decide (60 < ((rd_T26 l0 x7_1).f2).length) = false := decide_eq_false (by omega)
                  clear c45
                  by_cases c60 : (((rd_T26 l0 x7_1).f2).length : Int) > 4100
                  · rw [if_pos c60] at H
                    have c60b0 : decide (4100 < (((rd_T26 l0 x7_1).f2).length : Int)) = true := decide_eq_true c60
                    have c60b1 : decide (4100 < ((rd_T26 l0 x7_1).f2).length) = true := decide_eq_true (by omega)
                    clear c60
                    obtain rfl := Option.some.inj H
                    have p137 : 0 ≤ (x7_1 : Int) := of_decide_eq_true (by first | (with_reducible assumption) | assumption)
                    have q137 : x7_1 < (l0.length : Int) := of_decide_eq_true (by first | (with_reducible assumption) | assumption)
                    obtain ⟨ad137, A137_1, c137_1, A137_2, c137_2, e137, hx137_0, hx137_1, hx137_2, hx137_3, hl137_1, hi137_1, hl137_2, hi137_2⟩ := at_T26 HR0.out x7_1 p137 q137
                    cases e137
                    replace hx137_0 := (HB.out.cell (World.block_lt_of_cell? w _ hx137_0)).trans hx137_0
                    replace hx137_1 := (HB.out.cell (World.block_lt_of_cell? w _ hx137_1)).trans hx137_1
                    replace hx137_2 := (HB.out.cell (World.block_lt_of_cell? w _ hx137_2)).trans hx137_2
                    replace hx137_3 := (HB.out.cell (World.block_lt_of_cell? w _ hx137_3)).trans hx137_3
                    have HR137_1 := Aside0.mk hi137_1
                    have HC137_1 := Aside0.mk hl137_1
                    clear hi137_1 hl137_1
                    have HR137_2 := Aside0.mk hi137_2
                    have HC137_2 := Aside0.mk hl137_2
                    clear hi137_2 hl137_2
                    replace p137 := eq_true p137
                    replace q137 := eq_true q137
                    go_wp2_with (first | ((with_reducible refine gate_dst (N := 4) rfl ?_); (try (refine gate_guard (by rfl) ?_; dsimp only)); refine box_event ?hg (N := 4) ?hd (cs := #[.int .u64 0, .slice none 0 0, .slice none 0 0, .int .u64 0]) (t := 26) ?hr ?_; (case hd => rfl); (case hg => rfl); (case hr => first | (go_simp; done) | (go_simp; rfl)); intro gb138 hg w61 hbox hb; have n0_ := Aside0.mk (below_step (belN HB) hb); have n1_ := Aside0.mk (hbox); have n2_ := Aside0.mk ((by rw [hg]; exact (below_size (belN HB)) : w.heap.size ≤ gb138)); have n3_ := Aside0.mk ((by rw [hg]; exact (below_size (belN HB)) : w.heap.size ≤ gb138)); clear HB; have HB := n0_; have BK138 := n1_; have GW138 := n2_; have GE138 := n3_; clear n0_ n1_ n2_ n3_; clear hb hbox hg; obtain ⟨hcz62_0, hcz62_1, hcz62_2, hcz62_3, hfz62_0, hfz62_1, hfz62_2, hfz62_3⟩ := cz4_ (w := w61) BK138.out) | ((with_reducible refine gate_store (t := 26) (p := 4) rfl ?_); refine store_event (t := 26) (p := 4) (v := ?vo_w63) (w1 := ((((w61.setCell ⟨gb138, 0, none⟩ (.int .u64 ((rd_T26 l0 x7_1).f0))).setCell ⟨gb138, 1, none⟩ (.slice A137_1 ((rd_T26 l0 x7_1).f1).length c137_1)).setCell ⟨gb138, 2, none⟩ (.slice A137_2 ((rd_T26 l0 x7_1).f2).length c137_2)).setCell ⟨gb138, 3, none⟩ (.int .u64 ((rd_T26 l0 x7_1).f3)))) ?hg ?ho ?hn ?hr ?_; (case ho => rfl); (case hg => rfl); (case hn => rfl); (case hr => first | (go_simp; done) | (go_simp; rfl)); intro w63 hw; have n0_ : Aside0 (w63.heap[gb138]? = some (.cells #[.int .u64 ((rd_T26 l0 x7_1).f0), .slice A137_1 ((rd_T26 l0 x7_1).f1).length c137_1, .slice A137_2 ((rd_T26 l0 x7_1).f2).length c137_2, .int .u64 ((rd_T26 l0 x7_1).f3)] 26 (0, 0))) := ⟨(by rw [hw]; exact (by (with_reducible repeat (first | refine blk_drewN ?_ _ | refine blk_drew ?_ | refine blk_alloc ?_ _)); refine blk_put (cs := #[.int .u64 ((rd_T26 l0 x7_1).f0), .slice A137_1 ((rd_T26 l0 x7_1).f1).length c137_1, .slice A137_2 ((rd_T26 l0 x7_1).f2).length c137_2, .int .u64 0]) ?_ 3 _ rfl; refine blk_put (cs := #[.int .u64 ((rd_T26 l0 x7_1).f0), .slice A137_1 ((rd_T26 l0 x7_1).f1).length c137_1, .slice none 0 0, .int .u64 0]) ?_ 2 _ rfl; refine blk_put (cs := #[.int .u64 ((rd_T26 l0 x7_1).f0), .slice none 0 0, .slice none 0 0, .int .u64 0]) ?_ 1 _ rfl; refine blk_put (cs := #[.int .u64 0, .slice none 0 0, .slice none 0 0, .int .u64 0]) ?_ 0 _ rfl; (with_reducible repeat (first | refine blk_drewN ?_ _ | refine blk_drew ?_ | refine blk_alloc ?_ _)); exact BK138.out))⟩; have n1_ : Aside0 (Below w.heap.size w w63) := ⟨(by rw [hw]; exact (belN HB))⟩; clear hw; clear BK138; clear HB; have BK138 := n0_; have HB := n1_; clear n0_ n1_; obtain ⟨hcz64_0, hcz64_1, hcz64_2, hcz64_3, hfz64_0, hfz64_1, hfz64_2, hfz64_3⟩ := cz4_ (w := w63) BK138.out))
                    go_ret
                    exact ⟨by first | rfl | (simp [errW_none, errW_some] <;> rfl) | (simp [*, errW_none, errW_some] <;> rfl), by repeat (first | (with_reducible first | exact HB.out | apply below_alloc | apply pw_below_drewN | apply below_drew1 | refine below_set ?_ GE138.out) | exact HB.out)⟩
                  · rw [if_neg c60] at H
                    have c60b0 : decide (4100 < (((rd_T26 l0 x7_1).f2).length : Int)) = false := decide_eq_false c60
                    have c60b1 : decide (4100 < ((rd_T26 l0 x7_1).f2).length) = false := decide_eq_false (by omega)
                    clear c60
                    have H' := Aside0.mk H
                    clear H
                    have p137 : 0 ≤ (x7_1 : Int) := of_decide_eq_true (by first | (with_reducible assumption) | assumption)
                    have q137 : x7_1 < (l0.length : Int) := of_decide_eq_true (by first | (with_reducible assumption) | assumption)
                    obtain ⟨ad137, A137_1, c137_1, A137_2, c137_2, e137, hx137_0, hx137_1, hx137_2, hx137_3, hl137_1, hi137_1, hl137_2, hi137_2⟩ := at_T26 HR0.out x7_1 p137 q137
                    cases e137
                    replace hx137_0 := (HB.out.cell (World.block_lt_of_cell? w _ hx137_0)).trans hx137_0
                    replace hx137_1 := (HB.out.cell (World.block_lt_of_cell? w _ hx137_1)).trans hx137_1
                    replace hx137_2 := (HB.out.cell (World.block_lt_of_cell? w _ hx137_2)).trans hx137_2
                    replace hx137_3 := (HB.out.cell (World.block_lt_of_cell? w _ hx137_3)).trans hx137_3
                    have HR137_1 := Aside0.mk hi137_1
                    have HC137_1 := Aside0.mk hl137_1
                    clear hi137_1 hl137_1
                    have HR137_2 := Aside0.mk hi137_2
                    have HC137_2 := Aside0.mk hl137_2
                    clear hi137_2 hl137_2
                    replace p137 := eq_true p137
                    replace q137 := eq_true q137
                    go_wp2_with (first | ((with_reducible refine gate_dst (N := 4) rfl ?_); (try (refine gate_guard (by rfl) ?_; dsimp only)); refine box_event ?hg (N := 4) ?hd (cs := #[.int .u64 0, .slice none 0 0, .slice none 0 0, .int .u64 0]) (t := 26) ?hr ?_; (case hd => rfl); (case hg => rfl); (case hr => first | (go_simp; done) | (go_simp; rfl)); intro gb138 hg w65 hbox hb; have n0_ := Aside0.mk (below_step (belN HB) hb); have n1_ := Aside0.mk (hbox); have n2_ := Aside0.mk ((by rw [hg]; exact (below_size (belN HB)) : w.heap.size ≤ gb138)); have n3_ := Aside0.mk ((by rw [hg]; exact (below_size (belN HB)) : w.heap.size ≤ gb138)); clear HB; have HB := n0_; have BK138 := n1_; have GW138 := n2_; have GE138 := n3_; clear n0_ n1_ n2_ n3_; clear hb hbox hg; obtain ⟨hcz66_0, hcz66_1, hcz66_2, hcz66_3, hfz66_0, hfz66_1, hfz66_2, hfz66_3⟩ := cz4_ (w := w65) BK138.out) | ((with_reducible refine gate_store (t := 26) (p := 4) rfl ?_); refine store_event (t := 26) (p := 4) (v := ?vo_w67) (w1 := ((((w65.setCell ⟨gb138, 0, none⟩ (.int .u64 ((rd_T26 l0 x7_1).f0))).setCell ⟨gb138, 1, none⟩ (.slice A137_1 ((rd_T26 l0 x7_1).f1).length c137_1)).setCell ⟨gb138, 2, none⟩ (.slice A137_2 ((rd_T26 l0 x7_1).f2).length c137_2)).setCell ⟨gb138, 3, none⟩ (.int .u64 ((rd_T26 l0 x7_1).f3)))) ?hg ?ho ?hn ?hr ?_; (case ho => rfl); (case hg => rfl); (case hn => rfl); (case hr => first | (go_simp; done) | (go_simp; rfl)); intro w67 hw; have n0_ : Aside0 (w67.heap[gb138]? = some (.cells #[.int .u64 ((rd_T26 l0 x7_1).f0), .slice A137_1 ((rd_T26 l0 x7_1).f1).length c137_1, .slice A137_2 ((rd_T26 l0 x7_1).f2).length c137_2, .int .u64 ((rd_T26 l0 x7_1).f3)] 26 (0, 0))) := ⟨(by rw [hw]; exact (by (with_reducible repeat (first | refine blk_drewN ?_ _ | refine blk_drew ?_ | refine blk_alloc ?_ _)); refine blk_put (cs := #[.int .u64 ((rd_T26 l0 x7_1).f0), .slice A137_1 ((rd_T26 l0 x7_1).f1).length c137_1, .slice A137_2 ((rd_T26 l0 x7_1).f2).length c137_2, .int .u64 0]) ?_ 3 _ rfl; refine blk_put (cs := #[.int .u64 ((rd_T26 l0 x7_1).f0), .slice A137_1 ((rd_T26 l0 x7_1).f1).length c137_1, .slice none 0 0, .int .u64 0]) ?_ 2 _ rfl; refine blk_put (cs := #[.int .u64 ((rd_T26 l0 x7_1).f0), .slice none 0 0, .slice none 0 0, .int .u64 0]) ?_ 1 _ rfl; refine blk_put (cs := #[.int .u64 0, .slice none 0 0, .slice none 0 0, .int .u64 0]) ?_ 0 _ rfl; (with_reducible repeat (first | refine blk_drewN ?_ _ | refine blk_drew ?_ | refine blk_alloc ?_ _)); exact BK138.out))⟩; have n1_ : Aside0 (Below w.heap.size w w67) := ⟨(by rw [hw]; exact (belN HB))⟩; clear hw; clear BK138; clear HB; have BK138 := n0_; have HB := n1_; clear n0_ n1_; obtain ⟨hcz68_0, hcz68_1, hcz68_2, hcz68_3, hfz68_0, hfz68_1, hfz68_2, hfz68_3⟩ := cz4_ (w := w67) BK138.out))
                    go_roundg k1
                    case measure => have := HK1.out; omega
                    case rel => exact ⟨(wrap64 (x7_1 + 1)), (by first | rfl | (simp; done) | (simp [*]; done)), H', ⟨by have := HK1.out; omega⟩, ⟨by repeat (first | (with_reducible first | exact HB.out | apply below_alloc | apply pw_below_drewN | apply below_drew1 | refine below_set ?_ GE138.out) | exact HB.out)⟩⟩
          · rw [if_neg c4] at H
            exact absurd H (by simp)
        · rw [if_neg c3] at H
          exact absurd H (by simp)
      · rw [if_neg c2] at H
        have c2b0 : decide (x7_1 < (l0.length : Int)) = false := decide_eq_false c2
        clear c2
        by_cases c69 : (l0.length : Int) ≤ 20
        · rw [if_pos c69] at H
          have c69b0 : decide ((l0.length : Int) ≤ 20) = true := decide_eq_true c69
          have c69b1 : decide (l0.length ≤ 20) = true := decide_eq_true (by omega)
          clear c69
          obtain rfl := Option.some.inj H
          go_wp2
          go_ret
          exact ⟨by first | rfl | (simp [errW_none, errW_some] <;> rfl) | (simp [*, errW_none, errW_some] <;> rfl), by repeat (first | (with_reducible first | exact HB.out | apply below_alloc | apply pw_below_drewN | apply below_drew1) | exact HB.out)⟩
        · rw [if_neg c69] at H
          have c69b0 : decide ((l0.length : Int) ≤ 20) = false := decide_eq_false c69
          have c69b1 : decide (l0.length ≤ 20) = false := decide_eq_false (by omega)
          clear c69
          by_cases c70 : (l0.length : Int) ≥ 128
          · rw [if_pos c70] at H
            have c70b0 : decide (128 ≤ (l0.length : Int)) = true := decide_eq_true c70
            have c70b1 : decide (128 ≤ l0.length) = true := decide_eq_true (by omega)
            clear c70
            obtain rfl := Option.some.inj H
            go_wp2
            go_ret
            exact ⟨by first | rfl | (simp [errW_none, errW_some] <;> rfl) | (simp [*, errW_none, errW_some] <;> rfl), by repeat (first | (with_reducible first | exact HB.out | apply below_alloc | apply pw_below_drewN | apply below_drew1) | exact HB.out)⟩
          · rw [if_neg c70] at H
            have c70b0 : decide (128 ≤ (l0.length : Int)) = false := decide_eq_false c70
            have c70b1 : decide (128 ≤ l0.length) = false := decide_eq_false (by omega)
            clear c70
            obtain rfl := Option.some.inj H
            go_wp2
            go_ret
            exact ⟨by first | rfl | (simp [errW_none, errW_some] <;> rfl) | (simp [*, errW_none, errW_some] <;> rfl), by repeat (first | (with_reducible first | exact HB.out | apply below_alloc | apply pw_below_drewN | apply below_drew1) | exact HB.out)⟩

/-! ### damsonlaw14_short: function 10 -/
def damsonlaw14_short.l0 : Nat → List (List Int) → Int → Int → Option (Bool)
  | 0, _, _, _ => none
  | k + 1, x5, x6, x7 => if x7 < x6 then (if 0 ≤ x7 then (if x7 < (x5.length : Int) then (if ((rd_L2 x5 x7).length : Int) > 60 then (if ((rd_L2 x5 x7).length : Int) ≤ 4096 then (some false) else (if ((rd_L2 x5 x7).length : Int) > 4100 then (some false) else (damsonlaw14_short.l0 k x5 x6 (wrap64 (x7 + 1))))) else (if ((rd_L2 x5 x7).length : Int) > 4100 then (some false) else (damsonlaw14_short.l0 k x5 x6 (wrap64 (x7 + 1))))) else (none)) else (none)) else (some true)
def damsonlaw14_short.f (k : Nat) (l0 : List (List Int)) : Option (Bool) := damsonlaw14_short.l0 k l0 (l0.length : Int) 0
theorem damsonlaw14_short.mono_l : ∀ k, (∀ y0 y1 y2, LeO (damsonlaw14_short.l0 k y0 y1 y2) (damsonlaw14_short.l0 (k + 1) y0 y1 y2))
  | 0 => fun _ _ _ r h => by simp [damsonlaw14_short.l0] at h
  | k + 1 => by
    have ih0 := damsonlaw14_short.mono_l k
    · intro y0 y1 y2
      unfold damsonlaw14_short.l0
      repeat' first
      | (with_reducible exact ih0 _ _ _)
      | (with_reducible exact LeO.refl _)
      | (with_reducible exact LeO.none _)
      | (with_reducible refine LeO.ite ?_ ?_)
      | (with_reducible refine LeO.bind ?_ (fun _ => ?_))
      | exact ih0 _ _ _
      | exact LeO.none _
      | refine LeO.ite ?_ ?_
      | refine LeO.bind ?_ (fun _ => ?_)
theorem damsonlaw14_short.mono : ∀ a0 k, LeO (damsonlaw14_short.f k a0) (damsonlaw14_short.f (k + 1) a0) := by
  intro a0 k
  have ih0 := damsonlaw14_short.mono_l k
  unfold damsonlaw14_short.f
  repeat' first
      | (with_reducible exact ih0 _ _ _)
      | (with_reducible exact LeO.refl _)
      | (with_reducible exact LeO.none _)
      | (with_reducible refine LeO.ite ?_ ?_)
      | (with_reducible refine LeO.bind ?_ (fun _ => ?_))
      | exact ih0 _ _ _
      | exact LeO.none _
      | refine LeO.ite ?_ ?_
      | refine LeO.bind ?_ (fun _ => ?_)
set_option maxHeartbeats 8000000 in
set_option maxRecDepth 100000 in
theorem damsonlaw14_short.calls (k : Nat) (A0 : Option Addr) (c0 : Nat) (l0 : List (List Int)) (r : Bool) (w : World) (hr0 : Kd.C (Kd.slice 5 (Kd.int .u8)) w A0 l0.length l0) (hc0 : l0.length ≤ c0) (h : damsonlaw14_short.f k l0 = some r) :
    Calls Try.prog 10 #[.slice A0 l0.length c0] w fun e w' => e = .returned (.bool r) ∧ Drawn0 w w' := by
  have HR0 := Aside0.mk hr0
  have HC0 := Aside0.mk hc0
  clear hr0 hc0
  have H : (damsonlaw14_short.l0 k l0 (l0.length : Int) 0) = some r := h
  clear h
  have H' := Aside0.mk H
  clear H
  go_enter Try.func10, Try.ntmps10
  go_wp2
  go_loopg [7] k (fun kq v7 w' => ∃ (x7_1 : Int), v7 = .int .i64 x7_1 ∧ Aside0 (damsonlaw14_short.l0 kq l0 (l0.length : Int) x7_1 = some r) ∧ Aside0 (kq ≤ k) ∧ Drawn0 w w')
  case atStart => exact ⟨(0), (by first | rfl | (simp; done) | (simp [*]; done)), H', ⟨Nat.le_refl _⟩, by repeat (first | exact Drawn0.refl _ | apply Drawn0.step)⟩
  case round =>
    clear H'
    try clear c1
    obtain ⟨x7_1, rfl, HA, HK1, ⟨m1, rfl⟩⟩ := hrel
    cases gk with
    | zero => exact absurd HA.out (by simp [damsonlaw14_short.l0])
    | succ k1 =>
      have H := HA.out
      clear HA
      simp only [damsonlaw14_short.l0] at H
      by_cases c2 : x7_1 < (l0.length : Int)
      · rw [if_pos c2] at H
        have c2b0 : decide (x7_1 < (l0.length : Int)) = true := decide_eq_true c2
        clear c2
        by_cases c3 : 0 ≤ x7_1
        · rw [if_pos c3] at H
          have c3b0 : decide (0 ≤ x7_1) = true := decide_eq_true c3
          clear c3
          by_cases c4 : x7_1 < (l0.length : Int)
          · rw [if_pos c4] at H
            have c4b0 : decide (x7_1 < (l0.length : Int)) = true := decide_eq_true c4
            clear c4
            by_cases c5 : ((rd_L2 l0 x7_1).length : Int) > 60
            · rw [if_pos c5] at H
              have c5b0 : decide (60 < ((rd_L2 l0 x7_1).length : Int)) = true := decide_eq_true c5
              have c5b1 : decide (60 < (rd_L2 l0 x7_1).length) = true := decide_eq_true (by omega)
              clear c5
              by_cases c6 : ((rd_L2 l0 x7_1).length : Int) ≤ 4096
              · rw [if_pos c6] at H
                have c6b0 : decide (((rd_L2 l0 x7_1).length : Int) ≤ 4096) = true := decide_eq_true c6
                have c6b1 : decide ((rd_L2 l0 x7_1).length ≤ 4096) = true := decide_eq_true (by omega)
                clear c6
                obtain rfl := Option.some.inj H
                have p139 : 0 ≤ (x7_1 : Int) := of_decide_eq_true (by first | (with_reducible assumption) | assumption)
                have q139 : x7_1 < (l0.length : Int) := of_decide_eq_true (by first | (with_reducible assumption) | assumption)
                obtain ⟨ad139, A139_0, c139_0, e139, hx139_0, hl139_0, hi139_0⟩ := at_L2 HR0.out x7_1 p139 q139
                cases e139
                have HR139_0 := Aside0.mk hi139_0
                have HC139_0 := Aside0.mk hl139_0
                clear hi139_0 hl139_0
                replace p139 := eq_true p139
                replace q139 := eq_true q139
                go_wp2
                go_ret
                exact ⟨by first | rfl | (simp; done) | (simp [*]; done), by repeat (first | exact Drawn0.refl _ | apply Drawn0.step)⟩
              · rw [if_neg c6] at H
                have c6b0 : decide (((rd_L2 l0 x7_1).length : Int) ≤ 4096) = false := decide_eq_false c6
                have c6b1 : decide ((rd_L2 l0 x7_1).length ≤ 4096) = false := decide_eq_false (by omega)
                clear c6
                by_cases c7 : ((rd_L2 l0 x7_1).length : Int) > 4100
                · rw [if_pos c7] at H
                  have c7b0 : decide (4100 < ((rd_L2 l0 x7_1).length : Int)) = true := decide_eq_true c7
                  have c7b1 : decide (4100 < (rd_L2 l0 x7_1).length) = true := decide_eq_true (by omega)
                  clear c7
                  obtain rfl := Option.some.inj H
                  have p139 : 0 ≤ (x7_1 : Int) := of_decide_eq_true (by first | (with_reducible assumption) | assumption)
                  have q139 : x7_1 < (l0.length : Int) := of_decide_eq_true (by first | (with_reducible assumption) | assumption)
                  obtain ⟨ad139, A139_0, c139_0, e139, hx139_0, hl139_0, hi139_0⟩ := at_L2 HR0.out x7_1 p139 q139
                  cases e139
                  have HR139_0 := Aside0.mk hi139_0
                  have HC139_0 := Aside0.mk hl139_0
                  clear hi139_0 hl139_0
                  replace p139 := eq_true p139
                  replace q139 := eq_true q139
                  go_wp2
                  go_ret
                  exact ⟨by first | rfl | (simp; done) | (simp [*]; done), by repeat (first | exact Drawn0.refl _ | apply Drawn0.step)⟩
                · rw [if_neg c7] at H
                  have c7b0 : decide (4100 < ((rd_L2 l0 x7_1).length : Int)) = false := decide_eq_false c7
                  have c7b1 : decide (4100 < (rd_L2 l0 x7_1).length) = false := decide_eq_false (by omega)
                  clear c7
                  have H' := Aside0.mk H
                  clear H
                  have p139 : 0 ≤ (x7_1 : Int) := of_decide_eq_true (by first | (with_reducible assumption) | assumption)
                  have q139 : x7_1 < (l0.length : Int) := of_decide_eq_true (by first | (with_reducible assumption) | assumption)
                  obtain ⟨ad139, A139_0, c139_0, e139, hx139_0, hl139_0, hi139_0⟩ := at_L2 HR0.out x7_1 p139 q139
                  cases e139
                  have HR139_0 := Aside0.mk hi139_0
                  have HC139_0 := Aside0.mk hl139_0
                  clear hi139_0 hl139_0
                  replace p139 := eq_true p139
                  replace q139 := eq_true q139
                  go_wp2
                  go_roundg k1
                  case measure => have := HK1.out; omega
                  case rel => exact ⟨(wrap64 (x7_1 + 1)), (by first | rfl | (simp; done) | (simp [*]; done)), H', ⟨by have := HK1.out; omega⟩, by repeat (first | exact Drawn0.refl _ | apply Drawn0.step)⟩
            · rw [if_neg c5] at H
              have c5b0 : decide (60 < ((rd_L2 l0 x7_1).length : Int)) = false := decide_eq_false c5
              have c5b1 : decide (60 < (rd_L2 l0 x7_1).length) = false := decide_eq_false (by omega)
              clear c5
              by_cases c8 : ((rd_L2 l0 x7_1).length : Int) > 4100
              · rw [if_pos c8] at H
                have c8b0 : decide (4100 < ((rd_L2 l0 x7_1).length : Int)) = true := decide_eq_true c8
                have c8b1 : decide (4100 < (rd_L2 l0 x7_1).length) = true := decide_eq_true (by omega)
                clear c8
                obtain rfl := Option.some.inj H
                have p139 : 0 ≤ (x7_1 : Int) := of_decide_eq_true (by first | (with_reducible assumption) | assumption)
                have q139 : x7_1 < (l0.length : Int) := of_decide_eq_true (by first | (with_reducible assumption) | assumption)
                obtain ⟨ad139, A139_0, c139_0, e139, hx139_0, hl139_0, hi139_0⟩ := at_L2 HR0.out x7_1 p139 q139
                cases e139
                have HR139_0 := Aside0.mk hi139_0
                have HC139_0 := Aside0.mk hl139_0
                clear hi139_0 hl139_0
                replace p139 := eq_true p139
                replace q139 := eq_true q139
                go_wp2
                go_ret
                exact ⟨by first | rfl | (simp; done) | (simp [*]; done), by repeat (first | exact Drawn0.refl _ | apply Drawn0.step)⟩
              · rw [if_neg c8] at H
                have c8b0 : decide (4100 < ((rd_L2 l0 x7_1).length : Int)) = false := decide_eq_false c8
                have c8b1 : decide (4100 < (rd_L2 l0 x7_1).length) = false := decide_eq_false (by omega)
                clear c8
                have H' := Aside0.mk H
                clear H
                have p139 : 0 ≤ (x7_1 : Int) := of_decide_eq_true (by first | (with_reducible assumption) | assumption)
                have q139 : x7_1 < (l0.length : Int) := of_decide_eq_true (by first | (with_reducible assumption) | assumption)
                obtain ⟨ad139, A139_0, c139_0, e139, hx139_0, hl139_0, hi139_0⟩ := at_L2 HR0.out x7_1 p139 q139
                cases e139
                have HR139_0 := Aside0.mk hi139_0
                have HC139_0 := Aside0.mk hl139_0
                clear hi139_0 hl139_0
                replace p139 := eq_true p139
                replace q139 := eq_true q139
                go_wp2
                go_roundg k1
                case measure => have := HK1.out; omega
                case rel => exact ⟨(wrap64 (x7_1 + 1)), (by first | rfl | (simp; done) | (simp [*]; done)), H', ⟨by have := HK1.out; omega⟩, by repeat (first | exact Drawn0.refl _ | apply Drawn0.step)⟩
          · rw [if_neg c4] at H
            exact absurd H (by simp)
        · rw [if_neg c3] at H
          exact absurd H (by simp)
      · rw [if_neg c2] at H
        have c2b0 : decide (x7_1 < (l0.length : Int)) = false := decide_eq_false c2
        clear c2
        obtain rfl := Option.some.inj H
        go_wp2
        go_ret
        exact ⟨by first | rfl | (simp; done) | (simp [*]; done), by repeat (first | exact Drawn0.refl _ | apply Drawn0.step)⟩

/-! ### damsonref01_SameBytes: function 14 -/
def damsonref01_SameBytes.f (l0 : List Int) (l1 : List Int) : Option (Bool) := some ((strOfNums l0).toList == (strOfNums l1).toList)
set_option maxHeartbeats 8000000 in
set_option maxRecDepth 100000 in
theorem damsonref01_SameBytes.calls (A0 : Option Addr) (c0 : Nat) (l0 : List Int) (A1 : Option Addr) (c1 : Nat) (l1 : List Int) (r : Bool) (w : World) (hr0 : Kd.C (Kd.int .u8) w A0 l0.length l0) (hc0 : l0.length ≤ c0) (hr1 : Kd.C (Kd.int .u8) w A1 l1.length l1) (hc1 : l1.length ≤ c1) (h : damsonref01_SameBytes.f l0 l1 = some r) :
    Calls Try.prog 14 #[.slice A0 l0.length c0, .slice A1 l1.length c1] w fun e w' => e = .returned (.bool r) ∧ Drawn0 w w' := by
  have HR0 := Aside0.mk hr0
  have HC0 := Aside0.mk hc0
  clear hr0 hc0
  have HR1 := Aside0.mk hr1
  have HC1 := Aside0.mk hc1
  clear hr1 hc1
  have H : (some ((strOfNums l0).toList == (strOfNums l1).toList)) = some r := h
  clear h
  obtain rfl := Option.some.inj H
  have hcv3 := Kd.C_string (P := Try.prog) (A := A0) (c := c0) Try.underlying24 Try.underlying5 Try.underlying9 HR0.out
  have hcv4 := Kd.C_string (P := Try.prog) (A := A1) (c := c1) Try.underlying24 Try.underlying5 Try.underlying9 HR1.out
  go_enter Try.func14, Try.ntmps14
  go_wp2
  go_ret
  exact ⟨by first | rfl | (simp; done) | (simp [*]; done), by repeat (first | exact Drawn0.refl _ | apply Drawn0.step)⟩

end Go.Proofs.Ytmoncgfffdddeaa.P
