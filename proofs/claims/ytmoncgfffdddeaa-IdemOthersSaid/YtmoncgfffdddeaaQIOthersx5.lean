-- written by a program of this session (wip/print)
import Derived.Test.YtmoncgfffdddeaaQIOthersx0
import Derived.Test.YtmoncgfffdddeaaQIOthersx4
namespace Go.Proofs.Ytmoncgfffdddeaa.P
open Go.RowKit Go.Proofs.YtmoncgfffdddeaaW.PrintWords Go.Proofs.YtmoncgfffdddeaaW.PrintLast Go.Proofs.YtmoncgfffdddeaaW.PrintMore
attribute [local go_sem] max2_int min2_int max_two min_two max_three min_three max_four min_four   -- for this text's walks alone
set_option linter.unusedVariables false
set_option linter.unusedSimpArgs false

/-! ### slices_EqualFunc_Key_at_idem_one: function 59 -/
def slices_EqualFunc_Key_at_idem_one.l0 : Nat → List (S26) → List (S26) → Int → Int → Option (Bool)
  | 0, _, _, _, _ => none
  | k + 1, x1, x15, x16, x17 => if x17 < x16 then (if 0 ≤ x17 then (if x17 < (x15.length : Int) then (if x17 < (x1.length : Int) then ((idem_one.f ((rd_T26 x15 x17).f0) ((rd_T26 x15 x17).f1) ((rd_T26 x15 x17).f2) ((rd_T26 x15 x17).f3) ((rd_T26 x1 x17).f0) ((rd_T26 x1 x17).f1) ((rd_T26 x1 x17).f2) ((rd_T26 x1 x17).f3)).bind fun t148 => (if t148 = true then (slices_EqualFunc_Key_at_idem_one.l0 k x1 x15 x16 (wrap64 (x17 + 1))) else (some false))) else (none)) else (none)) else (none)) else (some true)
def slices_EqualFunc_Key_at_idem_one.f (k : Nat) (l0 : List (S26)) (l1 : List (S26))  : Option (Bool) := if (l0.length : Int) = (l1.length : Int) then (slices_EqualFunc_Key_at_idem_one.l0 k l1 l0 (l0.length : Int) 0) else (some false)
theorem slices_EqualFunc_Key_at_idem_one.mono_l : ∀ k, (∀ y0 y1 y2 y3, LeO (slices_EqualFunc_Key_at_idem_one.l0 k y0 y1 y2 y3) (slices_EqualFunc_Key_at_idem_one.l0 (k + 1) y0 y1 y2 y3))
  | 0 => fun _ _ _ _ r h => by simp [slices_EqualFunc_Key_at_idem_one.l0] at h
  | k + 1 => by
    have ih0 := slices_EqualFunc_Key_at_idem_one.mono_l k
    · intro y0 y1 y2 y3
      unfold slices_EqualFunc_Key_at_idem_one.l0
      repeat' first
      | (with_reducible exact ih0 _ _ _ _)
      | (with_reducible exact LeO.refl _)
      | (with_reducible exact LeO.none _)
      | (with_reducible refine LeO.ite ?_ ?_)
      | (with_reducible refine LeO.bind ?_ (fun _ => ?_))
      | exact ih0 _ _ _ _
      | exact LeO.none _
      | refine LeO.ite ?_ ?_
      | refine LeO.bind ?_ (fun _ => ?_)
theorem slices_EqualFunc_Key_at_idem_one.mono : ∀ a0 a1 k, LeO (slices_EqualFunc_Key_at_idem_one.f k a0 a1) (slices_EqualFunc_Key_at_idem_one.f (k + 1) a0 a1) := by
  intro a0 a1 k
  have ih0 := slices_EqualFunc_Key_at_idem_one.mono_l k
  unfold slices_EqualFunc_Key_at_idem_one.f
  repeat' first
      | (with_reducible exact ih0 _ _ _ _)
      | (with_reducible exact LeO.refl _)
      | (with_reducible exact LeO.none _)
      | (with_reducible refine LeO.ite ?_ ?_)
      | (with_reducible refine LeO.bind ?_ (fun _ => ?_))
      | exact ih0 _ _ _ _
      | exact LeO.none _
      | refine LeO.ite ?_ ?_
      | refine LeO.bind ?_ (fun _ => ?_)
set_option maxHeartbeats 8000000 in
set_option maxRecDepth 100000 in
theorem slices_EqualFunc_Key_at_idem_one.calls (k : Nat) (A0 : Option Addr) (c0 : Nat) (l0 : List (S26)) (A1 : Option Addr) (c1 : Nat) (l1 : List (S26))  (r : Bool) (w : World) (hr0 : Kd.C k26 w A0 l0.length l0) (hc0 : l0.length ≤ c0) (hr1 : Kd.C k26 w A1 l1.length l1) (hc1 : l1.length ≤ c1) (h : slices_EqualFunc_Key_at_idem_one.f k l0 l1 = some r) :
    Calls Try.prog 31 #[.slice A0 l0.length c0, .slice A1 l1.length c1, .func (.func 32) #[] #[]] w fun e w' => e = .returned (.bool r) ∧ Below w.heap.size w w' := by
  have hu26 := Try.underlying26
  have HR0 := Aside0.mk hr0
  have HC0 := Aside0.mk hc0
  clear hr0 hc0
  have HR1 := Aside0.mk hr1
  have HC1 := Aside0.mk hc1
  clear hr1 hc1
  have HB := Aside0.mk (Below.refl w.heap.size w)
  have H : (if (l0.length : Int) = (l1.length : Int) then (slices_EqualFunc_Key_at_idem_one.l0 k l1 l0 (l0.length : Int) 0) else (some false)) = some r := h
  clear h
  by_cases c4 : (l0.length : Int) = (l1.length : Int)
  · rw [if_pos c4] at H
    have c4b0 : ((l0.length : Int) == (l1.length : Int)) = true := beq_iff_eq.mpr c4
    have c4b1 : ((l0.length : Int) != (l1.length : Int)) = false := bne_eq_false_iff_eq.mpr c4
    have c4b2 : (l0.length == l1.length) = true := by first | simpa using c4 | (simp at c4 ⊢; omega)
    clear c4
    have H' := Aside0.mk H
    clear H
    go_enter Try.func31, Try.ntmps31
    go_wp2
    go_loopg [17] k (fun kq v17 w' => ∃ (x17_1 : Int), v17 = .int .i64 x17_1 ∧ Aside0 (slices_EqualFunc_Key_at_idem_one.l0 kq l1 l0 (l0.length : Int) x17_1 = some r) ∧ Aside0 (kq ≤ k) ∧ Aside0 (Below w.heap.size w w'))
    case atStart => exact ⟨(0), (by first | rfl | (simp; done) | (simp [*]; done)), H', ⟨Nat.le_refl _⟩, ⟨by repeat (first | (with_reducible first | exact HB.out | apply below_alloc | apply pw_below_drewN | apply below_drew1) | exact HB.out)⟩⟩
    case round =>
      clear H'
      try clear c1
      try clear p2
      try clear c3
      try clear c4
      try clear c4b0
      try clear c4b1
      try clear c4b2
      obtain ⟨x17_1, rfl, HA, HK1, HB⟩ := hrel
      cases gk with
      | zero => exact absurd HA.out (by simp [slices_EqualFunc_Key_at_idem_one.l0])
      | succ k1 =>
        have H := HA.out
        clear HA
        simp only [slices_EqualFunc_Key_at_idem_one.l0] at H
        by_cases c5 : x17_1 < (l0.length : Int)
        · rw [if_pos c5] at H
          have c5b0 : decide (x17_1 < (l0.length : Int)) = true := decide_eq_true c5
          clear c5
          by_cases c6 : 0 ≤ x17_1
          · rw [if_pos c6] at H
            have c6b0 : decide (0 ≤ x17_1) = true := decide_eq_true c6
            clear c6
            by_cases c7 : x17_1 < (l0.length : Int)
            · rw [if_pos c7] at H
              have c7b0 : decide (x17_1 < (l0.length : Int)) = true := decide_eq_true c7
              clear c7
              by_cases c8 : x17_1 < (l1.length : Int)
              · rw [if_pos c8] at H
                have c8b0 : decide (x17_1 < (l1.length : Int)) = true := decide_eq_true c8
                clear c8
                replace H := Option.bind_eq_some_iff.mp H
                obtain ⟨t148, A90, H⟩ := H
                replace H : (if t148 = true then (slices_EqualFunc_Key_at_idem_one.l0 k1 l1 l0 (l0.length : Int) (wrap64 (x17_1 + 1))) else (some false)) = some r := H
                have A9 := Aside0.mk A90
                clear A90
                by_cases c10 : t148 = true
                · subst c10
                  have H1 : (slices_EqualFunc_Key_at_idem_one.l0 k1 l1 l0 (l0.length : Int) (wrap64 (x17_1 + 1))) = some r := by rw [if_pos rfl] at H; exact H
                  clear H
                  have H := H1
                  clear H1
                  have H' := Aside0.mk H
                  clear H
                  have p144 : 0 ≤ (x17_1 : Int) := of_decide_eq_true (by first | (with_reducible assumption) | assumption)
                  have q144 : x17_1 < (l0.length : Int) := of_decide_eq_true (by first | (with_reducible assumption) | assumption)
                  obtain ⟨ad144, A144_1, c144_1, A144_2, c144_2, e144, hx144_0, hx144_1, hx144_2, hx144_3, hl144_1, hi144_1, hl144_2, hi144_2⟩ := at_T26 HR0.out x17_1 p144 q144
                  cases e144
                  replace hx144_0 := (HB.out.cell (World.block_lt_of_cell? w _ hx144_0)).trans hx144_0
                  replace hx144_1 := (HB.out.cell (World.block_lt_of_cell? w _ hx144_1)).trans hx144_1
                  replace hx144_2 := (HB.out.cell (World.block_lt_of_cell? w _ hx144_2)).trans hx144_2
                  replace hx144_3 := (HB.out.cell (World.block_lt_of_cell? w _ hx144_3)).trans hx144_3
                  have HR144_1 := Aside0.mk hi144_1
                  have HC144_1 := Aside0.mk hl144_1
                  clear hi144_1 hl144_1
                  have HR144_2 := Aside0.mk hi144_2
                  have HC144_2 := Aside0.mk hl144_2
                  clear hi144_2 hl144_2
                  replace p144 := eq_true p144
                  replace q144 := eq_true q144
                  go_wp2_with (first | ((with_reducible refine gate_dst (N := 8) rfl ?_); refine box_event ?hg (N := 8) ?hd (cs := #[.int .u64 0, .slice none 0 0, .slice none 0 0, .int .u64 0]) (t := 26) ?hr ?_; (case hd => rfl); (case hg => rfl); (case hr => first | (go_simp; done) | (go_simp; rfl)); intro gb145 hg w11 hbox hb; have n0_ := Aside0.mk (below_step (belN HB) hb); have n1_ := Aside0.mk (hbox); have n2_ := Aside0.mk ((by rw [hg]; exact (below_size (belN HB)) : w.heap.size ≤ gb145)); have n3_ := Aside0.mk ((by rw [hg]; exact (below_size (belN HB)) : w.heap.size ≤ gb145)); clear HB; have HB := n0_; have BK145 := n1_; have GW145 := n2_; have GE145 := n3_; clear n0_ n1_ n2_ n3_; clear hb hbox hg; obtain ⟨hcz12_0, hcz12_1, hcz12_2, hcz12_3, hfz12_0, hfz12_1, hfz12_2, hfz12_3⟩ := cz4_ (w := w11) BK145.out) | ((with_reducible refine gate_store (t := 26) (p := 8) rfl ?_); refine store_event (t := 26) (p := 8) (v := ?vo_w13) (w1 := ((((w11.setCell ⟨gb145, 0, none⟩ (.int .u64 ((rd_T26 l0 x17_1).f0))).setCell ⟨gb145, 1, none⟩ (.slice A144_1 ((rd_T26 l0 x17_1).f1).length c144_1)).setCell ⟨gb145, 2, none⟩ (.slice A144_2 ((rd_T26 l0 x17_1).f2).length c144_2)).setCell ⟨gb145, 3, none⟩ (.int .u64 ((rd_T26 l0 x17_1).f3)))) ?hg ?ho ?hn ?hr ?_; (case ho => rfl); (case hg => rfl); (case hn => rfl); (case hr => first | (go_simp; done) | (go_simp; rfl)); intro w13 hw; have n0_ : Aside0 (w13.heap[gb145]? = some (.cells #[.int .u64 ((rd_T26 l0 x17_1).f0), .slice A144_1 ((rd_T26 l0 x17_1).f1).length c144_1, .slice A144_2 ((rd_T26 l0 x17_1).f2).length c144_2, .int .u64 ((rd_T26 l0 x17_1).f3)] 26 (0, 0))) := ⟨(by rw [hw]; exact (by (with_reducible repeat (first | refine blk_drewN ?_ _ | refine blk_drew ?_ | refine blk_alloc ?_ _)); refine blk_put (cs := #[.int .u64 ((rd_T26 l0 x17_1).f0), .slice A144_1 ((rd_T26 l0 x17_1).f1).length c144_1, .slice A144_2 ((rd_T26 l0 x17_1).f2).length c144_2, .int .u64 0]) ?_ 3 _ rfl; refine blk_put (cs := #[.int .u64 ((rd_T26 l0 x17_1).f0), .slice A144_1 ((rd_T26 l0 x17_1).f1).length c144_1, .slice none 0 0, .int .u64 0]) ?_ 2 _ rfl; refine blk_put (cs := #[.int .u64 ((rd_T26 l0 x17_1).f0), .slice none 0 0, .slice none 0 0, .int .u64 0]) ?_ 1 _ rfl; refine blk_put (cs := #[.int .u64 0, .slice none 0 0, .slice none 0 0, .int .u64 0]) ?_ 0 _ rfl; (with_reducible repeat (first | refine blk_drewN ?_ _ | refine blk_drew ?_ | refine blk_alloc ?_ _)); exact BK145.out))⟩; have n1_ : Aside0 (Below w.heap.size w w13) := ⟨(by rw [hw]; exact (belN HB))⟩; clear hw; clear BK145; clear HB; have BK145 := n0_; have HB := n1_; clear n0_ n1_; have p146 : 0 ≤ (x17_1 : Int) := of_decide_eq_true (by first | (with_reducible assumption) | assumption); have q146 : x17_1 < (l1.length : Int) := of_decide_eq_true (by first | (with_reducible assumption) | assumption); obtain ⟨ad146, A146_1, c146_1, A146_2, c146_2, e146, hx146_0, hx146_1, hx146_2, hx146_3, hl146_1, hi146_1, hl146_2, hi146_2⟩ := at_T26 HR1.out x17_1 p146 q146; cases e146; replace hx146_0 := (HB.out.cell (World.block_lt_of_cell? w _ hx146_0)).trans hx146_0; replace hx146_1 := (HB.out.cell (World.block_lt_of_cell? w _ hx146_1)).trans hx146_1; replace hx146_2 := (HB.out.cell (World.block_lt_of_cell? w _ hx146_2)).trans hx146_2; replace hx146_3 := (HB.out.cell (World.block_lt_of_cell? w _ hx146_3)).trans hx146_3; have HR146_1 := Aside0.mk hi146_1; have HC146_1 := Aside0.mk hl146_1; clear hi146_1 hl146_1; have HR146_2 := Aside0.mk hi146_2; have HC146_2 := Aside0.mk hl146_2; clear hi146_2 hl146_2; replace p146 := eq_true p146; replace q146 := eq_true q146) | ((with_reducible refine gate_dst (N := 9) rfl ?_); refine box_event ?hg (N := 9) ?hd (cs := #[.int .u64 0, .slice none 0 0, .slice none 0 0, .int .u64 0]) (t := 26) ?hr ?_; (case hd => rfl); (case hg => rfl); (case hr => first | (go_simp; done) | (go_simp; rfl)); intro gb147 hg w14 hbox hb; have n0_ := Aside0.mk (blk_below (g := gb145) (blkN BK145) hb); have n1_ := Aside0.mk (below_step (belN HB) hb); have n2_ := Aside0.mk (hbox); have n3_ := Aside0.mk ((by rw [hg]; exact (below_size (belN HB)) : w.heap.size ≤ gb147)); have n4_ := Aside0.mk ((by rw [hg]; exact (below_size (belN HB)) : w.heap.size ≤ gb147)); have n5_ := Aside0.mk ((by rw [hg]; exact Nat.ne_of_lt (blk_lt (g := gb145) (blkN BK145)) : gb145 ≠ gb147)); have n6_ := Aside0.mk ((by rw [hg]; exact Nat.ne_of_gt (blk_lt (g := gb145) (blkN BK145)) : gb147 ≠ gb145)); clear BK145; clear HB; have BK145 := n0_; have HB := n1_; have BK147 := n2_; have GW147 := n3_; have GE147 := n4_; have NB145_147 := n5_; have NB147_145 := n6_; clear n0_ n1_ n2_ n3_ n4_ n5_ n6_; clear hb hbox hg; have hnb15 := NB147_145.out; have hnc15 := NB145_147.out; obtain ⟨hcz16_0, hcz16_1, hcz16_2, hcz16_3, hfz16_0, hfz16_1, hfz16_2, hfz16_3⟩ := cz4_ (w := w14) BK147.out) | ((with_reducible refine gate_store (t := 26) (p := 9) rfl ?_); refine store_event (t := 26) (p := 9) (v := ?vo_w17) (w1 := ((((w14.setCell ⟨gb147, 0, none⟩ (.int .u64 ((rd_T26 l1 x17_1).f0))).setCell ⟨gb147, 1, none⟩ (.slice A146_1 ((rd_T26 l1 x17_1).f1).length c146_1)).setCell ⟨gb147, 2, none⟩ (.slice A146_2 ((rd_T26 l1 x17_1).f2).length c146_2)).setCell ⟨gb147, 3, none⟩ (.int .u64 ((rd_T26 l1 x17_1).f3)))) ?hg ?ho ?hn ?hr ?_; (case ho => rfl); (case hg => rfl); (case hn => rfl); (case hr => first | (go_simp; done) | (go_simp; rfl)); intro w17 hw; have n0_ : Aside0 (w17.heap[gb145]? = some (.cells #[.int .u64 ((rd_T26 l0 x17_1).f0), .slice A144_1 ((rd_T26 l0 x17_1).f1).length c144_1, .slice A144_2 ((rd_T26 l0 x17_1).f2).length c144_2, .int .u64 ((rd_T26 l0 x17_1).f3)] 26 (0, 0))) := ⟨(by rw [hw]; exact (blkF BK145))⟩; have n1_ : Aside0 (w17.heap[gb147]? = some (.cells #[.int .u64 ((rd_T26 l1 x17_1).f0), .slice A146_1 ((rd_T26 l1 x17_1).f1).length c146_1, .slice A146_2 ((rd_T26 l1 x17_1).f2).length c146_2, .int .u64 ((rd_T26 l1 x17_1).f3)] 26 (0, 0))) := ⟨(by rw [hw]; exact (by (with_reducible repeat (first | refine blk_drewN ?_ _ | refine blk_drew ?_ | refine blk_alloc ?_ _)); refine blk_put (cs := #[.int .u64 ((rd_T26 l1 x17_1).f0), .slice A146_1 ((rd_T26 l1 x17_1).f1).length c146_1, .slice A146_2 ((rd_T26 l1 x17_1).f2).length c146_2, .int .u64 0]) ?_ 3 _ rfl; refine blk_put (cs := #[.int .u64 ((rd_T26 l1 x17_1).f0), .slice A146_1 ((rd_T26 l1 x17_1).f1).length c146_1, .slice none 0 0, .int .u64 0]) ?_ 2 _ rfl; refine blk_put (cs := #[.int .u64 ((rd_T26 l1 x17_1).f0), .slice none 0 0, .slice none 0 0, .int .u64 0]) ?_ 1 _ rfl; refine blk_put (cs := #[.int .u64 0, .slice none 0 0, .slice none 0 0, .int .u64 0]) ?_ 0 _ rfl; (with_reducible repeat (first | refine blk_drewN ?_ _ | refine blk_drew ?_ | refine blk_alloc ?_ _)); exact BK147.out))⟩; have n2_ : Aside0 (Below w.heap.size w w17) := ⟨(by rw [hw]; exact (belN HB))⟩; clear hw; clear BK145; clear BK147; clear HB; have BK145 := n0_; have BK147 := n1_; have HB := n2_; clear n0_ n1_ n2_; obtain ⟨hcz18_0, hcz18_1, hcz18_2, hcz18_3, hfz18_0, hfz18_1, hfz18_2, hfz18_3⟩ := cz4_ (w := w17) BK145.out; obtain ⟨hcz19_0, hcz19_1, hcz19_2, hcz19_3, hfz19_0, hfz19_1, hfz19_2, hfz19_3⟩ := cz4_ (w := w17) BK147.out) | ((with_reducible refine gate_tmp (t_ := 26) rfl ?_); refine goesT_ (some 29) rfl rfl Try.func32 (by kernel_rfl) rfl #[.agg #[.int .u64 ((rd_T26 l0 x17_1).f0), .slice A144_1 ((rd_T26 l0 x17_1).f1).length c144_1, .slice A144_2 ((rd_T26 l0 x17_1).f2).length c144_2, .int .u64 ((rd_T26 l0 x17_1).f3)], .agg #[.int .u64 ((rd_T26 l1 x17_1).f0), .slice A146_1 ((rd_T26 l1 x17_1).f1).length c146_1, .slice A146_2 ((rd_T26 l1 x17_1).f2).length c146_2, .int .u64 ((rd_T26 l1 x17_1).f3)]] rfl rfl (by (try simp only [List.map_toArray, List.map_cons, List.map_nil]); first | done | rfl | (simp only [List.length_drop, List.length_take]; rfl)) ?_; (with_reducible refine (idem_one.calls ((rd_T26 l0 x17_1).f0) _ _ ((rd_T26 l0 x17_1).f1) _ _ ((rd_T26 l0 x17_1).f2) ((rd_T26 l0 x17_1).f3) ((rd_T26 l1 x17_1).f0) _ _ ((rd_T26 l1 x17_1).f1) _ _ ((rd_T26 l1 x17_1).f2) ((rd_T26 l1 x17_1).f3) true _ ?side1 ?side2 ?side3 ?side4 ?side5 ?side6 ?side7 ?side8 A9.out).mono ?_); (case side1 => repeat (first | exact (Kd.C_below HR144_1.out HB.out) | (with_reducible refine Kd.C_alloc ?_ _) | (with_reducible refine Kd.C_drewN ?_ _) | (with_reducible refine Kd.C_drew ?_))); (case side2 => exact HC144_1.out); (case side3 => repeat (first | exact (Kd.C_below HR144_2.out HB.out) | (with_reducible refine Kd.C_alloc ?_ _) | (with_reducible refine Kd.C_drewN ?_ _) | (with_reducible refine Kd.C_drew ?_))); (case side4 => exact HC144_2.out); (case side5 => repeat (first | exact (Kd.C_below HR146_1.out HB.out) | (with_reducible refine Kd.C_alloc ?_ _) | (with_reducible refine Kd.C_drewN ?_ _) | (with_reducible refine Kd.C_drew ?_))); (case side6 => exact HC146_1.out); (case side7 => repeat (first | exact (Kd.C_below HR146_2.out HB.out) | (with_reducible refine Kd.C_alloc ?_ _) | (with_reducible refine Kd.C_drewN ?_ _) | (with_reducible refine Kd.C_drew ?_))); (case side8 => exact HC146_2.out); rintro e w20 ⟨rfl, hb⟩; refine ⟨_, rfl, ?_⟩; have n0_ := Aside0.mk (blk_below (g := gb145) (blkN BK145) hb); have n1_ := Aside0.mk (blk_below (g := gb147) (blkN BK147) hb); have n2_ := Aside0.mk (below_step (belN HB) hb); clear BK145; clear BK147; clear HB; have BK145 := n0_; have BK147 := n1_; have HB := n2_; clear n0_ n1_ n2_; (try clear hb); (try clear hb2); (try clear hk); (try clear hi)))
                  go_roundg k1
                  case measure => have := HK1.out; omega
                  case rel => exact ⟨(wrap64 (x17_1 + 1)), (by first | rfl | (simp; done) | (simp [*]; done)), H', ⟨by have := HK1.out; omega⟩, ⟨by repeat (first | (with_reducible first | exact HB.out | apply below_alloc | apply pw_below_drewN | apply below_drew1 | refine below_set ?_ GE145.out | refine below_set ?_ GE147.out) | exact HB.out)⟩⟩
                · replace c10 := Bool.eq_false_iff.mpr c10
                  subst c10
                  have H1 : (some false) = some r := by rw [if_neg (show ¬ (false = true) by decide)] at H; exact H
                  clear H
                  have H := H1
                  clear H1
                  obtain rfl := Option.some.inj H
                  have p144 : 0 ≤ (x17_1 : Int) := of_decide_eq_true (by first | (with_reducible assumption) | assumption)
                  have q144 : x17_1 < (l0.length : Int) := of_decide_eq_true (by first | (with_reducible assumption) | assumption)
                  obtain ⟨ad144, A144_1, c144_1, A144_2, c144_2, e144, hx144_0, hx144_1, hx144_2, hx144_3, hl144_1, hi144_1, hl144_2, hi144_2⟩ := at_T26 HR0.out x17_1 p144 q144
                  cases e144
                  replace hx144_0 := (HB.out.cell (World.block_lt_of_cell? w _ hx144_0)).trans hx144_0
                  replace hx144_1 := (HB.out.cell (World.block_lt_of_cell? w _ hx144_1)).trans hx144_1
                  replace hx144_2 := (HB.out.cell (World.block_lt_of_cell? w _ hx144_2)).trans hx144_2
                  replace hx144_3 := (HB.out.cell (World.block_lt_of_cell? w _ hx144_3)).trans hx144_3
                  have HR144_1 := Aside0.mk hi144_1
                  have HC144_1 := Aside0.mk hl144_1
                  clear hi144_1 hl144_1
                  have HR144_2 := Aside0.mk hi144_2
                  have HC144_2 := Aside0.mk hl144_2
                  clear hi144_2 hl144_2
                  replace p144 := eq_true p144
                  replace q144 := eq_true q144
                  go_wp2_with (first | ((with_reducible refine gate_dst (N := 8) rfl ?_); refine box_event ?hg (N := 8) ?hd (cs := #[.int .u64 0, .slice none 0 0, .slice none 0 0, .int .u64 0]) (t := 26) ?hr ?_; (case hd => rfl); (case hg => rfl); (case hr => first | (go_simp; done) | (go_simp; rfl)); intro gb145 hg w21 hbox hb; have n0_ := Aside0.mk (below_step (belN HB) hb); have n1_ := Aside0.mk (hbox); have n2_ := Aside0.mk ((by rw [hg]; exact (below_size (belN HB)) : w.heap.size ≤ gb145)); have n3_ := Aside0.mk ((by rw [hg]; exact (below_size (belN HB)) : w.heap.size ≤ gb145)); clear HB; have HB := n0_; have BK145 := n1_; have GW145 := n2_; have GE145 := n3_; clear n0_ n1_ n2_ n3_; clear hb hbox hg; obtain ⟨hcz22_0, hcz22_1, hcz22_2, hcz22_3, hfz22_0, hfz22_1, hfz22_2, hfz22_3⟩ := cz4_ (w := w21) BK145.out) | ((with_reducible refine gate_store (t := 26) (p := 8) rfl ?_); refine store_event (t := 26) (p := 8) (v := ?vo_w23) (w1 := ((((w21.setCell ⟨gb145, 0, none⟩ (.int .u64 ((rd_T26 l0 x17_1).f0))).setCell ⟨gb145, 1, none⟩ (.slice A144_1 ((rd_T26 l0 x17_1).f1).length c144_1)).setCell ⟨gb145, 2, none⟩ (.slice A144_2 ((rd_T26 l0 x17_1).f2).length c144_2)).setCell ⟨gb145, 3, none⟩ (.int .u64 ((rd_T26 l0 x17_1).f3)))) ?hg ?ho ?hn ?hr ?_; (case ho => rfl); (case hg => rfl); (case hn => rfl); (case hr => first | (go_simp; done) | (go_simp; rfl)); intro w23 hw; have n0_ : Aside0 (w23.heap[gb145]? = some (.cells #[.int .u64 ((rd_T26 l0 x17_1).f0), .slice A144_1 ((rd_T26 l0 x17_1).f1).length c144_1, .slice A144_2 ((rd_T26 l0 x17_1).f2).length c144_2, .int .u64 ((rd_T26 l0 x17_1).f3)] 26 (0, 0))) := ⟨(by rw [hw]; exact (by (with_reducible repeat (first | refine blk_drewN ?_ _ | refine blk_drew ?_ | refine blk_alloc ?_ _)); refine blk_put (cs := #[.int .u64 ((rd_T26 l0 x17_1).f0), .slice A144_1 ((rd_T26 l0 x17_1).f1).length c144_1, .slice A144_2 ((rd_T26 l0 x17_1).f2).length c144_2, .int .u64 0]) ?_ 3 _ rfl; refine blk_put (cs := #[.int .u64 ((rd_T26 l0 x17_1).f0), .slice A144_1 ((rd_T26 l0 x17_1).f1).length c144_1, .slice none 0 0, .int .u64 0]) ?_ 2 _ rfl; refine blk_put (cs := #[.int .u64 ((rd_T26 l0 x17_1).f0), .slice none 0 0, .slice none 0 0, .int .u64 0]) ?_ 1 _ rfl; refine blk_put (cs := #[.int .u64 0, .slice none 0 0, .slice none 0 0, .int .u64 0]) ?_ 0 _ rfl; (with_reducible repeat (first | refine blk_drewN ?_ _ | refine blk_drew ?_ | refine blk_alloc ?_ _)); exact BK145.out))⟩; have n1_ : Aside0 (Below w.heap.size w w23) := ⟨(by rw [hw]; exact (belN HB))⟩; clear hw; clear BK145; clear HB; have BK145 := n0_; have HB := n1_; clear n0_ n1_; have p146 : 0 ≤ (x17_1 : Int) := of_decide_eq_true (by first | (with_reducible assumption) | assumption); have q146 : x17_1 < (l1.length : Int) := of_decide_eq_true (by first | (with_reducible assumption) | assumption); obtain ⟨ad146, A146_1, c146_1, A146_2, c146_2, e146, hx146_0, hx146_1, hx146_2, hx146_3, hl146_1, hi146_1, hl146_2, hi146_2⟩ := at_T26 HR1.out x17_1 p146 q146; cases e146; replace hx146_0 := (HB.out.cell (World.block_lt_of_cell? w _ hx146_0)).trans hx146_0; replace hx146_1 := (HB.out.cell (World.block_lt_of_cell? w _ hx146_1)).trans hx146_1; replace hx146_2 := (HB.out.cell (World.block_lt_of_cell? w _ hx146_2)).trans hx146_2; replace hx146_3 := (HB.out.cell (World.block_lt_of_cell? w _ hx146_3)).trans hx146_3; have HR146_1 := Aside0.mk hi146_1; have HC146_1 := Aside0.mk hl146_1; clear hi146_1 hl146_1; have HR146_2 := Aside0.mk hi146_2; have HC146_2 := Aside0.mk hl146_2; clear hi146_2 hl146_2; replace p146 := eq_true p146; replace q146 := eq_true q146) | ((with_reducible refine gate_dst (N := 9) rfl ?_); refine box_event ?hg (N := 9) ?hd (cs := #[.int .u64 0, .slice none 0 0, .slice none 0 0, .int .u64 0]) (t := 26) ?hr ?_; (case hd => rfl); (case hg => rfl); (case hr => first | (go_simp; done) | (go_simp; rfl)); intro gb147 hg w24 hbox hb; have n0_ := Aside0.mk (blk_below (g := gb145) (blkN BK145) hb); have n1_ := Aside0.mk (below_step (belN HB) hb); have n2_ := Aside0.mk (hbox); have n3_ := Aside0.mk ((by rw [hg]; exact (below_size (belN HB)) : w.heap.size ≤ gb147)); have n4_ := Aside0.mk ((by rw [hg]; exact (below_size (belN HB)) : w.heap.size ≤ gb147)); have n5_ := Aside0.mk ((by rw [hg]; exact Nat.ne_of_lt (blk_lt (g := gb145) (blkN BK145)) : gb145 ≠ gb147)); have n6_ := Aside0.mk ((by rw [hg]; exact Nat.ne_of_gt (blk_lt (g := gb145) (blkN BK145)) : gb147 ≠ gb145)); clear BK145; clear HB; have BK145 := n0_; have HB := n1_; have BK147 := n2_; have GW147 := n3_; have GE147 := n4_; have NB145_147 := n5_; have NB147_145 := n6_; clear n0_ n1_ n2_ n3_ n4_ n5_ n6_; clear hb hbox hg; have hnb25 := NB147_145.out; have hnc25 := NB145_147.out; obtain ⟨hcz26_0, hcz26_1, hcz26_2, hcz26_3, hfz26_0, hfz26_1, hfz26_2, hfz26_3⟩ := cz4_ (w := w24) BK147.out) | ((with_reducible refine gate_store (t := 26) (p := 9) rfl ?_); refine store_event (t := 26) (p := 9) (v := ?vo_w27) (w1 := ((((w24.setCell ⟨gb147, 0, none⟩ (.int .u64 ((rd_T26 l1 x17_1).f0))).setCell ⟨gb147, 1, none⟩ (.slice A146_1 ((rd_T26 l1 x17_1).f1).length c146_1)).setCell ⟨gb147, 2, none⟩ (.slice A146_2 ((rd_T26 l1 x17_1).f2).length c146_2)).setCell ⟨gb147, 3, none⟩ (.int .u64 ((rd_T26 l1 x17_1).f3)))) ?hg ?ho ?hn ?hr ?_; (case ho => rfl); (case hg => rfl); (case hn => rfl); (case hr => first | (go_simp; done) | (go_simp; rfl)); intro w27 hw; have n0_ : Aside0 (w27.heap[gb145]? = some (.cells #[.int .u64 ((rd_T26 l0 x17_1).f0), .slice A144_1 ((rd_T26 l0 x17_1).f1).length c144_1, .slice A144_2 ((rd_T26 l0 x17_1).f2).length c144_2, .int .u64 ((rd_T26 l0 x17_1).f3)] 26 (0, 0))) := ⟨(by rw [hw]; exact (blkF BK145))⟩; have n1_ : Aside0 (w27.heap[gb147]? = some (.cells #[.int .u64 ((rd_T26 l1 x17_1).f0), .slice A146_1 ((rd_T26 l1 x17_1).f1).length c146_1, .slice A146_2 ((rd_T26 l1 x17_1).f2).length c146_2, .int .u64 ((rd_T26 l1 x17_1).f3)] 26 (0, 0))) := ⟨(by rw [hw]; exact (by (with_reducible repeat (first | refine blk_drewN ?_ _ | refine blk_drew ?_ | refine blk_alloc ?_ _)); refine blk_put (cs := #[.int .u64 ((rd_T26 l1 x17_1).f0), .slice A146_1 ((rd_T26 l1 x17_1).f1).length c146_1, .slice A146_2 ((rd_T26 l1 x17_1).f2).length c146_2, .int .u64 0]) ?_ 3 _ rfl; refine blk_put (cs := #[.int .u64 ((rd_T26 l1 x17_1).f0), .slice A146_1 ((rd_T26 l1 x17_1).f1).length c146_1, .slice none 0 0, .int .u64 0]) ?_ 2 _ rfl; refine blk_put (cs := #[.int .u64 ((rd_T26 l1 x17_1).f0), .slice none 0 0, .slice none 0 0, .int .u64 0]) ?_ 1 _ rfl; refine blk_put (cs := #[.int .u64 0, .slice none 0 0, .slice none 0 0, .int .u64 0]) ?_ 0 _ rfl; (with_reducible repeat (first | refine blk_drewN ?_ _ | refine blk_drew ?_ | refine blk_alloc ?_ _)); exact BK147.out))⟩; have n2_ : Aside0 (Below w.heap.size w w27) := ⟨(by rw [hw]; exact (belN HB))⟩; clear hw; clear BK145; clear BK147; clear HB; have BK145 := n0_; have BK147 := n1_; have HB := n2_; clear n0_ n1_ n2_; obtain ⟨hcz28_0, hcz28_1, hcz28_2, hcz28_3, hfz28_0, hfz28_1, hfz28_2, hfz28_3⟩ := cz4_ (w := w27) BK145.out; obtain ⟨hcz29_0, hcz29_1, hcz29_2, hcz29_3, hfz29_0, hfz29_1, hfz29_2, hfz29_3⟩ := cz4_ (w := w27) BK147.out) | ((with_reducible refine gate_tmp (t_ := 26) rfl ?_); refine goesT_ (some 29) rfl rfl Try.func32 (by kernel_rfl) rfl #[.agg #[.int .u64 ((rd_T26 l0 x17_1).f0), .slice A144_1 ((rd_T26 l0 x17_1).f1).length c144_1, .slice A144_2 ((rd_T26 l0 x17_1).f2).length c144_2, .int .u64 ((rd_T26 l0 x17_1).f3)], .agg #[.int .u64 ((rd_T26 l1 x17_1).f0), .slice A146_1 ((rd_T26 l1 x17_1).f1).length c146_1, .slice A146_2 ((rd_T26 l1 x17_1).f2).length c146_2, .int .u64 ((rd_T26 l1 x17_1).f3)]] rfl rfl (by (try simp only [List.map_toArray, List.map_cons, List.map_nil]); first | done | rfl | (simp only [List.length_drop, List.length_take]; rfl)) ?_; (with_reducible refine (idem_one.calls ((rd_T26 l0 x17_1).f0) _ _ ((rd_T26 l0 x17_1).f1) _ _ ((rd_T26 l0 x17_1).f2) ((rd_T26 l0 x17_1).f3) ((rd_T26 l1 x17_1).f0) _ _ ((rd_T26 l1 x17_1).f1) _ _ ((rd_T26 l1 x17_1).f2) ((rd_T26 l1 x17_1).f3) false _ ?side1 ?side2 ?side3 ?side4 ?side5 ?side6 ?side7 ?side8 A9.out).mono ?_); (case side1 => repeat (first | exact (Kd.C_below HR144_1.out HB.out) | (with_reducible refine Kd.C_alloc ?_ _) | (with_reducible refine Kd.C_drewN ?_ _) | (with_reducible refine Kd.C_drew ?_))); (case side2 => exact HC144_1.out); (case side3 => repeat (first | exact (Kd.C_below HR144_2.out HB.out) | (with_reducible refine Kd.C_alloc ?_ _) | (with_reducible refine Kd.C_drewN ?_ _) | (with_reducible refine Kd.C_drew ?_))); (case side4 => exact HC144_2.out); (case side5 => repeat (first | exact (Kd.C_below HR146_1.out HB.out) | (with_reducible refine Kd.C_alloc ?_ _) | (with_reducible refine Kd.C_drewN ?_ _) | (with_reducible refine Kd.C_drew ?_))); (case side6 => exact HC146_1.out); (case side7 => repeat (first | exact (Kd.C_below HR146_2.out HB.out) | (with_reducible refine Kd.C_alloc ?_ _) | (with_reducible refine Kd.C_drewN ?_ _) | (with_reducible refine Kd.C_drew ?_))); (case side8 => exact HC146_2.out); rintro e w30 ⟨rfl, hb⟩; refine ⟨_, rfl, ?_⟩; have n0_ := Aside0.mk (blk_below (g := gb145) (blkN BK145) hb); have n1_ := Aside0.mk (blk_below (g := gb147) (blkN BK147) hb); have n2_ := Aside0.mk (below_step (belN HB) hb); clear BK145; clear BK147; clear HB; have BK145 := n0_; have BK147 := n1_; have HB := n2_; clear n0_ n1_ n2_; (try clear hb); (try clear hb2); (try clear hk); (try clear hi)))
                  go_ret
                  exact ⟨by first | rfl | (simp [errW_none, errW_some] <;> rfl) | (simp [*, errW_none, errW_some] <;> rfl), by repeat (first | (with_reducible first | exact HB.out | apply below_alloc | apply pw_below_drewN | apply below_drew1 | refine below_set ?_ GE145.out | refine below_set ?_ GE147.out) | exact HB.out)⟩
              · rw [if_neg c8] at H
                exact absurd H (by simp)
            · rw [if_neg c7] at H
              exact absurd H (by simp)
          · rw [if_neg c6] at H
            exact absurd H (by simp)
        · rw [if_neg c5] at H
          have c5b0 : decide (x17_1 < (l0.length : Int)) = false := decide_eq_false c5
          clear c5
          obtain rfl := Option.some.inj H
          go_wp2
          go_ret
          exact ⟨by first | rfl | (simp [errW_none, errW_some] <;> rfl) | (simp [*, errW_none, errW_some] <;> rfl), by repeat (first | (with_reducible first | exact HB.out | apply below_alloc | apply pw_below_drewN | apply below_drew1) | exact HB.out)⟩
  · rw [if_neg c4] at H
    have c4b0 : ((l0.length : Int) == (l1.length : Int)) = false := beq_eq_false_iff_ne.mpr c4
    have c4b1 : ((l0.length : Int) != (l1.length : Int)) = true := bne_iff_ne.mpr c4
    have c4b2 : (l0.length == l1.length) = false := by first | simpa using c4 | (simp at c4 ⊢; omega)
    obtain rfl := Option.some.inj H
    go_enter Try.func31, Try.ntmps31
    go_wp2
    go_ret
    exact ⟨by first | rfl | (simp [errW_none, errW_some] <;> rfl) | (simp [*, errW_none, errW_some] <;> rfl), by repeat (first | (with_reducible first | exact HB.out | apply below_alloc | apply pw_below_drewN | apply below_drew1) | exact HB.out)⟩

/-! ### idem_Same: function 22 -/
def idem_Same.f (k : Nat) (l0 : List (S26)) (l1 : List (S26)) : Option (Bool) := (slices_EqualFunc_Key_at_idem_one.f k l0 l1).bind fun t149 => (some t149)
theorem idem_Same.mono : ∀ a0 a1 k, LeO (idem_Same.f k a0 a1) (idem_Same.f (k + 1) a0 a1) := by
  intro a0 a1 k
  unfold idem_Same.f
  repeat' first
      | (with_reducible exact slices_EqualFunc_Key_at_idem_one.mono _ _ _)
      | (with_reducible exact LeO.refl _)
      | (with_reducible exact LeO.none _)
      | (with_reducible refine LeO.ite ?_ ?_)
      | (with_reducible refine LeO.bind ?_ (fun _ => ?_))
      | exact slices_EqualFunc_Key_at_idem_one.mono _ _ _
      | exact LeO.none _
      | refine LeO.ite ?_ ?_
      | refine LeO.bind ?_ (fun _ => ?_)
set_option maxHeartbeats 8000000 in
set_option maxRecDepth 100000 in
theorem idem_Same.calls (k : Nat) (A0 : Option Addr) (c0 : Nat) (l0 : List (S26)) (A1 : Option Addr) (c1 : Nat) (l1 : List (S26)) (r : Bool) (w : World) (hr0 : Kd.C k26 w A0 l0.length l0) (hc0 : l0.length ≤ c0) (hr1 : Kd.C k26 w A1 l1.length l1) (hc1 : l1.length ≤ c1) (h : idem_Same.f k l0 l1 = some r) :
    Calls Try.prog 22 #[.slice A0 l0.length c0, .slice A1 l1.length c1] w fun e w' => e = .returned (.bool r) ∧ Below w.heap.size w w' := by
  have HR0 := Aside0.mk hr0
  have HC0 := Aside0.mk hc0
  clear hr0 hc0
  have HR1 := Aside0.mk hr1
  have HC1 := Aside0.mk hc1
  clear hr1 hc1
  have HB := Aside0.mk (Below.refl w.heap.size w)
  have H : ((slices_EqualFunc_Key_at_idem_one.f k l0 l1).bind fun t149 => (some t149)) = some r := h
  clear h
  replace H := Option.bind_eq_some_iff.mp H
  obtain ⟨t149, A30, H⟩ := H
  replace H : (some t149) = some r := H
  have A3 := Aside0.mk A30
  clear A30
  obtain rfl := Option.some.inj H
  go_enter Try.func22, Try.ntmps22
  go_wp2_with (first | ((with_reducible refine gate_callee (f := 31) rfl ?_); refine goesL_ (some 7) rfl rfl Try.func31 (by kernel_rfl) rfl #[.slice A0 l0.length c0, .slice A1 l1.length c1, .func (.func 32) #[] #[]] rfl (by (try simp only [List.map_toArray, List.map_cons, List.map_nil]); first | done | rfl | (simp only [List.length_drop, List.length_take]; rfl)) ?_; (with_reducible refine (slices_EqualFunc_Key_at_idem_one.calls k _ _ l0 _ _ l1  t149 _ ?side1 ?side2 ?side3 ?side4 A3.out).mono ?_); (case side1 => repeat (first | exact HR0.out | (with_reducible refine Kd.C_alloc ?_ _) | (with_reducible refine Kd.C_drewN ?_ _) | (with_reducible refine Kd.C_drew ?_))); (case side2 => exact HC0.out); (case side3 => repeat (first | exact HR1.out | (with_reducible refine Kd.C_alloc ?_ _) | (with_reducible refine Kd.C_drewN ?_ _) | (with_reducible refine Kd.C_drew ?_))); (case side4 => exact HC1.out); rintro e w4 ⟨rfl, hb⟩; refine ⟨_, rfl, ?_⟩; have n0_ := Aside0.mk (below_step (belN HB) hb); clear HB; have HB := n0_; clear n0_; (try clear hb); (try clear hb2); (try clear hk); (try clear hi)))
  go_ret
  exact ⟨by first | rfl | (simp [errW_none, errW_some] <;> rfl) | (simp [*, errW_none, errW_some] <;> rfl), by repeat (first | (with_reducible first | exact HB.out | apply below_alloc | apply pw_below_drewN | apply below_drew1) | exact HB.out)⟩

end Go.Proofs.Ytmoncgfffdddeaa.P
