-- written by a program of this session (wip/print)
import Derived.Test.YtcfbcoinbecdfaaQPdoesx0
import Derived.Test.YtcfbcoinbecdfaaQPdoesx3
import Derived.Test.YtcfbcoinbecdfaaQPdoesx5
namespace Go.Proofs.Ytcfbcoinbecdfaa.P
open Go.RowKit Go.Proofs.YtcfbcoinbecdfaaW.PrintWords Go.Proofs.YtcfbcoinbecdfaaW.PrintLast Go.Proofs.YtcfbcoinbecdfaaW.PrintMore
attribute [local go_sem] max2_int min2_int max_two min_two max_three min_three max_four min_four run_sub64_   -- for this text's walks alone
set_option linter.unusedVariables false
set_option linter.unusedSimpArgs false

/-! ### payment_Held: function 75 -/
mutual
def payment_Held.l0 : Nat → Int → Int → List (S74) → Int → Int → Option (Int × Int)
  | 0, _, _, _, _, _ => none
  | k + 1, x1, x4, x13, x14, x15 => if x15 < x14 then (if 0 ≤ x15 then (if x15 < (x13.length : Int) then (if ((rd_T74 x13 x15).f4) = 1 then (payment_Held.j1 k x1 x4 x13 x14 x15 (((rd_T74 x13 x15).f2) != x1) ((rd_T74 x13 x15).f0) ((rd_T74 x13 x15).f1) ((rd_T74 x13 x15).f2) ((rd_T74 x13 x15).f3) ((rd_T74 x13 x15).f4)) else (payment_Held.j1 k x1 x4 x13 x14 x15 true ((rd_T74 x13 x15).f0) ((rd_T74 x13 x15).f1) ((rd_T74 x13 x15).f2) ((rd_T74 x13 x15).f3) ((rd_T74 x13 x15).f4))) else (none)) else (none)) else (some (x4, 0))
def payment_Held.j1 : Nat → Int → Int → List (S74) → Int → Int → Bool → Int → Int → Int → Int → Int → Option (Int × Int)
  | 0, _, _, _, _, _, _, _, _, _, _, _ => none
  | k + 1, x1, x4, x13, x14, x15, x27, x189000, x189001, x189002, x189003, x189004 => if x27 = true then (payment_Held.l0 k x1 x4 x13 x14 (wrap64 (x15 + 1))) else ((money_Add.f k (([x4, x189003] : List Int))).bind fun bt192 => (if bt192.2 = 0 then (payment_Held.l0 k x1 bt192.1 x13 x14 (wrap64 (x15 + 1))) else (some (0, 1))))
end
def payment_Held.f (k : Nat) (l0 : List (S74)) (a1 : Int) : Option (Int × Int) := (payment_Check.f k l0).bind fun t186 => (if t186 = 0 then (payment_Held.l0 k a1 0 l0 (l0.length : Int) 0) else (some (0, t186)))
theorem payment_Held.mono_l : ∀ k, (∀ y0 y1 y2 y3 y4, LeO (payment_Held.l0 k y0 y1 y2 y3 y4) (payment_Held.l0 (k + 1) y0 y1 y2 y3 y4)) ∧ (∀ y0 y1 y2 y3 y4 y5 y6 y7 y8 y9 y10, LeO (payment_Held.j1 k y0 y1 y2 y3 y4 y5 y6 y7 y8 y9 y10) (payment_Held.j1 (k + 1) y0 y1 y2 y3 y4 y5 y6 y7 y8 y9 y10))
  | 0 => ⟨fun _ _ _ _ _ r h => by simp [payment_Held.l0] at h, fun _ _ _ _ _ _ _ _ _ _ _ r h => by simp [payment_Held.j1] at h⟩
  | k + 1 => by
    obtain ⟨ih0, ih1⟩ := payment_Held.mono_l k
    refine ⟨?_, ?_⟩
    · intro y0 y1 y2 y3 y4
      unfold payment_Held.l0
      repeat' first
      | (with_reducible exact ih0 _ _ _ _ _)
      | (with_reducible exact ih1 _ _ _ _ _ _ _ _ _ _ _)
      | (with_reducible exact money_Add.mono _ _)
      | (with_reducible exact payment_Check.mono _ _)
      | (with_reducible exact LeO.refl _)
      | (with_reducible exact LeO.none _)
      | (with_reducible refine LeO.ite ?_ ?_)
      | (with_reducible refine LeO.bind ?_ (fun _ => ?_))
      | exact ih0 _ _ _ _ _
      | exact ih1 _ _ _ _ _ _ _ _ _ _ _
      | exact money_Add.mono _ _
      | exact payment_Check.mono _ _
      | exact LeO.none _
      | refine LeO.ite ?_ ?_
      | refine LeO.bind ?_ (fun _ => ?_)
    · intro y0 y1 y2 y3 y4 y5 y6 y7 y8 y9 y10
      unfold payment_Held.j1
      repeat' first
      | (with_reducible exact ih0 _ _ _ _ _)
      | (with_reducible exact ih1 _ _ _ _ _ _ _ _ _ _ _)
      | (with_reducible exact money_Add.mono _ _)
      | (with_reducible exact payment_Check.mono _ _)
      | (with_reducible exact LeO.refl _)
      | (with_reducible exact LeO.none _)
      | (with_reducible refine LeO.ite ?_ ?_)
      | (with_reducible refine LeO.bind ?_ (fun _ => ?_))
      | exact ih0 _ _ _ _ _
      | exact ih1 _ _ _ _ _ _ _ _ _ _ _
      | exact money_Add.mono _ _
      | exact payment_Check.mono _ _
      | exact LeO.none _
      | refine LeO.ite ?_ ?_
      | refine LeO.bind ?_ (fun _ => ?_)
theorem payment_Held.mono : ∀ a0 a1 k, LeO (payment_Held.f k a0 a1) (payment_Held.f (k + 1) a0 a1) := by
  intro a0 a1 k
  obtain ⟨ih0, ih1⟩ := payment_Held.mono_l k
  unfold payment_Held.f
  repeat' first
      | (with_reducible exact ih0 _ _ _ _ _)
      | (with_reducible exact ih1 _ _ _ _ _ _ _ _ _ _ _)
      | (with_reducible exact money_Add.mono _ _)
      | (with_reducible exact payment_Check.mono _ _)
      | (with_reducible exact LeO.refl _)
      | (with_reducible exact LeO.none _)
      | (with_reducible refine LeO.ite ?_ ?_)
      | (with_reducible refine LeO.bind ?_ (fun _ => ?_))
      | exact ih0 _ _ _ _ _
      | exact ih1 _ _ _ _ _ _ _ _ _ _ _
      | exact money_Add.mono _ _
      | exact payment_Check.mono _ _
      | exact LeO.none _
      | refine LeO.ite ?_ ?_
      | refine LeO.bind ?_ (fun _ => ?_)
set_option maxHeartbeats 8000000 in
set_option maxRecDepth 100000 in
theorem payment_Held.calls (k : Nat) (A0 : Option Addr) (c0 : Nat) (l0 : List (S74)) (a1 : Int) (r1 : Int) (r2 : Int) (w : World) (hr0 : Kd.C k74 w A0 l0.length l0) (hc0 : l0.length ≤ c0) (h : payment_Held.f k l0 a1 = some (r1, r2)) :
    Calls Try.prog 75 #[.slice A0 l0.length c0, .int .u64 a1] w fun e w' => e = .returned (.tuple #[.int .u64 r1, .int .i64 r2]) ∧ Below w.heap.size w w' := by
  have hu74 := Try.underlying74
  have HR0 := Aside0.mk hr0
  have HC0 := Aside0.mk hc0
  clear hr0 hc0
  have HB := Aside0.mk (Below.refl w.heap.size w)
  have H : ((payment_Check.f k l0).bind fun t186 => (if t186 = 0 then (payment_Held.l0 k a1 0 l0 (l0.length : Int) 0) else (some (0, t186)))) = some (r1, r2) := h
  clear h
  replace H := Option.bind_eq_some_iff.mp H
  obtain ⟨t186, A30, H⟩ := H
  replace H : (if t186 = 0 then (payment_Held.l0 k a1 0 l0 (l0.length : Int) 0) else (some (0, t186))) = some (r1, r2) := H
  have A3 := Aside0.mk A30
  clear A30
  by_cases c4 : t186 = 0
  · rw [if_pos c4] at H
    have c4b0 : (t186 == 0) = true := beq_iff_eq.mpr c4
    have c4b1 : (t186 != 0) = false := bne_eq_false_iff_eq.mpr c4
    clear c4
    have H' := Aside0.mk H
    clear H
    go_enter Try.func75, Try.ntmps75
    go_wp2_with (first | ((with_reducible refine gate_callee (f := 73) rfl ?_); refine goesL_ (some 9) rfl rfl Try.func73 (by kernel_rfl) rfl #[.slice A0 l0.length c0] rfl (by (try simp only [List.map_toArray, List.map_cons, List.map_nil]); first | done | rfl | (simp only [List.length_drop, List.length_take]; rfl)) ?_; (with_reducible refine (payment_Check.calls k _ _ l0 t186 _ ?side1 ?side2 A3.out).mono ?_); (case side1 => repeat (first | exact HR0.out | (with_reducible refine Kd.C_alloc ?_ _) | (with_reducible refine Kd.C_drewN ?_ _) | (with_reducible refine Kd.C_drew ?_))); (case side2 => exact HC0.out); rintro e w5 ⟨rfl, hb⟩; refine ⟨_, rfl, ?_⟩; have n0_ := Aside0.mk (below_step (belN HB) hb); clear HB; have HB := n0_; clear n0_; (try clear hb); (try clear hb2); (try clear hk); (try clear hi)))
    go_loopg [4, 15] k (fun kq v4 v15 w' => ∃ (x4_1 : Int) (x15_1 : Int), v4 = .int .u64 x4_1 ∧ v15 = .int .i64 x15_1 ∧ Aside0 (payment_Held.l0 kq a1 x4_1 l0 (l0.length : Int) x15_1 = some (r1, r2)) ∧ Aside0 (kq ≤ k) ∧ Aside0 (Below w.heap.size w w'))
    case atStart => exact ⟨(0), (0), (by first | rfl | (simp; done) | (simp [*]; done)), (by first | rfl | (simp; done) | (simp [*]; done)), H', ⟨Nat.le_refl _⟩, ⟨by repeat (first | (with_reducible first | exact HB.out | apply below_alloc | apply pw_below_drewN | apply below_drew1) | exact HB.out)⟩⟩
    case round =>
      clear H'
      try clear p2
      try clear c4
      try clear c4b0
      try clear c4b1
      obtain ⟨x4_1, x15_1, rfl, rfl, HA, HK1, HB⟩ := hrel
      cases gk with
      | zero => exact absurd HA.out (by simp [payment_Held.l0])
      | succ k1 =>
        have H := HA.out
        clear HA
        simp only [payment_Held.l0] at H
        by_cases c6 : x15_1 < (l0.length : Int)
        · rw [if_pos c6] at H
          have c6b0 : decide (x15_1 < (l0.length : Int)) = true := decide_eq_true c6
          clear c6
          by_cases c7 : 0 ≤ x15_1
          · rw [if_pos c7] at H
            have c7b0 : decide (0 ≤ x15_1) = true := decide_eq_true c7
            clear c7
            by_cases c8 : x15_1 < (l0.length : Int)
            · rw [if_pos c8] at H
              have c8b0 : decide (x15_1 < (l0.length : Int)) = true := decide_eq_true c8
              clear c8
              have HC9 := Aside0.mk H
              clear H
              have p187 : 0 ≤ (x15_1 : Int) := of_decide_eq_true (by first | (with_reducible assumption) | assumption)
              have q187 : x15_1 < (l0.length : Int) := of_decide_eq_true (by first | (with_reducible assumption) | assumption)
              obtain ⟨ad187, e187, hx187_0, hx187_1, hx187_2, hx187_3, hx187_4⟩ := at_T74 HR0.out x15_1 p187 q187
              cases e187
              replace hx187_0 := (HB.out.cell (World.block_lt_of_cell? w _ hx187_0)).trans hx187_0
              replace hx187_1 := (HB.out.cell (World.block_lt_of_cell? w _ hx187_1)).trans hx187_1
              replace hx187_2 := (HB.out.cell (World.block_lt_of_cell? w _ hx187_2)).trans hx187_2
              replace hx187_3 := (HB.out.cell (World.block_lt_of_cell? w _ hx187_3)).trans hx187_3
              replace hx187_4 := (HB.out.cell (World.block_lt_of_cell? w _ hx187_4)).trans hx187_4
              replace p187 := eq_true p187
              replace q187 := eq_true q187
              go_upto_region 7 with (first | ((with_reducible refine gate_dst (N := 7) rfl ?_); refine box_event ?hg (N := 7) ?hd (cs := #[.int .u64 0, .int .u64 0, .int .u64 0, .int .u64 0, .int .i64 0]) (t := 74) ?hr ?_; (case hd => rfl); (case hg => rfl); (case hr => first | (go_simp; done) | (go_simp; rfl)); intro gb188 hg w10 hbox hb; have n0_ := Aside0.mk (below_step (belN HB) hb); have n1_ := Aside0.mk (hbox); have n2_ := Aside0.mk ((by rw [hg]; exact (below_size (belN HB)) : w.heap.size ≤ gb188)); have n3_ := Aside0.mk ((by rw [hg]; exact (below_size (belN HB)) : w.heap.size ≤ gb188)); clear HB; have HB := n0_; have BK188 := n1_; have GW188 := n2_; have GE188 := n3_; clear n0_ n1_ n2_ n3_; clear hb hbox hg; obtain ⟨hcz11_0, hcz11_1, hcz11_2, hcz11_3, hcz11_4, hfz11_0, hfz11_1, hfz11_2, hfz11_3, hfz11_4⟩ := cz5_ (w := w10) BK188.out) | ((with_reducible refine gate_store (t := 74) (p := 7) rfl ?_); refine store_event (t := 74) (p := 7) (v := ?vo_w12) (w1 := (((((w10.setCell ⟨gb188, 0, none⟩ (.int .u64 ((rd_T74 l0 x15_1).f0))).setCell ⟨gb188, 1, none⟩ (.int .u64 ((rd_T74 l0 x15_1).f1))).setCell ⟨gb188, 2, none⟩ (.int .u64 ((rd_T74 l0 x15_1).f2))).setCell ⟨gb188, 3, none⟩ (.int .u64 ((rd_T74 l0 x15_1).f3))).setCell ⟨gb188, 4, none⟩ (.int .i64 ((rd_T74 l0 x15_1).f4)))) ?hg ?ho ?hn ?hr ?_; (case ho => rfl); (case hg => rfl); (case hn => rfl); (case hr => first | (go_simp; done) | (go_simp; rfl)); intro w12 hw; have n0_ : Aside0 (w12.heap[gb188]? = some (.cells #[.int .u64 ((rd_T74 l0 x15_1).f0), .int .u64 ((rd_T74 l0 x15_1).f1), .int .u64 ((rd_T74 l0 x15_1).f2), .int .u64 ((rd_T74 l0 x15_1).f3), .int .i64 ((rd_T74 l0 x15_1).f4)] 74 (0, 0))) := ⟨(by rw [hw]; exact (by (with_reducible repeat (first | refine blk_drewN ?_ _ | refine blk_drew ?_ | refine blk_alloc ?_ _)); refine blk_put (cs := #[.int .u64 ((rd_T74 l0 x15_1).f0), .int .u64 ((rd_T74 l0 x15_1).f1), .int .u64 ((rd_T74 l0 x15_1).f2), .int .u64 ((rd_T74 l0 x15_1).f3), .int .i64 0]) ?_ 4 _ rfl; refine blk_put (cs := #[.int .u64 ((rd_T74 l0 x15_1).f0), .int .u64 ((rd_T74 l0 x15_1).f1), .int .u64 ((rd_T74 l0 x15_1).f2), .int .u64 0, .int .i64 0]) ?_ 3 _ rfl; refine blk_put (cs := #[.int .u64 ((rd_T74 l0 x15_1).f0), .int .u64 ((rd_T74 l0 x15_1).f1), .int .u64 0, .int .u64 0, .int .i64 0]) ?_ 2 _ rfl; refine blk_put (cs := #[.int .u64 ((rd_T74 l0 x15_1).f0), .int .u64 0, .int .u64 0, .int .u64 0, .int .i64 0]) ?_ 1 _ rfl; refine blk_put (cs := #[.int .u64 0, .int .u64 0, .int .u64 0, .int .u64 0, .int .i64 0]) ?_ 0 _ rfl; (with_reducible repeat (first | refine blk_drewN ?_ _ | refine blk_drew ?_ | refine blk_alloc ?_ _)); exact BK188.out))⟩; have n1_ : Aside0 (Below w.heap.size w w12) := ⟨(by rw [hw]; exact (belN HB))⟩; clear hw; clear BK188; clear HB; have BK188 := n0_; have HB := n1_; clear n0_ n1_))
              (try simp only [Act.put, List.setIfInBounds_toArray, List.set_cons_zero, List.set_cons_succ])
              go_cut [27] (fun v27 wc => ∃ (kq : Nat) (x27_8 : Bool), v27 = .bool x27_8 ∧ Aside0 (payment_Held.j1 kq a1 x4_1 l0 (l0.length : Int) x15_1 x27_8 ((rd_T74 l0 x15_1).f0) ((rd_T74 l0 x15_1).f1) ((rd_T74 l0 x15_1).f2) ((rd_T74 l0 x15_1).f3) ((rd_T74 l0 x15_1).f4) = some (r1, r2)) ∧ Aside0 (kq ≤ k1) ∧ Aside0 (wc.heap[gb188]? = some (.cells #[.int .u64 ((rd_T74 l0 x15_1).f0), .int .u64 ((rd_T74 l0 x15_1).f1), .int .u64 ((rd_T74 l0 x15_1).f2), .int .u64 ((rd_T74 l0 x15_1).f3), .int .i64 ((rd_T74 l0 x15_1).f4)] 74 (0, 0))) ∧ Aside0 (Below w.heap.size w wc))
              case first =>
                have H := HC9.out
                clear HC9
                by_cases c13 : ((rd_T74 l0 x15_1).f4) = 1
                · rw [if_pos c13] at H
                  have c13b0 : (((rd_T74 l0 x15_1).f4) == 1) = true := beq_iff_eq.mpr c13
                  have c13b1 : (((rd_T74 l0 x15_1).f4) != 1) = false := bne_eq_false_iff_eq.mpr c13
                  clear c13
                  (first | rw [c13b0] | (simp only [i64_w, i32_w]; rw [c13b0]) | skip)
                  have H' := Aside0.mk H
                  clear H
                  obtain ⟨hcz14_0, hcz14_1, hcz14_2, hcz14_3, hcz14_4, hfz14_0, hfz14_1, hfz14_2, hfz14_3, hfz14_4⟩ := cz5_ (w := w12) BK188.out
                  go_wp2
                  go_meet
                  case rel => exact ⟨_, ((((rd_T74 l0 x15_1).f2) != a1)), (by first | rfl | (simp; done) | (simp [*]; done)), H', ⟨by have := HK1.out; first | omega | exact Nat.le_refl _⟩, ⟨by (with_reducible repeat (first | refine blk_drewN ?_ _ | refine blk_drew ?_ | refine blk_alloc ?_ _)); exact BK188.out⟩, ⟨by repeat (first | (with_reducible first | exact HB.out | apply below_alloc | apply pw_below_drewN | apply below_drew1 | refine below_set ?_ GE188.out) | exact HB.out)⟩⟩
                · rw [if_neg c13] at H
                  have c13b0 : (((rd_T74 l0 x15_1).f4) == 1) = false := beq_eq_false_iff_ne.mpr c13
                  have c13b1 : (((rd_T74 l0 x15_1).f4) != 1) = true := bne_iff_ne.mpr c13
                  (first | rw [c13b0] | (simp only [i64_w, i32_w]; rw [c13b0]) | skip)
                  have H' := Aside0.mk H
                  clear H
                  obtain ⟨hcz15_0, hcz15_1, hcz15_2, hcz15_3, hcz15_4, hfz15_0, hfz15_1, hfz15_2, hfz15_3, hfz15_4⟩ := cz5_ (w := w12) BK188.out
                  go_wp2
                  go_meet
                  case rel => exact ⟨_, (true), (by first | rfl | (simp; done) | (simp [*]; done)), H', ⟨by have := HK1.out; first | omega | exact Nat.le_refl _⟩, ⟨by (with_reducible repeat (first | refine blk_drewN ?_ _ | refine blk_drew ?_ | refine blk_alloc ?_ _)); exact BK188.out⟩, ⟨by repeat (first | (with_reducible first | exact HB.out | apply below_alloc | apply pw_below_drewN | apply below_drew1 | refine below_set ?_ GE188.out) | exact HB.out)⟩⟩
              case rest =>
                clear HC9
                try clear c1
                try clear p1
                try clear q1
                try clear hx1
                try clear p2
                try clear c4
                try clear c4b0
                try clear c4b1
                try clear c6
                try clear c6b0
                try clear c7
                try clear c7b0
                try clear c8
                try clear c8b0
                try clear c13
                try clear c13b0
                try clear c13b1
                try clear hcz11_0
                try clear hcz11_1
                try clear hcz11_2
                try clear hcz11_3
                try clear hcz11_4
                try clear hcz14_0
                try clear hcz14_1
                try clear hcz14_2
                try clear hcz14_3
                try clear hcz14_4
                try clear hcz15_0
                try clear hcz15_1
                try clear hcz15_2
                try clear hcz15_3
                try clear hcz15_4
                try clear hfz11_0
                try clear hfz11_1
                try clear hfz11_2
                try clear hfz11_3
                try clear hfz11_4
                try clear hfz14_0
                try clear hfz14_1
                try clear hfz14_2
                try clear hfz14_3
                try clear hfz14_4
                try clear hfz15_0
                try clear hfz15_1
                try clear hfz15_2
                try clear hfz15_3
                try clear hfz15_4
                try clear hx187_0
                try clear hx187_1
                try clear hx187_2
                try clear hx187_3
                try clear hx187_4
                try clear p187
                try clear p2
                try clear q187
                obtain ⟨kq, x27_8, rfl, HA, HJ8, BK188, HB⟩ := hcut
                cases kq with
                | zero => exact absurd HA.out (by simp [payment_Held.j1])
                | succ kj8 =>
                  have H := HA.out
                  clear HA
                  simp only [payment_Held.j1] at H
                  by_cases c16 : x27_8 = true
                  · subst c16
                    have H1 : (payment_Held.l0 kj8 a1 x4_1 l0 (l0.length : Int) (wrap64 (x15_1 + 1))) = some (r1, r2) := by rw [if_pos rfl] at H; exact H
                    clear H
                    have H := H1
                    clear H1
                    have H' := Aside0.mk H
                    clear H
                    go_wp2
                    go_roundg kj8
                    case measure => have := HK1.out; have := HJ8.out; omega
                    case rel => exact ⟨(x4_1), (wrap64 (x15_1 + 1)), (by first | rfl | (simp; done) | (simp [*]; done)), (by first | rfl | (simp; done) | (simp [*]; done)), H', ⟨by have := HK1.out; have := HJ8.out; omega⟩, ⟨by repeat (first | (with_reducible first | exact HB.out | apply below_alloc | apply pw_below_drewN | apply below_drew1 | refine below_set ?_ GE188.out) | exact HB.out)⟩⟩
                  · replace c16 := Bool.eq_false_iff.mpr c16
                    subst c16
                    have H1 : ((money_Add.f kj8 (([x4_1, ((rd_T74 l0 x15_1).f3)] : List Int))).bind fun bt192 => (if bt192.2 = 0 then (payment_Held.l0 kj8 a1 bt192.1 l0 (l0.length : Int) (wrap64 (x15_1 + 1))) else (some (0, 1)))) = some (r1, r2) := by rw [if_neg (show ¬ (false = true) by decide)] at H; exact H
                    clear H
                    have H := H1
                    clear H1
                    obtain ⟨y189, hy189⟩ : ∃ y_ : List Int, y_ = (([x4_1, ((rd_T74 l0 x15_1).f3)] : List Int)) := ⟨_, rfl⟩
                    replace H : ((money_Add.f kj8 y189).bind fun bt192 => (if bt192.2 = 0 then (payment_Held.l0 kj8 a1 bt192.1 l0 (l0.length : Int) (wrap64 (x15_1 + 1))) else (some (0, 1)))) = some (r1, r2) := by first | (rw [hy189]; with_reducible exact H) | (have H2_ := (Option.bind_some _ _).symm.trans H; rw [hy189]; with_reducible exact H2_) | (have H2_ := (Option.bind_some _ _).symm.trans H; with_reducible exact H2_) | with_reducible exact H | (rw [hy189]; exact H) | exact H
                    have Ny189 := Aside0.mk hy189
                    clear hy189
                    replace H := Option.bind_eq_some_iff.mp H
                    obtain ⟨⟨t192, t193⟩, A170, H⟩ := H
                    replace H : (if t193 = 0 then (payment_Held.l0 kj8 a1 t192 l0 (l0.length : Int) (wrap64 (x15_1 + 1))) else (some (0, 1))) = some (r1, r2) := H
                    have A17 := Aside0.mk A170
                    clear A170
                    by_cases c18 : t193 = 0
                    · rw [if_pos c18] at H
                      have c18b0 : (t193 == 0) = true := beq_iff_eq.mpr c18
                      have c18b1 : (t193 != 0) = false := bne_eq_false_iff_eq.mpr c18
                      clear c18
                      have H' := Aside0.mk H
                      clear H
                      obtain ⟨hcz19_0, hcz19_1, hcz19_2, hcz19_3, hcz19_4, hfz19_0, hfz19_1, hfz19_2, hfz19_3, hfz19_4⟩ := cz5_ (w := wc) BK188.out
                      go_wp2_with (first | ((with_reducible refine gate_dst (N := 32) rfl ?_); refine Kd.R_lit (Kd.int .u64) _ 22 ?hg (N := 32) ?hd (xs := ([x4_1, ((rd_T74 l0 x15_1).f3)] : List Int)) (inner := [.int .u64 x4_1, .int .u64 ((rd_T74 l0 x15_1).f3)]) (ok := fun _ => True) (okp := fun _ => True) ?hr ?hp (fun _ hk => hk) trivial (Below.refl _ _) (Nat.le_refl _) (by simp) ?_; (case hd => rfl); (case hg => rfl); (case hr => first | (go_simp; done) | (go_simp; rfl)); (case hp => exact (Reps.one (show Kd.M (Kd.int .u64) _ _ _ x4_1 [.int .u64 x4_1] from rfl) (Reps.one (show Kd.M (Kd.int .u64) _ _ _ ((rd_T74 l0 x15_1).f3) [.int .u64 ((rd_T74 l0 x15_1).f3)] from rfl) (Reps.none _ _)))); intro v190 w20 ho21 hb hg_ hnew_; clear hg_ hnew_; (first | rw [← Ny189.out] at ho21 | (simp only [Int.reduceToNat] at ho21; rw [← Ny189.out] at ho21)); have n0_ := Aside0.mk (Kd.R_lower ho21 (below_size (belN HB))); have n1_ := Aside0.mk (blk_below (g := gb188) (blkN BK188) hb); have n2_ := Aside0.mk (below_step (belN HB) hb); clear BK188; clear HB; have HO191 := n0_; have BK188 := n1_; have HB := n2_; clear n0_ n1_ n2_; clear hb ho21; obtain ⟨Ao22, co22, eo22⟩ := Kd.R_slice HO191.out; subst eo22) | ((with_reducible refine gate_callee (f := 124) rfl ?_); refine goesL_ (some 33) rfl rfl Try.func124 (by kernel_rfl) rfl #[.slice Ao22 y189.length co22] rfl (by (try simp only [List.map_toArray, List.map_cons, List.map_nil]); first | done | rfl | (simp only [List.length_drop, List.length_take]; rfl)) ?_; (with_reducible refine (money_Add.calls kj8 _ _ y189 t192 t193 _ ?side1 ?side2 A17.out).mono ?_); (case side1 => exact Kd.CN (Kd.R_reads' HO191.out).2.2); (case side2 => exact (Kd.R_reads' HO191.out).2.1); rintro e w23 ⟨rfl, hb⟩; refine ⟨_, rfl, ?_⟩; have n0_ := Aside0.mk (Kd.R_below (Kd.RN HO191) hb); have n1_ := Aside0.mk (blk_below (g := gb188) (blkN BK188) hb); have n2_ := Aside0.mk (below_step (belN HB) hb); clear HO191; clear BK188; clear HB; have HO191 := n0_; have BK188 := n1_; have HB := n2_; clear n0_ n1_ n2_; (try clear hb); (try clear hb2); (try clear hk); (try clear hi)))
                      go_roundg kj8
                      case measure => have := HK1.out; have := HJ8.out; omega
                      case rel => exact ⟨(t192), (wrap64 (x15_1 + 1)), (by first | rfl | (simp; done) | (simp [*]; done)), (by first | rfl | (simp; done) | (simp [*]; done)), H', ⟨by have := HK1.out; have := HJ8.out; omega⟩, ⟨by repeat (first | (with_reducible first | exact HB.out | apply below_alloc | apply pw_below_drewN | apply below_drew1 | refine below_set ?_ GE188.out) | exact HB.out)⟩⟩
                    · rw [if_neg c18] at H
                      have c18b0 : (t193 == 0) = false := beq_eq_false_iff_ne.mpr c18
                      have c18b1 : (t193 != 0) = true := bne_iff_ne.mpr c18
                      simp only [Option.some.injEq, Prod.mk.injEq] at H
                      obtain ⟨rfl, rfl⟩ := H
                      obtain ⟨hcz24_0, hcz24_1, hcz24_2, hcz24_3, hcz24_4, hfz24_0, hfz24_1, hfz24_2, hfz24_3, hfz24_4⟩ := cz5_ (w := wc) BK188.out
                      go_wp2_with (first | ((with_reducible refine gate_dst (N := 32) rfl ?_); refine Kd.R_lit (Kd.int .u64) _ 22 ?hg (N := 32) ?hd (xs := ([x4_1, ((rd_T74 l0 x15_1).f3)] : List Int)) (inner := [.int .u64 x4_1, .int .u64 ((rd_T74 l0 x15_1).f3)]) (ok := fun _ => True) (okp := fun _ => True) ?hr ?hp (fun _ hk => hk) trivial (Below.refl _ _) (Nat.le_refl _) (by simp) ?_; (case hd => rfl); (case hg => rfl); (case hr => first | (go_simp; done) | (go_simp; rfl)); (case hp => exact (Reps.one (show Kd.M (Kd.int .u64) _ _ _ x4_1 [.int .u64 x4_1] from rfl) (Reps.one (show Kd.M (Kd.int .u64) _ _ _ ((rd_T74 l0 x15_1).f3) [.int .u64 ((rd_T74 l0 x15_1).f3)] from rfl) (Reps.none _ _)))); intro v190 w25 ho26 hb hg_ hnew_; clear hg_ hnew_; (first | rw [← Ny189.out] at ho26 | (simp only [Int.reduceToNat] at ho26; rw [← Ny189.out] at ho26)); have n0_ := Aside0.mk (Kd.R_lower ho26 (below_size (belN HB))); have n1_ := Aside0.mk (blk_below (g := gb188) (blkN BK188) hb); have n2_ := Aside0.mk (below_step (belN HB) hb); clear BK188; clear HB; have HO191 := n0_; have BK188 := n1_; have HB := n2_; clear n0_ n1_ n2_; clear hb ho26; obtain ⟨Ao27, co27, eo27⟩ := Kd.R_slice HO191.out; subst eo27) | ((with_reducible refine gate_callee (f := 124) rfl ?_); refine goesL_ (some 33) rfl rfl Try.func124 (by kernel_rfl) rfl #[.slice Ao27 y189.length co27] rfl (by (try simp only [List.map_toArray, List.map_cons, List.map_nil]); first | done | rfl | (simp only [List.length_drop, List.length_take]; rfl)) ?_; (with_reducible refine (money_Add.calls kj8 _ _ y189 t192 t193 _ ?side1 ?side2 A17.out).mono ?_); (case side1 => exact Kd.CN (Kd.R_reads' HO191.out).2.2); (case side2 => exact (Kd.R_reads' HO191.out).2.1); rintro e w28 ⟨rfl, hb⟩; refine ⟨_, rfl, ?_⟩; have n0_ := Aside0.mk (Kd.R_below (Kd.RN HO191) hb); have n1_ := Aside0.mk (blk_below (g := gb188) (blkN BK188) hb); have n2_ := Aside0.mk (below_step (belN HB) hb); clear HO191; clear BK188; clear HB; have HO191 := n0_; have BK188 := n1_; have HB := n2_; clear n0_ n1_ n2_; (try clear hb); (try clear hb2); (try clear hk); (try clear hi)))
                      go_ret2
                      exact ⟨by first | rfl | (simp [errW_none, errW_some] <;> rfl) | (simp [*, errW_none, errW_some] <;> rfl), by repeat (first | (with_reducible first | exact HB.out | apply below_alloc | apply pw_below_drewN | apply below_drew1 | refine below_set ?_ GE188.out) | exact HB.out)⟩
            · rw [if_neg c8] at H
              exact absurd H (by simp)
          · rw [if_neg c7] at H
            exact absurd H (by simp)
        · rw [if_neg c6] at H
          have c6b0 : decide (x15_1 < (l0.length : Int)) = false := decide_eq_false c6
          clear c6
          simp only [Option.some.injEq, Prod.mk.injEq] at H
          obtain ⟨rfl, rfl⟩ := H
          go_wp2
          go_ret2
          exact ⟨by first | rfl | (simp [errW_none, errW_some] <;> rfl) | (simp [*, errW_none, errW_some] <;> rfl), by repeat (first | (with_reducible first | exact HB.out | apply below_alloc | apply pw_below_drewN | apply below_drew1) | exact HB.out)⟩
  · rw [if_neg c4] at H
    have c4b0 : (t186 == 0) = false := beq_eq_false_iff_ne.mpr c4
    have c4b1 : (t186 != 0) = true := bne_iff_ne.mpr c4
    simp only [Option.some.injEq, Prod.mk.injEq] at H
    obtain ⟨rfl, rfl⟩ := H
    go_enter Try.func75, Try.ntmps75
    go_wp2_with (first | ((with_reducible refine gate_callee (f := 73) rfl ?_); refine goesL_ (some 9) rfl rfl Try.func73 (by kernel_rfl) rfl #[.slice A0 l0.length c0] rfl (by (try simp only [List.map_toArray, List.map_cons, List.map_nil]); first | done | rfl | (simp only [List.length_drop, List.length_take]; rfl)) ?_; (with_reducible refine (payment_Check.calls k _ _ l0 t186 _ ?side1 ?side2 A3.out).mono ?_); (case side1 => repeat (first | exact HR0.out | (with_reducible refine Kd.C_alloc ?_ _) | (with_reducible refine Kd.C_drewN ?_ _) | (with_reducible refine Kd.C_drew ?_))); (case side2 => exact HC0.out); rintro e w29 ⟨rfl, hb⟩; refine ⟨_, rfl, ?_⟩; have n0_ := Aside0.mk (below_step (belN HB) hb); clear HB; have HB := n0_; clear n0_; (try clear hb); (try clear hb2); (try clear hk); (try clear hi)))
    go_ret2
    exact ⟨by first | rfl | (simp [errW_none, errW_some] <;> rfl) | (simp [*, errW_none, errW_some] <;> rfl), by repeat (first | (with_reducible first | exact HB.out | apply below_alloc | apply pw_below_drewN | apply below_drew1) | exact HB.out)⟩

/-! ### damsonref04_Check: function 96 -/
def damsonref04_Check.l0 : Nat → List Int → Int → Int → Option (Int)
  | 0, _, _, _ => none
  | k + 1, x5, x6, x7 => if x7 < x6 then (if 0 ≤ x7 then (if x7 < (x5.length : Int) then (if (rd x5 x7) > 4611686018427387904 then (some 1) else (damsonref04_Check.l0 k x5 x6 (wrap64 (x7 + 1)))) else (none)) else (none)) else (some 0)
def damsonref04_Check.f (k : Nat) (l0 : List Int) : Option (Int) := damsonref04_Check.l0 k l0 (l0.length : Int) 0
theorem damsonref04_Check.mono_l : ∀ k, (∀ y0 y1 y2, LeO (damsonref04_Check.l0 k y0 y1 y2) (damsonref04_Check.l0 (k + 1) y0 y1 y2))
  | 0 => fun _ _ _ r h => by simp [damsonref04_Check.l0] at h
  | k + 1 => by
    have ih0 := damsonref04_Check.mono_l k
    · intro y0 y1 y2
      unfold damsonref04_Check.l0
      repeat' first
      | (with_reducible exact ih0 _ _ _)
      | (with_reducible exact LeO.refl _)
      | (with_reducible exact LeO.none _)
      | (with_reducible refine LeO.ite ?_ ?_)
      | (with_reducible refine LeO.bind ?_ (fun _ => ?_))
      | exact ih0 _ _ _
      | exact LeO.none _
      | refine LeO.ite ?_ ?_
      | refine LeO.bind ?_ (fun _ => ?_)
theorem damsonref04_Check.mono : ∀ a0 k, LeO (damsonref04_Check.f k a0) (damsonref04_Check.f (k + 1) a0) := by
  intro a0 k
  have ih0 := damsonref04_Check.mono_l k
  unfold damsonref04_Check.f
  repeat' first
      | (with_reducible exact ih0 _ _ _)
      | (with_reducible exact LeO.refl _)
      | (with_reducible exact LeO.none _)
      | (with_reducible refine LeO.ite ?_ ?_)
      | (with_reducible refine LeO.bind ?_ (fun _ => ?_))
      | exact ih0 _ _ _
      | exact LeO.none _
      | refine LeO.ite ?_ ?_
      | refine LeO.bind ?_ (fun _ => ?_)
set_option maxHeartbeats 8000000 in
set_option maxRecDepth 100000 in
theorem damsonref04_Check.calls (k : Nat) (A0 : Option Addr) (c0 : Nat) (l0 : List Int) (r : Int) (w : World) (hr0 : Kd.C (Kd.int .u64) w A0 l0.length l0) (hc0 : l0.length ≤ c0) (h : damsonref04_Check.f k l0 = some r) :
    Calls Try.prog 96 #[.slice A0 l0.length c0] w fun e w' => e = .returned (.int .i64 r) ∧ Drawn0 w w' := by
  have HR0 := Aside0.mk hr0
  have HC0 := Aside0.mk hc0
  clear hr0 hc0
  have H : (damsonref04_Check.l0 k l0 (l0.length : Int) 0) = some r := h
  clear h
  have H' := Aside0.mk H
  clear H
  go_enter Try.func96, Try.ntmps96
  go_wp2
  go_loopg [7] k (fun kq v7 w' => ∃ (x7_1 : Int), v7 = .int .i64 x7_1 ∧ Aside0 (damsonref04_Check.l0 kq l0 (l0.length : Int) x7_1 = some r) ∧ Aside0 (kq ≤ k) ∧ Drawn0 w w')
  case atStart => exact ⟨(0), (by first | rfl | (simp; done) | (simp [*]; done)), H', ⟨Nat.le_refl _⟩, by repeat (first | exact Drawn0.refl _ | apply Drawn0.step)⟩
  case round =>
    clear H'
    obtain ⟨x7_1, rfl, HA, HK1, ⟨m1, rfl⟩⟩ := hrel
    cases gk with
    | zero => exact absurd HA.out (by simp [damsonref04_Check.l0])
    | succ k1 =>
      have H := HA.out
      clear HA
      simp only [damsonref04_Check.l0] at H
      by_cases c2 : x7_1 < (l0.length : Int)
      · rw [if_pos c2] at H
        have c2b0 : decide (x7_1 < (l0.length : Int)) = true := decide_eq_true c2
        clear c2
        by_cases c3 : 0 ≤ x7_1
        · rw [if_pos c3] at H
          have c3b0 : decide (0 ≤ x7_1) = true := decide_eq_true c3
          clear c3
          by_cases c4 : x7_1 < (l0.length : Int)
          · rw [if_pos c4] at H
            have c4b0 : decide (x7_1 < (l0.length : Int)) = true := decide_eq_true c4
            clear c4
            by_cases c5 : (rd l0 x7_1) > 4611686018427387904
            · rw [if_pos c5] at H
              have c5b0 : decide (4611686018427387904 < (rd l0 x7_1)) = true := decide_eq_true c5
              clear c5
              obtain rfl := Option.some.inj H
              have p194 : 0 ≤ (x7_1 : Int) := of_decide_eq_true (by first | (with_reducible assumption) | assumption)
              have q194 : x7_1 < (l0.length : Int) := of_decide_eq_true (by first | (with_reducible assumption) | assumption)
              obtain ⟨ad194, e194, hx194_0⟩ := Kd.at_int HR0.out x7_1 p194 q194
              cases e194
              replace p194 := eq_true p194
              replace q194 := eq_true q194
              go_wp2
              go_ret
              exact ⟨by first | rfl | (simp; done) | (simp [*]; done), by repeat (first | exact Drawn0.refl _ | apply Drawn0.step)⟩
            · rw [if_neg c5] at H
              have c5b0 : decide (4611686018427387904 < (rd l0 x7_1)) = false := decide_eq_false c5
              clear c5
              have H' := Aside0.mk H
              clear H
              have p194 : 0 ≤ (x7_1 : Int) := of_decide_eq_true (by first | (with_reducible assumption) | assumption)
              have q194 : x7_1 < (l0.length : Int) := of_decide_eq_true (by first | (with_reducible assumption) | assumption)
              obtain ⟨ad194, e194, hx194_0⟩ := Kd.at_int HR0.out x7_1 p194 q194
              cases e194
              replace p194 := eq_true p194
              replace q194 := eq_true q194
              go_wp2
              go_roundg k1
              case measure => have := HK1.out; omega
              case rel => exact ⟨(wrap64 (x7_1 + 1)), (by first | rfl | (simp; done) | (simp [*]; done)), H', ⟨by have := HK1.out; omega⟩, by repeat (first | exact Drawn0.refl _ | apply Drawn0.step)⟩
          · rw [if_neg c4] at H
            exact absurd H (by simp)
        · rw [if_neg c3] at H
          exact absurd H (by simp)
      · rw [if_neg c2] at H
        have c2b0 : decide (x7_1 < (l0.length : Int)) = false := decide_eq_false c2
        clear c2
        obtain rfl := Option.some.inj H
        go_wp2
        go_ret
        exact ⟨by first | rfl | (simp; done) | (simp [*]; done), by repeat (first | exact Drawn0.refl _ | apply Drawn0.step)⟩

/-! ### damsonref13_may: function 125 -/
def damsonref13_may.f (k : Nat) (a0_0 : Int) (a0_1 : Int) (a0_2 : Int) (a0_3 : Int) (a0_4 : Int) : Option (Bool) := if a0_3 > 0 then ((damsonref04_Check.f k (([a0_3] : List Int))).bind fun t199 => (if t199 = 0 then (if a0_4 ≥ 1 then (some (decide (a0_4 ≤ 3))) else (some false)) else (some false))) else (some false)
theorem damsonref13_may.mono : ∀ a0 a1 a2 a3 a4 k, LeO (damsonref13_may.f k a0 a1 a2 a3 a4) (damsonref13_may.f (k + 1) a0 a1 a2 a3 a4) := by
  intro a0 a1 a2 a3 a4 k
  unfold damsonref13_may.f
  repeat' first
      | (with_reducible exact damsonref04_Check.mono _ _)
      | (with_reducible exact LeO.refl _)
      | (with_reducible exact LeO.none _)
      | (with_reducible refine LeO.ite ?_ ?_)
      | (with_reducible refine LeO.bind ?_ (fun _ => ?_))
      | exact damsonref04_Check.mono _ _
      | exact LeO.none _
      | refine LeO.ite ?_ ?_
      | refine LeO.bind ?_ (fun _ => ?_)
set_option maxHeartbeats 8000000 in
set_option maxRecDepth 100000 in
theorem damsonref13_may.calls (k : Nat) (a0_0 : Int) (a0_1 : Int) (a0_2 : Int) (a0_3 : Int) (a0_4 : Int) (r : Bool) (w : World) (h : damsonref13_may.f k a0_0 a0_1 a0_2 a0_3 a0_4 = some r) :
    Calls Try.prog 125 #[.agg #[.int .u64 a0_0, .int .u64 a0_1, .int .u64 a0_2, .int .u64 a0_3, .int .i64 a0_4]] w fun e w' => e = .returned (.bool r) ∧ Below w.heap.size w w' := by
  have hu74 := Try.underlying74
  have HB := Aside0.mk (Below.refl w.heap.size w)
  have H : (if a0_3 > 0 then ((damsonref04_Check.f k (([a0_3] : List Int))).bind fun t199 => (if t199 = 0 then (if a0_4 ≥ 1 then (some (decide (a0_4 ≤ 3))) else (some false)) else (some false))) else (some false)) = some r := h
  clear h
  by_cases c2 : a0_3 > 0
  · rw [if_pos c2] at H
    have c2b0 : decide (0 < a0_3) = true := decide_eq_true c2
    clear c2
    obtain ⟨y196, hy196⟩ : ∃ y_ : List Int, y_ = (([a0_3] : List Int)) := ⟨_, rfl⟩
    replace H : ((damsonref04_Check.f k y196).bind fun t199 => (if t199 = 0 then (if a0_4 ≥ 1 then (some (decide (a0_4 ≤ 3))) else (some false)) else (some false))) = some r := by first | (rw [hy196]; with_reducible exact H) | (have H2_ := (Option.bind_some _ _).symm.trans H; rw [hy196]; with_reducible exact H2_) | (have H2_ := (Option.bind_some _ _).symm.trans H; with_reducible exact H2_) | with_reducible exact H | (rw [hy196]; exact H) | exact H
    have Ny196 := Aside0.mk hy196
    clear hy196
    replace H := Option.bind_eq_some_iff.mp H
    obtain ⟨t199, A30, H⟩ := H
    replace H : (if t199 = 0 then (if a0_4 ≥ 1 then (some (decide (a0_4 ≤ 3))) else (some false)) else (some false)) = some r := H
    have A3 := Aside0.mk A30
    clear A30
    by_cases c4 : t199 = 0
    · rw [if_pos c4] at H
      have c4b0 : (t199 == 0) = true := beq_iff_eq.mpr c4
      have c4b1 : (t199 != 0) = false := bne_eq_false_iff_eq.mpr c4
      clear c4
      by_cases c5 : a0_4 ≥ 1
      · rw [if_pos c5] at H
        have c5b0 : decide (1 ≤ a0_4) = true := decide_eq_true c5
        clear c5
        obtain rfl := Option.some.inj H
        go_enter Try.func125, Try.ntmps125
        go_wp2_with (first | ((with_reducible refine gate_dst (N := 1) rfl ?_); (try (refine gate_guard (by rfl) ?_; dsimp only)); refine box_event ?hg (N := 1) ?hd (cs := #[.int .u64 a0_0, .int .u64 a0_1, .int .u64 a0_2, .int .u64 a0_3, .int .i64 a0_4]) (t := 74) ?hr ?_; (case hd => rfl); (case hg => rfl); (case hr => first | (go_simp; done) | (go_simp; rfl)); intro gb195 hg w6 hbox hb; have n0_ := Aside0.mk (below_step (belN HB) hb); have n1_ := Aside0.mk (hbox); have n2_ := Aside0.mk ((by rw [hg]; exact (below_size (belN HB)) : w.heap.size ≤ gb195)); have n3_ := Aside0.mk ((by rw [hg]; exact (below_size (belN HB)) : w.heap.size ≤ gb195)); clear HB; have HB := n0_; have BK195 := n1_; have GW195 := n2_; have GE195 := n3_; clear n0_ n1_ n2_ n3_; clear hb hbox hg; obtain ⟨hcz7_0, hcz7_1, hcz7_2, hcz7_3, hcz7_4, hfz7_0, hfz7_1, hfz7_2, hfz7_3, hfz7_4⟩ := cz5_ (w := w6) BK195.out) | ((with_reducible refine gate_dst (N := 9) rfl ?_); (try (refine gate_guard (by rfl) ?_; dsimp only)); refine Kd.R_lit (Kd.int .u64) _ 22 ?hg (N := 9) ?hd (xs := ([a0_3] : List Int)) (inner := [.int .u64 a0_3]) (ok := fun _ => True) (okp := fun _ => True) ?hr ?hp (fun _ hk => hk) trivial (Below.refl _ _) (Nat.le_refl _) (by simp) ?_; (case hd => rfl); (case hg => rfl); (case hr => first | (go_simp; done) | (go_simp; rfl)); (case hp => exact (Reps.one (show Kd.M (Kd.int .u64) _ _ _ a0_3 [.int .u64 a0_3] from rfl) (Reps.none _ _))); intro v197 w8 ho9 hb hg_ hnew_; clear hg_ hnew_; (first | rw [← Ny196.out] at ho9 | (simp only [Int.reduceToNat] at ho9; rw [← Ny196.out] at ho9)); have n0_ := Aside0.mk (Kd.R_lower ho9 (below_size (belN HB))); have n1_ := Aside0.mk (blk_below (g := gb195) (blkN BK195) hb); have n2_ := Aside0.mk (below_step (belN HB) hb); clear BK195; clear HB; have HO198 := n0_; have BK195 := n1_; have HB := n2_; clear n0_ n1_ n2_; clear hb ho9; obtain ⟨Ao10, co10, eo10⟩ := Kd.R_slice HO198.out; subst eo10) | (go_at_call 96; (with_reducible refine (damsonref04_Check.calls k _ _ y196 t199 _ ?side1 ?side2 A3.out).mono ?_); (case side1 => exact Kd.CN (Kd.R_reads' HO198.out).2.2); (case side2 => exact (Kd.R_reads' HO198.out).2.1); rintro e w' ⟨rfl, ⟨nd, rfl⟩⟩; obtain ⟨hcz11_0, hcz11_1, hcz11_2, hcz11_3, hcz11_4, hfz11_0, hfz11_1, hfz11_2, hfz11_3, hfz11_4⟩ := cz5_ (w := w8) BK195.out))
        go_ret
        exact ⟨by first | rfl | (simp [errW_none, errW_some] <;> rfl) | (simp [*, errW_none, errW_some] <;> rfl), by repeat (first | (with_reducible first | exact HB.out | apply below_alloc | apply pw_below_drewN | apply below_drew1 | refine below_set ?_ GE195.out) | exact HB.out)⟩
      · rw [if_neg c5] at H
        have c5b0 : decide (1 ≤ a0_4) = false := decide_eq_false c5
        clear c5
        obtain rfl := Option.some.inj H
        go_enter Try.func125, Try.ntmps125
        go_wp2_with (first | ((with_reducible refine gate_dst (N := 1) rfl ?_); (try (refine gate_guard (by rfl) ?_; dsimp only)); refine box_event ?hg (N := 1) ?hd (cs := #[.int .u64 a0_0, .int .u64 a0_1, .int .u64 a0_2, .int .u64 a0_3, .int .i64 a0_4]) (t := 74) ?hr ?_; (case hd => rfl); (case hg => rfl); (case hr => first | (go_simp; done) | (go_simp; rfl)); intro gb195 hg w12 hbox hb; have n0_ := Aside0.mk (below_step (belN HB) hb); have n1_ := Aside0.mk (hbox); have n2_ := Aside0.mk ((by rw [hg]; exact (below_size (belN HB)) : w.heap.size ≤ gb195)); have n3_ := Aside0.mk ((by rw [hg]; exact (below_size (belN HB)) : w.heap.size ≤ gb195)); clear HB; have HB := n0_; have BK195 := n1_; have GW195 := n2_; have GE195 := n3_; clear n0_ n1_ n2_ n3_; clear hb hbox hg; obtain ⟨hcz13_0, hcz13_1, hcz13_2, hcz13_3, hcz13_4, hfz13_0, hfz13_1, hfz13_2, hfz13_3, hfz13_4⟩ := cz5_ (w := w12) BK195.out) | ((with_reducible refine gate_dst (N := 9) rfl ?_); (try (refine gate_guard (by rfl) ?_; dsimp only)); refine Kd.R_lit (Kd.int .u64) _ 22 ?hg (N := 9) ?hd (xs := ([a0_3] : List Int)) (inner := [.int .u64 a0_3]) (ok := fun _ => True) (okp := fun _ => True) ?hr ?hp (fun _ hk => hk) trivial (Below.refl _ _) (Nat.le_refl _) (by simp) ?_; (case hd => rfl); (case hg => rfl); (case hr => first | (go_simp; done) | (go_simp; rfl)); (case hp => exact (Reps.one (show Kd.M (Kd.int .u64) _ _ _ a0_3 [.int .u64 a0_3] from rfl) (Reps.none _ _))); intro v197 w14 ho15 hb hg_ hnew_; clear hg_ hnew_; (first | rw [← Ny196.out] at ho15 | (simp only [Int.reduceToNat] at ho15; rw [← Ny196.out] at ho15)); have n0_ := Aside0.mk (Kd.R_lower ho15 (below_size (belN HB))); have n1_ := Aside0.mk (blk_below (g := gb195) (blkN BK195) hb); have n2_ := Aside0.mk (below_step (belN HB) hb); clear BK195; clear HB; have HO198 := n0_; have BK195 := n1_; have HB := n2_; clear n0_ n1_ n2_; clear hb ho15; obtain ⟨Ao16, co16, eo16⟩ := Kd.R_slice HO198.out; subst eo16) | (go_at_call 96; (with_reducible refine (damsonref04_Check.calls k _ _ y196 t199 _ ?side1 ?side2 A3.out).mono ?_); (case side1 => exact Kd.CN (Kd.R_reads' HO198.out).2.2); (case side2 => exact (Kd.R_reads' HO198.out).2.1); rintro e w' ⟨rfl, ⟨nd, rfl⟩⟩; obtain ⟨hcz17_0, hcz17_1, hcz17_2, hcz17_3, hcz17_4, hfz17_0, hfz17_1, hfz17_2, hfz17_3, hfz17_4⟩ := cz5_ (w := w14) BK195.out))
        go_ret
        exact ⟨by first | rfl | (simp [errW_none, errW_some] <;> rfl) | (simp [*, errW_none, errW_some] <;> rfl), by repeat (first | (with_reducible first | exact HB.out | apply below_alloc | apply pw_below_drewN | apply below_drew1 | refine below_set ?_ GE195.out) | exact HB.out)⟩
    · rw [if_neg c4] at H
      have c4b0 : (t199 == 0) = false := beq_eq_false_iff_ne.mpr c4
      have c4b1 : (t199 != 0) = true := bne_iff_ne.mpr c4
      obtain rfl := Option.some.inj H
      go_enter Try.func125, Try.ntmps125
      go_wp2_with (first | ((with_reducible refine gate_dst (N := 1) rfl ?_); (try (refine gate_guard (by rfl) ?_; dsimp only)); refine box_event ?hg (N := 1) ?hd (cs := #[.int .u64 a0_0, .int .u64 a0_1, .int .u64 a0_2, .int .u64 a0_3, .int .i64 a0_4]) (t := 74) ?hr ?_; (case hd => rfl); (case hg => rfl); (case hr => first | (go_simp; done) | (go_simp; rfl)); intro gb195 hg w18 hbox hb; have n0_ := Aside0.mk (below_step (belN HB) hb); have n1_ := Aside0.mk (hbox); have n2_ := Aside0.mk ((by rw [hg]; exact (below_size (belN HB)) : w.heap.size ≤ gb195)); have n3_ := Aside0.mk ((by rw [hg]; exact (below_size (belN HB)) : w.heap.size ≤ gb195)); clear HB; have HB := n0_; have BK195 := n1_; have GW195 := n2_; have GE195 := n3_; clear n0_ n1_ n2_ n3_; clear hb hbox hg; obtain ⟨hcz19_0, hcz19_1, hcz19_2, hcz19_3, hcz19_4, hfz19_0, hfz19_1, hfz19_2, hfz19_3, hfz19_4⟩ := cz5_ (w := w18) BK195.out) | ((with_reducible refine gate_dst (N := 9) rfl ?_); (try (refine gate_guard (by rfl) ?_; dsimp only)); refine Kd.R_lit (Kd.int .u64) _ 22 ?hg (N := 9) ?hd (xs := ([a0_3] : List Int)) (inner := [.int .u64 a0_3]) (ok := fun _ => True) (okp := fun _ => True) ?hr ?hp (fun _ hk => hk) trivial (Below.refl _ _) (Nat.le_refl _) (by simp) ?_; (case hd => rfl); (case hg => rfl); (case hr => first | (go_simp; done) | (go_simp; rfl)); (case hp => exact (Reps.one (show Kd.M (Kd.int .u64) _ _ _ a0_3 [.int .u64 a0_3] from rfl) (Reps.none _ _))); intro v197 w20 ho21 hb hg_ hnew_; clear hg_ hnew_; (first | rw [← Ny196.out] at ho21 | (simp only [Int.reduceToNat] at ho21; rw [← Ny196.out] at ho21)); have n0_ := Aside0.mk (Kd.R_lower ho21 (below_size (belN HB))); have n1_ := Aside0.mk (blk_below (g := gb195) (blkN BK195) hb); have n2_ := Aside0.mk (below_step (belN HB) hb); clear BK195; clear HB; have HO198 := n0_; have BK195 := n1_; have HB := n2_; clear n0_ n1_ n2_; clear hb ho21; obtain ⟨Ao22, co22, eo22⟩ := Kd.R_slice HO198.out; subst eo22) | (go_at_call 96; (with_reducible refine (damsonref04_Check.calls k _ _ y196 t199 _ ?side1 ?side2 A3.out).mono ?_); (case side1 => exact Kd.CN (Kd.R_reads' HO198.out).2.2); (case side2 => exact (Kd.R_reads' HO198.out).2.1); rintro e w' ⟨rfl, ⟨nd, rfl⟩⟩))
      go_ret
      exact ⟨by first | rfl | (simp [errW_none, errW_some] <;> rfl) | (simp [*, errW_none, errW_some] <;> rfl), by repeat (first | (with_reducible first | exact HB.out | apply below_alloc | apply pw_below_drewN | apply below_drew1 | refine below_set ?_ GE195.out) | exact HB.out)⟩
  · rw [if_neg c2] at H
    have c2b0 : decide (0 < a0_3) = false := decide_eq_false c2
    clear c2
    obtain rfl := Option.some.inj H
    go_enter Try.func125, Try.ntmps125
    go_wp2_with (first | ((with_reducible refine gate_dst (N := 1) rfl ?_); (try (refine gate_guard (by rfl) ?_; dsimp only)); refine box_event ?hg (N := 1) ?hd (cs := #[.int .u64 a0_0, .int .u64 a0_1, .int .u64 a0_2, .int .u64 a0_3, .int .i64 a0_4]) (t := 74) ?hr ?_; (case hd => rfl); (case hg => rfl); (case hr => first | (go_simp; done) | (go_simp; rfl)); intro gb195 hg w23 hbox hb; have n0_ := Aside0.mk (below_step (belN HB) hb); have n1_ := Aside0.mk (hbox); have n2_ := Aside0.mk ((by rw [hg]; exact (below_size (belN HB)) : w.heap.size ≤ gb195)); have n3_ := Aside0.mk ((by rw [hg]; exact (below_size (belN HB)) : w.heap.size ≤ gb195)); clear HB; have HB := n0_; have BK195 := n1_; have GW195 := n2_; have GE195 := n3_; clear n0_ n1_ n2_ n3_; clear hb hbox hg; obtain ⟨hcz24_0, hcz24_1, hcz24_2, hcz24_3, hcz24_4, hfz24_0, hfz24_1, hfz24_2, hfz24_3, hfz24_4⟩ := cz5_ (w := w23) BK195.out))
    go_ret
    exact ⟨by first | rfl | (simp [errW_none, errW_some] <;> rfl) | (simp [*, errW_none, errW_some] <;> rfl), by repeat (first | (with_reducible first | exact HB.out | apply below_alloc | apply pw_below_drewN | apply below_drew1 | refine below_set ?_ GE195.out) | exact HB.out)⟩

end Go.Proofs.Ytcfbcoinbecdfaa.P
