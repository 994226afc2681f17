-- written by a program of this session (wip/print)
import Derived.Test.YtmoncgfffdddeaaQIDoesx0
import Derived.Test.YtmoncgfffdddeaaQIDoesx4
import Derived.Test.YtmoncgfffdddeaaQIDoesx5
namespace Go.Proofs.Ytmoncgfffdddeaa.P
open Go.RowKit Go.Proofs.YtmoncgfffdddeaaW.PrintWords Go.Proofs.YtmoncgfffdddeaaW.PrintLast Go.Proofs.YtmoncgfffdddeaaW.PrintMore
attribute [local go_sem] max2_int min2_int max_two min_two max_three min_three max_four min_four   -- for this text's walks alone
set_option linter.unusedVariables false
set_option linter.unusedSimpArgs false

/-! ### damsonref14_Put: function 16 -/
mutual
def damsonref14_Put.j0 : Nat → List (S26) → Bool → Int → List Int → List Int → Int → Option ((List (S26)) × Int)
  | 0, _, _, _, _, _, _ => none
  | k + 1, x8, x34, x164000, x164001, x164002, x164003 => if x34 = true then (some (([] : List (S26)), 1)) else (damsonref14_Put.l0 k x8 ([] : List (S26)) x8 (x8.length : Int) 0 x164000 x164001 x164002 x164003)
def damsonref14_Put.l0 : Nat → List (S26) → List (S26) → List (S26) → Int → Int → Int → List Int → List Int → Int → Option ((List (S26)) × Int)
  | 0, _, _, _, _, _, _, _, _, _ => none
  | k + 1, x8, x10, x35, x36, x37, x164000, x164001, x164002, x164003 => if x37 < x36 then (if 0 ≤ x37 then (if x37 < (x35.length : Int) then (if ((rd_T26 x35 x37).f0) = x164000 then (some (([] : List (S26)), 6)) else (if ((rd_T26 x35 x37).f0) < x164000 then (if x10.length < 2199023255552 then (damsonref14_Put.l0 k x8 (x10 ++ [(⟨(rd_T26 x35 x37).f0, (rd_T26 x35 x37).f1, (rd_T26 x35 x37).f2, (rd_T26 x35 x37).f3⟩ : S26)]) x35 x36 (wrap64 (x37 + 1)) x164000 x164001 x164002 x164003) else (none)) else (damsonref14_Put.l0 k x8 x10 x35 x36 (wrap64 (x37 + 1)) x164000 x164001 x164002 x164003))) else (none)) else (none)) else (if (x8.length : Int) = 128 then (some (([] : List (S26)), 7)) else (if x10.length < 2199023255552 then (damsonref14_Put.l1 k (x10 ++ [(⟨x164000, x164001, x164002, x164003⟩ : S26)]) x8 (x8.length : Int) 0 x164000 x164001 x164002 x164003) else (none)))
def damsonref14_Put.l1 : Nat → List (S26) → List (S26) → Int → Int → Int → List Int → List Int → Int → Option ((List (S26)) × Int)
  | 0, _, _, _, _, _, _, _, _ => none
  | k + 1, x10, x63, x64, x65, x164000, x164001, x164002, x164003 => if x65 < x64 then (if 0 ≤ x65 then (if x65 < (x63.length : Int) then (if ((rd_T26 x63 x65).f0) > x164000 then (if x10.length < 2199023255552 then (damsonref14_Put.l1 k (x10 ++ [(⟨(rd_T26 x63 x65).f0, (rd_T26 x63 x65).f1, (rd_T26 x63 x65).f2, (rd_T26 x63 x65).f3⟩ : S26)]) x63 x64 (wrap64 (x65 + 1)) x164000 x164001 x164002 x164003) else (none)) else (damsonref14_Put.l1 k x10 x63 x64 (wrap64 (x65 + 1)) x164000 x164001 x164002 x164003)) else (none)) else (none)) else ((damsonref14_Copy.f k x10).bind fun t181 => (some (t181, 0)))
end
def damsonref14_Put.f (k : Nat) (l0 : List (S26)) (a1_0 : Int) (l1_1 : List Int) (l1_2 : List Int) (a1_3 : Int) (a2 : Int) : Option ((List (S26)) × Int) := (damsonref14_Sweep.f k l0 a2).bind fun bt164 => (if bt164.2 = 0 then (if (l1_1.length : Int) > 4096 then (damsonref14_Put.j0 k bt164.1 true a1_0 l1_1 l1_2 a1_3) else (damsonref14_Put.j0 k bt164.1 (decide ((l1_2.length : Int) > 4096)) a1_0 l1_1 l1_2 a1_3)) else (damsonref14_Put.j0 k bt164.1 true a1_0 l1_1 l1_2 a1_3))
theorem damsonref14_Put.mono_l : ∀ k, (∀ y0 y1 y2 y3 y4 y5, LeO (damsonref14_Put.j0 k y0 y1 y2 y3 y4 y5) (damsonref14_Put.j0 (k + 1) y0 y1 y2 y3 y4 y5)) ∧ (∀ y0 y1 y2 y3 y4 y5 y6 y7 y8, LeO (damsonref14_Put.l0 k y0 y1 y2 y3 y4 y5 y6 y7 y8) (damsonref14_Put.l0 (k + 1) y0 y1 y2 y3 y4 y5 y6 y7 y8)) ∧ (∀ y0 y1 y2 y3 y4 y5 y6 y7, LeO (damsonref14_Put.l1 k y0 y1 y2 y3 y4 y5 y6 y7) (damsonref14_Put.l1 (k + 1) y0 y1 y2 y3 y4 y5 y6 y7))
  | 0 => ⟨fun _ _ _ _ _ _ r h => by simp [damsonref14_Put.j0] at h, fun _ _ _ _ _ _ _ _ _ r h => by simp [damsonref14_Put.l0] at h, fun _ _ _ _ _ _ _ _ r h => by simp [damsonref14_Put.l1] at h⟩
  | k + 1 => by
    obtain ⟨ih0, ih1, ih2⟩ := damsonref14_Put.mono_l k
    refine ⟨?_, ?_, ?_⟩
    · intro y0 y1 y2 y3 y4 y5
      unfold damsonref14_Put.j0
      repeat' first
      | (with_reducible exact ih0 _ _ _ _ _ _)
      | (with_reducible exact ih1 _ _ _ _ _ _ _ _ _)
      | (with_reducible exact ih2 _ _ _ _ _ _ _ _)
      | (with_reducible exact damsonref14_Copy.mono _ _)
      | (with_reducible exact damsonref14_Sweep.mono _ _ _)
      | (with_reducible exact LeO.refl _)
      | (with_reducible exact LeO.none _)
      | (with_reducible refine LeO.ite ?_ ?_)
      | (with_reducible refine LeO.bind ?_ (fun _ => ?_))
      | exact ih0 _ _ _ _ _ _
      | exact ih1 _ _ _ _ _ _ _ _ _
      | exact ih2 _ _ _ _ _ _ _ _
      | exact damsonref14_Copy.mono _ _
      | exact damsonref14_Sweep.mono _ _ _
      | exact LeO.none _
      | refine LeO.ite ?_ ?_
      | refine LeO.bind ?_ (fun _ => ?_)
    · intro y0 y1 y2 y3 y4 y5 y6 y7 y8
      unfold damsonref14_Put.l0
      repeat' first
      | (with_reducible exact ih0 _ _ _ _ _ _)
      | (with_reducible exact ih1 _ _ _ _ _ _ _ _ _)
      | (with_reducible exact ih2 _ _ _ _ _ _ _ _)
      | (with_reducible exact damsonref14_Copy.mono _ _)
      | (with_reducible exact damsonref14_Sweep.mono _ _ _)
      | (with_reducible exact LeO.refl _)
      | (with_reducible exact LeO.none _)
      | (with_reducible refine LeO.ite ?_ ?_)
      | (with_reducible refine LeO.bind ?_ (fun _ => ?_))
      | exact ih0 _ _ _ _ _ _
      | exact ih1 _ _ _ _ _ _ _ _ _
      | exact ih2 _ _ _ _ _ _ _ _
      | exact damsonref14_Copy.mono _ _
      | exact damsonref14_Sweep.mono _ _ _
      | exact LeO.none _
      | refine LeO.ite ?_ ?_
      | refine LeO.bind ?_ (fun _ => ?_)
    · intro y0 y1 y2 y3 y4 y5 y6 y7
      unfold damsonref14_Put.l1
      repeat' first
      | (with_reducible exact ih0 _ _ _ _ _ _)
      | (with_reducible exact ih1 _ _ _ _ _ _ _ _ _)
      | (with_reducible exact ih2 _ _ _ _ _ _ _ _)
      | (with_reducible exact damsonref14_Copy.mono _ _)
      | (with_reducible exact damsonref14_Sweep.mono _ _ _)
      | (with_reducible exact LeO.refl _)
      | (with_reducible exact LeO.none _)
      | (with_reducible refine LeO.ite ?_ ?_)
      | (with_reducible refine LeO.bind ?_ (fun _ => ?_))
      | exact ih0 _ _ _ _ _ _
      | exact ih1 _ _ _ _ _ _ _ _ _
      | exact ih2 _ _ _ _ _ _ _ _
      | exact damsonref14_Copy.mono _ _
      | exact damsonref14_Sweep.mono _ _ _
      | exact LeO.none _
      | refine LeO.ite ?_ ?_
      | refine LeO.bind ?_ (fun _ => ?_)
theorem damsonref14_Put.mono : ∀ a0 a1 a2 a3 a4 a5 k, LeO (damsonref14_Put.f k a0 a1 a2 a3 a4 a5) (damsonref14_Put.f (k + 1) a0 a1 a2 a3 a4 a5) := by
  intro a0 a1 a2 a3 a4 a5 k
  obtain ⟨ih0, ih1, ih2⟩ := damsonref14_Put.mono_l k
  unfold damsonref14_Put.f
  repeat' first
      | (with_reducible exact ih0 _ _ _ _ _ _)
      | (with_reducible exact ih1 _ _ _ _ _ _ _ _ _)
      | (with_reducible exact ih2 _ _ _ _ _ _ _ _)
      | (with_reducible exact damsonref14_Copy.mono _ _)
      | (with_reducible exact damsonref14_Sweep.mono _ _ _)
      | (with_reducible exact LeO.refl _)
      | (with_reducible exact LeO.none _)
      | (with_reducible refine LeO.ite ?_ ?_)
      | (with_reducible refine LeO.bind ?_ (fun _ => ?_))
      | exact ih0 _ _ _ _ _ _
      | exact ih1 _ _ _ _ _ _ _ _ _
      | exact ih2 _ _ _ _ _ _ _ _
      | exact damsonref14_Copy.mono _ _
      | exact damsonref14_Sweep.mono _ _ _
      | exact LeO.none _
      | refine LeO.ite ?_ ?_
      | refine LeO.bind ?_ (fun _ => ?_)
set_option maxHeartbeats 8000000 in
set_option maxRecDepth 100000 in
theorem damsonref14_Put.calls (k : Nat) (A0 : Option Addr) (c0 : Nat) (l0 : List (S26)) (a1_0 : Int) (P1_1_ : Nat → Prop) (A1_1 : Option Addr) (c1_1 : Nat) (l1_1 : List Int) (P1_2_ : Nat → Prop) (A1_2 : Option Addr) (c1_2 : Nat) (l1_2 : List Int) (a1_3 : Int) (a2 : Int) (r1 : List (S26)) (r2 : Int) (w : World) (hr0 : Kd.C k26 w A0 l0.length l0) (hc0 : l0.length ≤ c0) (hs1_1 : Kd.V (Kd.int .u8) 5 w w.heap.size (fun k_ => P1_1_ k_) (.slice A1_1 l1_1.length c1_1) l1_1) (hs1_2 : Kd.V (Kd.int .u8) 5 w w.heap.size (fun k_ => P1_2_ k_) (.slice A1_2 l1_2.length c1_2) l1_2) (h : damsonref14_Put.f k l0 a1_0 l1_1 l1_2 a1_3 a2 = some (r1, r2)) :
    Calls Try.prog 16 #[.slice A0 l0.length c0, .agg #[.int .u64 a1_0, .slice A1_1 l1_1.length c1_1, .slice A1_2 l1_2.length c1_2, .int .u64 a1_3], .int .u64 a2] w fun e w' => ∃ v0_ : Value, e = .returned (.tuple #[v0_, .int .i64 r2]) ∧ Kd.N k26 26 w' w.heap.size (fun k_ => ((P1_1_ k_ ∨ P1_2_ k_) ∨ w.heap.size ≤ k_)) v0_ r1 ∧ Below w.heap.size w w' := by
  have hu26 := Try.underlying26
  have HR0 := Aside0.mk hr0
  have HC0 := Aside0.mk hc0
  clear hr0 hc0
  have HO1_1 := Aside0.mk (show Kd.V (Kd.int .u8) 5 w w.heap.size (fun k_ => ((P1_1_ k_ ∨ P1_2_ k_) ∨ w.heap.size ≤ k_)) (.slice A1_1 l1_1.length c1_1) l1_1 from Kd.V_mono hs1_1 (fun k_ hk => .inl (.inl hk)))
  have HO1_2 := Aside0.mk (show Kd.V (Kd.int .u8) 5 w w.heap.size (fun k_ => ((P1_1_ k_ ∨ P1_2_ k_) ∨ w.heap.size ≤ k_)) (.slice A1_2 l1_2.length c1_2) l1_2 from Kd.V_mono hs1_2 (fun k_ hk => .inl (.inr hk)))
  have HB := Aside0.mk (Below.refl w.heap.size w)
  have H : ((damsonref14_Sweep.f k l0 a2).bind fun bt164 => (if bt164.2 = 0 then (if (l1_1.length : Int) > 4096 then (damsonref14_Put.j0 k bt164.1 true a1_0 l1_1 l1_2 a1_3) else (damsonref14_Put.j0 k bt164.1 (decide ((l1_2.length : Int) > 4096)) a1_0 l1_1 l1_2 a1_3)) else (damsonref14_Put.j0 k bt164.1 true a1_0 l1_1 l1_2 a1_3))) = some (r1, r2) := h
  clear h
  replace H := Option.bind_eq_some_iff.mp H
  obtain ⟨⟨t164, t167⟩, A40, H⟩ := H
  replace H : (if t167 = 0 then (if (l1_1.length : Int) > 4096 then (damsonref14_Put.j0 k t164 true a1_0 l1_1 l1_2 a1_3) else (damsonref14_Put.j0 k t164 (decide ((l1_2.length : Int) > 4096)) a1_0 l1_1 l1_2 a1_3)) else (damsonref14_Put.j0 k t164 true a1_0 l1_1 l1_2 a1_3)) = some (r1, r2) := H
  have A4 := Aside0.mk A40
  clear A40
  have HC5 := Aside0.mk H
  clear H
  go_enter Try.func16, Try.ntmps16
  go_upto_region 2 with (first | ((with_reducible refine gate_dst (N := 4) rfl ?_); (try (refine gate_guard (by rfl) ?_; dsimp only)); refine box_event ?hg (N := 4) ?hd (cs := #[.int .u64 a1_0, .slice A1_1 l1_1.length c1_1, .slice A1_2 l1_2.length c1_2, .int .u64 a1_3]) (t := 26) ?hr ?_; (case hd => rfl); (case hg => rfl); (case hr => first | (go_simp; done) | (go_simp; rfl)); intro gb163 hg w6 hbox hb; have n0_ := Aside0.mk (Kd.V_below (Kd.V_elderB (Kd.VN HO1_1) gb163 (Nat.le_of_eq hg.symm)) hb); have n1_ := Aside0.mk (Kd.V_below (Kd.V_elderB (Kd.VN HO1_2) gb163 (Nat.le_of_eq hg.symm)) hb); have n2_ := Aside0.mk (below_step (belN HB) hb); have n3_ := Aside0.mk (hbox); have n4_ := Aside0.mk ((by rw [hg]; exact (below_size (belN HB)) : w.heap.size ≤ gb163)); have n5_ := Aside0.mk ((by rw [hg]; exact (below_size (belN HB)) : w.heap.size ≤ gb163)); clear HO1_1; clear HO1_2; clear HB; have HO1_1 := n0_; have HO1_2 := n1_; have HB := n2_; have BK163 := n3_; have GW163 := n4_; have GE163 := n5_; clear n0_ n1_ n2_ n3_ n4_ n5_; clear hb hbox hg) | ((with_reducible refine gate_callee (f := 18) rfl ?_); refine goesL_ (some 18) rfl rfl Try.func18 (by kernel_rfl) rfl #[.slice A0 l0.length c0, .int .u64 a2] rfl (by (try simp only [List.map_toArray, List.map_cons, List.map_nil]); first | done | rfl | (simp only [List.length_drop, List.length_take]; rfl)) ?_; (with_reducible refine (damsonref14_Sweep.calls k _ _ l0 a2 t164 t167 _ ?side1 ?side2 A4.out).mono ?_); (case side1 => repeat (first | exact (Kd.C_below HR0.out HB.out) | (with_reducible refine Kd.C_alloc ?_ _) | (with_reducible refine Kd.C_drewN ?_ _) | (with_reducible refine Kd.C_drew ?_))); (case side2 => exact HC0.out); rintro e w7 ⟨v165, rfl, ho0, hb⟩; refine ⟨_, rfl, ?_⟩; have n0_ := Aside0.mk (Kd.V_elder' (Kd.VN HO1_1) (by first | exact Kd.N_base ho0 | exact Kd.N_base (Kd.S_N ho0)) hb); have n1_ := Aside0.mk (Kd.V_elder' (Kd.VN HO1_2) (by first | exact Kd.N_base ho0 | exact Kd.N_base (Kd.S_N ho0)) hb); have n2_ := Aside0.mk (Kd.N_lower (Kd.N_mono (ok' := fun k_ => ((P1_1_ k_ ∨ P1_2_ k_) ∨ w.heap.size ≤ k_) ∧ k_ ≠ gb163) ho0 (fun k_ hk_ => ⟨(.inr (Nat.le_trans (below_size (belN HB)) hk_)), (Kd.freshB (g := gb163) (blkN BK163) k_ hk_)⟩)) (below_size (belN HB))); have n3_ := Aside0.mk (blk_below (g := gb163) (blkN BK163) hb); have n4_ := Aside0.mk (below_step (belN HB) hb); clear HO1_1; clear HO1_2; clear BK163; clear HB; have HO1_1 := n0_; have HO1_2 := n1_; have HO166 := n2_; have BK163 := n3_; have HB := n4_; clear n0_ n1_ n2_ n3_ n4_; (try clear hb); (try clear hb2); (try clear hk); (try clear hi); (try clear ho0)))
  (try simp only [Act.put, List.setIfInBounds_toArray, List.set_cons_zero, List.set_cons_succ])
  go_cut [34] (fun v34 wc => ∃ (kq : Nat) (x34_4 : Bool), v34 = .bool x34_4 ∧ Aside0 (damsonref14_Put.j0 kq t164 x34_4 a1_0 l1_1 l1_2 a1_3 = some (r1, r2)) ∧ Aside0 (kq ≤ k) ∧ Aside0 (Kd.N k26 26 wc w.heap.size (fun k_ => ((P1_1_ k_ ∨ P1_2_ k_) ∨ w.heap.size ≤ k_) ∧ k_ ≠ gb163) v165 t164) ∧ Aside0 (Kd.V (Kd.int .u8) 5 wc w.heap.size (fun k_ => ((P1_1_ k_ ∨ P1_2_ k_) ∨ w.heap.size ≤ k_) ∧ some k_ ≠ (v165 : Value).ownBlock ∧ k_ ≠ gb163) (.slice A1_1 l1_1.length c1_1) l1_1) ∧ Aside0 (Kd.V (Kd.int .u8) 5 wc w.heap.size (fun k_ => ((P1_1_ k_ ∨ P1_2_ k_) ∨ w.heap.size ≤ k_) ∧ some k_ ≠ (v165 : Value).ownBlock ∧ k_ ≠ gb163) (.slice A1_2 l1_2.length c1_2) l1_2) ∧ Aside0 (wc.heap[gb163]? = some (.cells #[.int .u64 a1_0, (.slice A1_1 l1_1.length c1_1), (.slice A1_2 l1_2.length c1_2), .int .u64 a1_3] 26 (0, 0))) ∧ Aside0 (Below w.heap.size w wc))
  case first =>
    have H := HC5.out
    clear HC5
    by_cases c8 : t167 = 0
    · rw [if_pos c8] at H
      have c8b0 : (t167 == 0) = true := beq_iff_eq.mpr c8
      have c8b1 : (t167 != 0) = false := bne_eq_false_iff_eq.mpr c8
      clear c8
      (first | rw [c8b0] | (simp only [i64_w, i32_w]; rw [c8b0]) | skip)
      by_cases c9 : (l1_1.length : Int) > 4096
      · rw [if_pos c9] at H
        have c9b0 : decide (4096 < (l1_1.length : Int)) = true := decide_eq_true c9
        have c9b1 : decide (4096 < l1_1.length) = true := decide_eq_true (by omega)
        clear c9
        have H' := Aside0.mk H
        clear H
        obtain ⟨hcz10_0, hcz10_1, hcz10_2, hcz10_3, hfz10_0, hfz10_1, hfz10_2, hfz10_3⟩ := cz4_ (w := w7) BK163.out
        go_wp2
        go_meet
        case rel => exact ⟨_, (true), (by first | rfl | (simp; done) | (simp [*]; done)), H', ⟨by first | omega | exact Nat.le_refl _⟩, ⟨by (with_reducible repeat (first | apply Kd.N_alloc | apply Kd.N_drewN | apply Kd.N_drew)); exact HO166.out⟩, ⟨by (with_reducible repeat (first | apply Kd.V_alloc | apply Kd.V_drewN | apply Kd.V_drew)); exact Kd.V_mono HO1_1.out (fun _ hk => ⟨hk.1.1, ⟨hk.2, hk.1.2⟩⟩)⟩, ⟨by (with_reducible repeat (first | apply Kd.V_alloc | apply Kd.V_drewN | apply Kd.V_drew)); exact Kd.V_mono HO1_2.out (fun _ hk => ⟨hk.1.1, ⟨hk.2, hk.1.2⟩⟩)⟩, ⟨by (with_reducible repeat (first | refine blk_drewN ?_ _ | refine blk_drew ?_ | refine blk_alloc ?_ _)); exact BK163.out⟩, ⟨by repeat (first | (with_reducible first | exact HB.out | apply below_alloc | apply pw_below_drewN | apply below_drew1 | refine below_set ?_ GE163.out) | exact HB.out)⟩⟩
      · rw [if_neg c9] at H
        have c9b0 : decide (4096 < (l1_1.length : Int)) = false := decide_eq_false c9
        have c9b1 : decide (4096 < l1_1.length) = false := decide_eq_false (by omega)
        clear c9
        have H' := Aside0.mk H
        clear H
        obtain ⟨hcz11_0, hcz11_1, hcz11_2, hcz11_3, hfz11_0, hfz11_1, hfz11_2, hfz11_3⟩ := cz4_ (w := w7) BK163.out
        go_wp2
        go_meet
        case rel => exact ⟨_, (decide ((l1_2.length : Int) > 4096)), (by first | rfl | (simp; done) | (simp [*]; done)), H', ⟨by first | omega | exact Nat.le_refl _⟩, ⟨by (with_reducible repeat (first | apply Kd.N_alloc | apply Kd.N_drewN | apply Kd.N_drew)); exact HO166.out⟩, ⟨by (with_reducible repeat (first | apply Kd.V_alloc | apply Kd.V_drewN | apply Kd.V_drew)); exact Kd.V_mono HO1_1.out (fun _ hk => ⟨hk.1.1, ⟨hk.2, hk.1.2⟩⟩)⟩, ⟨by (with_reducible repeat (first | apply Kd.V_alloc | apply Kd.V_drewN | apply Kd.V_drew)); exact Kd.V_mono HO1_2.out (fun _ hk => ⟨hk.1.1, ⟨hk.2, hk.1.2⟩⟩)⟩, ⟨by (with_reducible repeat (first | refine blk_drewN ?_ _ | refine blk_drew ?_ | refine blk_alloc ?_ _)); exact BK163.out⟩, ⟨by repeat (first | (with_reducible first | exact HB.out | apply below_alloc | apply pw_below_drewN | apply below_drew1 | refine below_set ?_ GE163.out) | exact HB.out)⟩⟩
    · rw [if_neg c8] at H
      have c8b0 : (t167 == 0) = false := beq_eq_false_iff_ne.mpr c8
      have c8b1 : (t167 != 0) = true := bne_iff_ne.mpr c8
      (first | rw [c8b0] | (simp only [i64_w, i32_w]; rw [c8b0]) | skip)
      have H' := Aside0.mk H
      clear H
      go_wp2
      go_meet
      case rel => exact ⟨_, (true), (by first | rfl | (simp; done) | (simp [*]; done)), H', ⟨by first | omega | exact Nat.le_refl _⟩, ⟨by (with_reducible repeat (first | apply Kd.N_alloc | apply Kd.N_drewN | apply Kd.N_drew)); exact HO166.out⟩, ⟨by (with_reducible repeat (first | apply Kd.V_alloc | apply Kd.V_drewN | apply Kd.V_drew)); exact Kd.V_mono HO1_1.out (fun _ hk => ⟨hk.1.1, ⟨hk.2, hk.1.2⟩⟩)⟩, ⟨by (with_reducible repeat (first | apply Kd.V_alloc | apply Kd.V_drewN | apply Kd.V_drew)); exact Kd.V_mono HO1_2.out (fun _ hk => ⟨hk.1.1, ⟨hk.2, hk.1.2⟩⟩)⟩, ⟨by (with_reducible repeat (first | refine blk_drewN ?_ _ | refine blk_drew ?_ | refine blk_alloc ?_ _)); exact BK163.out⟩, ⟨by repeat (first | (with_reducible first | exact HB.out | apply below_alloc | apply pw_below_drewN | apply below_drew1 | refine below_set ?_ GE163.out) | exact HB.out)⟩⟩
  case rest =>
    clear HC5
    try clear c1
    try clear p2
    try clear c8
    try clear c8b0
    try clear c8b1
    try clear c9
    try clear c9b0
    try clear c9b1
    try clear hcz10_0
    try clear hcz10_1
    try clear hcz10_2
    try clear hcz10_3
    try clear hcz11_0
    try clear hcz11_1
    try clear hcz11_2
    try clear hcz11_3
    try clear hfz10_0
    try clear hfz10_1
    try clear hfz10_2
    try clear hfz10_3
    try clear hfz11_0
    try clear hfz11_1
    try clear hfz11_2
    try clear hfz11_3
    obtain ⟨kq, x34_4, rfl, HA, HJ4, HO_8, HO_164001, HO_164002, BK163, HB⟩ := hcut
    cases kq with
    | zero => exact absurd HA.out (by simp [damsonref14_Put.j0])
    | succ kj4 =>
      have H := HA.out
      clear HA
      simp only [damsonref14_Put.j0] at H
      by_cases c12 : x34_4 = true
      · subst c12
        have H1 : (some (([] : List (S26)), 1)) = some (r1, r2) := by rw [if_pos rfl] at H; exact H
        clear H
        have H := H1
        clear H1
        simp only [Option.some.injEq, Prod.mk.injEq] at H
        obtain ⟨rfl, rfl⟩ := H
        go_wp2
        go_ret2
        exact ⟨_, by first | rfl | (simp [errW_none, errW_some] <;> rfl) | (simp [*, errW_none, errW_some] <;> rfl), by first | exact Kd.S_nil _ _ _ _ _ | exact Kd.N_nil _ _ _ _ _ | exact Kd.V_nil _ _ _ _ _ | exact Kd.Q_nil _ _ _ _ _ | exact Kd.R_nil _ _ _ _ _, by repeat (first | (with_reducible first | exact HB.out | apply below_alloc | apply pw_below_drewN | apply below_drew1 | refine below_set ?_ GE163.out) | exact HB.out)⟩
      · replace c12 := Bool.eq_false_iff.mpr c12
        subst c12
        have H1 : (damsonref14_Put.l0 kj4 t164 ([] : List (S26)) t164 (t164.length : Int) 0 a1_0 l1_1 l1_2 a1_3) = some (r1, r2) := by rw [if_neg (show ¬ (false = true) by decide)] at H; exact H
        clear H
        have H := H1
        clear H1
        have H' := Aside0.mk H
        clear H
        obtain ⟨Ao13, co13, eo13⟩ := Kd.N_slice HO_8.out
        subst eo13
        go_wp2
        go_loopg [10, 37] kj4 (fun kq v10 v37 w' => ∃ (x10_2 : List (S26)) (x37_2 : Int), v37 = .int .i64 x37_2 ∧ Aside0 (damsonref14_Put.l0 kq t164 x10_2 t164 (t164.length : Int) x37_2 a1_0 l1_1 l1_2 a1_3 = some (r1, r2)) ∧ Aside0 (kq ≤ kj4) ∧ Aside0 (Kd.N k26 26 w' w.heap.size (fun k_ => ((P1_1_ k_ ∨ P1_2_ k_) ∨ w.heap.size ≤ k_) ∧ some k_ ≠ (v10 : Value).ownBlock ∧ k_ ≠ gb163) (.slice Ao13 t164.length co13) t164) ∧ Aside0 (Kd.N k26 26 w' w.heap.size (fun k_ => ((P1_1_ k_ ∨ P1_2_ k_) ∨ w.heap.size ≤ k_) ∧ some k_ ≠ ((.slice Ao13 t164.length co13) : Value).ownBlock ∧ k_ ≠ gb163) v10 x10_2) ∧ Aside0 (Kd.N k26 26 w' w.heap.size (fun k_ => ((P1_1_ k_ ∨ P1_2_ k_) ∨ w.heap.size ≤ k_) ∧ some k_ ≠ (v10 : Value).ownBlock ∧ k_ ≠ gb163) (.slice Ao13 t164.length co13) t164) ∧ Aside0 (Kd.V (Kd.int .u8) 5 w' w.heap.size (fun k_ => ((P1_1_ k_ ∨ P1_2_ k_) ∨ w.heap.size ≤ k_) ∧ some k_ ≠ ((.slice Ao13 t164.length co13) : Value).ownBlock ∧ some k_ ≠ (v10 : Value).ownBlock ∧ some k_ ≠ ((.slice Ao13 t164.length co13) : Value).ownBlock ∧ k_ ≠ gb163) (.slice A1_1 l1_1.length c1_1) l1_1) ∧ Aside0 (Kd.V (Kd.int .u8) 5 w' w.heap.size (fun k_ => ((P1_1_ k_ ∨ P1_2_ k_) ∨ w.heap.size ≤ k_) ∧ some k_ ≠ ((.slice Ao13 t164.length co13) : Value).ownBlock ∧ some k_ ≠ (v10 : Value).ownBlock ∧ some k_ ≠ ((.slice Ao13 t164.length co13) : Value).ownBlock ∧ k_ ≠ gb163) (.slice A1_2 l1_2.length c1_2) l1_2) ∧ Aside0 (w'.heap[gb163]? = some (.cells #[.int .u64 a1_0, (.slice A1_1 l1_1.length c1_1), (.slice A1_2 l1_2.length c1_2), .int .u64 a1_3] 26 (0, 0))) ∧ Aside0 (Below w.heap.size w w'))
        case atStart => exact ⟨(([] : List (S26))), (0), (by first | rfl | (simp; done) | (simp [*]; done)), H', ⟨Nat.le_refl _⟩, ⟨by (with_reducible repeat (first | apply Kd.N_alloc | apply Kd.N_drewN | apply Kd.N_drew)); exact Kd.N_mono HO_8.out (fun _ hk => ⟨hk.1, ⟨(by simp [Value.ownBlock]), hk.2⟩⟩)⟩, ⟨by first | exact Kd.S_nil _ _ _ _ _ | exact Kd.N_nil _ _ _ _ _ | exact Kd.V_nil _ _ _ _ _ | exact Kd.Q_nil _ _ _ _ _ | exact Kd.R_nil _ _ _ _ _⟩, ⟨by (with_reducible repeat (first | apply Kd.N_alloc | apply Kd.N_drewN | apply Kd.N_drew)); exact Kd.N_mono HO_8.out (fun _ hk => ⟨hk.1, ⟨(by simp [Value.ownBlock]), hk.2⟩⟩)⟩, ⟨by (with_reducible repeat (first | apply Kd.V_alloc | apply Kd.V_drewN | apply Kd.V_drew)); exact Kd.V_mono HO_164001.out (fun _ hk => ⟨hk.1, ⟨hk.2.1, ⟨(by simp [Value.ownBlock]), ⟨hk.2.1, hk.2.2⟩⟩⟩⟩)⟩, ⟨by (with_reducible repeat (first | apply Kd.V_alloc | apply Kd.V_drewN | apply Kd.V_drew)); exact Kd.V_mono HO_164002.out (fun _ hk => ⟨hk.1, ⟨hk.2.1, ⟨(by simp [Value.ownBlock]), ⟨hk.2.1, hk.2.2⟩⟩⟩⟩)⟩, ⟨by (with_reducible repeat (first | refine blk_drewN ?_ _ | refine blk_drew ?_ | refine blk_alloc ?_ _)); exact BK163.out⟩, ⟨by repeat (first | (with_reducible first | exact HB.out | apply below_alloc | apply pw_below_drewN | apply below_drew1 | refine below_set ?_ GE163.out) | exact HB.out)⟩⟩
        case round =>
          clear H'
          try clear c1
          try clear p2
          try clear c8
          try clear c8b0
          try clear c8b1
          try clear c9
          try clear c9b0
          try clear c9b1
          try clear c12
          try clear hcz10_0
          try clear hcz10_1
          try clear hcz10_2
          try clear hcz10_3
          try clear hcz11_0
          try clear hcz11_1
          try clear hcz11_2
          try clear hcz11_3
          try clear hfz10_0
          try clear hfz10_1
          try clear hfz10_2
          try clear hfz10_3
          try clear hfz11_0
          try clear hfz11_1
          try clear hfz11_2
          try clear hfz11_3
          try clear p2
          obtain ⟨x10_2, x37_2, rfl, HA, HK2, HO_8, HO_10, HO_35, HO_164001, HO_164002, BK163, HB⟩ := hrel
          cases gk with
          | zero => exact absurd HA.out (by simp [damsonref14_Put.l0])
          | succ k2 =>
            have H := HA.out
            clear HA
            simp only [damsonref14_Put.l0] at H
            by_cases c14 : x37_2 < (t164.length : Int)
            · rw [if_pos c14] at H
              have c14b0 : decide (x37_2 < (t164.length : Int)) = true := decide_eq_true c14
              clear c14
              by_cases c15 : 0 ≤ x37_2
              · rw [if_pos c15] at H
                have c15b0 : decide (0 ≤ x37_2) = true := decide_eq_true c15
                clear c15
                by_cases c16 : x37_2 < (t164.length : Int)
                · rw [if_pos c16] at H
                  have c16b0 : decide (x37_2 < (t164.length : Int)) = true := decide_eq_true c16
                  clear c16
                  by_cases c17 : ((rd_T26 t164 x37_2).f0) = a1_0
                  · rw [if_pos c17] at H
                    have c17b0 : (((rd_T26 t164 x37_2).f0) == a1_0) = true := beq_iff_eq.mpr c17
                    have c17b1 : (((rd_T26 t164 x37_2).f0) != a1_0) = false := bne_eq_false_iff_eq.mpr c17
                    clear c17
                    simp only [Option.some.injEq, Prod.mk.injEq] at H
                    obtain ⟨rfl, rfl⟩ := H
                    have p168 : 0 ≤ (x37_2 : Int) := of_decide_eq_true (by first | (with_reducible assumption) | assumption)
                    have q168 : x37_2 < (t164.length : Int) := of_decide_eq_true (by first | (with_reducible assumption) | assumption)
                    obtain ⟨ad168, A168_1, c168_1, A168_2, c168_2, e168, hx168_0, hx168_1, hx168_2, hx168_3, hl168_1, hi168_1, hl168_2, hi168_2⟩ := at_T26 (Kd.N_reads' HO_35.out).2.2 x37_2 p168 q168
                    cases e168
                    obtain ⟨ce168, hce168, hMe168, hcc168⟩ := Kd.N_get HO_35.out z26 x37_2 p168 (by first | exact q168 | exact of_decide_eq_true (by first | (with_reducible assumption) | assumption) | (have e_ := (Kd.N_reads' HO_35.out).1; omega))
                    obtain ⟨ua168_1, uc168_1, ua168_2, uc168_2, rfl, ul168_1, ge168_1, ul168_2, ge168_2⟩ := k26_openF hMe168
                    have hv168_1 := hcc168 1 _ rfl
                    rw [add_field _ _ 1 (by omega)] at hv168_1
                    replace hv168_1 := Option.some.inj (hv168_1.symm.trans hx168_1)
                    injection hv168_1 with hva_ hvn_ hvc_
                    rw [hva_] at ge168_1
                    rw [hvc_] at ul168_1
                    have HL168_1 := Aside0.mk (show Kd.V (Kd.int .u8) 5 _ w.heap.size _ _ ((rd_T26 t164 x37_2).f1) from Kd.V_mk ul168_1 ge168_1)
                    clear hva_ hvn_ hvc_ ge168_1 ul168_1
                    have hv168_2 := hcc168 2 _ rfl
                    rw [add_field _ _ 2 (by omega)] at hv168_2
                    replace hv168_2 := Option.some.inj (hv168_2.symm.trans hx168_2)
                    injection hv168_2 with hva_ hvn_ hvc_
                    rw [hva_] at ge168_2
                    rw [hvc_] at ul168_2
                    have HL168_2 := Aside0.mk (show Kd.V (Kd.int .u8) 5 _ w.heap.size _ _ ((rd_T26 t164 x37_2).f2) from Kd.V_mk ul168_2 ge168_2)
                    clear hva_ hvn_ hvc_ ge168_2 ul168_2
                    clear hcc168 hce168
                    have HR168_1 := Aside0.mk hi168_1
                    have HC168_1 := Aside0.mk hl168_1
                    clear hi168_1 hl168_1
                    have HR168_2 := Aside0.mk hi168_2
                    have HC168_2 := Aside0.mk hl168_2
                    clear hi168_2 hl168_2
                    replace p168 := eq_true p168
                    replace q168 := eq_true q168
                    go_wp2_with (first | ((with_reducible refine gate_dst (N := 12) rfl ?_); (try (refine gate_guard (by rfl) ?_; dsimp only)); refine box_event ?hg (N := 12) ?hd (cs := #[.int .u64 0, .slice none 0 0, .slice none 0 0, .int .u64 0]) (t := 26) ?hr ?_; (case hd => rfl); (case hg => rfl); (case hr => first | (go_simp; done) | (go_simp; rfl)); intro gb169 hg w18 hbox hb; have n0_ := Aside0.mk (Kd.N_below (Kd.N_elderB (Kd.NN HO_8) gb169 (Nat.le_of_eq hg.symm)) hb); have n1_ := Aside0.mk (Kd.N_below (Kd.N_elderB (Kd.NN HO_10) gb169 (Nat.le_of_eq hg.symm)) hb); have n2_ := Aside0.mk (Kd.N_below (Kd.N_elderB (Kd.NN HO_35) gb169 (Nat.le_of_eq hg.symm)) hb); have n3_ := Aside0.mk (Kd.V_below (Kd.V_elderB (Kd.VN HO_164001) gb169 (Nat.le_of_eq hg.symm)) hb); have n4_ := Aside0.mk (Kd.V_below (Kd.V_elderB (Kd.VN HO_164002) gb169 (Nat.le_of_eq hg.symm)) hb); have n5_ := Aside0.mk (Kd.V_below (Kd.V_elderB (Kd.VN HL168_1) gb169 (Nat.le_of_eq hg.symm)) hb); have n6_ := Aside0.mk (Kd.V_below (Kd.V_elderB (Kd.VN HL168_2) gb169 (Nat.le_of_eq hg.symm)) hb); have n7_ := Aside0.mk (blk_below (g := gb163) (blkN BK163) hb); have n8_ := Aside0.mk (Kd.C_below (by repeat (first | (with_reducible exact HR168_1.out) | (with_reducible refine Kd.C_alloc ?_ _) | (with_reducible refine Kd.C_drewN ?_ _) | (with_reducible refine Kd.C_drew ?_) | exact HR168_1.out)) hb); have n9_ := Aside0.mk (Kd.C_below (by repeat (first | (with_reducible exact HR168_2.out) | (with_reducible refine Kd.C_alloc ?_ _) | (with_reducible refine Kd.C_drewN ?_ _) | (with_reducible refine Kd.C_drew ?_) | exact HR168_2.out)) hb); have n10_ := Aside0.mk (below_step (belN HB) hb); have n11_ := Aside0.mk (hbox); have n12_ := Aside0.mk ((by rw [hg]; exact (below_size (belN HB)) : w.heap.size ≤ gb169)); have n13_ := Aside0.mk ((by rw [hg]; exact (below_size (belN HB)) : w.heap.size ≤ gb169)); have n14_ := Aside0.mk ((by rw [hg]; exact Nat.ne_of_lt (blk_lt (g := gb163) (blkN BK163)) : gb163 ≠ gb169)); have n15_ := Aside0.mk ((by rw [hg]; exact Nat.ne_of_gt (blk_lt (g := gb163) (blkN BK163)) : gb169 ≠ gb163)); clear HO_8; clear HO_10; clear HO_35; clear HO_164001; clear HO_164002; clear HL168_1; clear HL168_2; clear BK163; clear HR168_1; clear HR168_2; clear HB; have HO_8 := n0_; have HO_10 := n1_; have HO_35 := n2_; have HO_164001 := n3_; have HO_164002 := n4_; have HL168_1 := n5_; have HL168_2 := n6_; have BK163 := n7_; have HR168_1 := n8_; have HR168_2 := n9_; have HB := n10_; have BK169 := n11_; have GW169 := n12_; have GE169 := n13_; have NB163_169 := n14_; have NB169_163 := n15_; clear n0_ n1_ n2_ n3_ n4_ n5_ n6_ n7_ n8_ n9_ n10_ n11_ n12_ n13_ n14_ n15_; clear hb hbox hg; have hnb19 := NB169_163.out; have hnc19 := NB163_169.out; obtain ⟨hcz20_0, hcz20_1, hcz20_2, hcz20_3, hfz20_0, hfz20_1, hfz20_2, hfz20_3⟩ := cz4_ (w := w18) BK169.out) | ((with_reducible refine gate_store (t := 26) (p := 12) rfl ?_); refine store_event (t := 26) (p := 12) (v := ?vo_w21) (w1 := ((((w18.setCell ⟨gb169, 0, none⟩ (.int .u64 ((rd_T26 t164 x37_2).f0))).setCell ⟨gb169, 1, none⟩ (.slice A168_1 ((rd_T26 t164 x37_2).f1).length c168_1)).setCell ⟨gb169, 2, none⟩ (.slice A168_2 ((rd_T26 t164 x37_2).f2).length c168_2)).setCell ⟨gb169, 3, none⟩ (.int .u64 ((rd_T26 t164 x37_2).f3)))) ?hg ?ho ?hn ?hr ?_; (case ho => rfl); (case hg => rfl); (case hn => rfl); (case hr => first | (go_simp; done) | (go_simp; rfl)); intro w21 hw; have n0_ : Aside0 (Kd.N k26 26 w21 w.heap.size (fun k_ => ((P1_1_ k_ ∨ P1_2_ k_) ∨ w.heap.size ≤ k_) ∧ some k_ ≠ (u10 : Value).ownBlock ∧ k_ ≠ gb163 ∧ k_ ≠ gb169) (.slice (some ad168) t164.length co13) t164) := ⟨(by rw [hw]; exact (by (with_reducible repeat (first | apply Kd.N_alloc | apply Kd.N_drewN | apply Kd.N_drew)); exact Kd.N_mono (Kd.N_far (p := ⟨gb169, 3, none⟩) (Kd.N_far (p := ⟨gb169, 2, none⟩) (Kd.N_far (p := ⟨gb169, 1, none⟩) (Kd.N_far (p := ⟨gb169, 0, none⟩) (Kd.N_mono HO_8.out (fun k_ hk => (⟨hk, hk.2⟩ : _ ∧ k_ ≠ gb169))) (fun _ hk => hk.2) (.int .u64 ((rd_T26 t164 x37_2).f0))) (fun _ hk => hk.2) (.slice A168_1 ((rd_T26 t164 x37_2).f1).length c168_1)) (fun _ hk => hk.2) (.slice A168_2 ((rd_T26 t164 x37_2).f2).length c168_2)) (fun _ hk => hk.2) (.int .u64 ((rd_T26 t164 x37_2).f3))) (fun _ hk => ⟨hk.1.1.1, ⟨hk.1.1.2.1, ⟨hk.1.1.2.2, hk.1.2⟩⟩⟩)))⟩; have n1_ : Aside0 (Kd.N k26 26 w21 w.heap.size (fun k_ => ((P1_1_ k_ ∨ P1_2_ k_) ∨ w.heap.size ≤ k_) ∧ some k_ ≠ (.slice (some ad168) t164.length co13 : Value).ownBlock ∧ k_ ≠ gb163 ∧ k_ ≠ gb169) u10 x10_2) := ⟨(by rw [hw]; exact (by (with_reducible repeat (first | apply Kd.N_alloc | apply Kd.N_drewN | apply Kd.N_drew)); exact Kd.N_mono (Kd.N_far (p := ⟨gb169, 3, none⟩) (Kd.N_far (p := ⟨gb169, 2, none⟩) (Kd.N_far (p := ⟨gb169, 1, none⟩) (Kd.N_far (p := ⟨gb169, 0, none⟩) (Kd.N_mono HO_10.out (fun k_ hk => (⟨hk, hk.2⟩ : _ ∧ k_ ≠ gb169))) (fun _ hk => hk.2) (.int .u64 ((rd_T26 t164 x37_2).f0))) (fun _ hk => hk.2) (.slice A168_1 ((rd_T26 t164 x37_2).f1).length c168_1)) (fun _ hk => hk.2) (.slice A168_2 ((rd_T26 t164 x37_2).f2).length c168_2)) (fun _ hk => hk.2) (.int .u64 ((rd_T26 t164 x37_2).f3))) (fun _ hk => ⟨hk.1.1.1, ⟨hk.1.1.2.1, ⟨hk.1.1.2.2, hk.1.2⟩⟩⟩)))⟩; have n2_ : Aside0 (Kd.N k26 26 w21 w.heap.size (fun k_ => ((P1_1_ k_ ∨ P1_2_ k_) ∨ w.heap.size ≤ k_) ∧ some k_ ≠ (u10 : Value).ownBlock ∧ k_ ≠ gb163 ∧ k_ ≠ gb169) (.slice (some ad168) t164.length co13) t164) := ⟨(by rw [hw]; exact (by (with_reducible repeat (first | apply Kd.N_alloc | apply Kd.N_drewN | apply Kd.N_drew)); exact Kd.N_mono (Kd.N_far (p := ⟨gb169, 3, none⟩) (Kd.N_far (p := ⟨gb169, 2, none⟩) (Kd.N_far (p := ⟨gb169, 1, none⟩) (Kd.N_far (p := ⟨gb169, 0, none⟩) (Kd.N_mono HO_35.out (fun k_ hk => (⟨hk, hk.2⟩ : _ ∧ k_ ≠ gb169))) (fun _ hk => hk.2) (.int .u64 ((rd_T26 t164 x37_2).f0))) (fun _ hk => hk.2) (.slice A168_1 ((rd_T26 t164 x37_2).f1).length c168_1)) (fun _ hk => hk.2) (.slice A168_2 ((rd_T26 t164 x37_2).f2).length c168_2)) (fun _ hk => hk.2) (.int .u64 ((rd_T26 t164 x37_2).f3))) (fun _ hk => ⟨hk.1.1.1, ⟨hk.1.1.2.1, ⟨hk.1.1.2.2, hk.1.2⟩⟩⟩)))⟩; have n3_ : Aside0 (Kd.V (Kd.int .u8) 5 w21 w.heap.size (fun k_ => ((P1_1_ k_ ∨ P1_2_ k_) ∨ w.heap.size ≤ k_) ∧ some k_ ≠ (.slice (some ad168) t164.length co13 : Value).ownBlock ∧ some k_ ≠ (u10 : Value).ownBlock ∧ some k_ ≠ (.slice (some ad168) t164.length co13 : Value).ownBlock ∧ k_ ≠ gb163 ∧ k_ ≠ gb169) (.slice A1_1 l1_1.length c1_1) l1_1) := ⟨(by rw [hw]; exact (by (with_reducible repeat (first | apply Kd.V_alloc | apply Kd.V_drewN | apply Kd.V_drew)); exact Kd.V_mono (Kd.V_far (p := ⟨gb169, 3, none⟩) (Kd.V_far (p := ⟨gb169, 2, none⟩) (Kd.V_far (p := ⟨gb169, 1, none⟩) (Kd.V_far (p := ⟨gb169, 0, none⟩) (Kd.V_mono HO_164001.out (fun k_ hk => (⟨hk, hk.2⟩ : _ ∧ k_ ≠ gb169))) (fun _ hk => hk.2) (.int .u64 ((rd_T26 t164 x37_2).f0))) (fun _ hk => hk.2) (.slice A168_1 ((rd_T26 t164 x37_2).f1).length c168_1)) (fun _ hk => hk.2) (.slice A168_2 ((rd_T26 t164 x37_2).f2).length c168_2)) (fun _ hk => hk.2) (.int .u64 ((rd_T26 t164 x37_2).f3))) (fun _ hk => ⟨hk.1.1.1, ⟨hk.1.1.2.1, ⟨hk.1.1.2.2.1, ⟨hk.1.1.2.2.2.1, ⟨hk.1.1.2.2.2.2, hk.1.2⟩⟩⟩⟩⟩)))⟩; have n4_ : Aside0 (Kd.V (Kd.int .u8) 5 w21 w.heap.size (fun k_ => ((P1_1_ k_ ∨ P1_2_ k_) ∨ w.heap.size ≤ k_) ∧ some k_ ≠ (.slice (some ad168) t164.length co13 : Value).ownBlock ∧ some k_ ≠ (u10 : Value).ownBlock ∧ some k_ ≠ (.slice (some ad168) t164.length co13 : Value).ownBlock ∧ k_ ≠ gb163 ∧ k_ ≠ gb169) (.slice A1_2 l1_2.length c1_2) l1_2) := ⟨(by rw [hw]; exact (by (with_reducible repeat (first | apply Kd.V_alloc | apply Kd.V_drewN | apply Kd.V_drew)); exact Kd.V_mono (Kd.V_far (p := ⟨gb169, 3, none⟩) (Kd.V_far (p := ⟨gb169, 2, none⟩) (Kd.V_far (p := ⟨gb169, 1, none⟩) (Kd.V_far (p := ⟨gb169, 0, none⟩) (Kd.V_mono HO_164002.out (fun k_ hk => (⟨hk, hk.2⟩ : _ ∧ k_ ≠ gb169))) (fun _ hk => hk.2) (.int .u64 ((rd_T26 t164 x37_2).f0))) (fun _ hk => hk.2) (.slice A168_1 ((rd_T26 t164 x37_2).f1).length c168_1)) (fun _ hk => hk.2) (.slice A168_2 ((rd_T26 t164 x37_2).f2).length c168_2)) (fun _ hk => hk.2) (.int .u64 ((rd_T26 t164 x37_2).f3))) (fun _ hk => ⟨hk.1.1.1, ⟨hk.1.1.2.1, ⟨hk.1.1.2.2.1, ⟨hk.1.1.2.2.2.1, ⟨hk.1.1.2.2.2.2, hk.1.2⟩⟩⟩⟩⟩)))⟩; have n5_ : Aside0 (Kd.V (Kd.int .u8) 5 w21 w.heap.size (fun k_ => ((P1_1_ k_ ∨ P1_2_ k_) ∨ w.heap.size ≤ k_) ∧ some k_ ≠ (u10 : Value).ownBlock ∧ some k_ ≠ (.slice (some ad168) t164.length co13 : Value).ownBlock ∧ k_ ≠ gb163 ∧ k_ ≠ gb169) (.slice A168_1 ((rd_T26 t164 x37_2).f1).length c168_1) ((rd_T26 t164 x37_2).f1)) := ⟨(by rw [hw]; exact (by (with_reducible repeat (first | apply Kd.V_alloc | apply Kd.V_drewN | apply Kd.V_drew)); exact Kd.V_mono (Kd.V_far (p := ⟨gb169, 3, none⟩) (Kd.V_far (p := ⟨gb169, 2, none⟩) (Kd.V_far (p := ⟨gb169, 1, none⟩) (Kd.V_far (p := ⟨gb169, 0, none⟩) (Kd.V_mono HL168_1.out (fun k_ hk => (⟨hk, hk.2⟩ : _ ∧ k_ ≠ gb169))) (fun _ hk => hk.2) (.int .u64 ((rd_T26 t164 x37_2).f0))) (fun _ hk => hk.2) (.slice A168_1 ((rd_T26 t164 x37_2).f1).length c168_1)) (fun _ hk => hk.2) (.slice A168_2 ((rd_T26 t164 x37_2).f2).length c168_2)) (fun _ hk => hk.2) (.int .u64 ((rd_T26 t164 x37_2).f3))) (fun _ hk => ⟨hk.1.1.1.1, ⟨hk.1.1.1.2.1, ⟨hk.1.1.2, ⟨hk.1.1.1.2.2, hk.1.2⟩⟩⟩⟩)))⟩; have n6_ : Aside0 (Kd.V (Kd.int .u8) 5 w21 w.heap.size (fun k_ => ((P1_1_ k_ ∨ P1_2_ k_) ∨ w.heap.size ≤ k_) ∧ some k_ ≠ (u10 : Value).ownBlock ∧ some k_ ≠ (.slice (some ad168) t164.length co13 : Value).ownBlock ∧ k_ ≠ gb163 ∧ k_ ≠ gb169) (.slice A168_2 ((rd_T26 t164 x37_2).f2).length c168_2) ((rd_T26 t164 x37_2).f2)) := ⟨(by rw [hw]; exact (by (with_reducible repeat (first | apply Kd.V_alloc | apply Kd.V_drewN | apply Kd.V_drew)); exact Kd.V_mono (Kd.V_far (p := ⟨gb169, 3, none⟩) (Kd.V_far (p := ⟨gb169, 2, none⟩) (Kd.V_far (p := ⟨gb169, 1, none⟩) (Kd.V_far (p := ⟨gb169, 0, none⟩) (Kd.V_mono HL168_2.out (fun k_ hk => (⟨hk, hk.2⟩ : _ ∧ k_ ≠ gb169))) (fun _ hk => hk.2) (.int .u64 ((rd_T26 t164 x37_2).f0))) (fun _ hk => hk.2) (.slice A168_1 ((rd_T26 t164 x37_2).f1).length c168_1)) (fun _ hk => hk.2) (.slice A168_2 ((rd_T26 t164 x37_2).f2).length c168_2)) (fun _ hk => hk.2) (.int .u64 ((rd_T26 t164 x37_2).f3))) (fun _ hk => ⟨hk.1.1.1.1, ⟨hk.1.1.1.2.1, ⟨hk.1.1.2, ⟨hk.1.1.1.2.2, hk.1.2⟩⟩⟩⟩)))⟩; have n7_ : Aside0 (w21.heap[gb163]? = some (.cells #[.int .u64 a1_0, .slice A1_1 l1_1.length c1_1, .slice A1_2 l1_2.length c1_2, .int .u64 a1_3] 26 (0, 0))) := ⟨(by rw [hw]; exact (blkF BK163))⟩; have n8_ : Aside0 (w21.heap[gb169]? = some (.cells #[.int .u64 ((rd_T26 t164 x37_2).f0), .slice A168_1 ((rd_T26 t164 x37_2).f1).length c168_1, .slice A168_2 ((rd_T26 t164 x37_2).f2).length c168_2, .int .u64 ((rd_T26 t164 x37_2).f3)] 26 (0, 0))) := ⟨(by rw [hw]; exact (by (with_reducible repeat (first | refine blk_drewN ?_ _ | refine blk_drew ?_ | refine blk_alloc ?_ _)); refine blk_put (cs := #[.int .u64 ((rd_T26 t164 x37_2).f0), .slice A168_1 ((rd_T26 t164 x37_2).f1).length c168_1, .slice A168_2 ((rd_T26 t164 x37_2).f2).length c168_2, .int .u64 0]) ?_ 3 _ rfl; refine blk_put (cs := #[.int .u64 ((rd_T26 t164 x37_2).f0), .slice A168_1 ((rd_T26 t164 x37_2).f1).length c168_1, .slice none 0 0, .int .u64 0]) ?_ 2 _ rfl; refine blk_put (cs := #[.int .u64 ((rd_T26 t164 x37_2).f0), .slice none 0 0, .slice none 0 0, .int .u64 0]) ?_ 1 _ rfl; refine blk_put (cs := #[.int .u64 0, .slice none 0 0, .slice none 0 0, .int .u64 0]) ?_ 0 _ rfl; (with_reducible repeat (first | refine blk_drewN ?_ _ | refine blk_drew ?_ | refine blk_alloc ?_ _)); exact BK169.out))⟩; have n9_ : Aside0 (Below w.heap.size w w21) := ⟨(by rw [hw]; exact (belN HB))⟩; clear hw; clear HO_8; clear HO_10; clear HO_35; clear HO_164001; clear HO_164002; clear HL168_1; clear HL168_2; clear BK163; clear BK169; clear HB; have HO_8 := n0_; have HO_10 := n1_; have HO_35 := n2_; have HO_164001 := n3_; have HO_164002 := n4_; have HL168_1 := n5_; have HL168_2 := n6_; have BK163 := n7_; have BK169 := n8_; have HB := n9_; clear n0_ n1_ n2_ n3_ n4_ n5_ n6_ n7_ n8_ n9_; obtain ⟨hcz22_0, hcz22_1, hcz22_2, hcz22_3, hfz22_0, hfz22_1, hfz22_2, hfz22_3⟩ := cz4_ (w := w21) BK169.out; obtain ⟨hcz23_0, hcz23_1, hcz23_2, hcz23_3, hfz23_0, hfz23_1, hfz23_2, hfz23_3⟩ := cz4_ (w := w21) BK163.out))
                    go_ret2
                    exact ⟨_, by first | rfl | (simp [errW_none, errW_some] <;> rfl) | (simp [*, errW_none, errW_some] <;> rfl), by first | exact Kd.S_nil _ _ _ _ _ | exact Kd.N_nil _ _ _ _ _ | exact Kd.V_nil _ _ _ _ _ | exact Kd.Q_nil _ _ _ _ _ | exact Kd.R_nil _ _ _ _ _, by repeat (first | (with_reducible first | exact HB.out | apply below_alloc | apply pw_below_drewN | apply below_drew1 | refine below_set ?_ GE163.out | refine below_set ?_ GE169.out) | exact HB.out)⟩
                  · rw [if_neg c17] at H
                    have c17b0 : (((rd_T26 t164 x37_2).f0) == a1_0) = false := beq_eq_false_iff_ne.mpr c17
                    have c17b1 : (((rd_T26 t164 x37_2).f0) != a1_0) = true := bne_iff_ne.mpr c17
                    by_cases c24 : ((rd_T26 t164 x37_2).f0) < a1_0
                    · rw [if_pos c24] at H
                      have c24b0 : decide (((rd_T26 t164 x37_2).f0) < a1_0) = true := decide_eq_true c24
                      clear c24
                      by_cases c25 : x10_2.length < 2199023255552
                      · rw [if_pos c25] at H
                        have LMc25 := Aside0.mk c25
                        clear c25
                        obtain ⟨y170, hy170⟩ : ∃ y_ : List (S26), y_ = (x10_2 ++ [(⟨(rd_T26 t164 x37_2).f0, (rd_T26 t164 x37_2).f1, (rd_T26 t164 x37_2).f2, (rd_T26 t164 x37_2).f3⟩ : S26)]) := ⟨_, rfl⟩
                        replace H : (damsonref14_Put.l0 k2 t164 y170 t164 (t164.length : Int) (wrap64 (x37_2 + 1)) a1_0 l1_1 l1_2 a1_3) = some (r1, r2) := by first | (rw [hy170]; with_reducible exact H) | (have H2_ := (Option.bind_some _ _).symm.trans H; rw [hy170]; with_reducible exact H2_) | (have H2_ := (Option.bind_some _ _).symm.trans H; with_reducible exact H2_) | with_reducible exact H | (rw [hy170]; exact H) | exact H
                        have Ny170 := Aside0.mk hy170
                        clear hy170
                        have H' := Aside0.mk H
                        clear H
                        have p168 : 0 ≤ (x37_2 : Int) := of_decide_eq_true (by first | (with_reducible assumption) | assumption)
                        have q168 : x37_2 < (t164.length : Int) := of_decide_eq_true (by first | (with_reducible assumption) | assumption)
                        obtain ⟨ad168, A168_1, c168_1, A168_2, c168_2, e168, hx168_0, hx168_1, hx168_2, hx168_3, hl168_1, hi168_1, hl168_2, hi168_2⟩ := at_T26 (Kd.N_reads' HO_35.out).2.2 x37_2 p168 q168
                        cases e168
                        obtain ⟨ce168, hce168, hMe168, hcc168⟩ := Kd.N_get HO_35.out z26 x37_2 p168 (by first | exact q168 | exact of_decide_eq_true (by first | (with_reducible assumption) | assumption) | (have e_ := (Kd.N_reads' HO_35.out).1; omega))
                        obtain ⟨ua168_1, uc168_1, ua168_2, uc168_2, rfl, ul168_1, ge168_1, ul168_2, ge168_2⟩ := k26_openF hMe168
                        have hv168_1 := hcc168 1 _ rfl
                        rw [add_field _ _ 1 (by omega)] at hv168_1
                        replace hv168_1 := Option.some.inj (hv168_1.symm.trans hx168_1)
                        injection hv168_1 with hva_ hvn_ hvc_
                        rw [hva_] at ge168_1
                        rw [hvc_] at ul168_1
                        have HL168_1 := Aside0.mk (show Kd.V (Kd.int .u8) 5 _ w.heap.size _ _ ((rd_T26 t164 x37_2).f1) from Kd.V_mk ul168_1 ge168_1)
                        clear hva_ hvn_ hvc_ ge168_1 ul168_1
                        have hv168_2 := hcc168 2 _ rfl
                        rw [add_field _ _ 2 (by omega)] at hv168_2
                        replace hv168_2 := Option.some.inj (hv168_2.symm.trans hx168_2)
                        injection hv168_2 with hva_ hvn_ hvc_
                        rw [hva_] at ge168_2
                        rw [hvc_] at ul168_2
                        have HL168_2 := Aside0.mk (show Kd.V (Kd.int .u8) 5 _ w.heap.size _ _ ((rd_T26 t164 x37_2).f2) from Kd.V_mk ul168_2 ge168_2)
                        clear hva_ hvn_ hvc_ ge168_2 ul168_2
                        clear hcc168 hce168
                        have HR168_1 := Aside0.mk hi168_1
                        have HC168_1 := Aside0.mk hl168_1
                        clear hi168_1 hl168_1
                        have HR168_2 := Aside0.mk hi168_2
                        have HC168_2 := Aside0.mk hl168_2
                        clear hi168_2 hl168_2
                        replace p168 := eq_true p168
                        replace q168 := eq_true q168
                        go_wp2_with (first | ((with_reducible refine gate_dst (N := 12) rfl ?_); (try (refine gate_guard (by rfl) ?_; dsimp only)); refine box_event ?hg (N := 12) ?hd (cs := #[.int .u64 0, .slice none 0 0, .slice none 0 0, .int .u64 0]) (t := 26) ?hr ?_; (case hd => rfl); (case hg => rfl); (case hr => first | (go_simp; done) | (go_simp; rfl)); intro gb169 hg w26 hbox hb; have n0_ := Aside0.mk (Kd.N_below (Kd.N_elderB (Kd.NN HO_8) gb169 (Nat.le_of_eq hg.symm)) hb); have n1_ := Aside0.mk (Kd.N_below (Kd.N_elderB (Kd.NN HO_10) gb169 (Nat.le_of_eq hg.symm)) hb); have n2_ := Aside0.mk (Kd.N_below (Kd.N_elderB (Kd.NN HO_35) gb169 (Nat.le_of_eq hg.symm)) hb); have n3_ := Aside0.mk (Kd.V_below (Kd.V_elderB (Kd.VN HO_164001) gb169 (Nat.le_of_eq hg.symm)) hb); have n4_ := Aside0.mk (Kd.V_below (Kd.V_elderB (Kd.VN HO_164002) gb169 (Nat.le_of_eq hg.symm)) hb); have n5_ := Aside0.mk (Kd.V_below (Kd.V_elderB (Kd.VN HL168_1) gb169 (Nat.le_of_eq hg.symm)) hb); have n6_ := Aside0.mk (Kd.V_below (Kd.V_elderB (Kd.VN HL168_2) gb169 (Nat.le_of_eq hg.symm)) hb); have n7_ := Aside0.mk (blk_below (g := gb163) (blkN BK163) hb); have n8_ := Aside0.mk (Kd.C_below (by repeat (first | (with_reducible exact HR168_1.out) | (with_reducible refine Kd.C_alloc ?_ _) | (with_reducible refine Kd.C_drewN ?_ _) | (with_reducible refine Kd.C_drew ?_) | exact HR168_1.out)) hb); have n9_ := Aside0.mk (Kd.C_below (by repeat (first | (with_reducible exact HR168_2.out) | (with_reducible refine Kd.C_alloc ?_ _) | (with_reducible refine Kd.C_drewN ?_ _) | (with_reducible refine Kd.C_drew ?_) | exact HR168_2.out)) hb); have n10_ := Aside0.mk (below_step (belN HB) hb); have n11_ := Aside0.mk (hbox); have n12_ := Aside0.mk ((by rw [hg]; exact (below_size (belN HB)) : w.heap.size ≤ gb169)); have n13_ := Aside0.mk ((by rw [hg]; exact (below_size (belN HB)) : w.heap.size ≤ gb169)); have n14_ := Aside0.mk ((by rw [hg]; exact Nat.ne_of_lt (blk_lt (g := gb163) (blkN BK163)) : gb163 ≠ gb169)); have n15_ := Aside0.mk ((by rw [hg]; exact Nat.ne_of_gt (blk_lt (g := gb163) (blkN BK163)) : gb169 ≠ gb163)); clear HO_8; clear HO_10; clear HO_35; clear HO_164001; clear HO_164002; clear HL168_1; clear HL168_2; clear BK163; clear HR168_1; clear HR168_2; clear HB; have HO_8 := n0_; have HO_10 := n1_; have HO_35 := n2_; have HO_164001 := n3_; have HO_164002 := n4_; have HL168_1 := n5_; have HL168_2 := n6_; have BK163 := n7_; have HR168_1 := n8_; have HR168_2 := n9_; have HB := n10_; have BK169 := n11_; have GW169 := n12_; have GE169 := n13_; have NB163_169 := n14_; have NB169_163 := n15_; clear n0_ n1_ n2_ n3_ n4_ n5_ n6_ n7_ n8_ n9_ n10_ n11_ n12_ n13_ n14_ n15_; clear hb hbox hg; have hnb27 := NB169_163.out; have hnc27 := NB163_169.out; obtain ⟨hcz28_0, hcz28_1, hcz28_2, hcz28_3, hfz28_0, hfz28_1, hfz28_2, hfz28_3⟩ := cz4_ (w := w26) BK169.out) | ((with_reducible refine gate_store (t := 26) (p := 12) rfl ?_); refine store_event (t := 26) (p := 12) (v := ?vo_w29) (w1 := ((((w26.setCell ⟨gb169, 0, none⟩ (.int .u64 ((rd_T26 t164 x37_2).f0))).setCell ⟨gb169, 1, none⟩ (.slice A168_1 ((rd_T26 t164 x37_2).f1).length c168_1)).setCell ⟨gb169, 2, none⟩ (.slice A168_2 ((rd_T26 t164 x37_2).f2).length c168_2)).setCell ⟨gb169, 3, none⟩ (.int .u64 ((rd_T26 t164 x37_2).f3)))) ?hg ?ho ?hn ?hr ?_; (case ho => rfl); (case hg => rfl); (case hn => rfl); (case hr => first | (go_simp; done) | (go_simp; rfl)); intro w29 hw; have n0_ : Aside0 (Kd.N k26 26 w29 w.heap.size (fun k_ => ((P1_1_ k_ ∨ P1_2_ k_) ∨ w.heap.size ≤ k_) ∧ some k_ ≠ (u10 : Value).ownBlock ∧ k_ ≠ gb163 ∧ k_ ≠ gb169) (.slice (some ad168) t164.length co13) t164) := ⟨(by rw [hw]; exact (by (with_reducible repeat (first | apply Kd.N_alloc | apply Kd.N_drewN | apply Kd.N_drew)); exact Kd.N_mono (Kd.N_far (p := ⟨gb169, 3, none⟩) (Kd.N_far (p := ⟨gb169, 2, none⟩) (Kd.N_far (p := ⟨gb169, 1, none⟩) (Kd.N_far (p := ⟨gb169, 0, none⟩) (Kd.N_mono HO_8.out (fun k_ hk => (⟨hk, hk.2⟩ : _ ∧ k_ ≠ gb169))) (fun _ hk => hk.2) (.int .u64 ((rd_T26 t164 x37_2).f0))) (fun _ hk => hk.2) (.slice A168_1 ((rd_T26 t164 x37_2).f1).length c168_1)) (fun _ hk => hk.2) (.slice A168_2 ((rd_T26 t164 x37_2).f2).length c168_2)) (fun _ hk => hk.2) (.int .u64 ((rd_T26 t164 x37_2).f3))) (fun _ hk => ⟨hk.1.1.1, ⟨hk.1.1.2.1, ⟨hk.1.1.2.2, hk.1.2⟩⟩⟩)))⟩; have n1_ : Aside0 (Kd.N k26 26 w29 w.heap.size (fun k_ => ((P1_1_ k_ ∨ P1_2_ k_) ∨ w.heap.size ≤ k_) ∧ some k_ ≠ (.slice (some ad168) t164.length co13 : Value).ownBlock ∧ k_ ≠ gb163 ∧ k_ ≠ gb169) u10 x10_2) := ⟨(by rw [hw]; exact (by (with_reducible repeat (first | apply Kd.N_alloc | apply Kd.N_drewN | apply Kd.N_drew)); exact Kd.N_mono (Kd.N_far (p := ⟨gb169, 3, none⟩) (Kd.N_far (p := ⟨gb169, 2, none⟩) (Kd.N_far (p := ⟨gb169, 1, none⟩) (Kd.N_far (p := ⟨gb169, 0, none⟩) (Kd.N_mono HO_10.out (fun k_ hk => (⟨hk, hk.2⟩ : _ ∧ k_ ≠ gb169))) (fun _ hk => hk.2) (.int .u64 ((rd_T26 t164 x37_2).f0))) (fun _ hk => hk.2) (.slice A168_1 ((rd_T26 t164 x37_2).f1).length c168_1)) (fun _ hk => hk.2) (.slice A168_2 ((rd_T26 t164 x37_2).f2).length c168_2)) (fun _ hk => hk.2) (.int .u64 ((rd_T26 t164 x37_2).f3))) (fun _ hk => ⟨hk.1.1.1, ⟨hk.1.1.2.1, ⟨hk.1.1.2.2, hk.1.2⟩⟩⟩)))⟩; have n2_ : Aside0 (Kd.N k26 26 w29 w.heap.size (fun k_ => ((P1_1_ k_ ∨ P1_2_ k_) ∨ w.heap.size ≤ k_) ∧ some k_ ≠ (u10 : Value).ownBlock ∧ k_ ≠ gb163 ∧ k_ ≠ gb169) (.slice (some ad168) t164.length co13) t164) := ⟨(by rw [hw]; exact (by (with_reducible repeat (first | apply Kd.N_alloc | apply Kd.N_drewN | apply Kd.N_drew)); exact Kd.N_mono (Kd.N_far (p := ⟨gb169, 3, none⟩) (Kd.N_far (p := ⟨gb169, 2, none⟩) (Kd.N_far (p := ⟨gb169, 1, none⟩) (Kd.N_far (p := ⟨gb169, 0, none⟩) (Kd.N_mono HO_35.out (fun k_ hk => (⟨hk, hk.2⟩ : _ ∧ k_ ≠ gb169))) (fun _ hk => hk.2) (.int .u64 ((rd_T26 t164 x37_2).f0))) (fun _ hk => hk.2) (.slice A168_1 ((rd_T26 t164 x37_2).f1).length c168_1)) (fun _ hk => hk.2) (.slice A168_2 ((rd_T26 t164 x37_2).f2).length c168_2)) (fun _ hk => hk.2) (.int .u64 ((rd_T26 t164 x37_2).f3))) (fun _ hk => ⟨hk.1.1.1, ⟨hk.1.1.2.1, ⟨hk.1.1.2.2, hk.1.2⟩⟩⟩)))⟩; have n3_ : Aside0 (Kd.V (Kd.int .u8) 5 w29 w.heap.size (fun k_ => ((P1_1_ k_ ∨ P1_2_ k_) ∨ w.heap.size ≤ k_) ∧ some k_ ≠ (.slice (some ad168) t164.length co13 : Value).ownBlock ∧ some k_ ≠ (u10 : Value).ownBlock ∧ some k_ ≠ (.slice (some ad168) t164.length co13 : Value).ownBlock ∧ k_ ≠ gb163 ∧ k_ ≠ gb169) (.slice A1_1 l1_1.length c1_1) l1_1) := ⟨(by rw [hw]; exact (by (with_reducible repeat (first | apply Kd.V_alloc | apply Kd.V_drewN | apply Kd.V_drew)); exact Kd.V_mono (Kd.V_far (p := ⟨gb169, 3, none⟩) (Kd.V_far (p := ⟨gb169, 2, none⟩) (Kd.V_far (p := ⟨gb169, 1, none⟩) (Kd.V_far (p := ⟨gb169, 0, none⟩) (Kd.V_mono HO_164001.out (fun k_ hk => (⟨hk, hk.2⟩ : _ ∧ k_ ≠ gb169))) (fun _ hk => hk.2) (.int .u64 ((rd_T26 t164 x37_2).f0))) (fun _ hk => hk.2) (.slice A168_1 ((rd_T26 t164 x37_2).f1).length c168_1)) (fun _ hk => hk.2) (.slice A168_2 ((rd_T26 t164 x37_2).f2).length c168_2)) (fun _ hk => hk.2) (.int .u64 ((rd_T26 t164 x37_2).f3))) (fun _ hk => ⟨hk.1.1.1, ⟨hk.1.1.2.1, ⟨hk.1.1.2.2.1, ⟨hk.1.1.2.2.2.1, ⟨hk.1.1.2.2.2.2, hk.1.2⟩⟩⟩⟩⟩)))⟩; have n4_ : Aside0 (Kd.V (Kd.int .u8) 5 w29 w.heap.size (fun k_ => ((P1_1_ k_ ∨ P1_2_ k_) ∨ w.heap.size ≤ k_) ∧ some k_ ≠ (.slice (some ad168) t164.length co13 : Value).ownBlock ∧ some k_ ≠ (u10 : Value).ownBlock ∧ some k_ ≠ (.slice (some ad168) t164.length co13 : Value).ownBlock ∧ k_ ≠ gb163 ∧ k_ ≠ gb169) (.slice A1_2 l1_2.length c1_2) l1_2) := ⟨(by rw [hw]; exact (by (with_reducible repeat (first | apply Kd.V_alloc | apply Kd.V_drewN | apply Kd.V_drew)); exact Kd.V_mono (Kd.V_far (p := ⟨gb169, 3, none⟩) (Kd.V_far (p := ⟨gb169, 2, none⟩) (Kd.V_far (p := ⟨gb169, 1, none⟩) (Kd.V_far (p := ⟨gb169, 0, none⟩) (Kd.V_mono HO_164002.out (fun k_ hk => (⟨hk, hk.2⟩ : _ ∧ k_ ≠ gb169))) (fun _ hk => hk.2) (.int .u64 ((rd_T26 t164 x37_2).f0))) (fun _ hk => hk.2) (.slice A168_1 ((rd_T26 t164 x37_2).f1).length c168_1)) (fun _ hk => hk.2) (.slice A168_2 ((rd_T26 t164 x37_2).f2).length c168_2)) (fun _ hk => hk.2) (.int .u64 ((rd_T26 t164 x37_2).f3))) (fun _ hk => ⟨hk.1.1.1, ⟨hk.1.1.2.1, ⟨hk.1.1.2.2.1, ⟨hk.1.1.2.2.2.1, ⟨hk.1.1.2.2.2.2, hk.1.2⟩⟩⟩⟩⟩)))⟩; have n5_ : Aside0 (Kd.V (Kd.int .u8) 5 w29 w.heap.size (fun k_ => ((P1_1_ k_ ∨ P1_2_ k_) ∨ w.heap.size ≤ k_) ∧ some k_ ≠ (u10 : Value).ownBlock ∧ some k_ ≠ (.slice (some ad168) t164.length co13 : Value).ownBlock ∧ k_ ≠ gb163 ∧ k_ ≠ gb169) (.slice A168_1 ((rd_T26 t164 x37_2).f1).length c168_1) ((rd_T26 t164 x37_2).f1)) := ⟨(by rw [hw]; exact (by (with_reducible repeat (first | apply Kd.V_alloc | apply Kd.V_drewN | apply Kd.V_drew)); exact Kd.V_mono (Kd.V_far (p := ⟨gb169, 3, none⟩) (Kd.V_far (p := ⟨gb169, 2, none⟩) (Kd.V_far (p := ⟨gb169, 1, none⟩) (Kd.V_far (p := ⟨gb169, 0, none⟩) (Kd.V_mono HL168_1.out (fun k_ hk => (⟨hk, hk.2⟩ : _ ∧ k_ ≠ gb169))) (fun _ hk => hk.2) (.int .u64 ((rd_T26 t164 x37_2).f0))) (fun _ hk => hk.2) (.slice A168_1 ((rd_T26 t164 x37_2).f1).length c168_1)) (fun _ hk => hk.2) (.slice A168_2 ((rd_T26 t164 x37_2).f2).length c168_2)) (fun _ hk => hk.2) (.int .u64 ((rd_T26 t164 x37_2).f3))) (fun _ hk => ⟨hk.1.1.1.1, ⟨hk.1.1.1.2.1, ⟨hk.1.1.2, ⟨hk.1.1.1.2.2, hk.1.2⟩⟩⟩⟩)))⟩; have n6_ : Aside0 (Kd.V (Kd.int .u8) 5 w29 w.heap.size (fun k_ => ((P1_1_ k_ ∨ P1_2_ k_) ∨ w.heap.size ≤ k_) ∧ some k_ ≠ (u10 : Value).ownBlock ∧ some k_ ≠ (.slice (some ad168) t164.length co13 : Value).ownBlock ∧ k_ ≠ gb163 ∧ k_ ≠ gb169) (.slice A168_2 ((rd_T26 t164 x37_2).f2).length c168_2) ((rd_T26 t164 x37_2).f2)) := ⟨(by rw [hw]; exact (by (with_reducible repeat (first | apply Kd.V_alloc | apply Kd.V_drewN | apply Kd.V_drew)); exact Kd.V_mono (Kd.V_far (p := ⟨gb169, 3, none⟩) (Kd.V_far (p := ⟨gb169, 2, none⟩) (Kd.V_far (p := ⟨gb169, 1, none⟩) (Kd.V_far (p := ⟨gb169, 0, none⟩) (Kd.V_mono HL168_2.out (fun k_ hk => (⟨hk, hk.2⟩ : _ ∧ k_ ≠ gb169))) (fun _ hk => hk.2) (.int .u64 ((rd_T26 t164 x37_2).f0))) (fun _ hk => hk.2) (.slice A168_1 ((rd_T26 t164 x37_2).f1).length c168_1)) (fun _ hk => hk.2) (.slice A168_2 ((rd_T26 t164 x37_2).f2).length c168_2)) (fun _ hk => hk.2) (.int .u64 ((rd_T26 t164 x37_2).f3))) (fun _ hk => ⟨hk.1.1.1.1, ⟨hk.1.1.1.2.1, ⟨hk.1.1.2, ⟨hk.1.1.1.2.2, hk.1.2⟩⟩⟩⟩)))⟩; have n7_ : Aside0 (w29.heap[gb163]? = some (.cells #[.int .u64 a1_0, .slice A1_1 l1_1.length c1_1, .slice A1_2 l1_2.length c1_2, .int .u64 a1_3] 26 (0, 0))) := ⟨(by rw [hw]; exact (blkF BK163))⟩; have n8_ : Aside0 (w29.heap[gb169]? = some (.cells #[.int .u64 ((rd_T26 t164 x37_2).f0), .slice A168_1 ((rd_T26 t164 x37_2).f1).length c168_1, .slice A168_2 ((rd_T26 t164 x37_2).f2).length c168_2, .int .u64 ((rd_T26 t164 x37_2).f3)] 26 (0, 0))) := ⟨(by rw [hw]; exact (by (with_reducible repeat (first | refine blk_drewN ?_ _ | refine blk_drew ?_ | refine blk_alloc ?_ _)); refine blk_put (cs := #[.int .u64 ((rd_T26 t164 x37_2).f0), .slice A168_1 ((rd_T26 t164 x37_2).f1).length c168_1, .slice A168_2 ((rd_T26 t164 x37_2).f2).length c168_2, .int .u64 0]) ?_ 3 _ rfl; refine blk_put (cs := #[.int .u64 ((rd_T26 t164 x37_2).f0), .slice A168_1 ((rd_T26 t164 x37_2).f1).length c168_1, .slice none 0 0, .int .u64 0]) ?_ 2 _ rfl; refine blk_put (cs := #[.int .u64 ((rd_T26 t164 x37_2).f0), .slice none 0 0, .slice none 0 0, .int .u64 0]) ?_ 1 _ rfl; refine blk_put (cs := #[.int .u64 0, .slice none 0 0, .slice none 0 0, .int .u64 0]) ?_ 0 _ rfl; (with_reducible repeat (first | refine blk_drewN ?_ _ | refine blk_drew ?_ | refine blk_alloc ?_ _)); exact BK169.out))⟩; have n9_ : Aside0 (Below w.heap.size w w29) := ⟨(by rw [hw]; exact (belN HB))⟩; clear hw; clear HO_8; clear HO_10; clear HO_35; clear HO_164001; clear HO_164002; clear HL168_1; clear HL168_2; clear BK163; clear BK169; clear HB; have HO_8 := n0_; have HO_10 := n1_; have HO_35 := n2_; have HO_164001 := n3_; have HO_164002 := n4_; have HL168_1 := n5_; have HL168_2 := n6_; have BK163 := n7_; have BK169 := n8_; have HB := n9_; clear n0_ n1_ n2_ n3_ n4_ n5_ n6_ n7_ n8_ n9_; obtain ⟨hcz30_0, hcz30_1, hcz30_2, hcz30_3, hfz30_0, hfz30_1, hfz30_2, hfz30_3⟩ := cz4_ (w := w29) BK169.out; obtain ⟨hcz31_0, hcz31_1, hcz31_2, hcz31_3, hfz31_0, hfz31_1, hfz31_2, hfz31_3⟩ := cz4_ (w := w29) BK163.out) | ((with_reducible refine gate_builtin (b := .append) (xs := #[.tmp 51, .tmp 53]) rfl ?_); (try (refine gate_guard (by rfl) ?_; dsimp only)); at_builtin; refine Kd.N_append k26 (w0 := w) w.heap.size rfl (.tmp 51) (.tmp 53) 22 26 (.agg #[(.int .u64 0), (.slice none 0 0), (.slice none 0 0), (.int .u64 0)]) 64 rfl Try.underlying22 info26 rfl (by decide) (by omega) u10 x10_2 (⟨(rd_T26 t164 x37_2).f0, (rd_T26 t164 x37_2).f1, (rd_T26 t164 x37_2).f2, (rd_T26 t164 x37_2).f3⟩ : S26) [.int .u64 ((rd_T26 t164 x37_2).f0), .slice A168_1 ((rd_T26 t164 x37_2).f1).length c168_1, .slice A168_2 ((rd_T26 t164 x37_2).f2).length c168_2, .int .u64 ((rd_T26 t164 x37_2).f3)] (fun k_ => ((P1_1_ k_ ∨ P1_2_ k_) ∨ w.heap.size ≤ k_) ∧ some k_ ≠ (.slice (some ad168) t164.length co13 : Value).ownBlock ∧ k_ ≠ gb163 ∧ k_ ≠ gb169) (fun k_ => ((fun k_ => ((P1_1_ k_ ∨ P1_2_ k_) ∨ w.heap.size ≤ k_) ∧ some k_ ≠ (.slice (some ad168) t164.length co13 : Value).ownBlock ∧ k_ ≠ gb163 ∧ k_ ≠ gb169)) k_ ∧ some k_ ≠ (u10 : Value).ownBlock) rfl rfl ?aP (fun _ hk => hk) ?aF ?aO ?aB ?aS ?aL ?_; (case aP => exact (k26_mkF _ _ (⟨(rd_T26 t164 x37_2).f0, (rd_T26 t164 x37_2).f1, (rd_T26 t164 x37_2).f2, (rd_T26 t164 x37_2).f3⟩ : S26) (Kd.V_reads' (Kd.V_mono (ok' := (fun k_ => ((fun k_ => ((P1_1_ k_ ∨ P1_2_ k_) ∨ w.heap.size ≤ k_) ∧ some k_ ≠ (.slice (some ad168) t164.length co13 : Value).ownBlock ∧ k_ ≠ gb163 ∧ k_ ≠ gb169)) k_ ∧ some k_ ≠ (u10 : Value).ownBlock)) (HL168_1.out) (fun k_ hk => ⟨⟨hk.1, ⟨hk.2.2.1, ⟨hk.2.2.2.1, hk.2.2.2.2⟩⟩⟩, hk.2.1⟩))).2.1 (Kd.V_F (Kd.V_mono (ok' := (fun k_ => ((fun k_ => ((P1_1_ k_ ∨ P1_2_ k_) ∨ w.heap.size ≤ k_) ∧ some k_ ≠ (.slice (some ad168) t164.length co13 : Value).ownBlock ∧ k_ ≠ gb163 ∧ k_ ≠ gb169)) k_ ∧ some k_ ≠ (u10 : Value).ownBlock)) (HL168_1.out) (fun k_ hk => ⟨⟨hk.1, ⟨hk.2.2.1, ⟨hk.2.2.2.1, hk.2.2.2.2⟩⟩⟩, hk.2.1⟩))) (Kd.V_reads' (Kd.V_mono (ok' := (fun k_ => ((fun k_ => ((P1_1_ k_ ∨ P1_2_ k_) ∨ w.heap.size ≤ k_) ∧ some k_ ≠ (.slice (some ad168) t164.length co13 : Value).ownBlock ∧ k_ ≠ gb163 ∧ k_ ≠ gb169)) k_ ∧ some k_ ≠ (u10 : Value).ownBlock)) (HL168_2.out) (fun k_ hk => ⟨⟨hk.1, ⟨hk.2.2.1, ⟨hk.2.2.2.1, hk.2.2.2.2⟩⟩⟩, hk.2.1⟩))).2.1 (Kd.V_F (Kd.V_mono (ok' := (fun k_ => ((fun k_ => ((P1_1_ k_ ∨ P1_2_ k_) ∨ w.heap.size ≤ k_) ∧ some k_ ≠ (.slice (some ad168) t164.length co13 : Value).ownBlock ∧ k_ ≠ gb163 ∧ k_ ≠ gb169)) k_ ∧ some k_ ≠ (u10 : Value).ownBlock)) (HL168_2.out) (fun k_ hk => ⟨⟨hk.1, ⟨hk.2.2.1, ⟨hk.2.2.2.1, hk.2.2.2.2⟩⟩⟩, hk.2.1⟩))))); (case aB => exact (belN HB)); (case aF => exact (fun k_ hk => ⟨(.inr (Nat.le_trans (below_size (belN HB)) hk)), Kd.fresh' (Kd.N_lt (Kd.NN HO_35)) k_ hk, Kd.freshB (g := gb163) (blkN BK163) k_ hk, Kd.freshB (g := gb169) (blkN BK169) k_ hk⟩)); (case aO => exact (Kd.NN HO_10)); (case aS => exact (below_size (belN HB))); (case aL => have := LMc25.out; omega); intro v171 w32 ho hb hg hat; rw [← Ny170.out] at ho; have n0_ := Aside0.mk (Kd.N_afterv (ok := (fun k_ => ((P1_1_ k_ ∨ P1_2_ k_) ∨ w.heap.size ≤ k_) ∧ k_ ≠ gb163 ∧ k_ ≠ gb169)) (by (with_reducible repeat (first | apply Kd.N_alloc | apply Kd.N_drewN | apply Kd.N_drew)); exact Kd.N_mono HO_8.out (fun _ hk => ⟨⟨hk.1, ⟨hk.2.2.1, hk.2.2.2⟩⟩, hk.2.1⟩)) hg hat); have n1_ := Aside0.mk (Kd.N_afterv (ok := (fun k_ => ((P1_1_ k_ ∨ P1_2_ k_) ∨ w.heap.size ≤ k_) ∧ k_ ≠ gb163 ∧ k_ ≠ gb169)) (by (with_reducible repeat (first | apply Kd.N_alloc | apply Kd.N_drewN | apply Kd.N_drew)); exact Kd.N_mono HO_35.out (fun _ hk => ⟨⟨hk.1, ⟨hk.2.2.1, hk.2.2.2⟩⟩, hk.2.1⟩)) hg hat); have n2_ := Aside0.mk (Kd.V_afterv (ok := (fun k_ => ((P1_1_ k_ ∨ P1_2_ k_) ∨ w.heap.size ≤ k_) ∧ some k_ ≠ (.slice (some ad168) t164.length co13 : Value).ownBlock ∧ some k_ ≠ (.slice (some ad168) t164.length co13 : Value).ownBlock ∧ k_ ≠ gb163 ∧ k_ ≠ gb169)) (by (with_reducible repeat (first | apply Kd.V_alloc | apply Kd.V_drewN | apply Kd.V_drew)); exact Kd.V_mono HO_164001.out (fun _ hk => ⟨⟨hk.1, ⟨hk.2.1, ⟨hk.2.2.2.1, ⟨hk.2.2.2.2.1, hk.2.2.2.2.2⟩⟩⟩⟩, hk.2.2.1⟩)) hg hat); have n3_ := Aside0.mk (Kd.V_afterv (ok := (fun k_ => ((P1_1_ k_ ∨ P1_2_ k_) ∨ w.heap.size ≤ k_) ∧ some k_ ≠ (.slice (some ad168) t164.length co13 : Value).ownBlock ∧ some k_ ≠ (.slice (some ad168) t164.length co13 : Value).ownBlock ∧ k_ ≠ gb163 ∧ k_ ≠ gb169)) (by (with_reducible repeat (first | apply Kd.V_alloc | apply Kd.V_drewN | apply Kd.V_drew)); exact Kd.V_mono HO_164002.out (fun _ hk => ⟨⟨hk.1, ⟨hk.2.1, ⟨hk.2.2.2.1, ⟨hk.2.2.2.2.1, hk.2.2.2.2.2⟩⟩⟩⟩, hk.2.2.1⟩)) hg hat); have n4_ := Aside0.mk (blk_grown (g := gb163) (blkN BK163) hg (Kd.N_away HO_10.out (fun _ hk => hk.2.2.1))); have n5_ := Aside0.mk (Kd.V_afterv (ok := (fun k_ => ((P1_1_ k_ ∨ P1_2_ k_) ∨ w.heap.size ≤ k_) ∧ some k_ ≠ (.slice (some ad168) t164.length co13 : Value).ownBlock ∧ k_ ≠ gb163 ∧ k_ ≠ gb169)) (by (with_reducible repeat (first | apply Kd.V_alloc | apply Kd.V_drewN | apply Kd.V_drew)); exact Kd.V_mono HL168_1.out (fun _ hk => ⟨⟨hk.1, ⟨hk.2.2.1, ⟨hk.2.2.2.1, hk.2.2.2.2⟩⟩⟩, hk.2.1⟩)) hg hat); have n6_ := Aside0.mk (Kd.V_afterv (ok := (fun k_ => ((P1_1_ k_ ∨ P1_2_ k_) ∨ w.heap.size ≤ k_) ∧ some k_ ≠ (.slice (some ad168) t164.length co13 : Value).ownBlock ∧ k_ ≠ gb163 ∧ k_ ≠ gb169)) (by (with_reducible repeat (first | apply Kd.V_alloc | apply Kd.V_drewN | apply Kd.V_drew)); exact Kd.V_mono HL168_2.out (fun _ hk => ⟨⟨hk.1, ⟨hk.2.2.1, ⟨hk.2.2.2.1, hk.2.2.2.2⟩⟩⟩, hk.2.1⟩)) hg hat); have n7_ := Aside0.mk (blk_grown (g := gb169) (blkN BK169) hg (Kd.N_away HO_10.out (fun _ hk => hk.2.2.2))); have n8_ := Aside0.mk (hb); have n9_ := Aside0.mk (ho); clear HO_8; clear HO_35; clear HO_164001; clear HO_164002; clear BK163; clear HL168_1; clear HL168_2; clear BK169; clear HB; clear HO_10; have HO_8 := n0_; have HO_35 := n1_; have HO_164001 := n2_; have HO_164002 := n3_; have BK163 := n4_; have HL168_1 := n5_; have HL168_2 := n6_; have BK169 := n7_; have HB := n8_; have HO172 := n9_; clear n0_ n1_ n2_ n3_ n4_ n5_ n6_ n7_ n8_ n9_; clear ho hb hg hat))
                        go_roundg k2
                        case measure => have := HJ4.out; have := HK2.out; omega
                        case rel => exact ⟨(y170), (wrap64 (x37_2 + 1)), (by first | rfl | (simp; done) | (simp [*]; done)), H', ⟨by have := HJ4.out; have := HK2.out; omega⟩, ⟨by (with_reducible repeat (first | apply Kd.N_alloc | apply Kd.N_drewN | apply Kd.N_drew)); exact Kd.N_mono HO_8.out (fun _ hk => ⟨hk.1.1, ⟨hk.2, hk.1.2.1⟩⟩)⟩, ⟨by (with_reducible repeat (first | apply Kd.N_alloc | apply Kd.N_drewN | apply Kd.N_drew)); exact Kd.N_mono HO172.out (fun _ hk => ⟨hk.1, ⟨hk.2.1, hk.2.2.1⟩⟩)⟩, ⟨by (with_reducible repeat (first | apply Kd.N_alloc | apply Kd.N_drewN | apply Kd.N_drew)); exact Kd.N_mono HO_35.out (fun _ hk => ⟨hk.1.1, ⟨hk.2, hk.1.2.1⟩⟩)⟩, ⟨by (with_reducible repeat (first | apply Kd.V_alloc | apply Kd.V_drewN | apply Kd.V_drew)); exact Kd.V_mono HO_164001.out (fun _ hk => ⟨hk.1.1, ⟨hk.1.2.1, ⟨hk.2, ⟨hk.1.2.2.1, hk.1.2.2.2.1⟩⟩⟩⟩)⟩, ⟨by (with_reducible repeat (first | apply Kd.V_alloc | apply Kd.V_drewN | apply Kd.V_drew)); exact Kd.V_mono HO_164002.out (fun _ hk => ⟨hk.1.1, ⟨hk.1.2.1, ⟨hk.2, ⟨hk.1.2.2.1, hk.1.2.2.2.1⟩⟩⟩⟩)⟩, ⟨by (with_reducible repeat (first | refine blk_drewN ?_ _ | refine blk_drew ?_ | refine blk_alloc ?_ _)); exact BK163.out⟩, ⟨by repeat (first | (with_reducible first | exact HB.out | apply below_alloc | apply pw_below_drewN | apply below_drew1 | refine below_set ?_ GE163.out | refine below_set ?_ GE169.out) | exact HB.out)⟩⟩
                      · rw [if_neg c25] at H
                        exact absurd H (by simp)
                    · rw [if_neg c24] at H
                      have c24b0 : decide (((rd_T26 t164 x37_2).f0) < a1_0) = false := decide_eq_false c24
                      clear c24
                      have H' := Aside0.mk H
                      clear H
                      have p168 : 0 ≤ (x37_2 : Int) := of_decide_eq_true (by first | (with_reducible assumption) | assumption)
                      have q168 : x37_2 < (t164.length : Int) := of_decide_eq_true (by first | (with_reducible assumption) | assumption)
                      obtain ⟨ad168, A168_1, c168_1, A168_2, c168_2, e168, hx168_0, hx168_1, hx168_2, hx168_3, hl168_1, hi168_1, hl168_2, hi168_2⟩ := at_T26 (Kd.N_reads' HO_35.out).2.2 x37_2 p168 q168
                      cases e168
                      obtain ⟨ce168, hce168, hMe168, hcc168⟩ := Kd.N_get HO_35.out z26 x37_2 p168 (by first | exact q168 | exact of_decide_eq_true (by first | (with_reducible assumption) | assumption) | (have e_ := (Kd.N_reads' HO_35.out).1; omega))
                      obtain ⟨ua168_1, uc168_1, ua168_2, uc168_2, rfl, ul168_1, ge168_1, ul168_2, ge168_2⟩ := k26_openF hMe168
                      have hv168_1 := hcc168 1 _ rfl
                      rw [add_field _ _ 1 (by omega)] at hv168_1
                      replace hv168_1 := Option.some.inj (hv168_1.symm.trans hx168_1)
                      injection hv168_1 with hva_ hvn_ hvc_
                      rw [hva_] at ge168_1
                      rw [hvc_] at ul168_1
                      have HL168_1 := Aside0.mk (show Kd.V (Kd.int .u8) 5 _ w.heap.size _ _ ((rd_T26 t164 x37_2).f1) from Kd.V_mk ul168_1 ge168_1)
                      clear hva_ hvn_ hvc_ ge168_1 ul168_1
                      have hv168_2 := hcc168 2 _ rfl
                      rw [add_field _ _ 2 (by omega)] at hv168_2
                      replace hv168_2 := Option.some.inj (hv168_2.symm.trans hx168_2)
                      injection hv168_2 with hva_ hvn_ hvc_
                      rw [hva_] at ge168_2
                      rw [hvc_] at ul168_2
                      have HL168_2 := Aside0.mk (show Kd.V (Kd.int .u8) 5 _ w.heap.size _ _ ((rd_T26 t164 x37_2).f2) from Kd.V_mk ul168_2 ge168_2)
                      clear hva_ hvn_ hvc_ ge168_2 ul168_2
                      clear hcc168 hce168
                      have HR168_1 := Aside0.mk hi168_1
                      have HC168_1 := Aside0.mk hl168_1
                      clear hi168_1 hl168_1
                      have HR168_2 := Aside0.mk hi168_2
                      have HC168_2 := Aside0.mk hl168_2
                      clear hi168_2 hl168_2
                      replace p168 := eq_true p168
                      replace q168 := eq_true q168
                      go_wp2_with (first | ((with_reducible refine gate_dst (N := 12) rfl ?_); (try (refine gate_guard (by rfl) ?_; dsimp only)); refine box_event ?hg (N := 12) ?hd (cs := #[.int .u64 0, .slice none 0 0, .slice none 0 0, .int .u64 0]) (t := 26) ?hr ?_; (case hd => rfl); (case hg => rfl); (case hr => first | (go_simp; done) | (go_simp; rfl)); intro gb169 hg w33 hbox hb; have n0_ := Aside0.mk (Kd.N_below (Kd.N_elderB (Kd.NN HO_8) gb169 (Nat.le_of_eq hg.symm)) hb); have n1_ := Aside0.mk (Kd.N_below (Kd.N_elderB (Kd.NN HO_10) gb169 (Nat.le_of_eq hg.symm)) hb); have n2_ := Aside0.mk (Kd.N_below (Kd.N_elderB (Kd.NN HO_35) gb169 (Nat.le_of_eq hg.symm)) hb); have n3_ := Aside0.mk (Kd.V_below (Kd.V_elderB (Kd.VN HO_164001) gb169 (Nat.le_of_eq hg.symm)) hb); have n4_ := Aside0.mk (Kd.V_below (Kd.V_elderB (Kd.VN HO_164002) gb169 (Nat.le_of_eq hg.symm)) hb); have n5_ := Aside0.mk (Kd.V_below (Kd.V_elderB (Kd.VN HL168_1) gb169 (Nat.le_of_eq hg.symm)) hb); have n6_ := Aside0.mk (Kd.V_below (Kd.V_elderB (Kd.VN HL168_2) gb169 (Nat.le_of_eq hg.symm)) hb); have n7_ := Aside0.mk (blk_below (g := gb163) (blkN BK163) hb); have n8_ := Aside0.mk (Kd.C_below (by repeat (first | (with_reducible exact HR168_1.out) | (with_reducible refine Kd.C_alloc ?_ _) | (with_reducible refine Kd.C_drewN ?_ _) | (with_reducible refine Kd.C_drew ?_) | exact HR168_1.out)) hb); have n9_ := Aside0.mk (Kd.C_below (by repeat (first | (with_reducible exact HR168_2.out) | (with_reducible refine Kd.C_alloc ?_ _) | (with_reducible refine Kd.C_drewN ?_ _) | (with_reducible refine Kd.C_drew ?_) | exact HR168_2.out)) hb); have n10_ := Aside0.mk (below_step (belN HB) hb); have n11_ := Aside0.mk (hbox); have n12_ := Aside0.mk ((by rw [hg]; exact (below_size (belN HB)) : w.heap.size ≤ gb169)); have n13_ := Aside0.mk ((by rw [hg]; exact (below_size (belN HB)) : w.heap.size ≤ gb169)); have n14_ := Aside0.mk ((by rw [hg]; exact Nat.ne_of_lt (blk_lt (g := gb163) (blkN BK163)) : gb163 ≠ gb169)); have n15_ := Aside0.mk ((by rw [hg]; exact Nat.ne_of_gt (blk_lt (g := gb163) (blkN BK163)) : gb169 ≠ gb163)); clear HO_8; clear HO_10; clear HO_35; clear HO_164001; clear HO_164002; clear HL168_1; clear HL168_2; clear BK163; clear HR168_1; clear HR168_2; clear HB; have HO_8 := n0_; have HO_10 := n1_; have HO_35 := n2_; have HO_164001 := n3_; have HO_164002 := n4_; have HL168_1 := n5_; have HL168_2 := n6_; have BK163 := n7_; have HR168_1 := n8_; have HR168_2 := n9_; have HB := n10_; have BK169 := n11_; have GW169 := n12_; have GE169 := n13_; have NB163_169 := n14_; have NB169_163 := n15_; clear n0_ n1_ n2_ n3_ n4_ n5_ n6_ n7_ n8_ n9_ n10_ n11_ n12_ n13_ n14_ n15_; clear hb hbox hg; have hnb34 := NB169_163.out; have hnc34 := NB163_169.out; obtain ⟨hcz35_0, hcz35_1, hcz35_2, hcz35_3, hfz35_0, hfz35_1, hfz35_2, hfz35_3⟩ := cz4_ (w := w33) BK169.out) | ((with_reducible refine gate_store (t := 26) (p := 12) rfl ?_); refine store_event (t := 26) (p := 12) (v := ?vo_w36) (w1 := ((((w33.setCell ⟨gb169, 0, none⟩ (.int .u64 ((rd_T26 t164 x37_2).f0))).setCell ⟨gb169, 1, none⟩ (.slice A168_1 ((rd_T26 t164 x37_2).f1).length c168_1)).setCell ⟨gb169, 2, none⟩ (.slice A168_2 ((rd_T26 t164 x37_2).f2).length c168_2)).setCell ⟨gb169, 3, none⟩ (.int .u64 ((rd_T26 t164 x37_2).f3)))) ?hg ?ho ?hn ?hr ?_; (case ho => rfl); (case hg => rfl); (case hn => rfl); (case hr => first | (go_simp; done) | (go_simp; rfl)); intro w36 hw; have n0_ : Aside0 (Kd.N k26 26 w36 w.heap.size (fun k_ => ((P1_1_ k_ ∨ P1_2_ k_) ∨ w.heap.size ≤ k_) ∧ some k_ ≠ (u10 : Value).ownBlock ∧ k_ ≠ gb163 ∧ k_ ≠ gb169) (.slice (some ad168) t164.length co13) t164) := ⟨(by rw [hw]; exact (by (with_reducible repeat (first | apply Kd.N_alloc | apply Kd.N_drewN | apply Kd.N_drew)); exact Kd.N_mono (Kd.N_far (p := ⟨gb169, 3, none⟩) (Kd.N_far (p := ⟨gb169, 2, none⟩) (Kd.N_far (p := ⟨gb169, 1, none⟩) (Kd.N_far (p := ⟨gb169, 0, none⟩) (Kd.N_mono HO_8.out (fun k_ hk => (⟨hk, hk.2⟩ : _ ∧ k_ ≠ gb169))) (fun _ hk => hk.2) (.int .u64 ((rd_T26 t164 x37_2).f0))) (fun _ hk => hk.2) (.slice A168_1 ((rd_T26 t164 x37_2).f1).length c168_1)) (fun _ hk => hk.2) (.slice A168_2 ((rd_T26 t164 x37_2).f2).length c168_2)) (fun _ hk => hk.2) (.int .u64 ((rd_T26 t164 x37_2).f3))) (fun _ hk => ⟨hk.1.1.1, ⟨hk.1.1.2.1, ⟨hk.1.1.2.2, hk.1.2⟩⟩⟩)))⟩; have n1_ : Aside0 (Kd.N k26 26 w36 w.heap.size (fun k_ => ((P1_1_ k_ ∨ P1_2_ k_) ∨ w.heap.size ≤ k_) ∧ some k_ ≠ (.slice (some ad168) t164.length co13 : Value).ownBlock ∧ k_ ≠ gb163 ∧ k_ ≠ gb169) u10 x10_2) := ⟨(by rw [hw]; exact (by (with_reducible repeat (first | apply Kd.N_alloc | apply Kd.N_drewN | apply Kd.N_drew)); exact Kd.N_mono (Kd.N_far (p := ⟨gb169, 3, none⟩) (Kd.N_far (p := ⟨gb169, 2, none⟩) (Kd.N_far (p := ⟨gb169, 1, none⟩) (Kd.N_far (p := ⟨gb169, 0, none⟩) (Kd.N_mono HO_10.out (fun k_ hk => (⟨hk, hk.2⟩ : _ ∧ k_ ≠ gb169))) (fun _ hk => hk.2) (.int .u64 ((rd_T26 t164 x37_2).f0))) (fun _ hk => hk.2) (.slice A168_1 ((rd_T26 t164 x37_2).f1).length c168_1)) (fun _ hk => hk.2) (.slice A168_2 ((rd_T26 t164 x37_2).f2).length c168_2)) (fun _ hk => hk.2) (.int .u64 ((rd_T26 t164 x37_2).f3))) (fun _ hk => ⟨hk.1.1.1, ⟨hk.1.1.2.1, ⟨hk.1.1.2.2, hk.1.2⟩⟩⟩)))⟩; have n2_ : Aside0 (Kd.N k26 26 w36 w.heap.size (fun k_ => ((P1_1_ k_ ∨ P1_2_ k_) ∨ w.heap.size ≤ k_) ∧ some k_ ≠ (u10 : Value).ownBlock ∧ k_ ≠ gb163 ∧ k_ ≠ gb169) (.slice (some ad168) t164.length co13) t164) := ⟨(by rw [hw]; exact (by (with_reducible repeat (first | apply Kd.N_alloc | apply Kd.N_drewN | apply Kd.N_drew)); exact Kd.N_mono (Kd.N_far (p := ⟨gb169, 3, none⟩) (Kd.N_far (p := ⟨gb169, 2, none⟩) (Kd.N_far (p := ⟨gb169, 1, none⟩) (Kd.N_far (p := ⟨gb169, 0, none⟩) (Kd.N_mono HO_35.out (fun k_ hk => (⟨hk, hk.2⟩ : _ ∧ k_ ≠ gb169))) (fun _ hk => hk.2) (.int .u64 ((rd_T26 t164 x37_2).f0))) (fun _ hk => hk.2) (.slice A168_1 ((rd_T26 t164 x37_2).f1).length c168_1)) (fun _ hk => hk.2) (.slice A168_2 ((rd_T26 t164 x37_2).f2).length c168_2)) (fun _ hk => hk.2) (.int .u64 ((rd_T26 t164 x37_2).f3))) (fun _ hk => ⟨hk.1.1.1, ⟨hk.1.1.2.1, ⟨hk.1.1.2.2, hk.1.2⟩⟩⟩)))⟩; have n3_ : Aside0 (Kd.V (Kd.int .u8) 5 w36 w.heap.size (fun k_ => ((P1_1_ k_ ∨ P1_2_ k_) ∨ w.heap.size ≤ k_) ∧ some k_ ≠ (.slice (some ad168) t164.length co13 : Value).ownBlock ∧ some k_ ≠ (u10 : Value).ownBlock ∧ some k_ ≠ (.slice (some ad168) t164.length co13 : Value).ownBlock ∧ k_ ≠ gb163 ∧ k_ ≠ gb169) (.slice A1_1 l1_1.length c1_1) l1_1) := ⟨(by rw [hw]; exact (by (with_reducible repeat (first | apply Kd.V_alloc | apply Kd.V_drewN | apply Kd.V_drew)); exact Kd.V_mono (Kd.V_far (p := ⟨gb169, 3, none⟩) (Kd.V_far (p := ⟨gb169, 2, none⟩) (Kd.V_far (p := ⟨gb169, 1, none⟩) (Kd.V_far (p := ⟨gb169, 0, none⟩) (Kd.V_mono HO_164001.out (fun k_ hk => (⟨hk, hk.2⟩ : _ ∧ k_ ≠ gb169))) (fun _ hk => hk.2) (.int .u64 ((rd_T26 t164 x37_2).f0))) (fun _ hk => hk.2) (.slice A168_1 ((rd_T26 t164 x37_2).f1).length c168_1)) (fun _ hk => hk.2) (.slice A168_2 ((rd_T26 t164 x37_2).f2).length c168_2)) (fun _ hk => hk.2) (.int .u64 ((rd_T26 t164 x37_2).f3))) (fun _ hk => ⟨hk.1.1.1, ⟨hk.1.1.2.1, ⟨hk.1.1.2.2.1, ⟨hk.1.1.2.2.2.1, ⟨hk.1.1.2.2.2.2, hk.1.2⟩⟩⟩⟩⟩)))⟩; have n4_ : Aside0 (Kd.V (Kd.int .u8) 5 w36 w.heap.size (fun k_ => ((P1_1_ k_ ∨ P1_2_ k_) ∨ w.heap.size ≤ k_) ∧ some k_ ≠ (.slice (some ad168) t164.length co13 : Value).ownBlock ∧ some k_ ≠ (u10 : Value).ownBlock ∧ some k_ ≠ (.slice (some ad168) t164.length co13 : Value).ownBlock ∧ k_ ≠ gb163 ∧ k_ ≠ gb169) (.slice A1_2 l1_2.length c1_2) l1_2) := ⟨(by rw [hw]; exact (by (with_reducible repeat (first | apply Kd.V_alloc | apply Kd.V_drewN | apply Kd.V_drew)); exact Kd.V_mono (Kd.V_far (p := ⟨gb169, 3, none⟩) (Kd.V_far (p := ⟨gb169, 2, none⟩) (Kd.V_far (p := ⟨gb169, 1, none⟩) (Kd.V_far (p := ⟨gb169, 0, none⟩) (Kd.V_mono HO_164002.out (fun k_ hk => (⟨hk, hk.2⟩ : _ ∧ k_ ≠ gb169))) (fun _ hk => hk.2) (.int .u64 ((rd_T26 t164 x37_2).f0))) (fun _ hk => hk.2) (.slice A168_1 ((rd_T26 t164 x37_2).f1).length c168_1)) (fun _ hk => hk.2) (.slice A168_2 ((rd_T26 t164 x37_2).f2).length c168_2)) (fun _ hk => hk.2) (.int .u64 ((rd_T26 t164 x37_2).f3))) (fun _ hk => ⟨hk.1.1.1, ⟨hk.1.1.2.1, ⟨hk.1.1.2.2.1, ⟨hk.1.1.2.2.2.1, ⟨hk.1.1.2.2.2.2, hk.1.2⟩⟩⟩⟩⟩)))⟩; have n5_ : Aside0 (Kd.V (Kd.int .u8) 5 w36 w.heap.size (fun k_ => ((P1_1_ k_ ∨ P1_2_ k_) ∨ w.heap.size ≤ k_) ∧ some k_ ≠ (u10 : Value).ownBlock ∧ some k_ ≠ (.slice (some ad168) t164.length co13 : Value).ownBlock ∧ k_ ≠ gb163 ∧ k_ ≠ gb169) (.slice A168_1 ((rd_T26 t164 x37_2).f1).length c168_1) ((rd_T26 t164 x37_2).f1)) := ⟨(by rw [hw]; exact (by (with_reducible repeat (first | apply Kd.V_alloc | apply Kd.V_drewN | apply Kd.V_drew)); exact Kd.V_mono (Kd.V_far (p := ⟨gb169, 3, none⟩) (Kd.V_far (p := ⟨gb169, 2, none⟩) (Kd.V_far (p := ⟨gb169, 1, none⟩) (Kd.V_far (p := ⟨gb169, 0, none⟩) (Kd.V_mono HL168_1.out (fun k_ hk => (⟨hk, hk.2⟩ : _ ∧ k_ ≠ gb169))) (fun _ hk => hk.2) (.int .u64 ((rd_T26 t164 x37_2).f0))) (fun _ hk => hk.2) (.slice A168_1 ((rd_T26 t164 x37_2).f1).length c168_1)) (fun _ hk => hk.2) (.slice A168_2 ((rd_T26 t164 x37_2).f2).length c168_2)) (fun _ hk => hk.2) (.int .u64 ((rd_T26 t164 x37_2).f3))) (fun _ hk => ⟨hk.1.1.1.1, ⟨hk.1.1.1.2.1, ⟨hk.1.1.2, ⟨hk.1.1.1.2.2, hk.1.2⟩⟩⟩⟩)))⟩; have n6_ : Aside0 (Kd.V (Kd.int .u8) 5 w36 w.heap.size (fun k_ => ((P1_1_ k_ ∨ P1_2_ k_) ∨ w.heap.size ≤ k_) ∧ some k_ ≠ (u10 : Value).ownBlock ∧ some k_ ≠ (.slice (some ad168) t164.length co13 : Value).ownBlock ∧ k_ ≠ gb163 ∧ k_ ≠ gb169) (.slice A168_2 ((rd_T26 t164 x37_2).f2).length c168_2) ((rd_T26 t164 x37_2).f2)) := ⟨(by rw [hw]; exact (by (with_reducible repeat (first | apply Kd.V_alloc | apply Kd.V_drewN | apply Kd.V_drew)); exact Kd.V_mono (Kd.V_far (p := ⟨gb169, 3, none⟩) (Kd.V_far (p := ⟨gb169, 2, none⟩) (Kd.V_far (p := ⟨gb169, 1, none⟩) (Kd.V_far (p := ⟨gb169, 0, none⟩) (Kd.V_mono HL168_2.out (fun k_ hk => (⟨hk, hk.2⟩ : _ ∧ k_ ≠ gb169))) (fun _ hk => hk.2) (.int .u64 ((rd_T26 t164 x37_2).f0))) (fun _ hk => hk.2) (.slice A168_1 ((rd_T26 t164 x37_2).f1).length c168_1)) (fun _ hk => hk.2) (.slice A168_2 ((rd_T26 t164 x37_2).f2).length c168_2)) (fun _ hk => hk.2) (.int .u64 ((rd_T26 t164 x37_2).f3))) (fun _ hk => ⟨hk.1.1.1.1, ⟨hk.1.1.1.2.1, ⟨hk.1.1.2, ⟨hk.1.1.1.2.2, hk.1.2⟩⟩⟩⟩)))⟩; have n7_ : Aside0 (w36.heap[gb163]? = some (.cells #[.int .u64 a1_0, .slice A1_1 l1_1.length c1_1, .slice A1_2 l1_2.length c1_2, .int .u64 a1_3] 26 (0, 0))) := ⟨(by rw [hw]; exact (blkF BK163))⟩; have n8_ : Aside0 (w36.heap[gb169]? = some (.cells #[.int .u64 ((rd_T26 t164 x37_2).f0), .slice A168_1 ((rd_T26 t164 x37_2).f1).length c168_1, .slice A168_2 ((rd_T26 t164 x37_2).f2).length c168_2, .int .u64 ((rd_T26 t164 x37_2).f3)] 26 (0, 0))) := ⟨(by rw [hw]; exact (by (with_reducible repeat (first | refine blk_drewN ?_ _ | refine blk_drew ?_ | refine blk_alloc ?_ _)); refine blk_put (cs := #[.int .u64 ((rd_T26 t164 x37_2).f0), .slice A168_1 ((rd_T26 t164 x37_2).f1).length c168_1, .slice A168_2 ((rd_T26 t164 x37_2).f2).length c168_2, .int .u64 0]) ?_ 3 _ rfl; refine blk_put (cs := #[.int .u64 ((rd_T26 t164 x37_2).f0), .slice A168_1 ((rd_T26 t164 x37_2).f1).length c168_1, .slice none 0 0, .int .u64 0]) ?_ 2 _ rfl; refine blk_put (cs := #[.int .u64 ((rd_T26 t164 x37_2).f0), .slice none 0 0, .slice none 0 0, .int .u64 0]) ?_ 1 _ rfl; refine blk_put (cs := #[.int .u64 0, .slice none 0 0, .slice none 0 0, .int .u64 0]) ?_ 0 _ rfl; (with_reducible repeat (first | refine blk_drewN ?_ _ | refine blk_drew ?_ | refine blk_alloc ?_ _)); exact BK169.out))⟩; have n9_ : Aside0 (Below w.heap.size w w36) := ⟨(by rw [hw]; exact (belN HB))⟩; clear hw; clear HO_8; clear HO_10; clear HO_35; clear HO_164001; clear HO_164002; clear HL168_1; clear HL168_2; clear BK163; clear BK169; clear HB; have HO_8 := n0_; have HO_10 := n1_; have HO_35 := n2_; have HO_164001 := n3_; have HO_164002 := n4_; have HL168_1 := n5_; have HL168_2 := n6_; have BK163 := n7_; have BK169 := n8_; have HB := n9_; clear n0_ n1_ n2_ n3_ n4_ n5_ n6_ n7_ n8_ n9_; obtain ⟨hcz37_0, hcz37_1, hcz37_2, hcz37_3, hfz37_0, hfz37_1, hfz37_2, hfz37_3⟩ := cz4_ (w := w36) BK169.out; obtain ⟨hcz38_0, hcz38_1, hcz38_2, hcz38_3, hfz38_0, hfz38_1, hfz38_2, hfz38_3⟩ := cz4_ (w := w36) BK163.out))
                      go_roundg k2
                      case measure => have := HJ4.out; have := HK2.out; omega
                      case rel => exact ⟨(x10_2), (wrap64 (x37_2 + 1)), (by first | rfl | (simp; done) | (simp [*]; done)), H', ⟨by have := HJ4.out; have := HK2.out; omega⟩, ⟨by (with_reducible repeat (first | apply Kd.N_alloc | apply Kd.N_drewN | apply Kd.N_drew)); exact Kd.N_mono HO_8.out (fun _ hk => ⟨hk.1, ⟨hk.2.1, hk.2.2.1⟩⟩)⟩, ⟨by (with_reducible repeat (first | apply Kd.N_alloc | apply Kd.N_drewN | apply Kd.N_drew)); exact Kd.N_mono HO_10.out (fun _ hk => ⟨hk.1, ⟨hk.2.1, hk.2.2.1⟩⟩)⟩, ⟨by (with_reducible repeat (first | apply Kd.N_alloc | apply Kd.N_drewN | apply Kd.N_drew)); exact Kd.N_mono HO_35.out (fun _ hk => ⟨hk.1, ⟨hk.2.1, hk.2.2.1⟩⟩)⟩, ⟨by (with_reducible repeat (first | apply Kd.V_alloc | apply Kd.V_drewN | apply Kd.V_drew)); exact Kd.V_mono HO_164001.out (fun _ hk => ⟨hk.1, ⟨hk.2.1, ⟨hk.2.2.1, ⟨hk.2.2.2.1, hk.2.2.2.2.1⟩⟩⟩⟩)⟩, ⟨by (with_reducible repeat (first | apply Kd.V_alloc | apply Kd.V_drewN | apply Kd.V_drew)); exact Kd.V_mono HO_164002.out (fun _ hk => ⟨hk.1, ⟨hk.2.1, ⟨hk.2.2.1, ⟨hk.2.2.2.1, hk.2.2.2.2.1⟩⟩⟩⟩)⟩, ⟨by (with_reducible repeat (first | refine blk_drewN ?_ _ | refine blk_drew ?_ | refine blk_alloc ?_ _)); exact BK163.out⟩, ⟨by repeat (first | (with_reducible first | exact HB.out | apply below_alloc | apply pw_below_drewN | apply below_drew1 | refine below_set ?_ GE163.out | refine below_set ?_ GE169.out) | exact HB.out)⟩⟩
                · rw [if_neg c16] at H
                  exact absurd H (by simp)
              · rw [if_neg c15] at H
                exact absurd H (by simp)
            · rw [if_neg c14] at H
              have c14b0 : decide (x37_2 < (t164.length : Int)) = false := decide_eq_false c14
              clear c14
              by_cases c39 : (t164.length : Int) = 128
              · rw [if_pos c39] at H
                have c39b0 : ((t164.length : Int) == 128) = true := beq_iff_eq.mpr c39
                have c39b1 : ((t164.length : Int) != 128) = false := bne_eq_false_iff_eq.mpr c39
                clear c39
                simp only [Option.some.injEq, Prod.mk.injEq] at H
                obtain ⟨rfl, rfl⟩ := H
                go_wp2
                go_ret2
                exact ⟨_, by first | rfl | (simp [errW_none, errW_some] <;> rfl) | (simp [*, errW_none, errW_some] <;> rfl), by first | exact Kd.S_nil _ _ _ _ _ | exact Kd.N_nil _ _ _ _ _ | exact Kd.V_nil _ _ _ _ _ | exact Kd.Q_nil _ _ _ _ _ | exact Kd.R_nil _ _ _ _ _, by repeat (first | (with_reducible first | exact HB.out | apply below_alloc | apply pw_below_drewN | apply below_drew1 | refine below_set ?_ GE163.out) | exact HB.out)⟩
              · rw [if_neg c39] at H
                have c39b0 : ((t164.length : Int) == 128) = false := beq_eq_false_iff_ne.mpr c39
                have c39b1 : ((t164.length : Int) != 128) = true := bne_iff_ne.mpr c39
                by_cases c40 : x10_2.length < 2199023255552
                · rw [if_pos c40] at H
                  have LMc40 := Aside0.mk c40
                  clear c40
                  obtain ⟨y173, hy173⟩ : ∃ y_ : List (S26), y_ = (x10_2 ++ [(⟨a1_0, l1_1, l1_2, a1_3⟩ : S26)]) := ⟨_, rfl⟩
                  replace H : (damsonref14_Put.l1 k2 y173 t164 (t164.length : Int) 0 a1_0 l1_1 l1_2 a1_3) = some (r1, r2) := by first | (rw [hy173]; with_reducible exact H) | (have H2_ := (Option.bind_some _ _).symm.trans H; rw [hy173]; with_reducible exact H2_) | (have H2_ := (Option.bind_some _ _).symm.trans H; with_reducible exact H2_) | with_reducible exact H | (rw [hy173]; exact H) | exact H
                  have Ny173 := Aside0.mk hy173
                  clear hy173
                  have H' := Aside0.mk H
                  clear H
                  obtain ⟨hcz41_0, hcz41_1, hcz41_2, hcz41_3, hfz41_0, hfz41_1, hfz41_2, hfz41_3⟩ := cz4_ (w := wr) BK163.out
                  go_wp2_with (first | ((with_reducible refine gate_builtin (b := .append) (xs := #[.tmp 59, .tmp 61]) rfl ?_); (try (refine gate_guard (by rfl) ?_; dsimp only)); at_builtin; refine Kd.N_append k26 (w0 := w) w.heap.size rfl (.tmp 59) (.tmp 61) 22 26 (.agg #[(.int .u64 0), (.slice none 0 0), (.slice none 0 0), (.int .u64 0)]) 64 rfl Try.underlying22 info26 rfl (by decide) (by omega) u10 x10_2 (⟨a1_0, l1_1, l1_2, a1_3⟩ : S26) [.int .u64 a1_0, .slice A1_1 l1_1.length c1_1, .slice A1_2 l1_2.length c1_2, .int .u64 a1_3] (fun k_ => ((P1_1_ k_ ∨ P1_2_ k_) ∨ w.heap.size ≤ k_) ∧ some k_ ≠ (.slice Ao13 t164.length co13 : Value).ownBlock ∧ k_ ≠ gb163) (fun k_ => ((fun k_ => ((P1_1_ k_ ∨ P1_2_ k_) ∨ w.heap.size ≤ k_) ∧ some k_ ≠ (.slice Ao13 t164.length co13 : Value).ownBlock ∧ k_ ≠ gb163)) k_ ∧ some k_ ≠ (u10 : Value).ownBlock) rfl rfl ?aP (fun _ hk => hk) ?aF ?aO ?aB ?aS ?aL ?_; (case aP => exact (k26_mkF _ _ (⟨a1_0, l1_1, l1_2, a1_3⟩ : S26) (Kd.V_reads' (Kd.V_mono (ok' := (fun k_ => ((fun k_ => ((P1_1_ k_ ∨ P1_2_ k_) ∨ w.heap.size ≤ k_) ∧ some k_ ≠ (.slice Ao13 t164.length co13 : Value).ownBlock ∧ k_ ≠ gb163)) k_ ∧ some k_ ≠ (u10 : Value).ownBlock)) (HO_164001.out) (fun k_ hk => ⟨⟨hk.1, ⟨hk.2.2.2.1, hk.2.2.2.2⟩⟩, hk.2.2.1⟩))).2.1 (Kd.V_F (Kd.V_mono (ok' := (fun k_ => ((fun k_ => ((P1_1_ k_ ∨ P1_2_ k_) ∨ w.heap.size ≤ k_) ∧ some k_ ≠ (.slice Ao13 t164.length co13 : Value).ownBlock ∧ k_ ≠ gb163)) k_ ∧ some k_ ≠ (u10 : Value).ownBlock)) (HO_164001.out) (fun k_ hk => ⟨⟨hk.1, ⟨hk.2.2.2.1, hk.2.2.2.2⟩⟩, hk.2.2.1⟩))) (Kd.V_reads' (Kd.V_mono (ok' := (fun k_ => ((fun k_ => ((P1_1_ k_ ∨ P1_2_ k_) ∨ w.heap.size ≤ k_) ∧ some k_ ≠ (.slice Ao13 t164.length co13 : Value).ownBlock ∧ k_ ≠ gb163)) k_ ∧ some k_ ≠ (u10 : Value).ownBlock)) (HO_164002.out) (fun k_ hk => ⟨⟨hk.1, ⟨hk.2.2.2.1, hk.2.2.2.2⟩⟩, hk.2.2.1⟩))).2.1 (Kd.V_F (Kd.V_mono (ok' := (fun k_ => ((fun k_ => ((P1_1_ k_ ∨ P1_2_ k_) ∨ w.heap.size ≤ k_) ∧ some k_ ≠ (.slice Ao13 t164.length co13 : Value).ownBlock ∧ k_ ≠ gb163)) k_ ∧ some k_ ≠ (u10 : Value).ownBlock)) (HO_164002.out) (fun k_ hk => ⟨⟨hk.1, ⟨hk.2.2.2.1, hk.2.2.2.2⟩⟩, hk.2.2.1⟩))))); (case aB => exact (belN HB)); (case aF => exact (fun k_ hk => ⟨(.inr (Nat.le_trans (below_size (belN HB)) hk)), Kd.fresh' (Kd.N_lt (Kd.NN HO_35)) k_ hk, Kd.freshB (g := gb163) (blkN BK163) k_ hk⟩)); (case aO => exact (Kd.NN HO_10)); (case aS => exact (below_size (belN HB))); (case aL => have := LMc40.out; omega); intro v174 w42 ho hb hg hat; rw [← Ny173.out] at ho; have n0_ := Aside0.mk (Kd.N_afterv (ok := (fun k_ => ((P1_1_ k_ ∨ P1_2_ k_) ∨ w.heap.size ≤ k_) ∧ k_ ≠ gb163)) (by (with_reducible repeat (first | apply Kd.N_alloc | apply Kd.N_drewN | apply Kd.N_drew)); exact Kd.N_mono HO_8.out (fun _ hk => ⟨⟨hk.1, hk.2.2⟩, hk.2.1⟩)) hg hat); have n1_ := Aside0.mk (Kd.N_afterv (ok := (fun k_ => ((P1_1_ k_ ∨ P1_2_ k_) ∨ w.heap.size ≤ k_) ∧ k_ ≠ gb163)) (by (with_reducible repeat (first | apply Kd.N_alloc | apply Kd.N_drewN | apply Kd.N_drew)); exact Kd.N_mono HO_35.out (fun _ hk => ⟨⟨hk.1, hk.2.2⟩, hk.2.1⟩)) hg hat); have n2_ := Aside0.mk (Kd.V_afterv (ok := (fun k_ => ((P1_1_ k_ ∨ P1_2_ k_) ∨ w.heap.size ≤ k_) ∧ some k_ ≠ (.slice Ao13 t164.length co13 : Value).ownBlock ∧ some k_ ≠ (.slice Ao13 t164.length co13 : Value).ownBlock ∧ k_ ≠ gb163)) (by (with_reducible repeat (first | apply Kd.V_alloc | apply Kd.V_drewN | apply Kd.V_drew)); exact Kd.V_mono HO_164001.out (fun _ hk => ⟨⟨hk.1, ⟨hk.2.1, ⟨hk.2.2.2.1, hk.2.2.2.2⟩⟩⟩, hk.2.2.1⟩)) hg hat); have n3_ := Aside0.mk (Kd.V_afterv (ok := (fun k_ => ((P1_1_ k_ ∨ P1_2_ k_) ∨ w.heap.size ≤ k_) ∧ some k_ ≠ (.slice Ao13 t164.length co13 : Value).ownBlock ∧ some k_ ≠ (.slice Ao13 t164.length co13 : Value).ownBlock ∧ k_ ≠ gb163)) (by (with_reducible repeat (first | apply Kd.V_alloc | apply Kd.V_drewN | apply Kd.V_drew)); exact Kd.V_mono HO_164002.out (fun _ hk => ⟨⟨hk.1, ⟨hk.2.1, ⟨hk.2.2.2.1, hk.2.2.2.2⟩⟩⟩, hk.2.2.1⟩)) hg hat); have n4_ := Aside0.mk (blk_grown (g := gb163) (blkN BK163) hg (Kd.N_away HO_10.out (fun _ hk => hk.2.2))); have n5_ := Aside0.mk (hb); have n6_ := Aside0.mk (ho); clear HO_8; clear HO_35; clear HO_164001; clear HO_164002; clear BK163; clear HB; clear HO_10; have HO_8 := n0_; have HO_35 := n1_; have HO_164001 := n2_; have HO_164002 := n3_; have BK163 := n4_; have HB := n5_; have HO175 := n6_; clear n0_ n1_ n2_ n3_ n4_ n5_ n6_; clear ho hb hg hat))
                  go_loopg [10, 65] k2 (fun kq v10 v65 w' => ∃ (x10_3 : List (S26)) (x65_3 : Int), v65 = .int .i64 x65_3 ∧ Aside0 (damsonref14_Put.l1 kq x10_3 t164 (t164.length : Int) x65_3 a1_0 l1_1 l1_2 a1_3 = some (r1, r2)) ∧ Aside0 (kq ≤ k2) ∧ Aside0 (Kd.N k26 26 w' w.heap.size (fun k_ => ((P1_1_ k_ ∨ P1_2_ k_) ∨ w.heap.size ≤ k_) ∧ k_ ≠ gb163) v10 x10_3) ∧ Aside0 (Kd.N k26 26 w' w.heap.size (fun k_ => ((P1_1_ k_ ∨ P1_2_ k_) ∨ w.heap.size ≤ k_) ∧ some k_ ≠ (v10 : Value).ownBlock ∧ k_ ≠ gb163) (.slice Ao13 t164.length co13) t164) ∧ Aside0 (Kd.V (Kd.int .u8) 5 w' w.heap.size (fun k_ => ((P1_1_ k_ ∨ P1_2_ k_) ∨ w.heap.size ≤ k_) ∧ some k_ ≠ (v10 : Value).ownBlock ∧ some k_ ≠ ((.slice Ao13 t164.length co13) : Value).ownBlock ∧ k_ ≠ gb163) (.slice A1_1 l1_1.length c1_1) l1_1) ∧ Aside0 (Kd.V (Kd.int .u8) 5 w' w.heap.size (fun k_ => ((P1_1_ k_ ∨ P1_2_ k_) ∨ w.heap.size ≤ k_) ∧ some k_ ≠ (v10 : Value).ownBlock ∧ some k_ ≠ ((.slice Ao13 t164.length co13) : Value).ownBlock ∧ k_ ≠ gb163) (.slice A1_2 l1_2.length c1_2) l1_2) ∧ Aside0 (w'.heap[gb163]? = some (.cells #[.int .u64 a1_0, (.slice A1_1 l1_1.length c1_1), (.slice A1_2 l1_2.length c1_2), .int .u64 a1_3] 26 (0, 0))) ∧ Aside0 (Below w.heap.size w w'))
                  case atStart => exact ⟨(y173), (0), (by first | rfl | (simp; done) | (simp [*]; done)), H', ⟨Nat.le_refl _⟩, ⟨by (with_reducible repeat (first | apply Kd.N_alloc | apply Kd.N_drewN | apply Kd.N_drew)); exact Kd.N_mono HO175.out (fun _ hk => ⟨hk.1, hk.2.2⟩)⟩, ⟨by (with_reducible repeat (first | apply Kd.N_alloc | apply Kd.N_drewN | apply Kd.N_drew)); exact Kd.N_mono HO_8.out (fun _ hk => ⟨hk.1.1, ⟨hk.2, hk.1.2⟩⟩)⟩, ⟨by (with_reducible repeat (first | apply Kd.V_alloc | apply Kd.V_drewN | apply Kd.V_drew)); exact Kd.V_mono HO_164001.out (fun _ hk => ⟨hk.1.1, ⟨hk.2, ⟨hk.1.2.1, hk.1.2.2.2⟩⟩⟩)⟩, ⟨by (with_reducible repeat (first | apply Kd.V_alloc | apply Kd.V_drewN | apply Kd.V_drew)); exact Kd.V_mono HO_164002.out (fun _ hk => ⟨hk.1.1, ⟨hk.2, ⟨hk.1.2.1, hk.1.2.2.2⟩⟩⟩)⟩, ⟨by (with_reducible repeat (first | refine blk_drewN ?_ _ | refine blk_drew ?_ | refine blk_alloc ?_ _)); exact BK163.out⟩, ⟨by repeat (first | (with_reducible first | exact HB.out | apply below_alloc | apply pw_below_drewN | apply below_drew1 | refine below_set ?_ GE163.out) | exact HB.out)⟩⟩
                  case round =>
                    clear H'
                    try clear c1
                    try clear p1
                    try clear q1
                    try clear hx1
                    try clear c2
                    try clear p2
                    try clear c3
                    try clear c4
                    try clear p6
                    try clear c8
                    try clear c8b0
                    try clear c8b1
                    try clear c9
                    try clear c9b0
                    try clear c9b1
                    try clear c12
                    try clear c14
                    try clear c14b0
                    try clear c15
                    try clear c15b0
                    try clear c16
                    try clear c16b0
                    try clear p16
                    try clear q16
                    try clear hx16
                    try clear c17
                    try clear c17b0
                    try clear c17b1
                    try clear c18
                    try clear c19
                    try clear c24
                    try clear c24b0
                    try clear c25
                    try clear c27
                    try clear c34
                    try clear c39
                    try clear c39b0
                    try clear c39b1
                    try clear c40
                    try clear hcz10_0
                    try clear hcz10_1
                    try clear hcz10_2
                    try clear hcz10_3
                    try clear hcz11_0
                    try clear hcz11_1
                    try clear hcz11_2
                    try clear hcz11_3
                    try clear hcz20_0
                    try clear hcz20_1
                    try clear hcz20_2
                    try clear hcz20_3
                    try clear hcz22_0
                    try clear hcz22_1
                    try clear hcz22_2
                    try clear hcz22_3
                    try clear hcz23_0
                    try clear hcz23_1
                    try clear hcz23_2
                    try clear hcz23_3
                    try clear hcz28_0
                    try clear hcz28_1
                    try clear hcz28_2
                    try clear hcz28_3
                    try clear hcz30_0
                    try clear hcz30_1
                    try clear hcz30_2
                    try clear hcz30_3
                    try clear hcz31_0
                    try clear hcz31_1
                    try clear hcz31_2
                    try clear hcz31_3
                    try clear hcz35_0
                    try clear hcz35_1
                    try clear hcz35_2
                    try clear hcz35_3
                    try clear hcz37_0
                    try clear hcz37_1
                    try clear hcz37_2
                    try clear hcz37_3
                    try clear hcz38_0
                    try clear hcz38_1
                    try clear hcz38_2
                    try clear hcz38_3
                    try clear hcz41_0
                    try clear hcz41_1
                    try clear hcz41_2
                    try clear hcz41_3
                    try clear hfz10_0
                    try clear hfz10_1
                    try clear hfz10_2
                    try clear hfz10_3
                    try clear hfz11_0
                    try clear hfz11_1
                    try clear hfz11_2
                    try clear hfz11_3
                    try clear hfz20_0
                    try clear hfz20_1
                    try clear hfz20_2
                    try clear hfz20_3
                    try clear hfz22_0
                    try clear hfz22_1
                    try clear hfz22_2
                    try clear hfz22_3
                    try clear hfz23_0
                    try clear hfz23_1
                    try clear hfz23_2
                    try clear hfz23_3
                    try clear hfz28_0
                    try clear hfz28_1
                    try clear hfz28_2
                    try clear hfz28_3
                    try clear hfz30_0
                    try clear hfz30_1
                    try clear hfz30_2
                    try clear hfz30_3
                    try clear hfz31_0
                    try clear hfz31_1
                    try clear hfz31_2
                    try clear hfz31_3
                    try clear hfz35_0
                    try clear hfz35_1
                    try clear hfz35_2
                    try clear hfz35_3
                    try clear hfz37_0
                    try clear hfz37_1
                    try clear hfz37_2
                    try clear hfz37_3
                    try clear hfz38_0
                    try clear hfz38_1
                    try clear hfz38_2
                    try clear hfz38_3
                    try clear hfz41_0
                    try clear hfz41_1
                    try clear hfz41_2
                    try clear hfz41_3
                    try clear hx168_0
                    try clear hx168_1
                    try clear hx168_2
                    try clear hx168_3
                    try clear p168
                    try clear p2
                    try clear q168
                    obtain ⟨x10_3, x65_3, rfl, HA, HK3, HO_10, HO_63, HO_164001, HO_164002, BK163, HB⟩ := hrel
                    cases gk with
                    | zero => exact absurd HA.out (by simp [damsonref14_Put.l1])
                    | succ k3 =>
                      have H := HA.out
                      clear HA
                      simp only [damsonref14_Put.l1] at H
                      by_cases c43 : x65_3 < (t164.length : Int)
                      · rw [if_pos c43] at H
                        have c43b0 : decide (x65_3 < (t164.length : Int)) = true := decide_eq_true c43
                        clear c43
                        by_cases c44 : 0 ≤ x65_3
                        · rw [if_pos c44] at H
                          have c44b0 : decide (0 ≤ x65_3) = true := decide_eq_true c44
                          clear c44
                          by_cases c45 : x65_3 < (t164.length : Int)
                          · rw [if_pos c45] at H
                            have c45b0 : decide (x65_3 < (t164.length : Int)) = true := decide_eq_true c45
                            clear c45
                            by_cases c46 : ((rd_T26 t164 x65_3).f0) > a1_0
                            · rw [if_pos c46] at H
                              have c46b0 : decide (a1_0 < ((rd_T26 t164 x65_3).f0)) = true := decide_eq_true c46
                              clear c46
                              by_cases c47 : x10_3.length < 2199023255552
                              · rw [if_pos c47] at H
                                have LMc47 := Aside0.mk c47
                                clear c47
                                obtain ⟨y178, hy178⟩ : ∃ y_ : List (S26), y_ = (x10_3 ++ [(⟨(rd_T26 t164 x65_3).f0, (rd_T26 t164 x65_3).f1, (rd_T26 t164 x65_3).f2, (rd_T26 t164 x65_3).f3⟩ : S26)]) := ⟨_, rfl⟩
                                replace H : (damsonref14_Put.l1 k3 y178 t164 (t164.length : Int) (wrap64 (x65_3 + 1)) a1_0 l1_1 l1_2 a1_3) = some (r1, r2) := by first | (rw [hy178]; with_reducible exact H) | (have H2_ := (Option.bind_some _ _).symm.trans H; rw [hy178]; with_reducible exact H2_) | (have H2_ := (Option.bind_some _ _).symm.trans H; with_reducible exact H2_) | with_reducible exact H | (rw [hy178]; exact H) | exact H
                                have Ny178 := Aside0.mk hy178
                                clear hy178
                                have H' := Aside0.mk H
                                clear H
                                have p176 : 0 ≤ (x65_3 : Int) := of_decide_eq_true (by first | (with_reducible assumption) | assumption)
                                have q176 : x65_3 < (t164.length : Int) := of_decide_eq_true (by first | (with_reducible assumption) | assumption)
                                obtain ⟨ad176, A176_1, c176_1, A176_2, c176_2, e176, hx176_0, hx176_1, hx176_2, hx176_3, hl176_1, hi176_1, hl176_2, hi176_2⟩ := at_T26 (Kd.N_reads' HO_63.out).2.2 x65_3 p176 q176
                                cases e176
                                obtain ⟨ce176, hce176, hMe176, hcc176⟩ := Kd.N_get HO_63.out z26 x65_3 p176 (by first | exact q176 | exact of_decide_eq_true (by first | (with_reducible assumption) | assumption) | (have e_ := (Kd.N_reads' HO_63.out).1; omega))
                                obtain ⟨ua176_1, uc176_1, ua176_2, uc176_2, rfl, ul176_1, ge176_1, ul176_2, ge176_2⟩ := k26_openF hMe176
                                have hv176_1 := hcc176 1 _ rfl
                                rw [add_field _ _ 1 (by omega)] at hv176_1
                                replace hv176_1 := Option.some.inj (hv176_1.symm.trans hx176_1)
                                injection hv176_1 with hva_ hvn_ hvc_
                                rw [hva_] at ge176_1
                                rw [hvc_] at ul176_1
                                have HL176_1 := Aside0.mk (show Kd.V (Kd.int .u8) 5 _ w.heap.size _ _ ((rd_T26 t164 x65_3).f1) from Kd.V_mk ul176_1 ge176_1)
                                clear hva_ hvn_ hvc_ ge176_1 ul176_1
                                have hv176_2 := hcc176 2 _ rfl
                                rw [add_field _ _ 2 (by omega)] at hv176_2
                                replace hv176_2 := Option.some.inj (hv176_2.symm.trans hx176_2)
                                injection hv176_2 with hva_ hvn_ hvc_
                                rw [hva_] at ge176_2
                                rw [hvc_] at ul176_2
                                have HL176_2 := Aside0.mk (show Kd.V (Kd.int .u8) 5 _ w.heap.size _ _ ((rd_T26 t164 x65_3).f2) from Kd.V_mk ul176_2 ge176_2)
                                clear hva_ hvn_ hvc_ ge176_2 ul176_2
                                clear hcc176 hce176
                                have HR176_1 := Aside0.mk hi176_1
                                have HC176_1 := Aside0.mk hl176_1
                                clear hi176_1 hl176_1
                                have HR176_2 := Aside0.mk hi176_2
                                have HC176_2 := Aside0.mk hl176_2
                                clear hi176_2 hl176_2
                                replace p176 := eq_true p176
                                replace q176 := eq_true q176
                                go_wp2_with (first | ((with_reducible refine gate_dst (N := 14) rfl ?_); (try (refine gate_guard (by rfl) ?_; dsimp only)); refine box_event ?hg (N := 14) ?hd (cs := #[.int .u64 0, .slice none 0 0, .slice none 0 0, .int .u64 0]) (t := 26) ?hr ?_; (case hd => rfl); (case hg => rfl); (case hr => first | (go_simp; done) | (go_simp; rfl)); intro gb177 hg w48 hbox hb; have n0_ := Aside0.mk (Kd.N_below (Kd.N_elderB (Kd.NN HO_10) gb177 (Nat.le_of_eq hg.symm)) hb); have n1_ := Aside0.mk (Kd.N_below (Kd.N_elderB (Kd.NN HO_63) gb177 (Nat.le_of_eq hg.symm)) hb); have n2_ := Aside0.mk (Kd.V_below (Kd.V_elderB (Kd.VN HO_164001) gb177 (Nat.le_of_eq hg.symm)) hb); have n3_ := Aside0.mk (Kd.V_below (Kd.V_elderB (Kd.VN HO_164002) gb177 (Nat.le_of_eq hg.symm)) hb); have n4_ := Aside0.mk (Kd.V_below (Kd.V_elderB (Kd.VN HL176_1) gb177 (Nat.le_of_eq hg.symm)) hb); have n5_ := Aside0.mk (Kd.V_below (Kd.V_elderB (Kd.VN HL176_2) gb177 (Nat.le_of_eq hg.symm)) hb); have n6_ := Aside0.mk (blk_below (g := gb163) (blkN BK163) hb); have n7_ := Aside0.mk (Kd.C_below (by repeat (first | (with_reducible exact HR176_1.out) | (with_reducible refine Kd.C_alloc ?_ _) | (with_reducible refine Kd.C_drewN ?_ _) | (with_reducible refine Kd.C_drew ?_) | exact HR176_1.out)) hb); have n8_ := Aside0.mk (Kd.C_below (by repeat (first | (with_reducible exact HR176_2.out) | (with_reducible refine Kd.C_alloc ?_ _) | (with_reducible refine Kd.C_drewN ?_ _) | (with_reducible refine Kd.C_drew ?_) | exact HR176_2.out)) hb); have n9_ := Aside0.mk (below_step (belN HB) hb); have n10_ := Aside0.mk (hbox); have n11_ := Aside0.mk ((by rw [hg]; exact (below_size (belN HB)) : w.heap.size ≤ gb177)); have n12_ := Aside0.mk ((by rw [hg]; exact (below_size (belN HB)) : w.heap.size ≤ gb177)); have n13_ := Aside0.mk ((by rw [hg]; exact Nat.ne_of_lt (blk_lt (g := gb163) (blkN BK163)) : gb163 ≠ gb177)); have n14_ := Aside0.mk ((by rw [hg]; exact Nat.ne_of_gt (blk_lt (g := gb163) (blkN BK163)) : gb177 ≠ gb163)); clear HO_10; clear HO_63; clear HO_164001; clear HO_164002; clear HL176_1; clear HL176_2; clear BK163; clear HR176_1; clear HR176_2; clear HB; have HO_10 := n0_; have HO_63 := n1_; have HO_164001 := n2_; have HO_164002 := n3_; have HL176_1 := n4_; have HL176_2 := n5_; have BK163 := n6_; have HR176_1 := n7_; have HR176_2 := n8_; have HB := n9_; have BK177 := n10_; have GW177 := n11_; have GE177 := n12_; have NB163_177 := n13_; have NB177_163 := n14_; clear n0_ n1_ n2_ n3_ n4_ n5_ n6_ n7_ n8_ n9_ n10_ n11_ n12_ n13_ n14_; clear hb hbox hg; have hnb49 := NB177_163.out; have hnc49 := NB163_177.out; obtain ⟨hcz50_0, hcz50_1, hcz50_2, hcz50_3, hfz50_0, hfz50_1, hfz50_2, hfz50_3⟩ := cz4_ (w := w48) BK177.out) | ((with_reducible refine gate_store (t := 26) (p := 14) rfl ?_); refine store_event (t := 26) (p := 14) (v := ?vo_w51) (w1 := ((((w48.setCell ⟨gb177, 0, none⟩ (.int .u64 ((rd_T26 t164 x65_3).f0))).setCell ⟨gb177, 1, none⟩ (.slice A176_1 ((rd_T26 t164 x65_3).f1).length c176_1)).setCell ⟨gb177, 2, none⟩ (.slice A176_2 ((rd_T26 t164 x65_3).f2).length c176_2)).setCell ⟨gb177, 3, none⟩ (.int .u64 ((rd_T26 t164 x65_3).f3)))) ?hg ?ho ?hn ?hr ?_; (case ho => rfl); (case hg => rfl); (case hn => rfl); (case hr => first | (go_simp; done) | (go_simp; rfl)); intro w51 hw; have n0_ : Aside0 (Kd.N k26 26 w51 w.heap.size (fun k_ => ((P1_1_ k_ ∨ P1_2_ k_) ∨ w.heap.size ≤ k_) ∧ k_ ≠ gb163 ∧ k_ ≠ gb177) u10 x10_3) := ⟨(by rw [hw]; exact (by (with_reducible repeat (first | apply Kd.N_alloc | apply Kd.N_drewN | apply Kd.N_drew)); exact Kd.N_mono (Kd.N_far (p := ⟨gb177, 3, none⟩) (Kd.N_far (p := ⟨gb177, 2, none⟩) (Kd.N_far (p := ⟨gb177, 1, none⟩) (Kd.N_far (p := ⟨gb177, 0, none⟩) (Kd.N_mono HO_10.out (fun k_ hk => (⟨hk, hk.2⟩ : _ ∧ k_ ≠ gb177))) (fun _ hk => hk.2) (.int .u64 ((rd_T26 t164 x65_3).f0))) (fun _ hk => hk.2) (.slice A176_1 ((rd_T26 t164 x65_3).f1).length c176_1)) (fun _ hk => hk.2) (.slice A176_2 ((rd_T26 t164 x65_3).f2).length c176_2)) (fun _ hk => hk.2) (.int .u64 ((rd_T26 t164 x65_3).f3))) (fun _ hk => ⟨hk.1.1.1, ⟨hk.1.1.2, hk.1.2⟩⟩)))⟩; have n1_ : Aside0 (Kd.N k26 26 w51 w.heap.size (fun k_ => ((P1_1_ k_ ∨ P1_2_ k_) ∨ w.heap.size ≤ k_) ∧ some k_ ≠ (u10 : Value).ownBlock ∧ k_ ≠ gb163 ∧ k_ ≠ gb177) (.slice (some ad176) t164.length co13) t164) := ⟨(by rw [hw]; exact (by (with_reducible repeat (first | apply Kd.N_alloc | apply Kd.N_drewN | apply Kd.N_drew)); exact Kd.N_mono (Kd.N_far (p := ⟨gb177, 3, none⟩) (Kd.N_far (p := ⟨gb177, 2, none⟩) (Kd.N_far (p := ⟨gb177, 1, none⟩) (Kd.N_far (p := ⟨gb177, 0, none⟩) (Kd.N_mono HO_63.out (fun k_ hk => (⟨hk, hk.2⟩ : _ ∧ k_ ≠ gb177))) (fun _ hk => hk.2) (.int .u64 ((rd_T26 t164 x65_3).f0))) (fun _ hk => hk.2) (.slice A176_1 ((rd_T26 t164 x65_3).f1).length c176_1)) (fun _ hk => hk.2) (.slice A176_2 ((rd_T26 t164 x65_3).f2).length c176_2)) (fun _ hk => hk.2) (.int .u64 ((rd_T26 t164 x65_3).f3))) (fun _ hk => ⟨hk.1.1.1, ⟨hk.1.1.2.1, ⟨hk.1.1.2.2, hk.1.2⟩⟩⟩)))⟩; have n2_ : Aside0 (Kd.V (Kd.int .u8) 5 w51 w.heap.size (fun k_ => ((P1_1_ k_ ∨ P1_2_ k_) ∨ w.heap.size ≤ k_) ∧ some k_ ≠ (u10 : Value).ownBlock ∧ some k_ ≠ (.slice (some ad176) t164.length co13 : Value).ownBlock ∧ k_ ≠ gb163 ∧ k_ ≠ gb177) (.slice A1_1 l1_1.length c1_1) l1_1) := ⟨(by rw [hw]; exact (by (with_reducible repeat (first | apply Kd.V_alloc | apply Kd.V_drewN | apply Kd.V_drew)); exact Kd.V_mono (Kd.V_far (p := ⟨gb177, 3, none⟩) (Kd.V_far (p := ⟨gb177, 2, none⟩) (Kd.V_far (p := ⟨gb177, 1, none⟩) (Kd.V_far (p := ⟨gb177, 0, none⟩) (Kd.V_mono HO_164001.out (fun k_ hk => (⟨hk, hk.2⟩ : _ ∧ k_ ≠ gb177))) (fun _ hk => hk.2) (.int .u64 ((rd_T26 t164 x65_3).f0))) (fun _ hk => hk.2) (.slice A176_1 ((rd_T26 t164 x65_3).f1).length c176_1)) (fun _ hk => hk.2) (.slice A176_2 ((rd_T26 t164 x65_3).f2).length c176_2)) (fun _ hk => hk.2) (.int .u64 ((rd_T26 t164 x65_3).f3))) (fun _ hk => ⟨hk.1.1.1, ⟨hk.1.1.2.1, ⟨hk.1.1.2.2.1, ⟨hk.1.1.2.2.2, hk.1.2⟩⟩⟩⟩)))⟩; have n3_ : Aside0 (Kd.V (Kd.int .u8) 5 w51 w.heap.size (fun k_ => ((P1_1_ k_ ∨ P1_2_ k_) ∨ w.heap.size ≤ k_) ∧ some k_ ≠ (u10 : Value).ownBlock ∧ some k_ ≠ (.slice (some ad176) t164.length co13 : Value).ownBlock ∧ k_ ≠ gb163 ∧ k_ ≠ gb177) (.slice A1_2 l1_2.length c1_2) l1_2) := ⟨(by rw [hw]; exact (by (with_reducible repeat (first | apply Kd.V_alloc | apply Kd.V_drewN | apply Kd.V_drew)); exact Kd.V_mono (Kd.V_far (p := ⟨gb177, 3, none⟩) (Kd.V_far (p := ⟨gb177, 2, none⟩) (Kd.V_far (p := ⟨gb177, 1, none⟩) (Kd.V_far (p := ⟨gb177, 0, none⟩) (Kd.V_mono HO_164002.out (fun k_ hk => (⟨hk, hk.2⟩ : _ ∧ k_ ≠ gb177))) (fun _ hk => hk.2) (.int .u64 ((rd_T26 t164 x65_3).f0))) (fun _ hk => hk.2) (.slice A176_1 ((rd_T26 t164 x65_3).f1).length c176_1)) (fun _ hk => hk.2) (.slice A176_2 ((rd_T26 t164 x65_3).f2).length c176_2)) (fun _ hk => hk.2) (.int .u64 ((rd_T26 t164 x65_3).f3))) (fun _ hk => ⟨hk.1.1.1, ⟨hk.1.1.2.1, ⟨hk.1.1.2.2.1, ⟨hk.1.1.2.2.2, hk.1.2⟩⟩⟩⟩)))⟩; have n4_ : Aside0 (Kd.V (Kd.int .u8) 5 w51 w.heap.size (fun k_ => ((P1_1_ k_ ∨ P1_2_ k_) ∨ w.heap.size ≤ k_) ∧ some k_ ≠ (u10 : Value).ownBlock ∧ some k_ ≠ (.slice (some ad176) t164.length co13 : Value).ownBlock ∧ k_ ≠ gb163 ∧ k_ ≠ gb177) (.slice A176_1 ((rd_T26 t164 x65_3).f1).length c176_1) ((rd_T26 t164 x65_3).f1)) := ⟨(by rw [hw]; exact (by (with_reducible repeat (first | apply Kd.V_alloc | apply Kd.V_drewN | apply Kd.V_drew)); exact Kd.V_mono (Kd.V_far (p := ⟨gb177, 3, none⟩) (Kd.V_far (p := ⟨gb177, 2, none⟩) (Kd.V_far (p := ⟨gb177, 1, none⟩) (Kd.V_far (p := ⟨gb177, 0, none⟩) (Kd.V_mono HL176_1.out (fun k_ hk => (⟨hk, hk.2⟩ : _ ∧ k_ ≠ gb177))) (fun _ hk => hk.2) (.int .u64 ((rd_T26 t164 x65_3).f0))) (fun _ hk => hk.2) (.slice A176_1 ((rd_T26 t164 x65_3).f1).length c176_1)) (fun _ hk => hk.2) (.slice A176_2 ((rd_T26 t164 x65_3).f2).length c176_2)) (fun _ hk => hk.2) (.int .u64 ((rd_T26 t164 x65_3).f3))) (fun _ hk => ⟨hk.1.1.1.1, ⟨hk.1.1.1.2.1, ⟨hk.1.1.2, ⟨hk.1.1.1.2.2, hk.1.2⟩⟩⟩⟩)))⟩; have n5_ : Aside0 (Kd.V (Kd.int .u8) 5 w51 w.heap.size (fun k_ => ((P1_1_ k_ ∨ P1_2_ k_) ∨ w.heap.size ≤ k_) ∧ some k_ ≠ (u10 : Value).ownBlock ∧ some k_ ≠ (.slice (some ad176) t164.length co13 : Value).ownBlock ∧ k_ ≠ gb163 ∧ k_ ≠ gb177) (.slice A176_2 ((rd_T26 t164 x65_3).f2).length c176_2) ((rd_T26 t164 x65_3).f2)) := ⟨(by rw [hw]; exact (by (with_reducible repeat (first | apply Kd.V_alloc | apply Kd.V_drewN | apply Kd.V_drew)); exact Kd.V_mono (Kd.V_far (p := ⟨gb177, 3, none⟩) (Kd.V_far (p := ⟨gb177, 2, none⟩) (Kd.V_far (p := ⟨gb177, 1, none⟩) (Kd.V_far (p := ⟨gb177, 0, none⟩) (Kd.V_mono HL176_2.out (fun k_ hk => (⟨hk, hk.2⟩ : _ ∧ k_ ≠ gb177))) (fun _ hk => hk.2) (.int .u64 ((rd_T26 t164 x65_3).f0))) (fun _ hk => hk.2) (.slice A176_1 ((rd_T26 t164 x65_3).f1).length c176_1)) (fun _ hk => hk.2) (.slice A176_2 ((rd_T26 t164 x65_3).f2).length c176_2)) (fun _ hk => hk.2) (.int .u64 ((rd_T26 t164 x65_3).f3))) (fun _ hk => ⟨hk.1.1.1.1, ⟨hk.1.1.1.2.1, ⟨hk.1.1.2, ⟨hk.1.1.1.2.2, hk.1.2⟩⟩⟩⟩)))⟩; have n6_ : Aside0 (w51.heap[gb163]? = some (.cells #[.int .u64 a1_0, .slice A1_1 l1_1.length c1_1, .slice A1_2 l1_2.length c1_2, .int .u64 a1_3] 26 (0, 0))) := ⟨(by rw [hw]; exact (blkF BK163))⟩; have n7_ : Aside0 (w51.heap[gb177]? = some (.cells #[.int .u64 ((rd_T26 t164 x65_3).f0), .slice A176_1 ((rd_T26 t164 x65_3).f1).length c176_1, .slice A176_2 ((rd_T26 t164 x65_3).f2).length c176_2, .int .u64 ((rd_T26 t164 x65_3).f3)] 26 (0, 0))) := ⟨(by rw [hw]; exact (by (with_reducible repeat (first | refine blk_drewN ?_ _ | refine blk_drew ?_ | refine blk_alloc ?_ _)); refine blk_put (cs := #[.int .u64 ((rd_T26 t164 x65_3).f0), .slice A176_1 ((rd_T26 t164 x65_3).f1).length c176_1, .slice A176_2 ((rd_T26 t164 x65_3).f2).length c176_2, .int .u64 0]) ?_ 3 _ rfl; refine blk_put (cs := #[.int .u64 ((rd_T26 t164 x65_3).f0), .slice A176_1 ((rd_T26 t164 x65_3).f1).length c176_1, .slice none 0 0, .int .u64 0]) ?_ 2 _ rfl; refine blk_put (cs := #[.int .u64 ((rd_T26 t164 x65_3).f0), .slice none 0 0, .slice none 0 0, .int .u64 0]) ?_ 1 _ rfl; refine blk_put (cs := #[.int .u64 0, .slice none 0 0, .slice none 0 0, .int .u64 0]) ?_ 0 _ rfl; (with_reducible repeat (first | refine blk_drewN ?_ _ | refine blk_drew ?_ | refine blk_alloc ?_ _)); exact BK177.out))⟩; have n8_ : Aside0 (Below w.heap.size w w51) := ⟨(by rw [hw]; exact (belN HB))⟩; clear hw; clear HO_10; clear HO_63; clear HO_164001; clear HO_164002; clear HL176_1; clear HL176_2; clear BK163; clear BK177; clear HB; have HO_10 := n0_; have HO_63 := n1_; have HO_164001 := n2_; have HO_164002 := n3_; have HL176_1 := n4_; have HL176_2 := n5_; have BK163 := n6_; have BK177 := n7_; have HB := n8_; clear n0_ n1_ n2_ n3_ n4_ n5_ n6_ n7_ n8_; obtain ⟨hcz52_0, hcz52_1, hcz52_2, hcz52_3, hfz52_0, hfz52_1, hfz52_2, hfz52_3⟩ := cz4_ (w := w51) BK177.out; obtain ⟨hcz53_0, hcz53_1, hcz53_2, hcz53_3, hfz53_0, hfz53_1, hfz53_2, hfz53_3⟩ := cz4_ (w := w51) BK163.out) | ((with_reducible refine gate_builtin (b := .append) (xs := #[.tmp 74, .tmp 76]) rfl ?_); (try (refine gate_guard (by rfl) ?_; dsimp only)); at_builtin; refine Kd.N_append k26 (w0 := w) w.heap.size rfl (.tmp 74) (.tmp 76) 22 26 (.agg #[(.int .u64 0), (.slice none 0 0), (.slice none 0 0), (.int .u64 0)]) 64 rfl Try.underlying22 info26 rfl (by decide) (by omega) u10 x10_3 (⟨(rd_T26 t164 x65_3).f0, (rd_T26 t164 x65_3).f1, (rd_T26 t164 x65_3).f2, (rd_T26 t164 x65_3).f3⟩ : S26) [.int .u64 ((rd_T26 t164 x65_3).f0), .slice A176_1 ((rd_T26 t164 x65_3).f1).length c176_1, .slice A176_2 ((rd_T26 t164 x65_3).f2).length c176_2, .int .u64 ((rd_T26 t164 x65_3).f3)] (fun k_ => ((P1_1_ k_ ∨ P1_2_ k_) ∨ w.heap.size ≤ k_) ∧ k_ ≠ gb163 ∧ k_ ≠ gb177) (fun k_ => ((fun k_ => ((P1_1_ k_ ∨ P1_2_ k_) ∨ w.heap.size ≤ k_) ∧ k_ ≠ gb163 ∧ k_ ≠ gb177)) k_ ∧ some k_ ≠ (u10 : Value).ownBlock) rfl rfl ?aP (fun _ hk => hk) ?aF ?aO ?aB ?aS ?aL ?_; (case aP => exact (k26_mkF _ _ (⟨(rd_T26 t164 x65_3).f0, (rd_T26 t164 x65_3).f1, (rd_T26 t164 x65_3).f2, (rd_T26 t164 x65_3).f3⟩ : S26) (Kd.V_reads' (Kd.V_mono (ok' := (fun k_ => ((fun k_ => ((P1_1_ k_ ∨ P1_2_ k_) ∨ w.heap.size ≤ k_) ∧ k_ ≠ gb163 ∧ k_ ≠ gb177)) k_ ∧ some k_ ≠ (u10 : Value).ownBlock)) (HL176_1.out) (fun k_ hk => ⟨⟨hk.1, ⟨hk.2.2.2.1, hk.2.2.2.2⟩⟩, hk.2.1⟩))).2.1 (Kd.V_F (Kd.V_mono (ok' := (fun k_ => ((fun k_ => ((P1_1_ k_ ∨ P1_2_ k_) ∨ w.heap.size ≤ k_) ∧ k_ ≠ gb163 ∧ k_ ≠ gb177)) k_ ∧ some k_ ≠ (u10 : Value).ownBlock)) (HL176_1.out) (fun k_ hk => ⟨⟨hk.1, ⟨hk.2.2.2.1, hk.2.2.2.2⟩⟩, hk.2.1⟩))) (Kd.V_reads' (Kd.V_mono (ok' := (fun k_ => ((fun k_ => ((P1_1_ k_ ∨ P1_2_ k_) ∨ w.heap.size ≤ k_) ∧ k_ ≠ gb163 ∧ k_ ≠ gb177)) k_ ∧ some k_ ≠ (u10 : Value).ownBlock)) (HL176_2.out) (fun k_ hk => ⟨⟨hk.1, ⟨hk.2.2.2.1, hk.2.2.2.2⟩⟩, hk.2.1⟩))).2.1 (Kd.V_F (Kd.V_mono (ok' := (fun k_ => ((fun k_ => ((P1_1_ k_ ∨ P1_2_ k_) ∨ w.heap.size ≤ k_) ∧ k_ ≠ gb163 ∧ k_ ≠ gb177)) k_ ∧ some k_ ≠ (u10 : Value).ownBlock)) (HL176_2.out) (fun k_ hk => ⟨⟨hk.1, ⟨hk.2.2.2.1, hk.2.2.2.2⟩⟩, hk.2.1⟩))))); (case aB => exact (belN HB)); (case aF => exact (fun k_ hk => ⟨(.inr (Nat.le_trans (below_size (belN HB)) hk)), Kd.freshB (g := gb163) (blkN BK163) k_ hk, Kd.freshB (g := gb177) (blkN BK177) k_ hk⟩)); (case aO => exact (Kd.NN HO_10)); (case aS => exact (below_size (belN HB))); (case aL => have := LMc47.out; omega); intro v179 w54 ho hb hg hat; rw [← Ny178.out] at ho; have n0_ := Aside0.mk (Kd.N_afterv (ok := (fun k_ => ((P1_1_ k_ ∨ P1_2_ k_) ∨ w.heap.size ≤ k_) ∧ k_ ≠ gb163 ∧ k_ ≠ gb177)) (by (with_reducible repeat (first | apply Kd.N_alloc | apply Kd.N_drewN | apply Kd.N_drew)); exact Kd.N_mono HO_63.out (fun _ hk => ⟨⟨hk.1, ⟨hk.2.2.1, hk.2.2.2⟩⟩, hk.2.1⟩)) hg hat); have n1_ := Aside0.mk (Kd.V_afterv (ok := (fun k_ => ((P1_1_ k_ ∨ P1_2_ k_) ∨ w.heap.size ≤ k_) ∧ some k_ ≠ (.slice (some ad176) t164.length co13 : Value).ownBlock ∧ k_ ≠ gb163 ∧ k_ ≠ gb177)) (by (with_reducible repeat (first | apply Kd.V_alloc | apply Kd.V_drewN | apply Kd.V_drew)); exact Kd.V_mono HO_164001.out (fun _ hk => ⟨⟨hk.1, ⟨hk.2.2.1, ⟨hk.2.2.2.1, hk.2.2.2.2⟩⟩⟩, hk.2.1⟩)) hg hat); have n2_ := Aside0.mk (Kd.V_afterv (ok := (fun k_ => ((P1_1_ k_ ∨ P1_2_ k_) ∨ w.heap.size ≤ k_) ∧ some k_ ≠ (.slice (some ad176) t164.length co13 : Value).ownBlock ∧ k_ ≠ gb163 ∧ k_ ≠ gb177)) (by (with_reducible repeat (first | apply Kd.V_alloc | apply Kd.V_drewN | apply Kd.V_drew)); exact Kd.V_mono HO_164002.out (fun _ hk => ⟨⟨hk.1, ⟨hk.2.2.1, ⟨hk.2.2.2.1, hk.2.2.2.2⟩⟩⟩, hk.2.1⟩)) hg hat); have n3_ := Aside0.mk (blk_grown (g := gb163) (blkN BK163) hg (Kd.N_away HO_10.out (fun _ hk => hk.2.1))); have n4_ := Aside0.mk (Kd.V_afterv (ok := (fun k_ => ((P1_1_ k_ ∨ P1_2_ k_) ∨ w.heap.size ≤ k_) ∧ some k_ ≠ (.slice (some ad176) t164.length co13 : Value).ownBlock ∧ k_ ≠ gb163 ∧ k_ ≠ gb177)) (by (with_reducible repeat (first | apply Kd.V_alloc | apply Kd.V_drewN | apply Kd.V_drew)); exact Kd.V_mono HL176_1.out (fun _ hk => ⟨⟨hk.1, ⟨hk.2.2.1, ⟨hk.2.2.2.1, hk.2.2.2.2⟩⟩⟩, hk.2.1⟩)) hg hat); have n5_ := Aside0.mk (Kd.V_afterv (ok := (fun k_ => ((P1_1_ k_ ∨ P1_2_ k_) ∨ w.heap.size ≤ k_) ∧ some k_ ≠ (.slice (some ad176) t164.length co13 : Value).ownBlock ∧ k_ ≠ gb163 ∧ k_ ≠ gb177)) (by (with_reducible repeat (first | apply Kd.V_alloc | apply Kd.V_drewN | apply Kd.V_drew)); exact Kd.V_mono HL176_2.out (fun _ hk => ⟨⟨hk.1, ⟨hk.2.2.1, ⟨hk.2.2.2.1, hk.2.2.2.2⟩⟩⟩, hk.2.1⟩)) hg hat); have n6_ := Aside0.mk (blk_grown (g := gb177) (blkN BK177) hg (Kd.N_away HO_10.out (fun _ hk => hk.2.2))); have n7_ := Aside0.mk (hb); have n8_ := Aside0.mk (ho); clear HO_63; clear HO_164001; clear HO_164002; clear BK163; clear HL176_1; clear HL176_2; clear BK177; clear HB; clear HO_10; have HO_63 := n0_; have HO_164001 := n1_; have HO_164002 := n2_; have BK163 := n3_; have HL176_1 := n4_; have HL176_2 := n5_; have BK177 := n6_; have HB := n7_; have HO180 := n8_; clear n0_ n1_ n2_ n3_ n4_ n5_ n6_ n7_ n8_; clear ho hb hg hat))
                                go_roundg k3
                                case measure => have := HJ4.out; have := HK2.out; have := HK3.out; omega
                                case rel => exact ⟨(y178), (wrap64 (x65_3 + 1)), (by first | rfl | (simp; done) | (simp [*]; done)), H', ⟨by have := HJ4.out; have := HK2.out; have := HK3.out; omega⟩, ⟨by (with_reducible repeat (first | apply Kd.N_alloc | apply Kd.N_drewN | apply Kd.N_drew)); exact Kd.N_mono HO180.out (fun _ hk => ⟨hk.1, hk.2.1⟩)⟩, ⟨by (with_reducible repeat (first | apply Kd.N_alloc | apply Kd.N_drewN | apply Kd.N_drew)); exact Kd.N_mono HO_63.out (fun _ hk => ⟨hk.1.1, ⟨hk.2, hk.1.2.1⟩⟩)⟩, ⟨by (with_reducible repeat (first | apply Kd.V_alloc | apply Kd.V_drewN | apply Kd.V_drew)); exact Kd.V_mono HO_164001.out (fun _ hk => ⟨hk.1.1, ⟨hk.2, ⟨hk.1.2.1, hk.1.2.2.1⟩⟩⟩)⟩, ⟨by (with_reducible repeat (first | apply Kd.V_alloc | apply Kd.V_drewN | apply Kd.V_drew)); exact Kd.V_mono HO_164002.out (fun _ hk => ⟨hk.1.1, ⟨hk.2, ⟨hk.1.2.1, hk.1.2.2.1⟩⟩⟩)⟩, ⟨by (with_reducible repeat (first | refine blk_drewN ?_ _ | refine blk_drew ?_ | refine blk_alloc ?_ _)); exact BK163.out⟩, ⟨by repeat (first | (with_reducible first | exact HB.out | apply below_alloc | apply pw_below_drewN | apply below_drew1 | refine below_set ?_ GE163.out | refine below_set ?_ GE177.out) | exact HB.out)⟩⟩
                              · rw [if_neg c47] at H
                                exact absurd H (by simp)
                            · rw [if_neg c46] at H
                              have c46b0 : decide (a1_0 < ((rd_T26 t164 x65_3).f0)) = false := decide_eq_false c46
                              clear c46
                              have H' := Aside0.mk H
                              clear H
                              have p176 : 0 ≤ (x65_3 : Int) := of_decide_eq_true (by first | (with_reducible assumption) | assumption)
                              have q176 : x65_3 < (t164.length : Int) := of_decide_eq_true (by first | (with_reducible assumption) | assumption)
                              obtain ⟨ad176, A176_1, c176_1, A176_2, c176_2, e176, hx176_0, hx176_1, hx176_2, hx176_3, hl176_1, hi176_1, hl176_2, hi176_2⟩ := at_T26 (Kd.N_reads' HO_63.out).2.2 x65_3 p176 q176
                              cases e176
                              obtain ⟨ce176, hce176, hMe176, hcc176⟩ := Kd.N_get HO_63.out z26 x65_3 p176 (by first | exact q176 | exact of_decide_eq_true (by first | (with_reducible assumption) | assumption) | (have e_ := (Kd.N_reads' HO_63.out).1; omega))
                              obtain ⟨ua176_1, uc176_1, ua176_2, uc176_2, rfl, ul176_1, ge176_1, ul176_2, ge176_2⟩ := k26_openF hMe176
                              have hv176_1 := hcc176 1 _ rfl
                              rw [add_field _ _ 1 (by omega)] at hv176_1
                              replace hv176_1 := Option.some.inj (hv176_1.symm.trans hx176_1)
                              injection hv176_1 with hva_ hvn_ hvc_
                              rw [hva_] at ge176_1
                              rw [hvc_] at ul176_1
                              have HL176_1 := Aside0.mk (show Kd.V (Kd.int .u8) 5 _ w.heap.size _ _ ((rd_T26 t164 x65_3).f1) from Kd.V_mk ul176_1 ge176_1)
                              clear hva_ hvn_ hvc_ ge176_1 ul176_1
                              have hv176_2 := hcc176 2 _ rfl
                              rw [add_field _ _ 2 (by omega)] at hv176_2
                              replace hv176_2 := Option.some.inj (hv176_2.symm.trans hx176_2)
                              injection hv176_2 with hva_ hvn_ hvc_
                              rw [hva_] at ge176_2
                              rw [hvc_] at ul176_2
                              have HL176_2 := Aside0.mk (show Kd.V (Kd.int .u8) 5 _ w.heap.size _ _ ((rd_T26 t164 x65_3).f2) from Kd.V_mk ul176_2 ge176_2)
                              clear hva_ hvn_ hvc_ ge176_2 ul176_2
                              clear hcc176 hce176
                              have HR176_1 := Aside0.mk hi176_1
                              have HC176_1 := Aside0.mk hl176_1
                              clear hi176_1 hl176_1
                              have HR176_2 := Aside0.mk hi176_2
                              have HC176_2 := Aside0.mk hl176_2
                              clear hi176_2 hl176_2
                              replace p176 := eq_true p176
                              replace q176 := eq_true q176
                              go_wp2_with (first | ((with_reducible refine gate_dst (N := 14) rfl ?_); (try (refine gate_guard (by rfl) ?_; dsimp only)); refine box_event ?hg (N := 14) ?hd (cs := #[.int .u64 0, .slice none 0 0, .slice none 0 0, .int .u64 0]) (t := 26) ?hr ?_; (case hd => rfl); (case hg => rfl); (case hr => first | (go_simp; done) | (go_simp; rfl)); intro gb177 hg w55 hbox hb; have n0_ := Aside0.mk (Kd.N_below (Kd.N_elderB (Kd.NN HO_10) gb177 (Nat.le_of_eq hg.symm)) hb); have n1_ := Aside0.mk (Kd.N_below (Kd.N_elderB (Kd.NN HO_63) gb177 (Nat.le_of_eq hg.symm)) hb); have n2_ := Aside0.mk (Kd.V_below (Kd.V_elderB (Kd.VN HO_164001) gb177 (Nat.le_of_eq hg.symm)) hb); have n3_ := Aside0.mk (Kd.V_below (Kd.V_elderB (Kd.VN HO_164002) gb177 (Nat.le_of_eq hg.symm)) hb); have n4_ := Aside0.mk (Kd.V_below (Kd.V_elderB (Kd.VN HL176_1) gb177 (Nat.le_of_eq hg.symm)) hb); have n5_ := Aside0.mk (Kd.V_below (Kd.V_elderB (Kd.VN HL176_2) gb177 (Nat.le_of_eq hg.symm)) hb); have n6_ := Aside0.mk (blk_below (g := gb163) (blkN BK163) hb); have n7_ := Aside0.mk (Kd.C_below (by repeat (first | (with_reducible exact HR176_1.out) | (with_reducible refine Kd.C_alloc ?_ _) | (with_reducible refine Kd.C_drewN ?_ _) | (with_reducible refine Kd.C_drew ?_) | exact HR176_1.out)) hb); have n8_ := Aside0.mk (Kd.C_below (by repeat (first | (with_reducible exact HR176_2.out) | (with_reducible refine Kd.C_alloc ?_ _) | (with_reducible refine Kd.C_drewN ?_ _) | (with_reducible refine Kd.C_drew ?_) | exact HR176_2.out)) hb); have n9_ := Aside0.mk (below_step (belN HB) hb); have n10_ := Aside0.mk (hbox); have n11_ := Aside0.mk ((by rw [hg]; exact (below_size (belN HB)) : w.heap.size ≤ gb177)); have n12_ := Aside0.mk ((by rw [hg]; exact (below_size (belN HB)) : w.heap.size ≤ gb177)); have n13_ := Aside0.mk ((by rw [hg]; exact Nat.ne_of_lt (blk_lt (g := gb163) (blkN BK163)) : gb163 ≠ gb177)); have n14_ := Aside0.mk ((by rw [hg]; exact Nat.ne_of_gt (blk_lt (g := gb163) (blkN BK163)) : gb177 ≠ gb163)); clear HO_10; clear HO_63; clear HO_164001; clear HO_164002; clear HL176_1; clear HL176_2; clear BK163; clear HR176_1; clear HR176_2; clear HB; have HO_10 := n0_; have HO_63 := n1_; have HO_164001 := n2_; have HO_164002 := n3_; have HL176_1 := n4_; have HL176_2 := n5_; have BK163 := n6_; have HR176_1 := n7_; have HR176_2 := n8_; have HB := n9_; have BK177 := n10_; have GW177 := n11_; have GE177 := n12_; have NB163_177 := n13_; have NB177_163 := n14_; clear n0_ n1_ n2_ n3_ n4_ n5_ n6_ n7_ n8_ n9_ n10_ n11_ n12_ n13_ n14_; clear hb hbox hg; have hnb56 := NB177_163.out; have hnc56 := NB163_177.out; obtain ⟨hcz57_0, hcz57_1, hcz57_2, hcz57_3, hfz57_0, hfz57_1, hfz57_2, hfz57_3⟩ := cz4_ (w := w55) BK177.out) | ((with_reducible refine gate_store (t := 26) (p := 14) rfl ?_); refine store_event (t := 26) (p := 14) (v := ?vo_w58) (w1 := ((((w55.setCell ⟨gb177, 0, none⟩ (.int .u64 ((rd_T26 t164 x65_3).f0))).setCell ⟨gb177, 1, none⟩ (.slice A176_1 ((rd_T26 t164 x65_3).f1).length c176_1)).setCell ⟨gb177, 2, none⟩ (.slice A176_2 ((rd_T26 t164 x65_3).f2).length c176_2)).setCell ⟨gb177, 3, none⟩ (.int .u64 ((rd_T26 t164 x65_3).f3)))) ?hg ?ho ?hn ?hr ?_; (case ho => rfl); (case hg => rfl); (case hn => rfl); (case hr => first | (go_simp; done) | (go_simp; rfl)); intro w58 hw; have n0_ : Aside0 (Kd.N k26 26 w58 w.heap.size (fun k_ => ((P1_1_ k_ ∨ P1_2_ k_) ∨ w.heap.size ≤ k_) ∧ k_ ≠ gb163 ∧ k_ ≠ gb177) u10 x10_3) := ⟨(by rw [hw]; exact (by (with_reducible repeat (first | apply Kd.N_alloc | apply Kd.N_drewN | apply Kd.N_drew)); exact Kd.N_mono (Kd.N_far (p := ⟨gb177, 3, none⟩) (Kd.N_far (p := ⟨gb177, 2, none⟩) (Kd.N_far (p := ⟨gb177, 1, none⟩) (Kd.N_far (p := ⟨gb177, 0, none⟩) (Kd.N_mono HO_10.out (fun k_ hk => (⟨hk, hk.2⟩ : _ ∧ k_ ≠ gb177))) (fun _ hk => hk.2) (.int .u64 ((rd_T26 t164 x65_3).f0))) (fun _ hk => hk.2) (.slice A176_1 ((rd_T26 t164 x65_3).f1).length c176_1)) (fun _ hk => hk.2) (.slice A176_2 ((rd_T26 t164 x65_3).f2).length c176_2)) (fun _ hk => hk.2) (.int .u64 ((rd_T26 t164 x65_3).f3))) (fun _ hk => ⟨hk.1.1.1, ⟨hk.1.1.2, hk.1.2⟩⟩)))⟩; have n1_ : Aside0 (Kd.N k26 26 w58 w.heap.size (fun k_ => ((P1_1_ k_ ∨ P1_2_ k_) ∨ w.heap.size ≤ k_) ∧ some k_ ≠ (u10 : Value).ownBlock ∧ k_ ≠ gb163 ∧ k_ ≠ gb177) (.slice (some ad176) t164.length co13) t164) := ⟨(by rw [hw]; exact (by (with_reducible repeat (first | apply Kd.N_alloc | apply Kd.N_drewN | apply Kd.N_drew)); exact Kd.N_mono (Kd.N_far (p := ⟨gb177, 3, none⟩) (Kd.N_far (p := ⟨gb177, 2, none⟩) (Kd.N_far (p := ⟨gb177, 1, none⟩) (Kd.N_far (p := ⟨gb177, 0, none⟩) (Kd.N_mono HO_63.out (fun k_ hk => (⟨hk, hk.2⟩ : _ ∧ k_ ≠ gb177))) (fun _ hk => hk.2) (.int .u64 ((rd_T26 t164 x65_3).f0))) (fun _ hk => hk.2) (.slice A176_1 ((rd_T26 t164 x65_3).f1).length c176_1)) (fun _ hk => hk.2) (.slice A176_2 ((rd_T26 t164 x65_3).f2).length c176_2)) (fun _ hk => hk.2) (.int .u64 ((rd_T26 t164 x65_3).f3))) (fun _ hk => ⟨hk.1.1.1, ⟨hk.1.1.2.1, ⟨hk.1.1.2.2, hk.1.2⟩⟩⟩)))⟩; have n2_ : Aside0 (Kd.V (Kd.int .u8) 5 w58 w.heap.size (fun k_ => ((P1_1_ k_ ∨ P1_2_ k_) ∨ w.heap.size ≤ k_) ∧ some k_ ≠ (u10 : Value).ownBlock ∧ some k_ ≠ (.slice (some ad176) t164.length co13 : Value).ownBlock ∧ k_ ≠ gb163 ∧ k_ ≠ gb177) (.slice A1_1 l1_1.length c1_1) l1_1) := ⟨(by rw [hw]; exact (by (with_reducible repeat (first | apply Kd.V_alloc | apply Kd.V_drewN | apply Kd.V_drew)); exact Kd.V_mono (Kd.V_far (p := ⟨gb177, 3, none⟩) (Kd.V_far (p := ⟨gb177, 2, none⟩) (Kd.V_far (p := ⟨gb177, 1, none⟩) (Kd.V_far (p := ⟨gb177, 0, none⟩) (Kd.V_mono HO_164001.out (fun k_ hk => (⟨hk, hk.2⟩ : _ ∧ k_ ≠ gb177))) (fun _ hk => hk.2) (.int .u64 ((rd_T26 t164 x65_3).f0))) (fun _ hk => hk.2) (.slice A176_1 ((rd_T26 t164 x65_3).f1).length c176_1)) (fun _ hk => hk.2) (.slice A176_2 ((rd_T26 t164 x65_3).f2).length c176_2)) (fun _ hk => hk.2) (.int .u64 ((rd_T26 t164 x65_3).f3))) (fun _ hk => ⟨hk.1.1.1, ⟨hk.1.1.2.1, ⟨hk.1.1.2.2.1, ⟨hk.1.1.2.2.2, hk.1.2⟩⟩⟩⟩)))⟩; have n3_ : Aside0 (Kd.V (Kd.int .u8) 5 w58 w.heap.size (fun k_ => ((P1_1_ k_ ∨ P1_2_ k_) ∨ w.heap.size ≤ k_) ∧ some k_ ≠ (u10 : Value).ownBlock ∧ some k_ ≠ (.slice (some ad176) t164.length co13 : Value).ownBlock ∧ k_ ≠ gb163 ∧ k_ ≠ gb177) (.slice A1_2 l1_2.length c1_2) l1_2) := ⟨(by rw [hw]; exact (by (with_reducible repeat (first | apply Kd.V_alloc | apply Kd.V_drewN | apply Kd.V_drew)); exact Kd.V_mono (Kd.V_far (p := ⟨gb177, 3, none⟩) (Kd.V_far (p := ⟨gb177, 2, none⟩) (Kd.V_far (p := ⟨gb177, 1, none⟩) (Kd.V_far (p := ⟨gb177, 0, none⟩) (Kd.V_mono HO_164002.out (fun k_ hk => (⟨hk, hk.2⟩ : _ ∧ k_ ≠ gb177))) (fun _ hk => hk.2) (.int .u64 ((rd_T26 t164 x65_3).f0))) (fun _ hk => hk.2) (.slice A176_1 ((rd_T26 t164 x65_3).f1).length c176_1)) (fun _ hk => hk.2) (.slice A176_2 ((rd_T26 t164 x65_3).f2).length c176_2)) (fun _ hk => hk.2) (.int .u64 ((rd_T26 t164 x65_3).f3))) (fun _ hk => ⟨hk.1.1.1, ⟨hk.1.1.2.1, ⟨hk.1.1.2.2.1, ⟨hk.1.1.2.2.2, hk.1.2⟩⟩⟩⟩)))⟩; have n4_ : Aside0 (Kd.V (Kd.int .u8) 5 w58 w.heap.size (fun k_ => ((P1_1_ k_ ∨ P1_2_ k_) ∨ w.heap.size ≤ k_) ∧ some k_ ≠ (u10 : Value).ownBlock ∧ some k_ ≠ (.slice (some ad176) t164.length co13 : Value).ownBlock ∧ k_ ≠ gb163 ∧ k_ ≠ gb177) (.slice A176_1 ((rd_T26 t164 x65_3).f1).length c176_1) ((rd_T26 t164 x65_3).f1)) := ⟨(by rw [hw]; exact (by (with_reducible repeat (first | apply Kd.V_alloc | apply Kd.V_drewN | apply Kd.V_drew)); exact Kd.V_mono (Kd.V_far (p := ⟨gb177, 3, none⟩) (Kd.V_far (p := ⟨gb177, 2, none⟩) (Kd.V_far (p := ⟨gb177, 1, none⟩) (Kd.V_far (p := ⟨gb177, 0, none⟩) (Kd.V_mono HL176_1.out (fun k_ hk => (⟨hk, hk.2⟩ : _ ∧ k_ ≠ gb177))) (fun _ hk => hk.2) (.int .u64 ((rd_T26 t164 x65_3).f0))) (fun _ hk => hk.2) (.slice A176_1 ((rd_T26 t164 x65_3).f1).length c176_1)) (fun _ hk => hk.2) (.slice A176_2 ((rd_T26 t164 x65_3).f2).length c176_2)) (fun _ hk => hk.2) (.int .u64 ((rd_T26 t164 x65_3).f3))) (fun _ hk => ⟨hk.1.1.1.1, ⟨hk.1.1.1.2.1, ⟨hk.1.1.2, ⟨hk.1.1.1.2.2, hk.1.2⟩⟩⟩⟩)))⟩; have n5_ : Aside0 (Kd.V (Kd.int .u8) 5 w58 w.heap.size (fun k_ => ((P1_1_ k_ ∨ P1_2_ k_) ∨ w.heap.size ≤ k_) ∧ some k_ ≠ (u10 : Value).ownBlock ∧ some k_ ≠ (.slice (some ad176) t164.length co13 : Value).ownBlock ∧ k_ ≠ gb163 ∧ k_ ≠ gb177) (.slice A176_2 ((rd_T26 t164 x65_3).f2).length c176_2) ((rd_T26 t164 x65_3).f2)) := ⟨(by rw [hw]; exact (by (with_reducible repeat (first | apply Kd.V_alloc | apply Kd.V_drewN | apply Kd.V_drew)); exact Kd.V_mono (Kd.V_far (p := ⟨gb177, 3, none⟩) (Kd.V_far (p := ⟨gb177, 2, none⟩) (Kd.V_far (p := ⟨gb177, 1, none⟩) (Kd.V_far (p := ⟨gb177, 0, none⟩) (Kd.V_mono HL176_2.out (fun k_ hk => (⟨hk, hk.2⟩ : _ ∧ k_ ≠ gb177))) (fun _ hk => hk.2) (.int .u64 ((rd_T26 t164 x65_3).f0))) (fun _ hk => hk.2) (.slice A176_1 ((rd_T26 t164 x65_3).f1).length c176_1)) (fun _ hk => hk.2) (.slice A176_2 ((rd_T26 t164 x65_3).f2).length c176_2)) (fun _ hk => hk.2) (.int .u64 ((rd_T26 t164 x65_3).f3))) (fun _ hk => ⟨hk.1.1.1.1, ⟨hk.1.1.1.2.1, ⟨hk.1.1.2, ⟨hk.1.1.1.2.2, hk.1.2⟩⟩⟩⟩)))⟩; have n6_ : Aside0 (w58.heap[gb163]? = some (.cells #[.int .u64 a1_0, .slice A1_1 l1_1.length c1_1, .slice A1_2 l1_2.length c1_2, .int .u64 a1_3] 26 (0, 0))) := ⟨(by rw [hw]; exact (blkF BK163))⟩; have n7_ : Aside0 (w58.heap[gb177]? = some (.cells #[.int .u64 ((rd_T26 t164 x65_3).f0), .slice A176_1 ((rd_T26 t164 x65_3).f1).length c176_1, .slice A176_2 ((rd_T26 t164 x65_3).f2).length c176_2, .int .u64 ((rd_T26 t164 x65_3).f3)] 26 (0, 0))) := ⟨(by rw [hw]; exact (by (with_reducible repeat (first | refine blk_drewN ?_ _ | refine blk_drew ?_ | refine blk_alloc ?_ _)); refine blk_put (cs := #[.int .u64 ((rd_T26 t164 x65_3).f0), .slice A176_1 ((rd_T26 t164 x65_3).f1).length c176_1, .slice A176_2 ((rd_T26 t164 x65_3).f2).length c176_2, .int .u64 0]) ?_ 3 _ rfl; refine blk_put (cs := #[.int .u64 ((rd_T26 t164 x65_3).f0), .slice A176_1 ((rd_T26 t164 x65_3).f1).length c176_1, .slice none 0 0, .int .u64 0]) ?_ 2 _ rfl; refine blk_put (cs := #[.int .u64 ((rd_T26 t164 x65_3).f0), .slice none 0 0, .slice none 0 0, .int .u64 0]) ?_ 1 _ rfl; refine blk_put (cs := #[.int .u64 0, .slice none 0 0, .slice none 0 0, .int .u64 0]) ?_ 0 _ rfl; (with_reducible repeat (first | refine blk_drewN ?_ _ | refine blk_drew ?_ | refine blk_alloc ?_ _)); exact BK177.out))⟩; have n8_ : Aside0 (Below w.heap.size w w58) := ⟨(by rw [hw]; exact (belN HB))⟩; clear hw; clear HO_10; clear HO_63; clear HO_164001; clear HO_164002; clear HL176_1; clear HL176_2; clear BK163; clear BK177; clear HB; have HO_10 := n0_; have HO_63 := n1_; have HO_164001 := n2_; have HO_164002 := n3_; have HL176_1 := n4_; have HL176_2 := n5_; have BK163 := n6_; have BK177 := n7_; have HB := n8_; clear n0_ n1_ n2_ n3_ n4_ n5_ n6_ n7_ n8_; obtain ⟨hcz59_0, hcz59_1, hcz59_2, hcz59_3, hfz59_0, hfz59_1, hfz59_2, hfz59_3⟩ := cz4_ (w := w58) BK177.out; obtain ⟨hcz60_0, hcz60_1, hcz60_2, hcz60_3, hfz60_0, hfz60_1, hfz60_2, hfz60_3⟩ := cz4_ (w := w58) BK163.out))
                              go_roundg k3
                              case measure => have := HJ4.out; have := HK2.out; have := HK3.out; omega
                              case rel => exact ⟨(x10_3), (wrap64 (x65_3 + 1)), (by first | rfl | (simp; done) | (simp [*]; done)), H', ⟨by have := HJ4.out; have := HK2.out; have := HK3.out; omega⟩, ⟨by (with_reducible repeat (first | apply Kd.N_alloc | apply Kd.N_drewN | apply Kd.N_drew)); exact Kd.N_mono HO_10.out (fun _ hk => ⟨hk.1, hk.2.1⟩)⟩, ⟨by (with_reducible repeat (first | apply Kd.N_alloc | apply Kd.N_drewN | apply Kd.N_drew)); exact Kd.N_mono HO_63.out (fun _ hk => ⟨hk.1, ⟨hk.2.1, hk.2.2.1⟩⟩)⟩, ⟨by (with_reducible repeat (first | apply Kd.V_alloc | apply Kd.V_drewN | apply Kd.V_drew)); exact Kd.V_mono HO_164001.out (fun _ hk => ⟨hk.1, ⟨hk.2.1, ⟨hk.2.2.1, hk.2.2.2.1⟩⟩⟩)⟩, ⟨by (with_reducible repeat (first | apply Kd.V_alloc | apply Kd.V_drewN | apply Kd.V_drew)); exact Kd.V_mono HO_164002.out (fun _ hk => ⟨hk.1, ⟨hk.2.1, ⟨hk.2.2.1, hk.2.2.2.1⟩⟩⟩)⟩, ⟨by (with_reducible repeat (first | refine blk_drewN ?_ _ | refine blk_drew ?_ | refine blk_alloc ?_ _)); exact BK163.out⟩, ⟨by repeat (first | (with_reducible first | exact HB.out | apply below_alloc | apply pw_below_drewN | apply below_drew1 | refine below_set ?_ GE163.out | refine below_set ?_ GE177.out) | exact HB.out)⟩⟩
                          · rw [if_neg c45] at H
                            exact absurd H (by simp)
                        · rw [if_neg c44] at H
                          exact absurd H (by simp)
                      · rw [if_neg c43] at H
                        have c43b0 : decide (x65_3 < (t164.length : Int)) = false := decide_eq_false c43
                        clear c43
                        replace H := Option.bind_eq_some_iff.mp H
                        obtain ⟨t181, A610, H⟩ := H
                        replace H : (some (t181, 0)) = some (r1, r2) := H
                        have A61 := Aside0.mk A610
                        clear A610
                        simp only [Option.some.injEq, Prod.mk.injEq] at H
                        obtain ⟨rfl, rfl⟩ := H
                        obtain ⟨Ao62, co62, eo62⟩ := Kd.N_slice HO_10.out
                        subst eo62
                        go_wp2_with (first | ((with_reducible refine gate_callee (f := 15) rfl ?_); refine goesL_ (some 80) rfl rfl Try.func15 (by kernel_rfl) rfl #[.slice Ao62 x10_3.length co62] rfl (by (try simp only [List.map_toArray, List.map_cons, List.map_nil]); first | done | rfl | (simp only [List.length_drop, List.length_take]; rfl)) ?_; (with_reducible refine (damsonref14_Copy.calls k3 _ _ x10_3 t181 _ ?side1 ?side2 A61.out).mono ?_); (case side1 => exact Kd.CN (Kd.N_reads' HO_10.out).2.2); (case side2 => exact (Kd.N_reads' HO_10.out).2.1); rintro e w63 ⟨v182, rfl, ho0, hb⟩; refine ⟨_, rfl, ?_⟩; have n0_ := Aside0.mk (Kd.N_elder' (Kd.NN HO_10) (by first | exact Kd.N_base ho0 | exact Kd.N_base (Kd.S_N ho0)) hb); have n1_ := Aside0.mk (Kd.N_elder' (Kd.NN HO_63) (by first | exact Kd.N_base ho0 | exact Kd.N_base (Kd.S_N ho0)) hb); have n2_ := Aside0.mk (Kd.V_elder' (Kd.VN HO_164001) (by first | exact Kd.N_base ho0 | exact Kd.N_base (Kd.S_N ho0)) hb); have n3_ := Aside0.mk (Kd.V_elder' (Kd.VN HO_164002) (by first | exact Kd.N_base ho0 | exact Kd.N_base (Kd.S_N ho0)) hb); have n4_ := Aside0.mk (Kd.N_lower (Kd.N_mono (ok' := fun k_ => ((P1_1_ k_ ∨ P1_2_ k_) ∨ w.heap.size ≤ k_) ∧ some k_ ≠ (.slice Ao62 x10_3.length co62 : Value).ownBlock ∧ some k_ ≠ (.slice Ao13 t164.length co13 : Value).ownBlock ∧ k_ ≠ gb163) (Kd.S_N (Kd.S_bound ho0)) (fun k_ hk_ => ⟨(.inr (Nat.le_trans (below_size (belN HB)) hk_.2.1)), (Kd.fresh' (Kd.N_lt (Kd.NN HO_10)) k_ hk_.2.1), (Kd.fresh' (Kd.N_lt (Kd.NN HO_63)) k_ hk_.2.1), (Kd.freshB (g := gb163) (blkN BK163) k_ hk_.2.1)⟩)) (below_size (belN HB))); have n5_ := Aside0.mk (blk_below (g := gb163) (blkN BK163) hb); have n6_ := Aside0.mk (below_step (belN HB) hb); clear HO_10; clear HO_63; clear HO_164001; clear HO_164002; clear BK163; clear HB; have HO_10 := n0_; have HO_63 := n1_; have HO_164001 := n2_; have HO_164002 := n3_; have HO183 := n4_; have BK163 := n5_; have HB := n6_; clear n0_ n1_ n2_ n3_ n4_ n5_ n6_; (try clear hb); (try clear hb2); (try clear hk); (try clear hi); (try clear ho0)))
                        go_ret2
                        exact ⟨_, by first | rfl | (simp [errW_none, errW_some] <;> rfl) | (simp [*, errW_none, errW_some] <;> rfl), by (with_reducible repeat (first | apply Kd.N_alloc | apply Kd.N_drewN | apply Kd.N_drew)); exact Kd.N_mono HO183.out (fun _ hk => hk.1), by repeat (first | (with_reducible first | exact HB.out | apply below_alloc | apply pw_below_drewN | apply below_drew1 | refine below_set ?_ GE163.out) | exact HB.out)⟩
                · rw [if_neg c40] at H
                  exact absurd H (by simp)

/-! ### damsonref14_Look: function 17 (by hand) -/
def rfirst (a1 : Int) (l2 : List Int) : List S26 → List Int × Int
  | [] => ([], 5)
  | x :: xs => if x.f0 = a1 then (if ((strOfNums x.f1).toList == (strOfNums l2).toList) = true then (x.f2, 0) else ([], 12)) else rfirst a1 l2 xs
def damsonref14_Look.f (k : Nat) (l0 : List (S26)) (a1 : Int) (l2 : List Int) (a3 : Int) : Option (List Int × Int) := (damsonref14_Sweep.f k l0 a3).bind fun b => (if b.2 = 0 then some (rfirst a1 l2 b.1) else some ([], b.2))
theorem damsonref14_Look.mono : ∀ a0 a1 a2 a3 k, LeO (damsonref14_Look.f k a0 a1 a2 a3) (damsonref14_Look.f (k + 1) a0 a1 a2 a3) := by
  intro a0 a1 a2 a3 k
  unfold damsonref14_Look.f
  exact LeO.bind (damsonref14_Sweep.mono _ _ _) (fun _ => LeO.refl _)
theorem drop_cons26 {xs : List S26} {i : Nat} (h : i < xs.length) : xs.drop i = rd_T26 xs (i : Int) :: xs.drop (i + 1) := by
  rw [List.drop_eq_getElem_cons h]
  simp [rd_T26, List.getD_eq_getElem?_getD, List.getElem?_eq_getElem h]
set_option maxHeartbeats 4000000 in
theorem damsonref14_Look.calls (k : Nat) (A0 : Option Addr) (c0 : Nat) (l0 : List (S26)) (a1 : Int) (A2 : Option Addr) (c2 : Nat) (l2 : List Int) (a3 : Int) (r1 : List Int) (r2 : Int) (w : World) (hr0 : Kd.C k26 w A0 l0.length l0) (hc0 : l0.length ≤ c0) (hr2 : Kd.C (Kd.int .u8) w A2 l2.length l2) (hc2 : l2.length ≤ c2) (h : damsonref14_Look.f k l0 a1 l2 a3 = some (r1, r2)) :
    Calls Try.prog 17 #[.slice A0 l0.length c0, .int .u64 a1, .slice A2 l2.length c2, .int .u64 a3] w fun e w' => ∃ (A : Option Addr) (c : Nat), e = .returned (.tuple #[.slice A r1.length c, .int .i64 r2]) ∧ r1.length ≤ c ∧ Kd.C (Kd.int .u8) w' A r1.length r1 ∧ Below w.heap.size w w' := by
  obtain ⟨⟨ks, e0⟩, hf, h1⟩ := Option.bind_eq_some_iff.1 h
  clear h
  simp only at h1
  have HR0 := Aside0.mk hr0
  have HC0 := Aside0.mk hc0
  have HR2 := Aside0.mk hr2
  have HC2 := Aside0.mk hc2
  have HF := Aside0.mk hf
  clear hr0 hc0 hr2 hc2 hf
  by_cases c : e0 = 0
  · rw [if_pos c] at h1
    subst c
    injection h1 with h1
    have HQ := Aside0.mk h1
    clear h1
    go_enter Try.func17, Try.ntmps17
    go_wp2_with (go_at_call 18; refine (damsonref14_Sweep.calls k A0 c0 l0 a3 ks 0 _ HR0.out HC0.out HF.out).mono ?_; rintro e w1 ⟨v, rfl, hN, hb⟩; obtain ⟨Ak, ck, ev⟩ := Kd.N_slice hN; subst ev; have HC := Aside0.mk (Kd.N_reads' hN).2.2; have hlen : ks.length ≤ 9223372036854775807 := (Kd.N_reads' hN).2.2.2.1; have HB1 := Aside0.mk hb; clear hN hb HF)
    go_loopw [25] (fun v25 wr => ∃ i : Nat, i ≤ ks.length ∧ v25 = .int .i64 i ∧ Aside0 (rfirst a1 l2 (ks.drop i) = (r1, r2)) ∧ Aside0 (Below w1.heap.size w1 wr)) (fun v25 _ => ks.length - (intOf v25).toNat)
    case atStart => exact ⟨0, Nat.zero_le _, rfl, HQ, ⟨Below.refl _ _⟩⟩
    case round =>
      obtain ⟨i, hi, rfl, HA, HL⟩ := hrel
      by_cases hlt : i < ks.length
      · obtain ⟨ad, B1, d1, B2, d2, rfl, h0, h1, h2, h3, hl1, hC1, hl2, hC2⟩ := at_T26 (Kd.C_below HC.out HL.out) (i : Int) (by omega) (by omega)
        rw [Int.toNat_natCast] at h0 h1 h2 h3
        have HA2 := HA.out
        rw [drop_cons26 hlt, rfirst] at HA2
        have HC1 := Aside0.mk hC1
        have HC3 := Aside0.mk hC2
        have HL1 := Aside0.mk hl1
        have HL3 := Aside0.mk hl2
        have HBW := Aside0.mk (below_then HB1.out HB1.out.size HL.out)
        have HK := Aside0.mk (blk_new wr (.cells #[.int .u64 (rd_T26 ks i).f0, .slice B1 (rd_T26 ks i).f1.length d1, .slice B2 (rd_T26 ks i).f2.length d2, .int .u64 (rd_T26 ks i).f3] 26))
        have HBO := Aside0.mk ((Below.refl wr.heap.size wr).alloc (Nat.le_refl _) (.cells #[.int .u64 (rd_T26 ks i).f0, .slice B1 (rd_T26 ks i).f1.length d1, .slice B2 (rd_T26 ks i).f2.length d2, .int .u64 (rd_T26 ks i).f3] 26))
        clear hC1 hC2 hl1 hl2
        by_cases e1 : (rd_T26 ks i).f0 = a1
        · rw [if_pos e1] at HA2
          have e1b : ((rd_T26 ks i).f0 == a1) = true := beq_iff_eq.mpr e1
          clear e1
          cases hs : ((strOfNums (rd_T26 ks i).f1).toList == (strOfNums l2).toList) with
          | true =>
            rw [hs, if_pos rfl] at HA2
            have HS := Aside0.mk hs
            clear hs
            injection HA2 with q1 q2
            subst q1
            subst q2
            go_wp2_with (go_at_call 14; refine (damsonref01_SameBytes.calls B1 d1 (rd_T26 ks i).f1 A2 c2 l2 true _ (Kd.C_below HC1.out HBO.out) HL1.out (Kd.C_below (Kd.C_below HR2.out HBW.out) HBO.out) HC2.out (by unfold damsonref01_SameBytes.f; rw [HS.out])).mono ?_; rintro e w2 ⟨rfl, hd⟩; have HBB := Aside0.mk (HBO.out.trans (hd.below.mono (by simp))); obtain ⟨hz0, hz1, hz2, hz3, hz4, hz5, hz6, hz7⟩ := cz4_ (blk_below HK.out hd.below); clear hd)
            go_ret2
            exact ⟨B2, d2, rfl, HL3.out, Kd.C_below HC3.out HBB.out, below_then HBW.out HBW.out.size HBB.out⟩
          | false =>
            rw [hs, if_neg (by decide)] at HA2
            have HS := Aside0.mk hs
            clear hs
            injection HA2 with q1 q2
            subst q1
            subst q2
            go_wp2_with (go_at_call 14; refine (damsonref01_SameBytes.calls B1 d1 (rd_T26 ks i).f1 A2 c2 l2 false _ (Kd.C_below HC1.out HBO.out) HL1.out (Kd.C_below (Kd.C_below HR2.out HBW.out) HBO.out) HC2.out (by unfold damsonref01_SameBytes.f; rw [HS.out])).mono ?_; rintro e w2 ⟨rfl, hd⟩; have HBB := Aside0.mk (HBO.out.trans (hd.below.mono (by simp))); obtain ⟨hz0, hz1, hz2, hz3, hz4, hz5, hz6, hz7⟩ := cz4_ (blk_below HK.out hd.below); clear hd)
            go_ret2
            exact ⟨none, 0, rfl, Nat.le_refl _, Kd.C_nil _ _, below_then HBW.out HBW.out.size HBB.out⟩
        · rw [if_neg e1] at HA2
          have HA3 := Aside0.mk HA2
          have e1b : ((rd_T26 ks i).f0 == a1) = false := beq_eq_false_iff_ne.mpr e1
          clear e1 HA2
          go_wp2
          go_roundw
          case rel => exact ⟨i + 1, by omega, by go_num, HA3, ⟨below_then HL.out HL.out.size HBO.out⟩⟩
          case measure => simp [intOf]; omega
      · obtain rfl : i = ks.length := by omega
        have HA2 := HA.out
        rw [List.drop_length, rfirst] at HA2
        injection HA2 with q1 q2
        subst q1
        subst q2
        go_wp2
        go_ret2
        exact ⟨none, 0, rfl, Nat.le_refl _, Kd.C_nil _ _, below_then HB1.out HB1.out.size HL.out⟩
  · rw [if_neg c] at h1
    injection h1 with h1
    injection h1 with q1 q2
    subst q1
    subst q2
    have cb : (e0 != 0) = true := bne_iff_ne.mpr c
    clear c
    go_enter Try.func17, Try.ntmps17
    go_wp2_with (go_at_call 18; refine (damsonref14_Sweep.calls k A0 c0 l0 a3 ks e0 _ HR0.out HC0.out HF.out).mono ?_; rintro e w1 ⟨v, rfl, hN, hb⟩; have HB1 := Aside0.mk hb; clear hN hb HF)
    go_ret2
    exact ⟨none, 0, rfl, Nat.le_refl _, Kd.C_nil _ _, HB1.out⟩

/-! ### damsonref14_one: function 29 -/
def damsonref14_one.f (a0_0 : Int) (l0_1 : List Int) (l0_2 : List Int) (a0_3 : Int) (a1_0 : Int) (l1_1 : List Int) (l1_2 : List Int) (a1_3 : Int) : Option (Bool) := if a0_0 = a1_0 then (if a0_3 = a1_3 then ((damsonref01_SameBytes.f l0_1 l1_1).bind fun t186 => (if t186 = true then ((damsonref01_SameBytes.f l0_2 l1_2).bind fun t187 => (some t187)) else (some false))) else (some false)) else (some false)
set_option maxHeartbeats 8000000 in
set_option maxRecDepth 100000 in
theorem damsonref14_one.calls (a0_0 : Int) (A0_1 : Option Addr) (c0_1 : Nat) (l0_1 : List Int) (A0_2 : Option Addr) (c0_2 : Nat) (l0_2 : List Int) (a0_3 : Int) (a1_0 : Int) (A1_1 : Option Addr) (c1_1 : Nat) (l1_1 : List Int) (A1_2 : Option Addr) (c1_2 : Nat) (l1_2 : List Int) (a1_3 : Int) (r : Bool) (w : World) (hr0_1 : Kd.C (Kd.int .u8) w A0_1 l0_1.length l0_1) (hc0_1 : l0_1.length ≤ c0_1) (hr0_2 : Kd.C (Kd.int .u8) w A0_2 l0_2.length l0_2) (hc0_2 : l0_2.length ≤ c0_2) (hr1_1 : Kd.C (Kd.int .u8) w A1_1 l1_1.length l1_1) (hc1_1 : l1_1.length ≤ c1_1) (hr1_2 : Kd.C (Kd.int .u8) w A1_2 l1_2.length l1_2) (hc1_2 : l1_2.length ≤ c1_2) (h : damsonref14_one.f a0_0 l0_1 l0_2 a0_3 a1_0 l1_1 l1_2 a1_3 = some r) :
    Calls Try.prog 29 #[.agg #[.int .u64 a0_0, .slice A0_1 l0_1.length c0_1, .slice A0_2 l0_2.length c0_2, .int .u64 a0_3], .agg #[.int .u64 a1_0, .slice A1_1 l1_1.length c1_1, .slice A1_2 l1_2.length c1_2, .int .u64 a1_3]] w fun e w' => e = .returned (.bool r) ∧ Below w.heap.size w w' := by
  have hu26 := Try.underlying26
  have HR0_1 := Aside0.mk hr0_1
  have HC0_1 := Aside0.mk hc0_1
  clear hr0_1 hc0_1
  have HR0_2 := Aside0.mk hr0_2
  have HC0_2 := Aside0.mk hc0_2
  clear hr0_2 hc0_2
  have HR1_1 := Aside0.mk hr1_1
  have HC1_1 := Aside0.mk hc1_1
  clear hr1_1 hc1_1
  have HR1_2 := Aside0.mk hr1_2
  have HC1_2 := Aside0.mk hc1_2
  clear hr1_2 hc1_2
  have HB := Aside0.mk (Below.refl w.heap.size w)
  have H : (if a0_0 = a1_0 then (if a0_3 = a1_3 then ((damsonref01_SameBytes.f l0_1 l1_1).bind fun t186 => (if t186 = true then ((damsonref01_SameBytes.f l0_2 l1_2).bind fun t187 => (some t187)) else (some false))) else (some false)) else (some false)) = some r := h
  clear h
  by_cases c3 : a0_0 = a1_0
  · rw [if_pos c3] at H
    have c3b0 : (a0_0 == a1_0) = true := beq_iff_eq.mpr c3
    have c3b1 : (a0_0 != a1_0) = false := bne_eq_false_iff_eq.mpr c3
    clear c3
    by_cases c4 : a0_3 = a1_3
    · rw [if_pos c4] at H
      have c4b0 : (a0_3 == a1_3) = true := beq_iff_eq.mpr c4
      have c4b1 : (a0_3 != a1_3) = false := bne_eq_false_iff_eq.mpr c4
      clear c4
      replace H := Option.bind_eq_some_iff.mp H
      obtain ⟨t186, A50, H⟩ := H
      replace H : (if t186 = true then ((damsonref01_SameBytes.f l0_2 l1_2).bind fun t187 => (some t187)) else (some false)) = some r := H
      have A5 := Aside0.mk A50
      clear A50
      by_cases c6 : t186 = true
      · subst c6
        have H1 : ((damsonref01_SameBytes.f l0_2 l1_2).bind fun t187 => (some t187)) = some r := by rw [if_pos rfl] at H; exact H
        clear H
        have H := H1
        clear H1
        replace H := Option.bind_eq_some_iff.mp H
        obtain ⟨t187, A70, H⟩ := H
        replace H : (some t187) = some r := H
        have A7 := Aside0.mk A70
        clear A70
        obtain rfl := Option.some.inj H
        go_enter Try.func29, Try.ntmps29
        go_wp2_with (first | ((with_reducible refine gate_dst (N := 2) rfl ?_); refine box_event ?hg (N := 2) ?hd (cs := #[.int .u64 a0_0, .slice A0_1 l0_1.length c0_1, .slice A0_2 l0_2.length c0_2, .int .u64 a0_3]) (t := 26) ?hr ?_; (case hd => rfl); (case hg => rfl); (case hr => first | (go_simp; done) | (go_simp; rfl)); intro gb184 hg w8 hbox hb; have n0_ := Aside0.mk (below_step (belN HB) hb); have n1_ := Aside0.mk (hbox); have n2_ := Aside0.mk ((by rw [hg]; exact (below_size (belN HB)) : w.heap.size ≤ gb184)); have n3_ := Aside0.mk ((by rw [hg]; exact (below_size (belN HB)) : w.heap.size ≤ gb184)); clear HB; have HB := n0_; have BK184 := n1_; have GW184 := n2_; have GE184 := n3_; clear n0_ n1_ n2_ n3_; clear hb hbox hg) | ((with_reducible refine gate_dst (N := 3) rfl ?_); refine box_event ?hg (N := 3) ?hd (cs := #[.int .u64 a1_0, .slice A1_1 l1_1.length c1_1, .slice A1_2 l1_2.length c1_2, .int .u64 a1_3]) (t := 26) ?hr ?_; (case hd => rfl); (case hg => rfl); (case hr => first | (go_simp; done) | (go_simp; rfl)); intro gb185 hg w9 hbox hb; have n0_ := Aside0.mk (blk_below (g := gb184) (blkN BK184) hb); have n1_ := Aside0.mk (below_step (belN HB) hb); have n2_ := Aside0.mk (hbox); have n3_ := Aside0.mk ((by rw [hg]; exact (below_size (belN HB)) : w.heap.size ≤ gb185)); have n4_ := Aside0.mk ((by rw [hg]; exact (below_size (belN HB)) : w.heap.size ≤ gb185)); have n5_ := Aside0.mk ((by rw [hg]; exact Nat.ne_of_lt (blk_lt (g := gb184) (blkN BK184)) : gb184 ≠ gb185)); have n6_ := Aside0.mk ((by rw [hg]; exact Nat.ne_of_gt (blk_lt (g := gb184) (blkN BK184)) : gb185 ≠ gb184)); clear BK184; clear HB; have BK184 := n0_; have HB := n1_; have BK185 := n2_; have GW185 := n3_; have GE185 := n4_; have NB184_185 := n5_; have NB185_184 := n6_; clear n0_ n1_ n2_ n3_ n4_ n5_ n6_; clear hb hbox hg; have hnb10 := NB184_185.out; have hnc10 := NB185_184.out; obtain ⟨hcz11_0, hcz11_1, hcz11_2, hcz11_3, hfz11_0, hfz11_1, hfz11_2, hfz11_3⟩ := cz4_ (w := w9) BK184.out; obtain ⟨hcz12_0, hcz12_1, hcz12_2, hcz12_3, hfz12_0, hfz12_1, hfz12_2, hfz12_3⟩ := cz4_ (w := w9) BK185.out) | (go_at_call 14; (with_reducible refine (damsonref01_SameBytes.calls _ _ l0_1 _ _ l1_1 true _ ?side1 ?side2 ?side3 ?side4 A5.out).mono ?_); (case side1 => repeat (first | exact (Kd.C_below HR0_1.out HB.out) | (with_reducible refine Kd.C_alloc ?_ _) | (with_reducible refine Kd.C_drewN ?_ _) | (with_reducible refine Kd.C_drew ?_))); (case side2 => exact HC0_1.out); (case side3 => repeat (first | exact (Kd.C_below HR1_1.out HB.out) | (with_reducible refine Kd.C_alloc ?_ _) | (with_reducible refine Kd.C_drewN ?_ _) | (with_reducible refine Kd.C_drew ?_))); (case side4 => exact HC1_1.out); rintro e w' ⟨rfl, ⟨nd, rfl⟩⟩) | (go_at_call 14; (with_reducible refine (damsonref01_SameBytes.calls _ _ l0_2 _ _ l1_2 t187 _ ?side1 ?side2 ?side3 ?side4 A7.out).mono ?_); (case side1 => repeat (first | exact (Kd.C_below HR0_2.out (belN HB)) | (with_reducible refine Kd.C_alloc ?_ _) | (with_reducible refine Kd.C_drewN ?_ _) | (with_reducible refine Kd.C_drew ?_))); (case side2 => exact HC0_2.out); (case side3 => repeat (first | exact (Kd.C_below HR1_2.out (belN HB)) | (with_reducible refine Kd.C_alloc ?_ _) | (with_reducible refine Kd.C_drewN ?_ _) | (with_reducible refine Kd.C_drew ?_))); (case side4 => exact HC1_2.out); rintro e w' ⟨rfl, ⟨nd, rfl⟩⟩))
        go_ret
        exact ⟨by first | rfl | (simp [errW_none, errW_some] <;> rfl) | (simp [*, errW_none, errW_some] <;> rfl), by repeat (first | (with_reducible first | exact HB.out | apply below_alloc | apply pw_below_drewN | apply below_drew1 | refine below_set ?_ GE184.out | refine below_set ?_ GE185.out) | exact HB.out)⟩
      · replace c6 := Bool.eq_false_iff.mpr c6
        subst c6
        have H1 : (some false) = some r := by rw [if_neg (show ¬ (false = true) by decide)] at H; exact H
        clear H
        have H := H1
        clear H1
        obtain rfl := Option.some.inj H
        go_enter Try.func29, Try.ntmps29
        go_wp2_with (first | ((with_reducible refine gate_dst (N := 2) rfl ?_); refine box_event ?hg (N := 2) ?hd (cs := #[.int .u64 a0_0, .slice A0_1 l0_1.length c0_1, .slice A0_2 l0_2.length c0_2, .int .u64 a0_3]) (t := 26) ?hr ?_; (case hd => rfl); (case hg => rfl); (case hr => first | (go_simp; done) | (go_simp; rfl)); intro gb184 hg w13 hbox hb; have n0_ := Aside0.mk (below_step (belN HB) hb); have n1_ := Aside0.mk (hbox); have n2_ := Aside0.mk ((by rw [hg]; exact (below_size (belN HB)) : w.heap.size ≤ gb184)); have n3_ := Aside0.mk ((by rw [hg]; exact (below_size (belN HB)) : w.heap.size ≤ gb184)); clear HB; have HB := n0_; have BK184 := n1_; have GW184 := n2_; have GE184 := n3_; clear n0_ n1_ n2_ n3_; clear hb hbox hg) | ((with_reducible refine gate_dst (N := 3) rfl ?_); refine box_event ?hg (N := 3) ?hd (cs := #[.int .u64 a1_0, .slice A1_1 l1_1.length c1_1, .slice A1_2 l1_2.length c1_2, .int .u64 a1_3]) (t := 26) ?hr ?_; (case hd => rfl); (case hg => rfl); (case hr => first | (go_simp; done) | (go_simp; rfl)); intro gb185 hg w14 hbox hb; have n0_ := Aside0.mk (blk_below (g := gb184) (blkN BK184) hb); have n1_ := Aside0.mk (below_step (belN HB) hb); have n2_ := Aside0.mk (hbox); have n3_ := Aside0.mk ((by rw [hg]; exact (below_size (belN HB)) : w.heap.size ≤ gb185)); have n4_ := Aside0.mk ((by rw [hg]; exact (below_size (belN HB)) : w.heap.size ≤ gb185)); have n5_ := Aside0.mk ((by rw [hg]; exact Nat.ne_of_lt (blk_lt (g := gb184) (blkN BK184)) : gb184 ≠ gb185)); have n6_ := Aside0.mk ((by rw [hg]; exact Nat.ne_of_gt (blk_lt (g := gb184) (blkN BK184)) : gb185 ≠ gb184)); clear BK184; clear HB; have BK184 := n0_; have HB := n1_; have BK185 := n2_; have GW185 := n3_; have GE185 := n4_; have NB184_185 := n5_; have NB185_184 := n6_; clear n0_ n1_ n2_ n3_ n4_ n5_ n6_; clear hb hbox hg; have hnb15 := NB184_185.out; have hnc15 := NB185_184.out; obtain ⟨hcz16_0, hcz16_1, hcz16_2, hcz16_3, hfz16_0, hfz16_1, hfz16_2, hfz16_3⟩ := cz4_ (w := w14) BK184.out; obtain ⟨hcz17_0, hcz17_1, hcz17_2, hcz17_3, hfz17_0, hfz17_1, hfz17_2, hfz17_3⟩ := cz4_ (w := w14) BK185.out) | (go_at_call 14; (with_reducible refine (damsonref01_SameBytes.calls _ _ l0_1 _ _ l1_1 false _ ?side1 ?side2 ?side3 ?side4 A5.out).mono ?_); (case side1 => repeat (first | exact (Kd.C_below HR0_1.out HB.out) | (with_reducible refine Kd.C_alloc ?_ _) | (with_reducible refine Kd.C_drewN ?_ _) | (with_reducible refine Kd.C_drew ?_))); (case side2 => exact HC0_1.out); (case side3 => repeat (first | exact (Kd.C_below HR1_1.out HB.out) | (with_reducible refine Kd.C_alloc ?_ _) | (with_reducible refine Kd.C_drewN ?_ _) | (with_reducible refine Kd.C_drew ?_))); (case side4 => exact HC1_1.out); rintro e w' ⟨rfl, ⟨nd, rfl⟩⟩))
        go_ret
        exact ⟨by first | rfl | (simp [errW_none, errW_some] <;> rfl) | (simp [*, errW_none, errW_some] <;> rfl), by repeat (first | (with_reducible first | exact HB.out | apply below_alloc | apply pw_below_drewN | apply below_drew1 | refine below_set ?_ GE184.out | refine below_set ?_ GE185.out) | exact HB.out)⟩
    · rw [if_neg c4] at H
      have c4b0 : (a0_3 == a1_3) = false := beq_eq_false_iff_ne.mpr c4
      have c4b1 : (a0_3 != a1_3) = true := bne_iff_ne.mpr c4
      obtain rfl := Option.some.inj H
      go_enter Try.func29, Try.ntmps29
      go_wp2_with (first | ((with_reducible refine gate_dst (N := 2) rfl ?_); refine box_event ?hg (N := 2) ?hd (cs := #[.int .u64 a0_0, .slice A0_1 l0_1.length c0_1, .slice A0_2 l0_2.length c0_2, .int .u64 a0_3]) (t := 26) ?hr ?_; (case hd => rfl); (case hg => rfl); (case hr => first | (go_simp; done) | (go_simp; rfl)); intro gb184 hg w18 hbox hb; have n0_ := Aside0.mk (below_step (belN HB) hb); have n1_ := Aside0.mk (hbox); have n2_ := Aside0.mk ((by rw [hg]; exact (below_size (belN HB)) : w.heap.size ≤ gb184)); have n3_ := Aside0.mk ((by rw [hg]; exact (below_size (belN HB)) : w.heap.size ≤ gb184)); clear HB; have HB := n0_; have BK184 := n1_; have GW184 := n2_; have GE184 := n3_; clear n0_ n1_ n2_ n3_; clear hb hbox hg) | ((with_reducible refine gate_dst (N := 3) rfl ?_); refine box_event ?hg (N := 3) ?hd (cs := #[.int .u64 a1_0, .slice A1_1 l1_1.length c1_1, .slice A1_2 l1_2.length c1_2, .int .u64 a1_3]) (t := 26) ?hr ?_; (case hd => rfl); (case hg => rfl); (case hr => first | (go_simp; done) | (go_simp; rfl)); intro gb185 hg w19 hbox hb; have n0_ := Aside0.mk (blk_below (g := gb184) (blkN BK184) hb); have n1_ := Aside0.mk (below_step (belN HB) hb); have n2_ := Aside0.mk (hbox); have n3_ := Aside0.mk ((by rw [hg]; exact (below_size (belN HB)) : w.heap.size ≤ gb185)); have n4_ := Aside0.mk ((by rw [hg]; exact (below_size (belN HB)) : w.heap.size ≤ gb185)); have n5_ := Aside0.mk ((by rw [hg]; exact Nat.ne_of_lt (blk_lt (g := gb184) (blkN BK184)) : gb184 ≠ gb185)); have n6_ := Aside0.mk ((by rw [hg]; exact Nat.ne_of_gt (blk_lt (g := gb184) (blkN BK184)) : gb185 ≠ gb184)); clear BK184; clear HB; have BK184 := n0_; have HB := n1_; have BK185 := n2_; have GW185 := n3_; have GE185 := n4_; have NB184_185 := n5_; have NB185_184 := n6_; clear n0_ n1_ n2_ n3_ n4_ n5_ n6_; clear hb hbox hg; have hnb20 := NB184_185.out; have hnc20 := NB185_184.out; obtain ⟨hcz21_0, hcz21_1, hcz21_2, hcz21_3, hfz21_0, hfz21_1, hfz21_2, hfz21_3⟩ := cz4_ (w := w19) BK184.out; obtain ⟨hcz22_0, hcz22_1, hcz22_2, hcz22_3, hfz22_0, hfz22_1, hfz22_2, hfz22_3⟩ := cz4_ (w := w19) BK185.out))
      go_ret
      exact ⟨by first | rfl | (simp [errW_none, errW_some] <;> rfl) | (simp [*, errW_none, errW_some] <;> rfl), by repeat (first | (with_reducible first | exact HB.out | apply below_alloc | apply pw_below_drewN | apply below_drew1 | refine below_set ?_ GE184.out | refine below_set ?_ GE185.out) | exact HB.out)⟩
  · rw [if_neg c3] at H
    have c3b0 : (a0_0 == a1_0) = false := beq_eq_false_iff_ne.mpr c3
    have c3b1 : (a0_0 != a1_0) = true := bne_iff_ne.mpr c3
    obtain rfl := Option.some.inj H
    go_enter Try.func29, Try.ntmps29
    go_wp2_with (first | ((with_reducible refine gate_dst (N := 2) rfl ?_); refine box_event ?hg (N := 2) ?hd (cs := #[.int .u64 a0_0, .slice A0_1 l0_1.length c0_1, .slice A0_2 l0_2.length c0_2, .int .u64 a0_3]) (t := 26) ?hr ?_; (case hd => rfl); (case hg => rfl); (case hr => first | (go_simp; done) | (go_simp; rfl)); intro gb184 hg w23 hbox hb; have n0_ := Aside0.mk (below_step (belN HB) hb); have n1_ := Aside0.mk (hbox); have n2_ := Aside0.mk ((by rw [hg]; exact (below_size (belN HB)) : w.heap.size ≤ gb184)); have n3_ := Aside0.mk ((by rw [hg]; exact (below_size (belN HB)) : w.heap.size ≤ gb184)); clear HB; have HB := n0_; have BK184 := n1_; have GW184 := n2_; have GE184 := n3_; clear n0_ n1_ n2_ n3_; clear hb hbox hg) | ((with_reducible refine gate_dst (N := 3) rfl ?_); refine box_event ?hg (N := 3) ?hd (cs := #[.int .u64 a1_0, .slice A1_1 l1_1.length c1_1, .slice A1_2 l1_2.length c1_2, .int .u64 a1_3]) (t := 26) ?hr ?_; (case hd => rfl); (case hg => rfl); (case hr => first | (go_simp; done) | (go_simp; rfl)); intro gb185 hg w24 hbox hb; have n0_ := Aside0.mk (blk_below (g := gb184) (blkN BK184) hb); have n1_ := Aside0.mk (below_step (belN HB) hb); have n2_ := Aside0.mk (hbox); have n3_ := Aside0.mk ((by rw [hg]; exact (below_size (belN HB)) : w.heap.size ≤ gb185)); have n4_ := Aside0.mk ((by rw [hg]; exact (below_size (belN HB)) : w.heap.size ≤ gb185)); have n5_ := Aside0.mk ((by rw [hg]; exact Nat.ne_of_lt (blk_lt (g := gb184) (blkN BK184)) : gb184 ≠ gb185)); have n6_ := Aside0.mk ((by rw [hg]; exact Nat.ne_of_gt (blk_lt (g := gb184) (blkN BK184)) : gb185 ≠ gb184)); clear BK184; clear HB; have BK184 := n0_; have HB := n1_; have BK185 := n2_; have GW185 := n3_; have GE185 := n4_; have NB184_185 := n5_; have NB185_184 := n6_; clear n0_ n1_ n2_ n3_ n4_ n5_ n6_; clear hb hbox hg; have hnb25 := NB184_185.out; have hnc25 := NB185_184.out; obtain ⟨hcz26_0, hcz26_1, hcz26_2, hcz26_3, hfz26_0, hfz26_1, hfz26_2, hfz26_3⟩ := cz4_ (w := w24) BK184.out; obtain ⟨hcz27_0, hcz27_1, hcz27_2, hcz27_3, hfz27_0, hfz27_1, hfz27_2, hfz27_3⟩ := cz4_ (w := w24) BK185.out))
    go_ret
    exact ⟨by first | rfl | (simp [errW_none, errW_some] <;> rfl) | (simp [*, errW_none, errW_some] <;> rfl), by repeat (first | (with_reducible first | exact HB.out | apply below_alloc | apply pw_below_drewN | apply below_drew1 | refine below_set ?_ GE184.out | refine below_set ?_ GE185.out) | exact HB.out)⟩

end Go.Proofs.Ytmoncgfffdddeaa.P
