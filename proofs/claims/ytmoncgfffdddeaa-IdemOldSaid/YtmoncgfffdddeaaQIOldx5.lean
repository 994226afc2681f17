-- written by a program of this session (wip/print)
import Derived.Test.YtmoncgfffdddeaaQIOldx0
import Derived.Test.YtmoncgfffdddeaaQIOldx3
import Derived.Test.YtmoncgfffdddeaaQIOldx4
namespace Go.Proofs.Ytmoncgfffdddeaa.P
open Go.RowKit Go.Proofs.YtmoncgfffdddeaaW.PrintWords Go.Proofs.YtmoncgfffdddeaaW.PrintLast Go.Proofs.YtmoncgfffdddeaaW.PrintMore
attribute [local go_sem] max2_int min2_int max_two min_two max_three min_three max_four min_four   -- for this text's walks alone
set_option linter.unusedVariables false
set_option linter.unusedSimpArgs false

/-! ### damsonlaw14_IdemOld: function 4 -/
mutual
def damsonlaw14_IdemOld.j0 : Nat → List (S26) → Int → Int → Bool → Int → List Int → List Int → Int → Int → List Int → List Int → Int → Option (Bool)
  | 0, _, _, _, _, _, _, _, _, _, _, _, _ => none
  | k + 1, x0, x3, x4, x36, x141000, x141001, x141002, x141003, x142000, x142001, x142002, x142003 => if x36 = true then (some true) else ((idem_Put.f k x0 x141000 x141001 x141002 x141003 x3).bind fun bt148 => (if bt148.2 = 0 then (damsonlaw14_IdemOld.j1 k x4 bt148.1 (decide (x4 ≤ x141003)) x141000 x141001 x141002 x141003 x142000 x142001 x142002 x142003) else (damsonlaw14_IdemOld.j1 k x4 bt148.1 true x141000 x141001 x141002 x141003 x142000 x142001 x142002 x142003)))
def damsonlaw14_IdemOld.j1 : Nat → Int → List (S26) → Bool → Int → List Int → List Int → Int → Int → List Int → List Int → Int → Option (Bool)
  | 0, _, _, _, _, _, _, _, _, _, _, _ => none
  | k + 1, x4, x11, x51, x141000, x141001, x141002, x141003, x142000, x142001, x142002, x142003 => if x51 = true then (some true) else ((idem_Look.f k x11 x141000 x141001 x4).bind fun bt152 => ((idem_Put.f k x11 x141000 x142001 x142002 x142003 x4).bind fun bt156 => (if bt152.2 = 5 then (if bt156.2 = 0 then (damsonlaw14_IdemOld.j2 k x4 bt156.1 bt156.2 false x141000 x142001 x142002 x142003) else (if bt156.2 = 1 then (damsonlaw14_IdemOld.j2 k x4 bt156.1 bt156.2 false x141000 x142001 x142002 x142003) else (damsonlaw14_IdemOld.j2 k x4 bt156.1 bt156.2 (bt156.2 != 7) x141000 x142001 x142002 x142003))) else (damsonlaw14_IdemOld.j2 k x4 bt156.1 bt156.2 true x141000 x142001 x142002 x142003))))
def damsonlaw14_IdemOld.j2 : Nat → Int → List (S26) → Int → Bool → Int → List Int → List Int → Int → Option (Bool)
  | 0, _, _, _, _, _, _, _, _ => none
  | k + 1, x4, x15, x16, x85, x142000, x142001, x142002, x142003 => if x85 = true then (some false) else (if x16 = 0 then ((idem_Look.f k x15 x142000 x142001 (mn x4 x142003)).bind fun bt160 => (if bt160.2 = 0 then ((damsonref01_SameBytes.f bt160.1 x142002).bind fun t164 => (some t164)) else (some false))) else (some ((x15.length : Int) == 0)))
end
def damsonlaw14_IdemOld.f (k : Nat) (l0 : List (S26)) (a1_0 : Int) (l1_1 : List Int) (l1_2 : List Int) (a1_3 : Int) (a2_0 : Int) (l2_1 : List Int) (l2_2 : List Int) (a2_3 : Int) (a3 : Int) (a4 : Int) : Option (Bool) := (damsonlaw14_live.f k).bind fun t142 => (if t142 = true then ((damsonref14_Few.f k l0).bind fun t143 => (if t143 = true then ((damsonlaw14_short.f k (([l1_1, l1_2, l2_1, l2_2] : List (List Int)))).bind fun t147 => (damsonlaw14_IdemOld.j0 k l0 a3 a4 (!t147) a1_0 l1_1 l1_2 a1_3 a2_0 l2_1 l2_2 a2_3)) else (damsonlaw14_IdemOld.j0 k l0 a3 a4 true a1_0 l1_1 l1_2 a1_3 a2_0 l2_1 l2_2 a2_3))) else (some false))
theorem damsonlaw14_IdemOld.mono_l : ∀ k, (∀ y0 y1 y2 y3 y4 y5 y6 y7 y8 y9 y10 y11, LeO (damsonlaw14_IdemOld.j0 k y0 y1 y2 y3 y4 y5 y6 y7 y8 y9 y10 y11) (damsonlaw14_IdemOld.j0 (k + 1) y0 y1 y2 y3 y4 y5 y6 y7 y8 y9 y10 y11)) ∧ (∀ y0 y1 y2 y3 y4 y5 y6 y7 y8 y9 y10, LeO (damsonlaw14_IdemOld.j1 k y0 y1 y2 y3 y4 y5 y6 y7 y8 y9 y10) (damsonlaw14_IdemOld.j1 (k + 1) y0 y1 y2 y3 y4 y5 y6 y7 y8 y9 y10)) ∧ (∀ y0 y1 y2 y3 y4 y5 y6 y7, LeO (damsonlaw14_IdemOld.j2 k y0 y1 y2 y3 y4 y5 y6 y7) (damsonlaw14_IdemOld.j2 (k + 1) y0 y1 y2 y3 y4 y5 y6 y7))
  | 0 => ⟨fun _ _ _ _ _ _ _ _ _ _ _ _ r h => by simp [damsonlaw14_IdemOld.j0] at h, fun _ _ _ _ _ _ _ _ _ _ _ r h => by simp [damsonlaw14_IdemOld.j1] at h, fun _ _ _ _ _ _ _ _ r h => by simp [damsonlaw14_IdemOld.j2] at h⟩
  | k + 1 => by
    obtain ⟨ih0, ih1, ih2⟩ := damsonlaw14_IdemOld.mono_l k
    refine ⟨?_, ?_, ?_⟩
    · intro y0 y1 y2 y3 y4 y5 y6 y7 y8 y9 y10 y11
      unfold damsonlaw14_IdemOld.j0
      repeat' first
      | (with_reducible exact ih0 _ _ _ _ _ _ _ _ _ _ _ _)
      | (with_reducible exact ih1 _ _ _ _ _ _ _ _ _ _ _)
      | (with_reducible exact ih2 _ _ _ _ _ _ _ _)
      | (with_reducible exact damsonlaw14_live.mono _)
      | (with_reducible exact damsonlaw14_short.mono _ _)
      | (with_reducible exact damsonref14_Few.mono _ _)
      | (with_reducible exact idem_Look.mono _ _ _ _ _)
      | (with_reducible exact idem_Put.mono _ _ _ _ _ _ _)
      | (with_reducible exact LeO.refl _)
      | (with_reducible exact LeO.none _)
      | (with_reducible refine LeO.ite ?_ ?_)
      | (with_reducible refine LeO.bind ?_ (fun _ => ?_))
      | exact ih0 _ _ _ _ _ _ _ _ _ _ _ _
      | exact ih1 _ _ _ _ _ _ _ _ _ _ _
      | exact ih2 _ _ _ _ _ _ _ _
      | exact damsonlaw14_live.mono _
      | exact damsonlaw14_short.mono _ _
      | exact damsonref14_Few.mono _ _
      | exact idem_Look.mono _ _ _ _ _
      | exact idem_Put.mono _ _ _ _ _ _ _
      | exact LeO.none _
      | refine LeO.ite ?_ ?_
      | refine LeO.bind ?_ (fun _ => ?_)
    · intro y0 y1 y2 y3 y4 y5 y6 y7 y8 y9 y10
      unfold damsonlaw14_IdemOld.j1
      repeat' first
      | (with_reducible exact ih0 _ _ _ _ _ _ _ _ _ _ _ _)
      | (with_reducible exact ih1 _ _ _ _ _ _ _ _ _ _ _)
      | (with_reducible exact ih2 _ _ _ _ _ _ _ _)
      | (with_reducible exact damsonlaw14_live.mono _)
      | (with_reducible exact damsonlaw14_short.mono _ _)
      | (with_reducible exact damsonref14_Few.mono _ _)
      | (with_reducible exact idem_Look.mono _ _ _ _ _)
      | (with_reducible exact idem_Put.mono _ _ _ _ _ _ _)
      | (with_reducible exact LeO.refl _)
      | (with_reducible exact LeO.none _)
      | (with_reducible refine LeO.ite ?_ ?_)
      | (with_reducible refine LeO.bind ?_ (fun _ => ?_))
      | exact ih0 _ _ _ _ _ _ _ _ _ _ _ _
      | exact ih1 _ _ _ _ _ _ _ _ _ _ _
      | exact ih2 _ _ _ _ _ _ _ _
      | exact damsonlaw14_live.mono _
      | exact damsonlaw14_short.mono _ _
      | exact damsonref14_Few.mono _ _
      | exact idem_Look.mono _ _ _ _ _
      | exact idem_Put.mono _ _ _ _ _ _ _
      | exact LeO.none _
      | refine LeO.ite ?_ ?_
      | refine LeO.bind ?_ (fun _ => ?_)
    · intro y0 y1 y2 y3 y4 y5 y6 y7
      unfold damsonlaw14_IdemOld.j2
      repeat' first
      | (with_reducible exact ih0 _ _ _ _ _ _ _ _ _ _ _ _)
      | (with_reducible exact ih1 _ _ _ _ _ _ _ _ _ _ _)
      | (with_reducible exact ih2 _ _ _ _ _ _ _ _)
      | (with_reducible exact damsonlaw14_live.mono _)
      | (with_reducible exact damsonlaw14_short.mono _ _)
      | (with_reducible exact damsonref14_Few.mono _ _)
      | (with_reducible exact idem_Look.mono _ _ _ _ _)
      | (with_reducible exact idem_Put.mono _ _ _ _ _ _ _)
      | (with_reducible exact LeO.refl _)
      | (with_reducible exact LeO.none _)
      | (with_reducible refine LeO.ite ?_ ?_)
      | (with_reducible refine LeO.bind ?_ (fun _ => ?_))
      | exact ih0 _ _ _ _ _ _ _ _ _ _ _ _
      | exact ih1 _ _ _ _ _ _ _ _ _ _ _
      | exact ih2 _ _ _ _ _ _ _ _
      | exact damsonlaw14_live.mono _
      | exact damsonlaw14_short.mono _ _
      | exact damsonref14_Few.mono _ _
      | exact idem_Look.mono _ _ _ _ _
      | exact idem_Put.mono _ _ _ _ _ _ _
      | exact LeO.none _
      | refine LeO.ite ?_ ?_
      | refine LeO.bind ?_ (fun _ => ?_)
theorem damsonlaw14_IdemOld.mono : ∀ a0 a1 a2 a3 a4 a5 a6 a7 a8 a9 a10 k, LeO (damsonlaw14_IdemOld.f k a0 a1 a2 a3 a4 a5 a6 a7 a8 a9 a10) (damsonlaw14_IdemOld.f (k + 1) a0 a1 a2 a3 a4 a5 a6 a7 a8 a9 a10) := by
  intro a0 a1 a2 a3 a4 a5 a6 a7 a8 a9 a10 k
  obtain ⟨ih0, ih1, ih2⟩ := damsonlaw14_IdemOld.mono_l k
  unfold damsonlaw14_IdemOld.f
  repeat' first
      | (with_reducible exact ih0 _ _ _ _ _ _ _ _ _ _ _ _)
      | (with_reducible exact ih1 _ _ _ _ _ _ _ _ _ _ _)
      | (with_reducible exact ih2 _ _ _ _ _ _ _ _)
      | (with_reducible exact damsonlaw14_live.mono _)
      | (with_reducible exact damsonlaw14_short.mono _ _)
      | (with_reducible exact damsonref14_Few.mono _ _)
      | (with_reducible exact idem_Look.mono _ _ _ _ _)
      | (with_reducible exact idem_Put.mono _ _ _ _ _ _ _)
      | (with_reducible exact LeO.refl _)
      | (with_reducible exact LeO.none _)
      | (with_reducible refine LeO.ite ?_ ?_)
      | (with_reducible refine LeO.bind ?_ (fun _ => ?_))
      | exact ih0 _ _ _ _ _ _ _ _ _ _ _ _
      | exact ih1 _ _ _ _ _ _ _ _ _ _ _
      | exact ih2 _ _ _ _ _ _ _ _
      | exact damsonlaw14_live.mono _
      | exact damsonlaw14_short.mono _ _
      | exact damsonref14_Few.mono _ _
      | exact idem_Look.mono _ _ _ _ _
      | exact idem_Put.mono _ _ _ _ _ _ _
      | exact LeO.none _
      | refine LeO.ite ?_ ?_
      | refine LeO.bind ?_ (fun _ => ?_)
set_option maxHeartbeats 8000000 in
set_option maxRecDepth 100000 in
theorem damsonlaw14_IdemOld.calls (k : Nat) (A0 : Option Addr) (c0 : Nat) (l0 : List (S26)) (a1_0 : Int) (P1_1_ : Nat → Prop) (A1_1 : Option Addr) (c1_1 : Nat) (l1_1 : List Int) (P1_2_ : Nat → Prop) (A1_2 : Option Addr) (c1_2 : Nat) (l1_2 : List Int) (a1_3 : Int) (a2_0 : Int) (P2_1_ : Nat → Prop) (A2_1 : Option Addr) (c2_1 : Nat) (l2_1 : List Int) (P2_2_ : Nat → Prop) (A2_2 : Option Addr) (c2_2 : Nat) (l2_2 : List Int) (a2_3 : Int) (a3 : Int) (a4 : Int) (r : Bool) (w : World) (hr0 : Kd.C k26 w A0 l0.length l0) (hc0 : l0.length ≤ c0) (hs1_1 : Kd.V (Kd.int .u8) 5 w w.heap.size (fun k_ => P1_1_ k_) (.slice A1_1 l1_1.length c1_1) l1_1) (hs1_2 : Kd.V (Kd.int .u8) 5 w w.heap.size (fun k_ => P1_2_ k_) (.slice A1_2 l1_2.length c1_2) l1_2) (hs2_1 : Kd.V (Kd.int .u8) 5 w w.heap.size (fun k_ => P2_1_ k_) (.slice A2_1 l2_1.length c2_1) l2_1) (hs2_2 : Kd.V (Kd.int .u8) 5 w w.heap.size (fun k_ => P2_2_ k_) (.slice A2_2 l2_2.length c2_2) l2_2) (h : damsonlaw14_IdemOld.f k l0 a1_0 l1_1 l1_2 a1_3 a2_0 l2_1 l2_2 a2_3 a3 a4 = some r) :
    Calls Try.prog 4 #[.slice A0 l0.length c0, .agg #[.int .u64 a1_0, .slice A1_1 l1_1.length c1_1, .slice A1_2 l1_2.length c1_2, .int .u64 a1_3], .agg #[.int .u64 a2_0, .slice A2_1 l2_1.length c2_1, .slice A2_2 l2_2.length c2_2, .int .u64 a2_3], .int .u64 a3, .int .u64 a4] w fun e w' => e = .returned (.bool r) ∧ Below w.heap.size w w' := by
  have hu26 := Try.underlying26
  have HR0 := Aside0.mk hr0
  have HC0 := Aside0.mk hc0
  clear hr0 hc0
  have HO1_1 := Aside0.mk (show Kd.V (Kd.int .u8) 5 w w.heap.size (fun k_ => ((P1_1_ k_ ∨ P1_2_ k_ ∨ P2_1_ k_ ∨ P2_2_ k_) ∨ w.heap.size ≤ k_)) (.slice A1_1 l1_1.length c1_1) l1_1 from Kd.V_mono hs1_1 (fun k_ hk => .inl (.inl hk)))
  have HO1_2 := Aside0.mk (show Kd.V (Kd.int .u8) 5 w w.heap.size (fun k_ => ((P1_1_ k_ ∨ P1_2_ k_ ∨ P2_1_ k_ ∨ P2_2_ k_) ∨ w.heap.size ≤ k_)) (.slice A1_2 l1_2.length c1_2) l1_2 from Kd.V_mono hs1_2 (fun k_ hk => .inl (.inr (.inl hk))))
  have HO2_1 := Aside0.mk (show Kd.V (Kd.int .u8) 5 w w.heap.size (fun k_ => ((P1_1_ k_ ∨ P1_2_ k_ ∨ P2_1_ k_ ∨ P2_2_ k_) ∨ w.heap.size ≤ k_)) (.slice A2_1 l2_1.length c2_1) l2_1 from Kd.V_mono hs2_1 (fun k_ hk => .inl (.inr (.inr (.inl hk)))))
  have HO2_2 := Aside0.mk (show Kd.V (Kd.int .u8) 5 w w.heap.size (fun k_ => ((P1_1_ k_ ∨ P1_2_ k_ ∨ P2_1_ k_ ∨ P2_2_ k_) ∨ w.heap.size ≤ k_)) (.slice A2_2 l2_2.length c2_2) l2_2 from Kd.V_mono hs2_2 (fun k_ hk => .inl (.inr (.inr (.inr hk)))))
  have HB := Aside0.mk (Below.refl w.heap.size w)
  have H : ((damsonlaw14_live.f k).bind fun t142 => (if t142 = true then ((damsonref14_Few.f k l0).bind fun t143 => (if t143 = true then ((damsonlaw14_short.f k (([l1_1, l1_2, l2_1, l2_2] : List (List Int)))).bind fun t147 => (damsonlaw14_IdemOld.j0 k l0 a3 a4 (!t147) a1_0 l1_1 l1_2 a1_3 a2_0 l2_1 l2_2 a2_3)) else (damsonlaw14_IdemOld.j0 k l0 a3 a4 true a1_0 l1_1 l1_2 a1_3 a2_0 l2_1 l2_2 a2_3))) else (some false))) = some r := h
  clear h
  replace H := Option.bind_eq_some_iff.mp H
  obtain ⟨t142, A60, H⟩ := H
  replace H : (if t142 = true then ((damsonref14_Few.f k l0).bind fun t143 => (if t143 = true then ((damsonlaw14_short.f k (([l1_1, l1_2, l2_1, l2_2] : List (List Int)))).bind fun t147 => (damsonlaw14_IdemOld.j0 k l0 a3 a4 (!t147) a1_0 l1_1 l1_2 a1_3 a2_0 l2_1 l2_2 a2_3)) else (damsonlaw14_IdemOld.j0 k l0 a3 a4 true a1_0 l1_1 l1_2 a1_3 a2_0 l2_1 l2_2 a2_3))) else (some false)) = some r := H
  have A6 := Aside0.mk A60
  clear A60
  by_cases c7 : t142 = true
  · subst c7
    have H1 : ((damsonref14_Few.f k l0).bind fun t143 => (if t143 = true then ((damsonlaw14_short.f k (([l1_1, l1_2, l2_1, l2_2] : List (List Int)))).bind fun t147 => (damsonlaw14_IdemOld.j0 k l0 a3 a4 (!t147) a1_0 l1_1 l1_2 a1_3 a2_0 l2_1 l2_2 a2_3)) else (damsonlaw14_IdemOld.j0 k l0 a3 a4 true a1_0 l1_1 l1_2 a1_3 a2_0 l2_1 l2_2 a2_3))) = some r := by rw [if_pos rfl] at H; exact H
    clear H
    have H := H1
    clear H1
    have HC8 := Aside0.mk H
    clear H
    go_enter Try.func4, Try.ntmps4
    go_upto_region 3 with (first | ((with_reducible refine gate_dst (N := 6) rfl ?_); (try (refine gate_guard (by rfl) ?_; dsimp only)); refine box_event ?hg (N := 6) ?hd (cs := #[.int .u64 a1_0, .slice A1_1 l1_1.length c1_1, .slice A1_2 l1_2.length c1_2, .int .u64 a1_3]) (t := 26) ?hr ?_; (case hd => rfl); (case hg => rfl); (case hr => first | (go_simp; done) | (go_simp; rfl)); intro gb140 hg w9 hbox hb; have n0_ := Aside0.mk (Kd.V_below (Kd.V_elderB (Kd.VN HO1_1) gb140 (Nat.le_of_eq hg.symm)) hb); have n1_ := Aside0.mk (Kd.V_below (Kd.V_elderB (Kd.VN HO1_2) gb140 (Nat.le_of_eq hg.symm)) hb); have n2_ := Aside0.mk (Kd.V_below (Kd.V_elderB (Kd.VN HO2_1) gb140 (Nat.le_of_eq hg.symm)) hb); have n3_ := Aside0.mk (Kd.V_below (Kd.V_elderB (Kd.VN HO2_2) gb140 (Nat.le_of_eq hg.symm)) hb); have n4_ := Aside0.mk (below_step (belN HB) hb); have n5_ := Aside0.mk (hbox); have n6_ := Aside0.mk ((by rw [hg]; exact (below_size (belN HB)) : w.heap.size ≤ gb140)); have n7_ := Aside0.mk ((by rw [hg]; exact (below_size (belN HB)) : w.heap.size ≤ gb140)); clear HO1_1; clear HO1_2; clear HO2_1; clear HO2_2; clear HB; have HO1_1 := n0_; have HO1_2 := n1_; have HO2_1 := n2_; have HO2_2 := n3_; have HB := n4_; have BK140 := n5_; have GW140 := n6_; have GE140 := n7_; clear n0_ n1_ n2_ n3_ n4_ n5_ n6_ n7_; clear hb hbox hg) | ((with_reducible refine gate_dst (N := 7) rfl ?_); (try (refine gate_guard (by rfl) ?_; dsimp only)); refine box_event ?hg (N := 7) ?hd (cs := #[.int .u64 a2_0, .slice A2_1 l2_1.length c2_1, .slice A2_2 l2_2.length c2_2, .int .u64 a2_3]) (t := 26) ?hr ?_; (case hd => rfl); (case hg => rfl); (case hr => first | (go_simp; done) | (go_simp; rfl)); intro gb141 hg w10 hbox hb; have n0_ := Aside0.mk (Kd.V_below (Kd.V_elderB (Kd.VN HO1_1) gb141 (Nat.le_of_eq hg.symm)) hb); have n1_ := Aside0.mk (Kd.V_below (Kd.V_elderB (Kd.VN HO1_2) gb141 (Nat.le_of_eq hg.symm)) hb); have n2_ := Aside0.mk (Kd.V_below (Kd.V_elderB (Kd.VN HO2_1) gb141 (Nat.le_of_eq hg.symm)) hb); have n3_ := Aside0.mk (Kd.V_below (Kd.V_elderB (Kd.VN HO2_2) gb141 (Nat.le_of_eq hg.symm)) hb); have n4_ := Aside0.mk (blk_below (g := gb140) (blkN BK140) hb); have n5_ := Aside0.mk (below_step (belN HB) hb); have n6_ := Aside0.mk (hbox); have n7_ := Aside0.mk ((by rw [hg]; exact (below_size (belN HB)) : w.heap.size ≤ gb141)); have n8_ := Aside0.mk ((by rw [hg]; exact (below_size (belN HB)) : w.heap.size ≤ gb141)); have n9_ := Aside0.mk ((by rw [hg]; exact Nat.ne_of_lt (blk_lt (g := gb140) (blkN BK140)) : gb140 ≠ gb141)); have n10_ := Aside0.mk ((by rw [hg]; exact Nat.ne_of_gt (blk_lt (g := gb140) (blkN BK140)) : gb141 ≠ gb140)); clear HO1_1; clear HO1_2; clear HO2_1; clear HO2_2; clear BK140; clear HB; have HO1_1 := n0_; have HO1_2 := n1_; have HO2_1 := n2_; have HO2_2 := n3_; have BK140 := n4_; have HB := n5_; have BK141 := n6_; have GW141 := n7_; have GE141 := n8_; have NB140_141 := n9_; have NB141_140 := n10_; clear n0_ n1_ n2_ n3_ n4_ n5_ n6_ n7_ n8_ n9_ n10_; clear hb hbox hg) | ((with_reducible refine gate_callee (f := 8) rfl ?_); refine goesL_ (some 19) rfl rfl Try.func8 (by kernel_rfl) rfl #[] rfl (by (try simp only [List.map_toArray, List.map_cons, List.map_nil]); first | done | rfl | (simp only [List.length_drop, List.length_take]; rfl)) ?_; (with_reducible refine (damsonlaw14_live.calls k  true _ A6.out).mono ?_); rintro e w11 ⟨rfl, hb⟩; refine ⟨_, rfl, ?_⟩; have n0_ := Aside0.mk (Kd.V_below (Kd.VN HO1_1) hb); have n1_ := Aside0.mk (Kd.V_below (Kd.VN HO1_2) hb); have n2_ := Aside0.mk (Kd.V_below (Kd.VN HO2_1) hb); have n3_ := Aside0.mk (Kd.V_below (Kd.VN HO2_2) hb); have n4_ := Aside0.mk (blk_below (g := gb140) (blkN BK140) hb); have n5_ := Aside0.mk (blk_below (g := gb141) (blkN BK141) hb); have n6_ := Aside0.mk (below_step (belN HB) hb); clear HO1_1; clear HO1_2; clear HO2_1; clear HO2_2; clear BK140; clear BK141; clear HB; have HO1_1 := n0_; have HO1_2 := n1_; have HO2_1 := n2_; have HO2_2 := n3_; have BK140 := n4_; have BK141 := n5_; have HB := n6_; clear n0_ n1_ n2_ n3_ n4_ n5_ n6_; (try clear hb); (try clear hb2); (try clear hk); (try clear hi)))
    (try simp only [Act.put, List.setIfInBounds_toArray, List.set_cons_zero, List.set_cons_succ])
    go_cut [36] (fun v36 wc => ∃ (kq : Nat) (x36_7 : Bool), v36 = .bool x36_7 ∧ Aside0 (damsonlaw14_IdemOld.j0 kq l0 a3 a4 x36_7 a1_0 l1_1 l1_2 a1_3 a2_0 l2_1 l2_2 a2_3 = some r) ∧ Aside0 (kq ≤ k) ∧ Aside0 (Kd.V (Kd.int .u8) 5 wc w.heap.size (fun k_ => ((P1_1_ k_ ∨ P1_2_ k_ ∨ P2_1_ k_ ∨ P2_2_ k_) ∨ w.heap.size ≤ k_) ∧ k_ ≠ gb140 ∧ k_ ≠ gb141) (.slice A1_1 l1_1.length c1_1) l1_1) ∧ Aside0 (Kd.V (Kd.int .u8) 5 wc w.heap.size (fun k_ => ((P1_1_ k_ ∨ P1_2_ k_ ∨ P2_1_ k_ ∨ P2_2_ k_) ∨ w.heap.size ≤ k_) ∧ k_ ≠ gb140 ∧ k_ ≠ gb141) (.slice A1_2 l1_2.length c1_2) l1_2) ∧ Aside0 (Kd.V (Kd.int .u8) 5 wc w.heap.size (fun k_ => ((P1_1_ k_ ∨ P1_2_ k_ ∨ P2_1_ k_ ∨ P2_2_ k_) ∨ w.heap.size ≤ k_) ∧ k_ ≠ gb140 ∧ k_ ≠ gb141) (.slice A2_1 l2_1.length c2_1) l2_1) ∧ Aside0 (Kd.V (Kd.int .u8) 5 wc w.heap.size (fun k_ => ((P1_1_ k_ ∨ P1_2_ k_ ∨ P2_1_ k_ ∨ P2_2_ k_) ∨ w.heap.size ≤ k_) ∧ k_ ≠ gb140 ∧ k_ ≠ gb141) (.slice A2_2 l2_2.length c2_2) l2_2) ∧ Aside0 (wc.heap[gb140]? = some (.cells #[.int .u64 a1_0, (.slice A1_1 l1_1.length c1_1), (.slice A1_2 l1_2.length c1_2), .int .u64 a1_3] 26 (0, 0))) ∧ Aside0 (wc.heap[gb141]? = some (.cells #[.int .u64 a2_0, (.slice A2_1 l2_1.length c2_1), (.slice A2_2 l2_2.length c2_2), .int .u64 a2_3] 26 (0, 0))) ∧ Aside0 (Below w.heap.size w wc))
    case first =>
      have H := HC8.out
      clear HC8
      replace H := Option.bind_eq_some_iff.mp H
      obtain ⟨t143, A120, H⟩ := H
      replace H : (if t143 = true then ((damsonlaw14_short.f k (([l1_1, l1_2, l2_1, l2_2] : List (List Int)))).bind fun t147 => (damsonlaw14_IdemOld.j0 k l0 a3 a4 (!t147) a1_0 l1_1 l1_2 a1_3 a2_0 l2_1 l2_2 a2_3)) else (damsonlaw14_IdemOld.j0 k l0 a3 a4 true a1_0 l1_1 l1_2 a1_3 a2_0 l2_1 l2_2 a2_3)) = some r := H
      have A12 := Aside0.mk A120
      clear A120
      by_cases c13 : t143 = true
      · subst c13
        have H1 : ((damsonlaw14_short.f k (([l1_1, l1_2, l2_1, l2_2] : List (List Int)))).bind fun t147 => (damsonlaw14_IdemOld.j0 k l0 a3 a4 (!t147) a1_0 l1_1 l1_2 a1_3 a2_0 l2_1 l2_2 a2_3)) = some r := by rw [if_pos rfl] at H; exact H
        clear H
        have H := H1
        clear H1
        obtain ⟨y144, hy144⟩ : ∃ y_ : List (List Int), y_ = (([l1_1, l1_2, l2_1, l2_2] : List (List Int))) := ⟨_, rfl⟩
        replace H : ((damsonlaw14_short.f k y144).bind fun t147 => (damsonlaw14_IdemOld.j0 k l0 a3 a4 (!t147) a1_0 l1_1 l1_2 a1_3 a2_0 l2_1 l2_2 a2_3)) = some r := by first | (rw [hy144]; with_reducible exact H) | (have H2_ := (Option.bind_some _ _).symm.trans H; rw [hy144]; with_reducible exact H2_) | (have H2_ := (Option.bind_some _ _).symm.trans H; with_reducible exact H2_) | with_reducible exact H | (rw [hy144]; exact H) | exact H
        have Ny144 := Aside0.mk hy144
        clear hy144
        replace H := Option.bind_eq_some_iff.mp H
        obtain ⟨t147, A140, H⟩ := H
        replace H : (damsonlaw14_IdemOld.j0 k l0 a3 a4 (!t147) a1_0 l1_1 l1_2 a1_3 a2_0 l2_1 l2_2 a2_3) = some r := H
        have A14 := Aside0.mk A140
        clear A140
        have H' := Aside0.mk H
        clear H
        go_wp2_with (first | ((with_reducible refine gate_callee (f := 9) rfl ?_); refine goesL_ (some 22) rfl rfl Try.func9 (by kernel_rfl) rfl #[.slice A0 l0.length c0] rfl (by (try simp only [List.map_toArray, List.map_cons, List.map_nil]); first | done | rfl | (simp only [List.length_drop, List.length_take]; rfl)) ?_; (with_reducible refine (damsonref14_Few.calls k _ _ l0 true _ ?side1 ?side2 A12.out).mono ?_); (case side1 => repeat (first | exact (Kd.C_below HR0.out HB.out) | (with_reducible refine Kd.C_alloc ?_ _) | (with_reducible refine Kd.C_drewN ?_ _) | (with_reducible refine Kd.C_drew ?_))); (case side2 => exact HC0.out); rintro e w15 ⟨rfl, hb⟩; refine ⟨_, rfl, ?_⟩; have n0_ := Aside0.mk (Kd.V_below (Kd.VN HO1_1) hb); have n1_ := Aside0.mk (Kd.V_below (Kd.VN HO1_2) hb); have n2_ := Aside0.mk (Kd.V_below (Kd.VN HO2_1) hb); have n3_ := Aside0.mk (Kd.V_below (Kd.VN HO2_2) hb); have n4_ := Aside0.mk (blk_below (g := gb140) (blkN BK140) hb); have n5_ := Aside0.mk (blk_below (g := gb141) (blkN BK141) hb); have n6_ := Aside0.mk (below_step (belN HB) hb); clear HO1_1; clear HO1_2; clear HO2_1; clear HO2_2; clear BK140; clear BK141; clear HB; have HO1_1 := n0_; have HO1_2 := n1_; have HO2_1 := n2_; have HO2_2 := n3_; have BK140 := n4_; have BK141 := n5_; have HB := n6_; clear n0_ n1_ n2_ n3_ n4_ n5_ n6_; (try clear hb); (try clear hb2); (try clear hk); (try clear hi); have hnb16 := NB140_141.out; have hnc16 := NB141_140.out; obtain ⟨hcz17_0, hcz17_1, hcz17_2, hcz17_3, hfz17_0, hfz17_1, hfz17_2, hfz17_3⟩ := cz4_ (w := w15) BK140.out; obtain ⟨hcz18_0, hcz18_1, hcz18_2, hcz18_3, hfz18_0, hfz18_1, hfz18_2, hfz18_3⟩ := cz4_ (w := w15) BK141.out) | ((with_reducible refine gate_dst (N := 33) rfl ?_); (try (refine gate_guard (by rfl) ?_; dsimp only)); refine Kd.N_lit (Kd.slice 5 (Kd.int .u8)) _ 24 ?hg (N' := 33) ?hd (xs := ([l1_1, l1_2, l2_1, l2_2] : List (List Int))) (inner := [.slice A1_1 l1_1.length c1_1, .slice A1_2 l1_2.length c1_2, .slice A2_1 l2_1.length c2_1, .slice A2_2 l2_2.length c2_2]) (ok := (fun k_ => ((P1_1_ k_ ∨ P1_2_ k_ ∨ P2_1_ k_ ∨ P2_2_ k_) ∨ w.heap.size ≤ k_) ∧ k_ ≠ gb140 ∧ k_ ≠ gb141)) (okp := (fun k_ => ((P1_1_ k_ ∨ P1_2_ k_ ∨ P2_1_ k_ ∨ P2_2_ k_) ∨ w.heap.size ≤ k_) ∧ k_ ≠ gb140 ∧ k_ ≠ gb141)) ?hr ?hp (fun _ hk => hk) ((show ∀ k_, w15.heap.size ≤ k_ → (fun k_ => ((P1_1_ k_ ∨ P1_2_ k_ ∨ P2_1_ k_ ∨ P2_2_ k_) ∨ w.heap.size ≤ k_) ∧ k_ ≠ gb140 ∧ k_ ≠ gb141) k_ from fun k_ hk => ⟨(.inr (Nat.le_trans (below_size (belN HB)) hk)), Kd.freshB (g := gb140) (blkN BK140) k_ hk, Kd.freshB (g := gb141) (blkN BK141) k_ hk⟩) _ (Nat.le_refl _)) (Below.refl _ _) (Nat.le_refl _) (by simp) ?_; (case hd => rfl); (case hg => rfl); (case hr => first | (go_simp; done) | (go_simp; rfl)); (case hp => exact (Reps.one (show Kd.FK (Kd.slice 5 (Kd.int .u8)) _ _ l1_1 [.slice A1_1 l1_1.length c1_1] from (Kd.FK_slice_mk (Kd.V_reads' (Kd.V_mono (ok' := (fun k_ => ((P1_1_ k_ ∨ P1_2_ k_ ∨ P2_1_ k_ ∨ P2_2_ k_) ∨ w.heap.size ≤ k_) ∧ k_ ≠ gb140 ∧ k_ ≠ gb141)) (HO1_1.out) (fun k_ hk => ⟨hk.1.1, ⟨hk.1.2, hk.2⟩⟩))).2.1 (Kd.V_F (Kd.V_mono (ok' := (fun k_ => ((P1_1_ k_ ∨ P1_2_ k_ ∨ P2_1_ k_ ∨ P2_2_ k_) ∨ w.heap.size ≤ k_) ∧ k_ ≠ gb140 ∧ k_ ≠ gb141)) (HO1_1.out) (fun k_ hk => ⟨hk.1.1, ⟨hk.1.2, hk.2⟩⟩))))) (Reps.one (show Kd.FK (Kd.slice 5 (Kd.int .u8)) _ _ l1_2 [.slice A1_2 l1_2.length c1_2] from (Kd.FK_slice_mk (Kd.V_reads' (Kd.V_mono (ok' := (fun k_ => ((P1_1_ k_ ∨ P1_2_ k_ ∨ P2_1_ k_ ∨ P2_2_ k_) ∨ w.heap.size ≤ k_) ∧ k_ ≠ gb140 ∧ k_ ≠ gb141)) (HO1_2.out) (fun k_ hk => ⟨hk.1.1, ⟨hk.1.2, hk.2⟩⟩))).2.1 (Kd.V_F (Kd.V_mono (ok' := (fun k_ => ((P1_1_ k_ ∨ P1_2_ k_ ∨ P2_1_ k_ ∨ P2_2_ k_) ∨ w.heap.size ≤ k_) ∧ k_ ≠ gb140 ∧ k_ ≠ gb141)) (HO1_2.out) (fun k_ hk => ⟨hk.1.1, ⟨hk.1.2, hk.2⟩⟩))))) (Reps.one (show Kd.FK (Kd.slice 5 (Kd.int .u8)) _ _ l2_1 [.slice A2_1 l2_1.length c2_1] from (Kd.FK_slice_mk (Kd.V_reads' (Kd.V_mono (ok' := (fun k_ => ((P1_1_ k_ ∨ P1_2_ k_ ∨ P2_1_ k_ ∨ P2_2_ k_) ∨ w.heap.size ≤ k_) ∧ k_ ≠ gb140 ∧ k_ ≠ gb141)) (HO2_1.out) (fun k_ hk => ⟨hk.1.1, ⟨hk.1.2, hk.2⟩⟩))).2.1 (Kd.V_F (Kd.V_mono (ok' := (fun k_ => ((P1_1_ k_ ∨ P1_2_ k_ ∨ P2_1_ k_ ∨ P2_2_ k_) ∨ w.heap.size ≤ k_) ∧ k_ ≠ gb140 ∧ k_ ≠ gb141)) (HO2_1.out) (fun k_ hk => ⟨hk.1.1, ⟨hk.1.2, hk.2⟩⟩))))) (Reps.one (show Kd.FK (Kd.slice 5 (Kd.int .u8)) _ _ l2_2 [.slice A2_2 l2_2.length c2_2] from (Kd.FK_slice_mk (Kd.V_reads' (Kd.V_mono (ok' := (fun k_ => ((P1_1_ k_ ∨ P1_2_ k_ ∨ P2_1_ k_ ∨ P2_2_ k_) ∨ w.heap.size ≤ k_) ∧ k_ ≠ gb140 ∧ k_ ≠ gb141)) (HO2_2.out) (fun k_ hk => ⟨hk.1.1, ⟨hk.1.2, hk.2⟩⟩))).2.1 (Kd.V_F (Kd.V_mono (ok' := (fun k_ => ((P1_1_ k_ ∨ P1_2_ k_ ∨ P2_1_ k_ ∨ P2_2_ k_) ∨ w.heap.size ≤ k_) ∧ k_ ≠ gb140 ∧ k_ ≠ gb141)) (HO2_2.out) (fun k_ hk => ⟨hk.1.1, ⟨hk.1.2, hk.2⟩⟩))))) (Reps.none _ _)))))); intro v145 w19 ho20 hb hg_ hnew_; clear hg_ hnew_; (first | rw [← Ny144.out] at ho20 | (simp only [Int.reduceToNat] at ho20; rw [← Ny144.out] at ho20)); have n0_ := Aside0.mk (Kd.V_elder' (Kd.VN HO1_1) (Kd.N_base ho20) hb); have n1_ := Aside0.mk (Kd.V_elder' (Kd.VN HO1_2) (Kd.N_base ho20) hb); have n2_ := Aside0.mk (Kd.V_elder' (Kd.VN HO2_1) (Kd.N_base ho20) hb); have n3_ := Aside0.mk (Kd.V_elder' (Kd.VN HO2_2) (Kd.N_base ho20) hb); have n4_ := Aside0.mk (Kd.N_lower ho20 (below_size (belN HB))); have n5_ := Aside0.mk (blk_below (g := gb140) (blkN BK140) hb); have n6_ := Aside0.mk (blk_below (g := gb141) (blkN BK141) hb); have n7_ := Aside0.mk (below_step (belN HB) hb); clear HO1_1; clear HO1_2; clear HO2_1; clear HO2_2; clear BK140; clear BK141; clear HB; have HO1_1 := n0_; have HO1_2 := n1_; have HO2_1 := n2_; have HO2_2 := n3_; have HO146 := n4_; have BK140 := n5_; have BK141 := n6_; have HB := n7_; clear n0_ n1_ n2_ n3_ n4_ n5_ n6_ n7_; clear hb ho20; obtain ⟨Ao21, co21, eo21⟩ := Kd.N_slice HO146.out; subst eo21) | (go_at_call 10; (with_reducible refine (damsonlaw14_short.calls k _ _ y144 t147 _ ?side1 ?side2 A14.out).mono ?_); (case side1 => exact Kd.CN (Kd.N_reads' HO146.out).2.2); (case side2 => exact (Kd.N_reads' HO146.out).2.1); rintro e w' ⟨rfl, ⟨nd, rfl⟩⟩))
        go_meet
        case rel => exact ⟨_, (!t147), (by first | rfl | (simp; done) | (simp [*]; done)), H', ⟨by first | omega | exact Nat.le_refl _⟩, ⟨by (with_reducible repeat (first | apply Kd.V_alloc | apply Kd.V_drewN | apply Kd.V_drew)); exact Kd.V_mono HO1_1.out (fun _ hk => ⟨hk.1.1.1, ⟨hk.1.1.2, hk.1.2⟩⟩)⟩, ⟨by (with_reducible repeat (first | apply Kd.V_alloc | apply Kd.V_drewN | apply Kd.V_drew)); exact Kd.V_mono HO1_2.out (fun _ hk => ⟨hk.1.1.1, ⟨hk.1.1.2, hk.1.2⟩⟩)⟩, ⟨by (with_reducible repeat (first | apply Kd.V_alloc | apply Kd.V_drewN | apply Kd.V_drew)); exact Kd.V_mono HO2_1.out (fun _ hk => ⟨hk.1.1.1, ⟨hk.1.1.2, hk.1.2⟩⟩)⟩, ⟨by (with_reducible repeat (first | apply Kd.V_alloc | apply Kd.V_drewN | apply Kd.V_drew)); exact Kd.V_mono HO2_2.out (fun _ hk => ⟨hk.1.1.1, ⟨hk.1.1.2, hk.1.2⟩⟩)⟩, ⟨by (with_reducible repeat (first | refine blk_drewN ?_ _ | refine blk_drew ?_ | refine blk_alloc ?_ _)); exact BK140.out⟩, ⟨by (with_reducible repeat (first | refine blk_drewN ?_ _ | refine blk_drew ?_ | refine blk_alloc ?_ _)); exact BK141.out⟩, ⟨by repeat (first | (with_reducible first | exact HB.out | apply below_alloc | apply pw_below_drewN | apply below_drew1 | refine below_set ?_ GE140.out | refine below_set ?_ GE141.out) | exact HB.out)⟩⟩
      · replace c13 := Bool.eq_false_iff.mpr c13
        subst c13
        have H1 : (damsonlaw14_IdemOld.j0 k l0 a3 a4 true a1_0 l1_1 l1_2 a1_3 a2_0 l2_1 l2_2 a2_3) = some r := by rw [if_neg (show ¬ (false = true) by decide)] at H; exact H
        clear H
        have H := H1
        clear H1
        have H' := Aside0.mk H
        clear H
        go_wp2_with (first | ((with_reducible refine gate_callee (f := 9) rfl ?_); refine goesL_ (some 22) rfl rfl Try.func9 (by kernel_rfl) rfl #[.slice A0 l0.length c0] rfl (by (try simp only [List.map_toArray, List.map_cons, List.map_nil]); first | done | rfl | (simp only [List.length_drop, List.length_take]; rfl)) ?_; (with_reducible refine (damsonref14_Few.calls k _ _ l0 false _ ?side1 ?side2 A12.out).mono ?_); (case side1 => repeat (first | exact (Kd.C_below HR0.out HB.out) | (with_reducible refine Kd.C_alloc ?_ _) | (with_reducible refine Kd.C_drewN ?_ _) | (with_reducible refine Kd.C_drew ?_))); (case side2 => exact HC0.out); rintro e w22 ⟨rfl, hb⟩; refine ⟨_, rfl, ?_⟩; have n0_ := Aside0.mk (Kd.V_below (Kd.VN HO1_1) hb); have n1_ := Aside0.mk (Kd.V_below (Kd.VN HO1_2) hb); have n2_ := Aside0.mk (Kd.V_below (Kd.VN HO2_1) hb); have n3_ := Aside0.mk (Kd.V_below (Kd.VN HO2_2) hb); have n4_ := Aside0.mk (blk_below (g := gb140) (blkN BK140) hb); have n5_ := Aside0.mk (blk_below (g := gb141) (blkN BK141) hb); have n6_ := Aside0.mk (below_step (belN HB) hb); clear HO1_1; clear HO1_2; clear HO2_1; clear HO2_2; clear BK140; clear BK141; clear HB; have HO1_1 := n0_; have HO1_2 := n1_; have HO2_1 := n2_; have HO2_2 := n3_; have BK140 := n4_; have BK141 := n5_; have HB := n6_; clear n0_ n1_ n2_ n3_ n4_ n5_ n6_; (try clear hb); (try clear hb2); (try clear hk); (try clear hi)))
        go_meet
        case rel => exact ⟨_, (true), (by first | rfl | (simp; done) | (simp [*]; done)), H', ⟨by first | omega | exact Nat.le_refl _⟩, ⟨by (with_reducible repeat (first | apply Kd.V_alloc | apply Kd.V_drewN | apply Kd.V_drew)); exact Kd.V_mono HO1_1.out (fun _ hk => ⟨hk.1.1, ⟨hk.1.2, hk.2⟩⟩)⟩, ⟨by (with_reducible repeat (first | apply Kd.V_alloc | apply Kd.V_drewN | apply Kd.V_drew)); exact Kd.V_mono HO1_2.out (fun _ hk => ⟨hk.1.1, ⟨hk.1.2, hk.2⟩⟩)⟩, ⟨by (with_reducible repeat (first | apply Kd.V_alloc | apply Kd.V_drewN | apply Kd.V_drew)); exact Kd.V_mono HO2_1.out (fun _ hk => ⟨hk.1.1, ⟨hk.1.2, hk.2⟩⟩)⟩, ⟨by (with_reducible repeat (first | apply Kd.V_alloc | apply Kd.V_drewN | apply Kd.V_drew)); exact Kd.V_mono HO2_2.out (fun _ hk => ⟨hk.1.1, ⟨hk.1.2, hk.2⟩⟩)⟩, ⟨by (with_reducible repeat (first | refine blk_drewN ?_ _ | refine blk_drew ?_ | refine blk_alloc ?_ _)); exact BK140.out⟩, ⟨by (with_reducible repeat (first | refine blk_drewN ?_ _ | refine blk_drew ?_ | refine blk_alloc ?_ _)); exact BK141.out⟩, ⟨by repeat (first | (with_reducible first | exact HB.out | apply below_alloc | apply pw_below_drewN | apply below_drew1 | refine below_set ?_ GE140.out | refine below_set ?_ GE141.out) | exact HB.out)⟩⟩
    case rest =>
      clear HC8
      try clear c1
      try clear c2
      try clear p2
      try clear c4
      try clear c7
      try clear c8
      try clear c9
      try clear c13
      try clear c16
      try clear hcz17_0
      try clear hcz17_1
      try clear hcz17_2
      try clear hcz17_3
      try clear hcz18_0
      try clear hcz18_1
      try clear hcz18_2
      try clear hcz18_3
      try clear hfz17_0
      try clear hfz17_1
      try clear hfz17_2
      try clear hfz17_3
      try clear hfz18_0
      try clear hfz18_1
      try clear hfz18_2
      try clear hfz18_3
      obtain ⟨kq, x36_7, rfl, HA, HJ7, HO_141001, HO_141002, HO_142001, HO_142002, BK140, BK141, HB⟩ := hcut
      cases kq with
      | zero => exact absurd HA.out (by simp [damsonlaw14_IdemOld.j0])
      | succ kj7 =>
        have H := HA.out
        clear HA
        simp only [damsonlaw14_IdemOld.j0] at H
        by_cases c23 : x36_7 = true
        · subst c23
          have H1 : (some true) = some r := by rw [if_pos rfl] at H; exact H
          clear H
          have H := H1
          clear H1
          obtain rfl := Option.some.inj H
          go_wp2
          go_ret
          exact ⟨by first | rfl | (simp [errW_none, errW_some] <;> rfl) | (simp [*, errW_none, errW_some] <;> rfl), by repeat (first | (with_reducible first | exact HB.out | apply below_alloc | apply pw_below_drewN | apply below_drew1 | refine below_set ?_ GE140.out | refine below_set ?_ GE141.out) | exact HB.out)⟩
        · replace c23 := Bool.eq_false_iff.mpr c23
          subst c23
          have H1 : ((idem_Put.f kj7 l0 a1_0 l1_1 l1_2 a1_3 a3).bind fun bt148 => (if bt148.2 = 0 then (damsonlaw14_IdemOld.j1 kj7 a4 bt148.1 (decide (a4 ≤ a1_3)) a1_0 l1_1 l1_2 a1_3 a2_0 l2_1 l2_2 a2_3) else (damsonlaw14_IdemOld.j1 kj7 a4 bt148.1 true a1_0 l1_1 l1_2 a1_3 a2_0 l2_1 l2_2 a2_3))) = some r := by rw [if_neg (show ¬ (false = true) by decide)] at H; exact H
          clear H
          have H := H1
          clear H1
          replace H := Option.bind_eq_some_iff.mp H
          obtain ⟨⟨t148, t151⟩, A240, H⟩ := H
          replace H : (if t151 = 0 then (damsonlaw14_IdemOld.j1 kj7 a4 t148 (decide (a4 ≤ a1_3)) a1_0 l1_1 l1_2 a1_3 a2_0 l2_1 l2_2 a2_3) else (damsonlaw14_IdemOld.j1 kj7 a4 t148 true a1_0 l1_1 l1_2 a1_3 a2_0 l2_1 l2_2 a2_3)) = some r := H
          have A24 := Aside0.mk A240
          clear A240
          have HC25 := Aside0.mk H
          clear H
          have hnb26 := NB140_141.out
          have hnc26 := NB141_140.out
          obtain ⟨hcz27_0, hcz27_1, hcz27_2, hcz27_3, hfz27_0, hfz27_1, hfz27_2, hfz27_3⟩ := cz4_ (w := wc) BK140.out
          go_upto_region 6 with (first | ((with_reducible refine gate_callee (f := 11) rfl ?_); refine goesL_ (some 41) rfl rfl Try.func11 (by kernel_rfl) rfl #[.slice A0 l0.length c0, .agg #[.int .u64 a1_0, .slice A1_1 l1_1.length c1_1, .slice A1_2 l1_2.length c1_2, .int .u64 a1_3], .int .u64 a3] rfl (by (try simp only [List.map_toArray, List.map_cons, List.map_nil]); first | done | rfl | (simp only [List.length_drop, List.length_take]; rfl)) ?_; (with_reducible refine (idem_Put.calls kj7 _ _ l0 a1_0 _ _ l1_1 _ _ l1_2 a1_3 a3 t148 t151 _ ?side1 ?side2 ?side3 ?side4 ?side5 ?side6 A24.out).mono ?_); (case side1 => repeat (first | exact (Kd.C_below HR0.out HB.out) | (with_reducible refine Kd.C_alloc ?_ _) | (with_reducible refine Kd.C_drewN ?_ _) | (with_reducible refine Kd.C_drew ?_))); (case side2 => exact HC0.out); (case side3 => exact Kd.CN (Kd.V_reads' HO_141001.out).2.2); (case side4 => exact (Kd.V_reads' HO_141001.out).2.1); (case side5 => exact Kd.CN (Kd.V_reads' HO_141002.out).2.2); (case side6 => exact (Kd.V_reads' HO_141002.out).2.1); rintro e w28 ⟨v149, rfl, ho0, hb⟩; refine ⟨_, rfl, ?_⟩; have n0_ := Aside0.mk (Kd.V_elder' (Kd.VN HO_141001) (by first | exact Kd.N_base ho0 | exact Kd.N_base (Kd.S_N ho0)) hb); have n1_ := Aside0.mk (Kd.V_elder' (Kd.VN HO_141002) (by first | exact Kd.N_base ho0 | exact Kd.N_base (Kd.S_N ho0)) hb); have n2_ := Aside0.mk (Kd.V_elder' (Kd.VN HO_142001) (by first | exact Kd.N_base ho0 | exact Kd.N_base (Kd.S_N ho0)) hb); have n3_ := Aside0.mk (Kd.V_elder' (Kd.VN HO_142002) (by first | exact Kd.N_base ho0 | exact Kd.N_base (Kd.S_N ho0)) hb); have n4_ := Aside0.mk (Kd.N_lower (Kd.N_mono (ok' := fun k_ => ((P1_1_ k_ ∨ P1_2_ k_ ∨ P2_1_ k_ ∨ P2_2_ k_) ∨ w.heap.size ≤ k_) ∧ k_ ≠ gb140 ∧ k_ ≠ gb141) (Kd.S_N (Kd.S_bound ho0)) (fun k_ hk_ => ⟨(.inr (Nat.le_trans (below_size (belN HB)) hk_.2.1)), (Kd.freshB (g := gb140) (blkN BK140) k_ hk_.2.1), (Kd.freshB (g := gb141) (blkN BK141) k_ hk_.2.1)⟩)) (below_size (belN HB))); have n5_ := Aside0.mk (blk_below (g := gb140) (blkN BK140) hb); have n6_ := Aside0.mk (blk_below (g := gb141) (blkN BK141) hb); have n7_ := Aside0.mk (below_step (belN HB) hb); clear HO_141001; clear HO_141002; clear HO_142001; clear HO_142002; clear BK140; clear BK141; clear HB; have HO_141001 := n0_; have HO_141002 := n1_; have HO_142001 := n2_; have HO_142002 := n3_; have HO150 := n4_; have BK140 := n5_; have BK141 := n6_; have HB := n7_; clear n0_ n1_ n2_ n3_ n4_ n5_ n6_ n7_; (try clear hb); (try clear hb2); (try clear hk); (try clear hi); (try clear ho0)))
          (try simp only [Act.put, List.setIfInBounds_toArray, List.set_cons_zero, List.set_cons_succ])
          go_cut [51] (fun v51 wc => ∃ (kq : Nat) (x51_24 : Bool), v51 = .bool x51_24 ∧ Aside0 (damsonlaw14_IdemOld.j1 kq a4 t148 x51_24 a1_0 l1_1 l1_2 a1_3 a2_0 l2_1 l2_2 a2_3 = some r) ∧ Aside0 (kq ≤ kj7) ∧ Aside0 (Kd.N k26 26 wc w.heap.size (fun k_ => ((P1_1_ k_ ∨ P1_2_ k_ ∨ P2_1_ k_ ∨ P2_2_ k_) ∨ w.heap.size ≤ k_) ∧ k_ ≠ gb140 ∧ k_ ≠ gb141) v149 t148) ∧ Aside0 (Kd.V (Kd.int .u8) 5 wc w.heap.size (fun k_ => ((P1_1_ k_ ∨ P1_2_ k_ ∨ P2_1_ k_ ∨ P2_2_ k_) ∨ w.heap.size ≤ k_) ∧ some k_ ≠ (v149 : Value).ownBlock ∧ k_ ≠ gb140 ∧ k_ ≠ gb141) (.slice A1_1 l1_1.length c1_1) l1_1) ∧ Aside0 (Kd.V (Kd.int .u8) 5 wc w.heap.size (fun k_ => ((P1_1_ k_ ∨ P1_2_ k_ ∨ P2_1_ k_ ∨ P2_2_ k_) ∨ w.heap.size ≤ k_) ∧ some k_ ≠ (v149 : Value).ownBlock ∧ k_ ≠ gb140 ∧ k_ ≠ gb141) (.slice A1_2 l1_2.length c1_2) l1_2) ∧ Aside0 (Kd.V (Kd.int .u8) 5 wc w.heap.size (fun k_ => ((P1_1_ k_ ∨ P1_2_ k_ ∨ P2_1_ k_ ∨ P2_2_ k_) ∨ w.heap.size ≤ k_) ∧ some k_ ≠ (v149 : Value).ownBlock ∧ k_ ≠ gb140 ∧ k_ ≠ gb141) (.slice A2_1 l2_1.length c2_1) l2_1) ∧ Aside0 (Kd.V (Kd.int .u8) 5 wc w.heap.size (fun k_ => ((P1_1_ k_ ∨ P1_2_ k_ ∨ P2_1_ k_ ∨ P2_2_ k_) ∨ w.heap.size ≤ k_) ∧ some k_ ≠ (v149 : Value).ownBlock ∧ k_ ≠ gb140 ∧ k_ ≠ gb141) (.slice A2_2 l2_2.length c2_2) l2_2) ∧ Aside0 (wc.heap[gb140]? = some (.cells #[.int .u64 a1_0, (.slice A1_1 l1_1.length c1_1), (.slice A1_2 l1_2.length c1_2), .int .u64 a1_3] 26 (0, 0))) ∧ Aside0 (wc.heap[gb141]? = some (.cells #[.int .u64 a2_0, (.slice A2_1 l2_1.length c2_1), (.slice A2_2 l2_2.length c2_2), .int .u64 a2_3] 26 (0, 0))) ∧ Aside0 (Below w.heap.size w wc))
          case first =>
            have H := HC25.out
            clear HC25
            by_cases c29 : t151 = 0
            · rw [if_pos c29] at H
              have c29b0 : (t151 == 0) = true := beq_iff_eq.mpr c29
              have c29b1 : (t151 != 0) = false := bne_eq_false_iff_eq.mpr c29
              clear c29
              (first | rw [c29b0] | (simp only [i64_w, i32_w]; rw [c29b0]) | skip)
              have H' := Aside0.mk H
              clear H
              have hnb30 := NB140_141.out
              have hnc30 := NB141_140.out
              obtain ⟨hcz31_0, hcz31_1, hcz31_2, hcz31_3, hfz31_0, hfz31_1, hfz31_2, hfz31_3⟩ := cz4_ (w := w28) BK140.out
              go_wp2
              go_meet
              case rel => exact ⟨_, (decide (a4 ≤ a1_3)), (by first | rfl | (simp; done) | (simp [*]; done)), H', ⟨by have := HJ7.out; first | omega | exact Nat.le_refl _⟩, ⟨by (with_reducible repeat (first | apply Kd.N_alloc | apply Kd.N_drewN | apply Kd.N_drew)); exact HO150.out⟩, ⟨by (with_reducible repeat (first | apply Kd.V_alloc | apply Kd.V_drewN | apply Kd.V_drew)); exact Kd.V_mono HO_141001.out (fun _ hk => ⟨hk.1.1, ⟨hk.2, ⟨hk.1.2.1, hk.1.2.2⟩⟩⟩)⟩, ⟨by (with_reducible repeat (first | apply Kd.V_alloc | apply Kd.V_drewN | apply Kd.V_drew)); exact Kd.V_mono HO_141002.out (fun _ hk => ⟨hk.1.1, ⟨hk.2, ⟨hk.1.2.1, hk.1.2.2⟩⟩⟩)⟩, ⟨by (with_reducible repeat (first | apply Kd.V_alloc | apply Kd.V_drewN | apply Kd.V_drew)); exact Kd.V_mono HO_142001.out (fun _ hk => ⟨hk.1.1, ⟨hk.2, ⟨hk.1.2.1, hk.1.2.2⟩⟩⟩)⟩, ⟨by (with_reducible repeat (first | apply Kd.V_alloc | apply Kd.V_drewN | apply Kd.V_drew)); exact Kd.V_mono HO_142002.out (fun _ hk => ⟨hk.1.1, ⟨hk.2, ⟨hk.1.2.1, hk.1.2.2⟩⟩⟩)⟩, ⟨by (with_reducible repeat (first | refine blk_drewN ?_ _ | refine blk_drew ?_ | refine blk_alloc ?_ _)); exact BK140.out⟩, ⟨by (with_reducible repeat (first | refine blk_drewN ?_ _ | refine blk_drew ?_ | refine blk_alloc ?_ _)); exact BK141.out⟩, ⟨by repeat (first | (with_reducible first | exact HB.out | apply below_alloc | apply pw_below_drewN | apply below_drew1 | refine below_set ?_ GE140.out | refine below_set ?_ GE141.out) | exact HB.out)⟩⟩
            · rw [if_neg c29] at H
              have c29b0 : (t151 == 0) = false := beq_eq_false_iff_ne.mpr c29
              have c29b1 : (t151 != 0) = true := bne_iff_ne.mpr c29
              (first | rw [c29b0] | (simp only [i64_w, i32_w]; rw [c29b0]) | skip)
              have H' := Aside0.mk H
              clear H
              go_wp2
              go_meet
              case rel => exact ⟨_, (true), (by first | rfl | (simp; done) | (simp [*]; done)), H', ⟨by have := HJ7.out; first | omega | exact Nat.le_refl _⟩, ⟨by (with_reducible repeat (first | apply Kd.N_alloc | apply Kd.N_drewN | apply Kd.N_drew)); exact HO150.out⟩, ⟨by (with_reducible repeat (first | apply Kd.V_alloc | apply Kd.V_drewN | apply Kd.V_drew)); exact Kd.V_mono HO_141001.out (fun _ hk => ⟨hk.1.1, ⟨hk.2, ⟨hk.1.2.1, hk.1.2.2⟩⟩⟩)⟩, ⟨by (with_reducible repeat (first | apply Kd.V_alloc | apply Kd.V_drewN | apply Kd.V_drew)); exact Kd.V_mono HO_141002.out (fun _ hk => ⟨hk.1.1, ⟨hk.2, ⟨hk.1.2.1, hk.1.2.2⟩⟩⟩)⟩, ⟨by (with_reducible repeat (first | apply Kd.V_alloc | apply Kd.V_drewN | apply Kd.V_drew)); exact Kd.V_mono HO_142001.out (fun _ hk => ⟨hk.1.1, ⟨hk.2, ⟨hk.1.2.1, hk.1.2.2⟩⟩⟩)⟩, ⟨by (with_reducible repeat (first | apply Kd.V_alloc | apply Kd.V_drewN | apply Kd.V_drew)); exact Kd.V_mono HO_142002.out (fun _ hk => ⟨hk.1.1, ⟨hk.2, ⟨hk.1.2.1, hk.1.2.2⟩⟩⟩)⟩, ⟨by (with_reducible repeat (first | refine blk_drewN ?_ _ | refine blk_drew ?_ | refine blk_alloc ?_ _)); exact BK140.out⟩, ⟨by (with_reducible repeat (first | refine blk_drewN ?_ _ | refine blk_drew ?_ | refine blk_alloc ?_ _)); exact BK141.out⟩, ⟨by repeat (first | (with_reducible first | exact HB.out | apply below_alloc | apply pw_below_drewN | apply below_drew1 | refine below_set ?_ GE140.out | refine below_set ?_ GE141.out) | exact HB.out)⟩⟩
          case rest =>
            clear HC25
            try clear c1
            try clear c2
            try clear p2
            try clear c3
            try clear c4
            try clear c7
            try clear c8
            try clear c9
            try clear c11
            try clear c13
            try clear c16
            try clear c23
            try clear c26
            try clear c29
            try clear c29b0
            try clear c29b1
            try clear c30
            try clear hcz17_0
            try clear hcz17_1
            try clear hcz17_2
            try clear hcz17_3
            try clear hcz18_0
            try clear hcz18_1
            try clear hcz18_2
            try clear hcz18_3
            try clear hcz27_0
            try clear hcz27_1
            try clear hcz27_2
            try clear hcz27_3
            try clear hcz31_0
            try clear hcz31_1
            try clear hcz31_2
            try clear hcz31_3
            try clear hfz17_0
            try clear hfz17_1
            try clear hfz17_2
            try clear hfz17_3
            try clear hfz18_0
            try clear hfz18_1
            try clear hfz18_2
            try clear hfz18_3
            try clear hfz27_0
            try clear hfz27_1
            try clear hfz27_2
            try clear hfz27_3
            try clear hfz31_0
            try clear hfz31_1
            try clear hfz31_2
            try clear hfz31_3
            try clear p2
            obtain ⟨kq, x51_24, rfl, HA, HJ24, HO_11, HO_141001, HO_141002, HO_142001, HO_142002, BK140, BK141, HB⟩ := hcut
            cases kq with
            | zero => exact absurd HA.out (by simp [damsonlaw14_IdemOld.j1])
            | succ kj24 =>
              have H := HA.out
              clear HA
              simp only [damsonlaw14_IdemOld.j1] at H
              by_cases c32 : x51_24 = true
              · subst c32
                have H1 : (some true) = some r := by rw [if_pos rfl] at H; exact H
                clear H
                have H := H1
                clear H1
                obtain rfl := Option.some.inj H
                go_wp2
                go_ret
                exact ⟨by first | rfl | (simp [errW_none, errW_some] <;> rfl) | (simp [*, errW_none, errW_some] <;> rfl), by repeat (first | (with_reducible first | exact HB.out | apply below_alloc | apply pw_below_drewN | apply below_drew1 | refine below_set ?_ GE140.out | refine below_set ?_ GE141.out) | exact HB.out)⟩
              · replace c32 := Bool.eq_false_iff.mpr c32
                subst c32
                have H1 : ((idem_Look.f kj24 t148 a1_0 l1_1 a4).bind fun bt152 => ((idem_Put.f kj24 t148 a1_0 l2_1 l2_2 a2_3 a4).bind fun bt156 => (if bt152.2 = 5 then (if bt156.2 = 0 then (damsonlaw14_IdemOld.j2 kj24 a4 bt156.1 bt156.2 false a1_0 l2_1 l2_2 a2_3) else (if bt156.2 = 1 then (damsonlaw14_IdemOld.j2 kj24 a4 bt156.1 bt156.2 false a1_0 l2_1 l2_2 a2_3) else (damsonlaw14_IdemOld.j2 kj24 a4 bt156.1 bt156.2 (bt156.2 != 7) a1_0 l2_1 l2_2 a2_3))) else (damsonlaw14_IdemOld.j2 kj24 a4 bt156.1 bt156.2 true a1_0 l2_1 l2_2 a2_3)))) = some r := by rw [if_neg (show ¬ (false = true) by decide)] at H; exact H
                clear H
                have H := H1
                clear H1
                replace H := Option.bind_eq_some_iff.mp H
                obtain ⟨⟨t152, t153⟩, A330, H⟩ := H
                replace H : ((idem_Put.f kj24 t148 a1_0 l2_1 l2_2 a2_3 a4).bind fun bt156 => (if t153 = 5 then (if bt156.2 = 0 then (damsonlaw14_IdemOld.j2 kj24 a4 bt156.1 bt156.2 false a1_0 l2_1 l2_2 a2_3) else (if bt156.2 = 1 then (damsonlaw14_IdemOld.j2 kj24 a4 bt156.1 bt156.2 false a1_0 l2_1 l2_2 a2_3) else (damsonlaw14_IdemOld.j2 kj24 a4 bt156.1 bt156.2 (bt156.2 != 7) a1_0 l2_1 l2_2 a2_3))) else (damsonlaw14_IdemOld.j2 kj24 a4 bt156.1 bt156.2 true a1_0 l2_1 l2_2 a2_3))) = some r := H
                have A33 := Aside0.mk A330
                clear A330
                replace H := Option.bind_eq_some_iff.mp H
                obtain ⟨⟨t156, t159⟩, A340, H⟩ := H
                replace H : (if t153 = 5 then (if t159 = 0 then (damsonlaw14_IdemOld.j2 kj24 a4 t156 t159 false a1_0 l2_1 l2_2 a2_3) else (if t159 = 1 then (damsonlaw14_IdemOld.j2 kj24 a4 t156 t159 false a1_0 l2_1 l2_2 a2_3) else (damsonlaw14_IdemOld.j2 kj24 a4 t156 t159 (t159 != 7) a1_0 l2_1 l2_2 a2_3))) else (damsonlaw14_IdemOld.j2 kj24 a4 t156 t159 true a1_0 l2_1 l2_2 a2_3)) = some r := H
                have A34 := Aside0.mk A340
                clear A340
                have HC35 := Aside0.mk H
                clear H
                have hnb36 := NB140_141.out
                have hnc36 := NB141_140.out
                obtain ⟨hcz37_0, hcz37_1, hcz37_2, hcz37_3, hfz37_0, hfz37_1, hfz37_2, hfz37_3⟩ := cz4_ (w := wc) BK140.out
                obtain ⟨Ao38, co38, eo38⟩ := Kd.N_slice HO_11.out
                subst eo38
                go_upto_region 11 with (first | ((with_reducible refine gate_callee (f := 13) rfl ?_); refine goesL_ (some 59) rfl rfl Try.func13 (by kernel_rfl) rfl #[.slice Ao38 t148.length co38, .int .u64 a1_0, .slice A1_1 l1_1.length c1_1, .int .u64 a4] rfl (by (try simp only [List.map_toArray, List.map_cons, List.map_nil]); first | done | rfl | (simp only [List.length_drop, List.length_take]; rfl)) ?_; (with_reducible refine (idem_Look.calls kj24 _ _ t148 a1_0 _ _ l1_1 a4 t152 t153 _ ?side1 ?side2 ?side3 ?side4 A33.out).mono ?_); (case side1 => exact Kd.CN (Kd.N_reads' HO_11.out).2.2); (case side2 => exact (Kd.N_reads' HO_11.out).2.1); (case side3 => exact Kd.CN (Kd.V_reads' HO_141001.out).2.2); (case side4 => exact (Kd.V_reads' HO_141001.out).2.1); rintro e w39 ⟨v154, rfl, ho0, hb⟩; refine ⟨_, rfl, ?_⟩; have n0_ := Aside0.mk (Kd.N_elder' (Kd.NN HO_11) (Kd.R_base ho0) hb); have n1_ := Aside0.mk (Kd.V_elder' (Kd.VN HO_141001) (Kd.R_base ho0) hb); have n2_ := Aside0.mk (Kd.V_elder' (Kd.VN HO_141002) (Kd.R_base ho0) hb); have n3_ := Aside0.mk (Kd.V_elder' (Kd.VN HO_142001) (Kd.R_base ho0) hb); have n4_ := Aside0.mk (Kd.V_elder' (Kd.VN HO_142002) (Kd.R_base ho0) hb); have n5_ := Aside0.mk (Kd.R_lower (Kd.R_newM (M := fun k_ => (w.heap.size ≤ k_)) ho0 (below_size (belN HB)) (fun k_ h_ => h_)) (below_size (belN HB))); have n6_ := Aside0.mk (blk_below (g := gb140) (blkN BK140) hb); have n7_ := Aside0.mk (blk_below (g := gb141) (blkN BK141) hb); have n8_ := Aside0.mk (below_step (belN HB) hb); clear HO_11; clear HO_141001; clear HO_141002; clear HO_142001; clear HO_142002; clear BK140; clear BK141; clear HB; have HO_11 := n0_; have HO_141001 := n1_; have HO_141002 := n2_; have HO_142001 := n3_; have HO_142002 := n4_; have HO155 := n5_; have BK140 := n6_; have BK141 := n7_; have HB := n8_; clear n0_ n1_ n2_ n3_ n4_ n5_ n6_ n7_ n8_; (try clear hb); (try clear hb2); (try clear hk); (try clear hi); (try clear ho0); obtain ⟨hcz40_0, hcz40_1, hcz40_2, hcz40_3, hfz40_0, hfz40_1, hfz40_2, hfz40_3⟩ := cz4_ (w := w39) BK140.out; obtain ⟨hcz41_0, hcz41_1, hcz41_2, hcz41_3, hfz41_0, hfz41_1, hfz41_2, hfz41_3⟩ := cz4_ (w := w39) BK141.out) | ((with_reducible refine gate_callee (f := 11) rfl ?_); refine goesL_ (some 69) rfl rfl Try.func11 (by kernel_rfl) rfl #[.slice Ao38 t148.length co38, .agg #[.int .u64 a1_0, .slice A2_1 l2_1.length c2_1, .slice A2_2 l2_2.length c2_2, .int .u64 a2_3], .int .u64 a4] rfl (by (try simp only [List.map_toArray, List.map_cons, List.map_nil]); first | done | rfl | (simp only [List.length_drop, List.length_take]; rfl)) ?_; (with_reducible refine (idem_Put.calls kj24 _ _ t148 a1_0 _ _ l2_1 _ _ l2_2 a2_3 a4 t156 t159 _ ?side1 ?side2 ?side3 ?side4 ?side5 ?side6 A34.out).mono ?_); (case side1 => refine (Kd.N_reads' (e := 26) (base := w.heap.size) (ok := fun k_ => ((((P1_1_ k_ ∨ P1_2_ k_ ∨ P2_1_ k_ ∨ P2_2_ k_) ∨ w.heap.size ≤ k_) ∧ (k_ ≠ gb140 ∧ k_ ≠ gb141)) ∧ some k_ ≠ (v154 : Value).ownBlock)) (n := t148.length) (c := co38) ?_).2.2; exact (by (with_reducible repeat (first | apply Kd.N_alloc | apply Kd.N_drewN | apply Kd.N_drew)); exact (Kd.N_mono (Kd.N_far (p := ⟨gb141, 0, none⟩) (Kd.N_mono HO_11.out (fun k_ hk => (⟨hk, hk.1.2.2⟩ : _ ∧ k_ ≠ gb141))) (fun _ hk => hk.2) (.int .u64 a1_0)) (fun _ h_ => h_.1)))); (case side2 => exact (Kd.N_reads' HO_11.out).2.1); (case side3 => refine (Kd.V_reads' (e := 5) (base := w.heap.size) (ok := fun k_ => ((((P1_1_ k_ ∨ P1_2_ k_ ∨ P2_1_ k_ ∨ P2_2_ k_) ∨ w.heap.size ≤ k_) ∧ (some k_ ≠ (.slice Ao38 t148.length co38 : Value).ownBlock ∧ (k_ ≠ gb140 ∧ k_ ≠ gb141))) ∧ some k_ ≠ (v154 : Value).ownBlock)) (n := l2_1.length) (c := c2_1) ?_).2.2; exact (by (with_reducible repeat (first | apply Kd.V_alloc | apply Kd.V_drewN | apply Kd.V_drew)); exact (Kd.V_mono (Kd.V_far (p := ⟨gb141, 0, none⟩) (Kd.V_mono HO_142001.out (fun k_ hk => (⟨hk, hk.1.2.2.2⟩ : _ ∧ k_ ≠ gb141))) (fun _ hk => hk.2) (.int .u64 a1_0)) (fun _ h_ => h_.1)))); (case side4 => exact (Kd.V_reads' HO_142001.out).2.1); (case side5 => refine (Kd.V_reads' (e := 5) (base := w.heap.size) (ok := fun k_ => ((((P1_1_ k_ ∨ P1_2_ k_ ∨ P2_1_ k_ ∨ P2_2_ k_) ∨ w.heap.size ≤ k_) ∧ (some k_ ≠ (.slice Ao38 t148.length co38 : Value).ownBlock ∧ (k_ ≠ gb140 ∧ k_ ≠ gb141))) ∧ some k_ ≠ (v154 : Value).ownBlock)) (n := l2_2.length) (c := c2_2) ?_).2.2; exact (by (with_reducible repeat (first | apply Kd.V_alloc | apply Kd.V_drewN | apply Kd.V_drew)); exact (Kd.V_mono (Kd.V_far (p := ⟨gb141, 0, none⟩) (Kd.V_mono HO_142002.out (fun k_ hk => (⟨hk, hk.1.2.2.2⟩ : _ ∧ k_ ≠ gb141))) (fun _ hk => hk.2) (.int .u64 a1_0)) (fun _ h_ => h_.1)))); (case side6 => exact (Kd.V_reads' HO_142002.out).2.1); rintro e w42 ⟨v157, rfl, ho0, hb⟩; refine ⟨_, rfl, ?_⟩; have n0_ := Aside0.mk (Kd.N_elder' (by (with_reducible repeat (first | apply Kd.N_alloc | apply Kd.N_drewN | apply Kd.N_drew)); exact (Kd.N_mono (Kd.N_far (p := ⟨gb141, 0, none⟩) (Kd.N_mono HO_11.out (fun k_ hk => (⟨hk, hk.1.2.2⟩ : _ ∧ k_ ≠ gb141))) (fun _ hk => hk.2) (.int .u64 a1_0)) (fun _ h_ => h_.1))) (by first | exact Kd.N_base ho0 | exact Kd.N_base (Kd.S_N ho0)) hb); have n1_ := Aside0.mk (Kd.V_elder' (by (with_reducible repeat (first | apply Kd.V_alloc | apply Kd.V_drewN | apply Kd.V_drew)); exact (Kd.V_mono (Kd.V_far (p := ⟨gb141, 0, none⟩) (Kd.V_mono HO_141001.out (fun k_ hk => (⟨hk, hk.1.2.2.2⟩ : _ ∧ k_ ≠ gb141))) (fun _ hk => hk.2) (.int .u64 a1_0)) (fun _ h_ => h_.1))) (by first | exact Kd.N_base ho0 | exact Kd.N_base (Kd.S_N ho0)) hb); have n2_ := Aside0.mk (Kd.V_elder' (by (with_reducible repeat (first | apply Kd.V_alloc | apply Kd.V_drewN | apply Kd.V_drew)); exact (Kd.V_mono (Kd.V_far (p := ⟨gb141, 0, none⟩) (Kd.V_mono HO_141002.out (fun k_ hk => (⟨hk, hk.1.2.2.2⟩ : _ ∧ k_ ≠ gb141))) (fun _ hk => hk.2) (.int .u64 a1_0)) (fun _ h_ => h_.1))) (by first | exact Kd.N_base ho0 | exact Kd.N_base (Kd.S_N ho0)) hb); have n3_ := Aside0.mk (Kd.V_elder' (by (with_reducible repeat (first | apply Kd.V_alloc | apply Kd.V_drewN | apply Kd.V_drew)); exact (Kd.V_mono (Kd.V_far (p := ⟨gb141, 0, none⟩) (Kd.V_mono HO_142001.out (fun k_ hk => (⟨hk, hk.1.2.2.2⟩ : _ ∧ k_ ≠ gb141))) (fun _ hk => hk.2) (.int .u64 a1_0)) (fun _ h_ => h_.1))) (by first | exact Kd.N_base ho0 | exact Kd.N_base (Kd.S_N ho0)) hb); have n4_ := Aside0.mk (Kd.V_elder' (by (with_reducible repeat (first | apply Kd.V_alloc | apply Kd.V_drewN | apply Kd.V_drew)); exact (Kd.V_mono (Kd.V_far (p := ⟨gb141, 0, none⟩) (Kd.V_mono HO_142002.out (fun k_ hk => (⟨hk, hk.1.2.2.2⟩ : _ ∧ k_ ≠ gb141))) (fun _ hk => hk.2) (.int .u64 a1_0)) (fun _ h_ => h_.1))) (by first | exact Kd.N_base ho0 | exact Kd.N_base (Kd.S_N ho0)) hb); have n5_ := Aside0.mk (Kd.R_below (Kd.RF HO155 BK141) hb); have n6_ := Aside0.mk (Kd.N_lower (Kd.N_mono (ok' := fun k_ => ((P1_1_ k_ ∨ P1_2_ k_ ∨ P2_1_ k_ ∨ P2_2_ k_) ∨ w.heap.size ≤ k_) ∧ some k_ ≠ (.slice Ao38 t148.length co38 : Value).ownBlock ∧ some k_ ≠ (v154 : Value).ownBlock ∧ k_ ≠ gb140 ∧ k_ ≠ gb141) (Kd.S_N (Kd.S_bound ho0)) (fun k_ hk_ => ⟨(.inr (Nat.le_trans (below_size (belN HB)) hk_.2.1)), (Kd.fresh' (Kd.N_lt (by (with_reducible repeat (first | apply Kd.N_alloc | apply Kd.N_drewN | apply Kd.N_drew)); exact (Kd.N_mono (Kd.N_far (p := ⟨gb141, 0, none⟩) (Kd.N_mono HO_11.out (fun k_ hk => (⟨hk, hk.1.2.2⟩ : _ ∧ k_ ≠ gb141))) (fun _ hk => hk.2) (.int .u64 a1_0)) (fun _ h_ => h_.1)))) k_ hk_.2.1), (Kd.fresh' (Kd.R_lt (Kd.RF HO155 BK141)) k_ hk_.2.1), (Kd.freshB (g := gb140) (blkF BK140) k_ hk_.2.1), (Kd.freshB (g := gb141) (o := .cells #[.int .u64 a1_0, .slice A2_1 l2_1.length c2_1, .slice A2_2 l2_2.length c2_2, .int .u64 a2_3] 26 (0, 0)) (by (with_reducible repeat (first | refine blk_drewN ?_ _ | refine blk_drew ?_ | refine blk_alloc ?_ _)); refine blk_put (cs := #[.int .u64 a2_0, .slice A2_1 l2_1.length c2_1, .slice A2_2 l2_2.length c2_2, .int .u64 a2_3]) ?_ 0 _ rfl; (with_reducible repeat (first | refine blk_drewN ?_ _ | refine blk_drew ?_ | refine blk_alloc ?_ _)); exact BK141.out) k_ hk_.2.1)⟩)) (below_size (belN HB))); have n7_ := Aside0.mk (blk_below (g := gb140) (blkF BK140) hb); have n8_ := Aside0.mk (blk_below (g := gb141) (o := .cells #[.int .u64 a1_0, .slice A2_1 l2_1.length c2_1, .slice A2_2 l2_2.length c2_2, .int .u64 a2_3] 26 (0, 0)) (by (with_reducible repeat (first | refine blk_drewN ?_ _ | refine blk_drew ?_ | refine blk_alloc ?_ _)); refine blk_put (cs := #[.int .u64 a2_0, .slice A2_1 l2_1.length c2_1, .slice A2_2 l2_2.length c2_2, .int .u64 a2_3]) ?_ 0 _ rfl; (with_reducible repeat (first | refine blk_drewN ?_ _ | refine blk_drew ?_ | refine blk_alloc ?_ _)); exact BK141.out) hb); have n9_ := Aside0.mk (below_step (belN HB) hb); clear HO_11; clear HO_141001; clear HO_141002; clear HO_142001; clear HO_142002; clear HO155; clear BK140; clear BK141; clear HB; have HO_11 := n0_; have HO_141001 := n1_; have HO_141002 := n2_; have HO_142001 := n3_; have HO_142002 := n4_; have HO155 := n5_; have HO158 := n6_; have BK140 := n7_; have BK141 := n8_; have HB := n9_; clear n0_ n1_ n2_ n3_ n4_ n5_ n6_ n7_ n8_ n9_; (try clear hb); (try clear hb2); (try clear hk); (try clear hi); (try clear ho0)))
                (try simp only [Act.put, List.setIfInBounds_toArray, List.set_cons_zero, List.set_cons_succ])
                go_cut [85] (fun v85 wc => ∃ (kq : Nat) (x85_34 : Bool), v85 = .bool x85_34 ∧ Aside0 (damsonlaw14_IdemOld.j2 kq a4 t156 t159 x85_34 a1_0 l2_1 l2_2 a2_3 = some r) ∧ Aside0 (kq ≤ kj24) ∧ Aside0 (Kd.N k26 26 wc w.heap.size (fun k_ => ((P1_1_ k_ ∨ P1_2_ k_ ∨ P2_1_ k_ ∨ P2_2_ k_) ∨ w.heap.size ≤ k_) ∧ k_ ≠ gb140 ∧ k_ ≠ gb141) v157 t156) ∧ Aside0 (Kd.V (Kd.int .u8) 5 wc w.heap.size (fun k_ => ((P1_1_ k_ ∨ P1_2_ k_ ∨ P2_1_ k_ ∨ P2_2_ k_) ∨ w.heap.size ≤ k_) ∧ some k_ ≠ (v157 : Value).ownBlock ∧ k_ ≠ gb140 ∧ k_ ≠ gb141) (.slice A1_1 l1_1.length c1_1) l1_1) ∧ Aside0 (Kd.V (Kd.int .u8) 5 wc w.heap.size (fun k_ => ((P1_1_ k_ ∨ P1_2_ k_ ∨ P2_1_ k_ ∨ P2_2_ k_) ∨ w.heap.size ≤ k_) ∧ some k_ ≠ (v157 : Value).ownBlock ∧ k_ ≠ gb140 ∧ k_ ≠ gb141) (.slice A1_2 l1_2.length c1_2) l1_2) ∧ Aside0 (Kd.V (Kd.int .u8) 5 wc w.heap.size (fun k_ => ((P1_1_ k_ ∨ P1_2_ k_ ∨ P2_1_ k_ ∨ P2_2_ k_) ∨ w.heap.size ≤ k_) ∧ some k_ ≠ (v157 : Value).ownBlock ∧ k_ ≠ gb140 ∧ k_ ≠ gb141) (.slice A2_1 l2_1.length c2_1) l2_1) ∧ Aside0 (Kd.V (Kd.int .u8) 5 wc w.heap.size (fun k_ => ((P1_1_ k_ ∨ P1_2_ k_ ∨ P2_1_ k_ ∨ P2_2_ k_) ∨ w.heap.size ≤ k_) ∧ some k_ ≠ (v157 : Value).ownBlock ∧ k_ ≠ gb140 ∧ k_ ≠ gb141) (.slice A2_2 l2_2.length c2_2) l2_2) ∧ Aside0 (wc.heap[gb140]? = some (.cells #[.int .u64 a1_0, (.slice A1_1 l1_1.length c1_1), (.slice A1_2 l1_2.length c1_2), .int .u64 a1_3] 26 (0, 0))) ∧ Aside0 (wc.heap[gb141]? = some (.cells #[.int .u64 a1_0, (.slice A2_1 l2_1.length c2_1), (.slice A2_2 l2_2.length c2_2), .int .u64 a2_3] 26 (0, 0))) ∧ Aside0 (Below w.heap.size w wc))
                case first =>
                  have H := HC35.out
                  clear HC35
                  by_cases c43 : t153 = 5
                  · rw [if_pos c43] at H
                    have c43b0 : (t153 == 5) = true := beq_iff_eq.mpr c43
                    have c43b1 : (t153 != 5) = false := bne_eq_false_iff_eq.mpr c43
                    clear c43
                    (first | rw [c43b0] | (simp only [i64_w, i32_w]; rw [c43b0]) | skip)
                    by_cases c44 : t159 = 0
                    · rw [if_pos c44] at H
                      have c44b0 : (t159 == 0) = true := beq_iff_eq.mpr c44
                      have c44b1 : (t159 != 0) = false := bne_eq_false_iff_eq.mpr c44
                      clear c44
                      have H' := Aside0.mk H
                      clear H
                      go_wp2
                      go_meet
                      case rel => exact ⟨_, (false), (by first | rfl | (simp; done) | (simp [*]; done)), H', ⟨by have := HJ7.out; have := HJ24.out; first | omega | exact Nat.le_refl _⟩, ⟨by (with_reducible repeat (first | apply Kd.N_alloc | apply Kd.N_drewN | apply Kd.N_drew)); exact Kd.N_mono HO158.out (fun _ hk => ⟨hk.1, ⟨hk.2.2.2.1, hk.2.2.2.2⟩⟩)⟩, ⟨by (with_reducible repeat (first | apply Kd.V_alloc | apply Kd.V_drewN | apply Kd.V_drew)); exact Kd.V_mono HO_141001.out (fun _ hk => ⟨hk.1.1.1, ⟨hk.2, ⟨hk.1.1.2.2.1, hk.1.1.2.2.2⟩⟩⟩)⟩, ⟨by (with_reducible repeat (first | apply Kd.V_alloc | apply Kd.V_drewN | apply Kd.V_drew)); exact Kd.V_mono HO_141002.out (fun _ hk => ⟨hk.1.1.1, ⟨hk.2, ⟨hk.1.1.2.2.1, hk.1.1.2.2.2⟩⟩⟩)⟩, ⟨by (with_reducible repeat (first | apply Kd.V_alloc | apply Kd.V_drewN | apply Kd.V_drew)); exact Kd.V_mono HO_142001.out (fun _ hk => ⟨hk.1.1.1, ⟨hk.2, ⟨hk.1.1.2.2.1, hk.1.1.2.2.2⟩⟩⟩)⟩, ⟨by (with_reducible repeat (first | apply Kd.V_alloc | apply Kd.V_drewN | apply Kd.V_drew)); exact Kd.V_mono HO_142002.out (fun _ hk => ⟨hk.1.1.1, ⟨hk.2, ⟨hk.1.1.2.2.1, hk.1.1.2.2.2⟩⟩⟩)⟩, ⟨by (with_reducible repeat (first | refine blk_drewN ?_ _ | refine blk_drew ?_ | refine blk_alloc ?_ _)); exact BK140.out⟩, ⟨by (with_reducible repeat (first | refine blk_drewN ?_ _ | refine blk_drew ?_ | refine blk_alloc ?_ _)); exact BK141.out⟩, ⟨by repeat (first | (with_reducible first | exact HB.out | apply below_alloc | apply pw_below_drewN | apply below_drew1 | refine below_set ?_ GE140.out | refine below_set ?_ GE141.out) | exact HB.out)⟩⟩
                    · rw [if_neg c44] at H
                      have c44b0 : (t159 == 0) = false := beq_eq_false_iff_ne.mpr c44
                      have c44b1 : (t159 != 0) = true := bne_iff_ne.mpr c44
                      by_cases c45 : t159 = 1
                      · rw [if_pos c45] at H
                        have c45b0 : (t159 == 1) = true := beq_iff_eq.mpr c45
                        have c45b1 : (t159 != 1) = false := bne_eq_false_iff_eq.mpr c45
                        clear c45
                        have H' := Aside0.mk H
                        clear H
                        go_wp2
                        go_meet
                        case rel => exact ⟨_, (false), (by first | rfl | (simp; done) | (simp [*]; done)), H', ⟨by have := HJ7.out; have := HJ24.out; first | omega | exact Nat.le_refl _⟩, ⟨by (with_reducible repeat (first | apply Kd.N_alloc | apply Kd.N_drewN | apply Kd.N_drew)); exact Kd.N_mono HO158.out (fun _ hk => ⟨hk.1, ⟨hk.2.2.2.1, hk.2.2.2.2⟩⟩)⟩, ⟨by (with_reducible repeat (first | apply Kd.V_alloc | apply Kd.V_drewN | apply Kd.V_drew)); exact Kd.V_mono HO_141001.out (fun _ hk => ⟨hk.1.1.1, ⟨hk.2, ⟨hk.1.1.2.2.1, hk.1.1.2.2.2⟩⟩⟩)⟩, ⟨by (with_reducible repeat (first | apply Kd.V_alloc | apply Kd.V_drewN | apply Kd.V_drew)); exact Kd.V_mono HO_141002.out (fun _ hk => ⟨hk.1.1.1, ⟨hk.2, ⟨hk.1.1.2.2.1, hk.1.1.2.2.2⟩⟩⟩)⟩, ⟨by (with_reducible repeat (first | apply Kd.V_alloc | apply Kd.V_drewN | apply Kd.V_drew)); exact Kd.V_mono HO_142001.out (fun _ hk => ⟨hk.1.1.1, ⟨hk.2, ⟨hk.1.1.2.2.1, hk.1.1.2.2.2⟩⟩⟩)⟩, ⟨by (with_reducible repeat (first | apply Kd.V_alloc | apply Kd.V_drewN | apply Kd.V_drew)); exact Kd.V_mono HO_142002.out (fun _ hk => ⟨hk.1.1.1, ⟨hk.2, ⟨hk.1.1.2.2.1, hk.1.1.2.2.2⟩⟩⟩)⟩, ⟨by (with_reducible repeat (first | refine blk_drewN ?_ _ | refine blk_drew ?_ | refine blk_alloc ?_ _)); exact BK140.out⟩, ⟨by (with_reducible repeat (first | refine blk_drewN ?_ _ | refine blk_drew ?_ | refine blk_alloc ?_ _)); exact BK141.out⟩, ⟨by repeat (first | (with_reducible first | exact HB.out | apply below_alloc | apply pw_below_drewN | apply below_drew1 | refine below_set ?_ GE140.out | refine below_set ?_ GE141.out) | exact HB.out)⟩⟩
                      · rw [if_neg c45] at H
                        have c45b0 : (t159 == 1) = false := beq_eq_false_iff_ne.mpr c45
                        have c45b1 : (t159 != 1) = true := bne_iff_ne.mpr c45
                        have H' := Aside0.mk H
                        clear H
                        go_wp2
                        go_meet
                        case rel => exact ⟨_, ((t159 != 7)), (by first | rfl | (simp; done) | (simp [*]; done)), H', ⟨by have := HJ7.out; have := HJ24.out; first | omega | exact Nat.le_refl _⟩, ⟨by (with_reducible repeat (first | apply Kd.N_alloc | apply Kd.N_drewN | apply Kd.N_drew)); exact Kd.N_mono HO158.out (fun _ hk => ⟨hk.1, ⟨hk.2.2.2.1, hk.2.2.2.2⟩⟩)⟩, ⟨by (with_reducible repeat (first | apply Kd.V_alloc | apply Kd.V_drewN | apply Kd.V_drew)); exact Kd.V_mono HO_141001.out (fun _ hk => ⟨hk.1.1.1, ⟨hk.2, ⟨hk.1.1.2.2.1, hk.1.1.2.2.2⟩⟩⟩)⟩, ⟨by (with_reducible repeat (first | apply Kd.V_alloc | apply Kd.V_drewN | apply Kd.V_drew)); exact Kd.V_mono HO_141002.out (fun _ hk => ⟨hk.1.1.1, ⟨hk.2, ⟨hk.1.1.2.2.1, hk.1.1.2.2.2⟩⟩⟩)⟩, ⟨by (with_reducible repeat (first | apply Kd.V_alloc | apply Kd.V_drewN | apply Kd.V_drew)); exact Kd.V_mono HO_142001.out (fun _ hk => ⟨hk.1.1.1, ⟨hk.2, ⟨hk.1.1.2.2.1, hk.1.1.2.2.2⟩⟩⟩)⟩, ⟨by (with_reducible repeat (first | apply Kd.V_alloc | apply Kd.V_drewN | apply Kd.V_drew)); exact Kd.V_mono HO_142002.out (fun _ hk => ⟨hk.1.1.1, ⟨hk.2, ⟨hk.1.1.2.2.1, hk.1.1.2.2.2⟩⟩⟩)⟩, ⟨by (with_reducible repeat (first | refine blk_drewN ?_ _ | refine blk_drew ?_ | refine blk_alloc ?_ _)); exact BK140.out⟩, ⟨by (with_reducible repeat (first | refine blk_drewN ?_ _ | refine blk_drew ?_ | refine blk_alloc ?_ _)); exact BK141.out⟩, ⟨by repeat (first | (with_reducible first | exact HB.out | apply below_alloc | apply pw_below_drewN | apply below_drew1 | refine below_set ?_ GE140.out | refine below_set ?_ GE141.out) | exact HB.out)⟩⟩
                  · rw [if_neg c43] at H
                    have c43b0 : (t153 == 5) = false := beq_eq_false_iff_ne.mpr c43
                    have c43b1 : (t153 != 5) = true := bne_iff_ne.mpr c43
                    (first | rw [c43b0] | (simp only [i64_w, i32_w]; rw [c43b0]) | skip)
                    have H' := Aside0.mk H
                    clear H
                    go_wp2
                    go_meet
                    case rel => exact ⟨_, (true), (by first | rfl | (simp; done) | (simp [*]; done)), H', ⟨by have := HJ7.out; have := HJ24.out; first | omega | exact Nat.le_refl _⟩, ⟨by (with_reducible repeat (first | apply Kd.N_alloc | apply Kd.N_drewN | apply Kd.N_drew)); exact Kd.N_mono HO158.out (fun _ hk => ⟨hk.1, ⟨hk.2.2.2.1, hk.2.2.2.2⟩⟩)⟩, ⟨by (with_reducible repeat (first | apply Kd.V_alloc | apply Kd.V_drewN | apply Kd.V_drew)); exact Kd.V_mono HO_141001.out (fun _ hk => ⟨hk.1.1.1, ⟨hk.2, ⟨hk.1.1.2.2.1, hk.1.1.2.2.2⟩⟩⟩)⟩, ⟨by (with_reducible repeat (first | apply Kd.V_alloc | apply Kd.V_drewN | apply Kd.V_drew)); exact Kd.V_mono HO_141002.out (fun _ hk => ⟨hk.1.1.1, ⟨hk.2, ⟨hk.1.1.2.2.1, hk.1.1.2.2.2⟩⟩⟩)⟩, ⟨by (with_reducible repeat (first | apply Kd.V_alloc | apply Kd.V_drewN | apply Kd.V_drew)); exact Kd.V_mono HO_142001.out (fun _ hk => ⟨hk.1.1.1, ⟨hk.2, ⟨hk.1.1.2.2.1, hk.1.1.2.2.2⟩⟩⟩)⟩, ⟨by (with_reducible repeat (first | apply Kd.V_alloc | apply Kd.V_drewN | apply Kd.V_drew)); exact Kd.V_mono HO_142002.out (fun _ hk => ⟨hk.1.1.1, ⟨hk.2, ⟨hk.1.1.2.2.1, hk.1.1.2.2.2⟩⟩⟩)⟩, ⟨by (with_reducible repeat (first | refine blk_drewN ?_ _ | refine blk_drew ?_ | refine blk_alloc ?_ _)); exact BK140.out⟩, ⟨by (with_reducible repeat (first | refine blk_drewN ?_ _ | refine blk_drew ?_ | refine blk_alloc ?_ _)); exact BK141.out⟩, ⟨by repeat (first | (with_reducible first | exact HB.out | apply below_alloc | apply pw_below_drewN | apply below_drew1 | refine below_set ?_ GE140.out | refine below_set ?_ GE141.out) | exact HB.out)⟩⟩
                case rest =>
                  clear HC35
                  try clear c1
                  try clear c2
                  try clear p2
                  try clear c3
                  try clear c4
                  try clear c7
                  try clear c8
                  try clear c9
                  try clear c11
                  try clear c13
                  try clear c16
                  try clear c23
                  try clear c26
                  try clear c29
                  try clear c29b0
                  try clear c29b1
                  try clear c30
                  try clear c32
                  try clear c36
                  try clear c43
                  try clear c43b0
                  try clear c43b1
                  try clear c44
                  try clear c44b0
                  try clear c44b1
                  try clear c45
                  try clear c45b0
                  try clear c45b1
                  try clear hcz17_0
                  try clear hcz17_1
                  try clear hcz17_2
                  try clear hcz17_3
                  try clear hcz18_0
                  try clear hcz18_1
                  try clear hcz18_2
                  try clear hcz18_3
                  try clear hcz27_0
                  try clear hcz27_1
                  try clear hcz27_2
                  try clear hcz27_3
                  try clear hcz31_0
                  try clear hcz31_1
                  try clear hcz31_2
                  try clear hcz31_3
                  try clear hcz37_0
                  try clear hcz37_1
                  try clear hcz37_2
                  try clear hcz37_3
                  try clear hcz40_0
                  try clear hcz40_1
                  try clear hcz40_2
                  try clear hcz40_3
                  try clear hcz41_0
                  try clear hcz41_1
                  try clear hcz41_2
                  try clear hcz41_3
                  try clear hfz17_0
                  try clear hfz17_1
                  try clear hfz17_2
                  try clear hfz17_3
                  try clear hfz18_0
                  try clear hfz18_1
                  try clear hfz18_2
                  try clear hfz18_3
                  try clear hfz27_0
                  try clear hfz27_1
                  try clear hfz27_2
                  try clear hfz27_3
                  try clear hfz31_0
                  try clear hfz31_1
                  try clear hfz31_2
                  try clear hfz31_3
                  try clear hfz37_0
                  try clear hfz37_1
                  try clear hfz37_2
                  try clear hfz37_3
                  try clear hfz40_0
                  try clear hfz40_1
                  try clear hfz40_2
                  try clear hfz40_3
                  try clear hfz41_0
                  try clear hfz41_1
                  try clear hfz41_2
                  try clear hfz41_3
                  try clear p2
                  obtain ⟨kq, x85_34, rfl, HA, HJ34, HO_15, HO_141001, HO_141002, HO_142001, HO_142002, BK140, BK141, HB⟩ := hcut
                  cases kq with
                  | zero => exact absurd HA.out (by simp [damsonlaw14_IdemOld.j2])
                  | succ kj34 =>
                    have H := HA.out
                    clear HA
                    simp only [damsonlaw14_IdemOld.j2] at H
                    by_cases c46 : x85_34 = true
                    · subst c46
                      have H1 : (some false) = some r := by rw [if_pos rfl] at H; exact H
                      clear H
                      have H := H1
                      clear H1
                      obtain rfl := Option.some.inj H
                      go_wp2
                      go_ret
                      exact ⟨by first | rfl | (simp [errW_none, errW_some] <;> rfl) | (simp [*, errW_none, errW_some] <;> rfl), by repeat (first | (with_reducible first | exact HB.out | apply below_alloc | apply pw_below_drewN | apply below_drew1 | refine below_set ?_ GE140.out | refine below_set ?_ GE141.out) | exact HB.out)⟩
                    · replace c46 := Bool.eq_false_iff.mpr c46
                      subst c46
                      have H1 : (if t159 = 0 then ((idem_Look.f kj34 t156 a1_0 l2_1 (mn a4 a2_3)).bind fun bt160 => (if bt160.2 = 0 then ((damsonref01_SameBytes.f bt160.1 l2_2).bind fun t164 => (some t164)) else (some false))) else (some ((t156.length : Int) == 0))) = some r := by rw [if_neg (show ¬ (false = true) by decide)] at H; exact H
                      clear H
                      have H := H1
                      clear H1
                      by_cases c47 : t159 = 0
                      · rw [if_pos c47] at H
                        have c47b0 : (t159 == 0) = true := beq_iff_eq.mpr c47
                        have c47b1 : (t159 != 0) = false := bne_eq_false_iff_eq.mpr c47
                        clear c47
                        obtain ⟨ji48, hji48⟩ : ∃ j_ : Int, (mn a4 a2_3) = j_ := ⟨_, rfl⟩
                        replace H : ((idem_Look.f kj34 t156 a1_0 l2_1 (ji48)).bind fun bt160 => (if bt160.2 = 0 then ((damsonref01_SameBytes.f bt160.1 l2_2).bind fun t164 => (some t164)) else (some false))) = some r := by first | (rw [hji48] at H; exact H) | (simp only [hji48] at H ⊢; exact H)
                        have hji48_ : (if a2_3 < a4 then a2_3 else a4) = ji48 := hji48
                        replace H := Option.bind_eq_some_iff.mp H
                        obtain ⟨⟨t160, t161⟩, A490, H⟩ := H
                        replace H : (if t161 = 0 then ((damsonref01_SameBytes.f t160 l2_2).bind fun t164 => (some t164)) else (some false)) = some r := H
                        have A49 := Aside0.mk A490
                        clear A490
                        by_cases c50 : t161 = 0
                        · rw [if_pos c50] at H
                          have c50b0 : (t161 == 0) = true := beq_iff_eq.mpr c50
                          have c50b1 : (t161 != 0) = false := bne_eq_false_iff_eq.mpr c50
                          clear c50
                          replace H := Option.bind_eq_some_iff.mp H
                          obtain ⟨t164, A510, H⟩ := H
                          replace H : (some t164) = some r := H
                          have A51 := Aside0.mk A510
                          clear A510
                          obtain rfl := Option.some.inj H
                          have hnb52 := NB141_140.out
                          have hnc52 := NB140_141.out
                          obtain ⟨hcz53_0, hcz53_1, hcz53_2, hcz53_3, hfz53_0, hfz53_1, hfz53_2, hfz53_3⟩ := cz4_ (w := wc) BK141.out
                          obtain ⟨Ao54, co54, eo54⟩ := Kd.N_slice HO_15.out
                          subst eo54
                          go_wp2_with (first | ((with_reducible refine gate_callee (f := 13) rfl ?_); refine goesL_ (some 101) rfl rfl Try.func13 (by kernel_rfl) rfl #[.slice Ao54 t156.length co54, .int .u64 a1_0, .slice A2_1 l2_1.length c2_1, .int .u64 ji48] rfl (by (try simp only [List.map_toArray, List.map_cons, List.map_nil]); first | done | (simp only [hji48]; rfl) | rfl | (simp only [List.length_drop, List.length_take]; rfl)) ?_; (with_reducible refine (idem_Look.calls kj34 _ _ t156 a1_0 _ _ l2_1 ji48 t160 t161 _ ?side1 ?side2 ?side3 ?side4 A49.out).mono ?_); (case side1 => exact Kd.CN (Kd.N_reads' HO_15.out).2.2); (case side2 => exact (Kd.N_reads' HO_15.out).2.1); (case side3 => exact Kd.CN (Kd.V_reads' HO_142001.out).2.2); (case side4 => exact (Kd.V_reads' HO_142001.out).2.1); rintro e w55 ⟨v162, rfl, ho0, hb⟩; refine ⟨_, rfl, ?_⟩; have n0_ := Aside0.mk (Kd.N_elder' (Kd.NN HO_15) (Kd.R_base ho0) hb); have n1_ := Aside0.mk (Kd.V_elder' (Kd.VN HO_141001) (Kd.R_base ho0) hb); have n2_ := Aside0.mk (Kd.V_elder' (Kd.VN HO_141002) (Kd.R_base ho0) hb); have n3_ := Aside0.mk (Kd.V_elder' (Kd.VN HO_142001) (Kd.R_base ho0) hb); have n4_ := Aside0.mk (Kd.V_elder' (Kd.VN HO_142002) (Kd.R_base ho0) hb); have n5_ := Aside0.mk (Kd.R_lower (Kd.R_newM (M := fun k_ => (w.heap.size ≤ k_)) ho0 (below_size (belN HB)) (fun k_ h_ => h_)) (below_size (belN HB))); have n6_ := Aside0.mk (blk_below (g := gb140) (blkN BK140) hb); have n7_ := Aside0.mk (blk_below (g := gb141) (blkN BK141) hb); have n8_ := Aside0.mk (below_step (belN HB) hb); clear HO_15; clear HO_141001; clear HO_141002; clear HO_142001; clear HO_142002; clear BK140; clear BK141; clear HB; have HO_15 := n0_; have HO_141001 := n1_; have HO_141002 := n2_; have HO_142001 := n3_; have HO_142002 := n4_; have HO163 := n5_; have BK140 := n6_; have BK141 := n7_; have HB := n8_; clear n0_ n1_ n2_ n3_ n4_ n5_ n6_ n7_ n8_; (try clear hb); (try clear hb2); (try clear hk); (try clear hi); (try clear ho0); obtain ⟨hcz56_0, hcz56_1, hcz56_2, hcz56_3, hfz56_0, hfz56_1, hfz56_2, hfz56_3⟩ := cz4_ (w := w55) BK141.out; obtain ⟨Ao57, co57, eo57⟩ := Kd.R_slice HO163.out; subst eo57) | (go_at_call 14; (with_reducible refine (damsonref01_SameBytes.calls _ _ t160 _ _ l2_2 t164 _ ?side1 ?side2 ?side3 ?side4 A51.out).mono ?_); (case side1 => exact Kd.CN (Kd.R_reads' HO163.out).2.2); (case side2 => exact (Kd.R_reads' HO163.out).2.1); (case side3 => exact Kd.CN (Kd.V_reads' HO_142002.out).2.2); (case side4 => exact (Kd.V_reads' HO_142002.out).2.1); rintro e w' ⟨rfl, ⟨nd, rfl⟩⟩))
                          go_ret
                          exact ⟨by first | rfl | (simp [errW_none, errW_some] <;> rfl) | (simp only [← hji48]; first | rfl | (simp [errW_none, errW_some] <;> rfl)) | (simp [*, errW_none, errW_some] <;> rfl), by repeat (first | (with_reducible first | exact HB.out | apply below_alloc | apply pw_below_drewN | apply below_drew1 | refine below_set ?_ GE140.out | refine below_set ?_ GE141.out) | exact HB.out)⟩
                        · rw [if_neg c50] at H
                          have c50b0 : (t161 == 0) = false := beq_eq_false_iff_ne.mpr c50
                          have c50b1 : (t161 != 0) = true := bne_iff_ne.mpr c50
                          obtain rfl := Option.some.inj H
                          have hnb58 := NB141_140.out
                          have hnc58 := NB140_141.out
                          obtain ⟨hcz59_0, hcz59_1, hcz59_2, hcz59_3, hfz59_0, hfz59_1, hfz59_2, hfz59_3⟩ := cz4_ (w := wc) BK141.out
                          obtain ⟨Ao60, co60, eo60⟩ := Kd.N_slice HO_15.out
                          subst eo60
                          go_wp2_with (first | ((with_reducible refine gate_callee (f := 13) rfl ?_); refine goesL_ (some 101) rfl rfl Try.func13 (by kernel_rfl) rfl #[.slice Ao60 t156.length co60, .int .u64 a1_0, .slice A2_1 l2_1.length c2_1, .int .u64 ji48] rfl (by (try simp only [List.map_toArray, List.map_cons, List.map_nil]); first | done | (simp only [hji48]; rfl) | rfl | (simp only [List.length_drop, List.length_take]; rfl)) ?_; (with_reducible refine (idem_Look.calls kj34 _ _ t156 a1_0 _ _ l2_1 ji48 t160 t161 _ ?side1 ?side2 ?side3 ?side4 A49.out).mono ?_); (case side1 => exact Kd.CN (Kd.N_reads' HO_15.out).2.2); (case side2 => exact (Kd.N_reads' HO_15.out).2.1); (case side3 => exact Kd.CN (Kd.V_reads' HO_142001.out).2.2); (case side4 => exact (Kd.V_reads' HO_142001.out).2.1); rintro e w61 ⟨v162, rfl, ho0, hb⟩; refine ⟨_, rfl, ?_⟩; have n0_ := Aside0.mk (Kd.N_elder' (Kd.NN HO_15) (Kd.R_base ho0) hb); have n1_ := Aside0.mk (Kd.V_elder' (Kd.VN HO_141001) (Kd.R_base ho0) hb); have n2_ := Aside0.mk (Kd.V_elder' (Kd.VN HO_141002) (Kd.R_base ho0) hb); have n3_ := Aside0.mk (Kd.V_elder' (Kd.VN HO_142001) (Kd.R_base ho0) hb); have n4_ := Aside0.mk (Kd.V_elder' (Kd.VN HO_142002) (Kd.R_base ho0) hb); have n5_ := Aside0.mk (Kd.R_lower (Kd.R_newM (M := fun k_ => (w.heap.size ≤ k_)) ho0 (below_size (belN HB)) (fun k_ h_ => h_)) (below_size (belN HB))); have n6_ := Aside0.mk (blk_below (g := gb140) (blkN BK140) hb); have n7_ := Aside0.mk (blk_below (g := gb141) (blkN BK141) hb); have n8_ := Aside0.mk (below_step (belN HB) hb); clear HO_15; clear HO_141001; clear HO_141002; clear HO_142001; clear HO_142002; clear BK140; clear BK141; clear HB; have HO_15 := n0_; have HO_141001 := n1_; have HO_141002 := n2_; have HO_142001 := n3_; have HO_142002 := n4_; have HO163 := n5_; have BK140 := n6_; have BK141 := n7_; have HB := n8_; clear n0_ n1_ n2_ n3_ n4_ n5_ n6_ n7_ n8_; (try clear hb); (try clear hb2); (try clear hk); (try clear hi); (try clear ho0)))
                          go_ret
                          exact ⟨by first | rfl | (simp [errW_none, errW_some] <;> rfl) | (simp only [← hji48]; first | rfl | (simp [errW_none, errW_some] <;> rfl)) | (simp [*, errW_none, errW_some] <;> rfl), by repeat (first | (with_reducible first | exact HB.out | apply below_alloc | apply pw_below_drewN | apply below_drew1 | refine below_set ?_ GE140.out | refine below_set ?_ GE141.out) | exact HB.out)⟩
                      · rw [if_neg c47] at H
                        have c47b0 : (t159 == 0) = false := beq_eq_false_iff_ne.mpr c47
                        have c47b1 : (t159 != 0) = true := bne_iff_ne.mpr c47
                        obtain rfl := Option.some.inj H
                        obtain ⟨Ao62, co62, eo62⟩ := Kd.N_slice HO_15.out
                        subst eo62
                        go_wp2
                        go_ret
                        exact ⟨by first | rfl | (simp [errW_none, errW_some] <;> rfl) | (simp [*, errW_none, errW_some] <;> rfl), by repeat (first | (with_reducible first | exact HB.out | apply below_alloc | apply pw_below_drewN | apply below_drew1 | refine below_set ?_ GE140.out | refine below_set ?_ GE141.out) | exact HB.out)⟩
  · replace c7 := Bool.eq_false_iff.mpr c7
    subst c7
    have H1 : (some false) = some r := by rw [if_neg (show ¬ (false = true) by decide)] at H; exact H
    clear H
    have H := H1
    clear H1
    obtain rfl := Option.some.inj H
    go_enter Try.func4, Try.ntmps4
    go_wp2_with (first | ((with_reducible refine gate_dst (N := 6) rfl ?_); (try (refine gate_guard (by rfl) ?_; dsimp only)); refine box_event ?hg (N := 6) ?hd (cs := #[.int .u64 a1_0, .slice A1_1 l1_1.length c1_1, .slice A1_2 l1_2.length c1_2, .int .u64 a1_3]) (t := 26) ?hr ?_; (case hd => rfl); (case hg => rfl); (case hr => first | (go_simp; done) | (go_simp; rfl)); intro gb140 hg w63 hbox hb; have n0_ := Aside0.mk (Kd.V_below (Kd.V_elderB (Kd.VN HO1_1) gb140 (Nat.le_of_eq hg.symm)) hb); have n1_ := Aside0.mk (Kd.V_below (Kd.V_elderB (Kd.VN HO1_2) gb140 (Nat.le_of_eq hg.symm)) hb); have n2_ := Aside0.mk (Kd.V_below (Kd.V_elderB (Kd.VN HO2_1) gb140 (Nat.le_of_eq hg.symm)) hb); have n3_ := Aside0.mk (Kd.V_below (Kd.V_elderB (Kd.VN HO2_2) gb140 (Nat.le_of_eq hg.symm)) hb); have n4_ := Aside0.mk (below_step (belN HB) hb); have n5_ := Aside0.mk (hbox); have n6_ := Aside0.mk ((by rw [hg]; exact (below_size (belN HB)) : w.heap.size ≤ gb140)); have n7_ := Aside0.mk ((by rw [hg]; exact (below_size (belN HB)) : w.heap.size ≤ gb140)); clear HO1_1; clear HO1_2; clear HO2_1; clear HO2_2; clear HB; have HO1_1 := n0_; have HO1_2 := n1_; have HO2_1 := n2_; have HO2_2 := n3_; have HB := n4_; have BK140 := n5_; have GW140 := n6_; have GE140 := n7_; clear n0_ n1_ n2_ n3_ n4_ n5_ n6_ n7_; clear hb hbox hg) | ((with_reducible refine gate_dst (N := 7) rfl ?_); (try (refine gate_guard (by rfl) ?_; dsimp only)); refine box_event ?hg (N := 7) ?hd (cs := #[.int .u64 a2_0, .slice A2_1 l2_1.length c2_1, .slice A2_2 l2_2.length c2_2, .int .u64 a2_3]) (t := 26) ?hr ?_; (case hd => rfl); (case hg => rfl); (case hr => first | (go_simp; done) | (go_simp; rfl)); intro gb141 hg w64 hbox hb; have n0_ := Aside0.mk (Kd.V_below (Kd.V_elderB (Kd.VN HO1_1) gb141 (Nat.le_of_eq hg.symm)) hb); have n1_ := Aside0.mk (Kd.V_below (Kd.V_elderB (Kd.VN HO1_2) gb141 (Nat.le_of_eq hg.symm)) hb); have n2_ := Aside0.mk (Kd.V_below (Kd.V_elderB (Kd.VN HO2_1) gb141 (Nat.le_of_eq hg.symm)) hb); have n3_ := Aside0.mk (Kd.V_below (Kd.V_elderB (Kd.VN HO2_2) gb141 (Nat.le_of_eq hg.symm)) hb); have n4_ := Aside0.mk (blk_below (g := gb140) (blkN BK140) hb); have n5_ := Aside0.mk (below_step (belN HB) hb); have n6_ := Aside0.mk (hbox); have n7_ := Aside0.mk ((by rw [hg]; exact (below_size (belN HB)) : w.heap.size ≤ gb141)); have n8_ := Aside0.mk ((by rw [hg]; exact (below_size (belN HB)) : w.heap.size ≤ gb141)); have n9_ := Aside0.mk ((by rw [hg]; exact Nat.ne_of_lt (blk_lt (g := gb140) (blkN BK140)) : gb140 ≠ gb141)); have n10_ := Aside0.mk ((by rw [hg]; exact Nat.ne_of_gt (blk_lt (g := gb140) (blkN BK140)) : gb141 ≠ gb140)); clear HO1_1; clear HO1_2; clear HO2_1; clear HO2_2; clear BK140; clear HB; have HO1_1 := n0_; have HO1_2 := n1_; have HO2_1 := n2_; have HO2_2 := n3_; have BK140 := n4_; have HB := n5_; have BK141 := n6_; have GW141 := n7_; have GE141 := n8_; have NB140_141 := n9_; have NB141_140 := n10_; clear n0_ n1_ n2_ n3_ n4_ n5_ n6_ n7_ n8_ n9_ n10_; clear hb hbox hg) | ((with_reducible refine gate_callee (f := 8) rfl ?_); refine goesL_ (some 19) rfl rfl Try.func8 (by kernel_rfl) rfl #[] rfl (by (try simp only [List.map_toArray, List.map_cons, List.map_nil]); first | done | rfl | (simp only [List.length_drop, List.length_take]; rfl)) ?_; (with_reducible refine (damsonlaw14_live.calls k  false _ A6.out).mono ?_); rintro e w65 ⟨rfl, hb⟩; refine ⟨_, rfl, ?_⟩; have n0_ := Aside0.mk (Kd.V_below (Kd.VN HO1_1) hb); have n1_ := Aside0.mk (Kd.V_below (Kd.VN HO1_2) hb); have n2_ := Aside0.mk (Kd.V_below (Kd.VN HO2_1) hb); have n3_ := Aside0.mk (Kd.V_below (Kd.VN HO2_2) hb); have n4_ := Aside0.mk (blk_below (g := gb140) (blkN BK140) hb); have n5_ := Aside0.mk (blk_below (g := gb141) (blkN BK141) hb); have n6_ := Aside0.mk (below_step (belN HB) hb); clear HO1_1; clear HO1_2; clear HO2_1; clear HO2_2; clear BK140; clear BK141; clear HB; have HO1_1 := n0_; have HO1_2 := n1_; have HO2_1 := n2_; have HO2_2 := n3_; have BK140 := n4_; have BK141 := n5_; have HB := n6_; clear n0_ n1_ n2_ n3_ n4_ n5_ n6_; (try clear hb); (try clear hb2); (try clear hk); (try clear hi)))
    go_ret
    exact ⟨by first | rfl | (simp [errW_none, errW_some] <;> rfl) | (simp [*, errW_none, errW_some] <;> rfl), by repeat (first | (with_reducible first | exact HB.out | apply below_alloc | apply pw_below_drewN | apply below_drew1 | refine below_set ?_ GE140.out | refine below_set ?_ GE141.out) | exact HB.out)⟩

/-- THE ONE PURE STATEMENT of damsonlaw14_IdemOld: yours. -/
def damsonlaw14_IdemOld.Pure : Prop := ∀ (l0 : List (S26)) (s1 : S26) (s2 : S26) (a3 : Int) (a4 : Int), (l0.length ≤ 9223372036854775807 ∧ ∀ y_ ∈ l0, G26 y_) → G26 s1 → G26 s2 → (Lit.int .u64 a3).wf = true → (Lit.int .u64 a4).wf = true → ∃ k, damsonlaw14_IdemOld.f k l0 (s1.f0) (s1.f1) (s1.f2) (s1.f3) (s2.f0) (s2.f1) (s2.f2) (s2.f3) a3 a4 = some true
theorem damsonlaw14_IdemOld.walk (P : damsonlaw14_IdemOld.Pure) (w : World) (l0 : List (S26)) (A0 : Option Addr) (c0 : Nat) (hr0 : Kd.C k26 w A0 l0.length l0) (hc0 : l0.length ≤ c0) (g0 : l0.length ≤ 9223372036854775807 ∧ ∀ y_ ∈ l0, G26 y_) (s1 : S26) (A1_1 : Option Addr) (c1_1 : Nat) (hr1_1 : Kd.C (Kd.int .u8) w A1_1 (s1.f1).length (s1.f1)) (hc1_1 : (s1.f1).length ≤ c1_1) (A1_2 : Option Addr) (c1_2 : Nat) (hr1_2 : Kd.C (Kd.int .u8) w A1_2 (s1.f2).length (s1.f2)) (hc1_2 : (s1.f2).length ≤ c1_2) (g1 : G26 s1) (s2 : S26) (A2_1 : Option Addr) (c2_1 : Nat) (hr2_1 : Kd.C (Kd.int .u8) w A2_1 (s2.f1).length (s2.f1)) (hc2_1 : (s2.f1).length ≤ c2_1) (A2_2 : Option Addr) (c2_2 : Nat) (hr2_2 : Kd.C (Kd.int .u8) w A2_2 (s2.f2).length (s2.f2)) (hc2_2 : (s2.f2).length ≤ c2_2) (g2 : G26 s2) (a3 : Int) (g3 : (Lit.int .u64 a3).wf = true) (a4 : Int) (g4 : (Lit.int .u64 a4).wf = true) :
    Calls Try.prog 4 #[.slice A0 l0.length c0, .agg #[.int .u64 (s1.f0), .slice A1_1 (s1.f1).length c1_1, .slice A1_2 (s1.f2).length c1_2, .int .u64 (s1.f3)], .agg #[.int .u64 (s2.f0), .slice A2_1 (s2.f1).length c2_1, .slice A2_2 (s2.f2).length c2_2, .int .u64 (s2.f3)], .int .u64 a3, .int .u64 a4] w fun e w' => e = .returned (.bool true) ∧ Below w.heap.size w w' := by
  obtain ⟨k, h⟩ := P l0 s1 s2 a3 a4 g0 g1 g2 g3 g4
  refine (damsonlaw14_IdemOld.calls k A0 c0 l0 (s1.f0) (fun _ => True) A1_1 c1_1 (s1.f1) (fun _ => True) A1_2 c1_2 (s1.f2) (s1.f3) (s2.f0) (fun _ => True) A2_1 c2_1 (s2.f1) (fun _ => True) A2_2 c2_2 (s2.f2) (s2.f3) a3 a4 true w hr0 hc0 (V_all (moves_scalar _ _) hr1_1 hc1_1) (V_all (moves_scalar _ _) hr1_2 hc1_2) (V_all (moves_scalar _ _) hr2_1 hc2_1) (V_all (moves_scalar _ _) hr2_2 hc2_2) h).mono ?_
  rintro e w' ⟨rfl, hd⟩
  exact ⟨rfl, hd⟩

end Go.Proofs.Ytmoncgfffdddeaa.P
