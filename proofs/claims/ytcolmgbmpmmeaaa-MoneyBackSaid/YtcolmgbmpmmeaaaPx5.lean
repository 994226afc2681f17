-- written by a program of this session (wip/print)
import Derived.Test.YtcolmgbmpmmeaaaPx0
import Derived.Test.YtcolmgbmpmmeaaaPx1
import Derived.Test.YtcolmgbmpmmeaaaPx2
import Derived.Test.YtcolmgbmpmmeaaaPx3
import Derived.Test.YtcolmgbmpmmeaaaPx4
namespace Go.Proofs.Ytcolmgbmpmmeaaa.P
open Go.RowKit Go.Proofs.YtcolmgbmpmmeaaaW.PrintWords Go.Proofs.YtcolmgbmpmmeaaaW.PrintLast Go.Proofs.YtcolmgbmpmmeaaaW.PrintMore
attribute [local go_sem] max2_int min2_int max_two min_two max_three min_three max_four min_four run_sub64_   -- for this text's walks alone
set_option linter.unusedVariables false
set_option linter.unusedSimpArgs false

/-! ### damsonlaw04_MoneySplit: function 4 -/
mutual
def damsonlaw04_MoneySplit.j0 : Nat → Int → List Int → List Int → Bool → Option (Bool)
  | 0, _, _, _, _ => none
  | k + 1, x0, x1, x5, x51 => if x51 = true then (some false) else (damsonlaw04_MoneySplit.l0 k x0 x1 x5 0 x1 (x1.length : Int) 0)
def damsonlaw04_MoneySplit.l0 : Nat → Int → List Int → List Int → Int → List Int → Int → Int → Option (Bool)
  | 0, _, _, _, _, _, _, _ => none
  | k + 1, x0, x1, x5, x9, x52, x53, x54 => if x54 < x53 then (if 0 ≤ x54 then (if x54 < (x52.length : Int) then (damsonlaw04_MoneySplit.l0 k x0 x1 x5 (IntKind.u64.wrap (x9 + (rd x52 x54))) x52 x53 (wrap64 (x54 + 1))) else (none)) else (none)) else (damsonlaw04_MoneySplit.l1 k x0 x5 x9 x1 (x1.length : Int) 0)
def damsonlaw04_MoneySplit.l1 : Nat → Int → List Int → Int → List Int → Int → Int → Option (Bool)
  | 0, _, _, _, _, _, _ => none
  | k + 1, x0, x5, x9, x62, x63, x64 => if x64 < x63 then (if 0 ≤ x64 then (if x64 < (x62.length : Int) then (if x9 = 0 then (none) else (if (rd x62 x64) = 0 then (if x64 < (x5.length : Int) then (if (rd x5 x64) = 0 then (if (rd x5 x64) = (IntKind.u64.wrap ((IntKind.u64.wrap ((IntKind.u64.wrap (Int.tdiv x0 x9)) * (rd x62 x64))) + (IntKind.u64.wrap (Int.tdiv (IntKind.u64.wrap ((Int.tmod x0 x9) * (rd x62 x64))) x9)))) then (damsonlaw04_MoneySplit.l1 k x0 x5 x9 x62 x63 (wrap64 (x64 + 1))) else (if (rd x5 x64) = (IntKind.u64.wrap ((IntKind.u64.wrap ((IntKind.u64.wrap ((IntKind.u64.wrap (Int.tdiv x0 x9)) * (rd x62 x64))) + (IntKind.u64.wrap (Int.tdiv (IntKind.u64.wrap ((Int.tmod x0 x9) * (rd x62 x64))) x9)))) + 1)) then (damsonlaw04_MoneySplit.l1 k x0 x5 x9 x62 x63 (wrap64 (x64 + 1))) else (some false))) else (some false)) else (none)) else (if x64 < (x5.length : Int) then (if (rd x5 x64) = (IntKind.u64.wrap ((IntKind.u64.wrap ((IntKind.u64.wrap (Int.tdiv x0 x9)) * (rd x62 x64))) + (IntKind.u64.wrap (Int.tdiv (IntKind.u64.wrap ((Int.tmod x0 x9) * (rd x62 x64))) x9)))) then (damsonlaw04_MoneySplit.l1 k x0 x5 x9 x62 x63 (wrap64 (x64 + 1))) else (if (rd x5 x64) = (IntKind.u64.wrap ((IntKind.u64.wrap ((IntKind.u64.wrap ((IntKind.u64.wrap (Int.tdiv x0 x9)) * (rd x62 x64))) + (IntKind.u64.wrap (Int.tdiv (IntKind.u64.wrap ((Int.tmod x0 x9) * (rd x62 x64))) x9)))) + 1)) then (damsonlaw04_MoneySplit.l1 k x0 x5 x9 x62 x63 (wrap64 (x64 + 1))) else (some false))) else (none)))) else (none)) else (none)) else (some true)
end
def damsonlaw04_MoneySplit.f (k : Nat) (a0 : Int) (l1 : List Int) : Option (Bool) := (damsonlaw04_live.f k).bind fun t158 => (if t158 = true then ((money_Split.f k a0 l1).bind fun bt159 => (if bt159.2 = 0 then ((money_Add.f k bt159.1).bind fun bt163 => (if bt163.2 = 0 then (if bt163.1 = a0 then (if (bt159.1.length : Int) = (l1.length : Int) then (damsonlaw04_MoneySplit.j0 k a0 l1 bt159.1 (decide ((bt159.1.length : Int) > 64))) else (damsonlaw04_MoneySplit.j0 k a0 l1 bt159.1 true)) else (damsonlaw04_MoneySplit.j0 k a0 l1 bt159.1 true)) else (damsonlaw04_MoneySplit.j0 k a0 l1 bt159.1 true))) else (some ((bt159.1.length : Int) == 0)))) else (some false))
theorem damsonlaw04_MoneySplit.mono_l : ∀ k, (∀ y0 y1 y2 y3, LeO (damsonlaw04_MoneySplit.j0 k y0 y1 y2 y3) (damsonlaw04_MoneySplit.j0 (k + 1) y0 y1 y2 y3)) ∧ (∀ y0 y1 y2 y3 y4 y5 y6, LeO (damsonlaw04_MoneySplit.l0 k y0 y1 y2 y3 y4 y5 y6) (damsonlaw04_MoneySplit.l0 (k + 1) y0 y1 y2 y3 y4 y5 y6)) ∧ (∀ y0 y1 y2 y3 y4 y5, LeO (damsonlaw04_MoneySplit.l1 k y0 y1 y2 y3 y4 y5) (damsonlaw04_MoneySplit.l1 (k + 1) y0 y1 y2 y3 y4 y5))
  | 0 => ⟨fun _ _ _ _ r h => by simp [damsonlaw04_MoneySplit.j0] at h, fun _ _ _ _ _ _ _ r h => by simp [damsonlaw04_MoneySplit.l0] at h, fun _ _ _ _ _ _ r h => by simp [damsonlaw04_MoneySplit.l1] at h⟩
  | k + 1 => by
    obtain ⟨ih0, ih1, ih2⟩ := damsonlaw04_MoneySplit.mono_l k
    refine ⟨?_, ?_, ?_⟩
    · intro y0 y1 y2 y3
      unfold damsonlaw04_MoneySplit.j0
      repeat' first
      | (with_reducible exact ih0 _ _ _ _)
      | (with_reducible exact ih1 _ _ _ _ _ _ _)
      | (with_reducible exact ih2 _ _ _ _ _ _)
      | (with_reducible exact damsonlaw04_live.mono _)
      | (with_reducible exact money_Add.mono _ _)
      | (with_reducible exact money_Split.mono _ _ _)
      | (with_reducible exact LeO.refl _)
      | (with_reducible exact LeO.none _)
      | (with_reducible refine LeO.ite ?_ ?_)
      | (with_reducible refine LeO.bind ?_ (fun _ => ?_))
      | exact ih0 _ _ _ _
      | exact ih1 _ _ _ _ _ _ _
      | exact ih2 _ _ _ _ _ _
      | exact damsonlaw04_live.mono _
      | exact money_Add.mono _ _
      | exact money_Split.mono _ _ _
      | exact LeO.none _
      | refine LeO.ite ?_ ?_
      | refine LeO.bind ?_ (fun _ => ?_)
    · intro y0 y1 y2 y3 y4 y5 y6
      unfold damsonlaw04_MoneySplit.l0
      repeat' first
      | (with_reducible exact ih0 _ _ _ _)
      | (with_reducible exact ih1 _ _ _ _ _ _ _)
      | (with_reducible exact ih2 _ _ _ _ _ _)
      | (with_reducible exact damsonlaw04_live.mono _)
      | (with_reducible exact money_Add.mono _ _)
      | (with_reducible exact money_Split.mono _ _ _)
      | (with_reducible exact LeO.refl _)
      | (with_reducible exact LeO.none _)
      | (with_reducible refine LeO.ite ?_ ?_)
      | (with_reducible refine LeO.bind ?_ (fun _ => ?_))
      | exact ih0 _ _ _ _
      | exact ih1 _ _ _ _ _ _ _
      | exact ih2 _ _ _ _ _ _
      | exact damsonlaw04_live.mono _
      | exact money_Add.mono _ _
      | exact money_Split.mono _ _ _
      | exact LeO.none _
      | refine LeO.ite ?_ ?_
      | refine LeO.bind ?_ (fun _ => ?_)
    · intro y0 y1 y2 y3 y4 y5
      unfold damsonlaw04_MoneySplit.l1
      repeat' first
      | (with_reducible exact ih0 _ _ _ _)
      | (with_reducible exact ih1 _ _ _ _ _ _ _)
      | (with_reducible exact ih2 _ _ _ _ _ _)
      | (with_reducible exact damsonlaw04_live.mono _)
      | (with_reducible exact money_Add.mono _ _)
      | (with_reducible exact money_Split.mono _ _ _)
      | (with_reducible exact LeO.refl _)
      | (with_reducible exact LeO.none _)
      | (with_reducible refine LeO.ite ?_ ?_)
      | (with_reducible refine LeO.bind ?_ (fun _ => ?_))
      | exact ih0 _ _ _ _
      | exact ih1 _ _ _ _ _ _ _
      | exact ih2 _ _ _ _ _ _
      | exact damsonlaw04_live.mono _
      | exact money_Add.mono _ _
      | exact money_Split.mono _ _ _
      | exact LeO.none _
      | refine LeO.ite ?_ ?_
      | refine LeO.bind ?_ (fun _ => ?_)
theorem damsonlaw04_MoneySplit.mono : ∀ a0 a1 k, LeO (damsonlaw04_MoneySplit.f k a0 a1) (damsonlaw04_MoneySplit.f (k + 1) a0 a1) := by
  intro a0 a1 k
  obtain ⟨ih0, ih1, ih2⟩ := damsonlaw04_MoneySplit.mono_l k
  unfold damsonlaw04_MoneySplit.f
  repeat' first
      | (with_reducible exact ih0 _ _ _ _)
      | (with_reducible exact ih1 _ _ _ _ _ _ _)
      | (with_reducible exact ih2 _ _ _ _ _ _)
      | (with_reducible exact damsonlaw04_live.mono _)
      | (with_reducible exact money_Add.mono _ _)
      | (with_reducible exact money_Split.mono _ _ _)
      | (with_reducible exact LeO.refl _)
      | (with_reducible exact LeO.none _)
      | (with_reducible refine LeO.ite ?_ ?_)
      | (with_reducible refine LeO.bind ?_ (fun _ => ?_))
      | exact ih0 _ _ _ _
      | exact ih1 _ _ _ _ _ _ _
      | exact ih2 _ _ _ _ _ _
      | exact damsonlaw04_live.mono _
      | exact money_Add.mono _ _
      | exact money_Split.mono _ _ _
      | exact LeO.none _
      | refine LeO.ite ?_ ?_
      | refine LeO.bind ?_ (fun _ => ?_)
set_option maxHeartbeats 8000000 in
set_option maxRecDepth 100000 in
theorem damsonlaw04_MoneySplit.calls (k : Nat) (a0 : Int) (A1 : Option Addr) (c1 : Nat) (l1 : List Int) (r : Bool) (w : World) (hr1 : Kd.C (Kd.int .u64) w A1 l1.length l1) (hc1 : l1.length ≤ c1) (h : damsonlaw04_MoneySplit.f k a0 l1 = some r) :
    Calls Try.prog 4 #[.int .u64 a0, .slice A1 l1.length c1] w fun e w' => e = .returned (.bool r) ∧ Below w.heap.size w w' := by
  have HR1 := Aside0.mk hr1
  have HC1 := Aside0.mk hc1
  clear hr1 hc1
  have HB := Aside0.mk (Below.refl w.heap.size w)
  have H : ((damsonlaw04_live.f k).bind fun t158 => (if t158 = true then ((money_Split.f k a0 l1).bind fun bt159 => (if bt159.2 = 0 then ((money_Add.f k bt159.1).bind fun bt163 => (if bt163.2 = 0 then (if bt163.1 = a0 then (if (bt159.1.length : Int) = (l1.length : Int) then (damsonlaw04_MoneySplit.j0 k a0 l1 bt159.1 (decide ((bt159.1.length : Int) > 64))) else (damsonlaw04_MoneySplit.j0 k a0 l1 bt159.1 true)) else (damsonlaw04_MoneySplit.j0 k a0 l1 bt159.1 true)) else (damsonlaw04_MoneySplit.j0 k a0 l1 bt159.1 true))) else (some ((bt159.1.length : Int) == 0)))) else (some false))) = some r := h
  clear h
  replace H := Option.bind_eq_some_iff.mp H
  obtain ⟨t158, A30, H⟩ := H
  replace H : (if t158 = true then ((money_Split.f k a0 l1).bind fun bt159 => (if bt159.2 = 0 then ((money_Add.f k bt159.1).bind fun bt163 => (if bt163.2 = 0 then (if bt163.1 = a0 then (if (bt159.1.length : Int) = (l1.length : Int) then (damsonlaw04_MoneySplit.j0 k a0 l1 bt159.1 (decide ((bt159.1.length : Int) > 64))) else (damsonlaw04_MoneySplit.j0 k a0 l1 bt159.1 true)) else (damsonlaw04_MoneySplit.j0 k a0 l1 bt159.1 true)) else (damsonlaw04_MoneySplit.j0 k a0 l1 bt159.1 true))) else (some ((bt159.1.length : Int) == 0)))) else (some false)) = some r := H
  have A3 := Aside0.mk A30
  clear A30
  by_cases c4 : t158 = true
  · subst c4
    have H1 : ((money_Split.f k a0 l1).bind fun bt159 => (if bt159.2 = 0 then ((money_Add.f k bt159.1).bind fun bt163 => (if bt163.2 = 0 then (if bt163.1 = a0 then (if (bt159.1.length : Int) = (l1.length : Int) then (damsonlaw04_MoneySplit.j0 k a0 l1 bt159.1 (decide ((bt159.1.length : Int) > 64))) else (damsonlaw04_MoneySplit.j0 k a0 l1 bt159.1 true)) else (damsonlaw04_MoneySplit.j0 k a0 l1 bt159.1 true)) else (damsonlaw04_MoneySplit.j0 k a0 l1 bt159.1 true))) else (some ((bt159.1.length : Int) == 0)))) = some r := by rw [if_pos rfl] at H; exact H
    clear H
    have H := H1
    clear H1
    replace H := Option.bind_eq_some_iff.mp H
    obtain ⟨⟨t159, t160⟩, A50, H⟩ := H
    replace H : (if t160 = 0 then ((money_Add.f k t159).bind fun bt163 => (if bt163.2 = 0 then (if bt163.1 = a0 then (if (t159.length : Int) = (l1.length : Int) then (damsonlaw04_MoneySplit.j0 k a0 l1 t159 (decide ((t159.length : Int) > 64))) else (damsonlaw04_MoneySplit.j0 k a0 l1 t159 true)) else (damsonlaw04_MoneySplit.j0 k a0 l1 t159 true)) else (damsonlaw04_MoneySplit.j0 k a0 l1 t159 true))) else (some ((t159.length : Int) == 0))) = some r := H
    have A5 := Aside0.mk A50
    clear A50
    by_cases c6 : t160 = 0
    · rw [if_pos c6] at H
      have c6b0 : (t160 == 0) = true := beq_iff_eq.mpr c6
      have c6b1 : (t160 != 0) = false := bne_eq_false_iff_eq.mpr c6
      clear c6
      replace H := Option.bind_eq_some_iff.mp H
      obtain ⟨⟨t163, t164⟩, A70, H⟩ := H
      replace H : (if t164 = 0 then (if t163 = a0 then (if (t159.length : Int) = (l1.length : Int) then (damsonlaw04_MoneySplit.j0 k a0 l1 t159 (decide ((t159.length : Int) > 64))) else (damsonlaw04_MoneySplit.j0 k a0 l1 t159 true)) else (damsonlaw04_MoneySplit.j0 k a0 l1 t159 true)) else (damsonlaw04_MoneySplit.j0 k a0 l1 t159 true)) = some r := H
      have A7 := Aside0.mk A70
      clear A70
      have HC8 := Aside0.mk H
      clear H
      go_enter Try.func4, Try.ntmps4
      go_upto_region 7 with (first | (go_at_call 9; (with_reducible refine (damsonlaw04_live.calls k  true _ A3.out).mono ?_); rintro e w9 ⟨rfl, hb⟩; have n0_ := Aside0.mk (below_step (by repeat (first | (with_reducible first | exact HB.out | apply below_alloc | apply pw_below_drewN | apply below_drew1) | exact HB.out)) hb); clear HB; have HB := n0_; clear n0_; (try clear hb); (try clear hb2); (try clear hk); (try clear hi)) | (go_at_call 10; (with_reducible refine (money_Split.calls k a0 _ _ l1 t159 t160 _ ?side1 ?side2 A5.out).mono ?_); (case side1 => repeat (first | exact (Kd.C_below HR1.out HB.out) | (with_reducible refine Kd.C_alloc ?_ _) | (with_reducible refine Kd.C_drewN ?_ _) | (with_reducible refine Kd.C_drew ?_))); (case side2 => exact HC1.out); rintro e w10 ⟨v161, rfl, ho0, hb⟩; have n0_ := Aside0.mk (Kd.R_lower ho0 (below_size (by repeat (first | (with_reducible first | exact HB.out | apply below_alloc | apply pw_below_drewN | apply below_drew1) | exact HB.out)))); have n1_ := Aside0.mk (below_step (by repeat (first | (with_reducible first | exact HB.out | apply below_alloc | apply pw_below_drewN | apply below_drew1) | exact HB.out)) hb); clear HB; have HO162 := n0_; have HB := n1_; clear n0_ n1_; (try clear hb); (try clear hb2); (try clear hk); (try clear hi); (try clear ho0); obtain ⟨Ao11, co11, eo11⟩ := Kd.R_slice HO162.out; subst eo11) | (go_at_call 11; (with_reducible refine (money_Add.calls k _ _ t159 t163 t164 _ ?side1 ?side2 A7.out).mono ?_); (case side1 => repeat (first | exact (Kd.R_reads' HO162.out).2.2 | (with_reducible refine Kd.C_alloc ?_ _) | (with_reducible refine Kd.C_drewN ?_ _) | (with_reducible refine Kd.C_drew ?_))); (case side2 => exact (Kd.R_reads' HO162.out).2.1); rintro e w12 ⟨rfl, hb⟩; have n0_ := Aside0.mk (Kd.R_below (by (with_reducible repeat (first | apply Kd.R_alloc | apply Kd.R_drewN | apply Kd.R_drew)); exact HO162.out) hb); have n1_ := Aside0.mk (below_step (by repeat (first | (with_reducible first | exact HB.out | apply below_alloc | apply pw_below_drewN | apply below_drew1) | exact HB.out)) hb); clear HO162; clear HB; have HO162 := n0_; have HB := n1_; clear n0_ n1_; (try clear hb); (try clear hb2); (try clear hk); (try clear hi)))
      repeat (go_quiet (first | (go_at_call 9; (with_reducible refine (damsonlaw04_live.calls k  true _ A3.out).mono ?_); rintro e w9 ⟨rfl, hb⟩; have n0_ := Aside0.mk (below_step (by repeat (first | (with_reducible first | exact HB.out | apply below_alloc | apply pw_below_drewN | apply below_drew1) | exact HB.out)) hb); clear HB; have HB := n0_; clear n0_; (try clear hb); (try clear hb2); (try clear hk); (try clear hi)) | (go_at_call 10; (with_reducible refine (money_Split.calls k a0 _ _ l1 t159 t160 _ ?side1 ?side2 A5.out).mono ?_); (case side1 => repeat (first | exact (Kd.C_below HR1.out HB.out) | (with_reducible refine Kd.C_alloc ?_ _) | (with_reducible refine Kd.C_drewN ?_ _) | (with_reducible refine Kd.C_drew ?_))); (case side2 => exact HC1.out); rintro e w10 ⟨v161, rfl, ho0, hb⟩; have n0_ := Aside0.mk (Kd.R_lower ho0 (below_size (by repeat (first | (with_reducible first | exact HB.out | apply below_alloc | apply pw_below_drewN | apply below_drew1) | exact HB.out)))); have n1_ := Aside0.mk (below_step (by repeat (first | (with_reducible first | exact HB.out | apply below_alloc | apply pw_below_drewN | apply below_drew1) | exact HB.out)) hb); clear HB; have HO162 := n0_; have HB := n1_; clear n0_ n1_; (try clear hb); (try clear hb2); (try clear hk); (try clear hi); (try clear ho0); obtain ⟨Ao11, co11, eo11⟩ := Kd.R_slice HO162.out; subst eo11) | (go_at_call 11; (with_reducible refine (money_Add.calls k _ _ t159 t163 t164 _ ?side1 ?side2 A7.out).mono ?_); (case side1 => repeat (first | exact (Kd.R_reads' HO162.out).2.2 | (with_reducible refine Kd.C_alloc ?_ _) | (with_reducible refine Kd.C_drewN ?_ _) | (with_reducible refine Kd.C_drew ?_))); (case side2 => exact (Kd.R_reads' HO162.out).2.1); rintro e w12 ⟨rfl, hb⟩; have n0_ := Aside0.mk (Kd.R_below (by (with_reducible repeat (first | apply Kd.R_alloc | apply Kd.R_drewN | apply Kd.R_drew)); exact HO162.out) hb); have n1_ := Aside0.mk (below_step (by repeat (first | (with_reducible first | exact HB.out | apply below_alloc | apply pw_below_drewN | apply below_drew1) | exact HB.out)) hb); clear HO162; clear HB; have HO162 := n0_; have HB := n1_; clear n0_ n1_; (try clear hb); (try clear hb2); (try clear hk); (try clear hi))); go_upto_region 7 with (first | (go_at_call 9; (with_reducible refine (damsonlaw04_live.calls k  true _ A3.out).mono ?_); rintro e w9 ⟨rfl, hb⟩; have n0_ := Aside0.mk (below_step (by repeat (first | (with_reducible first | exact HB.out | apply below_alloc | apply pw_below_drewN | apply below_drew1) | exact HB.out)) hb); clear HB; have HB := n0_; clear n0_; (try clear hb); (try clear hb2); (try clear hk); (try clear hi)) | (go_at_call 10; (with_reducible refine (money_Split.calls k a0 _ _ l1 t159 t160 _ ?side1 ?side2 A5.out).mono ?_); (case side1 => repeat (first | exact (Kd.C_below HR1.out HB.out) | (with_reducible refine Kd.C_alloc ?_ _) | (with_reducible refine Kd.C_drewN ?_ _) | (with_reducible refine Kd.C_drew ?_))); (case side2 => exact HC1.out); rintro e w10 ⟨v161, rfl, ho0, hb⟩; have n0_ := Aside0.mk (Kd.R_lower ho0 (below_size (by repeat (first | (with_reducible first | exact HB.out | apply below_alloc | apply pw_below_drewN | apply below_drew1) | exact HB.out)))); have n1_ := Aside0.mk (below_step (by repeat (first | (with_reducible first | exact HB.out | apply below_alloc | apply pw_below_drewN | apply below_drew1) | exact HB.out)) hb); clear HB; have HO162 := n0_; have HB := n1_; clear n0_ n1_; (try clear hb); (try clear hb2); (try clear hk); (try clear hi); (try clear ho0); obtain ⟨Ao11, co11, eo11⟩ := Kd.R_slice HO162.out; subst eo11) | (go_at_call 11; (with_reducible refine (money_Add.calls k _ _ t159 t163 t164 _ ?side1 ?side2 A7.out).mono ?_); (case side1 => repeat (first | exact (Kd.R_reads' HO162.out).2.2 | (with_reducible refine Kd.C_alloc ?_ _) | (with_reducible refine Kd.C_drewN ?_ _) | (with_reducible refine Kd.C_drew ?_))); (case side2 => exact (Kd.R_reads' HO162.out).2.1); rintro e w12 ⟨rfl, hb⟩; have n0_ := Aside0.mk (Kd.R_below (by (with_reducible repeat (first | apply Kd.R_alloc | apply Kd.R_drewN | apply Kd.R_drew)); exact HO162.out) hb); have n1_ := Aside0.mk (below_step (by repeat (first | (with_reducible first | exact HB.out | apply below_alloc | apply pw_below_drewN | apply below_drew1) | exact HB.out)) hb); clear HO162; clear HB; have HO162 := n0_; have HB := n1_; clear n0_ n1_; (try clear hb); (try clear hb2); (try clear hk); (try clear hi))))
      (try simp only [Act.put, List.setIfInBounds_toArray, List.set_cons_zero, List.set_cons_succ])
      go_cut [51] (fun v51 wc => ∃ (kq : Nat) (x51_7 : Bool), v51 = .bool x51_7 ∧ Aside0 (damsonlaw04_MoneySplit.j0 kq a0 l1 t159 x51_7 = some r) ∧ Aside0 (kq ≤ k) ∧ Aside0 (Kd.R (Kd.int .u64) 22 wc w.heap.size (fun _ => True) (.slice Ao11 t159.length co11) t159) ∧ Aside0 (Below w.heap.size w wc))
      case first =>
        have H := HC8.out
        clear HC8
        by_cases c13 : t164 = 0
        · rw [if_pos c13] at H
          have c13b0 : (t164 == 0) = true := beq_iff_eq.mpr c13
          have c13b1 : (t164 != 0) = false := bne_eq_false_iff_eq.mpr c13
          clear c13
          (first | rw [c13b0] | (simp only [i64_w, i32_w]; rw [c13b0]) | skip)
          by_cases c14 : t163 = a0
          · rw [if_pos c14] at H
            have c14b0 : (t163 == a0) = true := beq_iff_eq.mpr c14
            have c14b1 : (t163 != a0) = false := bne_eq_false_iff_eq.mpr c14
            clear c14
            by_cases c15 : (t159.length : Int) = (l1.length : Int)
            · rw [if_pos c15] at H
              have c15b0 : ((t159.length : Int) == (l1.length : Int)) = true := beq_iff_eq.mpr c15
              have c15b1 : ((t159.length : Int) != (l1.length : Int)) = false := bne_eq_false_iff_eq.mpr c15
              have c15b2 : (t159.length == l1.length) = true := by first | simpa using c15 | (simp at c15 ⊢; omega)
              clear c15
              have H' := Aside0.mk H
              clear H
              go_wp2
              repeat (go_quiet (fail); try go_wp2)
              go_meet
              case rel => exact ⟨_, (decide ((t159.length : Int) > 64)), (by first | rfl | (simp; done) | (simp [*]; done)), H', ⟨by first | omega | exact Nat.le_refl _⟩, ⟨by (with_reducible repeat (first | apply Kd.R_alloc | apply Kd.R_drewN | apply Kd.R_drew)); exact HO162.out⟩, ⟨by repeat (first | (with_reducible first | exact HB.out | apply below_alloc | apply pw_below_drewN | apply below_drew1) | exact HB.out)⟩⟩
            · rw [if_neg c15] at H
              have c15b0 : ((t159.length : Int) == (l1.length : Int)) = false := beq_eq_false_iff_ne.mpr c15
              have c15b1 : ((t159.length : Int) != (l1.length : Int)) = true := bne_iff_ne.mpr c15
              have c15b2 : (t159.length == l1.length) = false := by first | simpa using c15 | (simp at c15 ⊢; omega)
              have H' := Aside0.mk H
              clear H
              go_wp2
              repeat (go_quiet (fail); try go_wp2)
              go_meet
              case rel => exact ⟨_, (true), (by first | rfl | (simp; done) | (simp [*]; done)), H', ⟨by first | omega | exact Nat.le_refl _⟩, ⟨by (with_reducible repeat (first | apply Kd.R_alloc | apply Kd.R_drewN | apply Kd.R_drew)); exact HO162.out⟩, ⟨by repeat (first | (with_reducible first | exact HB.out | apply below_alloc | apply pw_below_drewN | apply below_drew1) | exact HB.out)⟩⟩
          · rw [if_neg c14] at H
            have c14b0 : (t163 == a0) = false := beq_eq_false_iff_ne.mpr c14
            have c14b1 : (t163 != a0) = true := bne_iff_ne.mpr c14
            have H' := Aside0.mk H
            clear H
            go_wp2
            repeat (go_quiet (fail); try go_wp2)
            go_meet
            case rel => exact ⟨_, (true), (by first | rfl | (simp; done) | (simp [*]; done)), H', ⟨by first | omega | exact Nat.le_refl _⟩, ⟨by (with_reducible repeat (first | apply Kd.R_alloc | apply Kd.R_drewN | apply Kd.R_drew)); exact HO162.out⟩, ⟨by repeat (first | (with_reducible first | exact HB.out | apply below_alloc | apply pw_below_drewN | apply below_drew1) | exact HB.out)⟩⟩
        · rw [if_neg c13] at H
          have c13b0 : (t164 == 0) = false := beq_eq_false_iff_ne.mpr c13
          have c13b1 : (t164 != 0) = true := bne_iff_ne.mpr c13
          (first | rw [c13b0] | (simp only [i64_w, i32_w]; rw [c13b0]) | skip)
          have H' := Aside0.mk H
          clear H
          go_wp2
          repeat (go_quiet (fail); try go_wp2)
          go_meet
          case rel => exact ⟨_, (true), (by first | rfl | (simp; done) | (simp [*]; done)), H', ⟨by first | omega | exact Nat.le_refl _⟩, ⟨by (with_reducible repeat (first | apply Kd.R_alloc | apply Kd.R_drewN | apply Kd.R_drew)); exact HO162.out⟩, ⟨by repeat (first | (with_reducible first | exact HB.out | apply below_alloc | apply pw_below_drewN | apply below_drew1) | exact HB.out)⟩⟩
      case rest =>
        clear HC8
        try clear c1
        try clear p2
        try clear c4
        try clear c6
        try clear c6b0
        try clear c6b1
        try clear c13
        try clear c13b0
        try clear c13b1
        try clear c14
        try clear c14b0
        try clear c14b1
        try clear c15
        try clear c15b0
        try clear c15b1
        try clear c15b2
        obtain ⟨kq, x51_7, rfl, HA, HJ7, HO_5, HB⟩ := hcut
        cases kq with
        | zero => exact absurd HA.out (by simp [damsonlaw04_MoneySplit.j0])
        | succ kj7 =>
          have H := HA.out
          clear HA
          simp only [damsonlaw04_MoneySplit.j0] at H
          by_cases c16 : x51_7 = true
          · subst c16
            have H1 : (some false) = some r := by rw [if_pos rfl] at H; exact H
            clear H
            have H := H1
            clear H1
            obtain rfl := Option.some.inj H
            go_wp2
            repeat (go_quiet (fail); try go_wp2)
            go_ret
            exact ⟨by first | rfl | (simp [errW_none, errW_some] <;> rfl) | (simp [*, errW_none, errW_some] <;> rfl), by repeat (first | (with_reducible first | exact HB.out | apply below_alloc | apply pw_below_drewN | apply below_drew1) | exact HB.out)⟩
          · replace c16 := Bool.eq_false_iff.mpr c16
            subst c16
            have H1 : (damsonlaw04_MoneySplit.l0 kj7 a0 l1 t159 0 l1 (l1.length : Int) 0) = some r := by rw [if_neg (show ¬ (false = true) by decide)] at H; exact H
            clear H
            have H := H1
            clear H1
            have H' := Aside0.mk H
            clear H
            go_wp2
            repeat (go_quiet (fail); try go_wp2)
            go_loopg [9, 54] kj7 (fun kq v9 v54 w' => ∃ (x9_2 : Int) (x54_2 : Int), v9 = .int .u64 x9_2 ∧ v54 = .int .i64 x54_2 ∧ Aside0 (damsonlaw04_MoneySplit.l0 kq a0 l1 t159 x9_2 l1 (l1.length : Int) x54_2 = some r) ∧ Aside0 (kq ≤ kj7) ∧ Aside0 (Kd.R (Kd.int .u64) 22 w' w.heap.size (fun _ => True) (.slice Ao11 t159.length co11) t159) ∧ Aside0 (Below w.heap.size w w'))
            case atStart => exact ⟨(0), (0), (by first | rfl | (simp; done) | (simp [*]; done)), (by first | rfl | (simp; done) | (simp [*]; done)), H', ⟨Nat.le_refl _⟩, ⟨by (with_reducible repeat (first | apply Kd.R_alloc | apply Kd.R_drewN | apply Kd.R_drew)); exact HO_5.out⟩, ⟨by repeat (first | (with_reducible first | exact HB.out | apply below_alloc | apply pw_below_drewN | apply below_drew1) | exact HB.out)⟩⟩
            case round =>
              clear H'
              try clear c1
              try clear p2
              try clear c4
              try clear c6
              try clear c6b0
              try clear c6b1
              try clear c13
              try clear c13b0
              try clear c13b1
              try clear c14
              try clear c14b0
              try clear c14b1
              try clear c15
              try clear c15b0
              try clear c15b1
              try clear c15b2
              try clear c16
              try clear p2
              obtain ⟨x9_2, x54_2, rfl, rfl, HA, HK2, HO_5, HB⟩ := hrel
              cases gk with
              | zero => exact absurd HA.out (by simp [damsonlaw04_MoneySplit.l0])
              | succ k2 =>
                have H := HA.out
                clear HA
                simp only [damsonlaw04_MoneySplit.l0] at H
                by_cases c17 : x54_2 < (l1.length : Int)
                · rw [if_pos c17] at H
                  have c17b0 : decide (x54_2 < (l1.length : Int)) = true := decide_eq_true c17
                  clear c17
                  by_cases c18 : 0 ≤ x54_2
                  · rw [if_pos c18] at H
                    have c18b0 : decide (0 ≤ x54_2) = true := decide_eq_true c18
                    clear c18
                    by_cases c19 : x54_2 < (l1.length : Int)
                    · rw [if_pos c19] at H
                      have c19b0 : decide (x54_2 < (l1.length : Int)) = true := decide_eq_true c19
                      clear c19
                      have H' := Aside0.mk H
                      clear H
                      have p165 : 0 ≤ (x54_2 : Int) := of_decide_eq_true (by first | (with_reducible assumption) | assumption)
                      have q165 : x54_2 < (l1.length : Int) := of_decide_eq_true (by first | (with_reducible assumption) | assumption)
                      obtain ⟨ad165, e165, hx165_0⟩ := Kd.at_int HR1.out x54_2 p165 q165
                      cases e165
                      replace hx165_0 := (HB.out.cell (World.block_lt_of_cell? w _ hx165_0)).trans hx165_0
                      replace p165 := eq_true p165
                      replace q165 := eq_true q165
                      go_wp2
                      repeat (go_quiet (fail); try go_wp2)
                      go_roundg k2
                      case measure => have := HJ7.out; have := HK2.out; omega
                      case rel => exact ⟨(IntKind.u64.wrap (x9_2 + (rd l1 x54_2))), (wrap64 (x54_2 + 1)), (by first | rfl | (simp; done) | (simp [*]; done)), (by first | rfl | (simp; done) | (simp [*]; done)), H', ⟨by have := HJ7.out; have := HK2.out; omega⟩, ⟨by (with_reducible repeat (first | apply Kd.R_alloc | apply Kd.R_drewN | apply Kd.R_drew)); exact HO_5.out⟩, ⟨by repeat (first | (with_reducible first | exact HB.out | apply below_alloc | apply pw_below_drewN | apply below_drew1) | exact HB.out)⟩⟩
                    · rw [if_neg c19] at H
                      exact absurd H (by simp)
                  · rw [if_neg c18] at H
                    exact absurd H (by simp)
                · rw [if_neg c17] at H
                  have c17b0 : decide (x54_2 < (l1.length : Int)) = false := decide_eq_false c17
                  clear c17
                  have H' := Aside0.mk H
                  clear H
                  go_wp2
                  repeat (go_quiet (fail); try go_wp2)
                  go_loopg [64] k2 (fun kq v64 w' => ∃ (x64_3 : Int), v64 = .int .i64 x64_3 ∧ Aside0 (damsonlaw04_MoneySplit.l1 kq a0 t159 x9_2 l1 (l1.length : Int) x64_3 = some r) ∧ Aside0 (kq ≤ k2) ∧ Aside0 (Kd.R (Kd.int .u64) 22 w' w.heap.size (fun _ => True) (.slice Ao11 t159.length co11) t159) ∧ Aside0 (Below w.heap.size w w'))
                  case atStart => exact ⟨(0), (by first | rfl | (simp; done) | (simp [*]; done)), H', ⟨Nat.le_refl _⟩, ⟨by (with_reducible repeat (first | apply Kd.R_alloc | apply Kd.R_drewN | apply Kd.R_drew)); exact HO_5.out⟩, ⟨by repeat (first | (with_reducible first | exact HB.out | apply below_alloc | apply pw_below_drewN | apply below_drew1) | exact HB.out)⟩⟩
                  case round =>
                    clear H'
                    try clear c1
                    try clear p1
                    try clear q1
                    try clear hx1
                    try clear p2
                    try clear c4
                    try clear c6
                    try clear c6b0
                    try clear c6b1
                    try clear p6
                    try clear c13
                    try clear c13b0
                    try clear c13b1
                    try clear c14
                    try clear c14b0
                    try clear c14b1
                    try clear c15
                    try clear c15b0
                    try clear c15b1
                    try clear c15b2
                    try clear c16
                    try clear p16
                    try clear q16
                    try clear hx16
                    try clear c17
                    try clear c17b0
                    try clear c18
                    try clear c18b0
                    try clear c19
                    try clear c19b0
                    try clear hx165_0
                    try clear p165
                    try clear p2
                    try clear q165
                    obtain ⟨x64_3, rfl, HA, HK3, HO_5, HB⟩ := hrel
                    cases gk with
                    | zero => exact absurd HA.out (by simp [damsonlaw04_MoneySplit.l1])
                    | succ k3 =>
                      have H := HA.out
                      clear HA
                      simp only [damsonlaw04_MoneySplit.l1] at H
                      by_cases c20 : x64_3 < (l1.length : Int)
                      · rw [if_pos c20] at H
                        have c20b0 : decide (x64_3 < (l1.length : Int)) = true := decide_eq_true c20
                        clear c20
                        by_cases c21 : 0 ≤ x64_3
                        · rw [if_pos c21] at H
                          have c21b0 : decide (0 ≤ x64_3) = true := decide_eq_true c21
                          clear c21
                          by_cases c22 : x64_3 < (l1.length : Int)
                          · rw [if_pos c22] at H
                            have c22b0 : decide (x64_3 < (l1.length : Int)) = true := decide_eq_true c22
                            clear c22
                            by_cases c23 : x9_2 = 0
                            · rw [if_pos c23] at H
                              exact absurd H (by simp)
                            · rw [if_neg c23] at H
                              have c23b0 : (x9_2 == 0) = false := beq_eq_false_iff_ne.mpr c23
                              have c23b1 : (x9_2 != 0) = true := bne_iff_ne.mpr c23
                              by_cases c24 : (rd l1 x64_3) = 0
                              · rw [if_pos c24] at H
                                have c24b0 : ((rd l1 x64_3) == 0) = true := beq_iff_eq.mpr c24
                                have c24b1 : ((rd l1 x64_3) != 0) = false := bne_eq_false_iff_eq.mpr c24
                                clear c24
                                by_cases c25 : x64_3 < (t159.length : Int)
                                · rw [if_pos c25] at H
                                  have c25b0 : decide (x64_3 < (t159.length : Int)) = true := decide_eq_true c25
                                  clear c25
                                  by_cases c26 : (rd t159 x64_3) = 0
                                  · rw [if_pos c26] at H
                                    have c26b0 : ((rd t159 x64_3) == 0) = true := beq_iff_eq.mpr c26
                                    have c26b1 : ((rd t159 x64_3) != 0) = false := bne_eq_false_iff_eq.mpr c26
                                    clear c26
                                    by_cases c27 : (rd t159 x64_3) = (IntKind.u64.wrap ((IntKind.u64.wrap ((IntKind.u64.wrap (Int.tdiv a0 x9_2)) * (rd l1 x64_3))) + (IntKind.u64.wrap (Int.tdiv (IntKind.u64.wrap ((Int.tmod a0 x9_2) * (rd l1 x64_3))) x9_2))))
                                    · rw [if_pos c27] at H
                                      have c27b0 : ((rd t159 x64_3) == (IntKind.u64.wrap ((IntKind.u64.wrap ((IntKind.u64.wrap (Int.tdiv a0 x9_2)) * (rd l1 x64_3))) + (IntKind.u64.wrap (Int.tdiv (IntKind.u64.wrap ((Int.tmod a0 x9_2) * (rd l1 x64_3))) x9_2))))) = true := beq_iff_eq.mpr c27
                                      have c27b1 : ((rd t159 x64_3) != (IntKind.u64.wrap ((IntKind.u64.wrap ((IntKind.u64.wrap (Int.tdiv a0 x9_2)) * (rd l1 x64_3))) + (IntKind.u64.wrap (Int.tdiv (IntKind.u64.wrap ((Int.tmod a0 x9_2) * (rd l1 x64_3))) x9_2))))) = false := bne_eq_false_iff_eq.mpr c27
                                      clear c27
                                      have H' := Aside0.mk H
                                      clear H
                                      have p166 : 0 ≤ (x64_3 : Int) := of_decide_eq_true (by first | (with_reducible assumption) | assumption)
                                      have q166 : x64_3 < (l1.length : Int) := of_decide_eq_true (by first | (with_reducible assumption) | assumption)
                                      obtain ⟨ad166, e166, hx166_0⟩ := Kd.at_int HR1.out x64_3 p166 q166
                                      cases e166
                                      replace hx166_0 := (HB.out.cell (World.block_lt_of_cell? w _ hx166_0)).trans hx166_0
                                      replace p166 := eq_true p166
                                      replace q166 := eq_true q166
                                      have p167 : 0 ≤ (x64_3 : Int) := of_decide_eq_true (by first | (with_reducible assumption) | assumption)
                                      have q167 : x64_3 < (t159.length : Int) := of_decide_eq_true (by first | (with_reducible assumption) | assumption)
                                      obtain ⟨ad167, e167, hx167_0⟩ := Kd.at_int (Kd.R_reads' HO_5.out).2.2 x64_3 p167 q167
                                      cases e167
                                      replace p167 := eq_true p167
                                      replace q167 := eq_true q167
                                      have p168 : 0 ≤ (x64_3 : Int) := of_decide_eq_true (by first | (with_reducible assumption) | assumption)
                                      have q168 : x64_3 < (t159.length : Int) := of_decide_eq_true (by first | (with_reducible assumption) | assumption)
                                      obtain ⟨ad168, e168, hx168_0⟩ := Kd.at_int (Kd.R_reads' HO_5.out).2.2 x64_3 p168 q168
                                      obtain rfl : ad167 = ad168 := (by injection e168)
                                      replace p168 := eq_true p168
                                      replace q168 := eq_true q168
                                      go_wp2
                                      repeat (go_quiet (fail); try go_wp2)
                                      go_roundg k3
                                      case measure => have := HJ7.out; have := HK2.out; have := HK3.out; omega
                                      case rel => exact ⟨(wrap64 (x64_3 + 1)), (by first | rfl | (simp; done) | (simp [*]; done)), H', ⟨by have := HJ7.out; have := HK2.out; have := HK3.out; omega⟩, ⟨by (with_reducible repeat (first | apply Kd.R_alloc | apply Kd.R_drewN | apply Kd.R_drew)); exact HO_5.out⟩, ⟨by repeat (first | (with_reducible first | exact HB.out | apply below_alloc | apply pw_below_drewN | apply below_drew1) | exact HB.out)⟩⟩
                                    · rw [if_neg c27] at H
                                      have c27b0 : ((rd t159 x64_3) == (IntKind.u64.wrap ((IntKind.u64.wrap ((IntKind.u64.wrap (Int.tdiv a0 x9_2)) * (rd l1 x64_3))) + (IntKind.u64.wrap (Int.tdiv (IntKind.u64.wrap ((Int.tmod a0 x9_2) * (rd l1 x64_3))) x9_2))))) = false := beq_eq_false_iff_ne.mpr c27
                                      have c27b1 : ((rd t159 x64_3) != (IntKind.u64.wrap ((IntKind.u64.wrap ((IntKind.u64.wrap (Int.tdiv a0 x9_2)) * (rd l1 x64_3))) + (IntKind.u64.wrap (Int.tdiv (IntKind.u64.wrap ((Int.tmod a0 x9_2) * (rd l1 x64_3))) x9_2))))) = true := bne_iff_ne.mpr c27
                                      by_cases c28 : (rd t159 x64_3) = (IntKind.u64.wrap ((IntKind.u64.wrap ((IntKind.u64.wrap ((IntKind.u64.wrap (Int.tdiv a0 x9_2)) * (rd l1 x64_3))) + (IntKind.u64.wrap (Int.tdiv (IntKind.u64.wrap ((Int.tmod a0 x9_2) * (rd l1 x64_3))) x9_2)))) + 1))
                                      · rw [if_pos c28] at H
                                        have c28b0 : ((rd t159 x64_3) == (IntKind.u64.wrap ((IntKind.u64.wrap ((IntKind.u64.wrap ((IntKind.u64.wrap (Int.tdiv a0 x9_2)) * (rd l1 x64_3))) + (IntKind.u64.wrap (Int.tdiv (IntKind.u64.wrap ((Int.tmod a0 x9_2) * (rd l1 x64_3))) x9_2)))) + 1))) = true := beq_iff_eq.mpr c28
                                        have c28b1 : ((rd t159 x64_3) != (IntKind.u64.wrap ((IntKind.u64.wrap ((IntKind.u64.wrap ((IntKind.u64.wrap (Int.tdiv a0 x9_2)) * (rd l1 x64_3))) + (IntKind.u64.wrap (Int.tdiv (IntKind.u64.wrap ((Int.tmod a0 x9_2) * (rd l1 x64_3))) x9_2)))) + 1))) = false := bne_eq_false_iff_eq.mpr c28
                                        clear c28
                                        have H' := Aside0.mk H
                                        clear H
                                        have p166 : 0 ≤ (x64_3 : Int) := of_decide_eq_true (by first | (with_reducible assumption) | assumption)
                                        have q166 : x64_3 < (l1.length : Int) := of_decide_eq_true (by first | (with_reducible assumption) | assumption)
                                        obtain ⟨ad166, e166, hx166_0⟩ := Kd.at_int HR1.out x64_3 p166 q166
                                        cases e166
                                        replace hx166_0 := (HB.out.cell (World.block_lt_of_cell? w _ hx166_0)).trans hx166_0
                                        replace p166 := eq_true p166
                                        replace q166 := eq_true q166
                                        have p167 : 0 ≤ (x64_3 : Int) := of_decide_eq_true (by first | (with_reducible assumption) | assumption)
                                        have q167 : x64_3 < (t159.length : Int) := of_decide_eq_true (by first | (with_reducible assumption) | assumption)
                                        obtain ⟨ad167, e167, hx167_0⟩ := Kd.at_int (Kd.R_reads' HO_5.out).2.2 x64_3 p167 q167
                                        cases e167
                                        replace p167 := eq_true p167
                                        replace q167 := eq_true q167
                                        have p168 : 0 ≤ (x64_3 : Int) := of_decide_eq_true (by first | (with_reducible assumption) | assumption)
                                        have q168 : x64_3 < (t159.length : Int) := of_decide_eq_true (by first | (with_reducible assumption) | assumption)
                                        obtain ⟨ad168, e168, hx168_0⟩ := Kd.at_int (Kd.R_reads' HO_5.out).2.2 x64_3 p168 q168
                                        obtain rfl : ad167 = ad168 := (by injection e168)
                                        replace p168 := eq_true p168
                                        replace q168 := eq_true q168
                                        have p169 : 0 ≤ (x64_3 : Int) := of_decide_eq_true (by first | (with_reducible assumption) | assumption)
                                        have q169 : x64_3 < (t159.length : Int) := of_decide_eq_true (by first | (with_reducible assumption) | assumption)
                                        obtain ⟨ad169, e169, hx169_0⟩ := Kd.at_int (Kd.R_reads' HO_5.out).2.2 x64_3 p169 q169
                                        obtain rfl : ad167 = ad169 := (by injection e169)
                                        replace p169 := eq_true p169
                                        replace q169 := eq_true q169
                                        go_wp2
                                        repeat (go_quiet (fail); try go_wp2)
                                        go_roundg k3
                                        case measure => have := HJ7.out; have := HK2.out; have := HK3.out; omega
                                        case rel => exact ⟨(wrap64 (x64_3 + 1)), (by first | rfl | (simp; done) | (simp [*]; done)), H', ⟨by have := HJ7.out; have := HK2.out; have := HK3.out; omega⟩, ⟨by (with_reducible repeat (first | apply Kd.R_alloc | apply Kd.R_drewN | apply Kd.R_drew)); exact HO_5.out⟩, ⟨by repeat (first | (with_reducible first | exact HB.out | apply below_alloc | apply pw_below_drewN | apply below_drew1) | exact HB.out)⟩⟩
                                      · rw [if_neg c28] at H
                                        have c28b0 : ((rd t159 x64_3) == (IntKind.u64.wrap ((IntKind.u64.wrap ((IntKind.u64.wrap ((IntKind.u64.wrap (Int.tdiv a0 x9_2)) * (rd l1 x64_3))) + (IntKind.u64.wrap (Int.tdiv (IntKind.u64.wrap ((Int.tmod a0 x9_2) * (rd l1 x64_3))) x9_2)))) + 1))) = false := beq_eq_false_iff_ne.mpr c28
                                        have c28b1 : ((rd t159 x64_3) != (IntKind.u64.wrap ((IntKind.u64.wrap ((IntKind.u64.wrap ((IntKind.u64.wrap (Int.tdiv a0 x9_2)) * (rd l1 x64_3))) + (IntKind.u64.wrap (Int.tdiv (IntKind.u64.wrap ((Int.tmod a0 x9_2) * (rd l1 x64_3))) x9_2)))) + 1))) = true := bne_iff_ne.mpr c28
                                        obtain rfl := Option.some.inj H
                                        have p166 : 0 ≤ (x64_3 : Int) := of_decide_eq_true (by first | (with_reducible assumption) | assumption)
                                        have q166 : x64_3 < (l1.length : Int) := of_decide_eq_true (by first | (with_reducible assumption) | assumption)
                                        obtain ⟨ad166, e166, hx166_0⟩ := Kd.at_int HR1.out x64_3 p166 q166
                                        cases e166
                                        replace hx166_0 := (HB.out.cell (World.block_lt_of_cell? w _ hx166_0)).trans hx166_0
                                        replace p166 := eq_true p166
                                        replace q166 := eq_true q166
                                        have p167 : 0 ≤ (x64_3 : Int) := of_decide_eq_true (by first | (with_reducible assumption) | assumption)
                                        have q167 : x64_3 < (t159.length : Int) := of_decide_eq_true (by first | (with_reducible assumption) | assumption)
                                        obtain ⟨ad167, e167, hx167_0⟩ := Kd.at_int (Kd.R_reads' HO_5.out).2.2 x64_3 p167 q167
                                        cases e167
                                        replace p167 := eq_true p167
                                        replace q167 := eq_true q167
                                        have p168 : 0 ≤ (x64_3 : Int) := of_decide_eq_true (by first | (with_reducible assumption) | assumption)
                                        have q168 : x64_3 < (t159.length : Int) := of_decide_eq_true (by first | (with_reducible assumption) | assumption)
                                        obtain ⟨ad168, e168, hx168_0⟩ := Kd.at_int (Kd.R_reads' HO_5.out).2.2 x64_3 p168 q168
                                        obtain rfl : ad167 = ad168 := (by injection e168)
                                        replace p168 := eq_true p168
                                        replace q168 := eq_true q168
                                        have p169 : 0 ≤ (x64_3 : Int) := of_decide_eq_true (by first | (with_reducible assumption) | assumption)
                                        have q169 : x64_3 < (t159.length : Int) := of_decide_eq_true (by first | (with_reducible assumption) | assumption)
                                        obtain ⟨ad169, e169, hx169_0⟩ := Kd.at_int (Kd.R_reads' HO_5.out).2.2 x64_3 p169 q169
                                        obtain rfl : ad167 = ad169 := (by injection e169)
                                        replace p169 := eq_true p169
                                        replace q169 := eq_true q169
                                        go_wp2
                                        repeat (go_quiet (fail); try go_wp2)
                                        go_ret
                                        exact ⟨by first | rfl | (simp [errW_none, errW_some] <;> rfl) | (simp [*, errW_none, errW_some] <;> rfl), by repeat (first | (with_reducible first | exact HB.out | apply below_alloc | apply pw_below_drewN | apply below_drew1) | exact HB.out)⟩
                                  · rw [if_neg c26] at H
                                    have c26b0 : ((rd t159 x64_3) == 0) = false := beq_eq_false_iff_ne.mpr c26
                                    have c26b1 : ((rd t159 x64_3) != 0) = true := bne_iff_ne.mpr c26
                                    obtain rfl := Option.some.inj H
                                    have p166 : 0 ≤ (x64_3 : Int) := of_decide_eq_true (by first | (with_reducible assumption) | assumption)
                                    have q166 : x64_3 < (l1.length : Int) := of_decide_eq_true (by first | (with_reducible assumption) | assumption)
                                    obtain ⟨ad166, e166, hx166_0⟩ := Kd.at_int HR1.out x64_3 p166 q166
                                    cases e166
                                    replace hx166_0 := (HB.out.cell (World.block_lt_of_cell? w _ hx166_0)).trans hx166_0
                                    replace p166 := eq_true p166
                                    replace q166 := eq_true q166
                                    have p167 : 0 ≤ (x64_3 : Int) := of_decide_eq_true (by first | (with_reducible assumption) | assumption)
                                    have q167 : x64_3 < (t159.length : Int) := of_decide_eq_true (by first | (with_reducible assumption) | assumption)
                                    obtain ⟨ad167, e167, hx167_0⟩ := Kd.at_int (Kd.R_reads' HO_5.out).2.2 x64_3 p167 q167
                                    cases e167
                                    replace p167 := eq_true p167
                                    replace q167 := eq_true q167
                                    go_wp2
                                    repeat (go_quiet (fail); try go_wp2)
                                    go_ret
                                    exact ⟨by first | rfl | (simp [errW_none, errW_some] <;> rfl) | (simp [*, errW_none, errW_some] <;> rfl), by repeat (first | (with_reducible first | exact HB.out | apply below_alloc | apply pw_below_drewN | apply below_drew1) | exact HB.out)⟩
                                · rw [if_neg c25] at H
                                  exact absurd H (by simp)
                              · rw [if_neg c24] at H
                                have c24b0 : ((rd l1 x64_3) == 0) = false := beq_eq_false_iff_ne.mpr c24
                                have c24b1 : ((rd l1 x64_3) != 0) = true := bne_iff_ne.mpr c24
                                by_cases c29 : x64_3 < (t159.length : Int)
                                · rw [if_pos c29] at H
                                  have c29b0 : decide (x64_3 < (t159.length : Int)) = true := decide_eq_true c29
                                  clear c29
                                  by_cases c30 : (rd t159 x64_3) = (IntKind.u64.wrap ((IntKind.u64.wrap ((IntKind.u64.wrap (Int.tdiv a0 x9_2)) * (rd l1 x64_3))) + (IntKind.u64.wrap (Int.tdiv (IntKind.u64.wrap ((Int.tmod a0 x9_2) * (rd l1 x64_3))) x9_2))))
                                  · rw [if_pos c30] at H
                                    have c30b0 : ((rd t159 x64_3) == (IntKind.u64.wrap ((IntKind.u64.wrap ((IntKind.u64.wrap (Int.tdiv a0 x9_2)) * (rd l1 x64_3))) + (IntKind.u64.wrap (Int.tdiv (IntKind.u64.wrap ((Int.tmod a0 x9_2) * (rd l1 x64_3))) x9_2))))) = true := beq_iff_eq.mpr c30
                                    have c30b1 : ((rd t159 x64_3) != (IntKind.u64.wrap ((IntKind.u64.wrap ((IntKind.u64.wrap (Int.tdiv a0 x9_2)) * (rd l1 x64_3))) + (IntKind.u64.wrap (Int.tdiv (IntKind.u64.wrap ((Int.tmod a0 x9_2) * (rd l1 x64_3))) x9_2))))) = false := bne_eq_false_iff_eq.mpr c30
                                    clear c30
                                    have H' := Aside0.mk H
                                    clear H
                                    have p166 : 0 ≤ (x64_3 : Int) := of_decide_eq_true (by first | (with_reducible assumption) | assumption)
                                    have q166 : x64_3 < (l1.length : Int) := of_decide_eq_true (by first | (with_reducible assumption) | assumption)
                                    obtain ⟨ad166, e166, hx166_0⟩ := Kd.at_int HR1.out x64_3 p166 q166
                                    cases e166
                                    replace hx166_0 := (HB.out.cell (World.block_lt_of_cell? w _ hx166_0)).trans hx166_0
                                    replace p166 := eq_true p166
                                    replace q166 := eq_true q166
                                    have p170 : 0 ≤ (x64_3 : Int) := of_decide_eq_true (by first | (with_reducible assumption) | assumption)
                                    have q170 : x64_3 < (t159.length : Int) := of_decide_eq_true (by first | (with_reducible assumption) | assumption)
                                    obtain ⟨ad170, e170, hx170_0⟩ := Kd.at_int (Kd.R_reads' HO_5.out).2.2 x64_3 p170 q170
                                    cases e170
                                    replace p170 := eq_true p170
                                    replace q170 := eq_true q170
                                    go_wp2
                                    repeat (go_quiet (fail); try go_wp2)
                                    go_roundg k3
                                    case measure => have := HJ7.out; have := HK2.out; have := HK3.out; omega
                                    case rel => exact ⟨(wrap64 (x64_3 + 1)), (by first | rfl | (simp; done) | (simp [*]; done)), H', ⟨by have := HJ7.out; have := HK2.out; have := HK3.out; omega⟩, ⟨by (with_reducible repeat (first | apply Kd.R_alloc | apply Kd.R_drewN | apply Kd.R_drew)); exact HO_5.out⟩, ⟨by repeat (first | (with_reducible first | exact HB.out | apply below_alloc | apply pw_below_drewN | apply below_drew1) | exact HB.out)⟩⟩
                                  · rw [if_neg c30] at H
                                    have c30b0 : ((rd t159 x64_3) == (IntKind.u64.wrap ((IntKind.u64.wrap ((IntKind.u64.wrap (Int.tdiv a0 x9_2)) * (rd l1 x64_3))) + (IntKind.u64.wrap (Int.tdiv (IntKind.u64.wrap ((Int.tmod a0 x9_2) * (rd l1 x64_3))) x9_2))))) = false := beq_eq_false_iff_ne.mpr c30
                                    have c30b1 : ((rd t159 x64_3) != (IntKind.u64.wrap ((IntKind.u64.wrap ((IntKind.u64.wrap (Int.tdiv a0 x9_2)) * (rd l1 x64_3))) + (IntKind.u64.wrap (Int.tdiv (IntKind.u64.wrap ((Int.tmod a0 x9_2) * (rd l1 x64_3))) x9_2))))) = true := bne_iff_ne.mpr c30
                                    by_cases c31 : (rd t159 x64_3) = (IntKind.u64.wrap ((IntKind.u64.wrap ((IntKind.u64.wrap ((IntKind.u64.wrap (Int.tdiv a0 x9_2)) * (rd l1 x64_3))) + (IntKind.u64.wrap (Int.tdiv (IntKind.u64.wrap ((Int.tmod a0 x9_2) * (rd l1 x64_3))) x9_2)))) + 1))
                                    · rw [if_pos c31] at H
                                      have c31b0 : ((rd t159 x64_3) == (IntKind.u64.wrap ((IntKind.u64.wrap ((IntKind.u64.wrap ((IntKind.u64.wrap (Int.tdiv a0 x9_2)) * (rd l1 x64_3))) + (IntKind.u64.wrap (Int.tdiv (IntKind.u64.wrap ((Int.tmod a0 x9_2) * (rd l1 x64_3))) x9_2)))) + 1))) = true := beq_iff_eq.mpr c31
                                      have c31b1 : ((rd t159 x64_3) != (IntKind.u64.wrap ((IntKind.u64.wrap ((IntKind.u64.wrap ((IntKind.u64.wrap (Int.tdiv a0 x9_2)) * (rd l1 x64_3))) + (IntKind.u64.wrap (Int.tdiv (IntKind.u64.wrap ((Int.tmod a0 x9_2) * (rd l1 x64_3))) x9_2)))) + 1))) = false := bne_eq_false_iff_eq.mpr c31
                                      clear c31
                                      have H' := Aside0.mk H
                                      clear H
                                      have p166 : 0 ≤ (x64_3 : Int) := of_decide_eq_true (by first | (with_reducible assumption) | assumption)
                                      have q166 : x64_3 < (l1.length : Int) := of_decide_eq_true (by first | (with_reducible assumption) | assumption)
                                      obtain ⟨ad166, e166, hx166_0⟩ := Kd.at_int HR1.out x64_3 p166 q166
                                      cases e166
                                      replace hx166_0 := (HB.out.cell (World.block_lt_of_cell? w _ hx166_0)).trans hx166_0
                                      replace p166 := eq_true p166
                                      replace q166 := eq_true q166
                                      have p170 : 0 ≤ (x64_3 : Int) := of_decide_eq_true (by first | (with_reducible assumption) | assumption)
                                      have q170 : x64_3 < (t159.length : Int) := of_decide_eq_true (by first | (with_reducible assumption) | assumption)
                                      obtain ⟨ad170, e170, hx170_0⟩ := Kd.at_int (Kd.R_reads' HO_5.out).2.2 x64_3 p170 q170
                                      cases e170
                                      replace p170 := eq_true p170
                                      replace q170 := eq_true q170
                                      have p171 : 0 ≤ (x64_3 : Int) := of_decide_eq_true (by first | (with_reducible assumption) | assumption)
                                      have q171 : x64_3 < (t159.length : Int) := of_decide_eq_true (by first | (with_reducible assumption) | assumption)
                                      obtain ⟨ad171, e171, hx171_0⟩ := Kd.at_int (Kd.R_reads' HO_5.out).2.2 x64_3 p171 q171
                                      obtain rfl : ad170 = ad171 := (by injection e171)
                                      replace p171 := eq_true p171
                                      replace q171 := eq_true q171
                                      go_wp2
                                      repeat (go_quiet (fail); try go_wp2)
                                      go_roundg k3
                                      case measure => have := HJ7.out; have := HK2.out; have := HK3.out; omega
                                      case rel => exact ⟨(wrap64 (x64_3 + 1)), (by first | rfl | (simp; done) | (simp [*]; done)), H', ⟨by have := HJ7.out; have := HK2.out; have := HK3.out; omega⟩, ⟨by (with_reducible repeat (first | apply Kd.R_alloc | apply Kd.R_drewN | apply Kd.R_drew)); exact HO_5.out⟩, ⟨by repeat (first | (with_reducible first | exact HB.out | apply below_alloc | apply pw_below_drewN | apply below_drew1) | exact HB.out)⟩⟩
                                    · rw [if_neg c31] at H
                                      have c31b0 : ((rd t159 x64_3) == (IntKind.u64.wrap ((IntKind.u64.wrap ((IntKind.u64.wrap ((IntKind.u64.wrap (Int.tdiv a0 x9_2)) * (rd l1 x64_3))) + (IntKind.u64.wrap (Int.tdiv (IntKind.u64.wrap ((Int.tmod a0 x9_2) * (rd l1 x64_3))) x9_2)))) + 1))) = false := beq_eq_false_iff_ne.mpr c31
                                      have c31b1 : ((rd t159 x64_3) != (IntKind.u64.wrap ((IntKind.u64.wrap ((IntKind.u64.wrap ((IntKind.u64.wrap (Int.tdiv a0 x9_2)) * (rd l1 x64_3))) + (IntKind.u64.wrap (Int.tdiv (IntKind.u64.wrap ((Int.tmod a0 x9_2) * (rd l1 x64_3))) x9_2)))) + 1))) = true := bne_iff_ne.mpr c31
                                      obtain rfl := Option.some.inj H
                                      have p166 : 0 ≤ (x64_3 : Int) := of_decide_eq_true (by first | (with_reducible assumption) | assumption)
                                      have q166 : x64_3 < (l1.length : Int) := of_decide_eq_true (by first | (with_reducible assumption) | assumption)
                                      obtain ⟨ad166, e166, hx166_0⟩ := Kd.at_int HR1.out x64_3 p166 q166
                                      cases e166
                                      replace hx166_0 := (HB.out.cell (World.block_lt_of_cell? w _ hx166_0)).trans hx166_0
                                      replace p166 := eq_true p166
                                      replace q166 := eq_true q166
                                      have p170 : 0 ≤ (x64_3 : Int) := of_decide_eq_true (by first | (with_reducible assumption) | assumption)
                                      have q170 : x64_3 < (t159.length : Int) := of_decide_eq_true (by first | (with_reducible assumption) | assumption)
                                      obtain ⟨ad170, e170, hx170_0⟩ := Kd.at_int (Kd.R_reads' HO_5.out).2.2 x64_3 p170 q170
                                      cases e170
                                      replace p170 := eq_true p170
                                      replace q170 := eq_true q170
                                      have p171 : 0 ≤ (x64_3 : Int) := of_decide_eq_true (by first | (with_reducible assumption) | assumption)
                                      have q171 : x64_3 < (t159.length : Int) := of_decide_eq_true (by first | (with_reducible assumption) | assumption)
                                      obtain ⟨ad171, e171, hx171_0⟩ := Kd.at_int (Kd.R_reads' HO_5.out).2.2 x64_3 p171 q171
                                      obtain rfl : ad170 = ad171 := (by injection e171)
                                      replace p171 := eq_true p171
                                      replace q171 := eq_true q171
                                      go_wp2
                                      repeat (go_quiet (fail); try go_wp2)
                                      go_ret
                                      exact ⟨by first | rfl | (simp [errW_none, errW_some] <;> rfl) | (simp [*, errW_none, errW_some] <;> rfl), by repeat (first | (with_reducible first | exact HB.out | apply below_alloc | apply pw_below_drewN | apply below_drew1) | exact HB.out)⟩
                                · rw [if_neg c29] at H
                                  exact absurd H (by simp)
                          · rw [if_neg c22] at H
                            exact absurd H (by simp)
                        · rw [if_neg c21] at H
                          exact absurd H (by simp)
                      · rw [if_neg c20] at H
                        have c20b0 : decide (x64_3 < (l1.length : Int)) = false := decide_eq_false c20
                        clear c20
                        obtain rfl := Option.some.inj H
                        go_wp2
                        repeat (go_quiet (fail); try go_wp2)
                        go_ret
                        exact ⟨by first | rfl | (simp [errW_none, errW_some] <;> rfl) | (simp [*, errW_none, errW_some] <;> rfl), by repeat (first | (with_reducible first | exact HB.out | apply below_alloc | apply pw_below_drewN | apply below_drew1) | exact HB.out)⟩
    · rw [if_neg c6] at H
      have c6b0 : (t160 == 0) = false := beq_eq_false_iff_ne.mpr c6
      have c6b1 : (t160 != 0) = true := bne_iff_ne.mpr c6
      obtain rfl := Option.some.inj H
      go_enter Try.func4, Try.ntmps4
      go_wp2_with (first | (go_at_call 9; (with_reducible refine (damsonlaw04_live.calls k  true _ A3.out).mono ?_); rintro e w32 ⟨rfl, hb⟩; have n0_ := Aside0.mk (below_step (by repeat (first | (with_reducible first | exact HB.out | apply below_alloc | apply pw_below_drewN | apply below_drew1) | exact HB.out)) hb); clear HB; have HB := n0_; clear n0_; (try clear hb); (try clear hb2); (try clear hk); (try clear hi)) | (go_at_call 10; (with_reducible refine (money_Split.calls k a0 _ _ l1 t159 t160 _ ?side1 ?side2 A5.out).mono ?_); (case side1 => repeat (first | exact (Kd.C_below HR1.out HB.out) | (with_reducible refine Kd.C_alloc ?_ _) | (with_reducible refine Kd.C_drewN ?_ _) | (with_reducible refine Kd.C_drew ?_))); (case side2 => exact HC1.out); rintro e w33 ⟨v161, rfl, ho0, hb⟩; have n0_ := Aside0.mk (Kd.R_lower ho0 (below_size (by repeat (first | (with_reducible first | exact HB.out | apply below_alloc | apply pw_below_drewN | apply below_drew1) | exact HB.out)))); have n1_ := Aside0.mk (below_step (by repeat (first | (with_reducible first | exact HB.out | apply below_alloc | apply pw_below_drewN | apply below_drew1) | exact HB.out)) hb); clear HB; have HO162 := n0_; have HB := n1_; clear n0_ n1_; (try clear hb); (try clear hb2); (try clear hk); (try clear hi); (try clear ho0); obtain ⟨Ao34, co34, eo34⟩ := Kd.R_slice HO162.out; subst eo34))
      repeat (go_quiet (first | (go_at_call 9; (with_reducible refine (damsonlaw04_live.calls k  true _ A3.out).mono ?_); rintro e w32 ⟨rfl, hb⟩; have n0_ := Aside0.mk (below_step (by repeat (first | (with_reducible first | exact HB.out | apply below_alloc | apply pw_below_drewN | apply below_drew1) | exact HB.out)) hb); clear HB; have HB := n0_; clear n0_; (try clear hb); (try clear hb2); (try clear hk); (try clear hi)) | (go_at_call 10; (with_reducible refine (money_Split.calls k a0 _ _ l1 t159 t160 _ ?side1 ?side2 A5.out).mono ?_); (case side1 => repeat (first | exact (Kd.C_below HR1.out HB.out) | (with_reducible refine Kd.C_alloc ?_ _) | (with_reducible refine Kd.C_drewN ?_ _) | (with_reducible refine Kd.C_drew ?_))); (case side2 => exact HC1.out); rintro e w33 ⟨v161, rfl, ho0, hb⟩; have n0_ := Aside0.mk (Kd.R_lower ho0 (below_size (by repeat (first | (with_reducible first | exact HB.out | apply below_alloc | apply pw_below_drewN | apply below_drew1) | exact HB.out)))); have n1_ := Aside0.mk (below_step (by repeat (first | (with_reducible first | exact HB.out | apply below_alloc | apply pw_below_drewN | apply below_drew1) | exact HB.out)) hb); clear HB; have HO162 := n0_; have HB := n1_; clear n0_ n1_; (try clear hb); (try clear hb2); (try clear hk); (try clear hi); (try clear ho0); obtain ⟨Ao34, co34, eo34⟩ := Kd.R_slice HO162.out; subst eo34)); try go_wp2_with (first | (go_at_call 9; (with_reducible refine (damsonlaw04_live.calls k  true _ A3.out).mono ?_); rintro e w32 ⟨rfl, hb⟩; have n0_ := Aside0.mk (below_step (by repeat (first | (with_reducible first | exact HB.out | apply below_alloc | apply pw_below_drewN | apply below_drew1) | exact HB.out)) hb); clear HB; have HB := n0_; clear n0_; (try clear hb); (try clear hb2); (try clear hk); (try clear hi)) | (go_at_call 10; (with_reducible refine (money_Split.calls k a0 _ _ l1 t159 t160 _ ?side1 ?side2 A5.out).mono ?_); (case side1 => repeat (first | exact (Kd.C_below HR1.out HB.out) | (with_reducible refine Kd.C_alloc ?_ _) | (with_reducible refine Kd.C_drewN ?_ _) | (with_reducible refine Kd.C_drew ?_))); (case side2 => exact HC1.out); rintro e w33 ⟨v161, rfl, ho0, hb⟩; have n0_ := Aside0.mk (Kd.R_lower ho0 (below_size (by repeat (first | (with_reducible first | exact HB.out | apply below_alloc | apply pw_below_drewN | apply below_drew1) | exact HB.out)))); have n1_ := Aside0.mk (below_step (by repeat (first | (with_reducible first | exact HB.out | apply below_alloc | apply pw_below_drewN | apply below_drew1) | exact HB.out)) hb); clear HB; have HO162 := n0_; have HB := n1_; clear n0_ n1_; (try clear hb); (try clear hb2); (try clear hk); (try clear hi); (try clear ho0); obtain ⟨Ao34, co34, eo34⟩ := Kd.R_slice HO162.out; subst eo34)))
      go_ret
      exact ⟨by first | rfl | (simp [errW_none, errW_some] <;> rfl) | (simp [*, errW_none, errW_some] <;> rfl), by repeat (first | (with_reducible first | exact HB.out | apply below_alloc | apply pw_below_drewN | apply below_drew1) | exact HB.out)⟩
  · replace c4 := Bool.eq_false_iff.mpr c4
    subst c4
    have H1 : (some false) = some r := by rw [if_neg (show ¬ (false = true) by decide)] at H; exact H
    clear H
    have H := H1
    clear H1
    obtain rfl := Option.some.inj H
    go_enter Try.func4, Try.ntmps4
    go_wp2_with (first | (go_at_call 9; (with_reducible refine (damsonlaw04_live.calls k  false _ A3.out).mono ?_); rintro e w35 ⟨rfl, hb⟩; have n0_ := Aside0.mk (below_step (by repeat (first | (with_reducible first | exact HB.out | apply below_alloc | apply pw_below_drewN | apply below_drew1) | exact HB.out)) hb); clear HB; have HB := n0_; clear n0_; (try clear hb); (try clear hb2); (try clear hk); (try clear hi)))
    repeat (go_quiet (first | (go_at_call 9; (with_reducible refine (damsonlaw04_live.calls k  false _ A3.out).mono ?_); rintro e w35 ⟨rfl, hb⟩; have n0_ := Aside0.mk (below_step (by repeat (first | (with_reducible first | exact HB.out | apply below_alloc | apply pw_below_drewN | apply below_drew1) | exact HB.out)) hb); clear HB; have HB := n0_; clear n0_; (try clear hb); (try clear hb2); (try clear hk); (try clear hi))); try go_wp2_with (first | (go_at_call 9; (with_reducible refine (damsonlaw04_live.calls k  false _ A3.out).mono ?_); rintro e w35 ⟨rfl, hb⟩; have n0_ := Aside0.mk (below_step (by repeat (first | (with_reducible first | exact HB.out | apply below_alloc | apply pw_below_drewN | apply below_drew1) | exact HB.out)) hb); clear HB; have HB := n0_; clear n0_; (try clear hb); (try clear hb2); (try clear hk); (try clear hi))))
    go_ret
    exact ⟨by first | rfl | (simp [errW_none, errW_some] <;> rfl) | (simp [*, errW_none, errW_some] <;> rfl), by repeat (first | (with_reducible first | exact HB.out | apply below_alloc | apply pw_below_drewN | apply below_drew1) | exact HB.out)⟩

/-- THE ONE PURE STATEMENT of damsonlaw04_MoneySplit: yours. -/
def damsonlaw04_MoneySplit.Pure : Prop := ∀ (a0 : Int) (l1 : List Int), (Lit.int .u64 a0).wf = true → l1.length ≤ maxLen → l1.length * 8 ≤ 140737488351232 → (∀ x ∈ l1, (Lit.int .u64 x).wf = true) → ∃ k, damsonlaw04_MoneySplit.f k a0 l1 = some true
theorem damsonlaw04_MoneySplit.walk (P : damsonlaw04_MoneySplit.Pure) (a0 : Int) (a1 : Option Addr) (len1 cap1 : Nat) (z1 : List Int) (w : World) (w0 : (Lit.int .u64 a0).wf = true) (w1 : (a1 = none ∧ len1 = 0 ∧ cap1 = 0 ∧ z1 = []) ∨ ∃ x, a1 = some x ∧ len1 ≤ cap1 ∧ cap1 ≤ maxLen ∧ z1.length = cap1 ∧ (∀ i, i < z1.length → w.cell? (x.add i) = some (.int .u64 (z1.getD i 0))) ∧ ∀ n ∈ z1, (Lit.int .u64 n).wf = true) (y1 : len1 * 8 ≤ 140737488351232) :
    Calls Try.prog 4 #[.int .u64 a0, .slice a1 len1 cap1] w fun e w' => e = .returned (.bool true) ∧ Below w.heap.size w w' := by
  obtain ⟨l1, rfl, hr1, hm1, hw1, hc1⟩ := ReadsInt.ofRowC w1
  obtain ⟨k, h⟩ := P a0 l1 w0 hm1 y1 hw1
  refine (damsonlaw04_MoneySplit.calls k a0 _ _ l1 true w (Kd.C_of_reads (d := (0 : Int)) (h1 := fun _ => rfl) hr1) hc1 h).mono ?_
  rintro e w' ⟨rfl, hd⟩
  exact ⟨rfl, hd⟩

/-! ### money_Share: function 12 -/
def money_Share.f (k : Nat) (a0 : Int) (a1 : Int) : Option (Int × Int) := if a1 > 1000000 then (some (0, 1)) else ((money_Check.f k (([a0] : List Int))).bind fun t175 => (if t175 = 0 then ((money_part.f k a0 a1 1000000).bind fun t176 => (some (t176, 0))) else (some (0, 1))))
theorem money_Share.mono : ∀ a0 a1 k, LeO (money_Share.f k a0 a1) (money_Share.f (k + 1) a0 a1) := by
  intro a0 a1 k
  unfold money_Share.f
  repeat' first
      | (with_reducible exact money_Check.mono _ _)
      | (with_reducible exact money_part.mono _ _ _ _)
      | (with_reducible exact LeO.refl _)
      | (with_reducible exact LeO.none _)
      | (with_reducible refine LeO.ite ?_ ?_)
      | (with_reducible refine LeO.bind ?_ (fun _ => ?_))
      | exact money_Check.mono _ _
      | exact money_part.mono _ _ _ _
      | exact LeO.none _
      | refine LeO.ite ?_ ?_
      | refine LeO.bind ?_ (fun _ => ?_)
set_option maxHeartbeats 8000000 in
set_option maxRecDepth 100000 in
theorem money_Share.calls (k : Nat) (a0 : Int) (a1 : Int) (r1 : Int) (r2 : Int) (w : World) (h : money_Share.f k a0 a1 = some (r1, r2)) :
    Calls Try.prog 12 #[.int .u64 a0, .int .u64 a1] w fun e w' => e = .returned (.tuple #[.int .u64 r1, .int .i64 r2]) ∧ Below w.heap.size w w' := by
  have HB := Aside0.mk (Below.refl w.heap.size w)
  have H : (if a1 > 1000000 then (some (0, 1)) else ((money_Check.f k (([a0] : List Int))).bind fun t175 => (if t175 = 0 then ((money_part.f k a0 a1 1000000).bind fun t176 => (some (t176, 0))) else (some (0, 1))))) = some (r1, r2) := h
  clear h
  by_cases c3 : a1 > 1000000
  · rw [if_pos c3] at H
    have c3b0 : decide (1000000 < a1) = true := decide_eq_true c3
    clear c3
    simp only [Option.some.injEq, Prod.mk.injEq] at H
    obtain ⟨rfl, rfl⟩ := H
    go_enter Try.func12, Try.ntmps12
    go_wp2
    go_ret2
    exact ⟨by first | rfl | (simp [errW_none, errW_some] <;> rfl) | (simp [*, errW_none, errW_some] <;> rfl), by repeat (first | (with_reducible first | exact HB.out | apply below_alloc | apply pw_below_drewN | apply below_drew1) | exact HB.out)⟩
  · rw [if_neg c3] at H
    have c3b0 : decide (1000000 < a1) = false := decide_eq_false c3
    clear c3
    obtain ⟨y172, hy172⟩ : ∃ y_ : List Int, y_ = (([a0] : List Int)) := ⟨_, rfl⟩
    replace H : ((money_Check.f k y172).bind fun t175 => (if t175 = 0 then ((money_part.f k a0 a1 1000000).bind fun t176 => (some (t176, 0))) else (some (0, 1)))) = some (r1, r2) := by first | (rw [hy172]; with_reducible exact H) | (have H2_ := (Option.bind_some _ _).symm.trans H; rw [hy172]; with_reducible exact H2_) | (have H2_ := (Option.bind_some _ _).symm.trans H; with_reducible exact H2_) | with_reducible exact H | (rw [hy172]; exact H) | exact H
    have Ny172 := Aside0.mk hy172
    clear hy172
    replace H := Option.bind_eq_some_iff.mp H
    obtain ⟨t175, A40, H⟩ := H
    replace H : (if t175 = 0 then ((money_part.f k a0 a1 1000000).bind fun t176 => (some (t176, 0))) else (some (0, 1))) = some (r1, r2) := H
    have A4 := Aside0.mk A40
    clear A40
    by_cases c5 : t175 = 0
    · rw [if_pos c5] at H
      have c5b0 : (t175 == 0) = true := beq_iff_eq.mpr c5
      have c5b1 : (t175 != 0) = false := bne_eq_false_iff_eq.mpr c5
      clear c5
      replace H := Option.bind_eq_some_iff.mp H
      obtain ⟨t176, A60, H⟩ := H
      replace H : (some (t176, 0)) = some (r1, r2) := H
      have A6 := Aside0.mk A60
      clear A60
      simp only [Option.some.injEq, Prod.mk.injEq] at H
      obtain ⟨rfl, rfl⟩ := H
      go_enter Try.func12, Try.ntmps12
      go_wp2_with (first | ((with_reducible refine gate_dst (N := 10) rfl ?_); (try (refine gate_guard (by rfl) ?_; dsimp only)); refine Kd.R_lit (Kd.int .u64) _ 22 ?hg (N := 10) ?hd (xs := ([a0] : List Int)) (inner := [.int .u64 a0]) (ok := fun _ => True) (okp := fun _ => True) ?hr ?hp (fun _ hk => hk) trivial (Below.refl _ _) (Nat.le_refl _) (by simp) ?_; (case hd => rfl); (case hg => rfl); (case hr => first | (go_simp; done) | (go_simp; rfl)); (case hp => exact (Reps.one (show Kd.M (Kd.int .u64) _ _ _ a0 [.int .u64 a0] from rfl) (Reps.none _ _))); intro v173 w7 ho8 hb hg_ hnew_; clear hg_ hnew_; (first | rw [← Ny172.out] at ho8 | (simp only [Int.reduceToNat] at ho8; rw [← Ny172.out] at ho8)); have n0_ := Aside0.mk (Kd.R_lower ho8 (below_size (by repeat (first | (with_reducible first | exact HB.out | apply below_alloc | apply pw_below_drewN | apply below_drew1) | exact HB.out)))); have n1_ := Aside0.mk (below_step (by repeat (first | (with_reducible first | exact HB.out | apply below_alloc | apply pw_below_drewN | apply below_drew1) | exact HB.out)) hb); clear HB; have HO174 := n0_; have HB := n1_; clear n0_ n1_; clear hb ho8; obtain ⟨Ao9, co9, eo9⟩ := Kd.R_slice HO174.out; subst eo9) | (go_at_call 14; (with_reducible refine (money_Check.calls k _ _ y172 t175 _ ?side1 ?side2 A4.out).mono ?_); (case side1 => repeat (first | exact (Kd.R_reads' HO174.out).2.2 | (with_reducible refine Kd.C_alloc ?_ _) | (with_reducible refine Kd.C_drewN ?_ _) | (with_reducible refine Kd.C_drew ?_))); (case side2 => exact (Kd.R_reads' HO174.out).2.1); rintro e w10 ⟨rfl, hb⟩; have n0_ := Aside0.mk (Kd.R_below (by (with_reducible repeat (first | apply Kd.R_alloc | apply Kd.R_drewN | apply Kd.R_drew)); exact HO174.out) hb); have n1_ := Aside0.mk (below_step (by repeat (first | (with_reducible first | exact HB.out | apply below_alloc | apply pw_below_drewN | apply below_drew1) | exact HB.out)) hb); clear HO174; clear HB; have HO174 := n0_; have HB := n1_; clear n0_ n1_; (try clear hb); (try clear hb2); (try clear hk); (try clear hi)) | ((with_reducible refine gate_callee (f := 25) rfl ?_); refine goesL_ (some 16) rfl rfl Try.func25 (by kernel_rfl) rfl #[.int .u64 a0, .int .u64 a1, .int .u64 1000000] rfl (by (try simp only [List.map_toArray, List.map_cons, List.map_nil]); first | done | rfl | (simp only [List.length_drop, List.length_take]; rfl)) ?_; (with_reducible refine (money_part.calls k a0 a1 1000000 t176 _ A6.out).mono ?_); rintro e w' ⟨rfl, ⟨nd, rfl⟩⟩; refine ⟨_, rfl, ?_⟩))
      go_ret2
      exact ⟨by first | rfl | (simp [errW_none, errW_some] <;> rfl) | (simp [*, errW_none, errW_some] <;> rfl), by repeat (first | (with_reducible first | exact HB.out | apply below_alloc | apply pw_below_drewN | apply below_drew1) | exact HB.out)⟩
    · rw [if_neg c5] at H
      have c5b0 : (t175 == 0) = false := beq_eq_false_iff_ne.mpr c5
      have c5b1 : (t175 != 0) = true := bne_iff_ne.mpr c5
      simp only [Option.some.injEq, Prod.mk.injEq] at H
      obtain ⟨rfl, rfl⟩ := H
      go_enter Try.func12, Try.ntmps12
      go_wp2_with (first | ((with_reducible refine gate_dst (N := 10) rfl ?_); (try (refine gate_guard (by rfl) ?_; dsimp only)); refine Kd.R_lit (Kd.int .u64) _ 22 ?hg (N := 10) ?hd (xs := ([a0] : List Int)) (inner := [.int .u64 a0]) (ok := fun _ => True) (okp := fun _ => True) ?hr ?hp (fun _ hk => hk) trivial (Below.refl _ _) (Nat.le_refl _) (by simp) ?_; (case hd => rfl); (case hg => rfl); (case hr => first | (go_simp; done) | (go_simp; rfl)); (case hp => exact (Reps.one (show Kd.M (Kd.int .u64) _ _ _ a0 [.int .u64 a0] from rfl) (Reps.none _ _))); intro v173 w11 ho12 hb hg_ hnew_; clear hg_ hnew_; (first | rw [← Ny172.out] at ho12 | (simp only [Int.reduceToNat] at ho12; rw [← Ny172.out] at ho12)); have n0_ := Aside0.mk (Kd.R_lower ho12 (below_size (by repeat (first | (with_reducible first | exact HB.out | apply below_alloc | apply pw_below_drewN | apply below_drew1) | exact HB.out)))); have n1_ := Aside0.mk (below_step (by repeat (first | (with_reducible first | exact HB.out | apply below_alloc | apply pw_below_drewN | apply below_drew1) | exact HB.out)) hb); clear HB; have HO174 := n0_; have HB := n1_; clear n0_ n1_; clear hb ho12; obtain ⟨Ao13, co13, eo13⟩ := Kd.R_slice HO174.out; subst eo13) | (go_at_call 14; (with_reducible refine (money_Check.calls k _ _ y172 t175 _ ?side1 ?side2 A4.out).mono ?_); (case side1 => repeat (first | exact (Kd.R_reads' HO174.out).2.2 | (with_reducible refine Kd.C_alloc ?_ _) | (with_reducible refine Kd.C_drewN ?_ _) | (with_reducible refine Kd.C_drew ?_))); (case side2 => exact (Kd.R_reads' HO174.out).2.1); rintro e w14 ⟨rfl, hb⟩; have n0_ := Aside0.mk (Kd.R_below (by (with_reducible repeat (first | apply Kd.R_alloc | apply Kd.R_drewN | apply Kd.R_drew)); exact HO174.out) hb); have n1_ := Aside0.mk (below_step (by repeat (first | (with_reducible first | exact HB.out | apply below_alloc | apply pw_below_drewN | apply below_drew1) | exact HB.out)) hb); clear HO174; clear HB; have HO174 := n0_; have HB := n1_; clear n0_ n1_; (try clear hb); (try clear hb2); (try clear hk); (try clear hi)))
      go_ret2
      exact ⟨by first | rfl | (simp [errW_none, errW_some] <;> rfl) | (simp [*, errW_none, errW_some] <;> rfl), by repeat (first | (with_reducible first | exact HB.out | apply below_alloc | apply pw_below_drewN | apply below_drew1) | exact HB.out)⟩

/-! ### money_Fee: function 13 -/
def money_Fee.f (k : Nat) (a0 : Int) (a1 : Int) (a2 : Int) : Option (Int × Int) := (money_Share.f k a2 a1).bind fun bt177 => (if bt177.2 = 0 then ((money_Add.f k (([a0, bt177.1] : List Int))).bind fun bt182 => (some (bt182.1, bt182.2))) else (some (0, bt177.2)))
theorem money_Fee.mono : ∀ a0 a1 a2 k, LeO (money_Fee.f k a0 a1 a2) (money_Fee.f (k + 1) a0 a1 a2) := by
  intro a0 a1 a2 k
  unfold money_Fee.f
  repeat' first
      | (with_reducible exact money_Add.mono _ _)
      | (with_reducible exact money_Share.mono _ _ _)
      | (with_reducible exact LeO.refl _)
      | (with_reducible exact LeO.none _)
      | (with_reducible refine LeO.ite ?_ ?_)
      | (with_reducible refine LeO.bind ?_ (fun _ => ?_))
      | exact money_Add.mono _ _
      | exact money_Share.mono _ _ _
      | exact LeO.none _
      | refine LeO.ite ?_ ?_
      | refine LeO.bind ?_ (fun _ => ?_)
set_option maxHeartbeats 8000000 in
set_option maxRecDepth 100000 in
theorem money_Fee.calls (k : Nat) (a0 : Int) (a1 : Int) (a2 : Int) (r1 : Int) (r2 : Int) (w : World) (h : money_Fee.f k a0 a1 a2 = some (r1, r2)) :
    Calls Try.prog 13 #[.int .u64 a0, .int .u64 a1, .int .u64 a2] w fun e w' => e = .returned (.tuple #[.int .u64 r1, .int .i64 r2]) ∧ Below w.heap.size w w' := by
  have HB := Aside0.mk (Below.refl w.heap.size w)
  have H : ((money_Share.f k a2 a1).bind fun bt177 => (if bt177.2 = 0 then ((money_Add.f k (([a0, bt177.1] : List Int))).bind fun bt182 => (some (bt182.1, bt182.2))) else (some (0, bt177.2)))) = some (r1, r2) := h
  clear h
  replace H := Option.bind_eq_some_iff.mp H
  obtain ⟨⟨t177, t178⟩, A40, H⟩ := H
  replace H : (if t178 = 0 then ((money_Add.f k (([a0, t177] : List Int))).bind fun bt182 => (some (bt182.1, bt182.2))) else (some (0, t178))) = some (r1, r2) := H
  have A4 := Aside0.mk A40
  clear A40
  by_cases c5 : t178 = 0
  · rw [if_pos c5] at H
    have c5b0 : (t178 == 0) = true := beq_iff_eq.mpr c5
    have c5b1 : (t178 != 0) = false := bne_eq_false_iff_eq.mpr c5
    clear c5
    obtain ⟨y179, hy179⟩ : ∃ y_ : List Int, y_ = (([a0, t177] : List Int)) := ⟨_, rfl⟩
    replace H : ((money_Add.f k y179).bind fun bt182 => (some (bt182.1, bt182.2))) = some (r1, r2) := by first | (rw [hy179]; with_reducible exact H) | (have H2_ := (Option.bind_some _ _).symm.trans H; rw [hy179]; with_reducible exact H2_) | (have H2_ := (Option.bind_some _ _).symm.trans H; with_reducible exact H2_) | with_reducible exact H | (rw [hy179]; exact H) | exact H
    have Ny179 := Aside0.mk hy179
    clear hy179
    replace H := Option.bind_eq_some_iff.mp H
    obtain ⟨⟨t182, t183⟩, A60, H⟩ := H
    replace H : (some (t182, t183)) = some (r1, r2) := H
    have A6 := Aside0.mk A60
    clear A60
    simp only [Option.some.injEq, Prod.mk.injEq] at H
    obtain ⟨rfl, rfl⟩ := H
    go_enter Try.func13, Try.ntmps13
    go_wp2_with (first | ((with_reducible refine gate_callee (f := 12) rfl ?_); refine goesL_ (some 13) rfl rfl Try.func12 (by kernel_rfl) rfl #[.int .u64 a2, .int .u64 a1] rfl (by (try simp only [List.map_toArray, List.map_cons, List.map_nil]); first | done | rfl | (simp only [List.length_drop, List.length_take]; rfl)) ?_; (with_reducible refine (money_Share.calls k a2 a1 t177 t178 _ A4.out).mono ?_); rintro e w7 ⟨rfl, hb⟩; refine ⟨_, rfl, ?_⟩; have n0_ := Aside0.mk (below_step (by repeat (first | (with_reducible first | exact HB.out | apply below_alloc | apply pw_below_drewN | apply below_drew1) | exact HB.out)) hb); clear HB; have HB := n0_; clear n0_; (try clear hb); (try clear hb2); (try clear hk); (try clear hi)) | ((with_reducible refine gate_dst (N := 21) rfl ?_); refine Kd.R_lit (Kd.int .u64) _ 22 ?hg (N := 21) ?hd (xs := ([a0, t177] : List Int)) (inner := [.int .u64 a0, .int .u64 t177]) (ok := fun _ => True) (okp := fun _ => True) ?hr ?hp (fun _ hk => hk) trivial (Below.refl _ _) (Nat.le_refl _) (by simp) ?_; (case hd => rfl); (case hg => rfl); (case hr => first | (go_simp; done) | (go_simp; rfl)); (case hp => exact (Reps.one (show Kd.M (Kd.int .u64) _ _ _ a0 [.int .u64 a0] from rfl) (Reps.one (show Kd.M (Kd.int .u64) _ _ _ t177 [.int .u64 t177] from rfl) (Reps.none _ _)))); intro v180 w8 ho9 hb hg_ hnew_; clear hg_ hnew_; (first | rw [← Ny179.out] at ho9 | (simp only [Int.reduceToNat] at ho9; rw [← Ny179.out] at ho9)); have n0_ := Aside0.mk (Kd.R_lower ho9 (below_size (by repeat (first | (with_reducible first | exact HB.out | apply below_alloc | apply pw_below_drewN | apply below_drew1) | exact HB.out)))); have n1_ := Aside0.mk (below_step (by repeat (first | (with_reducible first | exact HB.out | apply below_alloc | apply pw_below_drewN | apply below_drew1) | exact HB.out)) hb); clear HB; have HO181 := n0_; have HB := n1_; clear n0_ n1_; clear hb ho9; obtain ⟨Ao10, co10, eo10⟩ := Kd.R_slice HO181.out; subst eo10) | ((with_reducible refine gate_callee (f := 11) rfl ?_); refine goesL_ (some 22) rfl rfl Try.func11 (by kernel_rfl) rfl #[.slice Ao10 y179.length co10] rfl (by (try simp only [List.map_toArray, List.map_cons, List.map_nil]); first | done | rfl | (simp only [List.length_drop, List.length_take]; rfl)) ?_; (with_reducible refine (money_Add.calls k _ _ y179 t182 t183 _ ?side1 ?side2 A6.out).mono ?_); (case side1 => repeat (first | exact (Kd.R_reads' HO181.out).2.2 | (with_reducible refine Kd.C_alloc ?_ _) | (with_reducible refine Kd.C_drewN ?_ _) | (with_reducible refine Kd.C_drew ?_))); (case side2 => exact (Kd.R_reads' HO181.out).2.1); rintro e w11 ⟨rfl, hb⟩; refine ⟨_, rfl, ?_⟩; have n0_ := Aside0.mk (Kd.R_below (by (with_reducible repeat (first | apply Kd.R_alloc | apply Kd.R_drewN | apply Kd.R_drew)); exact HO181.out) hb); have n1_ := Aside0.mk (below_step (by repeat (first | (with_reducible first | exact HB.out | apply below_alloc | apply pw_below_drewN | apply below_drew1) | exact HB.out)) hb); clear HO181; clear HB; have HO181 := n0_; have HB := n1_; clear n0_ n1_; (try clear hb); (try clear hb2); (try clear hk); (try clear hi)))
    go_ret2
    exact ⟨by first | rfl | (simp [errW_none, errW_some] <;> rfl) | (simp [*, errW_none, errW_some] <;> rfl), by repeat (first | (with_reducible first | exact HB.out | apply below_alloc | apply pw_below_drewN | apply below_drew1) | exact HB.out)⟩
  · rw [if_neg c5] at H
    have c5b0 : (t178 == 0) = false := beq_eq_false_iff_ne.mpr c5
    have c5b1 : (t178 != 0) = true := bne_iff_ne.mpr c5
    simp only [Option.some.injEq, Prod.mk.injEq] at H
    obtain ⟨rfl, rfl⟩ := H
    go_enter Try.func13, Try.ntmps13
    go_wp2_with (first | ((with_reducible refine gate_callee (f := 12) rfl ?_); refine goesL_ (some 13) rfl rfl Try.func12 (by kernel_rfl) rfl #[.int .u64 a2, .int .u64 a1] rfl (by (try simp only [List.map_toArray, List.map_cons, List.map_nil]); first | done | rfl | (simp only [List.length_drop, List.length_take]; rfl)) ?_; (with_reducible refine (money_Share.calls k a2 a1 t177 t178 _ A4.out).mono ?_); rintro e w12 ⟨rfl, hb⟩; refine ⟨_, rfl, ?_⟩; have n0_ := Aside0.mk (below_step (by repeat (first | (with_reducible first | exact HB.out | apply below_alloc | apply pw_below_drewN | apply below_drew1) | exact HB.out)) hb); clear HB; have HB := n0_; clear n0_; (try clear hb); (try clear hb2); (try clear hk); (try clear hi)))
    go_ret2
    exact ⟨by first | rfl | (simp [errW_none, errW_some] <;> rfl) | (simp [*, errW_none, errW_some] <;> rfl), by repeat (first | (with_reducible first | exact HB.out | apply below_alloc | apply pw_below_drewN | apply below_drew1) | exact HB.out)⟩

end Go.Proofs.Ytcolmgbmpmmeaaa.P
