-- written by a program of this session (wip/print)
import Derived.Test.YtcolmgbmpmmeaaaPx0
import Derived.Test.YtcolmgbmpmmeaaaPx1
import Derived.Test.YtcolmgbmpmmeaaaPx3
namespace Go.Proofs.Ytcolmgbmpmmeaaa.P
open Go.RowKit Go.Proofs.YtcolmgbmpmmeaaaW.PrintWords Go.Proofs.YtcolmgbmpmmeaaaW.PrintLast Go.Proofs.YtcolmgbmpmmeaaaW.PrintMore
attribute [local go_sem] max2_int min2_int max_two min_two max_three min_three max_four min_four run_sub64_   -- for this text's walks alone
set_option linter.unusedVariables false
set_option linter.unusedSimpArgs false

/-! ### damsonlaw04_MoneyMore: function 3 -/
mutual
def damsonlaw04_MoneyMore.j0 : Nat → List Int → Int → List Int → List Int → Bool → Option (Bool)
  | 0, _, _, _, _, _ => none
  | k + 1, x5, x6, x7, x9, x41 => if x41 = true then (some false) else (if x6 = 0 then (damsonlaw04_MoneyMore.l0 k x5 x7 x9 (x5.length : Int) 0) else (some ((wrap64 ((wrap64 ((x5.length : Int) + (x7.length : Int))) + (x9.length : Int))) == 0)))
def damsonlaw04_MoneyMore.l0 : Nat → List Int → List Int → List Int → Int → Int → Option (Bool)
  | 0, _, _, _, _, _ => none
  | k + 1, x5, x7, x9, x54, x55 => if x55 < x54 then (if x55 ≥ (x7.length : Int) then (some false) else (if x55 ≥ (x9.length : Int) then (some false) else (if 0 ≤ x55 then (if x55 < (x9.length : Int) then (if (rd x9 x55) = 0 then (if x55 < (x7.length : Int) then (if x55 < (x5.length : Int) then (if (IntKind.u64.wrap ((rd x7 x55) + 2)) < (IntKind.u64.wrap (2 * (rd x5 x55))) then (some false) else (if (rd x7 x55) > (IntKind.u64.wrap ((IntKind.u64.wrap (2 * (rd x5 x55))) + 2)) then (some false) else (damsonlaw04_MoneyMore.l0 k x5 x7 x9 x54 (wrap64 (x55 + 1))))) else (none)) else (none)) else (some false)) else (none)) else (none)))) else (if (x5.length : Int) = (x7.length : Int) then (some ((x5.length : Int) == (x9.length : Int))) else (some false))
end
def damsonlaw04_MoneyMore.f (k : Nat) (a0 : Int) (l1 : List Int) : Option (Bool) := (damsonlaw04_live.f k).bind fun t138 => (if t138 = true then (if a0 > 2305843009213693952 then (some true) else ((money_Split.f k a0 l1).bind fun bt139 => ((money_Split.f k (IntKind.u64.wrap (2 * a0)) l1).bind fun bt143 => ((money_Split.f k 0 l1).bind fun bt147 => (if bt139.2 = bt143.2 then (damsonlaw04_MoneyMore.j0 k bt139.1 bt139.2 bt143.1 bt147.1 (bt139.2 != bt147.2)) else (damsonlaw04_MoneyMore.j0 k bt139.1 bt139.2 bt143.1 bt147.1 true)))))) else (some false))
theorem damsonlaw04_MoneyMore.mono_l : ∀ k, (∀ y0 y1 y2 y3 y4, LeO (damsonlaw04_MoneyMore.j0 k y0 y1 y2 y3 y4) (damsonlaw04_MoneyMore.j0 (k + 1) y0 y1 y2 y3 y4)) ∧ (∀ y0 y1 y2 y3 y4, LeO (damsonlaw04_MoneyMore.l0 k y0 y1 y2 y3 y4) (damsonlaw04_MoneyMore.l0 (k + 1) y0 y1 y2 y3 y4))
  | 0 => ⟨fun _ _ _ _ _ r h => by simp [damsonlaw04_MoneyMore.j0] at h, fun _ _ _ _ _ r h => by simp [damsonlaw04_MoneyMore.l0] at h⟩
  | k + 1 => by
    obtain ⟨ih0, ih1⟩ := damsonlaw04_MoneyMore.mono_l k
    refine ⟨?_, ?_⟩
    · intro y0 y1 y2 y3 y4
      unfold damsonlaw04_MoneyMore.j0
      repeat' first
      | (with_reducible exact ih0 _ _ _ _ _)
      | (with_reducible exact ih1 _ _ _ _ _)
      | (with_reducible exact damsonlaw04_live.mono _)
      | (with_reducible exact money_Split.mono _ _ _)
      | (with_reducible exact LeO.refl _)
      | (with_reducible exact LeO.none _)
      | (with_reducible refine LeO.ite ?_ ?_)
      | (with_reducible refine LeO.bind ?_ (fun _ => ?_))
      | exact ih0 _ _ _ _ _
      | exact ih1 _ _ _ _ _
      | exact damsonlaw04_live.mono _
      | exact money_Split.mono _ _ _
      | exact LeO.none _
      | refine LeO.ite ?_ ?_
      | refine LeO.bind ?_ (fun _ => ?_)
    · intro y0 y1 y2 y3 y4
      unfold damsonlaw04_MoneyMore.l0
      repeat' first
      | (with_reducible exact ih0 _ _ _ _ _)
      | (with_reducible exact ih1 _ _ _ _ _)
      | (with_reducible exact damsonlaw04_live.mono _)
      | (with_reducible exact money_Split.mono _ _ _)
      | (with_reducible exact LeO.refl _)
      | (with_reducible exact LeO.none _)
      | (with_reducible refine LeO.ite ?_ ?_)
      | (with_reducible refine LeO.bind ?_ (fun _ => ?_))
      | exact ih0 _ _ _ _ _
      | exact ih1 _ _ _ _ _
      | exact damsonlaw04_live.mono _
      | exact money_Split.mono _ _ _
      | exact LeO.none _
      | refine LeO.ite ?_ ?_
      | refine LeO.bind ?_ (fun _ => ?_)
theorem damsonlaw04_MoneyMore.mono : ∀ a0 a1 k, LeO (damsonlaw04_MoneyMore.f k a0 a1) (damsonlaw04_MoneyMore.f (k + 1) a0 a1) := by
  intro a0 a1 k
  obtain ⟨ih0, ih1⟩ := damsonlaw04_MoneyMore.mono_l k
  unfold damsonlaw04_MoneyMore.f
  repeat' first
      | (with_reducible exact ih0 _ _ _ _ _)
      | (with_reducible exact ih1 _ _ _ _ _)
      | (with_reducible exact damsonlaw04_live.mono _)
      | (with_reducible exact money_Split.mono _ _ _)
      | (with_reducible exact LeO.refl _)
      | (with_reducible exact LeO.none _)
      | (with_reducible refine LeO.ite ?_ ?_)
      | (with_reducible refine LeO.bind ?_ (fun _ => ?_))
      | exact ih0 _ _ _ _ _
      | exact ih1 _ _ _ _ _
      | exact damsonlaw04_live.mono _
      | exact money_Split.mono _ _ _
      | exact LeO.none _
      | refine LeO.ite ?_ ?_
      | refine LeO.bind ?_ (fun _ => ?_)
set_option maxHeartbeats 8000000 in
set_option maxRecDepth 100000 in
theorem damsonlaw04_MoneyMore.calls (k : Nat) (a0 : Int) (A1 : Option Addr) (c1 : Nat) (l1 : List Int) (r : Bool) (w : World) (hr1 : Kd.C (Kd.int .u64) w A1 l1.length l1) (hc1 : l1.length ≤ c1) (h : damsonlaw04_MoneyMore.f k a0 l1 = some r) :
    Calls Try.prog 3 #[.int .u64 a0, .slice A1 l1.length c1] w fun e w' => e = .returned (.bool r) ∧ Below w.heap.size w w' := by
  have HR1 := Aside0.mk hr1
  have HC1 := Aside0.mk hc1
  clear hr1 hc1
  have HB := Aside0.mk (Below.refl w.heap.size w)
  have H : ((damsonlaw04_live.f k).bind fun t138 => (if t138 = true then (if a0 > 2305843009213693952 then (some true) else ((money_Split.f k a0 l1).bind fun bt139 => ((money_Split.f k (IntKind.u64.wrap (2 * a0)) l1).bind fun bt143 => ((money_Split.f k 0 l1).bind fun bt147 => (if bt139.2 = bt143.2 then (damsonlaw04_MoneyMore.j0 k bt139.1 bt139.2 bt143.1 bt147.1 (bt139.2 != bt147.2)) else (damsonlaw04_MoneyMore.j0 k bt139.1 bt139.2 bt143.1 bt147.1 true)))))) else (some false))) = some r := h
  clear h
  replace H := Option.bind_eq_some_iff.mp H
  obtain ⟨t138, A30, H⟩ := H
  replace H : (if t138 = true then (if a0 > 2305843009213693952 then (some true) else ((money_Split.f k a0 l1).bind fun bt139 => ((money_Split.f k (IntKind.u64.wrap (2 * a0)) l1).bind fun bt143 => ((money_Split.f k 0 l1).bind fun bt147 => (if bt139.2 = bt143.2 then (damsonlaw04_MoneyMore.j0 k bt139.1 bt139.2 bt143.1 bt147.1 (bt139.2 != bt147.2)) else (damsonlaw04_MoneyMore.j0 k bt139.1 bt139.2 bt143.1 bt147.1 true)))))) else (some false)) = some r := H
  have A3 := Aside0.mk A30
  clear A30
  by_cases c4 : t138 = true
  · subst c4
    have H1 : (if a0 > 2305843009213693952 then (some true) else ((money_Split.f k a0 l1).bind fun bt139 => ((money_Split.f k (IntKind.u64.wrap (2 * a0)) l1).bind fun bt143 => ((money_Split.f k 0 l1).bind fun bt147 => (if bt139.2 = bt143.2 then (damsonlaw04_MoneyMore.j0 k bt139.1 bt139.2 bt143.1 bt147.1 (bt139.2 != bt147.2)) else (damsonlaw04_MoneyMore.j0 k bt139.1 bt139.2 bt143.1 bt147.1 true)))))) = some r := by rw [if_pos rfl] at H; exact H
    clear H
    have H := H1
    clear H1
    by_cases c5 : a0 > 2305843009213693952
    · rw [if_pos c5] at H
      have c5b0 : decide (2305843009213693952 < a0) = true := decide_eq_true c5
      clear c5
      obtain rfl := Option.some.inj H
      go_enter Try.func3, Try.ntmps3
      go_wp2_with (first | (go_at_call 9; (with_reducible refine (damsonlaw04_live.calls k  true _ A3.out).mono ?_); rintro e w6 ⟨rfl, hb⟩; have n0_ := Aside0.mk (below_step (by repeat (first | (with_reducible first | exact HB.out | apply below_alloc | apply pw_below_drewN | apply below_drew1) | exact HB.out)) hb); clear HB; have HB := n0_; clear n0_; (try clear hb); (try clear hb2); (try clear hk); (try clear hi)))
      repeat (go_quiet (first | (go_at_call 9; (with_reducible refine (damsonlaw04_live.calls k  true _ A3.out).mono ?_); rintro e w6 ⟨rfl, hb⟩; have n0_ := Aside0.mk (below_step (by repeat (first | (with_reducible first | exact HB.out | apply below_alloc | apply pw_below_drewN | apply below_drew1) | exact HB.out)) hb); clear HB; have HB := n0_; clear n0_; (try clear hb); (try clear hb2); (try clear hk); (try clear hi))); try go_wp2_with (first | (go_at_call 9; (with_reducible refine (damsonlaw04_live.calls k  true _ A3.out).mono ?_); rintro e w6 ⟨rfl, hb⟩; have n0_ := Aside0.mk (below_step (by repeat (first | (with_reducible first | exact HB.out | apply below_alloc | apply pw_below_drewN | apply below_drew1) | exact HB.out)) hb); clear HB; have HB := n0_; clear n0_; (try clear hb); (try clear hb2); (try clear hk); (try clear hi))))
      go_ret
      exact ⟨by first | rfl | (simp [errW_none, errW_some] <;> rfl) | (simp [*, errW_none, errW_some] <;> rfl), by repeat (first | (with_reducible first | exact HB.out | apply below_alloc | apply pw_below_drewN | apply below_drew1) | exact HB.out)⟩
    · rw [if_neg c5] at H
      have c5b0 : decide (2305843009213693952 < a0) = false := decide_eq_false c5
      clear c5
      replace H := Option.bind_eq_some_iff.mp H
      obtain ⟨⟨t139, t140⟩, A70, H⟩ := H
      replace H : ((money_Split.f k (IntKind.u64.wrap (2 * a0)) l1).bind fun bt143 => ((money_Split.f k 0 l1).bind fun bt147 => (if t140 = bt143.2 then (damsonlaw04_MoneyMore.j0 k t139 t140 bt143.1 bt147.1 (t140 != bt147.2)) else (damsonlaw04_MoneyMore.j0 k t139 t140 bt143.1 bt147.1 true)))) = some r := H
      have A7 := Aside0.mk A70
      clear A70
      replace H := Option.bind_eq_some_iff.mp H
      obtain ⟨⟨t143, t144⟩, A80, H⟩ := H
      replace H : ((money_Split.f k 0 l1).bind fun bt147 => (if t140 = t144 then (damsonlaw04_MoneyMore.j0 k t139 t140 t143 bt147.1 (t140 != bt147.2)) else (damsonlaw04_MoneyMore.j0 k t139 t140 t143 bt147.1 true))) = some r := H
      have A8 := Aside0.mk A80
      clear A80
      replace H := Option.bind_eq_some_iff.mp H
      obtain ⟨⟨t147, t148⟩, A90, H⟩ := H
      replace H : (if t140 = t144 then (damsonlaw04_MoneyMore.j0 k t139 t140 t143 t147 (t140 != t148)) else (damsonlaw04_MoneyMore.j0 k t139 t140 t143 t147 true)) = some r := H
      have A9 := Aside0.mk A90
      clear A90
      have HC10 := Aside0.mk H
      clear H
      go_enter Try.func3, Try.ntmps3
      go_upto_region 8 with (first | (go_at_call 9; (with_reducible refine (damsonlaw04_live.calls k  true _ A3.out).mono ?_); rintro e w11 ⟨rfl, hb⟩; have n0_ := Aside0.mk (below_step (by repeat (first | (with_reducible first | exact HB.out | apply below_alloc | apply pw_below_drewN | apply below_drew1) | exact HB.out)) hb); clear HB; have HB := n0_; clear n0_; (try clear hb); (try clear hb2); (try clear hk); (try clear hi)) | (go_at_call 10; (with_reducible refine (money_Split.calls k a0 _ _ l1 t139 t140 _ ?side1 ?side2 A7.out).mono ?_); (case side1 => repeat (first | exact (Kd.C_below HR1.out HB.out) | (with_reducible refine Kd.C_alloc ?_ _) | (with_reducible refine Kd.C_drewN ?_ _) | (with_reducible refine Kd.C_drew ?_))); (case side2 => exact HC1.out); rintro e w12 ⟨v141, rfl, ho0, hb⟩; have n0_ := Aside0.mk (Kd.R_lower ho0 (below_size (by repeat (first | (with_reducible first | exact HB.out | apply below_alloc | apply pw_below_drewN | apply below_drew1) | exact HB.out)))); have n1_ := Aside0.mk (below_step (by repeat (first | (with_reducible first | exact HB.out | apply below_alloc | apply pw_below_drewN | apply below_drew1) | exact HB.out)) hb); clear HB; have HO142 := n0_; have HB := n1_; clear n0_ n1_; (try clear hb); (try clear hb2); (try clear hk); (try clear hi); (try clear ho0)) | (go_at_call 10; (with_reducible refine (money_Split.calls k (IntKind.u64.wrap (2 * a0)) _ _ l1 t143 t144 _ ?side1 ?side2 A8.out).mono ?_); (case side1 => repeat (first | exact (Kd.C_below HR1.out HB.out) | (with_reducible refine Kd.C_alloc ?_ _) | (with_reducible refine Kd.C_drewN ?_ _) | (with_reducible refine Kd.C_drew ?_))); (case side2 => exact HC1.out); rintro e w13 ⟨v145, rfl, ho0, hb⟩; have n0_ := Aside0.mk (Kd.R_elder' (by (with_reducible repeat (first | apply Kd.R_alloc | apply Kd.R_drewN | apply Kd.R_drew)); exact HO142.out) (Kd.R_base ho0) hb); have n1_ := Aside0.mk (Kd.R_lower (Kd.R_new' ho0 (Kd.R_lt (by (with_reducible repeat (first | apply Kd.R_alloc | apply Kd.R_drewN | apply Kd.R_drew)); exact HO142.out))) (below_size (by repeat (first | (with_reducible first | exact HB.out | apply below_alloc | apply pw_below_drewN | apply below_drew1) | exact HB.out)))); have n2_ := Aside0.mk (below_step (by repeat (first | (with_reducible first | exact HB.out | apply below_alloc | apply pw_below_drewN | apply below_drew1) | exact HB.out)) hb); clear HO142; clear HB; have HO142 := n0_; have HO146 := n1_; have HB := n2_; clear n0_ n1_ n2_; (try clear hb); (try clear hb2); (try clear hk); (try clear hi); (try clear ho0)) | (go_at_call 10; (with_reducible refine (money_Split.calls k 0 _ _ l1 t147 t148 _ ?side1 ?side2 A9.out).mono ?_); (case side1 => repeat (first | exact (Kd.C_below HR1.out HB.out) | (with_reducible refine Kd.C_alloc ?_ _) | (with_reducible refine Kd.C_drewN ?_ _) | (with_reducible refine Kd.C_drew ?_))); (case side2 => exact HC1.out); rintro e w14 ⟨v149, rfl, ho0, hb⟩; have n0_ := Aside0.mk (Kd.R_elder' (by (with_reducible repeat (first | apply Kd.R_alloc | apply Kd.R_drewN | apply Kd.R_drew)); exact HO142.out) (Kd.R_base ho0) hb); have n1_ := Aside0.mk (Kd.R_elder' (by (with_reducible repeat (first | apply Kd.R_alloc | apply Kd.R_drewN | apply Kd.R_drew)); exact HO146.out) (Kd.R_base ho0) hb); have n2_ := Aside0.mk (Kd.R_lower (Kd.R_new' (Kd.R_new' ho0 (Kd.R_lt (by (with_reducible repeat (first | apply Kd.R_alloc | apply Kd.R_drewN | apply Kd.R_drew)); exact HO142.out))) (Kd.R_lt (by (with_reducible repeat (first | apply Kd.R_alloc | apply Kd.R_drewN | apply Kd.R_drew)); exact HO146.out))) (below_size (by repeat (first | (with_reducible first | exact HB.out | apply below_alloc | apply pw_below_drewN | apply below_drew1) | exact HB.out)))); have n3_ := Aside0.mk (below_step (by repeat (first | (with_reducible first | exact HB.out | apply below_alloc | apply pw_below_drewN | apply below_drew1) | exact HB.out)) hb); clear HO142; clear HO146; clear HB; have HO142 := n0_; have HO146 := n1_; have HO150 := n2_; have HB := n3_; clear n0_ n1_ n2_ n3_; (try clear hb); (try clear hb2); (try clear hk); (try clear hi); (try clear ho0)))
      repeat (go_quiet (first | (go_at_call 9; (with_reducible refine (damsonlaw04_live.calls k  true _ A3.out).mono ?_); rintro e w11 ⟨rfl, hb⟩; have n0_ := Aside0.mk (below_step (by repeat (first | (with_reducible first | exact HB.out | apply below_alloc | apply pw_below_drewN | apply below_drew1) | exact HB.out)) hb); clear HB; have HB := n0_; clear n0_; (try clear hb); (try clear hb2); (try clear hk); (try clear hi)) | (go_at_call 10; (with_reducible refine (money_Split.calls k a0 _ _ l1 t139 t140 _ ?side1 ?side2 A7.out).mono ?_); (case side1 => repeat (first | exact (Kd.C_below HR1.out HB.out) | (with_reducible refine Kd.C_alloc ?_ _) | (with_reducible refine Kd.C_drewN ?_ _) | (with_reducible refine Kd.C_drew ?_))); (case side2 => exact HC1.out); rintro e w12 ⟨v141, rfl, ho0, hb⟩; have n0_ := Aside0.mk (Kd.R_lower ho0 (below_size (by repeat (first | (with_reducible first | exact HB.out | apply below_alloc | apply pw_below_drewN | apply below_drew1) | exact HB.out)))); have n1_ := Aside0.mk (below_step (by repeat (first | (with_reducible first | exact HB.out | apply below_alloc | apply pw_below_drewN | apply below_drew1) | exact HB.out)) hb); clear HB; have HO142 := n0_; have HB := n1_; clear n0_ n1_; (try clear hb); (try clear hb2); (try clear hk); (try clear hi); (try clear ho0)) | (go_at_call 10; (with_reducible refine (money_Split.calls k (IntKind.u64.wrap (2 * a0)) _ _ l1 t143 t144 _ ?side1 ?side2 A8.out).mono ?_); (case side1 => repeat (first | exact (Kd.C_below HR1.out HB.out) | (with_reducible refine Kd.C_alloc ?_ _) | (with_reducible refine Kd.C_drewN ?_ _) | (with_reducible refine Kd.C_drew ?_))); (case side2 => exact HC1.out); rintro e w13 ⟨v145, rfl, ho0, hb⟩; have n0_ := Aside0.mk (Kd.R_elder' (by (with_reducible repeat (first | apply Kd.R_alloc | apply Kd.R_drewN | apply Kd.R_drew)); exact HO142.out) (Kd.R_base ho0) hb); have n1_ := Aside0.mk (Kd.R_lower (Kd.R_new' ho0 (Kd.R_lt (by (with_reducible repeat (first | apply Kd.R_alloc | apply Kd.R_drewN | apply Kd.R_drew)); exact HO142.out))) (below_size (by repeat (first | (with_reducible first | exact HB.out | apply below_alloc | apply pw_below_drewN | apply below_drew1) | exact HB.out)))); have n2_ := Aside0.mk (below_step (by repeat (first | (with_reducible first | exact HB.out | apply below_alloc | apply pw_below_drewN | apply below_drew1) | exact HB.out)) hb); clear HO142; clear HB; have HO142 := n0_; have HO146 := n1_; have HB := n2_; clear n0_ n1_ n2_; (try clear hb); (try clear hb2); (try clear hk); (try clear hi); (try clear ho0)) | (go_at_call 10; (with_reducible refine (money_Split.calls k 0 _ _ l1 t147 t148 _ ?side1 ?side2 A9.out).mono ?_); (case side1 => repeat (first | exact (Kd.C_below HR1.out HB.out) | (with_reducible refine Kd.C_alloc ?_ _) | (with_reducible refine Kd.C_drewN ?_ _) | (with_reducible refine Kd.C_drew ?_))); (case side2 => exact HC1.out); rintro e w14 ⟨v149, rfl, ho0, hb⟩; have n0_ := Aside0.mk (Kd.R_elder' (by (with_reducible repeat (first | apply Kd.R_alloc | apply Kd.R_drewN | apply Kd.R_drew)); exact HO142.out) (Kd.R_base ho0) hb); have n1_ := Aside0.mk (Kd.R_elder' (by (with_reducible repeat (first | apply Kd.R_alloc | apply Kd.R_drewN | apply Kd.R_drew)); exact HO146.out) (Kd.R_base ho0) hb); have n2_ := Aside0.mk (Kd.R_lower (Kd.R_new' (Kd.R_new' ho0 (Kd.R_lt (by (with_reducible repeat (first | apply Kd.R_alloc | apply Kd.R_drewN | apply Kd.R_drew)); exact HO142.out))) (Kd.R_lt (by (with_reducible repeat (first | apply Kd.R_alloc | apply Kd.R_drewN | apply Kd.R_drew)); exact HO146.out))) (below_size (by repeat (first | (with_reducible first | exact HB.out | apply below_alloc | apply pw_below_drewN | apply below_drew1) | exact HB.out)))); have n3_ := Aside0.mk (below_step (by repeat (first | (with_reducible first | exact HB.out | apply below_alloc | apply pw_below_drewN | apply below_drew1) | exact HB.out)) hb); clear HO142; clear HO146; clear HB; have HO142 := n0_; have HO146 := n1_; have HO150 := n2_; have HB := n3_; clear n0_ n1_ n2_ n3_; (try clear hb); (try clear hb2); (try clear hk); (try clear hi); (try clear ho0))); go_upto_region 8 with (first | (go_at_call 9; (with_reducible refine (damsonlaw04_live.calls k  true _ A3.out).mono ?_); rintro e w11 ⟨rfl, hb⟩; have n0_ := Aside0.mk (below_step (by repeat (first | (with_reducible first | exact HB.out | apply below_alloc | apply pw_below_drewN | apply below_drew1) | exact HB.out)) hb); clear HB; have HB := n0_; clear n0_; (try clear hb); (try clear hb2); (try clear hk); (try clear hi)) | (go_at_call 10; (with_reducible refine (money_Split.calls k a0 _ _ l1 t139 t140 _ ?side1 ?side2 A7.out).mono ?_); (case side1 => repeat (first | exact (Kd.C_below HR1.out HB.out) | (with_reducible refine Kd.C_alloc ?_ _) | (with_reducible refine Kd.C_drewN ?_ _) | (with_reducible refine Kd.C_drew ?_))); (case side2 => exact HC1.out); rintro e w12 ⟨v141, rfl, ho0, hb⟩; have n0_ := Aside0.mk (Kd.R_lower ho0 (below_size (by repeat (first | (with_reducible first | exact HB.out | apply below_alloc | apply pw_below_drewN | apply below_drew1) | exact HB.out)))); have n1_ := Aside0.mk (below_step (by repeat (first | (with_reducible first | exact HB.out | apply below_alloc | apply pw_below_drewN | apply below_drew1) | exact HB.out)) hb); clear HB; have HO142 := n0_; have HB := n1_; clear n0_ n1_; (try clear hb); (try clear hb2); (try clear hk); (try clear hi); (try clear ho0)) | (go_at_call 10; (with_reducible refine (money_Split.calls k (IntKind.u64.wrap (2 * a0)) _ _ l1 t143 t144 _ ?side1 ?side2 A8.out).mono ?_); (case side1 => repeat (first | exact (Kd.C_below HR1.out HB.out) | (with_reducible refine Kd.C_alloc ?_ _) | (with_reducible refine Kd.C_drewN ?_ _) | (with_reducible refine Kd.C_drew ?_))); (case side2 => exact HC1.out); rintro e w13 ⟨v145, rfl, ho0, hb⟩; have n0_ := Aside0.mk (Kd.R_elder' (by (with_reducible repeat (first | apply Kd.R_alloc | apply Kd.R_drewN | apply Kd.R_drew)); exact HO142.out) (Kd.R_base ho0) hb); have n1_ := Aside0.mk (Kd.R_lower (Kd.R_new' ho0 (Kd.R_lt (by (with_reducible repeat (first | apply Kd.R_alloc | apply Kd.R_drewN | apply Kd.R_drew)); exact HO142.out))) (below_size (by repeat (first | (with_reducible first | exact HB.out | apply below_alloc | apply pw_below_drewN | apply below_drew1) | exact HB.out)))); have n2_ := Aside0.mk (below_step (by repeat (first | (with_reducible first | exact HB.out | apply below_alloc | apply pw_below_drewN | apply below_drew1) | exact HB.out)) hb); clear HO142; clear HB; have HO142 := n0_; have HO146 := n1_; have HB := n2_; clear n0_ n1_ n2_; (try clear hb); (try clear hb2); (try clear hk); (try clear hi); (try clear ho0)) | (go_at_call 10; (with_reducible refine (money_Split.calls k 0 _ _ l1 t147 t148 _ ?side1 ?side2 A9.out).mono ?_); (case side1 => repeat (first | exact (Kd.C_below HR1.out HB.out) | (with_reducible refine Kd.C_alloc ?_ _) | (with_reducible refine Kd.C_drewN ?_ _) | (with_reducible refine Kd.C_drew ?_))); (case side2 => exact HC1.out); rintro e w14 ⟨v149, rfl, ho0, hb⟩; have n0_ := Aside0.mk (Kd.R_elder' (by (with_reducible repeat (first | apply Kd.R_alloc | apply Kd.R_drewN | apply Kd.R_drew)); exact HO142.out) (Kd.R_base ho0) hb); have n1_ := Aside0.mk (Kd.R_elder' (by (with_reducible repeat (first | apply Kd.R_alloc | apply Kd.R_drewN | apply Kd.R_drew)); exact HO146.out) (Kd.R_base ho0) hb); have n2_ := Aside0.mk (Kd.R_lower (Kd.R_new' (Kd.R_new' ho0 (Kd.R_lt (by (with_reducible repeat (first | apply Kd.R_alloc | apply Kd.R_drewN | apply Kd.R_drew)); exact HO142.out))) (Kd.R_lt (by (with_reducible repeat (first | apply Kd.R_alloc | apply Kd.R_drewN | apply Kd.R_drew)); exact HO146.out))) (below_size (by repeat (first | (with_reducible first | exact HB.out | apply below_alloc | apply pw_below_drewN | apply below_drew1) | exact HB.out)))); have n3_ := Aside0.mk (below_step (by repeat (first | (with_reducible first | exact HB.out | apply below_alloc | apply pw_below_drewN | apply below_drew1) | exact HB.out)) hb); clear HO142; clear HO146; clear HB; have HO142 := n0_; have HO146 := n1_; have HO150 := n2_; have HB := n3_; clear n0_ n1_ n2_ n3_; (try clear hb); (try clear hb2); (try clear hk); (try clear hi); (try clear ho0))))
      (try simp only [Act.put, List.setIfInBounds_toArray, List.set_cons_zero, List.set_cons_succ])
      go_cut [41] (fun v41 wc => ∃ (kq : Nat) (x41_9 : Bool), v41 = .bool x41_9 ∧ Aside0 (damsonlaw04_MoneyMore.j0 kq t139 t140 t143 t147 x41_9 = some r) ∧ Aside0 (kq ≤ k) ∧ Aside0 (Kd.R (Kd.int .u64) 22 wc w.heap.size (fun k_ => some k_ ≠ (v145 : Value).ownBlock ∧ some k_ ≠ (v149 : Value).ownBlock) v141 t139) ∧ Aside0 (Kd.R (Kd.int .u64) 22 wc w.heap.size (fun k_ => some k_ ≠ (v141 : Value).ownBlock ∧ some k_ ≠ (v149 : Value).ownBlock) v145 t143) ∧ Aside0 (Kd.R (Kd.int .u64) 22 wc w.heap.size (fun k_ => some k_ ≠ (v141 : Value).ownBlock ∧ some k_ ≠ (v145 : Value).ownBlock) v149 t147) ∧ Aside0 (Below w.heap.size w wc))
      case first =>
        have H := HC10.out
        clear HC10
        by_cases c15 : t140 = t144
        · rw [if_pos c15] at H
          have c15b0 : (t140 == t144) = true := beq_iff_eq.mpr c15
          have c15b1 : (t140 != t144) = false := bne_eq_false_iff_eq.mpr c15
          clear c15
          (first | rw [c15b0] | (simp only [i64_w, i32_w]; rw [c15b0]) | skip)
          have H' := Aside0.mk H
          clear H
          go_wp2
          repeat (go_quiet (fail); try go_wp2)
          go_meet
          case rel => exact ⟨_, ((t140 != t148)), (by first | rfl | (simp; done) | (simp [*]; done)), H', ⟨by first | omega | exact Nat.le_refl _⟩, ⟨by (with_reducible repeat (first | apply Kd.R_alloc | apply Kd.R_drewN | apply Kd.R_drew)); exact Kd.R_mono HO142.out (fun _ hk => ⟨hk.1.2, hk.2⟩)⟩, ⟨by (with_reducible repeat (first | apply Kd.R_alloc | apply Kd.R_drewN | apply Kd.R_drew)); exact Kd.R_mono HO146.out (fun _ hk => ⟨hk.1.2, hk.2⟩)⟩, ⟨by (with_reducible repeat (first | apply Kd.R_alloc | apply Kd.R_drewN | apply Kd.R_drew)); exact Kd.R_mono HO150.out (fun _ hk => ⟨hk.1.2, hk.2⟩)⟩, ⟨by repeat (first | (with_reducible first | exact HB.out | apply below_alloc | apply pw_below_drewN | apply below_drew1) | exact HB.out)⟩⟩
        · rw [if_neg c15] at H
          have c15b0 : (t140 == t144) = false := beq_eq_false_iff_ne.mpr c15
          have c15b1 : (t140 != t144) = true := bne_iff_ne.mpr c15
          (first | rw [c15b0] | (simp only [i64_w, i32_w]; rw [c15b0]) | skip)
          have H' := Aside0.mk H
          clear H
          go_wp2
          repeat (go_quiet (fail); try go_wp2)
          go_meet
          case rel => exact ⟨_, (true), (by first | rfl | (simp; done) | (simp [*]; done)), H', ⟨by first | omega | exact Nat.le_refl _⟩, ⟨by (with_reducible repeat (first | apply Kd.R_alloc | apply Kd.R_drewN | apply Kd.R_drew)); exact Kd.R_mono HO142.out (fun _ hk => ⟨hk.1.2, hk.2⟩)⟩, ⟨by (with_reducible repeat (first | apply Kd.R_alloc | apply Kd.R_drewN | apply Kd.R_drew)); exact Kd.R_mono HO146.out (fun _ hk => ⟨hk.1.2, hk.2⟩)⟩, ⟨by (with_reducible repeat (first | apply Kd.R_alloc | apply Kd.R_drewN | apply Kd.R_drew)); exact Kd.R_mono HO150.out (fun _ hk => ⟨hk.1.2, hk.2⟩)⟩, ⟨by repeat (first | (with_reducible first | exact HB.out | apply below_alloc | apply pw_below_drewN | apply below_drew1) | exact HB.out)⟩⟩
      case rest =>
        clear HC10
        try clear c1
        try clear p2
        try clear c3
        try clear c4
        try clear c5
        try clear c5b0
        try clear c15
        try clear c15b0
        try clear c15b1
        obtain ⟨kq, x41_9, rfl, HA, HJ9, HO_5, HO_7, HO_9, HB⟩ := hcut
        cases kq with
        | zero => exact absurd HA.out (by simp [damsonlaw04_MoneyMore.j0])
        | succ kj9 =>
          have H := HA.out
          clear HA
          simp only [damsonlaw04_MoneyMore.j0] at H
          by_cases c16 : x41_9 = true
          · subst c16
            have H1 : (some false) = some r := by rw [if_pos rfl] at H; exact H
            clear H
            have H := H1
            clear H1
            obtain rfl := Option.some.inj H
            go_wp2
            repeat (go_quiet (fail); try go_wp2)
            go_ret
            exact ⟨by first | rfl | (simp [errW_none, errW_some] <;> rfl) | (simp [*, errW_none, errW_some] <;> rfl), by repeat (first | (with_reducible first | exact HB.out | apply below_alloc | apply pw_below_drewN | apply below_drew1) | exact HB.out)⟩
          · replace c16 := Bool.eq_false_iff.mpr c16
            subst c16
            have H1 : (if t140 = 0 then (damsonlaw04_MoneyMore.l0 kj9 t139 t143 t147 (t139.length : Int) 0) else (some ((wrap64 ((wrap64 ((t139.length : Int) + (t143.length : Int))) + (t147.length : Int))) == 0))) = some r := by rw [if_neg (show ¬ (false = true) by decide)] at H; exact H
            clear H
            have H := H1
            clear H1
            by_cases c17 : t140 = 0
            · rw [if_pos c17] at H
              have c17b0 : (t140 == 0) = true := beq_iff_eq.mpr c17
              have c17b1 : (t140 != 0) = false := bne_eq_false_iff_eq.mpr c17
              clear c17
              have H' := Aside0.mk H
              clear H
              obtain ⟨Ao18, co18, eo18⟩ := Kd.R_slice HO_5.out
              subst eo18
              go_wp2
              repeat (go_quiet (fail); try go_wp2)
              go_loopg [55] kj9 (fun kq v55 w' => ∃ (x55_2 : Int), v55 = .int .i64 x55_2 ∧ Aside0 (damsonlaw04_MoneyMore.l0 kq t139 t143 t147 (t139.length : Int) x55_2 = some r) ∧ Aside0 (kq ≤ kj9) ∧ Aside0 (Kd.R (Kd.int .u64) 22 w' w.heap.size (fun k_ => some k_ ≠ (v145 : Value).ownBlock ∧ some k_ ≠ (v149 : Value).ownBlock) (.slice Ao18 t139.length co18) t139) ∧ Aside0 (Kd.R (Kd.int .u64) 22 w' w.heap.size (fun k_ => some k_ ≠ ((.slice Ao18 t139.length co18) : Value).ownBlock ∧ some k_ ≠ (v149 : Value).ownBlock) v145 t143) ∧ Aside0 (Kd.R (Kd.int .u64) 22 w' w.heap.size (fun k_ => some k_ ≠ ((.slice Ao18 t139.length co18) : Value).ownBlock ∧ some k_ ≠ (v145 : Value).ownBlock) v149 t147) ∧ Aside0 (Below w.heap.size w w'))
              case atStart => exact ⟨(0), (by first | rfl | (simp; done) | (simp [*]; done)), H', ⟨Nat.le_refl _⟩, ⟨by (with_reducible repeat (first | apply Kd.R_alloc | apply Kd.R_drewN | apply Kd.R_drew)); exact HO_5.out⟩, ⟨by (with_reducible repeat (first | apply Kd.R_alloc | apply Kd.R_drewN | apply Kd.R_drew)); exact HO_7.out⟩, ⟨by (with_reducible repeat (first | apply Kd.R_alloc | apply Kd.R_drewN | apply Kd.R_drew)); exact HO_9.out⟩, ⟨by repeat (first | (with_reducible first | exact HB.out | apply below_alloc | apply pw_below_drewN | apply below_drew1) | exact HB.out)⟩⟩
              case round =>
                clear H'
                try clear c1
                try clear p2
                try clear c3
                try clear c4
                try clear c5
                try clear c5b0
                try clear p6
                try clear c15
                try clear c15b0
                try clear c15b1
                try clear c16
                try clear c17
                try clear c17b0
                try clear c17b1
                try clear p2
                obtain ⟨x55_2, rfl, HA, HK2, HO_5, HO_7, HO_9, HB⟩ := hrel
                cases gk with
                | zero => exact absurd HA.out (by simp [damsonlaw04_MoneyMore.l0])
                | succ k2 =>
                  have H := HA.out
                  clear HA
                  simp only [damsonlaw04_MoneyMore.l0] at H
                  by_cases c19 : x55_2 < (t139.length : Int)
                  · rw [if_pos c19] at H
                    have c19b0 : decide (x55_2 < (t139.length : Int)) = true := decide_eq_true c19
                    clear c19
                    by_cases c20 : x55_2 ≥ (t143.length : Int)
                    · rw [if_pos c20] at H
                      have c20b0 : decide ((t143.length : Int) ≤ x55_2) = true := decide_eq_true c20
                      clear c20
                      obtain rfl := Option.some.inj H
                      obtain ⟨Ao21, co21, eo21⟩ := Kd.R_slice HO_7.out
                      subst eo21
                      go_wp2
                      repeat (go_quiet (fail); try go_wp2)
                      go_ret
                      exact ⟨by first | rfl | (simp [errW_none, errW_some] <;> rfl) | (simp [*, errW_none, errW_some] <;> rfl), by repeat (first | (with_reducible first | exact HB.out | apply below_alloc | apply pw_below_drewN | apply below_drew1) | exact HB.out)⟩
                    · rw [if_neg c20] at H
                      have c20b0 : decide ((t143.length : Int) ≤ x55_2) = false := decide_eq_false c20
                      clear c20
                      by_cases c22 : x55_2 ≥ (t147.length : Int)
                      · rw [if_pos c22] at H
                        have c22b0 : decide ((t147.length : Int) ≤ x55_2) = true := decide_eq_true c22
                        clear c22
                        obtain rfl := Option.some.inj H
                        obtain ⟨Ao23, co23, eo23⟩ := Kd.R_slice HO_7.out
                        subst eo23
                        obtain ⟨Ao24, co24, eo24⟩ := Kd.R_slice HO_9.out
                        subst eo24
                        go_wp2
                        repeat (go_quiet (fail); try go_wp2)
                        go_ret
                        exact ⟨by first | rfl | (simp [errW_none, errW_some] <;> rfl) | (simp [*, errW_none, errW_some] <;> rfl), by repeat (first | (with_reducible first | exact HB.out | apply below_alloc | apply pw_below_drewN | apply below_drew1) | exact HB.out)⟩
                      · rw [if_neg c22] at H
                        have c22b0 : decide ((t147.length : Int) ≤ x55_2) = false := decide_eq_false c22
                        clear c22
                        by_cases c25 : 0 ≤ x55_2
                        · rw [if_pos c25] at H
                          have c25b0 : decide (0 ≤ x55_2) = true := decide_eq_true c25
                          clear c25
                          by_cases c26 : x55_2 < (t147.length : Int)
                          · rw [if_pos c26] at H
                            have c26b0 : decide (x55_2 < (t147.length : Int)) = true := decide_eq_true c26
                            clear c26
                            by_cases c27 : (rd t147 x55_2) = 0
                            · rw [if_pos c27] at H
                              have c27b0 : ((rd t147 x55_2) == 0) = true := beq_iff_eq.mpr c27
                              have c27b1 : ((rd t147 x55_2) != 0) = false := bne_eq_false_iff_eq.mpr c27
                              clear c27
                              by_cases c28 : x55_2 < (t143.length : Int)
                              · rw [if_pos c28] at H
                                have c28b0 : decide (x55_2 < (t143.length : Int)) = true := decide_eq_true c28
                                clear c28
                                by_cases c29 : x55_2 < (t139.length : Int)
                                · rw [if_pos c29] at H
                                  have c29b0 : decide (x55_2 < (t139.length : Int)) = true := decide_eq_true c29
                                  clear c29
                                  by_cases c30 : (IntKind.u64.wrap ((rd t143 x55_2) + 2)) < (IntKind.u64.wrap (2 * (rd t139 x55_2)))
                                  · rw [if_pos c30] at H
                                    have c30b0 : decide ((IntKind.u64.wrap ((rd t143 x55_2) + 2)) < (IntKind.u64.wrap (2 * (rd t139 x55_2)))) = true := decide_eq_true c30
                                    clear c30
                                    obtain rfl := Option.some.inj H
                                    obtain ⟨Ao31, co31, eo31⟩ := Kd.R_slice HO_7.out
                                    subst eo31
                                    obtain ⟨Ao32, co32, eo32⟩ := Kd.R_slice HO_9.out
                                    subst eo32
                                    have p151 : 0 ≤ (x55_2 : Int) := of_decide_eq_true (by first | (with_reducible assumption) | assumption)
                                    have q151 : x55_2 < (t147.length : Int) := of_decide_eq_true (by first | (with_reducible assumption) | assumption)
                                    obtain ⟨ad151, e151, hx151_0⟩ := Kd.at_int (Kd.R_reads' HO_9.out).2.2 x55_2 p151 q151
                                    cases e151
                                    replace p151 := eq_true p151
                                    replace q151 := eq_true q151
                                    have p152 : 0 ≤ (x55_2 : Int) := of_decide_eq_true (by first | (with_reducible assumption) | assumption)
                                    have q152 : x55_2 < (t143.length : Int) := of_decide_eq_true (by first | (with_reducible assumption) | assumption)
                                    obtain ⟨ad152, e152, hx152_0⟩ := Kd.at_int (Kd.R_reads' HO_7.out).2.2 x55_2 p152 q152
                                    cases e152
                                    replace p152 := eq_true p152
                                    replace q152 := eq_true q152
                                    have p153 : 0 ≤ (x55_2 : Int) := of_decide_eq_true (by first | (with_reducible assumption) | assumption)
                                    have q153 : x55_2 < (t139.length : Int) := of_decide_eq_true (by first | (with_reducible assumption) | assumption)
                                    obtain ⟨ad153, e153, hx153_0⟩ := Kd.at_int (Kd.R_reads' HO_5.out).2.2 x55_2 p153 q153
                                    cases e153
                                    replace p153 := eq_true p153
                                    replace q153 := eq_true q153
                                    go_wp2
                                    repeat (go_quiet (fail); try go_wp2)
                                    go_ret
                                    exact ⟨by first | rfl | (simp [errW_none, errW_some] <;> rfl) | (simp [*, errW_none, errW_some] <;> rfl), by repeat (first | (with_reducible first | exact HB.out | apply below_alloc | apply pw_below_drewN | apply below_drew1) | exact HB.out)⟩
                                  · rw [if_neg c30] at H
                                    have c30b0 : decide ((IntKind.u64.wrap ((rd t143 x55_2) + 2)) < (IntKind.u64.wrap (2 * (rd t139 x55_2)))) = false := decide_eq_false c30
                                    clear c30
                                    by_cases c33 : (rd t143 x55_2) > (IntKind.u64.wrap ((IntKind.u64.wrap (2 * (rd t139 x55_2))) + 2))
                                    · rw [if_pos c33] at H
                                      have c33b0 : decide ((IntKind.u64.wrap ((IntKind.u64.wrap (2 * (rd t139 x55_2))) + 2)) < (rd t143 x55_2)) = true := decide_eq_true c33
                                      clear c33
                                      obtain rfl := Option.some.inj H
                                      obtain ⟨Ao34, co34, eo34⟩ := Kd.R_slice HO_7.out
                                      subst eo34
                                      obtain ⟨Ao35, co35, eo35⟩ := Kd.R_slice HO_9.out
                                      subst eo35
                                      have p151 : 0 ≤ (x55_2 : Int) := of_decide_eq_true (by first | (with_reducible assumption) | assumption)
                                      have q151 : x55_2 < (t147.length : Int) := of_decide_eq_true (by first | (with_reducible assumption) | assumption)
                                      obtain ⟨ad151, e151, hx151_0⟩ := Kd.at_int (Kd.R_reads' HO_9.out).2.2 x55_2 p151 q151
                                      cases e151
                                      replace p151 := eq_true p151
                                      replace q151 := eq_true q151
                                      have p152 : 0 ≤ (x55_2 : Int) := of_decide_eq_true (by first | (with_reducible assumption) | assumption)
                                      have q152 : x55_2 < (t143.length : Int) := of_decide_eq_true (by first | (with_reducible assumption) | assumption)
                                      obtain ⟨ad152, e152, hx152_0⟩ := Kd.at_int (Kd.R_reads' HO_7.out).2.2 x55_2 p152 q152
                                      cases e152
                                      replace p152 := eq_true p152
                                      replace q152 := eq_true q152
                                      have p153 : 0 ≤ (x55_2 : Int) := of_decide_eq_true (by first | (with_reducible assumption) | assumption)
                                      have q153 : x55_2 < (t139.length : Int) := of_decide_eq_true (by first | (with_reducible assumption) | assumption)
                                      obtain ⟨ad153, e153, hx153_0⟩ := Kd.at_int (Kd.R_reads' HO_5.out).2.2 x55_2 p153 q153
                                      cases e153
                                      replace p153 := eq_true p153
                                      replace q153 := eq_true q153
                                      have p154 : 0 ≤ (x55_2 : Int) := of_decide_eq_true (by first | (with_reducible assumption) | assumption)
                                      have q154 : x55_2 < (t143.length : Int) := of_decide_eq_true (by first | (with_reducible assumption) | assumption)
                                      obtain ⟨ad154, e154, hx154_0⟩ := Kd.at_int (Kd.R_reads' HO_7.out).2.2 x55_2 p154 q154
                                      obtain rfl : ad152 = ad154 := (by injection e154)
                                      replace p154 := eq_true p154
                                      replace q154 := eq_true q154
                                      have p155 : 0 ≤ (x55_2 : Int) := of_decide_eq_true (by first | (with_reducible assumption) | assumption)
                                      have q155 : x55_2 < (t139.length : Int) := of_decide_eq_true (by first | (with_reducible assumption) | assumption)
                                      obtain ⟨ad155, e155, hx155_0⟩ := Kd.at_int (Kd.R_reads' HO_5.out).2.2 x55_2 p155 q155
                                      obtain rfl : ad153 = ad155 := (by injection e155)
                                      replace p155 := eq_true p155
                                      replace q155 := eq_true q155
                                      go_wp2
                                      repeat (go_quiet (fail); try go_wp2)
                                      go_ret
                                      exact ⟨by first | rfl | (simp [errW_none, errW_some] <;> rfl) | (simp [*, errW_none, errW_some] <;> rfl), by repeat (first | (with_reducible first | exact HB.out | apply below_alloc | apply pw_below_drewN | apply below_drew1) | exact HB.out)⟩
                                    · rw [if_neg c33] at H
                                      have c33b0 : decide ((IntKind.u64.wrap ((IntKind.u64.wrap (2 * (rd t139 x55_2))) + 2)) < (rd t143 x55_2)) = false := decide_eq_false c33
                                      clear c33
                                      have H' := Aside0.mk H
                                      clear H
                                      obtain ⟨Ao36, co36, eo36⟩ := Kd.R_slice HO_7.out
                                      subst eo36
                                      obtain ⟨Ao37, co37, eo37⟩ := Kd.R_slice HO_9.out
                                      subst eo37
                                      have p151 : 0 ≤ (x55_2 : Int) := of_decide_eq_true (by first | (with_reducible assumption) | assumption)
                                      have q151 : x55_2 < (t147.length : Int) := of_decide_eq_true (by first | (with_reducible assumption) | assumption)
                                      obtain ⟨ad151, e151, hx151_0⟩ := Kd.at_int (Kd.R_reads' HO_9.out).2.2 x55_2 p151 q151
                                      cases e151
                                      replace p151 := eq_true p151
                                      replace q151 := eq_true q151
                                      have p152 : 0 ≤ (x55_2 : Int) := of_decide_eq_true (by first | (with_reducible assumption) | assumption)
                                      have q152 : x55_2 < (t143.length : Int) := of_decide_eq_true (by first | (with_reducible assumption) | assumption)
                                      obtain ⟨ad152, e152, hx152_0⟩ := Kd.at_int (Kd.R_reads' HO_7.out).2.2 x55_2 p152 q152
                                      cases e152
                                      replace p152 := eq_true p152
                                      replace q152 := eq_true q152
                                      have p153 : 0 ≤ (x55_2 : Int) := of_decide_eq_true (by first | (with_reducible assumption) | assumption)
                                      have q153 : x55_2 < (t139.length : Int) := of_decide_eq_true (by first | (with_reducible assumption) | assumption)
                                      obtain ⟨ad153, e153, hx153_0⟩ := Kd.at_int (Kd.R_reads' HO_5.out).2.2 x55_2 p153 q153
                                      cases e153
                                      replace p153 := eq_true p153
                                      replace q153 := eq_true q153
                                      have p154 : 0 ≤ (x55_2 : Int) := of_decide_eq_true (by first | (with_reducible assumption) | assumption)
                                      have q154 : x55_2 < (t143.length : Int) := of_decide_eq_true (by first | (with_reducible assumption) | assumption)
                                      obtain ⟨ad154, e154, hx154_0⟩ := Kd.at_int (Kd.R_reads' HO_7.out).2.2 x55_2 p154 q154
                                      obtain rfl : ad152 = ad154 := (by injection e154)
                                      replace p154 := eq_true p154
                                      replace q154 := eq_true q154
                                      have p155 : 0 ≤ (x55_2 : Int) := of_decide_eq_true (by first | (with_reducible assumption) | assumption)
                                      have q155 : x55_2 < (t139.length : Int) := of_decide_eq_true (by first | (with_reducible assumption) | assumption)
                                      obtain ⟨ad155, e155, hx155_0⟩ := Kd.at_int (Kd.R_reads' HO_5.out).2.2 x55_2 p155 q155
                                      obtain rfl : ad153 = ad155 := (by injection e155)
                                      replace p155 := eq_true p155
                                      replace q155 := eq_true q155
                                      go_wp2
                                      repeat (go_quiet (fail); try go_wp2)
                                      go_roundg k2
                                      case measure => have := HJ9.out; have := HK2.out; omega
                                      case rel => exact ⟨(wrap64 (x55_2 + 1)), (by first | rfl | (simp; done) | (simp [*]; done)), H', ⟨by have := HJ9.out; have := HK2.out; omega⟩, ⟨by (with_reducible repeat (first | apply Kd.R_alloc | apply Kd.R_drewN | apply Kd.R_drew)); exact HO_5.out⟩, ⟨by (with_reducible repeat (first | apply Kd.R_alloc | apply Kd.R_drewN | apply Kd.R_drew)); exact HO_7.out⟩, ⟨by (with_reducible repeat (first | apply Kd.R_alloc | apply Kd.R_drewN | apply Kd.R_drew)); exact HO_9.out⟩, ⟨by repeat (first | (with_reducible first | exact HB.out | apply below_alloc | apply pw_below_drewN | apply below_drew1) | exact HB.out)⟩⟩
                                · rw [if_neg c29] at H
                                  exact absurd H (by simp)
                              · rw [if_neg c28] at H
                                exact absurd H (by simp)
                            · rw [if_neg c27] at H
                              have c27b0 : ((rd t147 x55_2) == 0) = false := beq_eq_false_iff_ne.mpr c27
                              have c27b1 : ((rd t147 x55_2) != 0) = true := bne_iff_ne.mpr c27
                              obtain rfl := Option.some.inj H
                              obtain ⟨Ao38, co38, eo38⟩ := Kd.R_slice HO_7.out
                              subst eo38
                              obtain ⟨Ao39, co39, eo39⟩ := Kd.R_slice HO_9.out
                              subst eo39
                              have p151 : 0 ≤ (x55_2 : Int) := of_decide_eq_true (by first | (with_reducible assumption) | assumption)
                              have q151 : x55_2 < (t147.length : Int) := of_decide_eq_true (by first | (with_reducible assumption) | assumption)
                              obtain ⟨ad151, e151, hx151_0⟩ := Kd.at_int (Kd.R_reads' HO_9.out).2.2 x55_2 p151 q151
                              cases e151
                              replace p151 := eq_true p151
                              replace q151 := eq_true q151
                              go_wp2
                              repeat (go_quiet (fail); try go_wp2)
                              go_ret
                              exact ⟨by first | rfl | (simp [errW_none, errW_some] <;> rfl) | (simp [*, errW_none, errW_some] <;> rfl), by repeat (first | (with_reducible first | exact HB.out | apply below_alloc | apply pw_below_drewN | apply below_drew1) | exact HB.out)⟩
                          · rw [if_neg c26] at H
                            exact absurd H (by simp)
                        · rw [if_neg c25] at H
                          exact absurd H (by simp)
                  · rw [if_neg c19] at H
                    have c19b0 : decide (x55_2 < (t139.length : Int)) = false := decide_eq_false c19
                    clear c19
                    by_cases c40 : (t139.length : Int) = (t143.length : Int)
                    · rw [if_pos c40] at H
                      have c40b0 : ((t139.length : Int) == (t143.length : Int)) = true := beq_iff_eq.mpr c40
                      have c40b1 : ((t139.length : Int) != (t143.length : Int)) = false := bne_eq_false_iff_eq.mpr c40
                      have c40b2 : (t139.length == t143.length) = true := by first | simpa using c40 | (simp at c40 ⊢; omega)
                      clear c40
                      obtain rfl := Option.some.inj H
                      obtain ⟨Ao41, co41, eo41⟩ := Kd.R_slice HO_7.out
                      subst eo41
                      obtain ⟨Ao42, co42, eo42⟩ := Kd.R_slice HO_9.out
                      subst eo42
                      go_wp2
                      repeat (go_quiet (fail); try go_wp2)
                      go_ret
                      exact ⟨by first | rfl | (simp [errW_none, errW_some] <;> rfl) | (simp [*, errW_none, errW_some] <;> rfl), by repeat (first | (with_reducible first | exact HB.out | apply below_alloc | apply pw_below_drewN | apply below_drew1) | exact HB.out)⟩
                    · rw [if_neg c40] at H
                      have c40b0 : ((t139.length : Int) == (t143.length : Int)) = false := beq_eq_false_iff_ne.mpr c40
                      have c40b1 : ((t139.length : Int) != (t143.length : Int)) = true := bne_iff_ne.mpr c40
                      have c40b2 : (t139.length == t143.length) = false := by first | simpa using c40 | (simp at c40 ⊢; omega)
                      obtain rfl := Option.some.inj H
                      obtain ⟨Ao43, co43, eo43⟩ := Kd.R_slice HO_7.out
                      subst eo43
                      go_wp2
                      repeat (go_quiet (fail); try go_wp2)
                      go_ret
                      exact ⟨by first | rfl | (simp [errW_none, errW_some] <;> rfl) | (simp [*, errW_none, errW_some] <;> rfl), by repeat (first | (with_reducible first | exact HB.out | apply below_alloc | apply pw_below_drewN | apply below_drew1) | exact HB.out)⟩
            · rw [if_neg c17] at H
              have c17b0 : (t140 == 0) = false := beq_eq_false_iff_ne.mpr c17
              have c17b1 : (t140 != 0) = true := bne_iff_ne.mpr c17
              obtain rfl := Option.some.inj H
              obtain ⟨Ao44, co44, eo44⟩ := Kd.R_slice HO_5.out
              subst eo44
              obtain ⟨Ao45, co45, eo45⟩ := Kd.R_slice HO_7.out
              subst eo45
              obtain ⟨Ao46, co46, eo46⟩ := Kd.R_slice HO_9.out
              subst eo46
              go_wp2
              repeat (go_quiet (fail); try go_wp2)
              go_ret
              exact ⟨by first | rfl | (simp [errW_none, errW_some] <;> rfl) | (simp [*, errW_none, errW_some] <;> rfl), by repeat (first | (with_reducible first | exact HB.out | apply below_alloc | apply pw_below_drewN | apply below_drew1) | exact HB.out)⟩
  · replace c4 := Bool.eq_false_iff.mpr c4
    subst c4
    have H1 : (some false) = some r := by rw [if_neg (show ¬ (false = true) by decide)] at H; exact H
    clear H
    have H := H1
    clear H1
    obtain rfl := Option.some.inj H
    go_enter Try.func3, Try.ntmps3
    go_wp2_with (first | (go_at_call 9; (with_reducible refine (damsonlaw04_live.calls k  false _ A3.out).mono ?_); rintro e w47 ⟨rfl, hb⟩; have n0_ := Aside0.mk (below_step (by repeat (first | (with_reducible first | exact HB.out | apply below_alloc | apply pw_below_drewN | apply below_drew1) | exact HB.out)) hb); clear HB; have HB := n0_; clear n0_; (try clear hb); (try clear hb2); (try clear hk); (try clear hi)))
    repeat (go_quiet (first | (go_at_call 9; (with_reducible refine (damsonlaw04_live.calls k  false _ A3.out).mono ?_); rintro e w47 ⟨rfl, hb⟩; have n0_ := Aside0.mk (below_step (by repeat (first | (with_reducible first | exact HB.out | apply below_alloc | apply pw_below_drewN | apply below_drew1) | exact HB.out)) hb); clear HB; have HB := n0_; clear n0_; (try clear hb); (try clear hb2); (try clear hk); (try clear hi))); try go_wp2_with (first | (go_at_call 9; (with_reducible refine (damsonlaw04_live.calls k  false _ A3.out).mono ?_); rintro e w47 ⟨rfl, hb⟩; have n0_ := Aside0.mk (below_step (by repeat (first | (with_reducible first | exact HB.out | apply below_alloc | apply pw_below_drewN | apply below_drew1) | exact HB.out)) hb); clear HB; have HB := n0_; clear n0_; (try clear hb); (try clear hb2); (try clear hk); (try clear hi))))
    go_ret
    exact ⟨by first | rfl | (simp [errW_none, errW_some] <;> rfl) | (simp [*, errW_none, errW_some] <;> rfl), by repeat (first | (with_reducible first | exact HB.out | apply below_alloc | apply pw_below_drewN | apply below_drew1) | exact HB.out)⟩

/-- THE ONE PURE STATEMENT of damsonlaw04_MoneyMore: yours. -/
def damsonlaw04_MoneyMore.Pure : Prop := ∀ (a0 : Int) (l1 : List Int), (Lit.int .u64 a0).wf = true → l1.length ≤ maxLen → l1.length * 8 ≤ 140737488351232 → (∀ x ∈ l1, (Lit.int .u64 x).wf = true) → ∃ k, damsonlaw04_MoneyMore.f k a0 l1 = some true
theorem damsonlaw04_MoneyMore.walk (P : damsonlaw04_MoneyMore.Pure) (a0 : Int) (a1 : Option Addr) (len1 cap1 : Nat) (z1 : List Int) (w : World) (w0 : (Lit.int .u64 a0).wf = true) (w1 : (a1 = none ∧ len1 = 0 ∧ cap1 = 0 ∧ z1 = []) ∨ ∃ x, a1 = some x ∧ len1 ≤ cap1 ∧ cap1 ≤ maxLen ∧ z1.length = cap1 ∧ (∀ i, i < z1.length → w.cell? (x.add i) = some (.int .u64 (z1.getD i 0))) ∧ ∀ n ∈ z1, (Lit.int .u64 n).wf = true) (y1 : len1 * 8 ≤ 140737488351232) :
    Calls Try.prog 3 #[.int .u64 a0, .slice a1 len1 cap1] w fun e w' => e = .returned (.bool true) ∧ Below w.heap.size w w' := by
  obtain ⟨l1, rfl, hr1, hm1, hw1, hc1⟩ := ReadsInt.ofRowC w1
  obtain ⟨k, h⟩ := P a0 l1 w0 hm1 y1 hw1
  refine (damsonlaw04_MoneyMore.calls k a0 _ _ l1 true w (Kd.C_of_reads (d := (0 : Int)) (h1 := fun _ => rfl) hr1) hc1 h).mono ?_
  rintro e w' ⟨rfl, hd⟩
  exact ⟨rfl, hd⟩

/-! ### money_Add: function 11 -/
def money_Add.l0 : Nat → Int → List Int → Int → Int → Option (Int × Int)
  | 0, _, _, _, _ => none
  | k + 1, x2, x11, x12, x13 => if x13 < x12 then (if 0 ≤ x13 then (if x13 < (x11.length : Int) then (if (IntKind.u64.wrap (x2 + (rd x11 x13))) > 4611686018427387904 then (some (0, 8)) else (money_Add.l0 k (IntKind.u64.wrap (x2 + (rd x11 x13))) x11 x12 (wrap64 (x13 + 1)))) else (none)) else (none)) else (some (x2, 0))
def money_Add.f (k : Nat) (l0 : List Int) : Option (Int × Int) := (money_Check.f k l0).bind fun t156 => (if t156 = 0 then (money_Add.l0 k 0 l0 (l0.length : Int) 0) else (some (0, t156)))
theorem money_Add.mono_l : ∀ k, (∀ y0 y1 y2 y3, LeO (money_Add.l0 k y0 y1 y2 y3) (money_Add.l0 (k + 1) y0 y1 y2 y3))
  | 0 => fun _ _ _ _ r h => by simp [money_Add.l0] at h
  | k + 1 => by
    have ih0 := money_Add.mono_l k
    · intro y0 y1 y2 y3
      unfold money_Add.l0
      repeat' first
      | (with_reducible exact ih0 _ _ _ _)
      | (with_reducible exact money_Check.mono _ _)
      | (with_reducible exact LeO.refl _)
      | (with_reducible exact LeO.none _)
      | (with_reducible refine LeO.ite ?_ ?_)
      | (with_reducible refine LeO.bind ?_ (fun _ => ?_))
      | exact ih0 _ _ _ _
      | exact money_Check.mono _ _
      | exact LeO.none _
      | refine LeO.ite ?_ ?_
      | refine LeO.bind ?_ (fun _ => ?_)
theorem money_Add.mono : ∀ a0 k, LeO (money_Add.f k a0) (money_Add.f (k + 1) a0) := by
  intro a0 k
  have ih0 := money_Add.mono_l k
  unfold money_Add.f
  repeat' first
      | (with_reducible exact ih0 _ _ _ _)
      | (with_reducible exact money_Check.mono _ _)
      | (with_reducible exact LeO.refl _)
      | (with_reducible exact LeO.none _)
      | (with_reducible refine LeO.ite ?_ ?_)
      | (with_reducible refine LeO.bind ?_ (fun _ => ?_))
      | exact ih0 _ _ _ _
      | exact money_Check.mono _ _
      | exact LeO.none _
      | refine LeO.ite ?_ ?_
      | refine LeO.bind ?_ (fun _ => ?_)
set_option maxHeartbeats 8000000 in
set_option maxRecDepth 100000 in
theorem money_Add.calls (k : Nat) (A0 : Option Addr) (c0 : Nat) (l0 : List Int) (r1 : Int) (r2 : Int) (w : World) (hr0 : Kd.C (Kd.int .u64) w A0 l0.length l0) (hc0 : l0.length ≤ c0) (h : money_Add.f k l0 = some (r1, r2)) :
    Calls Try.prog 11 #[.slice A0 l0.length c0] w fun e w' => e = .returned (.tuple #[.int .u64 r1, .int .i64 r2]) ∧ Below w.heap.size w w' := by
  have HR0 := Aside0.mk hr0
  have HC0 := Aside0.mk hc0
  clear hr0 hc0
  have HB := Aside0.mk (Below.refl w.heap.size w)
  have H : ((money_Check.f k l0).bind fun t156 => (if t156 = 0 then (money_Add.l0 k 0 l0 (l0.length : Int) 0) else (some (0, t156)))) = some (r1, r2) := h
  clear h
  replace H := Option.bind_eq_some_iff.mp H
  obtain ⟨t156, A20, H⟩ := H
  replace H : (if t156 = 0 then (money_Add.l0 k 0 l0 (l0.length : Int) 0) else (some (0, t156))) = some (r1, r2) := H
  have A2 := Aside0.mk A20
  clear A20
  by_cases c3 : t156 = 0
  · rw [if_pos c3] at H
    have c3b0 : (t156 == 0) = true := beq_iff_eq.mpr c3
    have c3b1 : (t156 != 0) = false := bne_eq_false_iff_eq.mpr c3
    clear c3
    have H' := Aside0.mk H
    clear H
    go_enter Try.func11, Try.ntmps11
    go_wp2_with (first | ((with_reducible refine gate_callee (f := 14) rfl ?_); refine goesL_ (some 7) rfl rfl Try.func14 (by kernel_rfl) rfl #[.slice A0 l0.length c0] rfl (by (try simp only [List.map_toArray, List.map_cons, List.map_nil]); first | done | rfl | (simp only [List.length_drop, List.length_take]; rfl)) ?_; (with_reducible refine (money_Check.calls k _ _ l0 t156 _ ?side1 ?side2 A2.out).mono ?_); (case side1 => repeat (first | exact HR0.out | (with_reducible refine Kd.C_alloc ?_ _) | (with_reducible refine Kd.C_drewN ?_ _) | (with_reducible refine Kd.C_drew ?_))); (case side2 => exact HC0.out); rintro e w4 ⟨rfl, hb⟩; refine ⟨_, rfl, ?_⟩; have n0_ := Aside0.mk (below_step (by repeat (first | (with_reducible first | exact HB.out | apply below_alloc | apply pw_below_drewN | apply below_drew1) | exact HB.out)) hb); clear HB; have HB := n0_; clear n0_; (try clear hb); (try clear hb2); (try clear hk); (try clear hi)))
    go_loopg [2, 13] k (fun kq v2 v13 w' => ∃ (x2_1 : Int) (x13_1 : Int), v2 = .int .u64 x2_1 ∧ v13 = .int .i64 x13_1 ∧ Aside0 (money_Add.l0 kq x2_1 l0 (l0.length : Int) x13_1 = some (r1, r2)) ∧ Aside0 (kq ≤ k) ∧ Aside0 (Below w.heap.size w w'))
    case atStart => exact ⟨(0), (0), (by first | rfl | (simp; done) | (simp [*]; done)), (by first | rfl | (simp; done) | (simp [*]; done)), H', ⟨Nat.le_refl _⟩, ⟨by repeat (first | (with_reducible first | exact HB.out | apply below_alloc | apply pw_below_drewN | apply below_drew1) | exact HB.out)⟩⟩
    case round =>
      clear H'
      try clear c1
      try clear p2
      try clear c3
      try clear c3b0
      try clear c3b1
      obtain ⟨x2_1, x13_1, rfl, rfl, HA, HK1, HB⟩ := hrel
      cases gk with
      | zero => exact absurd HA.out (by simp [money_Add.l0])
      | succ k1 =>
        have H := HA.out
        clear HA
        simp only [money_Add.l0] at H
        by_cases c5 : x13_1 < (l0.length : Int)
        · rw [if_pos c5] at H
          have c5b0 : decide (x13_1 < (l0.length : Int)) = true := decide_eq_true c5
          clear c5
          by_cases c6 : 0 ≤ x13_1
          · rw [if_pos c6] at H
            have c6b0 : decide (0 ≤ x13_1) = true := decide_eq_true c6
            clear c6
            by_cases c7 : x13_1 < (l0.length : Int)
            · rw [if_pos c7] at H
              have c7b0 : decide (x13_1 < (l0.length : Int)) = true := decide_eq_true c7
              clear c7
              by_cases c8 : (IntKind.u64.wrap (x2_1 + (rd l0 x13_1))) > 4611686018427387904
              · rw [if_pos c8] at H
                have c8b0 : decide (4611686018427387904 < (IntKind.u64.wrap (x2_1 + (rd l0 x13_1)))) = true := decide_eq_true c8
                clear c8
                simp only [Option.some.injEq, Prod.mk.injEq] at H
                obtain ⟨rfl, rfl⟩ := H
                have p157 : 0 ≤ (x13_1 : Int) := of_decide_eq_true (by first | (with_reducible assumption) | assumption)
                have q157 : x13_1 < (l0.length : Int) := of_decide_eq_true (by first | (with_reducible assumption) | assumption)
                obtain ⟨ad157, e157, hx157_0⟩ := Kd.at_int HR0.out x13_1 p157 q157
                cases e157
                replace hx157_0 := (HB.out.cell (World.block_lt_of_cell? w _ hx157_0)).trans hx157_0
                replace p157 := eq_true p157
                replace q157 := eq_true q157
                go_wp2
                go_ret2
                exact ⟨by first | rfl | (simp [errW_none, errW_some] <;> rfl) | (simp [*, errW_none, errW_some] <;> rfl), by repeat (first | (with_reducible first | exact HB.out | apply below_alloc | apply pw_below_drewN | apply below_drew1) | exact HB.out)⟩
              · rw [if_neg c8] at H
                have c8b0 : decide (4611686018427387904 < (IntKind.u64.wrap (x2_1 + (rd l0 x13_1)))) = false := decide_eq_false c8
                clear c8
                have H' := Aside0.mk H
                clear H
                have p157 : 0 ≤ (x13_1 : Int) := of_decide_eq_true (by first | (with_reducible assumption) | assumption)
                have q157 : x13_1 < (l0.length : Int) := of_decide_eq_true (by first | (with_reducible assumption) | assumption)
                obtain ⟨ad157, e157, hx157_0⟩ := Kd.at_int HR0.out x13_1 p157 q157
                cases e157
                replace hx157_0 := (HB.out.cell (World.block_lt_of_cell? w _ hx157_0)).trans hx157_0
                replace p157 := eq_true p157
                replace q157 := eq_true q157
                go_wp2
                go_roundg k1
                case measure => have := HK1.out; omega
                case rel => exact ⟨(IntKind.u64.wrap (x2_1 + (rd l0 x13_1))), (wrap64 (x13_1 + 1)), (by first | rfl | (simp; done) | (simp [*]; done)), (by first | rfl | (simp; done) | (simp [*]; done)), H', ⟨by have := HK1.out; omega⟩, ⟨by repeat (first | (with_reducible first | exact HB.out | apply below_alloc | apply pw_below_drewN | apply below_drew1) | exact HB.out)⟩⟩
            · rw [if_neg c7] at H
              exact absurd H (by simp)
          · rw [if_neg c6] at H
            exact absurd H (by simp)
        · rw [if_neg c5] at H
          have c5b0 : decide (x13_1 < (l0.length : Int)) = false := decide_eq_false c5
          clear c5
          simp only [Option.some.injEq, Prod.mk.injEq] at H
          obtain ⟨rfl, rfl⟩ := H
          go_wp2
          go_ret2
          exact ⟨by first | rfl | (simp [errW_none, errW_some] <;> rfl) | (simp [*, errW_none, errW_some] <;> rfl), by repeat (first | (with_reducible first | exact HB.out | apply below_alloc | apply pw_below_drewN | apply below_drew1) | exact HB.out)⟩
  · rw [if_neg c3] at H
    have c3b0 : (t156 == 0) = false := beq_eq_false_iff_ne.mpr c3
    have c3b1 : (t156 != 0) = true := bne_iff_ne.mpr c3
    simp only [Option.some.injEq, Prod.mk.injEq] at H
    obtain ⟨rfl, rfl⟩ := H
    go_enter Try.func11, Try.ntmps11
    go_wp2_with (first | ((with_reducible refine gate_callee (f := 14) rfl ?_); refine goesL_ (some 7) rfl rfl Try.func14 (by kernel_rfl) rfl #[.slice A0 l0.length c0] rfl (by (try simp only [List.map_toArray, List.map_cons, List.map_nil]); first | done | rfl | (simp only [List.length_drop, List.length_take]; rfl)) ?_; (with_reducible refine (money_Check.calls k _ _ l0 t156 _ ?side1 ?side2 A2.out).mono ?_); (case side1 => repeat (first | exact HR0.out | (with_reducible refine Kd.C_alloc ?_ _) | (with_reducible refine Kd.C_drewN ?_ _) | (with_reducible refine Kd.C_drew ?_))); (case side2 => exact HC0.out); rintro e w9 ⟨rfl, hb⟩; refine ⟨_, rfl, ?_⟩; have n0_ := Aside0.mk (below_step (by repeat (first | (with_reducible first | exact HB.out | apply below_alloc | apply pw_below_drewN | apply below_drew1) | exact HB.out)) hb); clear HB; have HB := n0_; clear n0_; (try clear hb); (try clear hb2); (try clear hk); (try clear hi)))
    go_ret2
    exact ⟨by first | rfl | (simp [errW_none, errW_some] <;> rfl) | (simp [*, errW_none, errW_some] <;> rfl), by repeat (first | (with_reducible first | exact HB.out | apply below_alloc | apply pw_below_drewN | apply below_drew1) | exact HB.out)⟩

end Go.Proofs.Ytcolmgbmpmmeaaa.P
