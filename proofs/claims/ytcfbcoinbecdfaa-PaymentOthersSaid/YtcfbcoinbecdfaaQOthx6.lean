-- written by a program of this session (wip/print)
import Derived.Test.YtcfbcoinbecdfaaQOthx0
import Derived.Test.YtcfbcoinbecdfaaQOthx1
import Derived.Test.YtcfbcoinbecdfaaQOthx5
namespace Go.Proofs.Ytcfbcoinbecdfaa.P
open Go.RowKit Go.Proofs.YtcfbcoinbecdfaaW.PrintWords Go.Proofs.YtcfbcoinbecdfaaW.PrintLast Go.Proofs.YtcfbcoinbecdfaaW.PrintMore
attribute [local go_sem] max2_int min2_int max_two min_two max_three min_three max_four min_four run_sub64_   -- for this text's walks alone
set_option linter.unusedVariables false
set_option linter.unusedSimpArgs false

attribute [local go_sem high] eqA74
/-! ### damsonlaw13_PaymentOthers: function 17 -/
mutual
def damsonlaw13_PaymentOthers.j0 : Nat → List (S74) → Int → Int → Bool → Bool → Bool → Option (Bool)
  | 0, _, _, _, _, _, _ => none
  | k + 1, x0, x1, x2, x3, x4, x32 => if x32 = true then (some true) else ((payment_End.f k x0 x1 x3).bind fun bt186 => (if bt186.2 = 0 then ((payment_Get.f k x0 x2).bind fun bt190 => ((payment_Get.f k bt186.1 x2).bind fun bt197 => (if bt190.2.2.2.2.2 = bt197.2.2.2.2.2 then (if (!(bt190.1 == bt197.1) || (!(bt190.2.1 == bt197.2.1) || (!(bt190.2.2.1 == bt197.2.2.1) || (!(bt190.2.2.2.1 == bt197.2.2.2.1) || (!(bt190.2.2.2.2.1 == bt197.2.2.2.2.1)))))) = true then (damsonlaw13_PaymentOthers.j1 k x0 x1 x2 x3 x4 bt186.1 true) else (damsonlaw13_PaymentOthers.j1 k x0 x1 x2 x3 x4 bt186.1 ((bt186.1.length : Int) != (x0.length : Int)))) else (damsonlaw13_PaymentOthers.j1 k x0 x1 x2 x3 x4 bt186.1 true)))) else (some ((bt186.1.length : Int) == 0))))
def damsonlaw13_PaymentOthers.j1 : Nat → List (S74) → Int → Int → Bool → Bool → List (S74) → Bool → Option (Bool)
  | 0, _, _, _, _, _, _, _ => none
  | k + 1, x0, x1, x2, x3, x4, x11, x71 => if x71 = true then (some false) else ((payment_End.f k x11 x2 x4).bind fun bt204 => ((payment_End.f k x0 x2 x4).bind fun bt208 => (if bt208.2 = 0 then ((payment_End.f k bt208.1 x1 x3).bind fun bt212 => (if bt204.2 = 0 then (if bt212.2 = 0 then ((payment_Same.f k bt204.1 bt212.1).bind fun t216 => (some t216)) else (some false)) else (some false))) else (some (bt204.2 == bt208.2)))))
end
def damsonlaw13_PaymentOthers.f (k : Nat) (l0 : List (S74)) (a1 : Int) (a2 : Int) (a3 : Bool) (a4 : Bool) : Option (Bool) := (damsonlaw13_live.f k).bind fun t184 => (if t184 = true then ((damsonlaw13_few.f l0).bind fun t185 => (if t185 = true then (damsonlaw13_PaymentOthers.j0 k l0 a1 a2 a3 a4 (a1 == a2)) else (damsonlaw13_PaymentOthers.j0 k l0 a1 a2 a3 a4 true))) else (some false))
theorem damsonlaw13_PaymentOthers.mono_l : ∀ k, (∀ y0 y1 y2 y3 y4 y5, LeO (damsonlaw13_PaymentOthers.j0 k y0 y1 y2 y3 y4 y5) (damsonlaw13_PaymentOthers.j0 (k + 1) y0 y1 y2 y3 y4 y5)) ∧ (∀ y0 y1 y2 y3 y4 y5 y6, LeO (damsonlaw13_PaymentOthers.j1 k y0 y1 y2 y3 y4 y5 y6) (damsonlaw13_PaymentOthers.j1 (k + 1) y0 y1 y2 y3 y4 y5 y6))
  | 0 => ⟨fun _ _ _ _ _ _ r h => by simp [damsonlaw13_PaymentOthers.j0] at h, fun _ _ _ _ _ _ _ r h => by simp [damsonlaw13_PaymentOthers.j1] at h⟩
  | k + 1 => by
    obtain ⟨ih0, ih1⟩ := damsonlaw13_PaymentOthers.mono_l k
    refine ⟨?_, ?_⟩
    · intro y0 y1 y2 y3 y4 y5
      unfold damsonlaw13_PaymentOthers.j0
      repeat' first
      | (with_reducible exact ih0 _ _ _ _ _ _)
      | (with_reducible exact ih1 _ _ _ _ _ _ _)
      | (with_reducible exact damsonlaw13_live.mono _)
      | (with_reducible exact payment_End.mono _ _ _ _)
      | (with_reducible exact payment_Get.mono _ _ _)
      | (with_reducible exact payment_Same.mono _ _ _)
      | (with_reducible exact LeO.refl _)
      | (with_reducible exact LeO.none _)
      | (with_reducible refine LeO.ite ?_ ?_)
      | (with_reducible refine LeO.bind ?_ (fun _ => ?_))
      | exact ih0 _ _ _ _ _ _
      | exact ih1 _ _ _ _ _ _ _
      | exact damsonlaw13_live.mono _
      | exact payment_End.mono _ _ _ _
      | exact payment_Get.mono _ _ _
      | exact payment_Same.mono _ _ _
      | exact LeO.none _
      | refine LeO.ite ?_ ?_
      | refine LeO.bind ?_ (fun _ => ?_)
    · intro y0 y1 y2 y3 y4 y5 y6
      unfold damsonlaw13_PaymentOthers.j1
      repeat' first
      | (with_reducible exact ih0 _ _ _ _ _ _)
      | (with_reducible exact ih1 _ _ _ _ _ _ _)
      | (with_reducible exact damsonlaw13_live.mono _)
      | (with_reducible exact payment_End.mono _ _ _ _)
      | (with_reducible exact payment_Get.mono _ _ _)
      | (with_reducible exact payment_Same.mono _ _ _)
      | (with_reducible exact LeO.refl _)
      | (with_reducible exact LeO.none _)
      | (with_reducible refine LeO.ite ?_ ?_)
      | (with_reducible refine LeO.bind ?_ (fun _ => ?_))
      | exact ih0 _ _ _ _ _ _
      | exact ih1 _ _ _ _ _ _ _
      | exact damsonlaw13_live.mono _
      | exact payment_End.mono _ _ _ _
      | exact payment_Get.mono _ _ _
      | exact payment_Same.mono _ _ _
      | exact LeO.none _
      | refine LeO.ite ?_ ?_
      | refine LeO.bind ?_ (fun _ => ?_)
theorem damsonlaw13_PaymentOthers.mono : ∀ a0 a1 a2 a3 a4 k, LeO (damsonlaw13_PaymentOthers.f k a0 a1 a2 a3 a4) (damsonlaw13_PaymentOthers.f (k + 1) a0 a1 a2 a3 a4) := by
  intro a0 a1 a2 a3 a4 k
  obtain ⟨ih0, ih1⟩ := damsonlaw13_PaymentOthers.mono_l k
  unfold damsonlaw13_PaymentOthers.f
  repeat' first
      | (with_reducible exact ih0 _ _ _ _ _ _)
      | (with_reducible exact ih1 _ _ _ _ _ _ _)
      | (with_reducible exact damsonlaw13_live.mono _)
      | (with_reducible exact payment_End.mono _ _ _ _)
      | (with_reducible exact payment_Get.mono _ _ _)
      | (with_reducible exact payment_Same.mono _ _ _)
      | (with_reducible exact LeO.refl _)
      | (with_reducible exact LeO.none _)
      | (with_reducible refine LeO.ite ?_ ?_)
      | (with_reducible refine LeO.bind ?_ (fun _ => ?_))
      | exact ih0 _ _ _ _ _ _
      | exact ih1 _ _ _ _ _ _ _
      | exact damsonlaw13_live.mono _
      | exact payment_End.mono _ _ _ _
      | exact payment_Get.mono _ _ _
      | exact payment_Same.mono _ _ _
      | exact LeO.none _
      | refine LeO.ite ?_ ?_
      | refine LeO.bind ?_ (fun _ => ?_)
set_option maxHeartbeats 8000000 in
set_option maxRecDepth 100000 in
theorem damsonlaw13_PaymentOthers.calls (k : Nat) (A0 : Option Addr) (c0 : Nat) (l0 : List (S74)) (a1 : Int) (a2 : Int) (a3 : Bool) (a4 : Bool) (r : Bool) (w : World) (hr0 : Kd.C k74 w A0 l0.length l0) (hc0 : l0.length ≤ c0) (h : damsonlaw13_PaymentOthers.f k l0 a1 a2 a3 a4 = some r) :
    Calls Try.prog 17 #[.slice A0 l0.length c0, .int .u64 a1, .int .u64 a2, .bool a3, .bool a4] w fun e w' => e = .returned (.bool r) ∧ Below w.heap.size w w' := by
  have hu74 := Try.underlying74
  have HR0 := Aside0.mk hr0
  have HC0 := Aside0.mk hc0
  clear hr0 hc0
  have HB := Aside0.mk (Below.refl w.heap.size w)
  have H : ((damsonlaw13_live.f k).bind fun t184 => (if t184 = true then ((damsonlaw13_few.f l0).bind fun t185 => (if t185 = true then (damsonlaw13_PaymentOthers.j0 k l0 a1 a2 a3 a4 (a1 == a2)) else (damsonlaw13_PaymentOthers.j0 k l0 a1 a2 a3 a4 true))) else (some false))) = some r := h
  clear h
  replace H := Option.bind_eq_some_iff.mp H
  obtain ⟨t184, A60, H⟩ := H
  replace H : (if t184 = true then ((damsonlaw13_few.f l0).bind fun t185 => (if t185 = true then (damsonlaw13_PaymentOthers.j0 k l0 a1 a2 a3 a4 (a1 == a2)) else (damsonlaw13_PaymentOthers.j0 k l0 a1 a2 a3 a4 true))) else (some false)) = some r := H
  have A6 := Aside0.mk A60
  clear A60
  by_cases c7 : t184 = true
  · subst c7
    have H1 : ((damsonlaw13_few.f l0).bind fun t185 => (if t185 = true then (damsonlaw13_PaymentOthers.j0 k l0 a1 a2 a3 a4 (a1 == a2)) else (damsonlaw13_PaymentOthers.j0 k l0 a1 a2 a3 a4 true))) = some r := by rw [if_pos rfl] at H; exact H
    clear H
    have H := H1
    clear H1
    have HC8 := Aside0.mk H
    clear H
    go_enter Try.func17, Try.ntmps17
    go_upto_region 3 with (first | ((with_reducible refine gate_callee (f := 68) rfl ?_); refine goesL_ (some 23) rfl rfl Try.func68 (by kernel_rfl) rfl #[] rfl (by (try simp only [List.map_toArray, List.map_cons, List.map_nil]); first | done | rfl | (simp only [List.length_drop, List.length_take]; rfl)) ?_; (with_reducible refine (damsonlaw13_live.calls k  true _ A6.out).mono ?_); rintro e w9 ⟨rfl, hb⟩; refine ⟨_, rfl, ?_⟩; have n0_ := Aside0.mk (below_step (by repeat (first | (with_reducible first | exact HB.out | apply below_alloc | apply pw_below_drewN | apply below_drew1) | exact HB.out)) hb); clear HB; have HB := n0_; clear n0_; (try clear hb); (try clear hb2); (try clear hk); (try clear hi)))
    (try simp only [Act.put, List.setIfInBounds_toArray, List.set_cons_zero, List.set_cons_succ])
    go_cut [32] (fun v32 wc => ∃ (kq : Nat) (x32_7 : Bool), v32 = .bool x32_7 ∧ Aside0 (damsonlaw13_PaymentOthers.j0 kq l0 a1 a2 a3 a4 x32_7 = some r) ∧ Aside0 (kq ≤ k) ∧ Aside0 (Below w.heap.size w wc))
    case first =>
      have H := HC8.out
      clear HC8
      replace H := Option.bind_eq_some_iff.mp H
      obtain ⟨t185, A100, H⟩ := H
      replace H : (if t185 = true then (damsonlaw13_PaymentOthers.j0 k l0 a1 a2 a3 a4 (a1 == a2)) else (damsonlaw13_PaymentOthers.j0 k l0 a1 a2 a3 a4 true)) = some r := H
      have A10 := Aside0.mk A100
      clear A100
      by_cases c11 : t185 = true
      · subst c11
        have H1 : (damsonlaw13_PaymentOthers.j0 k l0 a1 a2 a3 a4 (a1 == a2)) = some r := by rw [if_pos rfl] at H; exact H
        clear H
        have H := H1
        clear H1
        have H' := Aside0.mk H
        clear H
        go_wp2_with (first | ((with_reducible refine gate_callee (f := 69) rfl ?_); refine goesL_ (some 26) rfl rfl Try.func69 (by kernel_rfl) rfl #[.slice A0 l0.length c0] rfl (by (try simp only [List.map_toArray, List.map_cons, List.map_nil]); first | done | rfl | (simp only [List.length_drop, List.length_take]; rfl)) ?_; (with_reducible refine (damsonlaw13_few.calls _ _ l0 true _ ?side1 ?side2 A10.out).mono ?_); (case side1 => repeat (first | exact (Kd.C_below HR0.out HB.out) | (with_reducible refine Kd.C_alloc ?_ _) | (with_reducible refine Kd.C_drewN ?_ _) | (with_reducible refine Kd.C_drew ?_))); (case side2 => exact HC0.out); rintro e w' ⟨rfl, ⟨nd, rfl⟩⟩; refine ⟨_, rfl, ?_⟩))
        go_meet
        case rel => exact ⟨_, ((a1 == a2)), (by first | rfl | (simp; done) | (simp [*]; done)), H', ⟨by first | omega | exact Nat.le_refl _⟩, ⟨by repeat (first | (with_reducible first | exact HB.out | apply below_alloc | apply pw_below_drewN | apply below_drew1) | exact HB.out)⟩⟩
      · replace c11 := Bool.eq_false_iff.mpr c11
        subst c11
        have H1 : (damsonlaw13_PaymentOthers.j0 k l0 a1 a2 a3 a4 true) = some r := by rw [if_neg (show ¬ (false = true) by decide)] at H; exact H
        clear H
        have H := H1
        clear H1
        have H' := Aside0.mk H
        clear H
        go_wp2_with (first | ((with_reducible refine gate_callee (f := 69) rfl ?_); refine goesL_ (some 26) rfl rfl Try.func69 (by kernel_rfl) rfl #[.slice A0 l0.length c0] rfl (by (try simp only [List.map_toArray, List.map_cons, List.map_nil]); first | done | rfl | (simp only [List.length_drop, List.length_take]; rfl)) ?_; (with_reducible refine (damsonlaw13_few.calls _ _ l0 false _ ?side1 ?side2 A10.out).mono ?_); (case side1 => repeat (first | exact (Kd.C_below HR0.out HB.out) | (with_reducible refine Kd.C_alloc ?_ _) | (with_reducible refine Kd.C_drewN ?_ _) | (with_reducible refine Kd.C_drew ?_))); (case side2 => exact HC0.out); rintro e w' ⟨rfl, ⟨nd, rfl⟩⟩; refine ⟨_, rfl, ?_⟩))
        go_meet
        case rel => exact ⟨_, (true), (by first | rfl | (simp; done) | (simp [*]; done)), H', ⟨by first | omega | exact Nat.le_refl _⟩, ⟨by repeat (first | (with_reducible first | exact HB.out | apply below_alloc | apply pw_below_drewN | apply below_drew1) | exact HB.out)⟩⟩
    case rest =>
      clear HC8
      try clear c1
      try clear p2
      try clear c6
      try clear c7
      try clear c11
      obtain ⟨kq, x32_7, rfl, HA, HJ7, HB⟩ := hcut
      cases kq with
      | zero => exact absurd HA.out (by simp [damsonlaw13_PaymentOthers.j0])
      | succ kj7 =>
        have H := HA.out
        clear HA
        simp only [damsonlaw13_PaymentOthers.j0] at H
        by_cases c12 : x32_7 = true
        · subst c12
          have H1 : (some true) = some r := by rw [if_pos rfl] at H; exact H
          clear H
          have H := H1
          clear H1
          obtain rfl := Option.some.inj H
          go_wp2
          go_ret
          exact ⟨by first | rfl | (simp [errW_none, errW_some] <;> rfl) | (simp [*, errW_none, errW_some] <;> rfl), by repeat (first | (with_reducible first | exact HB.out | apply below_alloc | apply pw_below_drewN | apply below_drew1) | exact HB.out)⟩
        · replace c12 := Bool.eq_false_iff.mpr c12
          subst c12
          have H1 : ((payment_End.f kj7 l0 a1 a3).bind fun bt186 => (if bt186.2 = 0 then ((payment_Get.f kj7 l0 a2).bind fun bt190 => ((payment_Get.f kj7 bt186.1 a2).bind fun bt197 => (if bt190.2.2.2.2.2 = bt197.2.2.2.2.2 then (if (!(bt190.1 == bt197.1) || (!(bt190.2.1 == bt197.2.1) || (!(bt190.2.2.1 == bt197.2.2.1) || (!(bt190.2.2.2.1 == bt197.2.2.2.1) || (!(bt190.2.2.2.2.1 == bt197.2.2.2.2.1)))))) = true then (damsonlaw13_PaymentOthers.j1 kj7 l0 a1 a2 a3 a4 bt186.1 true) else (damsonlaw13_PaymentOthers.j1 kj7 l0 a1 a2 a3 a4 bt186.1 ((bt186.1.length : Int) != (l0.length : Int)))) else (damsonlaw13_PaymentOthers.j1 kj7 l0 a1 a2 a3 a4 bt186.1 true)))) else (some ((bt186.1.length : Int) == 0)))) = some r := by rw [if_neg (show ¬ (false = true) by decide)] at H; exact H
          clear H
          have H := H1
          clear H1
          replace H := Option.bind_eq_some_iff.mp H
          obtain ⟨⟨t186, t187⟩, A130, H⟩ := H
          replace H : (if t187 = 0 then ((payment_Get.f kj7 l0 a2).bind fun bt190 => ((payment_Get.f kj7 t186 a2).bind fun bt197 => (if bt190.2.2.2.2.2 = bt197.2.2.2.2.2 then (if (!(bt190.1 == bt197.1) || (!(bt190.2.1 == bt197.2.1) || (!(bt190.2.2.1 == bt197.2.2.1) || (!(bt190.2.2.2.1 == bt197.2.2.2.1) || (!(bt190.2.2.2.2.1 == bt197.2.2.2.2.1)))))) = true then (damsonlaw13_PaymentOthers.j1 kj7 l0 a1 a2 a3 a4 t186 true) else (damsonlaw13_PaymentOthers.j1 kj7 l0 a1 a2 a3 a4 t186 ((t186.length : Int) != (l0.length : Int)))) else (damsonlaw13_PaymentOthers.j1 kj7 l0 a1 a2 a3 a4 t186 true)))) else (some ((t186.length : Int) == 0))) = some r := H
          have A13 := Aside0.mk A130
          clear A130
          by_cases c14 : t187 = 0
          · rw [if_pos c14] at H
            have c14b0 : (t187 == 0) = true := beq_iff_eq.mpr c14
            have c14b1 : (t187 != 0) = false := bne_eq_false_iff_eq.mpr c14
            clear c14
            replace H := Option.bind_eq_some_iff.mp H
            obtain ⟨⟨t190, t191, t192, t193, t194, t195⟩, A150, H⟩ := H
            replace H : ((payment_Get.f kj7 t186 a2).bind fun bt197 => (if t195 = bt197.2.2.2.2.2 then (if (!(t190 == bt197.1) || (!(t191 == bt197.2.1) || (!(t192 == bt197.2.2.1) || (!(t193 == bt197.2.2.2.1) || (!(t194 == bt197.2.2.2.2.1)))))) = true then (damsonlaw13_PaymentOthers.j1 kj7 l0 a1 a2 a3 a4 t186 true) else (damsonlaw13_PaymentOthers.j1 kj7 l0 a1 a2 a3 a4 t186 ((t186.length : Int) != (l0.length : Int)))) else (damsonlaw13_PaymentOthers.j1 kj7 l0 a1 a2 a3 a4 t186 true))) = some r := H
            have A15 := Aside0.mk A150
            clear A150
            replace H := Option.bind_eq_some_iff.mp H
            obtain ⟨⟨t197, t198, t199, t200, t201, t202⟩, A160, H⟩ := H
            replace H : (if t195 = t202 then (if (!(t190 == t197) || (!(t191 == t198) || (!(t192 == t199) || (!(t193 == t200) || (!(t194 == t201)))))) = true then (damsonlaw13_PaymentOthers.j1 kj7 l0 a1 a2 a3 a4 t186 true) else (damsonlaw13_PaymentOthers.j1 kj7 l0 a1 a2 a3 a4 t186 ((t186.length : Int) != (l0.length : Int)))) else (damsonlaw13_PaymentOthers.j1 kj7 l0 a1 a2 a3 a4 t186 true)) = some r := H
            have A16 := Aside0.mk A160
            clear A160
            have HC17 := Aside0.mk H
            clear H
            go_upto_region 10 with (first | ((with_reducible refine gate_callee (f := 72) rfl ?_); refine goesL_ (some 37) rfl rfl Try.func72 (by kernel_rfl) rfl #[.slice A0 l0.length c0, .int .u64 a1, .bool a3] rfl (by (try simp only [List.map_toArray, List.map_cons, List.map_nil]); first | done | rfl | (simp only [List.length_drop, List.length_take]; rfl)) ?_; (with_reducible refine (payment_End.calls kj7 _ _ l0 a1 a3 t186 t187 _ ?side1 ?side2 A13.out).mono ?_); (case side1 => repeat (first | exact (Kd.C_below HR0.out HB.out) | (with_reducible refine Kd.C_alloc ?_ _) | (with_reducible refine Kd.C_drewN ?_ _) | (with_reducible refine Kd.C_drew ?_))); (case side2 => exact HC0.out); rintro e w18 ⟨v188, rfl, ho0, hb⟩; refine ⟨_, rfl, ?_⟩; have n0_ := Aside0.mk (Kd.R_lower ho0 (below_size (by repeat (first | (with_reducible first | exact HB.out | apply below_alloc | apply pw_below_drewN | apply below_drew1) | exact HB.out)))); have n1_ := Aside0.mk (below_step (by repeat (first | (with_reducible first | exact HB.out | apply below_alloc | apply pw_below_drewN | apply below_drew1) | exact HB.out)) hb); clear HB; have HO189 := n0_; have HB := n1_; clear n0_ n1_; (try clear hb); (try clear hb2); (try clear hk); (try clear hi); (try clear ho0)) | ((with_reducible refine gate_callee (f := 70) rfl ?_); refine goesL_ (some 48) rfl rfl Try.func70 (by kernel_rfl) rfl #[.slice A0 l0.length c0, .int .u64 a2] rfl (by (try simp only [List.map_toArray, List.map_cons, List.map_nil]); first | done | rfl | (simp only [List.length_drop, List.length_take]; rfl)) ?_; (with_reducible refine (payment_Get.calls kj7 _ _ l0 a2 t190 t191 t192 t193 t194 t195 _ ?side1 ?side2 A15.out).mono ?_); (case side1 => repeat (first | exact (Kd.C_below HR0.out HB.out) | (with_reducible refine Kd.C_alloc ?_ _) | (with_reducible refine Kd.C_drewN ?_ _) | (with_reducible refine Kd.C_drew ?_))); (case side2 => exact HC0.out); rintro e w19 ⟨rfl, hb⟩; refine ⟨_, rfl, ?_⟩; have n0_ := Aside0.mk (Kd.R_below (by (with_reducible repeat (first | apply Kd.R_alloc | apply Kd.R_drewN | apply Kd.R_drew)); exact HO189.out) hb); have n1_ := Aside0.mk (below_step (by repeat (first | (with_reducible first | exact HB.out | apply below_alloc | apply pw_below_drewN | apply below_drew1) | exact HB.out)) hb); clear HO189; clear HB; have HO189 := n0_; have HB := n1_; clear n0_ n1_; (try clear hb); (try clear hb2); (try clear hk); (try clear hi)) | ((with_reducible refine gate_dst (N := 13) rfl ?_); (try (refine gate_guard (by rfl) ?_; dsimp only)); refine box_event ?hg (N := 13) ?hd (cs := #[.int .u64 0, .int .u64 0, .int .u64 0, .int .u64 0, .int .i64 0]) (t := 74) ?hr ?_; (case hd => rfl); (case hg => rfl); (case hr => first | (go_simp; done) | (go_simp; rfl)); intro gb196 hg w20 hbox hb; have n0_ := Aside0.mk (Kd.R_below (Kd.R_elderB (by (with_reducible repeat (first | apply Kd.R_alloc | apply Kd.R_drewN | apply Kd.R_drew)); exact HO189.out) gb196 (Nat.le_of_eq hg.symm)) hb); have n1_ := Aside0.mk (below_step (by repeat (first | (with_reducible first | exact HB.out | apply below_alloc | apply pw_below_drewN | apply below_drew1) | exact HB.out)) hb); have n2_ := Aside0.mk (hbox); have n3_ := Aside0.mk ((by rw [hg]; exact (below_size (by repeat (first | (with_reducible first | exact HB.out | apply below_alloc | apply pw_below_drewN | apply below_drew1) | exact HB.out))) : w.heap.size ≤ gb196)); have n4_ := Aside0.mk ((by rw [hg]; exact (below_size (by repeat (first | (with_reducible first | exact HB.out | apply below_alloc | apply pw_below_drewN | apply below_drew1) | exact HB.out))) : w.heap.size ≤ gb196)); clear HO189; clear HB; have HO189 := n0_; have HB := n1_; have BK196 := n2_; have GW196 := n3_; have GE196 := n4_; clear n0_ n1_ n2_ n3_ n4_; clear hb hbox hg; have hcz21_0 : w20.cell? ⟨gb196, 0, none⟩ = some (.int .u64 0) := (blk_cell BK196.out 0).trans rfl; have hcz21_1 : w20.cell? ⟨gb196, 1, none⟩ = some (.int .u64 0) := (blk_cell BK196.out 1).trans rfl; have hcz21_2 : w20.cell? ⟨gb196, 2, none⟩ = some (.int .u64 0) := (blk_cell BK196.out 2).trans rfl; have hcz21_3 : w20.cell? ⟨gb196, 3, none⟩ = some (.int .u64 0) := (blk_cell BK196.out 3).trans rfl; have hcz21_4 : w20.cell? ⟨gb196, 4, none⟩ = some (.int .i64 0) := (blk_cell BK196.out 4).trans rfl; have hfz21_0 := blk_frozen BK196.out 0; have hfz21_1 := blk_frozen BK196.out 1; have hfz21_2 := blk_frozen BK196.out 2; have hfz21_3 := blk_frozen BK196.out 3; have hfz21_4 := blk_frozen BK196.out 4; obtain ⟨Ao22, co22, eo22⟩ := Kd.R_slice HO189.out; subst eo22) | ((with_reducible refine gate_callee (f := 70) rfl ?_); refine goesL_ (some 54) rfl rfl Try.func70 (by kernel_rfl) rfl #[.slice Ao22 t186.length co22, .int .u64 a2] rfl (by (try simp only [List.map_toArray, List.map_cons, List.map_nil]); first | done | rfl | (simp only [List.length_drop, List.length_take]; rfl)) ?_; (with_reducible refine (payment_Get.calls kj7 _ _ t186 a2 t197 t198 t199 t200 t201 t202 _ ?side1 ?side2 A16.out).mono ?_); (case side1 => refine (Kd.R_reads' (e := 74) (base := w.heap.size) (ok := fun k_ => (True ∧ k_ ≠ gb196)) (n := t186.length) (c := co22) ?_).2.2; exact (by (with_reducible repeat (first | apply Kd.R_alloc | apply Kd.R_drewN | apply Kd.R_drew)); exact (Kd.R_mono (Kd.R_far (p := ⟨gb196, 4, none⟩) (Kd.R_far (p := ⟨gb196, 3, none⟩) (Kd.R_far (p := ⟨gb196, 2, none⟩) (Kd.R_far (p := ⟨gb196, 1, none⟩) (Kd.R_far (p := ⟨gb196, 0, none⟩) (Kd.R_mono HO189.out (fun k_ hk => (⟨hk, hk.2⟩ : _ ∧ k_ ≠ gb196))) (fun _ hk => hk.2) (.int .u64 t190)) (fun _ hk => hk.2) (.int .u64 t191)) (fun _ hk => hk.2) (.int .u64 t192)) (fun _ hk => hk.2) (.int .u64 t193)) (fun _ hk => hk.2) (.int .i64 t194)) (fun _ h_ => h_.1)))); (case side2 => exact (Kd.R_reads' HO189.out).2.1); rintro e w23 ⟨rfl, hb⟩; refine ⟨_, rfl, ?_⟩; have n0_ := Aside0.mk (Kd.R_below (by (with_reducible repeat (first | apply Kd.R_alloc | apply Kd.R_drewN | apply Kd.R_drew)); exact (Kd.R_mono (Kd.R_far (p := ⟨gb196, 4, none⟩) (Kd.R_far (p := ⟨gb196, 3, none⟩) (Kd.R_far (p := ⟨gb196, 2, none⟩) (Kd.R_far (p := ⟨gb196, 1, none⟩) (Kd.R_far (p := ⟨gb196, 0, none⟩) (Kd.R_mono HO189.out (fun k_ hk => (⟨hk, hk.2⟩ : _ ∧ k_ ≠ gb196))) (fun _ hk => hk.2) (.int .u64 t190)) (fun _ hk => hk.2) (.int .u64 t191)) (fun _ hk => hk.2) (.int .u64 t192)) (fun _ hk => hk.2) (.int .u64 t193)) (fun _ hk => hk.2) (.int .i64 t194)) (fun _ h_ => h_.1))) hb); have n1_ := Aside0.mk (blk_below (g := gb196) (o := .cells #[.int .u64 t190, .int .u64 t191, .int .u64 t192, .int .u64 t193, .int .i64 t194] 74 (0, 0)) (by (with_reducible repeat (first | refine blk_drewN ?_ _ | refine blk_drew ?_ | refine blk_alloc ?_ _)); refine blk_put (cs := #[.int .u64 t190, .int .u64 t191, .int .u64 t192, .int .u64 t193, .int .i64 0]) ?_ 4 _ rfl; (with_reducible repeat (first | refine blk_drewN ?_ _ | refine blk_drew ?_ | refine blk_alloc ?_ _)); refine blk_put (cs := #[.int .u64 t190, .int .u64 t191, .int .u64 t192, .int .u64 0, .int .i64 0]) ?_ 3 _ rfl; (with_reducible repeat (first | refine blk_drewN ?_ _ | refine blk_drew ?_ | refine blk_alloc ?_ _)); refine blk_put (cs := #[.int .u64 t190, .int .u64 t191, .int .u64 0, .int .u64 0, .int .i64 0]) ?_ 2 _ rfl; (with_reducible repeat (first | refine blk_drewN ?_ _ | refine blk_drew ?_ | refine blk_alloc ?_ _)); refine blk_put (cs := #[.int .u64 t190, .int .u64 0, .int .u64 0, .int .u64 0, .int .i64 0]) ?_ 1 _ rfl; (with_reducible repeat (first | refine blk_drewN ?_ _ | refine blk_drew ?_ | refine blk_alloc ?_ _)); refine blk_put (cs := #[.int .u64 0, .int .u64 0, .int .u64 0, .int .u64 0, .int .i64 0]) ?_ 0 _ rfl; (with_reducible repeat (first | refine blk_drewN ?_ _ | refine blk_drew ?_ | refine blk_alloc ?_ _)); exact BK196.out) hb); have n2_ := Aside0.mk (below_step (by repeat (first | (with_reducible first | exact HB.out | apply below_alloc | apply pw_below_drewN | apply below_drew1 | refine below_set ?_ GE196.out) | exact HB.out)) hb); clear HO189; clear BK196; clear HB; have HO189 := n0_; have BK196 := n1_; have HB := n2_; clear n0_ n1_ n2_; (try clear hb); (try clear hb2); (try clear hk); (try clear hi)) | ((with_reducible refine gate_dst (N := 15) rfl ?_); (try (refine gate_guard (by rfl) ?_; dsimp only)); refine box_event ?hg (N := 15) ?hd (cs := #[.int .u64 0, .int .u64 0, .int .u64 0, .int .u64 0, .int .i64 0]) (t := 74) ?hr ?_; (case hd => rfl); (case hg => rfl); (case hr => first | (go_simp; done) | (go_simp; rfl)); intro gb203 hg w24 hbox hb; have n0_ := Aside0.mk (Kd.R_below (Kd.R_elderB (by (with_reducible repeat (first | apply Kd.R_alloc | apply Kd.R_drewN | apply Kd.R_drew)); exact HO189.out) gb203 (Nat.le_of_eq hg.symm)) hb); have n1_ := Aside0.mk (blk_below (g := gb196) (o := .cells #[.int .u64 t190, .int .u64 t191, .int .u64 t192, .int .u64 t193, .int .i64 t194] 74 (0, 0)) (by (with_reducible repeat (first | refine blk_drewN ?_ _ | refine blk_drew ?_ | refine blk_alloc ?_ _)); exact BK196.out) hb); have n2_ := Aside0.mk (below_step (by repeat (first | (with_reducible first | exact HB.out | apply below_alloc | apply pw_below_drewN | apply below_drew1 | refine below_set ?_ GE196.out) | exact HB.out)) hb); have n3_ := Aside0.mk (hbox); have n4_ := Aside0.mk ((by rw [hg]; exact (below_size (by repeat (first | (with_reducible first | exact HB.out | apply below_alloc | apply pw_below_drewN | apply below_drew1 | refine below_set ?_ GE196.out) | exact HB.out))) : w.heap.size ≤ gb203)); have n5_ := Aside0.mk ((by rw [hg]; exact (below_size (by repeat (first | (with_reducible first | exact HB.out | apply below_alloc | apply pw_below_drewN | apply below_drew1 | refine below_set ?_ GE196.out) | exact HB.out))) : w.heap.size ≤ gb203)); have n6_ := Aside0.mk ((by rw [hg]; exact Nat.ne_of_lt (blk_lt (g := gb196) (o := .cells #[.int .u64 t190, .int .u64 t191, .int .u64 t192, .int .u64 t193, .int .i64 t194] 74 (0, 0)) (by (with_reducible repeat (first | refine blk_drewN ?_ _ | refine blk_drew ?_ | refine blk_alloc ?_ _)); exact BK196.out)) : gb196 ≠ gb203)); have n7_ := Aside0.mk ((by rw [hg]; exact Nat.ne_of_gt (blk_lt (g := gb196) (o := .cells #[.int .u64 t190, .int .u64 t191, .int .u64 t192, .int .u64 t193, .int .i64 t194] 74 (0, 0)) (by (with_reducible repeat (first | refine blk_drewN ?_ _ | refine blk_drew ?_ | refine blk_alloc ?_ _)); exact BK196.out)) : gb203 ≠ gb196)); clear HO189; clear BK196; clear HB; have HO189 := n0_; have BK196 := n1_; have HB := n2_; have BK203 := n3_; have GW203 := n4_; have GE203 := n5_; have NB196_203 := n6_; have NB203_196 := n7_; clear n0_ n1_ n2_ n3_ n4_ n5_ n6_ n7_; clear hb hbox hg; have hnb25 := NB203_196.out; have hnc25 := NB196_203.out; have hcz26_0 : w24.cell? ⟨gb203, 0, none⟩ = some (.int .u64 0) := (blk_cell BK203.out 0).trans rfl; have hcz26_1 : w24.cell? ⟨gb203, 1, none⟩ = some (.int .u64 0) := (blk_cell BK203.out 1).trans rfl; have hcz26_2 : w24.cell? ⟨gb203, 2, none⟩ = some (.int .u64 0) := (blk_cell BK203.out 2).trans rfl; have hcz26_3 : w24.cell? ⟨gb203, 3, none⟩ = some (.int .u64 0) := (blk_cell BK203.out 3).trans rfl; have hcz26_4 : w24.cell? ⟨gb203, 4, none⟩ = some (.int .i64 0) := (blk_cell BK203.out 4).trans rfl; have hfz26_0 := blk_frozen BK203.out 0; have hfz26_1 := blk_frozen BK203.out 1; have hfz26_2 := blk_frozen BK203.out 2; have hfz26_3 := blk_frozen BK203.out 3; have hfz26_4 := blk_frozen BK203.out 4))
            (try simp only [Act.put, List.setIfInBounds_toArray, List.set_cons_zero, List.set_cons_succ])
            go_cut [71] (fun v71 wc => ∃ (kq : Nat) (x71_16 : Bool), v71 = .bool x71_16 ∧ Aside0 (damsonlaw13_PaymentOthers.j1 kq l0 a1 a2 a3 a4 t186 x71_16 = some r) ∧ Aside0 (kq ≤ kj7) ∧ Aside0 (Kd.R k74 74 wc w.heap.size (fun k_ => k_ ≠ gb196 ∧ k_ ≠ gb203) (.slice Ao22 t186.length co22) t186) ∧ Aside0 (wc.heap[gb196]? = some (.cells #[.int .u64 t190, .int .u64 t191, .int .u64 t192, .int .u64 t193, .int .i64 t194] 74 (0, 0))) ∧ Aside0 (wc.heap[gb203]? = some (.cells #[.int .u64 t197, .int .u64 t198, .int .u64 t199, .int .u64 t200, .int .i64 t201] 74 (0, 0))) ∧ Aside0 (Below w.heap.size w wc))
            case first =>
              have H := HC17.out
              clear HC17
              by_cases c27 : t195 = t202
              · rw [if_pos c27] at H
                have c27b0 : (t195 == t202) = true := beq_iff_eq.mpr c27
                have c27b1 : (t195 != t202) = false := bne_eq_false_iff_eq.mpr c27
                clear c27
                (first | rw [c27b0] | (simp only [i64_w, i32_w]; rw [c27b0]) | skip)
                by_cases c28 : (!(t190 == t197) || (!(t191 == t198) || (!(t192 == t199) || (!(t193 == t200) || (!(t194 == t201)))))) = true
                · rw [if_pos c28] at H
                  have c28b0 : (!(t190 == t197) || (!(t191 == t198) || (!(t192 == t199) || (!(t193 == t200) || (!(t194 == t201)))))) = true := c28
                  clear c28
                  have H' := Aside0.mk H
                  clear H
                  have hnb29 := NB196_203.out
                  have hnc29 := NB203_196.out
                  have hcz30_0 : w24.cell? ⟨gb196, 0, none⟩ = some (.int .u64 t190) := (blk_cell BK196.out 0).trans rfl
                  have hcz30_1 : w24.cell? ⟨gb196, 1, none⟩ = some (.int .u64 t191) := (blk_cell BK196.out 1).trans rfl
                  have hcz30_2 : w24.cell? ⟨gb196, 2, none⟩ = some (.int .u64 t192) := (blk_cell BK196.out 2).trans rfl
                  have hcz30_3 : w24.cell? ⟨gb196, 3, none⟩ = some (.int .u64 t193) := (blk_cell BK196.out 3).trans rfl
                  have hcz30_4 : w24.cell? ⟨gb196, 4, none⟩ = some (.int .i64 t194) := (blk_cell BK196.out 4).trans rfl
                  have hfz30_0 := blk_frozen BK196.out 0
                  have hfz30_1 := blk_frozen BK196.out 1
                  have hfz30_2 := blk_frozen BK196.out 2
                  have hfz30_3 := blk_frozen BK196.out 3
                  have hfz30_4 := blk_frozen BK196.out 4
                  have hcz31_0 : w24.cell? ⟨gb203, 0, none⟩ = some (.int .u64 0) := (blk_cell BK203.out 0).trans rfl
                  have hcz31_1 : w24.cell? ⟨gb203, 1, none⟩ = some (.int .u64 0) := (blk_cell BK203.out 1).trans rfl
                  have hcz31_2 : w24.cell? ⟨gb203, 2, none⟩ = some (.int .u64 0) := (blk_cell BK203.out 2).trans rfl
                  have hcz31_3 : w24.cell? ⟨gb203, 3, none⟩ = some (.int .u64 0) := (blk_cell BK203.out 3).trans rfl
                  have hcz31_4 : w24.cell? ⟨gb203, 4, none⟩ = some (.int .i64 0) := (blk_cell BK203.out 4).trans rfl
                  have hfz31_0 := blk_frozen BK203.out 0
                  have hfz31_1 := blk_frozen BK203.out 1
                  have hfz31_2 := blk_frozen BK203.out 2
                  have hfz31_3 := blk_frozen BK203.out 3
                  have hfz31_4 := blk_frozen BK203.out 4
                  go_wp2
                  go_meet
                  case rel => exact ⟨_, (true), (by first | rfl | (simp; done) | (simp [*]; done)), H', ⟨by have := HJ7.out; first | omega | exact Nat.le_refl _⟩, ⟨by (with_reducible repeat (first | apply Kd.R_alloc | apply Kd.R_drewN | apply Kd.R_drew)); exact Kd.R_mono (Kd.R_far (p := ⟨gb203, 4, none⟩) (Kd.R_far (p := ⟨gb203, 3, none⟩) (Kd.R_far (p := ⟨gb203, 2, none⟩) (Kd.R_far (p := ⟨gb203, 1, none⟩) (Kd.R_far (p := ⟨gb203, 0, none⟩) (Kd.R_mono HO189.out (fun k_ hk => (⟨hk, hk.2⟩ : _ ∧ k_ ≠ gb203))) (fun _ hk => hk.2) (.int .u64 t197)) (fun _ hk => hk.2) (.int .u64 t198)) (fun _ hk => hk.2) (.int .u64 t199)) (fun _ hk => hk.2) (.int .u64 t200)) (fun _ hk => hk.2) (.int .i64 t201)) (fun _ hk => ⟨hk.1.1.2, hk.1.2⟩)⟩, ⟨by (with_reducible repeat (first | refine blk_drewN ?_ _ | refine blk_drew ?_ | refine blk_alloc ?_ _)); refine blk_far ?_ NB196_203.out _; (with_reducible repeat (first | refine blk_drewN ?_ _ | refine blk_drew ?_ | refine blk_alloc ?_ _)); refine blk_far ?_ NB196_203.out _; (with_reducible repeat (first | refine blk_drewN ?_ _ | refine blk_drew ?_ | refine blk_alloc ?_ _)); refine blk_far ?_ NB196_203.out _; (with_reducible repeat (first | refine blk_drewN ?_ _ | refine blk_drew ?_ | refine blk_alloc ?_ _)); refine blk_far ?_ NB196_203.out _; (with_reducible repeat (first | refine blk_drewN ?_ _ | refine blk_drew ?_ | refine blk_alloc ?_ _)); refine blk_far ?_ NB196_203.out _; (with_reducible repeat (first | refine blk_drewN ?_ _ | refine blk_drew ?_ | refine blk_alloc ?_ _)); exact BK196.out⟩, ⟨by (with_reducible repeat (first | refine blk_drewN ?_ _ | refine blk_drew ?_ | refine blk_alloc ?_ _)); refine blk_put (cs := #[.int .u64 t197, .int .u64 t198, .int .u64 t199, .int .u64 t200, .int .i64 0]) ?_ 4 _ rfl; (with_reducible repeat (first | refine blk_drewN ?_ _ | refine blk_drew ?_ | refine blk_alloc ?_ _)); refine blk_put (cs := #[.int .u64 t197, .int .u64 t198, .int .u64 t199, .int .u64 0, .int .i64 0]) ?_ 3 _ rfl; (with_reducible repeat (first | refine blk_drewN ?_ _ | refine blk_drew ?_ | refine blk_alloc ?_ _)); refine blk_put (cs := #[.int .u64 t197, .int .u64 t198, .int .u64 0, .int .u64 0, .int .i64 0]) ?_ 2 _ rfl; (with_reducible repeat (first | refine blk_drewN ?_ _ | refine blk_drew ?_ | refine blk_alloc ?_ _)); refine blk_put (cs := #[.int .u64 t197, .int .u64 0, .int .u64 0, .int .u64 0, .int .i64 0]) ?_ 1 _ rfl; (with_reducible repeat (first | refine blk_drewN ?_ _ | refine blk_drew ?_ | refine blk_alloc ?_ _)); refine blk_put (cs := #[.int .u64 0, .int .u64 0, .int .u64 0, .int .u64 0, .int .i64 0]) ?_ 0 _ rfl; (with_reducible repeat (first | refine blk_drewN ?_ _ | refine blk_drew ?_ | refine blk_alloc ?_ _)); exact BK203.out⟩, ⟨by repeat (first | (with_reducible first | exact HB.out | apply below_alloc | apply pw_below_drewN | apply below_drew1 | refine below_set ?_ GE196.out | refine below_set ?_ GE203.out) | exact HB.out)⟩⟩
                · rw [if_neg c28] at H
                  have c28b0 : (!(t190 == t197) || (!(t191 == t198) || (!(t192 == t199) || (!(t193 == t200) || (!(t194 == t201)))))) = false := by simpa using c28
                  clear c28
                  have H' := Aside0.mk H
                  clear H
                  have hnb32 := NB196_203.out
                  have hnc32 := NB203_196.out
                  have hcz33_0 : w24.cell? ⟨gb196, 0, none⟩ = some (.int .u64 t190) := (blk_cell BK196.out 0).trans rfl
                  have hcz33_1 : w24.cell? ⟨gb196, 1, none⟩ = some (.int .u64 t191) := (blk_cell BK196.out 1).trans rfl
                  have hcz33_2 : w24.cell? ⟨gb196, 2, none⟩ = some (.int .u64 t192) := (blk_cell BK196.out 2).trans rfl
                  have hcz33_3 : w24.cell? ⟨gb196, 3, none⟩ = some (.int .u64 t193) := (blk_cell BK196.out 3).trans rfl
                  have hcz33_4 : w24.cell? ⟨gb196, 4, none⟩ = some (.int .i64 t194) := (blk_cell BK196.out 4).trans rfl
                  have hfz33_0 := blk_frozen BK196.out 0
                  have hfz33_1 := blk_frozen BK196.out 1
                  have hfz33_2 := blk_frozen BK196.out 2
                  have hfz33_3 := blk_frozen BK196.out 3
                  have hfz33_4 := blk_frozen BK196.out 4
                  have hcz34_0 : w24.cell? ⟨gb203, 0, none⟩ = some (.int .u64 0) := (blk_cell BK203.out 0).trans rfl
                  have hcz34_1 : w24.cell? ⟨gb203, 1, none⟩ = some (.int .u64 0) := (blk_cell BK203.out 1).trans rfl
                  have hcz34_2 : w24.cell? ⟨gb203, 2, none⟩ = some (.int .u64 0) := (blk_cell BK203.out 2).trans rfl
                  have hcz34_3 : w24.cell? ⟨gb203, 3, none⟩ = some (.int .u64 0) := (blk_cell BK203.out 3).trans rfl
                  have hcz34_4 : w24.cell? ⟨gb203, 4, none⟩ = some (.int .i64 0) := (blk_cell BK203.out 4).trans rfl
                  have hfz34_0 := blk_frozen BK203.out 0
                  have hfz34_1 := blk_frozen BK203.out 1
                  have hfz34_2 := blk_frozen BK203.out 2
                  have hfz34_3 := blk_frozen BK203.out 3
                  have hfz34_4 := blk_frozen BK203.out 4
                  go_wp2
                  go_meet
                  case rel => exact ⟨_, (((t186.length : Int) != (l0.length : Int))), (by first | rfl | (simp; done) | (simp [*]; done)), H', ⟨by have := HJ7.out; first | omega | exact Nat.le_refl _⟩, ⟨by (with_reducible repeat (first | apply Kd.R_alloc | apply Kd.R_drewN | apply Kd.R_drew)); exact Kd.R_mono (Kd.R_far (p := ⟨gb203, 4, none⟩) (Kd.R_far (p := ⟨gb203, 3, none⟩) (Kd.R_far (p := ⟨gb203, 2, none⟩) (Kd.R_far (p := ⟨gb203, 1, none⟩) (Kd.R_far (p := ⟨gb203, 0, none⟩) (Kd.R_mono HO189.out (fun k_ hk => (⟨hk, hk.2⟩ : _ ∧ k_ ≠ gb203))) (fun _ hk => hk.2) (.int .u64 t197)) (fun _ hk => hk.2) (.int .u64 t198)) (fun _ hk => hk.2) (.int .u64 t199)) (fun _ hk => hk.2) (.int .u64 t200)) (fun _ hk => hk.2) (.int .i64 t201)) (fun _ hk => ⟨hk.1.1.2, hk.1.2⟩)⟩, ⟨by (with_reducible repeat (first | refine blk_drewN ?_ _ | refine blk_drew ?_ | refine blk_alloc ?_ _)); refine blk_far ?_ NB196_203.out _; (with_reducible repeat (first | refine blk_drewN ?_ _ | refine blk_drew ?_ | refine blk_alloc ?_ _)); refine blk_far ?_ NB196_203.out _; (with_reducible repeat (first | refine blk_drewN ?_ _ | refine blk_drew ?_ | refine blk_alloc ?_ _)); refine blk_far ?_ NB196_203.out _; (with_reducible repeat (first | refine blk_drewN ?_ _ | refine blk_drew ?_ | refine blk_alloc ?_ _)); refine blk_far ?_ NB196_203.out _; (with_reducible repeat (first | refine blk_drewN ?_ _ | refine blk_drew ?_ | refine blk_alloc ?_ _)); refine blk_far ?_ NB196_203.out _; (with_reducible repeat (first | refine blk_drewN ?_ _ | refine blk_drew ?_ | refine blk_alloc ?_ _)); exact BK196.out⟩, ⟨by (with_reducible repeat (first | refine blk_drewN ?_ _ | refine blk_drew ?_ | refine blk_alloc ?_ _)); refine blk_put (cs := #[.int .u64 t197, .int .u64 t198, .int .u64 t199, .int .u64 t200, .int .i64 0]) ?_ 4 _ rfl; (with_reducible repeat (first | refine blk_drewN ?_ _ | refine blk_drew ?_ | refine blk_alloc ?_ _)); refine blk_put (cs := #[.int .u64 t197, .int .u64 t198, .int .u64 t199, .int .u64 0, .int .i64 0]) ?_ 3 _ rfl; (with_reducible repeat (first | refine blk_drewN ?_ _ | refine blk_drew ?_ | refine blk_alloc ?_ _)); refine blk_put (cs := #[.int .u64 t197, .int .u64 t198, .int .u64 0, .int .u64 0, .int .i64 0]) ?_ 2 _ rfl; (with_reducible repeat (first | refine blk_drewN ?_ _ | refine blk_drew ?_ | refine blk_alloc ?_ _)); refine blk_put (cs := #[.int .u64 t197, .int .u64 0, .int .u64 0, .int .u64 0, .int .i64 0]) ?_ 1 _ rfl; (with_reducible repeat (first | refine blk_drewN ?_ _ | refine blk_drew ?_ | refine blk_alloc ?_ _)); refine blk_put (cs := #[.int .u64 0, .int .u64 0, .int .u64 0, .int .u64 0, .int .i64 0]) ?_ 0 _ rfl; (with_reducible repeat (first | refine blk_drewN ?_ _ | refine blk_drew ?_ | refine blk_alloc ?_ _)); exact BK203.out⟩, ⟨by repeat (first | (with_reducible first | exact HB.out | apply below_alloc | apply pw_below_drewN | apply below_drew1 | refine below_set ?_ GE196.out | refine below_set ?_ GE203.out) | exact HB.out)⟩⟩
              · rw [if_neg c27] at H
                have c27b0 : (t195 == t202) = false := beq_eq_false_iff_ne.mpr c27
                have c27b1 : (t195 != t202) = true := bne_iff_ne.mpr c27
                (first | rw [c27b0] | (simp only [i64_w, i32_w]; rw [c27b0]) | skip)
                have H' := Aside0.mk H
                clear H
                go_wp2
                go_meet
                case rel => exact ⟨_, (true), (by first | rfl | (simp; done) | (simp [*]; done)), H', ⟨by have := HJ7.out; first | omega | exact Nat.le_refl _⟩, ⟨by (with_reducible repeat (first | apply Kd.R_alloc | apply Kd.R_drewN | apply Kd.R_drew)); exact Kd.R_mono (Kd.R_far (p := ⟨gb203, 4, none⟩) (Kd.R_far (p := ⟨gb203, 3, none⟩) (Kd.R_far (p := ⟨gb203, 2, none⟩) (Kd.R_far (p := ⟨gb203, 1, none⟩) (Kd.R_far (p := ⟨gb203, 0, none⟩) (Kd.R_mono HO189.out (fun k_ hk => (⟨hk, hk.2⟩ : _ ∧ k_ ≠ gb203))) (fun _ hk => hk.2) (.int .u64 t197)) (fun _ hk => hk.2) (.int .u64 t198)) (fun _ hk => hk.2) (.int .u64 t199)) (fun _ hk => hk.2) (.int .u64 t200)) (fun _ hk => hk.2) (.int .i64 t201)) (fun _ hk => ⟨hk.1.1.2, hk.1.2⟩)⟩, ⟨by (with_reducible repeat (first | refine blk_drewN ?_ _ | refine blk_drew ?_ | refine blk_alloc ?_ _)); refine blk_far ?_ NB196_203.out _; (with_reducible repeat (first | refine blk_drewN ?_ _ | refine blk_drew ?_ | refine blk_alloc ?_ _)); refine blk_far ?_ NB196_203.out _; (with_reducible repeat (first | refine blk_drewN ?_ _ | refine blk_drew ?_ | refine blk_alloc ?_ _)); refine blk_far ?_ NB196_203.out _; (with_reducible repeat (first | refine blk_drewN ?_ _ | refine blk_drew ?_ | refine blk_alloc ?_ _)); refine blk_far ?_ NB196_203.out _; (with_reducible repeat (first | refine blk_drewN ?_ _ | refine blk_drew ?_ | refine blk_alloc ?_ _)); refine blk_far ?_ NB196_203.out _; (with_reducible repeat (first | refine blk_drewN ?_ _ | refine blk_drew ?_ | refine blk_alloc ?_ _)); exact BK196.out⟩, ⟨by (with_reducible repeat (first | refine blk_drewN ?_ _ | refine blk_drew ?_ | refine blk_alloc ?_ _)); refine blk_put (cs := #[.int .u64 t197, .int .u64 t198, .int .u64 t199, .int .u64 t200, .int .i64 0]) ?_ 4 _ rfl; (with_reducible repeat (first | refine blk_drewN ?_ _ | refine blk_drew ?_ | refine blk_alloc ?_ _)); refine blk_put (cs := #[.int .u64 t197, .int .u64 t198, .int .u64 t199, .int .u64 0, .int .i64 0]) ?_ 3 _ rfl; (with_reducible repeat (first | refine blk_drewN ?_ _ | refine blk_drew ?_ | refine blk_alloc ?_ _)); refine blk_put (cs := #[.int .u64 t197, .int .u64 t198, .int .u64 0, .int .u64 0, .int .i64 0]) ?_ 2 _ rfl; (with_reducible repeat (first | refine blk_drewN ?_ _ | refine blk_drew ?_ | refine blk_alloc ?_ _)); refine blk_put (cs := #[.int .u64 t197, .int .u64 0, .int .u64 0, .int .u64 0, .int .i64 0]) ?_ 1 _ rfl; (with_reducible repeat (first | refine blk_drewN ?_ _ | refine blk_drew ?_ | refine blk_alloc ?_ _)); refine blk_put (cs := #[.int .u64 0, .int .u64 0, .int .u64 0, .int .u64 0, .int .i64 0]) ?_ 0 _ rfl; (with_reducible repeat (first | refine blk_drewN ?_ _ | refine blk_drew ?_ | refine blk_alloc ?_ _)); exact BK203.out⟩, ⟨by repeat (first | (with_reducible first | exact HB.out | apply below_alloc | apply pw_below_drewN | apply below_drew1 | refine below_set ?_ GE196.out | refine below_set ?_ GE203.out) | exact HB.out)⟩⟩
            case rest =>
              clear HC17
              try clear c1
              try clear c2
              try clear p2
              try clear c3
              try clear c6
              try clear c7
              try clear c11
              try clear c12
              try clear c14
              try clear c14b0
              try clear c14b1
              try clear c17
              try clear c25
              try clear c27
              try clear c27b0
              try clear c27b1
              try clear c28
              try clear c28b0
              try clear c29
              try clear c32
              try clear hcz21_0
              try clear hcz21_1
              try clear hcz21_2
              try clear hcz21_3
              try clear hcz21_4
              try clear hcz26_0
              try clear hcz26_1
              try clear hcz26_2
              try clear hcz26_3
              try clear hcz26_4
              try clear hcz30_0
              try clear hcz30_1
              try clear hcz30_2
              try clear hcz30_3
              try clear hcz30_4
              try clear hcz31_0
              try clear hcz31_1
              try clear hcz31_2
              try clear hcz31_3
              try clear hcz31_4
              try clear hcz33_0
              try clear hcz33_1
              try clear hcz33_2
              try clear hcz33_3
              try clear hcz33_4
              try clear hcz34_0
              try clear hcz34_1
              try clear hcz34_2
              try clear hcz34_3
              try clear hcz34_4
              try clear hfz21_0
              try clear hfz21_1
              try clear hfz21_2
              try clear hfz21_3
              try clear hfz21_4
              try clear hfz26_0
              try clear hfz26_1
              try clear hfz26_2
              try clear hfz26_3
              try clear hfz26_4
              try clear hfz30_0
              try clear hfz30_1
              try clear hfz30_2
              try clear hfz30_3
              try clear hfz30_4
              try clear hfz31_0
              try clear hfz31_1
              try clear hfz31_2
              try clear hfz31_3
              try clear hfz31_4
              try clear hfz33_0
              try clear hfz33_1
              try clear hfz33_2
              try clear hfz33_3
              try clear hfz33_4
              try clear hfz34_0
              try clear hfz34_1
              try clear hfz34_2
              try clear hfz34_3
              try clear hfz34_4
              try clear p2
              obtain ⟨kq, x71_16, rfl, HA, HJ16, HO_11, BK196, BK203, HB⟩ := hcut
              cases kq with
              | zero => exact absurd HA.out (by simp [damsonlaw13_PaymentOthers.j1])
              | succ kj16 =>
                have H := HA.out
                clear HA
                simp only [damsonlaw13_PaymentOthers.j1] at H
                by_cases c35 : x71_16 = true
                · subst c35
                  have H1 : (some false) = some r := by rw [if_pos rfl] at H; exact H
                  clear H
                  have H := H1
                  clear H1
                  obtain rfl := Option.some.inj H
                  go_wp2
                  go_ret
                  exact ⟨by first | rfl | (simp [errW_none, errW_some] <;> rfl) | (simp [*, errW_none, errW_some] <;> rfl), by repeat (first | (with_reducible first | exact HB.out | apply below_alloc | apply pw_below_drewN | apply below_drew1 | refine below_set ?_ GE196.out | refine below_set ?_ GE203.out) | exact HB.out)⟩
                · replace c35 := Bool.eq_false_iff.mpr c35
                  subst c35
                  have H1 : ((payment_End.f kj16 t186 a2 a4).bind fun bt204 => ((payment_End.f kj16 l0 a2 a4).bind fun bt208 => (if bt208.2 = 0 then ((payment_End.f kj16 bt208.1 a1 a3).bind fun bt212 => (if bt204.2 = 0 then (if bt212.2 = 0 then ((payment_Same.f kj16 bt204.1 bt212.1).bind fun t216 => (some t216)) else (some false)) else (some false))) else (some (bt204.2 == bt208.2))))) = some r := by rw [if_neg (show ¬ (false = true) by decide)] at H; exact H
                  clear H
                  have H := H1
                  clear H1
                  replace H := Option.bind_eq_some_iff.mp H
                  obtain ⟨⟨t204, t205⟩, A360, H⟩ := H
                  replace H : ((payment_End.f kj16 l0 a2 a4).bind fun bt208 => (if bt208.2 = 0 then ((payment_End.f kj16 bt208.1 a1 a3).bind fun bt212 => (if t205 = 0 then (if bt212.2 = 0 then ((payment_Same.f kj16 t204 bt212.1).bind fun t216 => (some t216)) else (some false)) else (some false))) else (some (t205 == bt208.2)))) = some r := H
                  have A36 := Aside0.mk A360
                  clear A360
                  replace H := Option.bind_eq_some_iff.mp H
                  obtain ⟨⟨t208, t209⟩, A370, H⟩ := H
                  replace H : (if t209 = 0 then ((payment_End.f kj16 t208 a1 a3).bind fun bt212 => (if t205 = 0 then (if bt212.2 = 0 then ((payment_Same.f kj16 t204 bt212.1).bind fun t216 => (some t216)) else (some false)) else (some false))) else (some (t205 == t209))) = some r := H
                  have A37 := Aside0.mk A370
                  clear A370
                  by_cases c38 : t209 = 0
                  · rw [if_pos c38] at H
                    have c38b0 : (t209 == 0) = true := beq_iff_eq.mpr c38
                    have c38b1 : (t209 != 0) = false := bne_eq_false_iff_eq.mpr c38
                    clear c38
                    replace H := Option.bind_eq_some_iff.mp H
                    obtain ⟨⟨t212, t213⟩, A390, H⟩ := H
                    replace H : (if t205 = 0 then (if t213 = 0 then ((payment_Same.f kj16 t204 t212).bind fun t216 => (some t216)) else (some false)) else (some false)) = some r := H
                    have A39 := Aside0.mk A390
                    clear A390
                    by_cases c40 : t205 = 0
                    · rw [if_pos c40] at H
                      have c40b0 : (t205 == 0) = true := beq_iff_eq.mpr c40
                      have c40b1 : (t205 != 0) = false := bne_eq_false_iff_eq.mpr c40
                      clear c40
                      by_cases c41 : t213 = 0
                      · rw [if_pos c41] at H
                        have c41b0 : (t213 == 0) = true := beq_iff_eq.mpr c41
                        have c41b1 : (t213 != 0) = false := bne_eq_false_iff_eq.mpr c41
                        clear c41
                        replace H := Option.bind_eq_some_iff.mp H
                        obtain ⟨t216, A420, H⟩ := H
                        replace H : (some t216) = some r := H
                        have A42 := Aside0.mk A420
                        clear A420
                        obtain rfl := Option.some.inj H
                        go_wp2_with (first | ((with_reducible refine gate_callee (f := 72) rfl ?_); refine goesL_ (some 76) rfl rfl Try.func72 (by kernel_rfl) rfl #[.slice Ao22 t186.length co22, .int .u64 a2, .bool a4] rfl (by (try simp only [List.map_toArray, List.map_cons, List.map_nil]); first | done | rfl | (simp only [List.length_drop, List.length_take]; rfl)) ?_; (with_reducible refine (payment_End.calls kj16 _ _ t186 a2 a4 t204 t205 _ ?side1 ?side2 A36.out).mono ?_); (case side1 => repeat (first | exact (Kd.R_reads' HO_11.out).2.2 | (with_reducible refine Kd.C_alloc ?_ _) | (with_reducible refine Kd.C_drewN ?_ _) | (with_reducible refine Kd.C_drew ?_))); (case side2 => exact (Kd.R_reads' HO_11.out).2.1); rintro e w43 ⟨v206, rfl, ho0, hb⟩; refine ⟨_, rfl, ?_⟩; have n0_ := Aside0.mk (Kd.R_elder' (by (with_reducible repeat (first | apply Kd.R_alloc | apply Kd.R_drewN | apply Kd.R_drew)); exact HO_11.out) (Kd.R_base ho0) hb); have n1_ := Aside0.mk (Kd.R_lower (Kd.R_newB (Kd.R_newB (Kd.R_new' ho0 (Kd.R_lt (by (with_reducible repeat (first | apply Kd.R_alloc | apply Kd.R_drewN | apply Kd.R_drew)); exact HO_11.out))) (g := gb196) (o := .cells #[.int .u64 t190, .int .u64 t191, .int .u64 t192, .int .u64 t193, .int .i64 t194] 74 (0, 0)) (by (with_reducible repeat (first | refine blk_drewN ?_ _ | refine blk_drew ?_ | refine blk_alloc ?_ _)); exact BK196.out)) (g := gb203) (o := .cells #[.int .u64 t197, .int .u64 t198, .int .u64 t199, .int .u64 t200, .int .i64 t201] 74 (0, 0)) (by (with_reducible repeat (first | refine blk_drewN ?_ _ | refine blk_drew ?_ | refine blk_alloc ?_ _)); exact BK203.out)) (below_size (by repeat (first | (with_reducible first | exact HB.out | apply below_alloc | apply pw_below_drewN | apply below_drew1 | refine below_set ?_ GE196.out | refine below_set ?_ GE203.out) | exact HB.out)))); have n2_ := Aside0.mk (blk_below (g := gb196) (o := .cells #[.int .u64 t190, .int .u64 t191, .int .u64 t192, .int .u64 t193, .int .i64 t194] 74 (0, 0)) (by (with_reducible repeat (first | refine blk_drewN ?_ _ | refine blk_drew ?_ | refine blk_alloc ?_ _)); exact BK196.out) hb); have n3_ := Aside0.mk (blk_below (g := gb203) (o := .cells #[.int .u64 t197, .int .u64 t198, .int .u64 t199, .int .u64 t200, .int .i64 t201] 74 (0, 0)) (by (with_reducible repeat (first | refine blk_drewN ?_ _ | refine blk_drew ?_ | refine blk_alloc ?_ _)); exact BK203.out) hb); have n4_ := Aside0.mk (below_step (by repeat (first | (with_reducible first | exact HB.out | apply below_alloc | apply pw_below_drewN | apply below_drew1 | refine below_set ?_ GE196.out | refine below_set ?_ GE203.out) | exact HB.out)) hb); clear HO_11; clear BK196; clear BK203; clear HB; have HO_11 := n0_; have HO207 := n1_; have BK196 := n2_; have BK203 := n3_; have HB := n4_; clear n0_ n1_ n2_ n3_ n4_; (try clear hb); (try clear hb2); (try clear hk); (try clear hi); (try clear ho0)) | ((with_reducible refine gate_callee (f := 72) rfl ?_); refine goesL_ (some 83) rfl rfl Try.func72 (by kernel_rfl) rfl #[.slice A0 l0.length c0, .int .u64 a2, .bool a4] rfl (by (try simp only [List.map_toArray, List.map_cons, List.map_nil]); first | done | rfl | (simp only [List.length_drop, List.length_take]; rfl)) ?_; (with_reducible refine (payment_End.calls kj16 _ _ l0 a2 a4 t208 t209 _ ?side1 ?side2 A37.out).mono ?_); (case side1 => repeat (first | exact (Kd.C_below HR0.out HB.out) | (with_reducible refine Kd.C_alloc ?_ _) | (with_reducible refine Kd.C_drewN ?_ _) | (with_reducible refine Kd.C_drew ?_))); (case side2 => exact HC0.out); rintro e w44 ⟨v210, rfl, ho0, hb⟩; refine ⟨_, rfl, ?_⟩; have n0_ := Aside0.mk (Kd.R_elder' (by (with_reducible repeat (first | apply Kd.R_alloc | apply Kd.R_drewN | apply Kd.R_drew)); exact HO_11.out) (Kd.R_base ho0) hb); have n1_ := Aside0.mk (Kd.R_elder' (by (with_reducible repeat (first | apply Kd.R_alloc | apply Kd.R_drewN | apply Kd.R_drew)); exact HO207.out) (Kd.R_base ho0) hb); have n2_ := Aside0.mk (Kd.R_lower (Kd.R_newB (Kd.R_newB (Kd.R_new' (Kd.R_new' ho0 (Kd.R_lt (by (with_reducible repeat (first | apply Kd.R_alloc | apply Kd.R_drewN | apply Kd.R_drew)); exact HO_11.out))) (Kd.R_lt (by (with_reducible repeat (first | apply Kd.R_alloc | apply Kd.R_drewN | apply Kd.R_drew)); exact HO207.out))) (g := gb196) (o := .cells #[.int .u64 t190, .int .u64 t191, .int .u64 t192, .int .u64 t193, .int .i64 t194] 74 (0, 0)) (by (with_reducible repeat (first | refine blk_drewN ?_ _ | refine blk_drew ?_ | refine blk_alloc ?_ _)); exact BK196.out)) (g := gb203) (o := .cells #[.int .u64 t197, .int .u64 t198, .int .u64 t199, .int .u64 t200, .int .i64 t201] 74 (0, 0)) (by (with_reducible repeat (first | refine blk_drewN ?_ _ | refine blk_drew ?_ | refine blk_alloc ?_ _)); exact BK203.out)) (below_size (by repeat (first | (with_reducible first | exact HB.out | apply below_alloc | apply pw_below_drewN | apply below_drew1 | refine below_set ?_ GE196.out | refine below_set ?_ GE203.out) | exact HB.out)))); have n3_ := Aside0.mk (blk_below (g := gb196) (o := .cells #[.int .u64 t190, .int .u64 t191, .int .u64 t192, .int .u64 t193, .int .i64 t194] 74 (0, 0)) (by (with_reducible repeat (first | refine blk_drewN ?_ _ | refine blk_drew ?_ | refine blk_alloc ?_ _)); exact BK196.out) hb); have n4_ := Aside0.mk (blk_below (g := gb203) (o := .cells #[.int .u64 t197, .int .u64 t198, .int .u64 t199, .int .u64 t200, .int .i64 t201] 74 (0, 0)) (by (with_reducible repeat (first | refine blk_drewN ?_ _ | refine blk_drew ?_ | refine blk_alloc ?_ _)); exact BK203.out) hb); have n5_ := Aside0.mk (below_step (by repeat (first | (with_reducible first | exact HB.out | apply below_alloc | apply pw_below_drewN | apply below_drew1 | refine below_set ?_ GE196.out | refine below_set ?_ GE203.out) | exact HB.out)) hb); clear HO_11; clear HO207; clear BK196; clear BK203; clear HB; have HO_11 := n0_; have HO207 := n1_; have HO211 := n2_; have BK196 := n3_; have BK203 := n4_; have HB := n5_; clear n0_ n1_ n2_ n3_ n4_ n5_; (try clear hb); (try clear hb2); (try clear hk); (try clear hi); (try clear ho0); obtain ⟨Ao45, co45, eo45⟩ := Kd.R_slice HO211.out; subst eo45) | ((with_reducible refine gate_callee (f := 72) rfl ?_); refine goesL_ (some 95) rfl rfl Try.func72 (by kernel_rfl) rfl #[.slice Ao45 t208.length co45, .int .u64 a1, .bool a3] rfl (by (try simp only [List.map_toArray, List.map_cons, List.map_nil]); first | done | rfl | (simp only [List.length_drop, List.length_take]; rfl)) ?_; (with_reducible refine (payment_End.calls kj16 _ _ t208 a1 a3 t212 t213 _ ?side1 ?side2 A39.out).mono ?_); (case side1 => repeat (first | exact (Kd.R_reads' HO211.out).2.2 | (with_reducible refine Kd.C_alloc ?_ _) | (with_reducible refine Kd.C_drewN ?_ _) | (with_reducible refine Kd.C_drew ?_))); (case side2 => exact (Kd.R_reads' HO211.out).2.1); rintro e w46 ⟨v214, rfl, ho0, hb⟩; refine ⟨_, rfl, ?_⟩; have n0_ := Aside0.mk (Kd.R_elder' (by (with_reducible repeat (first | apply Kd.R_alloc | apply Kd.R_drewN | apply Kd.R_drew)); exact HO_11.out) (Kd.R_base ho0) hb); have n1_ := Aside0.mk (Kd.R_elder' (by (with_reducible repeat (first | apply Kd.R_alloc | apply Kd.R_drewN | apply Kd.R_drew)); exact HO207.out) (Kd.R_base ho0) hb); have n2_ := Aside0.mk (Kd.R_elder' (by (with_reducible repeat (first | apply Kd.R_alloc | apply Kd.R_drewN | apply Kd.R_drew)); exact HO211.out) (Kd.R_base ho0) hb); have n3_ := Aside0.mk (Kd.R_lower (Kd.R_newB (Kd.R_newB (Kd.R_new' (Kd.R_new' (Kd.R_new' ho0 (Kd.R_lt (by (with_reducible repeat (first | apply Kd.R_alloc | apply Kd.R_drewN | apply Kd.R_drew)); exact HO_11.out))) (Kd.R_lt (by (with_reducible repeat (first | apply Kd.R_alloc | apply Kd.R_drewN | apply Kd.R_drew)); exact HO207.out))) (Kd.R_lt (by (with_reducible repeat (first | apply Kd.R_alloc | apply Kd.R_drewN | apply Kd.R_drew)); exact HO211.out))) (g := gb196) (o := .cells #[.int .u64 t190, .int .u64 t191, .int .u64 t192, .int .u64 t193, .int .i64 t194] 74 (0, 0)) (by (with_reducible repeat (first | refine blk_drewN ?_ _ | refine blk_drew ?_ | refine blk_alloc ?_ _)); exact BK196.out)) (g := gb203) (o := .cells #[.int .u64 t197, .int .u64 t198, .int .u64 t199, .int .u64 t200, .int .i64 t201] 74 (0, 0)) (by (with_reducible repeat (first | refine blk_drewN ?_ _ | refine blk_drew ?_ | refine blk_alloc ?_ _)); exact BK203.out)) (below_size (by repeat (first | (with_reducible first | exact HB.out | apply below_alloc | apply pw_below_drewN | apply below_drew1 | refine below_set ?_ GE196.out | refine below_set ?_ GE203.out) | exact HB.out)))); have n4_ := Aside0.mk (blk_below (g := gb196) (o := .cells #[.int .u64 t190, .int .u64 t191, .int .u64 t192, .int .u64 t193, .int .i64 t194] 74 (0, 0)) (by (with_reducible repeat (first | refine blk_drewN ?_ _ | refine blk_drew ?_ | refine blk_alloc ?_ _)); exact BK196.out) hb); have n5_ := Aside0.mk (blk_below (g := gb203) (o := .cells #[.int .u64 t197, .int .u64 t198, .int .u64 t199, .int .u64 t200, .int .i64 t201] 74 (0, 0)) (by (with_reducible repeat (first | refine blk_drewN ?_ _ | refine blk_drew ?_ | refine blk_alloc ?_ _)); exact BK203.out) hb); have n6_ := Aside0.mk (below_step (by repeat (first | (with_reducible first | exact HB.out | apply below_alloc | apply pw_below_drewN | apply below_drew1 | refine below_set ?_ GE196.out | refine below_set ?_ GE203.out) | exact HB.out)) hb); clear HO_11; clear HO207; clear HO211; clear BK196; clear BK203; clear HB; have HO_11 := n0_; have HO207 := n1_; have HO211 := n2_; have HO215 := n3_; have BK196 := n4_; have BK203 := n5_; have HB := n6_; clear n0_ n1_ n2_ n3_ n4_ n5_ n6_; (try clear hb); (try clear hb2); (try clear hk); (try clear hi); (try clear ho0); obtain ⟨Ao47, co47, eo47⟩ := Kd.R_slice HO207.out; subst eo47; obtain ⟨Ao48, co48, eo48⟩ := Kd.R_slice HO215.out; subst eo48) | (go_at_call 74; (with_reducible refine (payment_Same.calls kj16 _ _ t204 _ _ t212 t216 _ ?side1 ?side2 ?side3 ?side4 A42.out).mono ?_); (case side1 => repeat (first | exact (Kd.R_reads' HO207.out).2.2 | (with_reducible refine Kd.C_alloc ?_ _) | (with_reducible refine Kd.C_drewN ?_ _) | (with_reducible refine Kd.C_drew ?_))); (case side2 => exact (Kd.R_reads' HO207.out).2.1); (case side3 => repeat (first | exact (Kd.R_reads' HO215.out).2.2 | (with_reducible refine Kd.C_alloc ?_ _) | (with_reducible refine Kd.C_drewN ?_ _) | (with_reducible refine Kd.C_drew ?_))); (case side4 => exact (Kd.R_reads' HO215.out).2.1); rintro e w' ⟨rfl, ⟨nd, rfl⟩⟩))
                        go_ret
                        exact ⟨by first | rfl | (simp [errW_none, errW_some] <;> rfl) | (simp [*, errW_none, errW_some] <;> rfl), by repeat (first | (with_reducible first | exact HB.out | apply below_alloc | apply pw_below_drewN | apply below_drew1 | refine below_set ?_ GE196.out | refine below_set ?_ GE203.out) | exact HB.out)⟩
                      · rw [if_neg c41] at H
                        have c41b0 : (t213 == 0) = false := beq_eq_false_iff_ne.mpr c41
                        have c41b1 : (t213 != 0) = true := bne_iff_ne.mpr c41
                        obtain rfl := Option.some.inj H
                        go_wp2_with (first | ((with_reducible refine gate_callee (f := 72) rfl ?_); refine goesL_ (some 76) rfl rfl Try.func72 (by kernel_rfl) rfl #[.slice Ao22 t186.length co22, .int .u64 a2, .bool a4] rfl (by (try simp only [List.map_toArray, List.map_cons, List.map_nil]); first | done | rfl | (simp only [List.length_drop, List.length_take]; rfl)) ?_; (with_reducible refine (payment_End.calls kj16 _ _ t186 a2 a4 t204 t205 _ ?side1 ?side2 A36.out).mono ?_); (case side1 => repeat (first | exact (Kd.R_reads' HO_11.out).2.2 | (with_reducible refine Kd.C_alloc ?_ _) | (with_reducible refine Kd.C_drewN ?_ _) | (with_reducible refine Kd.C_drew ?_))); (case side2 => exact (Kd.R_reads' HO_11.out).2.1); rintro e w49 ⟨v206, rfl, ho0, hb⟩; refine ⟨_, rfl, ?_⟩; have n0_ := Aside0.mk (Kd.R_elder' (by (with_reducible repeat (first | apply Kd.R_alloc | apply Kd.R_drewN | apply Kd.R_drew)); exact HO_11.out) (Kd.R_base ho0) hb); have n1_ := Aside0.mk (Kd.R_lower (Kd.R_newB (Kd.R_newB (Kd.R_new' ho0 (Kd.R_lt (by (with_reducible repeat (first | apply Kd.R_alloc | apply Kd.R_drewN | apply Kd.R_drew)); exact HO_11.out))) (g := gb196) (o := .cells #[.int .u64 t190, .int .u64 t191, .int .u64 t192, .int .u64 t193, .int .i64 t194] 74 (0, 0)) (by (with_reducible repeat (first | refine blk_drewN ?_ _ | refine blk_drew ?_ | refine blk_alloc ?_ _)); exact BK196.out)) (g := gb203) (o := .cells #[.int .u64 t197, .int .u64 t198, .int .u64 t199, .int .u64 t200, .int .i64 t201] 74 (0, 0)) (by (with_reducible repeat (first | refine blk_drewN ?_ _ | refine blk_drew ?_ | refine blk_alloc ?_ _)); exact BK203.out)) (below_size (by repeat (first | (with_reducible first | exact HB.out | apply below_alloc | apply pw_below_drewN | apply below_drew1 | refine below_set ?_ GE196.out | refine below_set ?_ GE203.out) | exact HB.out)))); have n2_ := Aside0.mk (blk_below (g := gb196) (o := .cells #[.int .u64 t190, .int .u64 t191, .int .u64 t192, .int .u64 t193, .int .i64 t194] 74 (0, 0)) (by (with_reducible repeat (first | refine blk_drewN ?_ _ | refine blk_drew ?_ | refine blk_alloc ?_ _)); exact BK196.out) hb); have n3_ := Aside0.mk (blk_below (g := gb203) (o := .cells #[.int .u64 t197, .int .u64 t198, .int .u64 t199, .int .u64 t200, .int .i64 t201] 74 (0, 0)) (by (with_reducible repeat (first | refine blk_drewN ?_ _ | refine blk_drew ?_ | refine blk_alloc ?_ _)); exact BK203.out) hb); have n4_ := Aside0.mk (below_step (by repeat (first | (with_reducible first | exact HB.out | apply below_alloc | apply pw_below_drewN | apply below_drew1 | refine below_set ?_ GE196.out | refine below_set ?_ GE203.out) | exact HB.out)) hb); clear HO_11; clear BK196; clear BK203; clear HB; have HO_11 := n0_; have HO207 := n1_; have BK196 := n2_; have BK203 := n3_; have HB := n4_; clear n0_ n1_ n2_ n3_ n4_; (try clear hb); (try clear hb2); (try clear hk); (try clear hi); (try clear ho0)) | ((with_reducible refine gate_callee (f := 72) rfl ?_); refine goesL_ (some 83) rfl rfl Try.func72 (by kernel_rfl) rfl #[.slice A0 l0.length c0, .int .u64 a2, .bool a4] rfl (by (try simp only [List.map_toArray, List.map_cons, List.map_nil]); first | done | rfl | (simp only [List.length_drop, List.length_take]; rfl)) ?_; (with_reducible refine (payment_End.calls kj16 _ _ l0 a2 a4 t208 t209 _ ?side1 ?side2 A37.out).mono ?_); (case side1 => repeat (first | exact (Kd.C_below HR0.out HB.out) | (with_reducible refine Kd.C_alloc ?_ _) | (with_reducible refine Kd.C_drewN ?_ _) | (with_reducible refine Kd.C_drew ?_))); (case side2 => exact HC0.out); rintro e w50 ⟨v210, rfl, ho0, hb⟩; refine ⟨_, rfl, ?_⟩; have n0_ := Aside0.mk (Kd.R_elder' (by (with_reducible repeat (first | apply Kd.R_alloc | apply Kd.R_drewN | apply Kd.R_drew)); exact HO_11.out) (Kd.R_base ho0) hb); have n1_ := Aside0.mk (Kd.R_elder' (by (with_reducible repeat (first | apply Kd.R_alloc | apply Kd.R_drewN | apply Kd.R_drew)); exact HO207.out) (Kd.R_base ho0) hb); have n2_ := Aside0.mk (Kd.R_lower (Kd.R_newB (Kd.R_newB (Kd.R_new' (Kd.R_new' ho0 (Kd.R_lt (by (with_reducible repeat (first | apply Kd.R_alloc | apply Kd.R_drewN | apply Kd.R_drew)); exact HO_11.out))) (Kd.R_lt (by (with_reducible repeat (first | apply Kd.R_alloc | apply Kd.R_drewN | apply Kd.R_drew)); exact HO207.out))) (g := gb196) (o := .cells #[.int .u64 t190, .int .u64 t191, .int .u64 t192, .int .u64 t193, .int .i64 t194] 74 (0, 0)) (by (with_reducible repeat (first | refine blk_drewN ?_ _ | refine blk_drew ?_ | refine blk_alloc ?_ _)); exact BK196.out)) (g := gb203) (o := .cells #[.int .u64 t197, .int .u64 t198, .int .u64 t199, .int .u64 t200, .int .i64 t201] 74 (0, 0)) (by (with_reducible repeat (first | refine blk_drewN ?_ _ | refine blk_drew ?_ | refine blk_alloc ?_ _)); exact BK203.out)) (below_size (by repeat (first | (with_reducible first | exact HB.out | apply below_alloc | apply pw_below_drewN | apply below_drew1 | refine below_set ?_ GE196.out | refine below_set ?_ GE203.out) | exact HB.out)))); have n3_ := Aside0.mk (blk_below (g := gb196) (o := .cells #[.int .u64 t190, .int .u64 t191, .int .u64 t192, .int .u64 t193, .int .i64 t194] 74 (0, 0)) (by (with_reducible repeat (first | refine blk_drewN ?_ _ | refine blk_drew ?_ | refine blk_alloc ?_ _)); exact BK196.out) hb); have n4_ := Aside0.mk (blk_below (g := gb203) (o := .cells #[.int .u64 t197, .int .u64 t198, .int .u64 t199, .int .u64 t200, .int .i64 t201] 74 (0, 0)) (by (with_reducible repeat (first | refine blk_drewN ?_ _ | refine blk_drew ?_ | refine blk_alloc ?_ _)); exact BK203.out) hb); have n5_ := Aside0.mk (below_step (by repeat (first | (with_reducible first | exact HB.out | apply below_alloc | apply pw_below_drewN | apply below_drew1 | refine below_set ?_ GE196.out | refine below_set ?_ GE203.out) | exact HB.out)) hb); clear HO_11; clear HO207; clear BK196; clear BK203; clear HB; have HO_11 := n0_; have HO207 := n1_; have HO211 := n2_; have BK196 := n3_; have BK203 := n4_; have HB := n5_; clear n0_ n1_ n2_ n3_ n4_ n5_; (try clear hb); (try clear hb2); (try clear hk); (try clear hi); (try clear ho0); obtain ⟨Ao51, co51, eo51⟩ := Kd.R_slice HO211.out; subst eo51) | ((with_reducible refine gate_callee (f := 72) rfl ?_); refine goesL_ (some 95) rfl rfl Try.func72 (by kernel_rfl) rfl #[.slice Ao51 t208.length co51, .int .u64 a1, .bool a3] rfl (by (try simp only [List.map_toArray, List.map_cons, List.map_nil]); first | done | rfl | (simp only [List.length_drop, List.length_take]; rfl)) ?_; (with_reducible refine (payment_End.calls kj16 _ _ t208 a1 a3 t212 t213 _ ?side1 ?side2 A39.out).mono ?_); (case side1 => repeat (first | exact (Kd.R_reads' HO211.out).2.2 | (with_reducible refine Kd.C_alloc ?_ _) | (with_reducible refine Kd.C_drewN ?_ _) | (with_reducible refine Kd.C_drew ?_))); (case side2 => exact (Kd.R_reads' HO211.out).2.1); rintro e w52 ⟨v214, rfl, ho0, hb⟩; refine ⟨_, rfl, ?_⟩; have n0_ := Aside0.mk (Kd.R_elder' (by (with_reducible repeat (first | apply Kd.R_alloc | apply Kd.R_drewN | apply Kd.R_drew)); exact HO_11.out) (Kd.R_base ho0) hb); have n1_ := Aside0.mk (Kd.R_elder' (by (with_reducible repeat (first | apply Kd.R_alloc | apply Kd.R_drewN | apply Kd.R_drew)); exact HO207.out) (Kd.R_base ho0) hb); have n2_ := Aside0.mk (Kd.R_elder' (by (with_reducible repeat (first | apply Kd.R_alloc | apply Kd.R_drewN | apply Kd.R_drew)); exact HO211.out) (Kd.R_base ho0) hb); have n3_ := Aside0.mk (Kd.R_lower (Kd.R_newB (Kd.R_newB (Kd.R_new' (Kd.R_new' (Kd.R_new' ho0 (Kd.R_lt (by (with_reducible repeat (first | apply Kd.R_alloc | apply Kd.R_drewN | apply Kd.R_drew)); exact HO_11.out))) (Kd.R_lt (by (with_reducible repeat (first | apply Kd.R_alloc | apply Kd.R_drewN | apply Kd.R_drew)); exact HO207.out))) (Kd.R_lt (by (with_reducible repeat (first | apply Kd.R_alloc | apply Kd.R_drewN | apply Kd.R_drew)); exact HO211.out))) (g := gb196) (o := .cells #[.int .u64 t190, .int .u64 t191, .int .u64 t192, .int .u64 t193, .int .i64 t194] 74 (0, 0)) (by (with_reducible repeat (first | refine blk_drewN ?_ _ | refine blk_drew ?_ | refine blk_alloc ?_ _)); exact BK196.out)) (g := gb203) (o := .cells #[.int .u64 t197, .int .u64 t198, .int .u64 t199, .int .u64 t200, .int .i64 t201] 74 (0, 0)) (by (with_reducible repeat (first | refine blk_drewN ?_ _ | refine blk_drew ?_ | refine blk_alloc ?_ _)); exact BK203.out)) (below_size (by repeat (first | (with_reducible first | exact HB.out | apply below_alloc | apply pw_below_drewN | apply below_drew1 | refine below_set ?_ GE196.out | refine below_set ?_ GE203.out) | exact HB.out)))); have n4_ := Aside0.mk (blk_below (g := gb196) (o := .cells #[.int .u64 t190, .int .u64 t191, .int .u64 t192, .int .u64 t193, .int .i64 t194] 74 (0, 0)) (by (with_reducible repeat (first | refine blk_drewN ?_ _ | refine blk_drew ?_ | refine blk_alloc ?_ _)); exact BK196.out) hb); have n5_ := Aside0.mk (blk_below (g := gb203) (o := .cells #[.int .u64 t197, .int .u64 t198, .int .u64 t199, .int .u64 t200, .int .i64 t201] 74 (0, 0)) (by (with_reducible repeat (first | refine blk_drewN ?_ _ | refine blk_drew ?_ | refine blk_alloc ?_ _)); exact BK203.out) hb); have n6_ := Aside0.mk (below_step (by repeat (first | (with_reducible first | exact HB.out | apply below_alloc | apply pw_below_drewN | apply below_drew1 | refine below_set ?_ GE196.out | refine below_set ?_ GE203.out) | exact HB.out)) hb); clear HO_11; clear HO207; clear HO211; clear BK196; clear BK203; clear HB; have HO_11 := n0_; have HO207 := n1_; have HO211 := n2_; have HO215 := n3_; have BK196 := n4_; have BK203 := n5_; have HB := n6_; clear n0_ n1_ n2_ n3_ n4_ n5_ n6_; (try clear hb); (try clear hb2); (try clear hk); (try clear hi); (try clear ho0)))
                        go_ret
                        exact ⟨by first | rfl | (simp [errW_none, errW_some] <;> rfl) | (simp [*, errW_none, errW_some] <;> rfl), by repeat (first | (with_reducible first | exact HB.out | apply below_alloc | apply pw_below_drewN | apply below_drew1 | refine below_set ?_ GE196.out | refine below_set ?_ GE203.out) | exact HB.out)⟩
                    · rw [if_neg c40] at H
                      have c40b0 : (t205 == 0) = false := beq_eq_false_iff_ne.mpr c40
                      have c40b1 : (t205 != 0) = true := bne_iff_ne.mpr c40
                      obtain rfl := Option.some.inj H
                      go_wp2_with (first | ((with_reducible refine gate_callee (f := 72) rfl ?_); refine goesL_ (some 76) rfl rfl Try.func72 (by kernel_rfl) rfl #[.slice Ao22 t186.length co22, .int .u64 a2, .bool a4] rfl (by (try simp only [List.map_toArray, List.map_cons, List.map_nil]); first | done | rfl | (simp only [List.length_drop, List.length_take]; rfl)) ?_; (with_reducible refine (payment_End.calls kj16 _ _ t186 a2 a4 t204 t205 _ ?side1 ?side2 A36.out).mono ?_); (case side1 => repeat (first | exact (Kd.R_reads' HO_11.out).2.2 | (with_reducible refine Kd.C_alloc ?_ _) | (with_reducible refine Kd.C_drewN ?_ _) | (with_reducible refine Kd.C_drew ?_))); (case side2 => exact (Kd.R_reads' HO_11.out).2.1); rintro e w53 ⟨v206, rfl, ho0, hb⟩; refine ⟨_, rfl, ?_⟩; have n0_ := Aside0.mk (Kd.R_elder' (by (with_reducible repeat (first | apply Kd.R_alloc | apply Kd.R_drewN | apply Kd.R_drew)); exact HO_11.out) (Kd.R_base ho0) hb); have n1_ := Aside0.mk (Kd.R_lower (Kd.R_newB (Kd.R_newB (Kd.R_new' ho0 (Kd.R_lt (by (with_reducible repeat (first | apply Kd.R_alloc | apply Kd.R_drewN | apply Kd.R_drew)); exact HO_11.out))) (g := gb196) (o := .cells #[.int .u64 t190, .int .u64 t191, .int .u64 t192, .int .u64 t193, .int .i64 t194] 74 (0, 0)) (by (with_reducible repeat (first | refine blk_drewN ?_ _ | refine blk_drew ?_ | refine blk_alloc ?_ _)); exact BK196.out)) (g := gb203) (o := .cells #[.int .u64 t197, .int .u64 t198, .int .u64 t199, .int .u64 t200, .int .i64 t201] 74 (0, 0)) (by (with_reducible repeat (first | refine blk_drewN ?_ _ | refine blk_drew ?_ | refine blk_alloc ?_ _)); exact BK203.out)) (below_size (by repeat (first | (with_reducible first | exact HB.out | apply below_alloc | apply pw_below_drewN | apply below_drew1 | refine below_set ?_ GE196.out | refine below_set ?_ GE203.out) | exact HB.out)))); have n2_ := Aside0.mk (blk_below (g := gb196) (o := .cells #[.int .u64 t190, .int .u64 t191, .int .u64 t192, .int .u64 t193, .int .i64 t194] 74 (0, 0)) (by (with_reducible repeat (first | refine blk_drewN ?_ _ | refine blk_drew ?_ | refine blk_alloc ?_ _)); exact BK196.out) hb); have n3_ := Aside0.mk (blk_below (g := gb203) (o := .cells #[.int .u64 t197, .int .u64 t198, .int .u64 t199, .int .u64 t200, .int .i64 t201] 74 (0, 0)) (by (with_reducible repeat (first | refine blk_drewN ?_ _ | refine blk_drew ?_ | refine blk_alloc ?_ _)); exact BK203.out) hb); have n4_ := Aside0.mk (below_step (by repeat (first | (with_reducible first | exact HB.out | apply below_alloc | apply pw_below_drewN | apply below_drew1 | refine below_set ?_ GE196.out | refine below_set ?_ GE203.out) | exact HB.out)) hb); clear HO_11; clear BK196; clear BK203; clear HB; have HO_11 := n0_; have HO207 := n1_; have BK196 := n2_; have BK203 := n3_; have HB := n4_; clear n0_ n1_ n2_ n3_ n4_; (try clear hb); (try clear hb2); (try clear hk); (try clear hi); (try clear ho0)) | ((with_reducible refine gate_callee (f := 72) rfl ?_); refine goesL_ (some 83) rfl rfl Try.func72 (by kernel_rfl) rfl #[.slice A0 l0.length c0, .int .u64 a2, .bool a4] rfl (by (try simp only [List.map_toArray, List.map_cons, List.map_nil]); first | done | rfl | (simp only [List.length_drop, List.length_take]; rfl)) ?_; (with_reducible refine (payment_End.calls kj16 _ _ l0 a2 a4 t208 t209 _ ?side1 ?side2 A37.out).mono ?_); (case side1 => repeat (first | exact (Kd.C_below HR0.out HB.out) | (with_reducible refine Kd.C_alloc ?_ _) | (with_reducible refine Kd.C_drewN ?_ _) | (with_reducible refine Kd.C_drew ?_))); (case side2 => exact HC0.out); rintro e w54 ⟨v210, rfl, ho0, hb⟩; refine ⟨_, rfl, ?_⟩; have n0_ := Aside0.mk (Kd.R_elder' (by (with_reducible repeat (first | apply Kd.R_alloc | apply Kd.R_drewN | apply Kd.R_drew)); exact HO_11.out) (Kd.R_base ho0) hb); have n1_ := Aside0.mk (Kd.R_elder' (by (with_reducible repeat (first | apply Kd.R_alloc | apply Kd.R_drewN | apply Kd.R_drew)); exact HO207.out) (Kd.R_base ho0) hb); have n2_ := Aside0.mk (Kd.R_lower (Kd.R_newB (Kd.R_newB (Kd.R_new' (Kd.R_new' ho0 (Kd.R_lt (by (with_reducible repeat (first | apply Kd.R_alloc | apply Kd.R_drewN | apply Kd.R_drew)); exact HO_11.out))) (Kd.R_lt (by (with_reducible repeat (first | apply Kd.R_alloc | apply Kd.R_drewN | apply Kd.R_drew)); exact HO207.out))) (g := gb196) (o := .cells #[.int .u64 t190, .int .u64 t191, .int .u64 t192, .int .u64 t193, .int .i64 t194] 74 (0, 0)) (by (with_reducible repeat (first | refine blk_drewN ?_ _ | refine blk_drew ?_ | refine blk_alloc ?_ _)); exact BK196.out)) (g := gb203) (o := .cells #[.int .u64 t197, .int .u64 t198, .int .u64 t199, .int .u64 t200, .int .i64 t201] 74 (0, 0)) (by (with_reducible repeat (first | refine blk_drewN ?_ _ | refine blk_drew ?_ | refine blk_alloc ?_ _)); exact BK203.out)) (below_size (by repeat (first | (with_reducible first | exact HB.out | apply below_alloc | apply pw_below_drewN | apply below_drew1 | refine below_set ?_ GE196.out | refine below_set ?_ GE203.out) | exact HB.out)))); have n3_ := Aside0.mk (blk_below (g := gb196) (o := .cells #[.int .u64 t190, .int .u64 t191, .int .u64 t192, .int .u64 t193, .int .i64 t194] 74 (0, 0)) (by (with_reducible repeat (first | refine blk_drewN ?_ _ | refine blk_drew ?_ | refine blk_alloc ?_ _)); exact BK196.out) hb); have n4_ := Aside0.mk (blk_below (g := gb203) (o := .cells #[.int .u64 t197, .int .u64 t198, .int .u64 t199, .int .u64 t200, .int .i64 t201] 74 (0, 0)) (by (with_reducible repeat (first | refine blk_drewN ?_ _ | refine blk_drew ?_ | refine blk_alloc ?_ _)); exact BK203.out) hb); have n5_ := Aside0.mk (below_step (by repeat (first | (with_reducible first | exact HB.out | apply below_alloc | apply pw_below_drewN | apply below_drew1 | refine below_set ?_ GE196.out | refine below_set ?_ GE203.out) | exact HB.out)) hb); clear HO_11; clear HO207; clear BK196; clear BK203; clear HB; have HO_11 := n0_; have HO207 := n1_; have HO211 := n2_; have BK196 := n3_; have BK203 := n4_; have HB := n5_; clear n0_ n1_ n2_ n3_ n4_ n5_; (try clear hb); (try clear hb2); (try clear hk); (try clear hi); (try clear ho0); obtain ⟨Ao55, co55, eo55⟩ := Kd.R_slice HO211.out; subst eo55) | ((with_reducible refine gate_callee (f := 72) rfl ?_); refine goesL_ (some 95) rfl rfl Try.func72 (by kernel_rfl) rfl #[.slice Ao55 t208.length co55, .int .u64 a1, .bool a3] rfl (by (try simp only [List.map_toArray, List.map_cons, List.map_nil]); first | done | rfl | (simp only [List.length_drop, List.length_take]; rfl)) ?_; (with_reducible refine (payment_End.calls kj16 _ _ t208 a1 a3 t212 t213 _ ?side1 ?side2 A39.out).mono ?_); (case side1 => repeat (first | exact (Kd.R_reads' HO211.out).2.2 | (with_reducible refine Kd.C_alloc ?_ _) | (with_reducible refine Kd.C_drewN ?_ _) | (with_reducible refine Kd.C_drew ?_))); (case side2 => exact (Kd.R_reads' HO211.out).2.1); rintro e w56 ⟨v214, rfl, ho0, hb⟩; refine ⟨_, rfl, ?_⟩; have n0_ := Aside0.mk (Kd.R_elder' (by (with_reducible repeat (first | apply Kd.R_alloc | apply Kd.R_drewN | apply Kd.R_drew)); exact HO_11.out) (Kd.R_base ho0) hb); have n1_ := Aside0.mk (Kd.R_elder' (by (with_reducible repeat (first | apply Kd.R_alloc | apply Kd.R_drewN | apply Kd.R_drew)); exact HO207.out) (Kd.R_base ho0) hb); have n2_ := Aside0.mk (Kd.R_elder' (by (with_reducible repeat (first | apply Kd.R_alloc | apply Kd.R_drewN | apply Kd.R_drew)); exact HO211.out) (Kd.R_base ho0) hb); have n3_ := Aside0.mk (Kd.R_lower (Kd.R_newB (Kd.R_newB (Kd.R_new' (Kd.R_new' (Kd.R_new' ho0 (Kd.R_lt (by (with_reducible repeat (first | apply Kd.R_alloc | apply Kd.R_drewN | apply Kd.R_drew)); exact HO_11.out))) (Kd.R_lt (by (with_reducible repeat (first | apply Kd.R_alloc | apply Kd.R_drewN | apply Kd.R_drew)); exact HO207.out))) (Kd.R_lt (by (with_reducible repeat (first | apply Kd.R_alloc | apply Kd.R_drewN | apply Kd.R_drew)); exact HO211.out))) (g := gb196) (o := .cells #[.int .u64 t190, .int .u64 t191, .int .u64 t192, .int .u64 t193, .int .i64 t194] 74 (0, 0)) (by (with_reducible repeat (first | refine blk_drewN ?_ _ | refine blk_drew ?_ | refine blk_alloc ?_ _)); exact BK196.out)) (g := gb203) (o := .cells #[.int .u64 t197, .int .u64 t198, .int .u64 t199, .int .u64 t200, .int .i64 t201] 74 (0, 0)) (by (with_reducible repeat (first | refine blk_drewN ?_ _ | refine blk_drew ?_ | refine blk_alloc ?_ _)); exact BK203.out)) (below_size (by repeat (first | (with_reducible first | exact HB.out | apply below_alloc | apply pw_below_drewN | apply below_drew1 | refine below_set ?_ GE196.out | refine below_set ?_ GE203.out) | exact HB.out)))); have n4_ := Aside0.mk (blk_below (g := gb196) (o := .cells #[.int .u64 t190, .int .u64 t191, .int .u64 t192, .int .u64 t193, .int .i64 t194] 74 (0, 0)) (by (with_reducible repeat (first | refine blk_drewN ?_ _ | refine blk_drew ?_ | refine blk_alloc ?_ _)); exact BK196.out) hb); have n5_ := Aside0.mk (blk_below (g := gb203) (o := .cells #[.int .u64 t197, .int .u64 t198, .int .u64 t199, .int .u64 t200, .int .i64 t201] 74 (0, 0)) (by (with_reducible repeat (first | refine blk_drewN ?_ _ | refine blk_drew ?_ | refine blk_alloc ?_ _)); exact BK203.out) hb); have n6_ := Aside0.mk (below_step (by repeat (first | (with_reducible first | exact HB.out | apply below_alloc | apply pw_below_drewN | apply below_drew1 | refine below_set ?_ GE196.out | refine below_set ?_ GE203.out) | exact HB.out)) hb); clear HO_11; clear HO207; clear HO211; clear BK196; clear BK203; clear HB; have HO_11 := n0_; have HO207 := n1_; have HO211 := n2_; have HO215 := n3_; have BK196 := n4_; have BK203 := n5_; have HB := n6_; clear n0_ n1_ n2_ n3_ n4_ n5_ n6_; (try clear hb); (try clear hb2); (try clear hk); (try clear hi); (try clear ho0)))
                      go_ret
                      exact ⟨by first | rfl | (simp [errW_none, errW_some] <;> rfl) | (simp [*, errW_none, errW_some] <;> rfl), by repeat (first | (with_reducible first | exact HB.out | apply below_alloc | apply pw_below_drewN | apply below_drew1 | refine below_set ?_ GE196.out | refine below_set ?_ GE203.out) | exact HB.out)⟩
                  · rw [if_neg c38] at H
                    have c38b0 : (t209 == 0) = false := beq_eq_false_iff_ne.mpr c38
                    have c38b1 : (t209 != 0) = true := bne_iff_ne.mpr c38
                    obtain rfl := Option.some.inj H
                    go_wp2_with (first | ((with_reducible refine gate_callee (f := 72) rfl ?_); refine goesL_ (some 76) rfl rfl Try.func72 (by kernel_rfl) rfl #[.slice Ao22 t186.length co22, .int .u64 a2, .bool a4] rfl (by (try simp only [List.map_toArray, List.map_cons, List.map_nil]); first | done | rfl | (simp only [List.length_drop, List.length_take]; rfl)) ?_; (with_reducible refine (payment_End.calls kj16 _ _ t186 a2 a4 t204 t205 _ ?side1 ?side2 A36.out).mono ?_); (case side1 => repeat (first | exact (Kd.R_reads' HO_11.out).2.2 | (with_reducible refine Kd.C_alloc ?_ _) | (with_reducible refine Kd.C_drewN ?_ _) | (with_reducible refine Kd.C_drew ?_))); (case side2 => exact (Kd.R_reads' HO_11.out).2.1); rintro e w57 ⟨v206, rfl, ho0, hb⟩; refine ⟨_, rfl, ?_⟩; have n0_ := Aside0.mk (Kd.R_elder' (by (with_reducible repeat (first | apply Kd.R_alloc | apply Kd.R_drewN | apply Kd.R_drew)); exact HO_11.out) (Kd.R_base ho0) hb); have n1_ := Aside0.mk (Kd.R_lower (Kd.R_newB (Kd.R_newB (Kd.R_new' ho0 (Kd.R_lt (by (with_reducible repeat (first | apply Kd.R_alloc | apply Kd.R_drewN | apply Kd.R_drew)); exact HO_11.out))) (g := gb196) (o := .cells #[.int .u64 t190, .int .u64 t191, .int .u64 t192, .int .u64 t193, .int .i64 t194] 74 (0, 0)) (by (with_reducible repeat (first | refine blk_drewN ?_ _ | refine blk_drew ?_ | refine blk_alloc ?_ _)); exact BK196.out)) (g := gb203) (o := .cells #[.int .u64 t197, .int .u64 t198, .int .u64 t199, .int .u64 t200, .int .i64 t201] 74 (0, 0)) (by (with_reducible repeat (first | refine blk_drewN ?_ _ | refine blk_drew ?_ | refine blk_alloc ?_ _)); exact BK203.out)) (below_size (by repeat (first | (with_reducible first | exact HB.out | apply below_alloc | apply pw_below_drewN | apply below_drew1 | refine below_set ?_ GE196.out | refine below_set ?_ GE203.out) | exact HB.out)))); have n2_ := Aside0.mk (blk_below (g := gb196) (o := .cells #[.int .u64 t190, .int .u64 t191, .int .u64 t192, .int .u64 t193, .int .i64 t194] 74 (0, 0)) (by (with_reducible repeat (first | refine blk_drewN ?_ _ | refine blk_drew ?_ | refine blk_alloc ?_ _)); exact BK196.out) hb); have n3_ := Aside0.mk (blk_below (g := gb203) (o := .cells #[.int .u64 t197, .int .u64 t198, .int .u64 t199, .int .u64 t200, .int .i64 t201] 74 (0, 0)) (by (with_reducible repeat (first | refine blk_drewN ?_ _ | refine blk_drew ?_ | refine blk_alloc ?_ _)); exact BK203.out) hb); have n4_ := Aside0.mk (below_step (by repeat (first | (with_reducible first | exact HB.out | apply below_alloc | apply pw_below_drewN | apply below_drew1 | refine below_set ?_ GE196.out | refine below_set ?_ GE203.out) | exact HB.out)) hb); clear HO_11; clear BK196; clear BK203; clear HB; have HO_11 := n0_; have HO207 := n1_; have BK196 := n2_; have BK203 := n3_; have HB := n4_; clear n0_ n1_ n2_ n3_ n4_; (try clear hb); (try clear hb2); (try clear hk); (try clear hi); (try clear ho0)) | ((with_reducible refine gate_callee (f := 72) rfl ?_); refine goesL_ (some 83) rfl rfl Try.func72 (by kernel_rfl) rfl #[.slice A0 l0.length c0, .int .u64 a2, .bool a4] rfl (by (try simp only [List.map_toArray, List.map_cons, List.map_nil]); first | done | rfl | (simp only [List.length_drop, List.length_take]; rfl)) ?_; (with_reducible refine (payment_End.calls kj16 _ _ l0 a2 a4 t208 t209 _ ?side1 ?side2 A37.out).mono ?_); (case side1 => repeat (first | exact (Kd.C_below HR0.out HB.out) | (with_reducible refine Kd.C_alloc ?_ _) | (with_reducible refine Kd.C_drewN ?_ _) | (with_reducible refine Kd.C_drew ?_))); (case side2 => exact HC0.out); rintro e w58 ⟨v210, rfl, ho0, hb⟩; refine ⟨_, rfl, ?_⟩; have n0_ := Aside0.mk (Kd.R_elder' (by (with_reducible repeat (first | apply Kd.R_alloc | apply Kd.R_drewN | apply Kd.R_drew)); exact HO_11.out) (Kd.R_base ho0) hb); have n1_ := Aside0.mk (Kd.R_elder' (by (with_reducible repeat (first | apply Kd.R_alloc | apply Kd.R_drewN | apply Kd.R_drew)); exact HO207.out) (Kd.R_base ho0) hb); have n2_ := Aside0.mk (Kd.R_lower (Kd.R_newB (Kd.R_newB (Kd.R_new' (Kd.R_new' ho0 (Kd.R_lt (by (with_reducible repeat (first | apply Kd.R_alloc | apply Kd.R_drewN | apply Kd.R_drew)); exact HO_11.out))) (Kd.R_lt (by (with_reducible repeat (first | apply Kd.R_alloc | apply Kd.R_drewN | apply Kd.R_drew)); exact HO207.out))) (g := gb196) (o := .cells #[.int .u64 t190, .int .u64 t191, .int .u64 t192, .int .u64 t193, .int .i64 t194] 74 (0, 0)) (by (with_reducible repeat (first | refine blk_drewN ?_ _ | refine blk_drew ?_ | refine blk_alloc ?_ _)); exact BK196.out)) (g := gb203) (o := .cells #[.int .u64 t197, .int .u64 t198, .int .u64 t199, .int .u64 t200, .int .i64 t201] 74 (0, 0)) (by (with_reducible repeat (first | refine blk_drewN ?_ _ | refine blk_drew ?_ | refine blk_alloc ?_ _)); exact BK203.out)) (below_size (by repeat (first | (with_reducible first | exact HB.out | apply below_alloc | apply pw_below_drewN | apply below_drew1 | refine below_set ?_ GE196.out | refine below_set ?_ GE203.out) | exact HB.out)))); have n3_ := Aside0.mk (blk_below (g := gb196) (o := .cells #[.int .u64 t190, .int .u64 t191, .int .u64 t192, .int .u64 t193, .int .i64 t194] 74 (0, 0)) (by (with_reducible repeat (first | refine blk_drewN ?_ _ | refine blk_drew ?_ | refine blk_alloc ?_ _)); exact BK196.out) hb); have n4_ := Aside0.mk (blk_below (g := gb203) (o := .cells #[.int .u64 t197, .int .u64 t198, .int .u64 t199, .int .u64 t200, .int .i64 t201] 74 (0, 0)) (by (with_reducible repeat (first | refine blk_drewN ?_ _ | refine blk_drew ?_ | refine blk_alloc ?_ _)); exact BK203.out) hb); have n5_ := Aside0.mk (below_step (by repeat (first | (with_reducible first | exact HB.out | apply below_alloc | apply pw_below_drewN | apply below_drew1 | refine below_set ?_ GE196.out | refine below_set ?_ GE203.out) | exact HB.out)) hb); clear HO_11; clear HO207; clear BK196; clear BK203; clear HB; have HO_11 := n0_; have HO207 := n1_; have HO211 := n2_; have BK196 := n3_; have BK203 := n4_; have HB := n5_; clear n0_ n1_ n2_ n3_ n4_ n5_; (try clear hb); (try clear hb2); (try clear hk); (try clear hi); (try clear ho0)))
                    go_ret
                    exact ⟨by first | rfl | (simp [errW_none, errW_some] <;> rfl) | (simp [*, errW_none, errW_some] <;> rfl), by repeat (first | (with_reducible first | exact HB.out | apply below_alloc | apply pw_below_drewN | apply below_drew1 | refine below_set ?_ GE196.out | refine below_set ?_ GE203.out) | exact HB.out)⟩
          · rw [if_neg c14] at H
            have c14b0 : (t187 == 0) = false := beq_eq_false_iff_ne.mpr c14
            have c14b1 : (t187 != 0) = true := bne_iff_ne.mpr c14
            obtain rfl := Option.some.inj H
            go_wp2_with (first | ((with_reducible refine gate_callee (f := 72) rfl ?_); refine goesL_ (some 37) rfl rfl Try.func72 (by kernel_rfl) rfl #[.slice A0 l0.length c0, .int .u64 a1, .bool a3] rfl (by (try simp only [List.map_toArray, List.map_cons, List.map_nil]); first | done | rfl | (simp only [List.length_drop, List.length_take]; rfl)) ?_; (with_reducible refine (payment_End.calls kj7 _ _ l0 a1 a3 t186 t187 _ ?side1 ?side2 A13.out).mono ?_); (case side1 => repeat (first | exact (Kd.C_below HR0.out HB.out) | (with_reducible refine Kd.C_alloc ?_ _) | (with_reducible refine Kd.C_drewN ?_ _) | (with_reducible refine Kd.C_drew ?_))); (case side2 => exact HC0.out); rintro e w59 ⟨v188, rfl, ho0, hb⟩; refine ⟨_, rfl, ?_⟩; have n0_ := Aside0.mk (Kd.R_lower ho0 (below_size (by repeat (first | (with_reducible first | exact HB.out | apply below_alloc | apply pw_below_drewN | apply below_drew1) | exact HB.out)))); have n1_ := Aside0.mk (below_step (by repeat (first | (with_reducible first | exact HB.out | apply below_alloc | apply pw_below_drewN | apply below_drew1) | exact HB.out)) hb); clear HB; have HO189 := n0_; have HB := n1_; clear n0_ n1_; (try clear hb); (try clear hb2); (try clear hk); (try clear hi); (try clear ho0); obtain ⟨Ao60, co60, eo60⟩ := Kd.R_slice HO189.out; subst eo60))
            go_ret
            exact ⟨by first | rfl | (simp [errW_none, errW_some] <;> rfl) | (simp [*, errW_none, errW_some] <;> rfl), by repeat (first | (with_reducible first | exact HB.out | apply below_alloc | apply pw_below_drewN | apply below_drew1) | exact HB.out)⟩
  · replace c7 := Bool.eq_false_iff.mpr c7
    subst c7
    have H1 : (some false) = some r := by rw [if_neg (show ¬ (false = true) by decide)] at H; exact H
    clear H
    have H := H1
    clear H1
    obtain rfl := Option.some.inj H
    go_enter Try.func17, Try.ntmps17
    go_wp2_with (first | ((with_reducible refine gate_callee (f := 68) rfl ?_); refine goesL_ (some 23) rfl rfl Try.func68 (by kernel_rfl) rfl #[] rfl (by (try simp only [List.map_toArray, List.map_cons, List.map_nil]); first | done | rfl | (simp only [List.length_drop, List.length_take]; rfl)) ?_; (with_reducible refine (damsonlaw13_live.calls k  false _ A6.out).mono ?_); rintro e w61 ⟨rfl, hb⟩; refine ⟨_, rfl, ?_⟩; have n0_ := Aside0.mk (below_step (by repeat (first | (with_reducible first | exact HB.out | apply below_alloc | apply pw_below_drewN | apply below_drew1) | exact HB.out)) hb); clear HB; have HB := n0_; clear n0_; (try clear hb); (try clear hb2); (try clear hk); (try clear hi)))
    go_ret
    exact ⟨by first | rfl | (simp [errW_none, errW_some] <;> rfl) | (simp [*, errW_none, errW_some] <;> rfl), by repeat (first | (with_reducible first | exact HB.out | apply below_alloc | apply pw_below_drewN | apply below_drew1) | exact HB.out)⟩

/-- THE ONE PURE STATEMENT of damsonlaw13_PaymentOthers: yours. -/
def damsonlaw13_PaymentOthers.Pure : Prop := ∀ (l0 : List (S74)) (a1 : Int) (a2 : Int) (a3 : Bool) (a4 : Bool), (l0.length ≤ 9223372036854775807 ∧ ∀ y_ ∈ l0, G74 y_) → (Lit.int .u64 a1).wf = true → (Lit.int .u64 a2).wf = true → ∃ k, damsonlaw13_PaymentOthers.f k l0 a1 a2 a3 a4 = some true
theorem damsonlaw13_PaymentOthers.walk (P : damsonlaw13_PaymentOthers.Pure) (w : World) (l0 : List (S74)) (A0 : Option Addr) (c0 : Nat) (hr0 : Kd.C k74 w A0 l0.length l0) (hc0 : l0.length ≤ c0) (g0 : l0.length ≤ 9223372036854775807 ∧ ∀ y_ ∈ l0, G74 y_) (a1 : Int) (g1 : (Lit.int .u64 a1).wf = true) (a2 : Int) (g2 : (Lit.int .u64 a2).wf = true) (a3 : Bool) (a4 : Bool) :
    Calls Try.prog 17 #[.slice A0 l0.length c0, .int .u64 a1, .int .u64 a2, .bool a3, .bool a4] w fun e w' => e = .returned (.bool true) ∧ Below w.heap.size w w' := by
  obtain ⟨k, h⟩ := P l0 a1 a2 a3 a4 g0 g1 g2
  refine (damsonlaw13_PaymentOthers.calls k A0 c0 l0 a1 a2 a3 a4 true w hr0 hc0 h).mono ?_
  rintro e w' ⟨rfl, hd⟩
  exact ⟨rfl, hd⟩

end Go.Proofs.Ytcfbcoinbecdfaa.P
