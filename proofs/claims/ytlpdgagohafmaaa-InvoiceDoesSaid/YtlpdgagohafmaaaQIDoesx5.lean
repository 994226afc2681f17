-- written by a program of this session (wip/print)
import Derived.Test.YtlpdgagohafmaaaQIDoesx0
import Derived.Test.YtlpdgagohafmaaaQIDoesx1
import Derived.Test.YtlpdgagohafmaaaQIDoesx3
import Derived.Test.YtlpdgagohafmaaaQIDoesx4
namespace Go.Proofs.Ytlpdgagohafmaaa.P
open Go.RowKit Go.Proofs.YtlpdgagohafmaaaW.PrintWords Go.Proofs.YtlpdgagohafmaaaW.PrintLast Go.Proofs.YtlpdgagohafmaaaW.PrintMore
attribute [local go_sem] max2_int min2_int max_two min_two max_three min_three max_four min_four   -- for this text's walks alone
set_option linter.unusedVariables false
set_option linter.unusedSimpArgs false

attribute [local go_sem high] eqA34
/-! ### damsonlaw12_live: function 9 -/
def damsonlaw12_live.f (k : Nat)  : Option (Bool) := (invoice_Create.f k ([] : List (S34)) 1 10 5).bind fun bt142 => ((invoice_State.f k bt142.1 1 5).bind fun bt146 => ((invoice_State.f k bt142.1 1 6).bind fun bt148 => (if bt142.2 = 0 then (if bt146.2 = 0 then (if bt148.2 = 0 then (if bt146.1 = 1 then (some (bt148.1 == 4)) else (some false)) else (some false)) else (some false)) else (some false))))
theorem damsonlaw12_live.mono : ∀ k, LeO (damsonlaw12_live.f k ) (damsonlaw12_live.f (k + 1) ) := by
  intro  k
  unfold damsonlaw12_live.f
  repeat' first
      | (with_reducible exact invoice_Create.mono _ _ _ _ _)
      | (with_reducible exact invoice_State.mono _ _ _ _)
      | (with_reducible exact LeO.refl _)
      | (with_reducible exact LeO.none _)
      | (with_reducible refine LeO.ite ?_ ?_)
      | (with_reducible refine LeO.bind ?_ (fun _ => ?_))
      | exact invoice_Create.mono _ _ _ _ _
      | exact invoice_State.mono _ _ _ _
      | exact LeO.none _
      | refine LeO.ite ?_ ?_
      | refine LeO.bind ?_ (fun _ => ?_)
set_option maxHeartbeats 8000000 in
set_option maxRecDepth 100000 in
theorem damsonlaw12_live.calls (k : Nat)  (r : Bool) (w : World) (h : damsonlaw12_live.f k  = some r) :
    Calls Try.prog 9 #[] w fun e w' => e = .returned (.bool r) ∧ Below w.heap.size w w' := by
  have HB := Aside0.mk (Below.refl w.heap.size w)
  have H : ((invoice_Create.f k ([] : List (S34)) 1 10 5).bind fun bt142 => ((invoice_State.f k bt142.1 1 5).bind fun bt146 => ((invoice_State.f k bt142.1 1 6).bind fun bt148 => (if bt142.2 = 0 then (if bt146.2 = 0 then (if bt148.2 = 0 then (if bt146.1 = 1 then (some (bt148.1 == 4)) else (some false)) else (some false)) else (some false)) else (some false))))) = some r := h
  clear h
  replace H := Option.bind_eq_some_iff.mp H
  obtain ⟨⟨t142, t143⟩, A10, H⟩ := H
  replace H : ((invoice_State.f k t142 1 5).bind fun bt146 => ((invoice_State.f k t142 1 6).bind fun bt148 => (if t143 = 0 then (if bt146.2 = 0 then (if bt148.2 = 0 then (if bt146.1 = 1 then (some (bt148.1 == 4)) else (some false)) else (some false)) else (some false)) else (some false)))) = some r := H
  have A1 := Aside0.mk A10
  clear A10
  replace H := Option.bind_eq_some_iff.mp H
  obtain ⟨⟨t146, t147⟩, A20, H⟩ := H
  replace H : ((invoice_State.f k t142 1 6).bind fun bt148 => (if t143 = 0 then (if t147 = 0 then (if bt148.2 = 0 then (if t146 = 1 then (some (bt148.1 == 4)) else (some false)) else (some false)) else (some false)) else (some false))) = some r := H
  have A2 := Aside0.mk A20
  clear A20
  replace H := Option.bind_eq_some_iff.mp H
  obtain ⟨⟨t148, t149⟩, A30, H⟩ := H
  replace H : (if t143 = 0 then (if t147 = 0 then (if t149 = 0 then (if t146 = 1 then (some (t148 == 4)) else (some false)) else (some false)) else (some false)) else (some false)) = some r := H
  have A3 := Aside0.mk A30
  clear A30
  by_cases c4 : t143 = 0
  · rw [if_pos c4] at H
    have c4b0 : (t143 == 0) = true := beq_iff_eq.mpr c4
    have c4b1 : (t143 != 0) = false := bne_eq_false_iff_eq.mpr c4
    clear c4
    by_cases c5 : t147 = 0
    · rw [if_pos c5] at H
      have c5b0 : (t147 == 0) = true := beq_iff_eq.mpr c5
      have c5b1 : (t147 != 0) = false := bne_eq_false_iff_eq.mpr c5
      clear c5
      by_cases c6 : t149 = 0
      · rw [if_pos c6] at H
        have c6b0 : (t149 == 0) = true := beq_iff_eq.mpr c6
        have c6b1 : (t149 != 0) = false := bne_eq_false_iff_eq.mpr c6
        clear c6
        by_cases c7 : t146 = 1
        · rw [if_pos c7] at H
          have c7b0 : (t146 == 1) = true := beq_iff_eq.mpr c7
          have c7b1 : (t146 != 1) = false := bne_eq_false_iff_eq.mpr c7
          clear c7
          obtain rfl := Option.some.inj H
          go_enter Try.func9, Try.ntmps9
          go_wp2_with (first | ((with_reducible refine gate_callee (f := 11) rfl ?_); refine goesL_ (some 8) rfl rfl Try.func11 (by kernel_rfl) rfl #[.slice none 0 0, .int .u64 1, .int .u64 10, .int .u64 5] rfl (by (try simp only [List.map_toArray, List.map_cons, List.map_nil]); first | done | rfl | (simp only [List.length_drop, List.length_take]; rfl)) ?_; (refine (invoice_Create.calls k _ _ ([] : List (S34)) 1 10 5 t142 t143 _ ?side1 ?side2 A1.out).mono ?_); (case side1 => exact Kd.C_nil _ _); (case side2 => exact Nat.le_refl _); rintro e w8 ⟨v144, rfl, ho0, hb⟩; refine ⟨_, rfl, ?_⟩; have n0_ := Aside0.mk (Kd.R_lower ho0 (below_size (belN HB))); have n1_ := Aside0.mk (below_step (belN HB) hb); clear HB; have HO145 := n0_; have HB := n1_; clear n0_ n1_; (try clear hb); (try clear hb2); (try clear hk); (try clear hi); (try clear ho0); obtain ⟨Ao9, co9, eo9⟩ := Kd.R_slice HO145.out; subst eo9) | ((with_reducible refine gate_callee (f := 12) rfl ?_); refine goesL_ (some 13) rfl rfl Try.func12 (by kernel_rfl) rfl #[.slice Ao9 t142.length co9, .int .u64 1, .int .u64 5] rfl (by (try simp only [List.map_toArray, List.map_cons, List.map_nil]); first | done | rfl | (simp only [List.length_drop, List.length_take]; rfl)) ?_; (with_reducible refine (invoice_State.calls k _ _ t142 1 5 t146 t147 _ ?side1 ?side2 A2.out).mono ?_); (case side1 => exact Kd.CN (Kd.R_reads' HO145.out).2.2); (case side2 => exact (Kd.R_reads' HO145.out).2.1); rintro e w10 ⟨rfl, hb⟩; refine ⟨_, rfl, ?_⟩; have n0_ := Aside0.mk (Kd.R_below (Kd.RN HO145) hb); have n1_ := Aside0.mk (below_step (belN HB) hb); clear HO145; clear HB; have HO145 := n0_; have HB := n1_; clear n0_ n1_; (try clear hb); (try clear hb2); (try clear hk); (try clear hi)) | ((with_reducible refine gate_callee (f := 12) rfl ?_); refine goesL_ (some 18) rfl rfl Try.func12 (by kernel_rfl) rfl #[.slice Ao9 t142.length co9, .int .u64 1, .int .u64 6] rfl (by (try simp only [List.map_toArray, List.map_cons, List.map_nil]); first | done | rfl | (simp only [List.length_drop, List.length_take]; rfl)) ?_; (with_reducible refine (invoice_State.calls k _ _ t142 1 6 t148 t149 _ ?side1 ?side2 A3.out).mono ?_); (case side1 => exact Kd.CN (Kd.R_reads' HO145.out).2.2); (case side2 => exact (Kd.R_reads' HO145.out).2.1); rintro e w11 ⟨rfl, hb⟩; refine ⟨_, rfl, ?_⟩; have n0_ := Aside0.mk (Kd.R_below (Kd.RN HO145) hb); have n1_ := Aside0.mk (below_step (belN HB) hb); clear HO145; clear HB; have HO145 := n0_; have HB := n1_; clear n0_ n1_; (try clear hb); (try clear hb2); (try clear hk); (try clear hi)))
          go_ret
          exact ⟨by first | rfl | (simp [errW_none, errW_some] <;> rfl) | (simp [*, errW_none, errW_some] <;> rfl), by repeat (first | (with_reducible first | exact HB.out | apply below_alloc | apply pw_below_drewN | apply below_drew1) | exact HB.out)⟩
        · rw [if_neg c7] at H
          have c7b0 : (t146 == 1) = false := beq_eq_false_iff_ne.mpr c7
          have c7b1 : (t146 != 1) = true := bne_iff_ne.mpr c7
          obtain rfl := Option.some.inj H
          go_enter Try.func9, Try.ntmps9
          go_wp2_with (first | ((with_reducible refine gate_callee (f := 11) rfl ?_); refine goesL_ (some 8) rfl rfl Try.func11 (by kernel_rfl) rfl #[.slice none 0 0, .int .u64 1, .int .u64 10, .int .u64 5] rfl (by (try simp only [List.map_toArray, List.map_cons, List.map_nil]); first | done | rfl | (simp only [List.length_drop, List.length_take]; rfl)) ?_; (refine (invoice_Create.calls k _ _ ([] : List (S34)) 1 10 5 t142 t143 _ ?side1 ?side2 A1.out).mono ?_); (case side1 => exact Kd.C_nil _ _); (case side2 => exact Nat.le_refl _); rintro e w12 ⟨v144, rfl, ho0, hb⟩; refine ⟨_, rfl, ?_⟩; have n0_ := Aside0.mk (Kd.R_lower ho0 (below_size (belN HB))); have n1_ := Aside0.mk (below_step (belN HB) hb); clear HB; have HO145 := n0_; have HB := n1_; clear n0_ n1_; (try clear hb); (try clear hb2); (try clear hk); (try clear hi); (try clear ho0); obtain ⟨Ao13, co13, eo13⟩ := Kd.R_slice HO145.out; subst eo13) | ((with_reducible refine gate_callee (f := 12) rfl ?_); refine goesL_ (some 13) rfl rfl Try.func12 (by kernel_rfl) rfl #[.slice Ao13 t142.length co13, .int .u64 1, .int .u64 5] rfl (by (try simp only [List.map_toArray, List.map_cons, List.map_nil]); first | done | rfl | (simp only [List.length_drop, List.length_take]; rfl)) ?_; (with_reducible refine (invoice_State.calls k _ _ t142 1 5 t146 t147 _ ?side1 ?side2 A2.out).mono ?_); (case side1 => exact Kd.CN (Kd.R_reads' HO145.out).2.2); (case side2 => exact (Kd.R_reads' HO145.out).2.1); rintro e w14 ⟨rfl, hb⟩; refine ⟨_, rfl, ?_⟩; have n0_ := Aside0.mk (Kd.R_below (Kd.RN HO145) hb); have n1_ := Aside0.mk (below_step (belN HB) hb); clear HO145; clear HB; have HO145 := n0_; have HB := n1_; clear n0_ n1_; (try clear hb); (try clear hb2); (try clear hk); (try clear hi)) | ((with_reducible refine gate_callee (f := 12) rfl ?_); refine goesL_ (some 18) rfl rfl Try.func12 (by kernel_rfl) rfl #[.slice Ao13 t142.length co13, .int .u64 1, .int .u64 6] rfl (by (try simp only [List.map_toArray, List.map_cons, List.map_nil]); first | done | rfl | (simp only [List.length_drop, List.length_take]; rfl)) ?_; (with_reducible refine (invoice_State.calls k _ _ t142 1 6 t148 t149 _ ?side1 ?side2 A3.out).mono ?_); (case side1 => exact Kd.CN (Kd.R_reads' HO145.out).2.2); (case side2 => exact (Kd.R_reads' HO145.out).2.1); rintro e w15 ⟨rfl, hb⟩; refine ⟨_, rfl, ?_⟩; have n0_ := Aside0.mk (Kd.R_below (Kd.RN HO145) hb); have n1_ := Aside0.mk (below_step (belN HB) hb); clear HO145; clear HB; have HO145 := n0_; have HB := n1_; clear n0_ n1_; (try clear hb); (try clear hb2); (try clear hk); (try clear hi)))
          go_ret
          exact ⟨by first | rfl | (simp [errW_none, errW_some] <;> rfl) | (simp [*, errW_none, errW_some] <;> rfl), by repeat (first | (with_reducible first | exact HB.out | apply below_alloc | apply pw_below_drewN | apply below_drew1) | exact HB.out)⟩
      · rw [if_neg c6] at H
        have c6b0 : (t149 == 0) = false := beq_eq_false_iff_ne.mpr c6
        have c6b1 : (t149 != 0) = true := bne_iff_ne.mpr c6
        obtain rfl := Option.some.inj H
        go_enter Try.func9, Try.ntmps9
        go_wp2_with (first | ((with_reducible refine gate_callee (f := 11) rfl ?_); refine goesL_ (some 8) rfl rfl Try.func11 (by kernel_rfl) rfl #[.slice none 0 0, .int .u64 1, .int .u64 10, .int .u64 5] rfl (by (try simp only [List.map_toArray, List.map_cons, List.map_nil]); first | done | rfl | (simp only [List.length_drop, List.length_take]; rfl)) ?_; (refine (invoice_Create.calls k _ _ ([] : List (S34)) 1 10 5 t142 t143 _ ?side1 ?side2 A1.out).mono ?_); (case side1 => exact Kd.C_nil _ _); (case side2 => exact Nat.le_refl _); rintro e w16 ⟨v144, rfl, ho0, hb⟩; refine ⟨_, rfl, ?_⟩; have n0_ := Aside0.mk (Kd.R_lower ho0 (below_size (belN HB))); have n1_ := Aside0.mk (below_step (belN HB) hb); clear HB; have HO145 := n0_; have HB := n1_; clear n0_ n1_; (try clear hb); (try clear hb2); (try clear hk); (try clear hi); (try clear ho0); obtain ⟨Ao17, co17, eo17⟩ := Kd.R_slice HO145.out; subst eo17) | ((with_reducible refine gate_callee (f := 12) rfl ?_); refine goesL_ (some 13) rfl rfl Try.func12 (by kernel_rfl) rfl #[.slice Ao17 t142.length co17, .int .u64 1, .int .u64 5] rfl (by (try simp only [List.map_toArray, List.map_cons, List.map_nil]); first | done | rfl | (simp only [List.length_drop, List.length_take]; rfl)) ?_; (with_reducible refine (invoice_State.calls k _ _ t142 1 5 t146 t147 _ ?side1 ?side2 A2.out).mono ?_); (case side1 => exact Kd.CN (Kd.R_reads' HO145.out).2.2); (case side2 => exact (Kd.R_reads' HO145.out).2.1); rintro e w18 ⟨rfl, hb⟩; refine ⟨_, rfl, ?_⟩; have n0_ := Aside0.mk (Kd.R_below (Kd.RN HO145) hb); have n1_ := Aside0.mk (below_step (belN HB) hb); clear HO145; clear HB; have HO145 := n0_; have HB := n1_; clear n0_ n1_; (try clear hb); (try clear hb2); (try clear hk); (try clear hi)) | ((with_reducible refine gate_callee (f := 12) rfl ?_); refine goesL_ (some 18) rfl rfl Try.func12 (by kernel_rfl) rfl #[.slice Ao17 t142.length co17, .int .u64 1, .int .u64 6] rfl (by (try simp only [List.map_toArray, List.map_cons, List.map_nil]); first | done | rfl | (simp only [List.length_drop, List.length_take]; rfl)) ?_; (with_reducible refine (invoice_State.calls k _ _ t142 1 6 t148 t149 _ ?side1 ?side2 A3.out).mono ?_); (case side1 => exact Kd.CN (Kd.R_reads' HO145.out).2.2); (case side2 => exact (Kd.R_reads' HO145.out).2.1); rintro e w19 ⟨rfl, hb⟩; refine ⟨_, rfl, ?_⟩; have n0_ := Aside0.mk (Kd.R_below (Kd.RN HO145) hb); have n1_ := Aside0.mk (below_step (belN HB) hb); clear HO145; clear HB; have HO145 := n0_; have HB := n1_; clear n0_ n1_; (try clear hb); (try clear hb2); (try clear hk); (try clear hi)))
        go_ret
        exact ⟨by first | rfl | (simp [errW_none, errW_some] <;> rfl) | (simp [*, errW_none, errW_some] <;> rfl), by repeat (first | (with_reducible first | exact HB.out | apply below_alloc | apply pw_below_drewN | apply below_drew1) | exact HB.out)⟩
    · rw [if_neg c5] at H
      have c5b0 : (t147 == 0) = false := beq_eq_false_iff_ne.mpr c5
      have c5b1 : (t147 != 0) = true := bne_iff_ne.mpr c5
      obtain rfl := Option.some.inj H
      go_enter Try.func9, Try.ntmps9
      go_wp2_with (first | ((with_reducible refine gate_callee (f := 11) rfl ?_); refine goesL_ (some 8) rfl rfl Try.func11 (by kernel_rfl) rfl #[.slice none 0 0, .int .u64 1, .int .u64 10, .int .u64 5] rfl (by (try simp only [List.map_toArray, List.map_cons, List.map_nil]); first | done | rfl | (simp only [List.length_drop, List.length_take]; rfl)) ?_; (refine (invoice_Create.calls k _ _ ([] : List (S34)) 1 10 5 t142 t143 _ ?side1 ?side2 A1.out).mono ?_); (case side1 => exact Kd.C_nil _ _); (case side2 => exact Nat.le_refl _); rintro e w20 ⟨v144, rfl, ho0, hb⟩; refine ⟨_, rfl, ?_⟩; have n0_ := Aside0.mk (Kd.R_lower ho0 (below_size (belN HB))); have n1_ := Aside0.mk (below_step (belN HB) hb); clear HB; have HO145 := n0_; have HB := n1_; clear n0_ n1_; (try clear hb); (try clear hb2); (try clear hk); (try clear hi); (try clear ho0); obtain ⟨Ao21, co21, eo21⟩ := Kd.R_slice HO145.out; subst eo21) | ((with_reducible refine gate_callee (f := 12) rfl ?_); refine goesL_ (some 13) rfl rfl Try.func12 (by kernel_rfl) rfl #[.slice Ao21 t142.length co21, .int .u64 1, .int .u64 5] rfl (by (try simp only [List.map_toArray, List.map_cons, List.map_nil]); first | done | rfl | (simp only [List.length_drop, List.length_take]; rfl)) ?_; (with_reducible refine (invoice_State.calls k _ _ t142 1 5 t146 t147 _ ?side1 ?side2 A2.out).mono ?_); (case side1 => exact Kd.CN (Kd.R_reads' HO145.out).2.2); (case side2 => exact (Kd.R_reads' HO145.out).2.1); rintro e w22 ⟨rfl, hb⟩; refine ⟨_, rfl, ?_⟩; have n0_ := Aside0.mk (Kd.R_below (Kd.RN HO145) hb); have n1_ := Aside0.mk (below_step (belN HB) hb); clear HO145; clear HB; have HO145 := n0_; have HB := n1_; clear n0_ n1_; (try clear hb); (try clear hb2); (try clear hk); (try clear hi)) | ((with_reducible refine gate_callee (f := 12) rfl ?_); refine goesL_ (some 18) rfl rfl Try.func12 (by kernel_rfl) rfl #[.slice Ao21 t142.length co21, .int .u64 1, .int .u64 6] rfl (by (try simp only [List.map_toArray, List.map_cons, List.map_nil]); first | done | rfl | (simp only [List.length_drop, List.length_take]; rfl)) ?_; (with_reducible refine (invoice_State.calls k _ _ t142 1 6 t148 t149 _ ?side1 ?side2 A3.out).mono ?_); (case side1 => exact Kd.CN (Kd.R_reads' HO145.out).2.2); (case side2 => exact (Kd.R_reads' HO145.out).2.1); rintro e w23 ⟨rfl, hb⟩; refine ⟨_, rfl, ?_⟩; have n0_ := Aside0.mk (Kd.R_below (Kd.RN HO145) hb); have n1_ := Aside0.mk (below_step (belN HB) hb); clear HO145; clear HB; have HO145 := n0_; have HB := n1_; clear n0_ n1_; (try clear hb); (try clear hb2); (try clear hk); (try clear hi)))
      go_ret
      exact ⟨by first | rfl | (simp [errW_none, errW_some] <;> rfl) | (simp [*, errW_none, errW_some] <;> rfl), by repeat (first | (with_reducible first | exact HB.out | apply below_alloc | apply pw_below_drewN | apply below_drew1) | exact HB.out)⟩
  · rw [if_neg c4] at H
    have c4b0 : (t143 == 0) = false := beq_eq_false_iff_ne.mpr c4
    have c4b1 : (t143 != 0) = true := bne_iff_ne.mpr c4
    obtain rfl := Option.some.inj H
    go_enter Try.func9, Try.ntmps9
    go_wp2_with (first | ((with_reducible refine gate_callee (f := 11) rfl ?_); refine goesL_ (some 8) rfl rfl Try.func11 (by kernel_rfl) rfl #[.slice none 0 0, .int .u64 1, .int .u64 10, .int .u64 5] rfl (by (try simp only [List.map_toArray, List.map_cons, List.map_nil]); first | done | rfl | (simp only [List.length_drop, List.length_take]; rfl)) ?_; (refine (invoice_Create.calls k _ _ ([] : List (S34)) 1 10 5 t142 t143 _ ?side1 ?side2 A1.out).mono ?_); (case side1 => exact Kd.C_nil _ _); (case side2 => exact Nat.le_refl _); rintro e w24 ⟨v144, rfl, ho0, hb⟩; refine ⟨_, rfl, ?_⟩; have n0_ := Aside0.mk (Kd.R_lower ho0 (below_size (belN HB))); have n1_ := Aside0.mk (below_step (belN HB) hb); clear HB; have HO145 := n0_; have HB := n1_; clear n0_ n1_; (try clear hb); (try clear hb2); (try clear hk); (try clear hi); (try clear ho0); obtain ⟨Ao25, co25, eo25⟩ := Kd.R_slice HO145.out; subst eo25) | ((with_reducible refine gate_callee (f := 12) rfl ?_); refine goesL_ (some 13) rfl rfl Try.func12 (by kernel_rfl) rfl #[.slice Ao25 t142.length co25, .int .u64 1, .int .u64 5] rfl (by (try simp only [List.map_toArray, List.map_cons, List.map_nil]); first | done | rfl | (simp only [List.length_drop, List.length_take]; rfl)) ?_; (with_reducible refine (invoice_State.calls k _ _ t142 1 5 t146 t147 _ ?side1 ?side2 A2.out).mono ?_); (case side1 => exact Kd.CN (Kd.R_reads' HO145.out).2.2); (case side2 => exact (Kd.R_reads' HO145.out).2.1); rintro e w26 ⟨rfl, hb⟩; refine ⟨_, rfl, ?_⟩; have n0_ := Aside0.mk (Kd.R_below (Kd.RN HO145) hb); have n1_ := Aside0.mk (below_step (belN HB) hb); clear HO145; clear HB; have HO145 := n0_; have HB := n1_; clear n0_ n1_; (try clear hb); (try clear hb2); (try clear hk); (try clear hi)) | ((with_reducible refine gate_callee (f := 12) rfl ?_); refine goesL_ (some 18) rfl rfl Try.func12 (by kernel_rfl) rfl #[.slice Ao25 t142.length co25, .int .u64 1, .int .u64 6] rfl (by (try simp only [List.map_toArray, List.map_cons, List.map_nil]); first | done | rfl | (simp only [List.length_drop, List.length_take]; rfl)) ?_; (with_reducible refine (invoice_State.calls k _ _ t142 1 6 t148 t149 _ ?side1 ?side2 A3.out).mono ?_); (case side1 => exact Kd.CN (Kd.R_reads' HO145.out).2.2); (case side2 => exact (Kd.R_reads' HO145.out).2.1); rintro e w27 ⟨rfl, hb⟩; refine ⟨_, rfl, ?_⟩; have n0_ := Aside0.mk (Kd.R_below (Kd.RN HO145) hb); have n1_ := Aside0.mk (below_step (belN HB) hb); clear HO145; clear HB; have HO145 := n0_; have HB := n1_; clear n0_ n1_; (try clear hb); (try clear hb2); (try clear hk); (try clear hi)))
    go_ret
    exact ⟨by first | rfl | (simp [errW_none, errW_some] <;> rfl) | (simp [*, errW_none, errW_some] <;> rfl), by repeat (first | (with_reducible first | exact HB.out | apply below_alloc | apply pw_below_drewN | apply below_drew1) | exact HB.out)⟩

/-! ### damsonlaw12_few: function 10 -/
def damsonlaw12_few.f (l0 : List (S34)) : Option (Bool) := if (l0.length : Int) ≤ 40 then (some true) else (if (l0.length : Int) ≥ 256 then (some (decide ((l0.length : Int) ≤ 258))) else (some false))
set_option maxHeartbeats 8000000 in
set_option maxRecDepth 100000 in
theorem damsonlaw12_few.calls (A0 : Option Addr) (c0 : Nat) (l0 : List (S34)) (r : Bool) (w : World) (hr0 : Kd.C k34 w A0 l0.length l0) (hc0 : l0.length ≤ c0) (h : damsonlaw12_few.f l0 = some r) :
    Calls Try.prog 10 #[.slice A0 l0.length c0] w fun e w' => e = .returned (.bool r) ∧ Drawn0 w w' := by
  have HR0 := Aside0.mk hr0
  have HC0 := Aside0.mk hc0
  clear hr0 hc0
  have H : (if (l0.length : Int) ≤ 40 then (some true) else (if (l0.length : Int) ≥ 256 then (some (decide ((l0.length : Int) ≤ 258))) else (some false))) = some r := h
  clear h
  by_cases c2 : (l0.length : Int) ≤ 40
  · rw [if_pos c2] at H
    have c2b0 : decide ((l0.length : Int) ≤ 40) = true := decide_eq_true c2
    have c2b1 : decide (l0.length ≤ 40) = true := decide_eq_true (by omega)
    clear c2
    obtain rfl := Option.some.inj H
    go_enter Try.func10, Try.ntmps10
    go_wp2
    go_ret
    exact ⟨by first | rfl | (simp; done) | (simp [*]; done), by repeat (first | exact Drawn0.refl _ | apply Drawn0.step)⟩
  · rw [if_neg c2] at H
    have c2b0 : decide ((l0.length : Int) ≤ 40) = false := decide_eq_false c2
    have c2b1 : decide (l0.length ≤ 40) = false := decide_eq_false (by omega)
    clear c2
    by_cases c3 : (l0.length : Int) ≥ 256
    · rw [if_pos c3] at H
      have c3b0 : decide (256 ≤ (l0.length : Int)) = true := decide_eq_true c3
      have c3b1 : decide (256 ≤ l0.length) = true := decide_eq_true (by omega)
      clear c3
      obtain rfl := Option.some.inj H
      go_enter Try.func10, Try.ntmps10
      go_wp2
      go_ret
      exact ⟨by first | rfl | (simp; done) | (simp [*]; done), by repeat (first | exact Drawn0.refl _ | apply Drawn0.step)⟩
    · rw [if_neg c3] at H
      have c3b0 : decide (256 ≤ (l0.length : Int)) = false := decide_eq_false c3
      have c3b1 : decide (256 ≤ l0.length) = false := decide_eq_false (by omega)
      clear c3
      obtain rfl := Option.some.inj H
      go_enter Try.func10, Try.ntmps10
      go_wp2
      go_ret
      exact ⟨by first | rfl | (simp; done) | (simp [*]; done), by repeat (first | exact Drawn0.refl _ | apply Drawn0.step)⟩

-- NOT PRINTED: function 30 (slices_EqualFunc_Invoice)

/-! ### invoice_Same_1: function 31 -/
def invoice_Same_1.f (a0_0 : Int) (a0_1 : Int) (a0_2 : Int) (a0_3 : Int) (a1_0 : Int) (a1_1 : Int) (a1_2 : Int) (a1_3 : Int) : Option (Bool) := some (a0_0 == a1_0 && (a0_1 == a1_1 && (a0_2 == a1_2 && (a0_3 == a1_3))))
set_option maxHeartbeats 8000000 in
set_option maxRecDepth 100000 in
theorem invoice_Same_1.calls (a0_0 : Int) (a0_1 : Int) (a0_2 : Int) (a0_3 : Int) (a1_0 : Int) (a1_1 : Int) (a1_2 : Int) (a1_3 : Int) (r : Bool) (w : World) (h : invoice_Same_1.f a0_0 a0_1 a0_2 a0_3 a1_0 a1_1 a1_2 a1_3 = some r) :
    Calls Try.prog 31 #[.agg #[.int .u64 a0_0, .int .u64 a0_1, .int .u64 a0_2, .int .i64 a0_3], .agg #[.int .u64 a1_0, .int .u64 a1_1, .int .u64 a1_2, .int .i64 a1_3]] w fun e w' => e = .returned (.bool r) ∧ Below w.heap.size w w' := by
  have hu34 := Try.underlying34
  have HB := Aside0.mk (Below.refl w.heap.size w)
  have H : (some (a0_0 == a1_0 && (a0_1 == a1_1 && (a0_2 == a1_2 && (a0_3 == a1_3))))) = some r := h
  clear h
  obtain rfl := Option.some.inj H
  go_enter Try.func31, Try.ntmps31
  go_wp2_with (first | ((with_reducible refine gate_dst (N := 2) rfl ?_); refine box_event ?hg (N := 2) ?hd (cs := #[.int .u64 a0_0, .int .u64 a0_1, .int .u64 a0_2, .int .i64 a0_3]) (t := 34) ?hr ?_; (case hd => rfl); (case hg => rfl); (case hr => first | (go_simp; done) | (go_simp; rfl)); intro gb150 hg w3 hbox hb; have n0_ := Aside0.mk (below_step (belN HB) hb); have n1_ := Aside0.mk (hbox); have n2_ := Aside0.mk ((by rw [hg]; exact (below_size (belN HB)) : w.heap.size ≤ gb150)); have n3_ := Aside0.mk ((by rw [hg]; exact (below_size (belN HB)) : w.heap.size ≤ gb150)); clear HB; have HB := n0_; have BK150 := n1_; have GW150 := n2_; have GE150 := n3_; clear n0_ n1_ n2_ n3_; clear hb hbox hg) | ((with_reducible refine gate_dst (N := 3) rfl ?_); refine box_event ?hg (N := 3) ?hd (cs := #[.int .u64 a1_0, .int .u64 a1_1, .int .u64 a1_2, .int .i64 a1_3]) (t := 34) ?hr ?_; (case hd => rfl); (case hg => rfl); (case hr => first | (go_simp; done) | (go_simp; rfl)); intro gb151 hg w4 hbox hb; have n0_ := Aside0.mk (blk_below (g := gb150) (blkN BK150) hb); have n1_ := Aside0.mk (below_step (belN HB) hb); have n2_ := Aside0.mk (hbox); have n3_ := Aside0.mk ((by rw [hg]; exact (below_size (belN HB)) : w.heap.size ≤ gb151)); have n4_ := Aside0.mk ((by rw [hg]; exact (below_size (belN HB)) : w.heap.size ≤ gb151)); have n5_ := Aside0.mk ((by rw [hg]; exact Nat.ne_of_lt (blk_lt (g := gb150) (blkN BK150)) : gb150 ≠ gb151)); have n6_ := Aside0.mk ((by rw [hg]; exact Nat.ne_of_gt (blk_lt (g := gb150) (blkN BK150)) : gb151 ≠ gb150)); clear BK150; clear HB; have BK150 := n0_; have HB := n1_; have BK151 := n2_; have GW151 := n3_; have GE151 := n4_; have NB150_151 := n5_; have NB151_150 := n6_; clear n0_ n1_ n2_ n3_ n4_ n5_ n6_; clear hb hbox hg; have hnb5 := NB150_151.out; have hnc5 := NB151_150.out; obtain ⟨hcz6_0, hcz6_1, hcz6_2, hcz6_3, hfz6_0, hfz6_1, hfz6_2, hfz6_3⟩ := cz4_ (w := w4) BK150.out; obtain ⟨hcz7_0, hcz7_1, hcz7_2, hcz7_3, hfz7_0, hfz7_1, hfz7_2, hfz7_3⟩ := cz4_ (w := w4) BK151.out))
  go_ret
  exact ⟨by first | rfl | (simp [errW_none, errW_some] <;> rfl) | (simp [*, errW_none, errW_some] <;> rfl), by repeat (first | (with_reducible first | exact HB.out | apply below_alloc | apply pw_below_drewN | apply below_drew1 | refine below_set ?_ GE150.out | refine below_set ?_ GE151.out) | exact HB.out)⟩

/-! ### slices_EqualFunc_Invoice_at_invoice_Same_1: function 68 -/
def slices_EqualFunc_Invoice_at_invoice_Same_1.l0 : Nat → List (S34) → List (S34) → Int → Int → Option (Bool)
  | 0, _, _, _, _ => none
  | k + 1, x1, x15, x16, x17 => if x17 < x16 then (if 0 ≤ x17 then (if x17 < (x15.length : Int) then (if x17 < (x1.length : Int) then ((invoice_Same_1.f ((rd_T34 x15 x17).f0) ((rd_T34 x15 x17).f1) ((rd_T34 x15 x17).f2) ((rd_T34 x15 x17).f3) ((rd_T34 x1 x17).f0) ((rd_T34 x1 x17).f1) ((rd_T34 x1 x17).f2) ((rd_T34 x1 x17).f3)).bind fun t156 => (if t156 = true then (slices_EqualFunc_Invoice_at_invoice_Same_1.l0 k x1 x15 x16 (wrap64 (x17 + 1))) else (some false))) else (none)) else (none)) else (none)) else (some true)
def slices_EqualFunc_Invoice_at_invoice_Same_1.f (k : Nat) (l0 : List (S34)) (l1 : List (S34))  : Option (Bool) := if (l0.length : Int) = (l1.length : Int) then (slices_EqualFunc_Invoice_at_invoice_Same_1.l0 k l1 l0 (l0.length : Int) 0) else (some false)
theorem slices_EqualFunc_Invoice_at_invoice_Same_1.mono_l : ∀ k, (∀ y0 y1 y2 y3, LeO (slices_EqualFunc_Invoice_at_invoice_Same_1.l0 k y0 y1 y2 y3) (slices_EqualFunc_Invoice_at_invoice_Same_1.l0 (k + 1) y0 y1 y2 y3))
  | 0 => fun _ _ _ _ r h => by simp [slices_EqualFunc_Invoice_at_invoice_Same_1.l0] at h
  | k + 1 => by
    have ih0 := slices_EqualFunc_Invoice_at_invoice_Same_1.mono_l k
    · intro y0 y1 y2 y3
      unfold slices_EqualFunc_Invoice_at_invoice_Same_1.l0
      repeat' first
      | (with_reducible exact ih0 _ _ _ _)
      | (with_reducible exact LeO.refl _)
      | (with_reducible exact LeO.none _)
      | (with_reducible refine LeO.ite ?_ ?_)
      | (with_reducible refine LeO.bind ?_ (fun _ => ?_))
      | exact ih0 _ _ _ _
      | exact LeO.none _
      | refine LeO.ite ?_ ?_
      | refine LeO.bind ?_ (fun _ => ?_)
theorem slices_EqualFunc_Invoice_at_invoice_Same_1.mono : ∀ a0 a1 k, LeO (slices_EqualFunc_Invoice_at_invoice_Same_1.f k a0 a1) (slices_EqualFunc_Invoice_at_invoice_Same_1.f (k + 1) a0 a1) := by
  intro a0 a1 k
  have ih0 := slices_EqualFunc_Invoice_at_invoice_Same_1.mono_l k
  unfold slices_EqualFunc_Invoice_at_invoice_Same_1.f
  repeat' first
      | (with_reducible exact ih0 _ _ _ _)
      | (with_reducible exact LeO.refl _)
      | (with_reducible exact LeO.none _)
      | (with_reducible refine LeO.ite ?_ ?_)
      | (with_reducible refine LeO.bind ?_ (fun _ => ?_))
      | exact ih0 _ _ _ _
      | exact LeO.none _
      | refine LeO.ite ?_ ?_
      | refine LeO.bind ?_ (fun _ => ?_)
set_option maxHeartbeats 8000000 in
set_option maxRecDepth 100000 in
theorem slices_EqualFunc_Invoice_at_invoice_Same_1.calls (k : Nat) (A0 : Option Addr) (c0 : Nat) (l0 : List (S34)) (A1 : Option Addr) (c1 : Nat) (l1 : List (S34))  (r : Bool) (w : World) (hr0 : Kd.C k34 w A0 l0.length l0) (hc0 : l0.length ≤ c0) (hr1 : Kd.C k34 w A1 l1.length l1) (hc1 : l1.length ≤ c1) (h : slices_EqualFunc_Invoice_at_invoice_Same_1.f k l0 l1 = some r) :
    Calls Try.prog 30 #[.slice A0 l0.length c0, .slice A1 l1.length c1, .func (.func 31) #[] #[]] w fun e w' => e = .returned (.bool r) ∧ Below w.heap.size w w' := by
  have hu34 := Try.underlying34
  have HR0 := Aside0.mk hr0
  have HC0 := Aside0.mk hc0
  clear hr0 hc0
  have HR1 := Aside0.mk hr1
  have HC1 := Aside0.mk hc1
  clear hr1 hc1
  have HB := Aside0.mk (Below.refl w.heap.size w)
  have H : (if (l0.length : Int) = (l1.length : Int) then (slices_EqualFunc_Invoice_at_invoice_Same_1.l0 k l1 l0 (l0.length : Int) 0) else (some false)) = some r := h
  clear h
  by_cases c4 : (l0.length : Int) = (l1.length : Int)
  · rw [if_pos c4] at H
    have c4b0 : ((l0.length : Int) == (l1.length : Int)) = true := beq_iff_eq.mpr c4
    have c4b1 : ((l0.length : Int) != (l1.length : Int)) = false := bne_eq_false_iff_eq.mpr c4
    have c4b2 : (l0.length == l1.length) = true := by first | simpa using c4 | (simp at c4 ⊢; omega)
    clear c4
    have H' := Aside0.mk H
    clear H
    go_enter Try.func30, Try.ntmps30
    go_wp2
    go_loopg [17] k (fun kq v17 w' => ∃ (x17_1 : Int), v17 = .int .i64 x17_1 ∧ Aside0 (slices_EqualFunc_Invoice_at_invoice_Same_1.l0 kq l1 l0 (l0.length : Int) x17_1 = some r) ∧ Aside0 (kq ≤ k) ∧ Aside0 (Below w.heap.size w w'))
    case atStart => exact ⟨(0), (by first | rfl | (simp; done) | (simp [*]; done)), H', ⟨Nat.le_refl _⟩, ⟨by repeat (first | (with_reducible first | exact HB.out | apply below_alloc | apply pw_below_drewN | apply below_drew1) | exact HB.out)⟩⟩
    case round =>
      clear H'
      try clear c1
      try clear p2
      try clear c3
      try clear c4
      try clear c4b0
      try clear c4b1
      try clear c4b2
      obtain ⟨x17_1, rfl, HA, HK1, HB⟩ := hrel
      cases gk with
      | zero => exact absurd HA.out (by simp [slices_EqualFunc_Invoice_at_invoice_Same_1.l0])
      | succ k1 =>
        have H := HA.out
        clear HA
        simp only [slices_EqualFunc_Invoice_at_invoice_Same_1.l0] at H
        by_cases c5 : x17_1 < (l0.length : Int)
        · rw [if_pos c5] at H
          have c5b0 : decide (x17_1 < (l0.length : Int)) = true := decide_eq_true c5
          clear c5
          by_cases c6 : 0 ≤ x17_1
          · rw [if_pos c6] at H
            have c6b0 : decide (0 ≤ x17_1) = true := decide_eq_true c6
            clear c6
            by_cases c7 : x17_1 < (l0.length : Int)
            · rw [if_pos c7] at H
              have c7b0 : decide (x17_1 < (l0.length : Int)) = true := decide_eq_true c7
              clear c7
              by_cases c8 : x17_1 < (l1.length : Int)
              · rw [if_pos c8] at H
                have c8b0 : decide (x17_1 < (l1.length : Int)) = true := decide_eq_true c8
                clear c8
                replace H := Option.bind_eq_some_iff.mp H
                obtain ⟨t156, A90, H⟩ := H
                replace H : (if t156 = true then (slices_EqualFunc_Invoice_at_invoice_Same_1.l0 k1 l1 l0 (l0.length : Int) (wrap64 (x17_1 + 1))) else (some false)) = some r := H
                have A9 := Aside0.mk A90
                clear A90
                by_cases c10 : t156 = true
                · subst c10
                  have H1 : (slices_EqualFunc_Invoice_at_invoice_Same_1.l0 k1 l1 l0 (l0.length : Int) (wrap64 (x17_1 + 1))) = some r := by rw [if_pos rfl] at H; exact H
                  clear H
                  have H := H1
                  clear H1
                  have H' := Aside0.mk H
                  clear H
                  have p152 : 0 ≤ (x17_1 : Int) := of_decide_eq_true (by first | (with_reducible assumption) | assumption)
                  have q152 : x17_1 < (l0.length : Int) := of_decide_eq_true (by first | (with_reducible assumption) | assumption)
                  obtain ⟨ad152, e152, hx152_0, hx152_1, hx152_2, hx152_3⟩ := at_T34 HR0.out x17_1 p152 q152
                  cases e152
                  replace hx152_0 := (HB.out.cell (World.block_lt_of_cell? w _ hx152_0)).trans hx152_0
                  replace hx152_1 := (HB.out.cell (World.block_lt_of_cell? w _ hx152_1)).trans hx152_1
                  replace hx152_2 := (HB.out.cell (World.block_lt_of_cell? w _ hx152_2)).trans hx152_2
                  replace hx152_3 := (HB.out.cell (World.block_lt_of_cell? w _ hx152_3)).trans hx152_3
                  replace p152 := eq_true p152
                  replace q152 := eq_true q152
                  go_wp2_with (first | ((with_reducible refine gate_dst (N := 8) rfl ?_); refine box_event ?hg (N := 8) ?hd (cs := #[.int .u64 0, .int .u64 0, .int .u64 0, .int .i64 0]) (t := 34) ?hr ?_; (case hd => rfl); (case hg => rfl); (case hr => first | (go_simp; done) | (go_simp; rfl)); intro gb153 hg w11 hbox hb; have n0_ := Aside0.mk (below_step (belN HB) hb); have n1_ := Aside0.mk (hbox); have n2_ := Aside0.mk ((by rw [hg]; exact (below_size (belN HB)) : w.heap.size ≤ gb153)); have n3_ := Aside0.mk ((by rw [hg]; exact (below_size (belN HB)) : w.heap.size ≤ gb153)); clear HB; have HB := n0_; have BK153 := n1_; have GW153 := n2_; have GE153 := n3_; clear n0_ n1_ n2_ n3_; clear hb hbox hg; obtain ⟨hcz12_0, hcz12_1, hcz12_2, hcz12_3, hfz12_0, hfz12_1, hfz12_2, hfz12_3⟩ := cz4_ (w := w11) BK153.out) | ((with_reducible refine gate_store (t := 34) (p := 8) rfl ?_); refine store_event (t := 34) (p := 8) (v := ?vo_w13) (w1 := ((((w11.setCell ⟨gb153, 0, none⟩ (.int .u64 ((rd_T34 l0 x17_1).f0))).setCell ⟨gb153, 1, none⟩ (.int .u64 ((rd_T34 l0 x17_1).f1))).setCell ⟨gb153, 2, none⟩ (.int .u64 ((rd_T34 l0 x17_1).f2))).setCell ⟨gb153, 3, none⟩ (.int .i64 ((rd_T34 l0 x17_1).f3)))) ?hg ?ho ?hn ?hr ?_; (case ho => rfl); (case hg => rfl); (case hn => rfl); (case hr => first | (go_simp; done) | (go_simp; rfl)); intro w13 hw; have n0_ : Aside0 (w13.heap[gb153]? = some (.cells #[.int .u64 ((rd_T34 l0 x17_1).f0), .int .u64 ((rd_T34 l0 x17_1).f1), .int .u64 ((rd_T34 l0 x17_1).f2), .int .i64 ((rd_T34 l0 x17_1).f3)] 34 (0, 0))) := ⟨(by rw [hw]; exact (by (with_reducible repeat (first | refine blk_drewN ?_ _ | refine blk_drew ?_ | refine blk_alloc ?_ _)); refine blk_put (cs := #[.int .u64 ((rd_T34 l0 x17_1).f0), .int .u64 ((rd_T34 l0 x17_1).f1), .int .u64 ((rd_T34 l0 x17_1).f2), .int .i64 0]) ?_ 3 _ rfl; refine blk_put (cs := #[.int .u64 ((rd_T34 l0 x17_1).f0), .int .u64 ((rd_T34 l0 x17_1).f1), .int .u64 0, .int .i64 0]) ?_ 2 _ rfl; refine blk_put (cs := #[.int .u64 ((rd_T34 l0 x17_1).f0), .int .u64 0, .int .u64 0, .int .i64 0]) ?_ 1 _ rfl; refine blk_put (cs := #[.int .u64 0, .int .u64 0, .int .u64 0, .int .i64 0]) ?_ 0 _ rfl; (with_reducible repeat (first | refine blk_drewN ?_ _ | refine blk_drew ?_ | refine blk_alloc ?_ _)); exact BK153.out))⟩; have n1_ : Aside0 (Below w.heap.size w w13) := ⟨(by rw [hw]; exact (belN HB))⟩; clear hw; clear BK153; clear HB; have BK153 := n0_; have HB := n1_; clear n0_ n1_; have p154 : 0 ≤ (x17_1 : Int) := of_decide_eq_true (by first | (with_reducible assumption) | assumption); have q154 : x17_1 < (l1.length : Int) := of_decide_eq_true (by first | (with_reducible assumption) | assumption); obtain ⟨ad154, e154, hx154_0, hx154_1, hx154_2, hx154_3⟩ := at_T34 HR1.out x17_1 p154 q154; cases e154; replace hx154_0 := (HB.out.cell (World.block_lt_of_cell? w _ hx154_0)).trans hx154_0; replace hx154_1 := (HB.out.cell (World.block_lt_of_cell? w _ hx154_1)).trans hx154_1; replace hx154_2 := (HB.out.cell (World.block_lt_of_cell? w _ hx154_2)).trans hx154_2; replace hx154_3 := (HB.out.cell (World.block_lt_of_cell? w _ hx154_3)).trans hx154_3; replace p154 := eq_true p154; replace q154 := eq_true q154) | ((with_reducible refine gate_dst (N := 9) rfl ?_); refine box_event ?hg (N := 9) ?hd (cs := #[.int .u64 0, .int .u64 0, .int .u64 0, .int .i64 0]) (t := 34) ?hr ?_; (case hd => rfl); (case hg => rfl); (case hr => first | (go_simp; done) | (go_simp; rfl)); intro gb155 hg w14 hbox hb; have n0_ := Aside0.mk (blk_below (g := gb153) (blkN BK153) hb); have n1_ := Aside0.mk (below_step (belN HB) hb); have n2_ := Aside0.mk (hbox); have n3_ := Aside0.mk ((by rw [hg]; exact (below_size (belN HB)) : w.heap.size ≤ gb155)); have n4_ := Aside0.mk ((by rw [hg]; exact (below_size (belN HB)) : w.heap.size ≤ gb155)); have n5_ := Aside0.mk ((by rw [hg]; exact Nat.ne_of_lt (blk_lt (g := gb153) (blkN BK153)) : gb153 ≠ gb155)); have n6_ := Aside0.mk ((by rw [hg]; exact Nat.ne_of_gt (blk_lt (g := gb153) (blkN BK153)) : gb155 ≠ gb153)); clear BK153; clear HB; have BK153 := n0_; have HB := n1_; have BK155 := n2_; have GW155 := n3_; have GE155 := n4_; have NB153_155 := n5_; have NB155_153 := n6_; clear n0_ n1_ n2_ n3_ n4_ n5_ n6_; clear hb hbox hg; have hnb15 := NB155_153.out; have hnc15 := NB153_155.out; obtain ⟨hcz16_0, hcz16_1, hcz16_2, hcz16_3, hfz16_0, hfz16_1, hfz16_2, hfz16_3⟩ := cz4_ (w := w14) BK155.out) | ((with_reducible refine gate_store (t := 34) (p := 9) rfl ?_); refine store_event (t := 34) (p := 9) (v := ?vo_w17) (w1 := ((((w14.setCell ⟨gb155, 0, none⟩ (.int .u64 ((rd_T34 l1 x17_1).f0))).setCell ⟨gb155, 1, none⟩ (.int .u64 ((rd_T34 l1 x17_1).f1))).setCell ⟨gb155, 2, none⟩ (.int .u64 ((rd_T34 l1 x17_1).f2))).setCell ⟨gb155, 3, none⟩ (.int .i64 ((rd_T34 l1 x17_1).f3)))) ?hg ?ho ?hn ?hr ?_; (case ho => rfl); (case hg => rfl); (case hn => rfl); (case hr => first | (go_simp; done) | (go_simp; rfl)); intro w17 hw; have n0_ : Aside0 (w17.heap[gb153]? = some (.cells #[.int .u64 ((rd_T34 l0 x17_1).f0), .int .u64 ((rd_T34 l0 x17_1).f1), .int .u64 ((rd_T34 l0 x17_1).f2), .int .i64 ((rd_T34 l0 x17_1).f3)] 34 (0, 0))) := ⟨(by rw [hw]; exact (blkF BK153))⟩; have n1_ : Aside0 (w17.heap[gb155]? = some (.cells #[.int .u64 ((rd_T34 l1 x17_1).f0), .int .u64 ((rd_T34 l1 x17_1).f1), .int .u64 ((rd_T34 l1 x17_1).f2), .int .i64 ((rd_T34 l1 x17_1).f3)] 34 (0, 0))) := ⟨(by rw [hw]; exact (by (with_reducible repeat (first | refine blk_drewN ?_ _ | refine blk_drew ?_ | refine blk_alloc ?_ _)); refine blk_put (cs := #[.int .u64 ((rd_T34 l1 x17_1).f0), .int .u64 ((rd_T34 l1 x17_1).f1), .int .u64 ((rd_T34 l1 x17_1).f2), .int .i64 0]) ?_ 3 _ rfl; refine blk_put (cs := #[.int .u64 ((rd_T34 l1 x17_1).f0), .int .u64 ((rd_T34 l1 x17_1).f1), .int .u64 0, .int .i64 0]) ?_ 2 _ rfl; refine blk_put (cs := #[.int .u64 ((rd_T34 l1 x17_1).f0), .int .u64 0, .int .u64 0, .int .i64 0]) ?_ 1 _ rfl; refine blk_put (cs := #[.int .u64 0, .int .u64 0, .int .u64 0, .int .i64 0]) ?_ 0 _ rfl; (with_reducible repeat (first | refine blk_drewN ?_ _ | refine blk_drew ?_ | refine blk_alloc ?_ _)); exact BK155.out))⟩; have n2_ : Aside0 (Below w.heap.size w w17) := ⟨(by rw [hw]; exact (belN HB))⟩; clear hw; clear BK153; clear BK155; clear HB; have BK153 := n0_; have BK155 := n1_; have HB := n2_; clear n0_ n1_ n2_; obtain ⟨hcz18_0, hcz18_1, hcz18_2, hcz18_3, hfz18_0, hfz18_1, hfz18_2, hfz18_3⟩ := cz4_ (w := w17) BK153.out; obtain ⟨hcz19_0, hcz19_1, hcz19_2, hcz19_3, hfz19_0, hfz19_1, hfz19_2, hfz19_3⟩ := cz4_ (w := w17) BK155.out) | ((with_reducible refine gate_tmp (t_ := 26) rfl ?_); refine goesT_ (some 29) rfl rfl Try.func31 (by kernel_rfl) rfl #[.agg #[.int .u64 ((rd_T34 l0 x17_1).f0), .int .u64 ((rd_T34 l0 x17_1).f1), .int .u64 ((rd_T34 l0 x17_1).f2), .int .i64 ((rd_T34 l0 x17_1).f3)], .agg #[.int .u64 ((rd_T34 l1 x17_1).f0), .int .u64 ((rd_T34 l1 x17_1).f1), .int .u64 ((rd_T34 l1 x17_1).f2), .int .i64 ((rd_T34 l1 x17_1).f3)]] rfl rfl (by (try simp only [List.map_toArray, List.map_cons, List.map_nil]); first | done | rfl | (simp only [List.length_drop, List.length_take]; rfl)) ?_; (with_reducible refine (invoice_Same_1.calls ((rd_T34 l0 x17_1).f0) ((rd_T34 l0 x17_1).f1) ((rd_T34 l0 x17_1).f2) ((rd_T34 l0 x17_1).f3) ((rd_T34 l1 x17_1).f0) ((rd_T34 l1 x17_1).f1) ((rd_T34 l1 x17_1).f2) ((rd_T34 l1 x17_1).f3) true _ A9.out).mono ?_); rintro e w20 ⟨rfl, hb⟩; refine ⟨_, rfl, ?_⟩; have n0_ := Aside0.mk (blk_below (g := gb153) (blkN BK153) hb); have n1_ := Aside0.mk (blk_below (g := gb155) (blkN BK155) hb); have n2_ := Aside0.mk (below_step (belN HB) hb); clear BK153; clear BK155; clear HB; have BK153 := n0_; have BK155 := n1_; have HB := n2_; clear n0_ n1_ n2_; (try clear hb); (try clear hb2); (try clear hk); (try clear hi)))
                  go_roundg k1
                  case measure => have := HK1.out; omega
                  case rel => exact ⟨(wrap64 (x17_1 + 1)), (by first | rfl | (simp; done) | (simp [*]; done)), H', ⟨by have := HK1.out; omega⟩, ⟨by repeat (first | (with_reducible first | exact HB.out | apply below_alloc | apply pw_below_drewN | apply below_drew1 | refine below_set ?_ GE153.out | refine below_set ?_ GE155.out) | exact HB.out)⟩⟩
                · replace c10 := Bool.eq_false_iff.mpr c10
                  subst c10
                  have H1 : (some false) = some r := by rw [if_neg (show ¬ (false = true) by decide)] at H; exact H
                  clear H
                  have H := H1
                  clear H1
                  obtain rfl := Option.some.inj H
                  have p152 : 0 ≤ (x17_1 : Int) := of_decide_eq_true (by first | (with_reducible assumption) | assumption)
                  have q152 : x17_1 < (l0.length : Int) := of_decide_eq_true (by first | (with_reducible assumption) | assumption)
                  obtain ⟨ad152, e152, hx152_0, hx152_1, hx152_2, hx152_3⟩ := at_T34 HR0.out x17_1 p152 q152
                  cases e152
                  replace hx152_0 := (HB.out.cell (World.block_lt_of_cell? w _ hx152_0)).trans hx152_0
                  replace hx152_1 := (HB.out.cell (World.block_lt_of_cell? w _ hx152_1)).trans hx152_1
                  replace hx152_2 := (HB.out.cell (World.block_lt_of_cell? w _ hx152_2)).trans hx152_2
                  replace hx152_3 := (HB.out.cell (World.block_lt_of_cell? w _ hx152_3)).trans hx152_3
                  replace p152 := eq_true p152
                  replace q152 := eq_true q152
                  go_wp2_with (first | ((with_reducible refine gate_dst (N := 8) rfl ?_); refine box_event ?hg (N := 8) ?hd (cs := #[.int .u64 0, .int .u64 0, .int .u64 0, .int .i64 0]) (t := 34) ?hr ?_; (case hd => rfl); (case hg => rfl); (case hr => first | (go_simp; done) | (go_simp; rfl)); intro gb153 hg w21 hbox hb; have n0_ := Aside0.mk (below_step (belN HB) hb); have n1_ := Aside0.mk (hbox); have n2_ := Aside0.mk ((by rw [hg]; exact (below_size (belN HB)) : w.heap.size ≤ gb153)); have n3_ := Aside0.mk ((by rw [hg]; exact (below_size (belN HB)) : w.heap.size ≤ gb153)); clear HB; have HB := n0_; have BK153 := n1_; have GW153 := n2_; have GE153 := n3_; clear n0_ n1_ n2_ n3_; clear hb hbox hg; obtain ⟨hcz22_0, hcz22_1, hcz22_2, hcz22_3, hfz22_0, hfz22_1, hfz22_2, hfz22_3⟩ := cz4_ (w := w21) BK153.out) | ((with_reducible refine gate_store (t := 34) (p := 8) rfl ?_); refine store_event (t := 34) (p := 8) (v := ?vo_w23) (w1 := ((((w21.setCell ⟨gb153, 0, none⟩ (.int .u64 ((rd_T34 l0 x17_1).f0))).setCell ⟨gb153, 1, none⟩ (.int .u64 ((rd_T34 l0 x17_1).f1))).setCell ⟨gb153, 2, none⟩ (.int .u64 ((rd_T34 l0 x17_1).f2))).setCell ⟨gb153, 3, none⟩ (.int .i64 ((rd_T34 l0 x17_1).f3)))) ?hg ?ho ?hn ?hr ?_; (case ho => rfl); (case hg => rfl); (case hn => rfl); (case hr => first | (go_simp; done) | (go_simp; rfl)); intro w23 hw; have n0_ : Aside0 (w23.heap[gb153]? = some (.cells #[.int .u64 ((rd_T34 l0 x17_1).f0), .int .u64 ((rd_T34 l0 x17_1).f1), .int .u64 ((rd_T34 l0 x17_1).f2), .int .i64 ((rd_T34 l0 x17_1).f3)] 34 (0, 0))) := ⟨(by rw [hw]; exact (by (with_reducible repeat (first | refine blk_drewN ?_ _ | refine blk_drew ?_ | refine blk_alloc ?_ _)); refine blk_put (cs := #[.int .u64 ((rd_T34 l0 x17_1).f0), .int .u64 ((rd_T34 l0 x17_1).f1), .int .u64 ((rd_T34 l0 x17_1).f2), .int .i64 0]) ?_ 3 _ rfl; refine blk_put (cs := #[.int .u64 ((rd_T34 l0 x17_1).f0), .int .u64 ((rd_T34 l0 x17_1).f1), .int .u64 0, .int .i64 0]) ?_ 2 _ rfl; refine blk_put (cs := #[.int .u64 ((rd_T34 l0 x17_1).f0), .int .u64 0, .int .u64 0, .int .i64 0]) ?_ 1 _ rfl; refine blk_put (cs := #[.int .u64 0, .int .u64 0, .int .u64 0, .int .i64 0]) ?_ 0 _ rfl; (with_reducible repeat (first | refine blk_drewN ?_ _ | refine blk_drew ?_ | refine blk_alloc ?_ _)); exact BK153.out))⟩; have n1_ : Aside0 (Below w.heap.size w w23) := ⟨(by rw [hw]; exact (belN HB))⟩; clear hw; clear BK153; clear HB; have BK153 := n0_; have HB := n1_; clear n0_ n1_; have p154 : 0 ≤ (x17_1 : Int) := of_decide_eq_true (by first | (with_reducible assumption) | assumption); have q154 : x17_1 < (l1.length : Int) := of_decide_eq_true (by first | (with_reducible assumption) | assumption); obtain ⟨ad154, e154, hx154_0, hx154_1, hx154_2, hx154_3⟩ := at_T34 HR1.out x17_1 p154 q154; cases e154; replace hx154_0 := (HB.out.cell (World.block_lt_of_cell? w _ hx154_0)).trans hx154_0; replace hx154_1 := (HB.out.cell (World.block_lt_of_cell? w _ hx154_1)).trans hx154_1; replace hx154_2 := (HB.out.cell (World.block_lt_of_cell? w _ hx154_2)).trans hx154_2; replace hx154_3 := (HB.out.cell (World.block_lt_of_cell? w _ hx154_3)).trans hx154_3; replace p154 := eq_true p154; replace q154 := eq_true q154) | ((with_reducible refine gate_dst (N := 9) rfl ?_); refine box_event ?hg (N := 9) ?hd (cs := #[.int .u64 0, .int .u64 0, .int .u64 0, .int .i64 0]) (t := 34) ?hr ?_; (case hd => rfl); (case hg => rfl); (case hr => first | (go_simp; done) | (go_simp; rfl)); intro gb155 hg w24 hbox hb; have n0_ := Aside0.mk (blk_below (g := gb153) (blkN BK153) hb); have n1_ := Aside0.mk (below_step (belN HB) hb); have n2_ := Aside0.mk (hbox); have n3_ := Aside0.mk ((by rw [hg]; exact (below_size (belN HB)) : w.heap.size ≤ gb155)); have n4_ := Aside0.mk ((by rw [hg]; exact (below_size (belN HB)) : w.heap.size ≤ gb155)); have n5_ := Aside0.mk ((by rw [hg]; exact Nat.ne_of_lt (blk_lt (g := gb153) (blkN BK153)) : gb153 ≠ gb155)); have n6_ := Aside0.mk ((by rw [hg]; exact Nat.ne_of_gt (blk_lt (g := gb153) (blkN BK153)) : gb155 ≠ gb153)); clear BK153; clear HB; have BK153 := n0_; have HB := n1_; have BK155 := n2_; have GW155 := n3_; have GE155 := n4_; have NB153_155 := n5_; have NB155_153 := n6_; clear n0_ n1_ n2_ n3_ n4_ n5_ n6_; clear hb hbox hg; have hnb25 := NB155_153.out; have hnc25 := NB153_155.out; obtain ⟨hcz26_0, hcz26_1, hcz26_2, hcz26_3, hfz26_0, hfz26_1, hfz26_2, hfz26_3⟩ := cz4_ (w := w24) BK155.out) | ((with_reducible refine gate_store (t := 34) (p := 9) rfl ?_); refine store_event (t := 34) (p := 9) (v := ?vo_w27) (w1 := ((((w24.setCell ⟨gb155, 0, none⟩ (.int .u64 ((rd_T34 l1 x17_1).f0))).setCell ⟨gb155, 1, none⟩ (.int .u64 ((rd_T34 l1 x17_1).f1))).setCell ⟨gb155, 2, none⟩ (.int .u64 ((rd_T34 l1 x17_1).f2))).setCell ⟨gb155, 3, none⟩ (.int .i64 ((rd_T34 l1 x17_1).f3)))) ?hg ?ho ?hn ?hr ?_; (case ho => rfl); (case hg => rfl); (case hn => rfl); (case hr => first | (go_simp; done) | (go_simp; rfl)); intro w27 hw; have n0_ : Aside0 (w27.heap[gb153]? = some (.cells #[.int .u64 ((rd_T34 l0 x17_1).f0), .int .u64 ((rd_T34 l0 x17_1).f1), .int .u64 ((rd_T34 l0 x17_1).f2), .int .i64 ((rd_T34 l0 x17_1).f3)] 34 (0, 0))) := ⟨(by rw [hw]; exact (blkF BK153))⟩; have n1_ : Aside0 (w27.heap[gb155]? = some (.cells #[.int .u64 ((rd_T34 l1 x17_1).f0), .int .u64 ((rd_T34 l1 x17_1).f1), .int .u64 ((rd_T34 l1 x17_1).f2), .int .i64 ((rd_T34 l1 x17_1).f3)] 34 (0, 0))) := ⟨(by rw [hw]; exact (by (with_reducible repeat (first | refine blk_drewN ?_ _ | refine blk_drew ?_ | refine blk_alloc ?_ _)); refine blk_put (cs := #[.int .u64 ((rd_T34 l1 x17_1).f0), .int .u64 ((rd_T34 l1 x17_1).f1), .int .u64 ((rd_T34 l1 x17_1).f2), .int .i64 0]) ?_ 3 _ rfl; refine blk_put (cs := #[.int .u64 ((rd_T34 l1 x17_1).f0), .int .u64 ((rd_T34 l1 x17_1).f1), .int .u64 0, .int .i64 0]) ?_ 2 _ rfl; refine blk_put (cs := #[.int .u64 ((rd_T34 l1 x17_1).f0), .int .u64 0, .int .u64 0, .int .i64 0]) ?_ 1 _ rfl; refine blk_put (cs := #[.int .u64 0, .int .u64 0, .int .u64 0, .int .i64 0]) ?_ 0 _ rfl; (with_reducible repeat (first | refine blk_drewN ?_ _ | refine blk_drew ?_ | refine blk_alloc ?_ _)); exact BK155.out))⟩; have n2_ : Aside0 (Below w.heap.size w w27) := ⟨(by rw [hw]; exact (belN HB))⟩; clear hw; clear BK153; clear BK155; clear HB; have BK153 := n0_; have BK155 := n1_; have HB := n2_; clear n0_ n1_ n2_; obtain ⟨hcz28_0, hcz28_1, hcz28_2, hcz28_3, hfz28_0, hfz28_1, hfz28_2, hfz28_3⟩ := cz4_ (w := w27) BK153.out; obtain ⟨hcz29_0, hcz29_1, hcz29_2, hcz29_3, hfz29_0, hfz29_1, hfz29_2, hfz29_3⟩ := cz4_ (w := w27) BK155.out) | ((with_reducible refine gate_tmp (t_ := 26) rfl ?_); refine goesT_ (some 29) rfl rfl Try.func31 (by kernel_rfl) rfl #[.agg #[.int .u64 ((rd_T34 l0 x17_1).f0), .int .u64 ((rd_T34 l0 x17_1).f1), .int .u64 ((rd_T34 l0 x17_1).f2), .int .i64 ((rd_T34 l0 x17_1).f3)], .agg #[.int .u64 ((rd_T34 l1 x17_1).f0), .int .u64 ((rd_T34 l1 x17_1).f1), .int .u64 ((rd_T34 l1 x17_1).f2), .int .i64 ((rd_T34 l1 x17_1).f3)]] rfl rfl (by (try simp only [List.map_toArray, List.map_cons, List.map_nil]); first | done | rfl | (simp only [List.length_drop, List.length_take]; rfl)) ?_; (with_reducible refine (invoice_Same_1.calls ((rd_T34 l0 x17_1).f0) ((rd_T34 l0 x17_1).f1) ((rd_T34 l0 x17_1).f2) ((rd_T34 l0 x17_1).f3) ((rd_T34 l1 x17_1).f0) ((rd_T34 l1 x17_1).f1) ((rd_T34 l1 x17_1).f2) ((rd_T34 l1 x17_1).f3) false _ A9.out).mono ?_); rintro e w30 ⟨rfl, hb⟩; refine ⟨_, rfl, ?_⟩; have n0_ := Aside0.mk (blk_below (g := gb153) (blkN BK153) hb); have n1_ := Aside0.mk (blk_below (g := gb155) (blkN BK155) hb); have n2_ := Aside0.mk (below_step (belN HB) hb); clear BK153; clear BK155; clear HB; have BK153 := n0_; have BK155 := n1_; have HB := n2_; clear n0_ n1_ n2_; (try clear hb); (try clear hb2); (try clear hk); (try clear hi)))
                  go_ret
                  exact ⟨by first | rfl | (simp [errW_none, errW_some] <;> rfl) | (simp [*, errW_none, errW_some] <;> rfl), by repeat (first | (with_reducible first | exact HB.out | apply below_alloc | apply pw_below_drewN | apply below_drew1 | refine below_set ?_ GE153.out | refine below_set ?_ GE155.out) | exact HB.out)⟩
              · rw [if_neg c8] at H
                exact absurd H (by simp)
            · rw [if_neg c7] at H
              exact absurd H (by simp)
          · rw [if_neg c6] at H
            exact absurd H (by simp)
        · rw [if_neg c5] at H
          have c5b0 : decide (x17_1 < (l0.length : Int)) = false := decide_eq_false c5
          clear c5
          obtain rfl := Option.some.inj H
          go_wp2
          go_ret
          exact ⟨by first | rfl | (simp [errW_none, errW_some] <;> rfl) | (simp [*, errW_none, errW_some] <;> rfl), by repeat (first | (with_reducible first | exact HB.out | apply below_alloc | apply pw_below_drewN | apply below_drew1) | exact HB.out)⟩
  · rw [if_neg c4] at H
    have c4b0 : ((l0.length : Int) == (l1.length : Int)) = false := beq_eq_false_iff_ne.mpr c4
    have c4b1 : ((l0.length : Int) != (l1.length : Int)) = true := bne_iff_ne.mpr c4
    have c4b2 : (l0.length == l1.length) = false := by first | simpa using c4 | (simp at c4 ⊢; omega)
    obtain rfl := Option.some.inj H
    go_enter Try.func30, Try.ntmps30
    go_wp2
    go_ret
    exact ⟨by first | rfl | (simp [errW_none, errW_some] <;> rfl) | (simp [*, errW_none, errW_some] <;> rfl), by repeat (first | (with_reducible first | exact HB.out | apply below_alloc | apply pw_below_drewN | apply below_drew1) | exact HB.out)⟩

/-! ### invoice_Same: function 13 -/
def invoice_Same.f (k : Nat) (l0 : List (S34)) (l1 : List (S34)) : Option (Bool) := (slices_EqualFunc_Invoice_at_invoice_Same_1.f k l0 l1).bind fun t157 => (some t157)
theorem invoice_Same.mono : ∀ a0 a1 k, LeO (invoice_Same.f k a0 a1) (invoice_Same.f (k + 1) a0 a1) := by
  intro a0 a1 k
  unfold invoice_Same.f
  repeat' first
      | (with_reducible exact slices_EqualFunc_Invoice_at_invoice_Same_1.mono _ _ _)
      | (with_reducible exact LeO.refl _)
      | (with_reducible exact LeO.none _)
      | (with_reducible refine LeO.ite ?_ ?_)
      | (with_reducible refine LeO.bind ?_ (fun _ => ?_))
      | exact slices_EqualFunc_Invoice_at_invoice_Same_1.mono _ _ _
      | exact LeO.none _
      | refine LeO.ite ?_ ?_
      | refine LeO.bind ?_ (fun _ => ?_)
set_option maxHeartbeats 8000000 in
set_option maxRecDepth 100000 in
theorem invoice_Same.calls (k : Nat) (A0 : Option Addr) (c0 : Nat) (l0 : List (S34)) (A1 : Option Addr) (c1 : Nat) (l1 : List (S34)) (r : Bool) (w : World) (hr0 : Kd.C k34 w A0 l0.length l0) (hc0 : l0.length ≤ c0) (hr1 : Kd.C k34 w A1 l1.length l1) (hc1 : l1.length ≤ c1) (h : invoice_Same.f k l0 l1 = some r) :
    Calls Try.prog 13 #[.slice A0 l0.length c0, .slice A1 l1.length c1] w fun e w' => e = .returned (.bool r) ∧ Below w.heap.size w w' := by
  have HR0 := Aside0.mk hr0
  have HC0 := Aside0.mk hc0
  clear hr0 hc0
  have HR1 := Aside0.mk hr1
  have HC1 := Aside0.mk hc1
  clear hr1 hc1
  have HB := Aside0.mk (Below.refl w.heap.size w)
  have H : ((slices_EqualFunc_Invoice_at_invoice_Same_1.f k l0 l1).bind fun t157 => (some t157)) = some r := h
  clear h
  replace H := Option.bind_eq_some_iff.mp H
  obtain ⟨t157, A30, H⟩ := H
  replace H : (some t157) = some r := H
  have A3 := Aside0.mk A30
  clear A30
  obtain rfl := Option.some.inj H
  go_enter Try.func13, Try.ntmps13
  go_wp2_with (first | ((with_reducible refine gate_callee (f := 30) rfl ?_); refine goesL_ (some 7) rfl rfl Try.func30 (by kernel_rfl) rfl #[.slice A0 l0.length c0, .slice A1 l1.length c1, .func (.func 31) #[] #[]] rfl (by (try simp only [List.map_toArray, List.map_cons, List.map_nil]); first | done | rfl | (simp only [List.length_drop, List.length_take]; rfl)) ?_; (with_reducible refine (slices_EqualFunc_Invoice_at_invoice_Same_1.calls k _ _ l0 _ _ l1  t157 _ ?side1 ?side2 ?side3 ?side4 A3.out).mono ?_); (case side1 => repeat (first | exact HR0.out | (with_reducible refine Kd.C_alloc ?_ _) | (with_reducible refine Kd.C_drewN ?_ _) | (with_reducible refine Kd.C_drew ?_))); (case side2 => exact HC0.out); (case side3 => repeat (first | exact HR1.out | (with_reducible refine Kd.C_alloc ?_ _) | (with_reducible refine Kd.C_drewN ?_ _) | (with_reducible refine Kd.C_drew ?_))); (case side4 => exact HC1.out); rintro e w4 ⟨rfl, hb⟩; refine ⟨_, rfl, ?_⟩; have n0_ := Aside0.mk (below_step (belN HB) hb); clear HB; have HB := n0_; clear n0_; (try clear hb); (try clear hb2); (try clear hk); (try clear hi)))
  go_ret
  exact ⟨by first | rfl | (simp [errW_none, errW_some] <;> rfl) | (simp [*, errW_none, errW_some] <;> rfl), by repeat (first | (with_reducible first | exact HB.out | apply below_alloc | apply pw_below_drewN | apply below_drew1) | exact HB.out)⟩

/-! ### invoice_end: function 32 -/
def invoice_end.f (k : Nat) (l0 : List (S34)) (a1 : Int) (a2 : Int) (a3 : Int) (a4 : Int) : Option ((List (S34)) × Int) := (invoice_find.f k l0 a1).bind fun bt158 => (if bt158.2 = 0 then (if 0 ≤ bt158.1 then (if bt158.1 < (l0.length : Int) then ((invoice_now.f ((rd_T34 l0 bt158.1).f0) ((rd_T34 l0 bt158.1).f1) ((rd_T34 l0 bt158.1).f2) ((rd_T34 l0 bt158.1).f3) a2).bind fun t161 => (if t161 = 4 then (some (([] : List (S34)), 13)) else (if t161 = 1 then (if a3 < ((rd_T34 l0 bt158.1).f1) then (some (([] : List (S34)), 9)) else ((slices_Clone_Invoice.f l0).bind fun t163 => (if bt158.1 < (t163.length : Int) then (some ((t163.set (bt158.1 : Int).toNat (⟨(rd_T34 t163 bt158.1).f0, (rd_T34 t163 bt158.1).f1, (rd_T34 t163 bt158.1).f2, a4⟩ : S34)), 0)) else (none)))) else (some (([] : List (S34)), 10))))) else (none)) else (none)) else (some (([] : List (S34)), bt158.2)))
theorem invoice_end.mono : ∀ a0 a1 a2 a3 a4 k, LeO (invoice_end.f k a0 a1 a2 a3 a4) (invoice_end.f (k + 1) a0 a1 a2 a3 a4) := by
  intro a0 a1 a2 a3 a4 k
  unfold invoice_end.f
  repeat' first
      | (with_reducible exact invoice_find.mono _ _ _)
      | (with_reducible exact LeO.refl _)
      | (with_reducible exact LeO.none _)
      | (with_reducible refine LeO.ite ?_ ?_)
      | (with_reducible refine LeO.bind ?_ (fun _ => ?_))
      | exact invoice_find.mono _ _ _
      | exact LeO.none _
      | refine LeO.ite ?_ ?_
      | refine LeO.bind ?_ (fun _ => ?_)
set_option maxHeartbeats 8000000 in
set_option maxRecDepth 100000 in
theorem invoice_end.calls (k : Nat) (A0 : Option Addr) (c0 : Nat) (l0 : List (S34)) (a1 : Int) (a2 : Int) (a3 : Int) (a4 : Int) (r1 : List (S34)) (r2 : Int) (w : World) (hr0 : Kd.C k34 w A0 l0.length l0) (hc0 : l0.length ≤ c0) (h : invoice_end.f k l0 a1 a2 a3 a4 = some (r1, r2)) :
    Calls Try.prog 32 #[.slice A0 l0.length c0, .int .u64 a1, .int .u64 a2, .int .u64 a3, .int .i64 a4] w fun e w' => ∃ v0_ : Value, e = .returned (.tuple #[v0_, .int .i64 r2]) ∧ Kd.R k34 34 w' w.heap.size (fun _ => True) v0_ r1 ∧ Below w.heap.size w w' := by
  have hu34 := Try.underlying34
  have HR0 := Aside0.mk hr0
  have HC0 := Aside0.mk hc0
  clear hr0 hc0
  have HB := Aside0.mk (Below.refl w.heap.size w)
  have H : ((invoice_find.f k l0 a1).bind fun bt158 => (if bt158.2 = 0 then (if 0 ≤ bt158.1 then (if bt158.1 < (l0.length : Int) then ((invoice_now.f ((rd_T34 l0 bt158.1).f0) ((rd_T34 l0 bt158.1).f1) ((rd_T34 l0 bt158.1).f2) ((rd_T34 l0 bt158.1).f3) a2).bind fun t161 => (if t161 = 4 then (some (([] : List (S34)), 13)) else (if t161 = 1 then (if a3 < ((rd_T34 l0 bt158.1).f1) then (some (([] : List (S34)), 9)) else ((slices_Clone_Invoice.f l0).bind fun t163 => (if bt158.1 < (t163.length : Int) then (some ((t163.set (bt158.1 : Int).toNat (⟨(rd_T34 t163 bt158.1).f0, (rd_T34 t163 bt158.1).f1, (rd_T34 t163 bt158.1).f2, a4⟩ : S34)), 0)) else (none)))) else (some (([] : List (S34)), 10))))) else (none)) else (none)) else (some (([] : List (S34)), bt158.2)))) = some (r1, r2) := h
  clear h
  replace H := Option.bind_eq_some_iff.mp H
  obtain ⟨⟨t158, t159⟩, A60, H⟩ := H
  replace H : (if t159 = 0 then (if 0 ≤ t158 then (if t158 < (l0.length : Int) then ((invoice_now.f ((rd_T34 l0 t158).f0) ((rd_T34 l0 t158).f1) ((rd_T34 l0 t158).f2) ((rd_T34 l0 t158).f3) a2).bind fun t161 => (if t161 = 4 then (some (([] : List (S34)), 13)) else (if t161 = 1 then (if a3 < ((rd_T34 l0 t158).f1) then (some (([] : List (S34)), 9)) else ((slices_Clone_Invoice.f l0).bind fun t163 => (if t158 < (t163.length : Int) then (some ((t163.set (t158 : Int).toNat (⟨(rd_T34 t163 t158).f0, (rd_T34 t163 t158).f1, (rd_T34 t163 t158).f2, a4⟩ : S34)), 0)) else (none)))) else (some (([] : List (S34)), 10))))) else (none)) else (none)) else (some (([] : List (S34)), t159))) = some (r1, r2) := H
  have A6 := Aside0.mk A60
  clear A60
  by_cases c7 : t159 = 0
  · rw [if_pos c7] at H
    have c7b0 : (t159 == 0) = true := beq_iff_eq.mpr c7
    have c7b1 : (t159 != 0) = false := bne_eq_false_iff_eq.mpr c7
    clear c7
    by_cases c8 : 0 ≤ t158
    · rw [if_pos c8] at H
      have c8b0 : decide (0 ≤ t158) = true := decide_eq_true c8
      clear c8
      by_cases c9 : t158 < (l0.length : Int)
      · rw [if_pos c9] at H
        have c9b0 : decide (t158 < (l0.length : Int)) = true := decide_eq_true c9
        clear c9
        replace H := Option.bind_eq_some_iff.mp H
        obtain ⟨t161, A100, H⟩ := H
        replace H : (if t161 = 4 then (some (([] : List (S34)), 13)) else (if t161 = 1 then (if a3 < ((rd_T34 l0 t158).f1) then (some (([] : List (S34)), 9)) else ((slices_Clone_Invoice.f l0).bind fun t163 => (if t158 < (t163.length : Int) then (some ((t163.set (t158 : Int).toNat (⟨(rd_T34 t163 t158).f0, (rd_T34 t163 t158).f1, (rd_T34 t163 t158).f2, a4⟩ : S34)), 0)) else (none)))) else (some (([] : List (S34)), 10)))) = some (r1, r2) := H
        have A10 := Aside0.mk A100
        clear A100
        by_cases c11 : t161 = 4
        · rw [if_pos c11] at H
          have c11b0 : (t161 == 4) = true := beq_iff_eq.mpr c11
          have c11b1 : (t161 != 4) = false := bne_eq_false_iff_eq.mpr c11
          clear c11
          simp only [Option.some.injEq, Prod.mk.injEq] at H
          obtain ⟨rfl, rfl⟩ := H
          go_enter Try.func32, Try.ntmps32
          go_wp2_with (first | ((with_reducible refine gate_callee (f := 25) rfl ?_); refine goesL_ (some 18) rfl rfl Try.func25 (by kernel_rfl) rfl #[.slice A0 l0.length c0, .int .u64 a1] rfl (by (try simp only [List.map_toArray, List.map_cons, List.map_nil]); first | done | rfl | (simp only [List.length_drop, List.length_take]; rfl)) ?_; (with_reducible refine (invoice_find.calls k _ _ l0 a1 t158 t159 _ ?side1 ?side2 A6.out).mono ?_); (case side1 => repeat (first | exact HR0.out | (with_reducible refine Kd.C_alloc ?_ _) | (with_reducible refine Kd.C_drewN ?_ _) | (with_reducible refine Kd.C_drew ?_))); (case side2 => exact HC0.out); rintro e w12 ⟨rfl, hb⟩; refine ⟨_, rfl, ?_⟩; have n0_ := Aside0.mk (below_step (belN HB) hb); clear HB; have HB := n0_; clear n0_; (try clear hb); (try clear hb2); (try clear hk); (try clear hi); have p160 : 0 ≤ (t158 : Int) := of_decide_eq_true (by first | (with_reducible assumption) | assumption); have q160 : t158 < (l0.length : Int) := of_decide_eq_true (by first | (with_reducible assumption) | assumption); obtain ⟨ad160, e160, hx160_0, hx160_1, hx160_2, hx160_3⟩ := at_T34 HR0.out t158 p160 q160; cases e160; replace hx160_0 := (HB.out.cell (World.block_lt_of_cell? w _ hx160_0)).trans hx160_0; replace hx160_1 := (HB.out.cell (World.block_lt_of_cell? w _ hx160_1)).trans hx160_1; replace hx160_2 := (HB.out.cell (World.block_lt_of_cell? w _ hx160_2)).trans hx160_2; replace hx160_3 := (HB.out.cell (World.block_lt_of_cell? w _ hx160_3)).trans hx160_3; replace p160 := eq_true p160; replace q160 := eq_true q160) | ((with_reducible refine gate_callee (f := 29) rfl ?_); refine goesL_ (some 29) rfl rfl Try.func29 (by kernel_rfl) rfl #[.agg #[.int .u64 ((rd_T34 l0 t158).f0), .int .u64 ((rd_T34 l0 t158).f1), .int .u64 ((rd_T34 l0 t158).f2), .int .i64 ((rd_T34 l0 t158).f3)], .int .u64 a2] rfl (by (try simp only [List.map_toArray, List.map_cons, List.map_nil]); first | done | rfl | (simp only [List.length_drop, List.length_take]; rfl)) ?_; (with_reducible refine (invoice_now.calls ((rd_T34 l0 t158).f0) ((rd_T34 l0 t158).f1) ((rd_T34 l0 t158).f2) ((rd_T34 l0 t158).f3) a2 t161 _ A10.out).mono ?_); rintro e w13 ⟨rfl, hb⟩; refine ⟨_, rfl, ?_⟩; have n0_ := Aside0.mk (below_step (belN HB) hb); clear HB; have HB := n0_; clear n0_; (try clear hb); (try clear hb2); (try clear hk); (try clear hi)))
          go_ret2
          exact ⟨_, by first | rfl | (simp [errW_none, errW_some] <;> rfl) | (simp [*, errW_none, errW_some] <;> rfl), by first | exact Kd.R_nil _ _ _ _ _ | exact Kd.N_nil _ _ _ _ _ | exact Kd.V_nil _ _ _ _ _ | exact Kd.Q_nil _ _ _ _ _ | exact Kd.S_nil _ _ _ _ _, by repeat (first | (with_reducible first | exact HB.out | apply below_alloc | apply pw_below_drewN | apply below_drew1) | exact HB.out)⟩
        · rw [if_neg c11] at H
          have c11b0 : (t161 == 4) = false := beq_eq_false_iff_ne.mpr c11
          have c11b1 : (t161 != 4) = true := bne_iff_ne.mpr c11
          by_cases c14 : t161 = 1
          · rw [if_pos c14] at H
            have c14b0 : (t161 == 1) = true := beq_iff_eq.mpr c14
            have c14b1 : (t161 != 1) = false := bne_eq_false_iff_eq.mpr c14
            clear c14
            by_cases c15 : a3 < ((rd_T34 l0 t158).f1)
            · rw [if_pos c15] at H
              have c15b0 : decide (a3 < ((rd_T34 l0 t158).f1)) = true := decide_eq_true c15
              clear c15
              simp only [Option.some.injEq, Prod.mk.injEq] at H
              obtain ⟨rfl, rfl⟩ := H
              go_enter Try.func32, Try.ntmps32
              go_wp2_with (first | ((with_reducible refine gate_callee (f := 25) rfl ?_); refine goesL_ (some 18) rfl rfl Try.func25 (by kernel_rfl) rfl #[.slice A0 l0.length c0, .int .u64 a1] rfl (by (try simp only [List.map_toArray, List.map_cons, List.map_nil]); first | done | rfl | (simp only [List.length_drop, List.length_take]; rfl)) ?_; (with_reducible refine (invoice_find.calls k _ _ l0 a1 t158 t159 _ ?side1 ?side2 A6.out).mono ?_); (case side1 => repeat (first | exact HR0.out | (with_reducible refine Kd.C_alloc ?_ _) | (with_reducible refine Kd.C_drewN ?_ _) | (with_reducible refine Kd.C_drew ?_))); (case side2 => exact HC0.out); rintro e w16 ⟨rfl, hb⟩; refine ⟨_, rfl, ?_⟩; have n0_ := Aside0.mk (below_step (belN HB) hb); clear HB; have HB := n0_; clear n0_; (try clear hb); (try clear hb2); (try clear hk); (try clear hi); have p160 : 0 ≤ (t158 : Int) := of_decide_eq_true (by first | (with_reducible assumption) | assumption); have q160 : t158 < (l0.length : Int) := of_decide_eq_true (by first | (with_reducible assumption) | assumption); obtain ⟨ad160, e160, hx160_0, hx160_1, hx160_2, hx160_3⟩ := at_T34 HR0.out t158 p160 q160; cases e160; replace hx160_0 := (HB.out.cell (World.block_lt_of_cell? w _ hx160_0)).trans hx160_0; replace hx160_1 := (HB.out.cell (World.block_lt_of_cell? w _ hx160_1)).trans hx160_1; replace hx160_2 := (HB.out.cell (World.block_lt_of_cell? w _ hx160_2)).trans hx160_2; replace hx160_3 := (HB.out.cell (World.block_lt_of_cell? w _ hx160_3)).trans hx160_3; replace p160 := eq_true p160; replace q160 := eq_true q160) | ((with_reducible refine gate_callee (f := 29) rfl ?_); refine goesL_ (some 29) rfl rfl Try.func29 (by kernel_rfl) rfl #[.agg #[.int .u64 ((rd_T34 l0 t158).f0), .int .u64 ((rd_T34 l0 t158).f1), .int .u64 ((rd_T34 l0 t158).f2), .int .i64 ((rd_T34 l0 t158).f3)], .int .u64 a2] rfl (by (try simp only [List.map_toArray, List.map_cons, List.map_nil]); first | done | rfl | (simp only [List.length_drop, List.length_take]; rfl)) ?_; (with_reducible refine (invoice_now.calls ((rd_T34 l0 t158).f0) ((rd_T34 l0 t158).f1) ((rd_T34 l0 t158).f2) ((rd_T34 l0 t158).f3) a2 t161 _ A10.out).mono ?_); rintro e w17 ⟨rfl, hb⟩; refine ⟨_, rfl, ?_⟩; have n0_ := Aside0.mk (below_step (belN HB) hb); clear HB; have HB := n0_; clear n0_; (try clear hb); (try clear hb2); (try clear hk); (try clear hi); have p162 : 0 ≤ (t158 : Int) := of_decide_eq_true (by first | (with_reducible assumption) | assumption); have q162 : t158 < (l0.length : Int) := of_decide_eq_true (by first | (with_reducible assumption) | assumption); obtain ⟨ad162, e162, hx162_0, hx162_1, hx162_2, hx162_3⟩ := at_T34 HR0.out t158 p162 q162; obtain rfl : ad160 = ad162 := (by injection e162); replace hx162_0 := (HB.out.cell (World.block_lt_of_cell? w _ hx162_0)).trans hx162_0; replace hx162_1 := (HB.out.cell (World.block_lt_of_cell? w _ hx162_1)).trans hx162_1; replace hx162_2 := (HB.out.cell (World.block_lt_of_cell? w _ hx162_2)).trans hx162_2; replace hx162_3 := (HB.out.cell (World.block_lt_of_cell? w _ hx162_3)).trans hx162_3; replace p162 := eq_true p162; replace q162 := eq_true q162))
              go_ret2
              exact ⟨_, by first | rfl | (simp [errW_none, errW_some] <;> rfl) | (simp [*, errW_none, errW_some] <;> rfl), by first | exact Kd.R_nil _ _ _ _ _ | exact Kd.N_nil _ _ _ _ _ | exact Kd.V_nil _ _ _ _ _ | exact Kd.Q_nil _ _ _ _ _ | exact Kd.S_nil _ _ _ _ _, by repeat (first | (with_reducible first | exact HB.out | apply below_alloc | apply pw_below_drewN | apply below_drew1) | exact HB.out)⟩
            · rw [if_neg c15] at H
              have c15b0 : decide (a3 < ((rd_T34 l0 t158).f1)) = false := decide_eq_false c15
              clear c15
              replace H := Option.bind_eq_some_iff.mp H
              obtain ⟨t163, A180, H⟩ := H
              replace H : (if t158 < (t163.length : Int) then (some ((t163.set (t158 : Int).toNat (⟨(rd_T34 t163 t158).f0, (rd_T34 t163 t158).f1, (rd_T34 t163 t158).f2, a4⟩ : S34)), 0)) else (none)) = some (r1, r2) := H
              have A18 := Aside0.mk A180
              clear A180
              by_cases c19 : t158 < (t163.length : Int)
              · rw [if_pos c19] at H
                have c19b0 : decide (t158 < (t163.length : Int)) = true := decide_eq_true c19
                clear c19
                obtain ⟨y166, hy166⟩ : ∃ y_ : List (S34), y_ = (t163.set (t158 : Int).toNat (⟨(rd_T34 t163 t158).f0, (rd_T34 t163 t158).f1, (rd_T34 t163 t158).f2, a4⟩ : S34)) := ⟨_, rfl⟩
                replace H : (some (y166, 0)) = some (r1, r2) := by first | (rw [hy166]; with_reducible exact H) | (have H2_ := (Option.bind_some _ _).symm.trans H; rw [hy166]; with_reducible exact H2_) | (have H2_ := (Option.bind_some _ _).symm.trans H; with_reducible exact H2_) | with_reducible exact H | (rw [hy166]; exact H) | exact H
                have Ny166 := Aside0.mk hy166
                clear hy166
                simp only [Option.some.injEq, Prod.mk.injEq] at H
                obtain ⟨rfl, rfl⟩ := H
                go_enter Try.func32, Try.ntmps32
                go_wp2_with (first | ((with_reducible refine gate_callee (f := 25) rfl ?_); refine goesL_ (some 18) rfl rfl Try.func25 (by kernel_rfl) rfl #[.slice A0 l0.length c0, .int .u64 a1] rfl (by (try simp only [List.map_toArray, List.map_cons, List.map_nil]); first | done | rfl | (simp only [List.length_drop, List.length_take]; rfl)) ?_; (with_reducible refine (invoice_find.calls k _ _ l0 a1 t158 t159 _ ?side1 ?side2 A6.out).mono ?_); (case side1 => repeat (first | exact HR0.out | (with_reducible refine Kd.C_alloc ?_ _) | (with_reducible refine Kd.C_drewN ?_ _) | (with_reducible refine Kd.C_drew ?_))); (case side2 => exact HC0.out); rintro e w21 ⟨rfl, hb⟩; refine ⟨_, rfl, ?_⟩; have n0_ := Aside0.mk (below_step (belN HB) hb); clear HB; have HB := n0_; clear n0_; (try clear hb); (try clear hb2); (try clear hk); (try clear hi); have p160 : 0 ≤ (t158 : Int) := of_decide_eq_true (by first | (with_reducible assumption) | assumption); have q160 : t158 < (l0.length : Int) := of_decide_eq_true (by first | (with_reducible assumption) | assumption); obtain ⟨ad160, e160, hx160_0, hx160_1, hx160_2, hx160_3⟩ := at_T34 HR0.out t158 p160 q160; cases e160; replace hx160_0 := (HB.out.cell (World.block_lt_of_cell? w _ hx160_0)).trans hx160_0; replace hx160_1 := (HB.out.cell (World.block_lt_of_cell? w _ hx160_1)).trans hx160_1; replace hx160_2 := (HB.out.cell (World.block_lt_of_cell? w _ hx160_2)).trans hx160_2; replace hx160_3 := (HB.out.cell (World.block_lt_of_cell? w _ hx160_3)).trans hx160_3; replace p160 := eq_true p160; replace q160 := eq_true q160) | ((with_reducible refine gate_callee (f := 29) rfl ?_); refine goesL_ (some 29) rfl rfl Try.func29 (by kernel_rfl) rfl #[.agg #[.int .u64 ((rd_T34 l0 t158).f0), .int .u64 ((rd_T34 l0 t158).f1), .int .u64 ((rd_T34 l0 t158).f2), .int .i64 ((rd_T34 l0 t158).f3)], .int .u64 a2] rfl (by (try simp only [List.map_toArray, List.map_cons, List.map_nil]); first | done | rfl | (simp only [List.length_drop, List.length_take]; rfl)) ?_; (with_reducible refine (invoice_now.calls ((rd_T34 l0 t158).f0) ((rd_T34 l0 t158).f1) ((rd_T34 l0 t158).f2) ((rd_T34 l0 t158).f3) a2 t161 _ A10.out).mono ?_); rintro e w22 ⟨rfl, hb⟩; refine ⟨_, rfl, ?_⟩; have n0_ := Aside0.mk (below_step (belN HB) hb); clear HB; have HB := n0_; clear n0_; (try clear hb); (try clear hb2); (try clear hk); (try clear hi); have p162 : 0 ≤ (t158 : Int) := of_decide_eq_true (by first | (with_reducible assumption) | assumption); have q162 : t158 < (l0.length : Int) := of_decide_eq_true (by first | (with_reducible assumption) | assumption); obtain ⟨ad162, e162, hx162_0, hx162_1, hx162_2, hx162_3⟩ := at_T34 HR0.out t158 p162 q162; obtain rfl : ad160 = ad162 := (by injection e162); replace hx162_0 := (HB.out.cell (World.block_lt_of_cell? w _ hx162_0)).trans hx162_0; replace hx162_1 := (HB.out.cell (World.block_lt_of_cell? w _ hx162_1)).trans hx162_1; replace hx162_2 := (HB.out.cell (World.block_lt_of_cell? w _ hx162_2)).trans hx162_2; replace hx162_3 := (HB.out.cell (World.block_lt_of_cell? w _ hx162_3)).trans hx162_3; replace p162 := eq_true p162; replace q162 := eq_true q162) | ((with_reducible refine gate_callee (f := 28) rfl ?_); refine goesL_ (some 45) rfl rfl Try.func28 (by kernel_rfl) rfl #[.slice (some ad160) l0.length c0] rfl (by (try simp only [List.map_toArray, List.map_cons, List.map_nil]); first | done | rfl | (simp only [List.length_drop, List.length_take]; rfl)) ?_; (with_reducible refine (slices_Clone_Invoice.calls _ _ l0 t163 _ ?side1 ?side2 A18.out).mono ?_); (case side1 => repeat (first | exact (Kd.C_below HR0.out HB.out) | (with_reducible refine Kd.C_alloc ?_ _) | (with_reducible refine Kd.C_drewN ?_ _) | (with_reducible refine Kd.C_drew ?_))); (case side2 => exact HC0.out); rintro e w23 ⟨v164, rfl, ho0, hb⟩; refine ⟨_, rfl, ?_⟩; have n0_ := Aside0.mk (Kd.R_lower ho0 (below_size (belN HB))); have n1_ := Aside0.mk (below_step (belN HB) hb); clear HB; have HO165 := n0_; have HB := n1_; clear n0_ n1_; (try clear hb); (try clear hb2); (try clear hk); (try clear hi); (try clear ho0); have p20 : 0 ≤ (t158 : Int) := of_decide_eq_true (by first | (with_reducible assumption) | assumption); have q20 : (t158 : Int) < ((t163.length : Int) : Int) := of_decide_eq_true (by first | (with_reducible assumption) | assumption); obtain ⟨go20, co20, eo20, gb20, gl20, cl20, HG20⟩ := Kd.R_form HO165.out (by omega); (first | cases eo20 | (injection eo20 with ea_ en_ ec_; (first | subst ea_ | (injection ea_ with ea_; subst ea_)); subst ec_; clear en_)); have GB20 := Aside0.mk gb20; have GG20 := Aside0.mk HG20; clear gb20 gl20 HG20; obtain ⟨ce20, hcl20, hM20, hcc20, hfr20⟩ := Kd.R_elem HO165.out z34 (t158 : Int) p20 q20; obtain rfl := k34_openM hM20; have hx20_0 : w23.cell? ⟨go20, (t158 : Int).toNat * 4, none⟩ = some (.int .u64 ((rd_T34 t163 t158).f0)) := hcc20 0 _ rfl; have hx20_1 : w23.cell? ⟨go20, (t158 : Int).toNat * 4 + 1, none⟩ = some (.int .u64 ((rd_T34 t163 t158).f1)) := hcc20 1 _ rfl; have hx20_2 : w23.cell? ⟨go20, (t158 : Int).toNat * 4 + 2, none⟩ = some (.int .u64 ((rd_T34 t163 t158).f2)) := hcc20 2 _ rfl; have hx20_3 : w23.cell? ⟨go20, (t158 : Int).toNat * 4 + 3, none⟩ = some (.int .i64 ((rd_T34 t163 t158).f3)) := hcc20 3 _ rfl; have hf20_0 : w23.frozen? ⟨go20, (t158 : Int).toNat * 4, none⟩ = false := hfr20 0; have hf20_1 : w23.frozen? ⟨go20, (t158 : Int).toNat * 4 + 1, none⟩ = false := hfr20 1; have hf20_2 : w23.frozen? ⟨go20, (t158 : Int).toNat * 4 + 2, none⟩ = false := hfr20 2; have hf20_3 : w23.frozen? ⟨go20, (t158 : Int).toNat * 4 + 3, none⟩ = false := hfr20 3; clear hcl20 hcc20 hfr20 hM20; replace p20 := eq_true p20; replace q20 := eq_true q20; have HX24 := Aside0.mk (show Kd.R k34 34 w23 w.heap.size (fun _ => True) (.slice (some ⟨go20, 0, none⟩) t163.length co20) t163 from (Kd.RN HO165)); obtain ⟨ce24, hcl24, hM24, hcc24, hfr24⟩ := Kd.R_elem HX24.out z34 (t158 : Int) (of_decide_eq_true (by first | (with_reducible assumption) | assumption)) (by have h_ : (t158 : Int) < ((t163.length : Int) : Int) := of_decide_eq_true (by first | (with_reducible assumption) | assumption); first | exact h_ | (have e_ := (Kd.R_reads' HO165.out).1; omega) | simpa using h_); obtain rfl := k34_openM hM24; have HP24 := Kd.R_seg HX24.out (t158 : Int) (of_decide_eq_true (by first | (with_reducible assumption) | assumption)) (by have h_ : (t158 : Int) < ((t163.length : Int) : Int) := of_decide_eq_true (by first | (with_reducible assumption) | assumption); first | exact h_ | (have e_ := (Kd.R_reads' HO165.out).1; omega) | simpa using h_) (seg := [.int .i64 a4]) (j := 3) hcl24 hcc24 (show 4 ≤ 4 from by decide) (x' := (⟨(rd_T34 t163 t158).f0, (rd_T34 t163 t158).f1, (rd_T34 t163 t158).f2, a4⟩ : S34)) (k34_mkM _ _ _ (⟨(rd_T34 t163 t158).f0, (rd_T34 t163 t158).f1, (rd_T34 t163 t158).f2, a4⟩ : S34) ) (fun _ hk => hk); have hx24_3 := hcc24 3 _ rfl; (try simp only [show (k34).sz = 4 from rfl, Nat.mul_one, Nat.add_zero] at hx24_3); have hf24_3 := hfr24 3; (try simp only [show (k34).sz = 4 from rfl, Nat.mul_one, Nat.add_zero] at hf24_3); clear hcl24 hcc24 hfr24 hM24) | ((with_reducible refine gate_store (t := 3) (p := 50) rfl ?_); refine store_event (t := 3) (p := 50) (v := ?vo_w25) (w1 := (w23.setCell ⟨go20, (t158 : Int).toNat * 4 + 3, none⟩ (.int .i64 a4))) ?hg ?ho ?hn ?hr ?_; (case ho => rfl); (case hg => rfl); (case hn => rfl); (case hr => first | (go_simp; done) | (go_simp; rfl)); intro w25 hw; have hg : w23.grownBy w25 (some go20) := (by rw [hw]; exact HP24.2); have hp_ : Kd.R k34 34 w25 w.heap.size (fun _ => True) (.slice (some ⟨go20, 0, none⟩) t163.length co20) y166 := (by rw [hw, Ny166.out]; exact HP24.1); clear HP24; have n0_ := Aside0.mk (hp_); have n1_ := Aside0.mk ((by rw [hw]; exact below_set (HB.out) GB20.out : Below w.heap.size w w25)); clear HO165; clear HB; have HO165 := n0_; have HB := n1_; clear n0_ n1_; clear hg hw hp_))
                go_ret2
                exact ⟨_, by first | rfl | (simp [errW_none, errW_some] <;> rfl) | (simp [*, errW_none, errW_some] <;> rfl), by (with_reducible repeat (first | apply Kd.R_alloc | apply Kd.R_drewN | apply Kd.R_drew)); exact HO165.out, by repeat (first | (with_reducible first | exact HB.out | apply below_alloc | apply pw_below_drewN | apply below_drew1) | exact HB.out)⟩
              · rw [if_neg c19] at H
                exact absurd H (by simp)
          · rw [if_neg c14] at H
            have c14b0 : (t161 == 1) = false := beq_eq_false_iff_ne.mpr c14
            have c14b1 : (t161 != 1) = true := bne_iff_ne.mpr c14
            simp only [Option.some.injEq, Prod.mk.injEq] at H
            obtain ⟨rfl, rfl⟩ := H
            go_enter Try.func32, Try.ntmps32
            go_wp2_with (first | ((with_reducible refine gate_callee (f := 25) rfl ?_); refine goesL_ (some 18) rfl rfl Try.func25 (by kernel_rfl) rfl #[.slice A0 l0.length c0, .int .u64 a1] rfl (by (try simp only [List.map_toArray, List.map_cons, List.map_nil]); first | done | rfl | (simp only [List.length_drop, List.length_take]; rfl)) ?_; (with_reducible refine (invoice_find.calls k _ _ l0 a1 t158 t159 _ ?side1 ?side2 A6.out).mono ?_); (case side1 => repeat (first | exact HR0.out | (with_reducible refine Kd.C_alloc ?_ _) | (with_reducible refine Kd.C_drewN ?_ _) | (with_reducible refine Kd.C_drew ?_))); (case side2 => exact HC0.out); rintro e w26 ⟨rfl, hb⟩; refine ⟨_, rfl, ?_⟩; have n0_ := Aside0.mk (below_step (belN HB) hb); clear HB; have HB := n0_; clear n0_; (try clear hb); (try clear hb2); (try clear hk); (try clear hi); have p160 : 0 ≤ (t158 : Int) := of_decide_eq_true (by first | (with_reducible assumption) | assumption); have q160 : t158 < (l0.length : Int) := of_decide_eq_true (by first | (with_reducible assumption) | assumption); obtain ⟨ad160, e160, hx160_0, hx160_1, hx160_2, hx160_3⟩ := at_T34 HR0.out t158 p160 q160; cases e160; replace hx160_0 := (HB.out.cell (World.block_lt_of_cell? w _ hx160_0)).trans hx160_0; replace hx160_1 := (HB.out.cell (World.block_lt_of_cell? w _ hx160_1)).trans hx160_1; replace hx160_2 := (HB.out.cell (World.block_lt_of_cell? w _ hx160_2)).trans hx160_2; replace hx160_3 := (HB.out.cell (World.block_lt_of_cell? w _ hx160_3)).trans hx160_3; replace p160 := eq_true p160; replace q160 := eq_true q160) | ((with_reducible refine gate_callee (f := 29) rfl ?_); refine goesL_ (some 29) rfl rfl Try.func29 (by kernel_rfl) rfl #[.agg #[.int .u64 ((rd_T34 l0 t158).f0), .int .u64 ((rd_T34 l0 t158).f1), .int .u64 ((rd_T34 l0 t158).f2), .int .i64 ((rd_T34 l0 t158).f3)], .int .u64 a2] rfl (by (try simp only [List.map_toArray, List.map_cons, List.map_nil]); first | done | rfl | (simp only [List.length_drop, List.length_take]; rfl)) ?_; (with_reducible refine (invoice_now.calls ((rd_T34 l0 t158).f0) ((rd_T34 l0 t158).f1) ((rd_T34 l0 t158).f2) ((rd_T34 l0 t158).f3) a2 t161 _ A10.out).mono ?_); rintro e w27 ⟨rfl, hb⟩; refine ⟨_, rfl, ?_⟩; have n0_ := Aside0.mk (below_step (belN HB) hb); clear HB; have HB := n0_; clear n0_; (try clear hb); (try clear hb2); (try clear hk); (try clear hi)))
            go_ret2
            exact ⟨_, by first | rfl | (simp [errW_none, errW_some] <;> rfl) | (simp [*, errW_none, errW_some] <;> rfl), by first | exact Kd.R_nil _ _ _ _ _ | exact Kd.N_nil _ _ _ _ _ | exact Kd.V_nil _ _ _ _ _ | exact Kd.Q_nil _ _ _ _ _ | exact Kd.S_nil _ _ _ _ _, by repeat (first | (with_reducible first | exact HB.out | apply below_alloc | apply pw_below_drewN | apply below_drew1) | exact HB.out)⟩
      · rw [if_neg c9] at H
        exact absurd H (by simp)
    · rw [if_neg c8] at H
      exact absurd H (by simp)
  · rw [if_neg c7] at H
    have c7b0 : (t159 == 0) = false := beq_eq_false_iff_ne.mpr c7
    have c7b1 : (t159 != 0) = true := bne_iff_ne.mpr c7
    simp only [Option.some.injEq, Prod.mk.injEq] at H
    obtain ⟨rfl, rfl⟩ := H
    go_enter Try.func32, Try.ntmps32
    go_wp2_with (first | ((with_reducible refine gate_callee (f := 25) rfl ?_); refine goesL_ (some 18) rfl rfl Try.func25 (by kernel_rfl) rfl #[.slice A0 l0.length c0, .int .u64 a1] rfl (by (try simp only [List.map_toArray, List.map_cons, List.map_nil]); first | done | rfl | (simp only [List.length_drop, List.length_take]; rfl)) ?_; (with_reducible refine (invoice_find.calls k _ _ l0 a1 t158 t159 _ ?side1 ?side2 A6.out).mono ?_); (case side1 => repeat (first | exact HR0.out | (with_reducible refine Kd.C_alloc ?_ _) | (with_reducible refine Kd.C_drewN ?_ _) | (with_reducible refine Kd.C_drew ?_))); (case side2 => exact HC0.out); rintro e w28 ⟨rfl, hb⟩; refine ⟨_, rfl, ?_⟩; have n0_ := Aside0.mk (below_step (belN HB) hb); clear HB; have HB := n0_; clear n0_; (try clear hb); (try clear hb2); (try clear hk); (try clear hi)))
    go_ret2
    exact ⟨_, by first | rfl | (simp [errW_none, errW_some] <;> rfl) | (simp [*, errW_none, errW_some] <;> rfl), by first | exact Kd.R_nil _ _ _ _ _ | exact Kd.N_nil _ _ _ _ _ | exact Kd.V_nil _ _ _ _ _ | exact Kd.Q_nil _ _ _ _ _ | exact Kd.S_nil _ _ _ _ _, by repeat (first | (with_reducible first | exact HB.out | apply below_alloc | apply pw_below_drewN | apply below_drew1) | exact HB.out)⟩

/-! ### invoice_Pay: function 14 -/
def invoice_Pay.f (k : Nat) (l0 : List (S34)) (a1 : Int) (a2 : Int) (a3 : Int) : Option ((List (S34)) × Int) := (invoice_end.f k l0 a1 a3 a2 2).bind fun bt167 => (some (bt167.1, bt167.2))
theorem invoice_Pay.mono : ∀ a0 a1 a2 a3 k, LeO (invoice_Pay.f k a0 a1 a2 a3) (invoice_Pay.f (k + 1) a0 a1 a2 a3) := by
  intro a0 a1 a2 a3 k
  unfold invoice_Pay.f
  repeat' first
      | (with_reducible exact invoice_end.mono _ _ _ _ _ _)
      | (with_reducible exact LeO.refl _)
      | (with_reducible exact LeO.none _)
      | (with_reducible refine LeO.ite ?_ ?_)
      | (with_reducible refine LeO.bind ?_ (fun _ => ?_))
      | exact invoice_end.mono _ _ _ _ _ _
      | exact LeO.none _
      | refine LeO.ite ?_ ?_
      | refine LeO.bind ?_ (fun _ => ?_)
set_option maxHeartbeats 8000000 in
set_option maxRecDepth 100000 in
theorem invoice_Pay.calls (k : Nat) (A0 : Option Addr) (c0 : Nat) (l0 : List (S34)) (a1 : Int) (a2 : Int) (a3 : Int) (r1 : List (S34)) (r2 : Int) (w : World) (hr0 : Kd.C k34 w A0 l0.length l0) (hc0 : l0.length ≤ c0) (h : invoice_Pay.f k l0 a1 a2 a3 = some (r1, r2)) :
    Calls Try.prog 14 #[.slice A0 l0.length c0, .int .u64 a1, .int .u64 a2, .int .u64 a3] w fun e w' => ∃ v0_ : Value, e = .returned (.tuple #[v0_, .int .i64 r2]) ∧ Kd.R k34 34 w' w.heap.size (fun _ => True) v0_ r1 ∧ Below w.heap.size w w' := by
  have HR0 := Aside0.mk hr0
  have HC0 := Aside0.mk hc0
  clear hr0 hc0
  have HB := Aside0.mk (Below.refl w.heap.size w)
  have H : ((invoice_end.f k l0 a1 a3 a2 2).bind fun bt167 => (some (bt167.1, bt167.2))) = some (r1, r2) := h
  clear h
  replace H := Option.bind_eq_some_iff.mp H
  obtain ⟨⟨t167, t168⟩, A50, H⟩ := H
  replace H : (some (t167, t168)) = some (r1, r2) := H
  have A5 := Aside0.mk A50
  clear A50
  simp only [Option.some.injEq, Prod.mk.injEq] at H
  obtain ⟨rfl, rfl⟩ := H
  go_enter Try.func14, Try.ntmps14
  go_wp2_with (first | ((with_reducible refine gate_callee (f := 32) rfl ?_); refine goesL_ (some 14) rfl rfl Try.func32 (by kernel_rfl) rfl #[.slice A0 l0.length c0, .int .u64 a1, .int .u64 a3, .int .u64 a2, .int .i64 2] rfl (by (try simp only [List.map_toArray, List.map_cons, List.map_nil]); first | done | rfl | (simp only [List.length_drop, List.length_take]; rfl)) ?_; (with_reducible refine (invoice_end.calls k _ _ l0 a1 a3 a2 2 t167 t168 _ ?side1 ?side2 A5.out).mono ?_); (case side1 => repeat (first | exact HR0.out | (with_reducible refine Kd.C_alloc ?_ _) | (with_reducible refine Kd.C_drewN ?_ _) | (with_reducible refine Kd.C_drew ?_))); (case side2 => exact HC0.out); rintro e w6 ⟨v169, rfl, ho0, hb⟩; refine ⟨_, rfl, ?_⟩; have n0_ := Aside0.mk (Kd.R_lower ho0 (below_size (belN HB))); have n1_ := Aside0.mk (below_step (belN HB) hb); clear HB; have HO170 := n0_; have HB := n1_; clear n0_ n1_; (try clear hb); (try clear hb2); (try clear hk); (try clear hi); (try clear ho0)))
  go_ret2
  exact ⟨_, by first | rfl | (simp [errW_none, errW_some] <;> rfl) | (simp [*, errW_none, errW_some] <;> rfl), by (with_reducible repeat (first | apply Kd.R_alloc | apply Kd.R_drewN | apply Kd.R_drew)); exact HO170.out, by repeat (first | (with_reducible first | exact HB.out | apply below_alloc | apply pw_below_drewN | apply below_drew1) | exact HB.out)⟩

/-! ### invoice_Cancel: function 15 -/
def invoice_Cancel.f (k : Nat) (l0 : List (S34)) (a1 : Int) (a2 : Int) : Option ((List (S34)) × Int) := (invoice_end.f k l0 a1 a2 4611686018427387904 3).bind fun bt171 => (some (bt171.1, bt171.2))
theorem invoice_Cancel.mono : ∀ a0 a1 a2 k, LeO (invoice_Cancel.f k a0 a1 a2) (invoice_Cancel.f (k + 1) a0 a1 a2) := by
  intro a0 a1 a2 k
  unfold invoice_Cancel.f
  repeat' first
      | (with_reducible exact invoice_end.mono _ _ _ _ _ _)
      | (with_reducible exact LeO.refl _)
      | (with_reducible exact LeO.none _)
      | (with_reducible refine LeO.ite ?_ ?_)
      | (with_reducible refine LeO.bind ?_ (fun _ => ?_))
      | exact invoice_end.mono _ _ _ _ _ _
      | exact LeO.none _
      | refine LeO.ite ?_ ?_
      | refine LeO.bind ?_ (fun _ => ?_)
set_option maxHeartbeats 8000000 in
set_option maxRecDepth 100000 in
theorem invoice_Cancel.calls (k : Nat) (A0 : Option Addr) (c0 : Nat) (l0 : List (S34)) (a1 : Int) (a2 : Int) (r1 : List (S34)) (r2 : Int) (w : World) (hr0 : Kd.C k34 w A0 l0.length l0) (hc0 : l0.length ≤ c0) (h : invoice_Cancel.f k l0 a1 a2 = some (r1, r2)) :
    Calls Try.prog 15 #[.slice A0 l0.length c0, .int .u64 a1, .int .u64 a2] w fun e w' => ∃ v0_ : Value, e = .returned (.tuple #[v0_, .int .i64 r2]) ∧ Kd.R k34 34 w' w.heap.size (fun _ => True) v0_ r1 ∧ Below w.heap.size w w' := by
  have HR0 := Aside0.mk hr0
  have HC0 := Aside0.mk hc0
  clear hr0 hc0
  have HB := Aside0.mk (Below.refl w.heap.size w)
  have H : ((invoice_end.f k l0 a1 a2 4611686018427387904 3).bind fun bt171 => (some (bt171.1, bt171.2))) = some (r1, r2) := h
  clear h
  replace H := Option.bind_eq_some_iff.mp H
  obtain ⟨⟨t171, t172⟩, A40, H⟩ := H
  replace H : (some (t171, t172)) = some (r1, r2) := H
  have A4 := Aside0.mk A40
  clear A40
  simp only [Option.some.injEq, Prod.mk.injEq] at H
  obtain ⟨rfl, rfl⟩ := H
  go_enter Try.func15, Try.ntmps15
  go_wp2_with (first | ((with_reducible refine gate_callee (f := 32) rfl ?_); refine goesL_ (some 11) rfl rfl Try.func32 (by kernel_rfl) rfl #[.slice A0 l0.length c0, .int .u64 a1, .int .u64 a2, .int .u64 4611686018427387904, .int .i64 3] rfl (by (try simp only [List.map_toArray, List.map_cons, List.map_nil]); first | done | rfl | (simp only [List.length_drop, List.length_take]; rfl)) ?_; (with_reducible refine (invoice_end.calls k _ _ l0 a1 a2 4611686018427387904 3 t171 t172 _ ?side1 ?side2 A4.out).mono ?_); (case side1 => repeat (first | exact HR0.out | (with_reducible refine Kd.C_alloc ?_ _) | (with_reducible refine Kd.C_drewN ?_ _) | (with_reducible refine Kd.C_drew ?_))); (case side2 => exact HC0.out); rintro e w5 ⟨v173, rfl, ho0, hb⟩; refine ⟨_, rfl, ?_⟩; have n0_ := Aside0.mk (Kd.R_lower ho0 (below_size (belN HB))); have n1_ := Aside0.mk (below_step (belN HB) hb); clear HB; have HO174 := n0_; have HB := n1_; clear n0_ n1_; (try clear hb); (try clear hb2); (try clear hk); (try clear hi); (try clear ho0)))
  go_ret2
  exact ⟨_, by first | rfl | (simp [errW_none, errW_some] <;> rfl) | (simp [*, errW_none, errW_some] <;> rfl), by (with_reducible repeat (first | apply Kd.R_alloc | apply Kd.R_drewN | apply Kd.R_drew)); exact HO174.out, by repeat (first | (with_reducible first | exact HB.out | apply below_alloc | apply pw_below_drewN | apply below_drew1) | exact HB.out)⟩

-- NOT PRINTED: function 34 (slices_DeleteFunc_Invoice)

/-! ### invoice_Sweep: function 16 (by hand) -/
def nowv (x : S34) (tick : Int) : Int := if x.f3 = 1 ∧ x.f2 < tick then 4 else x.f3
theorem nowv_late {x : S34} {tick : Int} (h1 : x.f3 = 1) (h2 : x.f2 < tick) : nowv x tick = 4 := if_pos ⟨h1, h2⟩
theorem nowv_not {x : S34} {tick : Int} (h : ¬ (x.f3 = 1 ∧ x.f2 < tick)) : nowv x tick = x.f3 := if_neg h
theorem bcell_ {W w1 : World} (hb : Below W.heap.size W w1) : (∀ b o, b < W.heap.size → w1.cell? ⟨b, o, none⟩ = W.cell? ⟨b, o, none⟩) ∧ (∀ b o, b < W.heap.size → w1.frozen? ⟨b, o, none⟩ = W.frozen? ⟨b, o, none⟩) :=
  ⟨fun b o h => hb.cell (p := ⟨b, o, none⟩) h, fun b o h => hb.frozen (p := ⟨b, o, none⟩) h⟩
set_option maxHeartbeats 400000 in
theorem nowv.calls (x : S34) (tick : Int) (w : World) :
    Calls Try.prog 29 #[.agg #[.int .u64 x.f0, .int .u64 x.f1, .int .u64 x.f2, .int .i64 x.f3], .int .u64 tick] w fun e w' => e = .returned (.int .i64 (nowv x tick)) ∧ Below w.heap.size w w' := by
  obtain ⟨a, b, c, d⟩ := x
  have hB := Aside0.mk (show Below w.heap.size w (w.alloc (.cells #[.int .u64 a, .int .u64 b, .int .u64 c, .int .i64 d] 34)) from (Below.refl _ _).alloc (Nat.le_refl _) _)
  by_cases h1 : d = 1
  · have h1b : (d == 1) = true := by simpa using h1
    by_cases h2 : c < tick
    · rw [nowv_late h1 h2]
      have h2b : decide (c < tick) = true := by simpa using h2
      clear h1 h2
      go_enter Try.func29, Try.ntmps29
      go_wp2
      go_ret
      exact ⟨rfl, hB.out⟩
    · rw [nowv_not (fun h => h2 h.2)]
      have h2b : decide (c < tick) = false := by simpa using h2
      clear h1 h2
      go_enter Try.func29, Try.ntmps29
      go_wp2
      go_ret
      exact ⟨rfl, hB.out⟩
  · rw [nowv_not (fun h => h1 h.1)]
    have h1b : (d == 1) = false := by simpa using h1
    clear h1
    go_enter Try.func29, Try.ntmps29
    go_wp2
    go_ret
    exact ⟨rfl, hB.out⟩
def overv (tick : Int) (x : S34) : Bool := nowv x tick == 4 || x.f3 == 3
theorem overv_a {x : S34} {tick : Int} (h : (nowv x tick == 4) = true) : overv tick x = true := by simp [overv, h]
theorem overv_b {x : S34} {tick : Int} (h : (nowv x tick == 4) = false) : overv tick x = (x.f3 == 3) := by simp [overv, h]
set_option maxHeartbeats 400000 in
theorem overv.calls (gb : Nat) (tick : Int) (x : S34) (w : World) (hb : w.heap[gb]? = some (.cells #[.int .u64 tick] 23 (0, 0))) :
    Calls Try.prog 33 #[.agg #[.int .u64 x.f0, .int .u64 x.f1, .int .u64 x.f2, .int .i64 x.f3], .pointer (some ⟨gb, 0, none⟩)] w fun e w' => e = .returned (.bool (overv tick x)) ∧ Below w.heap.size w w' := by
  have hlt := blk_lt hb
  have hb2 := blk_alloc hb (.cells #[.int .u64 x.f0, .int .u64 x.f1, .int .u64 x.f2, .int .i64 x.f3] 34)
  have hc : (w.alloc (.cells #[.int .u64 x.f0, .int .u64 x.f1, .int .u64 x.f2, .int .i64 x.f3] 34)).cell? ⟨gb, 0, none⟩ = some (.int .u64 tick) := (blk_cell hb2 0).trans rfl
  have HB := Aside0.mk ((Below.refl w.heap.size w).alloc (Nat.le_refl _) (.cells #[.int .u64 x.f0, .int .u64 x.f1, .int .u64 x.f2, .int .i64 x.f3] 34))
  clear hb hb2 hlt
  cases h1 : nowv x tick == 4 with
  | true =>
    rw [overv_a h1]
    go_enter Try.func33, Try.ntmps33
    go_wp2_with (go_at_call 29; refine (nowv.calls x tick _).mono ?_; rintro e w' ⟨rfl, hbel⟩)
    go_ret
    exact ⟨rfl, below_then HB.out (by simp) hbel⟩
  | false =>
    rw [overv_b h1]
    go_enter Try.func33, Try.ntmps33
    go_wp2_with (go_at_call 29; refine (nowv.calls x tick _).mono ?_; rintro e w' ⟨rfl, hbel⟩; have HL := Aside0.mk hbel; obtain ⟨hq1, hq2⟩ := bcell_ hbel; clear hbel)
    go_ret
    exact ⟨rfl, below_then HB.out (by simp) HL.out⟩
def IdxP (p : S34 → Bool) (xs : List S34) (r : Int) : Prop := (r = -1 ∧ ∀ x ∈ xs, p x = false) ∨ ∃ i : Nat, r = i ∧ i < xs.length ∧ p (rd_T34 xs i) = true ∧ ∀ x ∈ xs.take i, p x = false
theorem take_rd34 {xs : List S34} {k : Nat} (h : k < xs.length) : xs.take (k + 1) = xs.take k ++ [rd_T34 xs k] := by
  rw [List.take_succ_eq_append_getElem h]
  simp [rd_T34, List.getD_eq_getElem?_getD, List.getElem?_eq_getElem h]
theorem all_snoc34 {p : S34 → Bool} {xs : List S34} {k : Nat} (h : k < xs.length) (ha : ∀ x ∈ xs.take k, p x = false) (hk : p (rd_T34 xs k) = false) : ∀ x ∈ xs.take (k + 1), p x = false := by
  rw [take_rd34 h]
  intro x hx
  rcases List.mem_append.1 hx with hx | hx
  · exact ha x hx
  · rw [List.mem_singleton.1 hx]; exact hk
set_option maxHeartbeats 800000 in
theorem idxv.calls (gb : Nat) (tick : Int) (A : Option Addr) (c : Nat) (xs : List S34) (w : World) (hr : Kd.C k34 w A xs.length xs) (hb : w.heap[gb]? = some (.cells #[.int .u64 tick] 23 (0, 0))) :
    Calls Try.prog 45 #[.slice A xs.length c, .func (.func 33) #[] #[.pointer (some ⟨gb, 0, none⟩)]] w fun e w' => ∃ r : Int, Aside0 (IdxP (overv tick) xs r) ∧ e = .returned (.int .i64 r) ∧ Below w.heap.size w w' := by
  have hlen := hr.2.1
  have HR := Aside0.mk hr
  have HB := Aside0.mk hb
  clear hr hb
  go_enter Try.func45, Try.ntmps45
  go_wp2
  go_loopw [8] (fun v8 wr => ∃ k : Nat, k ≤ xs.length ∧ v8 = .int .i64 k ∧ Aside0 (∀ x ∈ xs.take k, overv tick x = false) ∧ Aside0 (Below w.heap.size w wr)) (fun v8 _ => xs.length - (intOf v8).toNat)
  case atStart => exact ⟨0, Nat.zero_le _, rfl, ⟨by simp⟩, ⟨Below.refl _ _⟩⟩
  case round =>
    obtain ⟨k, hk, rfl, HA, HL⟩ := hrel
    by_cases hlt : k < xs.length
    · obtain ⟨ad, rfl, h0, h1, h2, h3⟩ := at_T34 (Kd.C_below HR.out HL.out) (k : Int) (by omega) (by omega)
      have hbx := Aside0.mk ((HL.out.block gb (blk_lt HB.out)).trans HB.out)
      rw [Int.toNat_natCast] at h0 h1 h2 h3
      cases hp : overv tick (rd_T34 xs k) with
      | true =>
        have HP := Aside0.mk hp
        go_wp2_with (go_at_call 33; refine (overv.calls gb tick (rd_T34 xs k) _ hbx.out).mono ?_; rw [HP.out]; rintro e w' ⟨rfl, hbel⟩; have HL2 := Aside0.mk hbel; clear hbel)
        go_ret
        exact ⟨k, ⟨.inr ⟨k, rfl, hlt, HP.out, HA.out⟩⟩, rfl, below_then HL.out HL.out.size HL2.out⟩
      | false =>
        have HP := Aside0.mk hp
        go_wp2_with (go_at_call 33; refine (overv.calls gb tick (rd_T34 xs k) _ hbx.out).mono ?_; rw [HP.out]; rintro e w' ⟨rfl, hbel⟩; have HL2 := Aside0.mk hbel; clear hbel)
        go_roundw
        case rel => exact ⟨k + 1, by omega, by go_num, ⟨all_snoc34 hlt HA.out HP.out⟩, ⟨below_then HL.out HL.out.size HL2.out⟩⟩
        case measure => simp [intOf]; omega
    · obtain rfl : k = xs.length := by omega
      go_wp2
      go_ret
      exact ⟨-1, ⟨.inl ⟨rfl, by have := HA.out; rwa [List.take_length] at this⟩⟩, rfl, HL.out⟩
theorem idxp_none {p : S34 → Bool} {xs : List S34} {r : Int} (h : IdxP p xs r) (ha : ∀ x ∈ xs, p x = false) : r = -1 := by
  rcases h with ⟨h, _⟩ | ⟨i, _, hi, hp, _⟩
  · exact h
  · have hm : rd_T34 xs i ∈ xs := by
      simp [rd_T34, List.getD_eq_getElem?_getD, List.getElem?_eq_getElem hi]
    rw [ha _ hm] at hp; cases hp
theorem idxp_some {p : S34 → Bool} {xs : List S34} {r : Int} (h : IdxP p xs r) {i : Nat} (hi : i < xs.length) (hp : p (rd_T34 xs i) = true) (ha : ∀ x ∈ xs.take i, p x = false) : r = i := by
  have hmem : ∀ {a b : Nat}, a < b → a < xs.length → rd_T34 xs (a : Int) ∈ xs.take b := by
    intro a b hab hal
    simp only [rd_T34, List.getD_eq_getElem?_getD, Int.toNat_natCast, List.getElem?_eq_getElem hal, Option.getD_some]
    exact List.mem_take_iff_getElem.2 ⟨a, by omega, rfl⟩
  rcases h with ⟨_, hn⟩ | ⟨j, rfl, hj, hpj, haj⟩
  · have := hn _ (List.mem_of_mem_take (hmem (Nat.lt_succ_self i) hi)); rw [this] at hp; cases hp
  · rcases Nat.lt_trichotomy i j with hlt | heq | hgt
    · have := haj _ (hmem hlt hi); rw [this] at hp; cases hp
    · rw [heq]
    · have := ha _ (hmem hgt hj); rw [this] at hpj; cases hpj
theorem idxv_no (gb : Nat) (tick : Int) (A : Option Addr) (c : Nat) (xs : List S34) (w : World) (hr : Kd.C k34 w A xs.length xs) (hb : w.heap[gb]? = some (.cells #[.int .u64 tick] 23 (0, 0))) (ha : ∀ x ∈ xs, overv tick x = false) :
    Calls Try.prog 45 #[.slice A xs.length c, .func (.func 33) #[] #[.pointer (some ⟨gb, 0, none⟩)]] w fun e w' => e = .returned (.int .i64 (-1)) ∧ Below w.heap.size w w' :=
  (idxv.calls gb tick A c xs w hr hb).mono fun e w' ⟨r, h, he, hB⟩ => ⟨by rw [he, idxp_none h.out ha], hB⟩
theorem idxv_yes (gb : Nat) (tick : Int) (A : Option Addr) (c : Nat) (xs : List S34) (w : World) (hr : Kd.C k34 w A xs.length xs) (hb : w.heap[gb]? = some (.cells #[.int .u64 tick] 23 (0, 0))) {i : Nat} (hi : i < xs.length) (hp : overv tick (rd_T34 xs i) = true) (ha : ∀ x ∈ xs.take i, overv tick x = false) :
    Calls Try.prog 45 #[.slice A xs.length c, .func (.func 33) #[] #[.pointer (some ⟨gb, 0, none⟩)]] w fun e w' => e = .returned (.int .i64 (i : Int)) ∧ Below w.heap.size w w' :=
  (idxv.calls gb tick A c xs w hr hb).mono fun e w' ⟨r, h, he, hB⟩ => ⟨by rw [he, idxp_some h.out hi hp ha], hB⟩
theorem first34 (p : S34 → Bool) (xs : List S34) : (∀ x ∈ xs, p x = false) ∨ ∃ i : Nat, i < xs.length ∧ p (rd_T34 xs i) = true ∧ ∀ x ∈ xs.take i, p x = false := by
  induction xs with
  | nil => exact .inl (by simp)
  | cons a l ih =>
    cases ha : p a with
    | true => exact .inr ⟨0, by simp, by simpa [rd_T34] using ha, by simp⟩
    | false =>
      rcases ih with h | ⟨i, hi, hp, hf⟩
      · exact .inl (by intro x hx; rcases List.mem_cons.1 hx with rfl | hx; exact ha; exact h x hx)
      · refine .inr ⟨i + 1, by simpa using hi, ?_, ?_⟩
        · rw [← hp]
          have : ((i + 1 : Nat) : Int).toNat = i + 1 := by omega
          simp [rd_T34, this]
        · intro x hx
          rw [List.take_succ_cons] at hx
          rcases List.mem_cons.1 hx with rfl | hx
          · exact ha
          · exact hf x hx
theorem zeros_one {z : Array Value} (hz : ∀ v ∈ z.toList, v.oneCell' = true) (h0 : 0 < z.size) (n : Nat) : ∀ v ∈ (Builtin.zeroCells z n).toList, v.oneCell' = true := by
  intro v hv
  unfold Builtin.zeroCells at hv
  simp only [Array.toList_map, List.mem_map] at hv
  obtain ⟨i, _, rfl⟩ := hv
  have hi : i % z.size < z.size := Nat.mod_lt _ h0
  rw [getElem!_pos z _ hi]
  exact hz _ (by simp)
theorem cells34 {w : World} {base n cap g : Nat} {P : Nat → Prop} {ys : List S34} (h : Kd.R k34 34 w base P (.slice (some ⟨g, 0, none⟩) n cap) ys) (i : Nat) (hi : i < ys.length) : ∃ c : List Value, c.length = k34.sz ∧ ∀ j u, c[j]? = some u → w.cell? ⟨g, (i : Int).toNat * k34.sz + j, none⟩ = some u := by
  obtain ⟨ad, c, had, hcl, _, hcc⟩ := Kd.C_get (Kd.R_reads' h).2.2 z34 (i : Int) (by omega) (by omega)
  injection had with had
  subst had
  refine ⟨c, hcl, fun j u hj => ?_⟩
  have := hcc j u hj
  rwa [add_plain] at this
structure DelAt (p : S34 → Bool) (xs ys : List S34) (i j : Nat) : Prop where
  len : ys.length = xs.length
  ij : i < j
  jn : j ≤ xs.length
  left : ys.take i = (xs.take j).filter (fun x => !p x)
  right : ys.drop j = xs.drop j
theorem rd34_drop {xs ys : List S34} {j : Nat} (h : ys.drop j = xs.drop j) (hl : ys.length = xs.length) : rd_T34 ys j = rd_T34 xs j := by
  have := congrArg (fun l => l[0]?) h
  simp only [List.getElem?_drop, Nat.add_zero] at this
  simp [rd_T34, List.getD_eq_getElem?_getD, this]
theorem drop_succ_eq {xs ys : List S34} {j : Nat} (h : ys.drop j = xs.drop j) : ys.drop (j + 1) = xs.drop (j + 1) := by
  rw [← List.drop_drop, ← List.drop_drop, h]
theorem DelAt.skip {p : S34 → Bool} {xs ys : List S34} {i j : Nat} (h : DelAt p xs ys i j) (hj : j < xs.length) (hp : p (rd_T34 xs j) = true) : DelAt p xs ys i (j + 1) :=
  ⟨h.len, by have := h.ij; omega, hj, by rw [take_rd34 hj, List.filter_append, h.left]; simp [hp], drop_succ_eq h.right⟩
theorem DelAt.put {p : S34 → Bool} {xs ys : List S34} {i j : Nat} (h : DelAt p xs ys i j) (hj : j < xs.length) (hp : p (rd_T34 xs j) = false) : DelAt p xs (ys.set i (rd_T34 xs j)) (i + 1) (j + 1) := by
  have hi : i < ys.length := by have := h.len; have := h.ij; omega
  refine ⟨by rw [List.length_set]; exact h.len, by have := h.ij; omega, hj, ?_, ?_⟩
  · rw [take_rd34 hj, List.filter_append, ← h.left]
    have e : (ys.set i (rd_T34 xs j)).take (i + 1) = ys.take i ++ [rd_T34 xs j] := by
      rw [List.take_succ_eq_append_getElem (by rw [List.length_set]; exact hi), List.take_set, List.set_eq_of_length_le (by rw [List.length_take]; omega)]
      simp
    rw [e]; simp [hp]
  · rw [List.drop_set_of_lt (by have := h.ij; omega)]
    exact drop_succ_eq h.right
theorem DelAt.start {p : S34 → Bool} {xs : List S34} {i : Nat} (hi : i < xs.length) (hp : p (rd_T34 xs i) = true) (ha : ∀ x ∈ xs.take i, p x = false) : DelAt p xs xs i (i + 1) :=
  ⟨rfl, by omega, hi, by rw [take_rd34 hi, List.filter_append]; rw [List.filter_eq_self.2 (fun x hx => by simpa using ha x hx)]; simp [hp], rfl⟩
theorem DelAt.done {p : S34 → Bool} {xs ys : List S34} {i : Nat} (h : DelAt p xs ys i xs.length) : ys.take i = xs.filter (fun x => !p x) := by rw [h.left, List.take_length]
set_option maxHeartbeats 2000000 in
theorem deletev.calls (gb : Nat) (tick : Int) (P : Nat → Prop) (base : Nat) (u : Value) (xs : List S34) (w0 w : World) (hB0 : Below base w0 w) (hbb : base ≤ w.heap.size) (ho : Kd.R k34 34 w base P u xs) (hlen : xs.length ≤ 140737488355328) (hb : w.heap[gb]? = some (.cells #[.int .u64 tick] 23 (0, 0))) :
    Calls Try.prog 34 #[u, .func (.func 33) #[] #[.pointer (some ⟨gb, 0, none⟩)]] w fun e w' => ∃ v : Value, e = .returned v ∧ Kd.R k34 34 w' base (fun k => P k ∨ w.heap.size ≤ k) v (xs.filter (fun x => !overv tick x)) ∧ Below base w0 w' := by
  have hne := first34 (overv tick) xs
  rcases hne with hall | ⟨i0, hi0, hp0, ha0⟩
  · obtain ⟨A, c, rfl, hc, hC⟩ := Kd.R_reads ho
    rw [List.filter_eq_self.2 (fun x hx => by simp [hall x hx])]
    have HO := Aside0.mk ho
    have HC := Aside0.mk hC
    have HB := Aside0.mk hb
    have HB0 := Aside0.mk hB0
    have HA := Aside0.mk hall
    clear ho hC hb hB0 hall
    go_enter Try.func34, Try.ntmps34
    go_wp2_with (go_at_call 45; refine (idxv_no gb tick A c xs _ HC.out HB.out HA.out).mono ?_; rintro e w' ⟨rfl, hbel⟩; have HL := Aside0.mk hbel; clear hbel)
    go_ret
    exact ⟨_, rfl, Kd.R_mono (Kd.R_below HO.out HL.out) (fun _ h => .inl h), below_then HB0.out hbb HL.out⟩
  · obtain ⟨g, cap, rfl, hbg, hgl, cells, hcells⟩ := Kd.R_form ho (by omega)
    obtain ⟨A, c, he, hc, hC⟩ := Kd.R_reads ho
    injection he with he1 he2 he3
    subst he1; subst he3
    have hneb : gb ≠ g := blk_ne hb hcells (by decide)
    have hm1 : ((i0 : Int) == -1) = false := by rw [beq_eq_false_iff_ne]; omega
    have HO := Aside0.mk ho
    have HC := Aside0.mk hC
    have HB := Aside0.mk hb
    have HB0 := Aside0.mk hB0
    have HA := Aside0.mk ha0
    have HP := Aside0.mk hp0
    have HD := Aside0.mk (DelAt.start hi0 hp0 ha0)
    clear ho hC hb hB0 hcells hp0 ha0 he2
    go_enter Try.func34, Try.ntmps34
    go_wp2_with (go_at_call 45; refine (idxv_yes gb tick _ cap xs _ HC.out HB.out hi0 HP.out HA.out).mono ?_; rintro e w' ⟨rfl, hbel⟩; have HL := Aside0.mk hbel; clear hbel)
    go_loopw [5, 6] (fun v5 v6 wr => ∃ (i j : Nat) (ys : List S34), i < j ∧ j ≤ xs.length ∧ v5 = .int .i64 i ∧ v6 = .int .i64 j ∧ Aside0 (DelAt (overv tick) xs ys i j) ∧ Aside0 (Kd.R k34 34 wr base P (.slice (some ⟨g, 0, none⟩) xs.length cap) ys) ∧ Aside0 (wr.heap[gb]? = some (.cells #[.int .u64 tick] 23 (0, 0))) ∧ Aside0 (Below base w0 wr) ∧ Aside0 (w.heap.size ≤ wr.heap.size)) (fun _ v6 _ => xs.length - (intOf v6).toNat)
    case atStart => exact ⟨i0, i0 + 1, xs, by omega, by omega, rfl, by go_num, HD, ⟨Kd.R_below HO.out HL.out⟩, ⟨(HL.out.block gb (blk_lt HB.out)).trans HB.out⟩, ⟨below_then HB0.out hbb HL.out⟩, ⟨HL.out.size⟩⟩
    case round =>
      obtain ⟨i, j, ys, hij, hj, rfl, rfl, HE, HR, HX, HW, HS⟩ := hrel
      by_cases hlt : j < xs.length
      · have hy := (Kd.R_reads' HR.out).2.2
        have hyl := HE.out.len
        obtain ⟨ad, had, h0, h1, h2, h3⟩ := at_T34 hy (j : Int) (by omega) (by omega)
        injection had with had
        subst had
        rw [rd34_drop HE.out.right hyl, Int.toNat_natCast] at h0 h1 h2 h3
        rw [add_plain] at h0 h1 h2 h3
        have hgl := blk_lt HX.out
        have HX1 := Aside0.mk (blk_alloc HX.out (.cells #[.int .u64 (rd_T34 xs j).f0, .int .u64 (rd_T34 xs j).f1, .int .u64 (rd_T34 xs j).f2, .int .i64 (rd_T34 xs j).f3] 34))
        have HR1 := Aside0.mk (Kd.R_alloc HR.out (.cells #[.int .u64 (rd_T34 xs j).f0, .int .u64 (rd_T34 xs j).f1, .int .u64 (rd_T34 xs j).f2, .int .i64 (rd_T34 xs j).f3] 34))
        have HW1 := Aside0.mk (HW.out.alloc (Nat.le_trans hbb HS.out) (.cells #[.int .u64 (rd_T34 xs j).f0, .int .u64 (rd_T34 xs j).f1, .int .u64 (rd_T34 xs j).f2, .int .i64 (rd_T34 xs j).f3] 34))
        have HS1 := Aside0.mk (show w.heap.size ≤ (wr.alloc (.cells #[.int .u64 (rd_T34 xs j).f0, .int .u64 (rd_T34 xs j).f1, .int .u64 (rd_T34 xs j).f2, .int .i64 (rd_T34 xs j).f3] 34)).heap.size from by have := HS.out; simp; omega)
        have HYL := Aside0.mk hyl
        clear hy hyl
        cases hp : overv tick (rd_T34 xs j) with
        | true =>
          have HP1 := Aside0.mk hp
          clear hp
          go_wp2_with (go_at_call 33; refine (overv.calls gb tick (rd_T34 xs j) _ HX1.out).mono ?_; rw [HP1.out]; rintro e w1 ⟨rfl, hbel⟩; have HL1 := Aside0.mk hbel; clear hbel)
          go_roundw
          case rel => exact ⟨i, j + 1, ys, by omega, by omega, rfl, by go_num, ⟨HE.out.skip hlt HP1.out⟩, ⟨Kd.R_below HR1.out HL1.out⟩, ⟨(HL1.out.block gb (blk_lt HX1.out)).trans HX1.out⟩, ⟨below_then HW1.out (Nat.le_trans hbb HS1.out) HL1.out⟩, ⟨Nat.le_trans HS1.out HL1.out.size⟩⟩
          case measure => simp [intOf]; omega
        | false =>
          have HP1 := Aside0.mk hp
          clear hp
          have hil : i < xs.length := by omega
          go_wp2_with (first | (go_at_call 33; refine (overv.calls gb tick (rd_T34 xs j) _ HX1.out).mono ?_; rw [HP1.out]; rintro e w1 ⟨rfl, hbel⟩; have HL1 := Aside0.mk hbel; obtain ⟨hq1, hq2⟩ := bcell_ hbel; have HR2 := Aside0.mk (Kd.R_below HR1.out hbel); have HX2 := Aside0.mk ((hbel.block gb (blk_lt HX1.out)).trans HX1.out); have HW2 := Aside0.mk (below_then HW1.out (Nat.le_trans hbb HS1.out) hbel); have HS2 := Aside0.mk (Nat.le_trans HS1.out hbel.size); clear hbel) | ((with_reducible refine gate_ (.store 34 (.tmp 33) (.tmp 32)) rfl ?_); obtain ⟨c4, hcl, hcc⟩ := cells34 HR2.out i (by rw [HYL.out]; exact hil); ((refine Kd.R_store (w0 := w0) k34 base rfl rfl 34 (.tmp 33) (.tmp 32) rfl 34 (i : Int) 0 ys (rd_T34 xs j) (.agg #[.int .u64 (rd_T34 xs j).f0, .int .u64 (rd_T34 xs j).f1, .int .u64 (rd_T34 xs j).f2, .int .i64 (rd_T34 xs j).f3]) [.int .u64 (rd_T34 xs j).f0, .int .u64 (rd_T34 xs j).f1, .int .u64 (rd_T34 xs j).f2, .int .i64 (rd_T34 xs j).f3] c4 P (fun _ => False) rfl ?hoff rfl rfl (by kernel_rfl) ?hone HR2.out (by omega) (by omega) hcl hcc (Nat.le_refl 4) ?hM (fun _ h => h.elim) HW2.out ?_; (case hoff => simp; rfl); (case hone => simp [Value.oneCell']); (case hM => rw [List.take_zero, List.nil_append, List.drop_of_length_le (by rw [hcl]; exact Nat.le_refl _), List.append_nil]; exact k34_mkM _ _ _ _); intro w2 hR3 hW3 hg3; have HR3 := Aside0.mk hR3; have HW3 := Aside0.mk hW3; have HG3 := Aside0.mk hg3; clear hR3 hW3 hg3 hcl hcc))))
          go_roundw
          case rel => exact ⟨i + 1, j + 1, ys.set i (rd_T34 xs j), by omega, by omega, by go_num, by go_num, ⟨HE.out.put hlt HP1.out⟩, HR3, ⟨(HG3.out.block gb (blk_lt HX2.out) (by simpa using hneb)).trans HX2.out⟩, HW3, ⟨Nat.le_trans HS2.out HG3.out.size⟩⟩
          case measure => simp [intOf]; omega
      · obtain rfl : j = xs.length := by omega
        have hyl := HE.out.len
        have hxo := HR.out
        obtain ⟨_, inn, hown, _⟩ := hxo
        rcases hown.2 with ⟨he, _⟩ | ⟨g1, cap1, cur, he, hgb, hcur, hnc, hcm, hcs, hct⟩
        · cases he
        injection he with e1 e0 e2
        clear e0
        injection e1 with e1
        injection e1 with e1
        subst e1; subst e2
        have hcs : cur.size = cap * 4 := hcs
        obtain ⟨zs, hzs⟩ : ∃ zs, zs = (Builtin.zeroCells (Value.agg #[.int .u64 0, .int .u64 0, .int .u64 0, .int .i64 0] : Value).cells (xs.length - i)).toList := ⟨_, rfl⟩
        have hzl : zs.length = (xs.length - i) * 4 := by rw [hzs]; simp [Builtin.zeroCells, Value.cells]
        have hz1 : ∀ v ∈ zs, v.oneCell' = true := by
          rw [hzs]; exact zeros_one (by simp [Value.cells, Value.oneCell']) (by simp [Value.cells]) _
        have hzv : ∀ w, (zeroValue 34).run Try.prog w = .ok (Value.agg #[.int .u64 0, .int .u64 0, .int .u64 0, .int .i64 0]) w := fun _ => by kernel_rfl
        obtain ⟨cur2, hcur2⟩ : ∃ cur2, cur2 = (cur.toList.take (i * 4) ++ zs ++ cur.toList.drop (i * 4 + zs.length)).toArray := ⟨_, rfl⟩
        have hclr : ∀ ty c, (Builtin.clear_ #[22] ty #[.slice (some ⟨g, i * 4, none⟩) (xs.length - i) c]).run Try.prog wr = .ok (.tuple #[]) (wr.setRow g cur2) := fun ty c => by
          rw [hcur2]
          exact run_clear_rowK wr 22 34 ty _ Try.underlying22 hzv g (i * 4) (xs.length - i) c (by omega) cur 34 hcur zs hzs (by rw [hzl, hcs]; omega) hz1
        have hc2s : cur2.size = cur.size := by rw [hcur2]; simp only [List.size_toArray, List.length_append, List.length_take, List.length_drop, Array.length_toList (xs := cur)]; omega
        have hc2t : cur2.toList.take (i * k34.sz) = cur.toList.take (i * k34.sz) := by
          show cur2.toList.take (i * 4) = cur.toList.take (i * 4)
          rw [hcur2]
          show List.take _ (List.take _ cur.toList ++ zs ++ _) = _
          rw [List.append_assoc, List.take_append_of_le_length (by rw [List.length_take, Array.length_toList (xs := cur)]; omega), List.take_take, Nat.min_self]
        have hR4 := Aside0.mk (Kd_R_past (Kd.R_take HR.out (m := i) (by omega)) hcur hc2s hc2t)
        have hW4 := Aside0.mk (HW.out.grown (grown_setRow wr g cur2) (Nat.le_trans hbb HS.out) (fun k hk => by injection hk with hk; omega))
        have hdone := Aside0.mk HE.out.done
        have q1 : (i : Int) ≤ (xs.length : Int) := by omega
        have q2 : ¬ (cap = i) := by omega
        unfold maxLen at hcm
        clear hcur2 hc2s hc2t hcs hct hcur hzs hzl hz1 hown hyl
        go_wp2_with (at_builtin; refine wpList_clear_run _ rfl _ 22 rfl _ rfl (hclr _ _) ?_)
        go_ret
        exact ⟨_, rfl, Kd.R_mono (by rw [← hdone.out]; exact hR4.out) (fun _ h => .inl h), hW4.out⟩
def invoice_Sweep.f (k : Nat) (l0 : List (S34)) (a1 : Int) : Option ((List (S34)) × Int) := (invoice_Check.f k l0).bind fun t0 => (if t0 = 0 then ((slices_Clone_Invoice.f l0).bind fun t1 => (some (t1.filter (fun x => !overv a1 x), 0))) else (some (([] : List (S34)), t0)))
theorem invoice_Sweep.mono : ∀ a0 a1 k, LeO (invoice_Sweep.f k a0 a1) (invoice_Sweep.f (k + 1) a0 a1) := by
  intro a0 a1 k
  unfold invoice_Sweep.f
  exact LeO.bind (invoice_Check.mono _ _) (fun _ => LeO.refl _)
set_option maxHeartbeats 2000000 in
theorem invoice_Sweep.calls (k : Nat) (A0 : Option Addr) (c0 : Nat) (l0 : List (S34)) (a1 : Int) (r1 : List (S34)) (r2 : Int) (w : World) (hr0 : Kd.C k34 w A0 l0.length l0) (hc0 : l0.length ≤ c0) (h : invoice_Sweep.f k l0 a1 = some (r1, r2)) :
    Calls Try.prog 16 #[.slice A0 l0.length c0, .int .u64 a1] w fun e w' => ∃ v0_ : Value, e = .returned (.tuple #[v0_, .int .i64 r2]) ∧ Kd.R k34 34 w' w.heap.size (fun _ => True) v0_ r1 ∧ Below w.heap.size w w' := by
  obtain ⟨t0, hck, h1⟩ := Option.bind_eq_some_iff.1 h
  clear h
  have HB1 := Aside0.mk ((Below.refl w.heap.size w).alloc (Nat.le_refl _) (.cells #[.int .u64 a1] 23))
  have HX1 := Aside0.mk (heap_alloc_new w (.cells #[.int .u64 a1] 23))
  have HR1 := Aside0.mk (Kd.C_alloc hr0 (.cells #[.int .u64 a1] 23))
  have HS1 := Aside0.mk (show w.heap.size ≤ (w.alloc (.cells #[.int .u64 a1] 23)).heap.size by simp)
  have HCK := Aside0.mk hck
  have HC0 := Aside0.mk hc0
  clear hck hc0 hr0
  by_cases h0 : t0 = 0
  · rw [if_pos h0] at h1
    subst h0
    obtain ⟨t1, hcl, h2⟩ := Option.bind_eq_some_iff.1 h1
    clear h1
    have hl1 : l0.length < 4398046511104 := by
      unfold slices_Clone_Invoice.f at hcl
      by_cases hq : l0.length < 4398046511104
      · exact hq
      · rw [if_neg hq] at hcl; cases hcl
    have ht1 : t1 = l0 := by
      unfold slices_Clone_Invoice.f at hcl
      rw [if_pos hl1] at hcl
      exact (Option.some.inj hcl).symm
    subst ht1
    injection h2 with h2
    injection h2 with e1 e2
    subst e1; subst e2
    have HCL := Aside0.mk hcl
    have HL := Aside0.mk (show t1.length ≤ 140737488355328 by omega)
    clear hcl hl1
    go_enter Try.func16, Try.ntmps16
    go_wp2_with (first | (go_at_call 17; refine (invoice_Check.calls k A0 c0 t1 0 _ HR1.out HC0.out HCK.out).mono ?_; rintro e w2 ⟨rfl, hbel⟩; have HB2 := Aside0.mk hbel; clear hbel) | (go_at_call 28; refine (slices_Clone_Invoice.calls A0 c0 t1 t1 _ (Kd.C_below HR1.out HB2.out) HC0.out HCL.out).mono ?_; rintro e w3 ⟨v, rfl, hR3, hbel⟩; have HR3 := Aside0.mk (Kd.R_lower (base' := w.heap.size) hR3 (Nat.le_trans HS1.out HB2.out.size)); have HB3 := Aside0.mk hbel; have HX3 := Aside0.mk ((hbel.block _ (blk_lt ((HB2.out.block _ (blk_lt HX1.out)).trans HX1.out))).trans ((HB2.out.block _ (blk_lt HX1.out)).trans HX1.out)); have HW3 := Aside0.mk (below_then (below_then HB1.out HS1.out HB2.out) (Nat.le_trans HS1.out HB2.out.size) hbel); clear hbel hR3) | (go_at_call 34; refine (deletev.calls w.heap.size a1 (fun _ => True) w.heap.size v t1 w _ HW3.out HW3.out.size HR3.out HL.out HX3.out).mono ?_; rintro e w4 ⟨v4, rfl, hR4, hbel⟩; have HR4 := Aside0.mk (Kd.R_mono (ok' := fun _ => True) hR4 (fun _ _ => trivial)); have HB4 := Aside0.mk hbel; clear hbel hR4))
    go_ret2
    exact ⟨_, rfl, HR4.out, HB4.out⟩
  · rw [if_neg h0] at h1
    injection h1 with h1
    injection h1 with e1 e2
    subst e1; subst e2
    have hb0 : (t0 == 0) = false := by simpa using h0
    have hb1 : (t0 != 0) = true := by simpa using h0
    clear h0
    go_enter Try.func16, Try.ntmps16
    go_wp2_with (go_at_call 17; refine (invoice_Check.calls k A0 c0 l0 t0 _ HR1.out HC0.out HCK.out).mono ?_; rintro e w2 ⟨rfl, hbel⟩; have HB2 := Aside0.mk hbel; clear hbel)
    go_ret2
    exact ⟨_, rfl, Kd.R_nil _ _ _ _ _, below_then HB1.out HS1.out HB2.out⟩

end Go.Proofs.Ytlpdgagohafmaaa.P
