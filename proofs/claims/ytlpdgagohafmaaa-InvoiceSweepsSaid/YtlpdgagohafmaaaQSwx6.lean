-- written by a program of this session (wip/print)
import Derived.Test.YtlpdgagohafmaaaQSwx0
import Derived.Test.YtlpdgagohafmaaaQSwx3
import Derived.Test.YtlpdgagohafmaaaQSwx4
import Derived.Test.YtlpdgagohafmaaaQSwx5
namespace Go.Proofs.Ytlpdgagohafmaaa.P
open Go.RowKit Go.Proofs.YtlpdgagohafmaaaW.PrintWords Go.Proofs.YtlpdgagohafmaaaW.PrintLast Go.Proofs.YtlpdgagohafmaaaW.PrintMore
attribute [local go_sem] max2_int min2_int max_two min_two max_three min_three max_four min_four   -- for this text's walks alone
set_option linter.unusedVariables false
set_option linter.unusedSimpArgs false

/-! ### damsonlaw12_InvoiceSweeps: function 7 -/
def damsonlaw12_InvoiceSweeps.j0 : Nat → Int → Int → Int → Int → Bool → Option (Bool)
  | 0, _, _, _, _, _ => none
  | k + 1, x11, x12, x13, x14, x63 => if x63 = true then (some false) else (if x12 = 0 then (if x11 = 4 then (some (x14 == 5)) else (if x11 = 3 then (some (x14 == 5)) else (if x14 = 0 then (some (x11 == x13)) else (some false)))) else (some (x14 == 5)))
def damsonlaw12_InvoiceSweeps.f (k : Nat) (l0 : List (S34)) (a1 : Int) (a2 : Int) : Option (Bool) := (damsonlaw12_live.f k).bind fun t158 => (if t158 = true then ((damsonlaw12_few.f l0).bind fun t159 => (if t159 = true then ((invoice_Sweep.f k l0 a1).bind fun bt160 => (if bt160.2 = 0 then ((invoice_Sweep.f k bt160.1 a1).bind fun bt164 => ((invoice_State.f k l0 a2 a1).bind fun bt168 => ((invoice_State.f k bt160.1 a2 a1).bind fun bt170 => (if bt164.2 = 0 then ((invoice_Same.f k bt160.1 bt164.1).bind fun t172 => (if t172 = true then ((invoice_Check.f k bt160.1).bind fun t173 => (damsonlaw12_InvoiceSweeps.j0 k bt168.1 bt168.2 bt170.1 bt170.2 (t173 != 0))) else (damsonlaw12_InvoiceSweeps.j0 k bt168.1 bt168.2 bt170.1 bt170.2 true))) else (damsonlaw12_InvoiceSweeps.j0 k bt168.1 bt168.2 bt170.1 bt170.2 true))))) else (some ((bt160.1.length : Int) == 0)))) else (some true))) else (some false))
theorem damsonlaw12_InvoiceSweeps.mono_l : ∀ k, (∀ y0 y1 y2 y3 y4, LeO (damsonlaw12_InvoiceSweeps.j0 k y0 y1 y2 y3 y4) (damsonlaw12_InvoiceSweeps.j0 (k + 1) y0 y1 y2 y3 y4))
  | 0 => fun _ _ _ _ _ r h => by simp [damsonlaw12_InvoiceSweeps.j0] at h
  | k + 1 => by
    have ih0 := damsonlaw12_InvoiceSweeps.mono_l k
    · intro y0 y1 y2 y3 y4
      unfold damsonlaw12_InvoiceSweeps.j0
      repeat' first
      | (with_reducible exact ih0 _ _ _ _ _)
      | (with_reducible exact damsonlaw12_live.mono _)
      | (with_reducible exact invoice_Check.mono _ _)
      | (with_reducible exact invoice_Same.mono _ _ _)
      | (with_reducible exact invoice_State.mono _ _ _ _)
      | (with_reducible exact invoice_Sweep.mono _ _ _)
      | (with_reducible exact LeO.refl _)
      | (with_reducible exact LeO.none _)
      | (with_reducible refine LeO.ite ?_ ?_)
      | (with_reducible refine LeO.bind ?_ (fun _ => ?_))
      | exact ih0 _ _ _ _ _
      | exact damsonlaw12_live.mono _
      | exact invoice_Check.mono _ _
      | exact invoice_Same.mono _ _ _
      | exact invoice_State.mono _ _ _ _
      | exact invoice_Sweep.mono _ _ _
      | exact LeO.none _
      | refine LeO.ite ?_ ?_
      | refine LeO.bind ?_ (fun _ => ?_)
theorem damsonlaw12_InvoiceSweeps.mono : ∀ a0 a1 a2 k, LeO (damsonlaw12_InvoiceSweeps.f k a0 a1 a2) (damsonlaw12_InvoiceSweeps.f (k + 1) a0 a1 a2) := by
  intro a0 a1 a2 k
  have ih0 := damsonlaw12_InvoiceSweeps.mono_l k
  unfold damsonlaw12_InvoiceSweeps.f
  repeat' first
      | (with_reducible exact ih0 _ _ _ _ _)
      | (with_reducible exact damsonlaw12_live.mono _)
      | (with_reducible exact invoice_Check.mono _ _)
      | (with_reducible exact invoice_Same.mono _ _ _)
      | (with_reducible exact invoice_State.mono _ _ _ _)
      | (with_reducible exact invoice_Sweep.mono _ _ _)
      | (with_reducible exact LeO.refl _)
      | (with_reducible exact LeO.none _)
      | (with_reducible refine LeO.ite ?_ ?_)
      | (with_reducible refine LeO.bind ?_ (fun _ => ?_))
      | exact ih0 _ _ _ _ _
      | exact damsonlaw12_live.mono _
      | exact invoice_Check.mono _ _
      | exact invoice_Same.mono _ _ _
      | exact invoice_State.mono _ _ _ _
      | exact invoice_Sweep.mono _ _ _
      | exact LeO.none _
      | refine LeO.ite ?_ ?_
      | refine LeO.bind ?_ (fun _ => ?_)
set_option maxHeartbeats 8000000 in
set_option maxRecDepth 100000 in
theorem damsonlaw12_InvoiceSweeps.calls (k : Nat) (A0 : Option Addr) (c0 : Nat) (l0 : List (S34)) (a1 : Int) (a2 : Int) (r : Bool) (w : World) (hr0 : Kd.C k34 w A0 l0.length l0) (hc0 : l0.length ≤ c0) (h : damsonlaw12_InvoiceSweeps.f k l0 a1 a2 = some r) :
    Calls Try.prog 7 #[.slice A0 l0.length c0, .int .u64 a1, .int .u64 a2] w fun e w' => e = .returned (.bool r) ∧ Below w.heap.size w w' := by
  have HR0 := Aside0.mk hr0
  have HC0 := Aside0.mk hc0
  clear hr0 hc0
  have HB := Aside0.mk (Below.refl w.heap.size w)
  have H : ((damsonlaw12_live.f k).bind fun t158 => (if t158 = true then ((damsonlaw12_few.f l0).bind fun t159 => (if t159 = true then ((invoice_Sweep.f k l0 a1).bind fun bt160 => (if bt160.2 = 0 then ((invoice_Sweep.f k bt160.1 a1).bind fun bt164 => ((invoice_State.f k l0 a2 a1).bind fun bt168 => ((invoice_State.f k bt160.1 a2 a1).bind fun bt170 => (if bt164.2 = 0 then ((invoice_Same.f k bt160.1 bt164.1).bind fun t172 => (if t172 = true then ((invoice_Check.f k bt160.1).bind fun t173 => (damsonlaw12_InvoiceSweeps.j0 k bt168.1 bt168.2 bt170.1 bt170.2 (t173 != 0))) else (damsonlaw12_InvoiceSweeps.j0 k bt168.1 bt168.2 bt170.1 bt170.2 true))) else (damsonlaw12_InvoiceSweeps.j0 k bt168.1 bt168.2 bt170.1 bt170.2 true))))) else (some ((bt160.1.length : Int) == 0)))) else (some true))) else (some false))) = some r := h
  clear h
  replace H := Option.bind_eq_some_iff.mp H
  obtain ⟨t158, A40, H⟩ := H
  replace H : (if t158 = true then ((damsonlaw12_few.f l0).bind fun t159 => (if t159 = true then ((invoice_Sweep.f k l0 a1).bind fun bt160 => (if bt160.2 = 0 then ((invoice_Sweep.f k bt160.1 a1).bind fun bt164 => ((invoice_State.f k l0 a2 a1).bind fun bt168 => ((invoice_State.f k bt160.1 a2 a1).bind fun bt170 => (if bt164.2 = 0 then ((invoice_Same.f k bt160.1 bt164.1).bind fun t172 => (if t172 = true then ((invoice_Check.f k bt160.1).bind fun t173 => (damsonlaw12_InvoiceSweeps.j0 k bt168.1 bt168.2 bt170.1 bt170.2 (t173 != 0))) else (damsonlaw12_InvoiceSweeps.j0 k bt168.1 bt168.2 bt170.1 bt170.2 true))) else (damsonlaw12_InvoiceSweeps.j0 k bt168.1 bt168.2 bt170.1 bt170.2 true))))) else (some ((bt160.1.length : Int) == 0)))) else (some true))) else (some false)) = some r := H
  have A4 := Aside0.mk A40
  clear A40
  by_cases c5 : t158 = true
  · subst c5
    have H1 : ((damsonlaw12_few.f l0).bind fun t159 => (if t159 = true then ((invoice_Sweep.f k l0 a1).bind fun bt160 => (if bt160.2 = 0 then ((invoice_Sweep.f k bt160.1 a1).bind fun bt164 => ((invoice_State.f k l0 a2 a1).bind fun bt168 => ((invoice_State.f k bt160.1 a2 a1).bind fun bt170 => (if bt164.2 = 0 then ((invoice_Same.f k bt160.1 bt164.1).bind fun t172 => (if t172 = true then ((invoice_Check.f k bt160.1).bind fun t173 => (damsonlaw12_InvoiceSweeps.j0 k bt168.1 bt168.2 bt170.1 bt170.2 (t173 != 0))) else (damsonlaw12_InvoiceSweeps.j0 k bt168.1 bt168.2 bt170.1 bt170.2 true))) else (damsonlaw12_InvoiceSweeps.j0 k bt168.1 bt168.2 bt170.1 bt170.2 true))))) else (some ((bt160.1.length : Int) == 0)))) else (some true))) = some r := by rw [if_pos rfl] at H; exact H
    clear H
    have H := H1
    clear H1
    replace H := Option.bind_eq_some_iff.mp H
    obtain ⟨t159, A60, H⟩ := H
    replace H : (if t159 = true then ((invoice_Sweep.f k l0 a1).bind fun bt160 => (if bt160.2 = 0 then ((invoice_Sweep.f k bt160.1 a1).bind fun bt164 => ((invoice_State.f k l0 a2 a1).bind fun bt168 => ((invoice_State.f k bt160.1 a2 a1).bind fun bt170 => (if bt164.2 = 0 then ((invoice_Same.f k bt160.1 bt164.1).bind fun t172 => (if t172 = true then ((invoice_Check.f k bt160.1).bind fun t173 => (damsonlaw12_InvoiceSweeps.j0 k bt168.1 bt168.2 bt170.1 bt170.2 (t173 != 0))) else (damsonlaw12_InvoiceSweeps.j0 k bt168.1 bt168.2 bt170.1 bt170.2 true))) else (damsonlaw12_InvoiceSweeps.j0 k bt168.1 bt168.2 bt170.1 bt170.2 true))))) else (some ((bt160.1.length : Int) == 0)))) else (some true)) = some r := H
    have A6 := Aside0.mk A60
    clear A60
    by_cases c7 : t159 = true
    · subst c7
      have H1 : ((invoice_Sweep.f k l0 a1).bind fun bt160 => (if bt160.2 = 0 then ((invoice_Sweep.f k bt160.1 a1).bind fun bt164 => ((invoice_State.f k l0 a2 a1).bind fun bt168 => ((invoice_State.f k bt160.1 a2 a1).bind fun bt170 => (if bt164.2 = 0 then ((invoice_Same.f k bt160.1 bt164.1).bind fun t172 => (if t172 = true then ((invoice_Check.f k bt160.1).bind fun t173 => (damsonlaw12_InvoiceSweeps.j0 k bt168.1 bt168.2 bt170.1 bt170.2 (t173 != 0))) else (damsonlaw12_InvoiceSweeps.j0 k bt168.1 bt168.2 bt170.1 bt170.2 true))) else (damsonlaw12_InvoiceSweeps.j0 k bt168.1 bt168.2 bt170.1 bt170.2 true))))) else (some ((bt160.1.length : Int) == 0)))) = some r := by rw [if_pos rfl] at H; exact H
      clear H
      have H := H1
      clear H1
      replace H := Option.bind_eq_some_iff.mp H
      obtain ⟨⟨t160, t161⟩, A80, H⟩ := H
      replace H : (if t161 = 0 then ((invoice_Sweep.f k t160 a1).bind fun bt164 => ((invoice_State.f k l0 a2 a1).bind fun bt168 => ((invoice_State.f k t160 a2 a1).bind fun bt170 => (if bt164.2 = 0 then ((invoice_Same.f k t160 bt164.1).bind fun t172 => (if t172 = true then ((invoice_Check.f k t160).bind fun t173 => (damsonlaw12_InvoiceSweeps.j0 k bt168.1 bt168.2 bt170.1 bt170.2 (t173 != 0))) else (damsonlaw12_InvoiceSweeps.j0 k bt168.1 bt168.2 bt170.1 bt170.2 true))) else (damsonlaw12_InvoiceSweeps.j0 k bt168.1 bt168.2 bt170.1 bt170.2 true))))) else (some ((t160.length : Int) == 0))) = some r := H
      have A8 := Aside0.mk A80
      clear A80
      by_cases c9 : t161 = 0
      · rw [if_pos c9] at H
        have c9b0 : (t161 == 0) = true := beq_iff_eq.mpr c9
        have c9b1 : (t161 != 0) = false := bne_eq_false_iff_eq.mpr c9
        clear c9
        replace H := Option.bind_eq_some_iff.mp H
        obtain ⟨⟨t164, t165⟩, A100, H⟩ := H
        replace H : ((invoice_State.f k l0 a2 a1).bind fun bt168 => ((invoice_State.f k t160 a2 a1).bind fun bt170 => (if t165 = 0 then ((invoice_Same.f k t160 t164).bind fun t172 => (if t172 = true then ((invoice_Check.f k t160).bind fun t173 => (damsonlaw12_InvoiceSweeps.j0 k bt168.1 bt168.2 bt170.1 bt170.2 (t173 != 0))) else (damsonlaw12_InvoiceSweeps.j0 k bt168.1 bt168.2 bt170.1 bt170.2 true))) else (damsonlaw12_InvoiceSweeps.j0 k bt168.1 bt168.2 bt170.1 bt170.2 true)))) = some r := H
        have A10 := Aside0.mk A100
        clear A100
        replace H := Option.bind_eq_some_iff.mp H
        obtain ⟨⟨t168, t169⟩, A110, H⟩ := H
        replace H : ((invoice_State.f k t160 a2 a1).bind fun bt170 => (if t165 = 0 then ((invoice_Same.f k t160 t164).bind fun t172 => (if t172 = true then ((invoice_Check.f k t160).bind fun t173 => (damsonlaw12_InvoiceSweeps.j0 k t168 t169 bt170.1 bt170.2 (t173 != 0))) else (damsonlaw12_InvoiceSweeps.j0 k t168 t169 bt170.1 bt170.2 true))) else (damsonlaw12_InvoiceSweeps.j0 k t168 t169 bt170.1 bt170.2 true))) = some r := H
        have A11 := Aside0.mk A110
        clear A110
        replace H := Option.bind_eq_some_iff.mp H
        obtain ⟨⟨t170, t171⟩, A120, H⟩ := H
        replace H : (if t165 = 0 then ((invoice_Same.f k t160 t164).bind fun t172 => (if t172 = true then ((invoice_Check.f k t160).bind fun t173 => (damsonlaw12_InvoiceSweeps.j0 k t168 t169 t170 t171 (t173 != 0))) else (damsonlaw12_InvoiceSweeps.j0 k t168 t169 t170 t171 true))) else (damsonlaw12_InvoiceSweeps.j0 k t168 t169 t170 t171 true)) = some r := H
        have A12 := Aside0.mk A120
        clear A120
        have HC13 := Aside0.mk H
        clear H
        go_enter Try.func7, Try.ntmps7
        go_upto_region 11 with (first | ((with_reducible refine gate_callee (f := 9) rfl ?_); refine goesL_ (some 15) rfl rfl Try.func9 (by kernel_rfl) rfl #[] rfl (by (try simp only [List.map_toArray, List.map_cons, List.map_nil]); first | done | rfl | (simp only [List.length_drop, List.length_take]; rfl)) ?_; (with_reducible refine (damsonlaw12_live.calls k  true _ A4.out).mono ?_); rintro e w14 ⟨rfl, hb⟩; refine ⟨_, rfl, ?_⟩; have n0_ := Aside0.mk (below_step (belN HB) hb); clear HB; have HB := n0_; clear n0_; (try clear hb); (try clear hb2); (try clear hk); (try clear hi)) | ((with_reducible refine gate_callee (f := 10) rfl ?_); refine goesL_ (some 18) rfl rfl Try.func10 (by kernel_rfl) rfl #[.slice A0 l0.length c0] rfl (by (try simp only [List.map_toArray, List.map_cons, List.map_nil]); first | done | rfl | (simp only [List.length_drop, List.length_take]; rfl)) ?_; (with_reducible refine (damsonlaw12_few.calls _ _ l0 true _ ?side1 ?side2 A6.out).mono ?_); (case side1 => repeat (first | exact (Kd.C_below HR0.out HB.out) | (with_reducible refine Kd.C_alloc ?_ _) | (with_reducible refine Kd.C_drewN ?_ _) | (with_reducible refine Kd.C_drew ?_))); (case side2 => exact HC0.out); rintro e w' ⟨rfl, ⟨nd, rfl⟩⟩; refine ⟨_, rfl, ?_⟩) | ((with_reducible refine gate_callee (f := 16) rfl ?_); refine goesL_ (some 23) rfl rfl Try.func16 (by kernel_rfl) rfl #[.slice A0 l0.length c0, .int .u64 a1] rfl (by (try simp only [List.map_toArray, List.map_cons, List.map_nil]); first | done | rfl | (simp only [List.length_drop, List.length_take]; rfl)) ?_; (with_reducible refine (invoice_Sweep.calls k _ _ l0 a1 t160 t161 _ ?side1 ?side2 A8.out).mono ?_); (case side1 => repeat (first | exact (Kd.C_below HR0.out (belN HB)) | (with_reducible refine Kd.C_alloc ?_ _) | (with_reducible refine Kd.C_drewN ?_ _) | (with_reducible refine Kd.C_drew ?_))); (case side2 => exact HC0.out); rintro e w15 ⟨v162, rfl, ho0, hb⟩; refine ⟨_, rfl, ?_⟩; have n0_ := Aside0.mk (Kd.R_lower ho0 (below_size (belN HB))); have n1_ := Aside0.mk (below_step (belN HB) hb); clear HB; have HO163 := n0_; have HB := n1_; clear n0_ n1_; (try clear hb); (try clear hb2); (try clear hk); (try clear hi); (try clear ho0); obtain ⟨Ao16, co16, eo16⟩ := Kd.R_slice HO163.out; subst eo16) | ((with_reducible refine gate_callee (f := 16) rfl ?_); refine goesL_ (some 34) rfl rfl Try.func16 (by kernel_rfl) rfl #[.slice Ao16 t160.length co16, .int .u64 a1] rfl (by (try simp only [List.map_toArray, List.map_cons, List.map_nil]); first | done | rfl | (simp only [List.length_drop, List.length_take]; rfl)) ?_; (with_reducible refine (invoice_Sweep.calls k _ _ t160 a1 t164 t165 _ ?side1 ?side2 A10.out).mono ?_); (case side1 => exact Kd.CN (Kd.R_reads' HO163.out).2.2); (case side2 => exact (Kd.R_reads' HO163.out).2.1); rintro e w17 ⟨v166, rfl, ho0, hb⟩; refine ⟨_, rfl, ?_⟩; have n0_ := Aside0.mk (Kd.R_elder' (Kd.RN HO163) (Kd.R_base ho0) hb); have n1_ := Aside0.mk (Kd.R_lower (Kd.R_new' ho0 (Kd.R_lt (Kd.RN HO163))) (below_size (belN HB))); have n2_ := Aside0.mk (below_step (belN HB) hb); clear HO163; clear HB; have HO163 := n0_; have HO167 := n1_; have HB := n2_; clear n0_ n1_ n2_; (try clear hb); (try clear hb2); (try clear hk); (try clear hi); (try clear ho0)) | ((with_reducible refine gate_callee (f := 12) rfl ?_); refine goesL_ (some 41) rfl rfl Try.func12 (by kernel_rfl) rfl #[.slice A0 l0.length c0, .int .u64 a2, .int .u64 a1] rfl (by (try simp only [List.map_toArray, List.map_cons, List.map_nil]); first | done | rfl | (simp only [List.length_drop, List.length_take]; rfl)) ?_; (with_reducible refine (invoice_State.calls k _ _ l0 a2 a1 t168 t169 _ ?side1 ?side2 A11.out).mono ?_); (case side1 => repeat (first | exact (Kd.C_below HR0.out HB.out) | (with_reducible refine Kd.C_alloc ?_ _) | (with_reducible refine Kd.C_drewN ?_ _) | (with_reducible refine Kd.C_drew ?_))); (case side2 => exact HC0.out); rintro e w18 ⟨rfl, hb⟩; refine ⟨_, rfl, ?_⟩; have n0_ := Aside0.mk (Kd.R_below (Kd.RN HO163) hb); have n1_ := Aside0.mk (Kd.R_below (Kd.RN HO167) hb); have n2_ := Aside0.mk (below_step (belN HB) hb); clear HO163; clear HO167; clear HB; have HO163 := n0_; have HO167 := n1_; have HB := n2_; clear n0_ n1_ n2_; (try clear hb); (try clear hb2); (try clear hk); (try clear hi)) | ((with_reducible refine gate_callee (f := 12) rfl ?_); refine goesL_ (some 48) rfl rfl Try.func12 (by kernel_rfl) rfl #[.slice Ao16 t160.length co16, .int .u64 a2, .int .u64 a1] rfl (by (try simp only [List.map_toArray, List.map_cons, List.map_nil]); first | done | rfl | (simp only [List.length_drop, List.length_take]; rfl)) ?_; (with_reducible refine (invoice_State.calls k _ _ t160 a2 a1 t170 t171 _ ?side1 ?side2 A12.out).mono ?_); (case side1 => exact Kd.CN (Kd.R_reads' HO163.out).2.2); (case side2 => exact (Kd.R_reads' HO163.out).2.1); rintro e w19 ⟨rfl, hb⟩; refine ⟨_, rfl, ?_⟩; have n0_ := Aside0.mk (Kd.R_below (Kd.RN HO163) hb); have n1_ := Aside0.mk (Kd.R_below (Kd.RN HO167) hb); have n2_ := Aside0.mk (below_step (belN HB) hb); clear HO163; clear HO167; clear HB; have HO163 := n0_; have HO167 := n1_; have HB := n2_; clear n0_ n1_ n2_; (try clear hb); (try clear hb2); (try clear hk); (try clear hi)))
        (try simp only [Act.put, List.setIfInBounds_toArray, List.set_cons_zero, List.set_cons_succ])
        go_cut [63] (fun v63 wc => ∃ (kq : Nat) (x63_12 : Bool), v63 = .bool x63_12 ∧ Aside0 (damsonlaw12_InvoiceSweeps.j0 kq t168 t169 t170 t171 x63_12 = some r) ∧ Aside0 (kq ≤ k) ∧ Aside0 (Below w.heap.size w wc))
        case first =>
          have H := HC13.out
          clear HC13
          by_cases c20 : t165 = 0
          · rw [if_pos c20] at H
            have c20b0 : (t165 == 0) = true := beq_iff_eq.mpr c20
            have c20b1 : (t165 != 0) = false := bne_eq_false_iff_eq.mpr c20
            clear c20
            (first | rw [c20b0] | (simp only [i64_w, i32_w]; rw [c20b0]) | skip)
            replace H := Option.bind_eq_some_iff.mp H
            obtain ⟨t172, A210, H⟩ := H
            replace H : (if t172 = true then ((invoice_Check.f k t160).bind fun t173 => (damsonlaw12_InvoiceSweeps.j0 k t168 t169 t170 t171 (t173 != 0))) else (damsonlaw12_InvoiceSweeps.j0 k t168 t169 t170 t171 true)) = some r := H
            have A21 := Aside0.mk A210
            clear A210
            by_cases c22 : t172 = true
            · subst c22
              have H1 : ((invoice_Check.f k t160).bind fun t173 => (damsonlaw12_InvoiceSweeps.j0 k t168 t169 t170 t171 (t173 != 0))) = some r := by rw [if_pos rfl] at H; exact H
              clear H
              have H := H1
              clear H1
              replace H := Option.bind_eq_some_iff.mp H
              obtain ⟨t173, A230, H⟩ := H
              replace H : (damsonlaw12_InvoiceSweeps.j0 k t168 t169 t170 t171 (t173 != 0)) = some r := H
              have A23 := Aside0.mk A230
              clear A230
              have H' := Aside0.mk H
              clear H
              obtain ⟨Ao24, co24, eo24⟩ := Kd.R_slice HO167.out
              subst eo24
              go_wp2_with (first | (go_at_call 13; (with_reducible refine (invoice_Same.calls k _ _ t160 _ _ t164 true _ ?side1 ?side2 ?side3 ?side4 A21.out).mono ?_); (case side1 => exact Kd.CN (Kd.R_reads' HO163.out).2.2); (case side2 => exact (Kd.R_reads' HO163.out).2.1); (case side3 => exact Kd.CN (Kd.R_reads' HO167.out).2.2); (case side4 => exact (Kd.R_reads' HO167.out).2.1); rintro e w25 ⟨rfl, hb⟩; have n0_ := Aside0.mk (Kd.R_below (Kd.RN HO163) hb); have n1_ := Aside0.mk (Kd.R_below (Kd.RN HO167) hb); have n2_ := Aside0.mk (below_step (belN HB) hb); clear HO163; clear HO167; clear HB; have HO163 := n0_; have HO167 := n1_; have HB := n2_; clear n0_ n1_ n2_; (try clear hb); (try clear hb2); (try clear hk); (try clear hi)) | (go_at_call 17; (with_reducible refine (invoice_Check.calls k _ _ t160 t173 _ ?side1 ?side2 A23.out).mono ?_); (case side1 => exact Kd.CN (Kd.R_reads' HO163.out).2.2); (case side2 => exact (Kd.R_reads' HO163.out).2.1); rintro e w26 ⟨rfl, hb⟩; have n0_ := Aside0.mk (Kd.R_below (Kd.RN HO163) hb); have n1_ := Aside0.mk (Kd.R_below (Kd.RN HO167) hb); have n2_ := Aside0.mk (below_step (belN HB) hb); clear HO163; clear HO167; clear HB; have HO163 := n0_; have HO167 := n1_; have HB := n2_; clear n0_ n1_ n2_; (try clear hb); (try clear hb2); (try clear hk); (try clear hi)))
              go_meet
              case rel => exact ⟨_, ((t173 != 0)), (by first | rfl | (simp; done) | (simp [*]; done)), H', ⟨by first | omega | exact Nat.le_refl _⟩, ⟨by repeat (first | (with_reducible first | exact HB.out | apply below_alloc | apply pw_below_drewN | apply below_drew1) | exact HB.out)⟩⟩
            · replace c22 := Bool.eq_false_iff.mpr c22
              subst c22
              have H1 : (damsonlaw12_InvoiceSweeps.j0 k t168 t169 t170 t171 true) = some r := by rw [if_neg (show ¬ (false = true) by decide)] at H; exact H
              clear H
              have H := H1
              clear H1
              have H' := Aside0.mk H
              clear H
              obtain ⟨Ao27, co27, eo27⟩ := Kd.R_slice HO167.out
              subst eo27
              go_wp2_with (first | (go_at_call 13; (with_reducible refine (invoice_Same.calls k _ _ t160 _ _ t164 false _ ?side1 ?side2 ?side3 ?side4 A21.out).mono ?_); (case side1 => exact Kd.CN (Kd.R_reads' HO163.out).2.2); (case side2 => exact (Kd.R_reads' HO163.out).2.1); (case side3 => exact Kd.CN (Kd.R_reads' HO167.out).2.2); (case side4 => exact (Kd.R_reads' HO167.out).2.1); rintro e w28 ⟨rfl, hb⟩; have n0_ := Aside0.mk (Kd.R_below (Kd.RN HO163) hb); have n1_ := Aside0.mk (Kd.R_below (Kd.RN HO167) hb); have n2_ := Aside0.mk (below_step (belN HB) hb); clear HO163; clear HO167; clear HB; have HO163 := n0_; have HO167 := n1_; have HB := n2_; clear n0_ n1_ n2_; (try clear hb); (try clear hb2); (try clear hk); (try clear hi)))
              go_meet
              case rel => exact ⟨_, (true), (by first | rfl | (simp; done) | (simp [*]; done)), H', ⟨by first | omega | exact Nat.le_refl _⟩, ⟨by repeat (first | (with_reducible first | exact HB.out | apply below_alloc | apply pw_below_drewN | apply below_drew1) | exact HB.out)⟩⟩
          · rw [if_neg c20] at H
            have c20b0 : (t165 == 0) = false := beq_eq_false_iff_ne.mpr c20
            have c20b1 : (t165 != 0) = true := bne_iff_ne.mpr c20
            (first | rw [c20b0] | (simp only [i64_w, i32_w]; rw [c20b0]) | skip)
            have H' := Aside0.mk H
            clear H
            go_wp2
            go_meet
            case rel => exact ⟨_, (true), (by first | rfl | (simp; done) | (simp [*]; done)), H', ⟨by first | omega | exact Nat.le_refl _⟩, ⟨by repeat (first | (with_reducible first | exact HB.out | apply below_alloc | apply pw_below_drewN | apply below_drew1) | exact HB.out)⟩⟩
        case rest =>
          clear HC13
          try clear c1
          try clear c2
          try clear p2
          try clear c5
          try clear c7
          try clear c9
          try clear c9b0
          try clear c9b1
          try clear c10
          try clear c12
          try clear c16
          try clear c20
          try clear c20b0
          try clear c20b1
          try clear c22
          obtain ⟨kq, x63_12, rfl, HA, HJ12, HB⟩ := hcut
          cases kq with
          | zero => exact absurd HA.out (by simp [damsonlaw12_InvoiceSweeps.j0])
          | succ kj12 =>
            have H := HA.out
            clear HA
            simp only [damsonlaw12_InvoiceSweeps.j0] at H
            by_cases c29 : x63_12 = true
            · subst c29
              have H1 : (some false) = some r := by rw [if_pos rfl] at H; exact H
              clear H
              have H := H1
              clear H1
              obtain rfl := Option.some.inj H
              go_wp2
              go_ret
              exact ⟨by first | rfl | (simp [errW_none, errW_some] <;> rfl) | (simp [*, errW_none, errW_some] <;> rfl), by repeat (first | (with_reducible first | exact HB.out | apply below_alloc | apply pw_below_drewN | apply below_drew1) | exact HB.out)⟩
            · replace c29 := Bool.eq_false_iff.mpr c29
              subst c29
              have H1 : (if t169 = 0 then (if t168 = 4 then (some (t171 == 5)) else (if t168 = 3 then (some (t171 == 5)) else (if t171 = 0 then (some (t168 == t170)) else (some false)))) else (some (t171 == 5))) = some r := by rw [if_neg (show ¬ (false = true) by decide)] at H; exact H
              clear H
              have H := H1
              clear H1
              by_cases c30 : t169 = 0
              · rw [if_pos c30] at H
                have c30b0 : (t169 == 0) = true := beq_iff_eq.mpr c30
                have c30b1 : (t169 != 0) = false := bne_eq_false_iff_eq.mpr c30
                clear c30
                by_cases c31 : t168 = 4
                · rw [if_pos c31] at H
                  have c31b0 : (t168 == 4) = true := beq_iff_eq.mpr c31
                  have c31b1 : (t168 != 4) = false := bne_eq_false_iff_eq.mpr c31
                  clear c31
                  obtain rfl := Option.some.inj H
                  go_wp2
                  go_ret
                  exact ⟨by first | rfl | (simp [errW_none, errW_some] <;> rfl) | (simp [*, errW_none, errW_some] <;> rfl), by repeat (first | (with_reducible first | exact HB.out | apply below_alloc | apply pw_below_drewN | apply below_drew1) | exact HB.out)⟩
                · rw [if_neg c31] at H
                  have c31b0 : (t168 == 4) = false := beq_eq_false_iff_ne.mpr c31
                  have c31b1 : (t168 != 4) = true := bne_iff_ne.mpr c31
                  by_cases c32 : t168 = 3
                  · rw [if_pos c32] at H
                    have c32b0 : (t168 == 3) = true := beq_iff_eq.mpr c32
                    have c32b1 : (t168 != 3) = false := bne_eq_false_iff_eq.mpr c32
                    clear c32
                    obtain rfl := Option.some.inj H
                    go_wp2
                    go_ret
                    exact ⟨by first | rfl | (simp [errW_none, errW_some] <;> rfl) | (simp [*, errW_none, errW_some] <;> rfl), by repeat (first | (with_reducible first | exact HB.out | apply below_alloc | apply pw_below_drewN | apply below_drew1) | exact HB.out)⟩
                  · rw [if_neg c32] at H
                    have c32b0 : (t168 == 3) = false := beq_eq_false_iff_ne.mpr c32
                    have c32b1 : (t168 != 3) = true := bne_iff_ne.mpr c32
                    by_cases c33 : t171 = 0
                    · rw [if_pos c33] at H
                      have c33b0 : (t171 == 0) = true := beq_iff_eq.mpr c33
                      have c33b1 : (t171 != 0) = false := bne_eq_false_iff_eq.mpr c33
                      clear c33
                      obtain rfl := Option.some.inj H
                      go_wp2
                      go_ret
                      exact ⟨by first | rfl | (simp [errW_none, errW_some] <;> rfl) | (simp [*, errW_none, errW_some] <;> rfl), by repeat (first | (with_reducible first | exact HB.out | apply below_alloc | apply pw_below_drewN | apply below_drew1) | exact HB.out)⟩
                    · rw [if_neg c33] at H
                      have c33b0 : (t171 == 0) = false := beq_eq_false_iff_ne.mpr c33
                      have c33b1 : (t171 != 0) = true := bne_iff_ne.mpr c33
                      obtain rfl := Option.some.inj H
                      go_wp2
                      go_ret
                      exact ⟨by first | rfl | (simp [errW_none, errW_some] <;> rfl) | (simp [*, errW_none, errW_some] <;> rfl), by repeat (first | (with_reducible first | exact HB.out | apply below_alloc | apply pw_below_drewN | apply below_drew1) | exact HB.out)⟩
              · rw [if_neg c30] at H
                have c30b0 : (t169 == 0) = false := beq_eq_false_iff_ne.mpr c30
                have c30b1 : (t169 != 0) = true := bne_iff_ne.mpr c30
                obtain rfl := Option.some.inj H
                go_wp2
                go_ret
                exact ⟨by first | rfl | (simp [errW_none, errW_some] <;> rfl) | (simp [*, errW_none, errW_some] <;> rfl), by repeat (first | (with_reducible first | exact HB.out | apply below_alloc | apply pw_below_drewN | apply below_drew1) | exact HB.out)⟩
      · rw [if_neg c9] at H
        have c9b0 : (t161 == 0) = false := beq_eq_false_iff_ne.mpr c9
        have c9b1 : (t161 != 0) = true := bne_iff_ne.mpr c9
        obtain rfl := Option.some.inj H
        go_enter Try.func7, Try.ntmps7
        go_wp2_with (first | ((with_reducible refine gate_callee (f := 9) rfl ?_); refine goesL_ (some 15) rfl rfl Try.func9 (by kernel_rfl) rfl #[] rfl (by (try simp only [List.map_toArray, List.map_cons, List.map_nil]); first | done | rfl | (simp only [List.length_drop, List.length_take]; rfl)) ?_; (with_reducible refine (damsonlaw12_live.calls k  true _ A4.out).mono ?_); rintro e w34 ⟨rfl, hb⟩; refine ⟨_, rfl, ?_⟩; have n0_ := Aside0.mk (below_step (belN HB) hb); clear HB; have HB := n0_; clear n0_; (try clear hb); (try clear hb2); (try clear hk); (try clear hi)) | ((with_reducible refine gate_callee (f := 10) rfl ?_); refine goesL_ (some 18) rfl rfl Try.func10 (by kernel_rfl) rfl #[.slice A0 l0.length c0] rfl (by (try simp only [List.map_toArray, List.map_cons, List.map_nil]); first | done | rfl | (simp only [List.length_drop, List.length_take]; rfl)) ?_; (with_reducible refine (damsonlaw12_few.calls _ _ l0 true _ ?side1 ?side2 A6.out).mono ?_); (case side1 => repeat (first | exact (Kd.C_below HR0.out HB.out) | (with_reducible refine Kd.C_alloc ?_ _) | (with_reducible refine Kd.C_drewN ?_ _) | (with_reducible refine Kd.C_drew ?_))); (case side2 => exact HC0.out); rintro e w' ⟨rfl, ⟨nd, rfl⟩⟩; refine ⟨_, rfl, ?_⟩) | ((with_reducible refine gate_callee (f := 16) rfl ?_); refine goesL_ (some 23) rfl rfl Try.func16 (by kernel_rfl) rfl #[.slice A0 l0.length c0, .int .u64 a1] rfl (by (try simp only [List.map_toArray, List.map_cons, List.map_nil]); first | done | rfl | (simp only [List.length_drop, List.length_take]; rfl)) ?_; (with_reducible refine (invoice_Sweep.calls k _ _ l0 a1 t160 t161 _ ?side1 ?side2 A8.out).mono ?_); (case side1 => repeat (first | exact (Kd.C_below HR0.out (belN HB)) | (with_reducible refine Kd.C_alloc ?_ _) | (with_reducible refine Kd.C_drewN ?_ _) | (with_reducible refine Kd.C_drew ?_))); (case side2 => exact HC0.out); rintro e w35 ⟨v162, rfl, ho0, hb⟩; refine ⟨_, rfl, ?_⟩; have n0_ := Aside0.mk (Kd.R_lower ho0 (below_size (belN HB))); have n1_ := Aside0.mk (below_step (belN HB) hb); clear HB; have HO163 := n0_; have HB := n1_; clear n0_ n1_; (try clear hb); (try clear hb2); (try clear hk); (try clear hi); (try clear ho0); obtain ⟨Ao36, co36, eo36⟩ := Kd.R_slice HO163.out; subst eo36))
        go_ret
        exact ⟨by first | rfl | (simp [errW_none, errW_some] <;> rfl) | (simp [*, errW_none, errW_some] <;> rfl), by repeat (first | (with_reducible first | exact HB.out | apply below_alloc | apply pw_below_drewN | apply below_drew1) | exact HB.out)⟩
    · replace c7 := Bool.eq_false_iff.mpr c7
      subst c7
      have H1 : (some true) = some r := by rw [if_neg (show ¬ (false = true) by decide)] at H; exact H
      clear H
      have H := H1
      clear H1
      obtain rfl := Option.some.inj H
      go_enter Try.func7, Try.ntmps7
      go_wp2_with (first | ((with_reducible refine gate_callee (f := 9) rfl ?_); refine goesL_ (some 15) rfl rfl Try.func9 (by kernel_rfl) rfl #[] rfl (by (try simp only [List.map_toArray, List.map_cons, List.map_nil]); first | done | rfl | (simp only [List.length_drop, List.length_take]; rfl)) ?_; (with_reducible refine (damsonlaw12_live.calls k  true _ A4.out).mono ?_); rintro e w37 ⟨rfl, hb⟩; refine ⟨_, rfl, ?_⟩; have n0_ := Aside0.mk (below_step (belN HB) hb); clear HB; have HB := n0_; clear n0_; (try clear hb); (try clear hb2); (try clear hk); (try clear hi)) | ((with_reducible refine gate_callee (f := 10) rfl ?_); refine goesL_ (some 18) rfl rfl Try.func10 (by kernel_rfl) rfl #[.slice A0 l0.length c0] rfl (by (try simp only [List.map_toArray, List.map_cons, List.map_nil]); first | done | rfl | (simp only [List.length_drop, List.length_take]; rfl)) ?_; (with_reducible refine (damsonlaw12_few.calls _ _ l0 false _ ?side1 ?side2 A6.out).mono ?_); (case side1 => repeat (first | exact (Kd.C_below HR0.out HB.out) | (with_reducible refine Kd.C_alloc ?_ _) | (with_reducible refine Kd.C_drewN ?_ _) | (with_reducible refine Kd.C_drew ?_))); (case side2 => exact HC0.out); rintro e w' ⟨rfl, ⟨nd, rfl⟩⟩; refine ⟨_, rfl, ?_⟩))
      go_ret
      exact ⟨by first | rfl | (simp [errW_none, errW_some] <;> rfl) | (simp [*, errW_none, errW_some] <;> rfl), by repeat (first | (with_reducible first | exact HB.out | apply below_alloc | apply pw_below_drewN | apply below_drew1) | exact HB.out)⟩
  · replace c5 := Bool.eq_false_iff.mpr c5
    subst c5
    have H1 : (some false) = some r := by rw [if_neg (show ¬ (false = true) by decide)] at H; exact H
    clear H
    have H := H1
    clear H1
    obtain rfl := Option.some.inj H
    go_enter Try.func7, Try.ntmps7
    go_wp2_with (first | ((with_reducible refine gate_callee (f := 9) rfl ?_); refine goesL_ (some 15) rfl rfl Try.func9 (by kernel_rfl) rfl #[] rfl (by (try simp only [List.map_toArray, List.map_cons, List.map_nil]); first | done | rfl | (simp only [List.length_drop, List.length_take]; rfl)) ?_; (with_reducible refine (damsonlaw12_live.calls k  false _ A4.out).mono ?_); rintro e w38 ⟨rfl, hb⟩; refine ⟨_, rfl, ?_⟩; have n0_ := Aside0.mk (below_step (belN HB) hb); clear HB; have HB := n0_; clear n0_; (try clear hb); (try clear hb2); (try clear hk); (try clear hi)))
    go_ret
    exact ⟨by first | rfl | (simp [errW_none, errW_some] <;> rfl) | (simp [*, errW_none, errW_some] <;> rfl), by repeat (first | (with_reducible first | exact HB.out | apply below_alloc | apply pw_below_drewN | apply below_drew1) | exact HB.out)⟩

/-- THE ONE PURE STATEMENT of damsonlaw12_InvoiceSweeps: yours. -/
def damsonlaw12_InvoiceSweeps.Pure : Prop := ∀ (l0 : List (S34)) (a1 : Int) (a2 : Int), (l0.length ≤ 9223372036854775807 ∧ ∀ y_ ∈ l0, G34 y_) → (Lit.int .u64 a1).wf = true → (Lit.int .u64 a2).wf = true → ∃ k, damsonlaw12_InvoiceSweeps.f k l0 a1 a2 = some true
theorem damsonlaw12_InvoiceSweeps.walk (P : damsonlaw12_InvoiceSweeps.Pure) (w : World) (l0 : List (S34)) (A0 : Option Addr) (c0 : Nat) (hr0 : Kd.C k34 w A0 l0.length l0) (hc0 : l0.length ≤ c0) (g0 : l0.length ≤ 9223372036854775807 ∧ ∀ y_ ∈ l0, G34 y_) (a1 : Int) (g1 : (Lit.int .u64 a1).wf = true) (a2 : Int) (g2 : (Lit.int .u64 a2).wf = true) :
    Calls Try.prog 7 #[.slice A0 l0.length c0, .int .u64 a1, .int .u64 a2] w fun e w' => e = .returned (.bool true) ∧ Below w.heap.size w w' := by
  obtain ⟨k, h⟩ := P l0 a1 a2 g0 g1 g2
  refine (damsonlaw12_InvoiceSweeps.calls k A0 c0 l0 a1 a2 true w hr0 hc0 h).mono ?_
  rintro e w' ⟨rfl, hd⟩
  exact ⟨rfl, hd⟩

end Go.Proofs.Ytlpdgagohafmaaa.P
