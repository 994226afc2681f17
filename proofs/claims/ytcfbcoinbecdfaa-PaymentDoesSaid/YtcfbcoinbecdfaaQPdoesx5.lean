-- written by a program of this session (wip/print)
import Derived.Test.YtcfbcoinbecdfaaQPdoesx0
import Derived.Test.YtcfbcoinbecdfaaQPdoesx1
import Derived.Test.YtcfbcoinbecdfaaQPdoesx2
import Derived.Test.YtcfbcoinbecdfaaQPdoesx3
import Derived.Test.YtcfbcoinbecdfaaQPdoesx4
namespace Go.Proofs.Ytcfbcoinbecdfaa.P
open Go.RowKit Go.Proofs.YtcfbcoinbecdfaaW.PrintWords Go.Proofs.YtcfbcoinbecdfaaW.PrintLast Go.Proofs.YtcfbcoinbecdfaaW.PrintMore
attribute [local go_sem] max2_int min2_int max_two min_two max_three min_three max_four min_four run_sub64_   -- for this text's walks alone
set_option linter.unusedVariables false
set_option linter.unusedSimpArgs false

attribute [local go_sem high] eqA74
/-! ### payment_End: function 72 -/
def payment_End.f (k : Nat) (l0 : List (S74)) (a1 : Int) (a2 : Bool) : Option ((List (S74)) × Int) := (payment_find.f k l0 a1).bind fun bt157 => (if bt157.2 = 0 then (if 0 ≤ bt157.1 then (if bt157.1 < (l0.length : Int) then (if ((rd_T74 l0 bt157.1).f4) = 1 then ((slices_Clone_Payment.f l0).bind fun t160 => (if bt157.1 < (t160.length : Int) then ((some (t160.set (bt157.1 : Int).toNat (⟨(rd_T74 t160 bt157.1).f0, (rd_T74 t160 bt157.1).f1, (rd_T74 t160 bt157.1).f2, (rd_T74 t160 bt157.1).f3, 3⟩ : S74) : List (S74))).bind fun y163 => (if a2 = true then (some ((y163.set (bt157.1 : Int).toNat (⟨(rd_T74 y163 bt157.1).f0, (rd_T74 y163 bt157.1).f1, (rd_T74 y163 bt157.1).f2, (rd_T74 y163 bt157.1).f3, 2⟩ : S74)), 0)) else (some (y163, 0)))) else (none))) else (some (([] : List (S74)), 10))) else (none)) else (none)) else (some (([] : List (S74)), bt157.2)))
theorem payment_End.mono : ∀ a0 a1 a2 k, LeO (payment_End.f k a0 a1 a2) (payment_End.f (k + 1) a0 a1 a2) := by
  intro a0 a1 a2 k
  unfold payment_End.f
  repeat' first
      | (with_reducible exact payment_find.mono _ _ _)
      | (with_reducible exact LeO.refl _)
      | (with_reducible exact LeO.none _)
      | (with_reducible refine LeO.ite ?_ ?_)
      | (with_reducible refine LeO.bind ?_ (fun _ => ?_))
      | exact payment_find.mono _ _ _
      | exact LeO.none _
      | refine LeO.ite ?_ ?_
      | refine LeO.bind ?_ (fun _ => ?_)
set_option maxHeartbeats 8000000 in
set_option maxRecDepth 100000 in
theorem payment_End.calls (k : Nat) (A0 : Option Addr) (c0 : Nat) (l0 : List (S74)) (a1 : Int) (a2 : Bool) (r1 : List (S74)) (r2 : Int) (w : World) (hr0 : Kd.C k74 w A0 l0.length l0) (hc0 : l0.length ≤ c0) (h : payment_End.f k l0 a1 a2 = some (r1, r2)) :
    Calls Try.prog 72 #[.slice A0 l0.length c0, .int .u64 a1, .bool a2] w fun e w' => ∃ v0_ : Value, e = .returned (.tuple #[v0_, .int .i64 r2]) ∧ Kd.R k74 74 w' w.heap.size (fun _ => True) v0_ r1 ∧ Below w.heap.size w w' := by
  have HR0 := Aside0.mk hr0
  have HC0 := Aside0.mk hc0
  clear hr0 hc0
  have HB := Aside0.mk (Below.refl w.heap.size w)
  have H : ((payment_find.f k l0 a1).bind fun bt157 => (if bt157.2 = 0 then (if 0 ≤ bt157.1 then (if bt157.1 < (l0.length : Int) then (if ((rd_T74 l0 bt157.1).f4) = 1 then ((slices_Clone_Payment.f l0).bind fun t160 => (if bt157.1 < (t160.length : Int) then ((some (t160.set (bt157.1 : Int).toNat (⟨(rd_T74 t160 bt157.1).f0, (rd_T74 t160 bt157.1).f1, (rd_T74 t160 bt157.1).f2, (rd_T74 t160 bt157.1).f3, 3⟩ : S74) : List (S74))).bind fun y163 => (if a2 = true then (some ((y163.set (bt157.1 : Int).toNat (⟨(rd_T74 y163 bt157.1).f0, (rd_T74 y163 bt157.1).f1, (rd_T74 y163 bt157.1).f2, (rd_T74 y163 bt157.1).f3, 2⟩ : S74)), 0)) else (some (y163, 0)))) else (none))) else (some (([] : List (S74)), 10))) else (none)) else (none)) else (some (([] : List (S74)), bt157.2)))) = some (r1, r2) := h
  clear h
  replace H := Option.bind_eq_some_iff.mp H
  obtain ⟨⟨t157, t158⟩, A40, H⟩ := H
  replace H : (if t158 = 0 then (if 0 ≤ t157 then (if t157 < (l0.length : Int) then (if ((rd_T74 l0 t157).f4) = 1 then ((slices_Clone_Payment.f l0).bind fun t160 => (if t157 < (t160.length : Int) then ((some (t160.set (t157 : Int).toNat (⟨(rd_T74 t160 t157).f0, (rd_T74 t160 t157).f1, (rd_T74 t160 t157).f2, (rd_T74 t160 t157).f3, 3⟩ : S74) : List (S74))).bind fun y163 => (if a2 = true then (some ((y163.set (t157 : Int).toNat (⟨(rd_T74 y163 t157).f0, (rd_T74 y163 t157).f1, (rd_T74 y163 t157).f2, (rd_T74 y163 t157).f3, 2⟩ : S74)), 0)) else (some (y163, 0)))) else (none))) else (some (([] : List (S74)), 10))) else (none)) else (none)) else (some (([] : List (S74)), t158))) = some (r1, r2) := H
  have A4 := Aside0.mk A40
  clear A40
  by_cases c5 : t158 = 0
  · rw [if_pos c5] at H
    have c5b0 : (t158 == 0) = true := beq_iff_eq.mpr c5
    have c5b1 : (t158 != 0) = false := bne_eq_false_iff_eq.mpr c5
    clear c5
    by_cases c6 : 0 ≤ t157
    · rw [if_pos c6] at H
      have c6b0 : decide (0 ≤ t157) = true := decide_eq_true c6
      clear c6
      by_cases c7 : t157 < (l0.length : Int)
      · rw [if_pos c7] at H
        have c7b0 : decide (t157 < (l0.length : Int)) = true := decide_eq_true c7
        clear c7
        by_cases c8 : ((rd_T74 l0 t157).f4) = 1
        · rw [if_pos c8] at H
          have c8b0 : (((rd_T74 l0 t157).f4) == 1) = true := beq_iff_eq.mpr c8
          have c8b1 : (((rd_T74 l0 t157).f4) != 1) = false := bne_eq_false_iff_eq.mpr c8
          clear c8
          replace H := Option.bind_eq_some_iff.mp H
          obtain ⟨t160, A90, H⟩ := H
          replace H : (if t157 < (t160.length : Int) then ((some (t160.set (t157 : Int).toNat (⟨(rd_T74 t160 t157).f0, (rd_T74 t160 t157).f1, (rd_T74 t160 t157).f2, (rd_T74 t160 t157).f3, 3⟩ : S74) : List (S74))).bind fun y163 => (if a2 = true then (some ((y163.set (t157 : Int).toNat (⟨(rd_T74 y163 t157).f0, (rd_T74 y163 t157).f1, (rd_T74 y163 t157).f2, (rd_T74 y163 t157).f3, 2⟩ : S74)), 0)) else (some (y163, 0)))) else (none)) = some (r1, r2) := H
          have A9 := Aside0.mk A90
          clear A90
          by_cases c10 : t157 < (t160.length : Int)
          · rw [if_pos c10] at H
            have c10b0 : decide (t157 < (t160.length : Int)) = true := decide_eq_true c10
            clear c10
            obtain ⟨y163, hy163⟩ : ∃ y_ : List (S74), y_ = (t160.set (t157 : Int).toNat (⟨(rd_T74 t160 t157).f0, (rd_T74 t160 t157).f1, (rd_T74 t160 t157).f2, (rd_T74 t160 t157).f3, 3⟩ : S74)) := ⟨_, rfl⟩
            replace H : (if a2 = true then (some ((y163.set (t157 : Int).toNat (⟨(rd_T74 y163 t157).f0, (rd_T74 y163 t157).f1, (rd_T74 y163 t157).f2, (rd_T74 y163 t157).f3, 2⟩ : S74)), 0)) else (some (y163, 0))) = some (r1, r2) := by first | (rw [hy163]; with_reducible exact H) | (have H2_ := (Option.bind_some _ _).symm.trans H; rw [hy163]; with_reducible exact H2_) | (have H2_ := (Option.bind_some _ _).symm.trans H; with_reducible exact H2_) | with_reducible exact H | (rw [hy163]; exact H) | exact H
            have Ny163 := Aside0.mk hy163
            clear hy163
            by_cases c12 : a2 = true
            · subst c12
              have H1 : (some ((y163.set (t157 : Int).toNat (⟨(rd_T74 y163 t157).f0, (rd_T74 y163 t157).f1, (rd_T74 y163 t157).f2, (rd_T74 y163 t157).f3, 2⟩ : S74)), 0)) = some (r1, r2) := by rw [if_pos rfl] at H; exact H
              clear H
              have H := H1
              clear H1
              obtain ⟨y164, hy164⟩ : ∃ y_ : List (S74), y_ = (y163.set (t157 : Int).toNat (⟨(rd_T74 y163 t157).f0, (rd_T74 y163 t157).f1, (rd_T74 y163 t157).f2, (rd_T74 y163 t157).f3, 2⟩ : S74)) := ⟨_, rfl⟩
              replace H : (some (y164, 0)) = some (r1, r2) := by first | (rw [hy164]; with_reducible exact H) | (have H2_ := (Option.bind_some _ _).symm.trans H; rw [hy164]; with_reducible exact H2_) | (have H2_ := (Option.bind_some _ _).symm.trans H; with_reducible exact H2_) | with_reducible exact H | (rw [hy164]; exact H) | exact H
              have Ny164 := Aside0.mk hy164
              clear hy164
              simp only [Option.some.injEq, Prod.mk.injEq] at H
              obtain ⟨rfl, rfl⟩ := H
              go_enter Try.func72, Try.ntmps72
              go_wp2_with (first | ((with_reducible refine gate_callee (f := 115) rfl ?_); refine goesL_ (some 13) rfl rfl Try.func115 (by kernel_rfl) rfl #[.slice A0 l0.length c0, .int .u64 a1] rfl (by (try simp only [List.map_toArray, List.map_cons, List.map_nil]); first | done | rfl | (simp only [List.length_drop, List.length_take]; rfl)) ?_; (with_reducible refine (payment_find.calls k _ _ l0 a1 t157 t158 _ ?side1 ?side2 A4.out).mono ?_); (case side1 => repeat (first | exact HR0.out | (with_reducible refine Kd.C_alloc ?_ _) | (with_reducible refine Kd.C_drewN ?_ _) | (with_reducible refine Kd.C_drew ?_))); (case side2 => exact HC0.out); rintro e w14 ⟨rfl, hb⟩; refine ⟨_, rfl, ?_⟩; have n0_ := Aside0.mk (below_step (belN HB) hb); clear HB; have HB := n0_; clear n0_; (try clear hb); (try clear hb2); (try clear hk); (try clear hi); have p159 : 0 ≤ (t157 : Int) := of_decide_eq_true (by first | (with_reducible assumption) | assumption); have q159 : t157 < (l0.length : Int) := of_decide_eq_true (by first | (with_reducible assumption) | assumption); obtain ⟨ad159, e159, hx159_0, hx159_1, hx159_2, hx159_3, hx159_4⟩ := at_T74 HR0.out t157 p159 q159; cases e159; replace hx159_0 := (HB.out.cell (World.block_lt_of_cell? w _ hx159_0)).trans hx159_0; replace hx159_1 := (HB.out.cell (World.block_lt_of_cell? w _ hx159_1)).trans hx159_1; replace hx159_2 := (HB.out.cell (World.block_lt_of_cell? w _ hx159_2)).trans hx159_2; replace hx159_3 := (HB.out.cell (World.block_lt_of_cell? w _ hx159_3)).trans hx159_3; replace hx159_4 := (HB.out.cell (World.block_lt_of_cell? w _ hx159_4)).trans hx159_4; replace p159 := eq_true p159; replace q159 := eq_true q159) | ((with_reducible refine gate_callee (f := 117) rfl ?_); refine goesL_ (some 28) rfl rfl Try.func117 (by kernel_rfl) rfl #[.slice (some ad159) l0.length c0] rfl (by (try simp only [List.map_toArray, List.map_cons, List.map_nil]); first | done | rfl | (simp only [List.length_drop, List.length_take]; rfl)) ?_; (with_reducible refine (slices_Clone_Payment.calls _ _ l0 t160 _ ?side1 ?side2 A9.out).mono ?_); (case side1 => repeat (first | exact (Kd.C_below HR0.out HB.out) | (with_reducible refine Kd.C_alloc ?_ _) | (with_reducible refine Kd.C_drewN ?_ _) | (with_reducible refine Kd.C_drew ?_))); (case side2 => exact HC0.out); rintro e w15 ⟨v161, rfl, ho0, hb⟩; refine ⟨_, rfl, ?_⟩; have n0_ := Aside0.mk (Kd.R_lower ho0 (below_size (belN HB))); have n1_ := Aside0.mk (below_step (belN HB) hb); clear HB; have HO162 := n0_; have HB := n1_; clear n0_ n1_; (try clear hb); (try clear hb2); (try clear hk); (try clear hi); (try clear ho0); have p11 : 0 ≤ (t157 : Int) := of_decide_eq_true (by first | (with_reducible assumption) | assumption); have q11 : (t157 : Int) < ((t160.length : Int) : Int) := of_decide_eq_true (by first | (with_reducible assumption) | assumption); obtain ⟨go11, co11, eo11, gb11, gl11, cl11, HG11⟩ := Kd.R_form HO162.out (by omega); (first | cases eo11 | (injection eo11 with ea_ en_ ec_; (first | subst ea_ | (injection ea_ with ea_; subst ea_)); subst ec_; clear en_)); have GB11 := Aside0.mk gb11; have GG11 := Aside0.mk HG11; clear gb11 gl11 HG11; obtain ⟨ce11, hcl11, hM11, hcc11, hfr11⟩ := Kd.R_elem HO162.out z74 (t157 : Int) p11 q11; obtain rfl := k74_openM hM11; have hx11_0 : w15.cell? ⟨go11, (t157 : Int).toNat * 5, none⟩ = some (.int .u64 ((rd_T74 t160 t157).f0)) := hcc11 0 _ rfl; have hx11_1 : w15.cell? ⟨go11, (t157 : Int).toNat * 5 + 1, none⟩ = some (.int .u64 ((rd_T74 t160 t157).f1)) := hcc11 1 _ rfl; have hx11_2 : w15.cell? ⟨go11, (t157 : Int).toNat * 5 + 2, none⟩ = some (.int .u64 ((rd_T74 t160 t157).f2)) := hcc11 2 _ rfl; have hx11_3 : w15.cell? ⟨go11, (t157 : Int).toNat * 5 + 3, none⟩ = some (.int .u64 ((rd_T74 t160 t157).f3)) := hcc11 3 _ rfl; have hx11_4 : w15.cell? ⟨go11, (t157 : Int).toNat * 5 + 4, none⟩ = some (.int .i64 ((rd_T74 t160 t157).f4)) := hcc11 4 _ rfl; have hf11_0 : w15.frozen? ⟨go11, (t157 : Int).toNat * 5, none⟩ = false := hfr11 0; have hf11_1 : w15.frozen? ⟨go11, (t157 : Int).toNat * 5 + 1, none⟩ = false := hfr11 1; have hf11_2 : w15.frozen? ⟨go11, (t157 : Int).toNat * 5 + 2, none⟩ = false := hfr11 2; have hf11_3 : w15.frozen? ⟨go11, (t157 : Int).toNat * 5 + 3, none⟩ = false := hfr11 3; have hf11_4 : w15.frozen? ⟨go11, (t157 : Int).toNat * 5 + 4, none⟩ = false := hfr11 4; clear hcl11 hcc11 hfr11 hM11; replace p11 := eq_true p11; replace q11 := eq_true q11; have HX16 := Aside0.mk (show Kd.R k74 74 w15 w.heap.size (fun _ => True) (.slice (some ⟨go11, 0, none⟩) t160.length co11) t160 from (Kd.RN HO162)); obtain ⟨ce16, hcl16, hM16, hcc16, hfr16⟩ := Kd.R_elem HX16.out z74 (t157 : Int) (of_decide_eq_true (by first | (with_reducible assumption) | assumption)) (by have h_ : (t157 : Int) < ((t160.length : Int) : Int) := of_decide_eq_true (by first | (with_reducible assumption) | assumption); first | exact h_ | (have e_ := (Kd.R_reads' HO162.out).1; omega) | simpa using h_); obtain rfl := k74_openM hM16; have HP16 := Kd.R_seg HX16.out (t157 : Int) (of_decide_eq_true (by first | (with_reducible assumption) | assumption)) (by have h_ : (t157 : Int) < ((t160.length : Int) : Int) := of_decide_eq_true (by first | (with_reducible assumption) | assumption); first | exact h_ | (have e_ := (Kd.R_reads' HO162.out).1; omega) | simpa using h_) (seg := [.int .i64 3]) (j := 4) hcl16 hcc16 (show 5 ≤ 5 from by decide) (x' := (⟨(rd_T74 t160 t157).f0, (rd_T74 t160 t157).f1, (rd_T74 t160 t157).f2, (rd_T74 t160 t157).f3, 3⟩ : S74)) (k74_mkM _ _ _ (⟨(rd_T74 t160 t157).f0, (rd_T74 t160 t157).f1, (rd_T74 t160 t157).f2, (rd_T74 t160 t157).f3, 3⟩ : S74) ) (fun _ hk => hk); have hx16_4 := hcc16 4 _ rfl; (try simp only [show (k74).sz = 5 from rfl, Nat.mul_one, Nat.add_zero] at hx16_4); have hf16_4 := hfr16 4; (try simp only [show (k74).sz = 5 from rfl, Nat.mul_one, Nat.add_zero] at hf16_4); clear hcl16 hcc16 hfr16 hM16) | ((with_reducible refine gate_store (t := 3) (p := 32) rfl ?_); refine store_event (t := 3) (p := 32) (v := ?vo_w17) (w1 := (w15.setCell ⟨go11, (t157 : Int).toNat * 5 + 4, none⟩ (.int .i64 3))) ?hg ?ho ?hn ?hr ?_; (case ho => rfl); (case hg => rfl); (case hn => rfl); (case hr => first | (go_simp; done) | (go_simp; rfl)); intro w17 hw; have hg : w15.grownBy w17 (some go11) := (by rw [hw]; exact HP16.2); have hp_ : Kd.R k74 74 w17 w.heap.size (fun _ => True) (.slice (some ⟨go11, 0, none⟩) t160.length co11) y163 := (by rw [hw, Ny163.out]; exact HP16.1); clear HP16; have n0_ := Aside0.mk (hp_); have n1_ := Aside0.mk ((by rw [hw]; exact below_set (HB.out) GB11.out : Below w.heap.size w w17)); clear HO162; clear HB; have HO162 := n0_; have HB := n1_; clear n0_ n1_; clear hg hw hp_; have p13 : 0 ≤ (t157 : Int) := of_decide_eq_true (by first | (with_reducible assumption) | assumption); have q13 : (t157 : Int) < ((t160.length : Int) : Int) := of_decide_eq_true (by first | (with_reducible assumption) | assumption); obtain ⟨ce13, hcl13, hM13, hcc13, hfr13⟩ := Kd.R_elem HO162.out z74 (t157 : Int) p13 q13; obtain rfl := k74_openM hM13; have hx13_0 : w17.cell? ⟨go11, (t157 : Int).toNat * 5, none⟩ = some (.int .u64 ((rd_T74 y163 t157).f0)) := hcc13 0 _ rfl; have hx13_1 : w17.cell? ⟨go11, (t157 : Int).toNat * 5 + 1, none⟩ = some (.int .u64 ((rd_T74 y163 t157).f1)) := hcc13 1 _ rfl; have hx13_2 : w17.cell? ⟨go11, (t157 : Int).toNat * 5 + 2, none⟩ = some (.int .u64 ((rd_T74 y163 t157).f2)) := hcc13 2 _ rfl; have hx13_3 : w17.cell? ⟨go11, (t157 : Int).toNat * 5 + 3, none⟩ = some (.int .u64 ((rd_T74 y163 t157).f3)) := hcc13 3 _ rfl; have hx13_4 : w17.cell? ⟨go11, (t157 : Int).toNat * 5 + 4, none⟩ = some (.int .i64 ((rd_T74 y163 t157).f4)) := hcc13 4 _ rfl; have hf13_0 : w17.frozen? ⟨go11, (t157 : Int).toNat * 5, none⟩ = false := hfr13 0; have hf13_1 : w17.frozen? ⟨go11, (t157 : Int).toNat * 5 + 1, none⟩ = false := hfr13 1; have hf13_2 : w17.frozen? ⟨go11, (t157 : Int).toNat * 5 + 2, none⟩ = false := hfr13 2; have hf13_3 : w17.frozen? ⟨go11, (t157 : Int).toNat * 5 + 3, none⟩ = false := hfr13 3; have hf13_4 : w17.frozen? ⟨go11, (t157 : Int).toNat * 5 + 4, none⟩ = false := hfr13 4; clear hcl13 hcc13 hfr13 hM13; replace p13 := eq_true p13; replace q13 := eq_true q13; have HX18 := Aside0.mk (show Kd.R k74 74 w17 w.heap.size (fun _ => True) (.slice (some ⟨go11, 0, none⟩) t160.length co11) y163 from (Kd.RN HO162)); obtain ⟨ce18, hcl18, hM18, hcc18, hfr18⟩ := Kd.R_elem HX18.out z74 (t157 : Int) (of_decide_eq_true (by first | (with_reducible assumption) | assumption)) (by have h_ : (t157 : Int) < ((t160.length : Int) : Int) := of_decide_eq_true (by first | (with_reducible assumption) | assumption); first | exact h_ | (have e_ := (Kd.R_reads' HO162.out).1; omega) | simpa using h_); obtain rfl := k74_openM hM18; have HP18 := Kd.R_seg HX18.out (t157 : Int) (of_decide_eq_true (by first | (with_reducible assumption) | assumption)) (by have h_ : (t157 : Int) < ((t160.length : Int) : Int) := of_decide_eq_true (by first | (with_reducible assumption) | assumption); first | exact h_ | (have e_ := (Kd.R_reads' HO162.out).1; omega) | simpa using h_) (seg := [.int .i64 2]) (j := 4) hcl18 hcc18 (show 5 ≤ 5 from by decide) (x' := (⟨(rd_T74 y163 t157).f0, (rd_T74 y163 t157).f1, (rd_T74 y163 t157).f2, (rd_T74 y163 t157).f3, 2⟩ : S74)) (k74_mkM _ _ _ (⟨(rd_T74 y163 t157).f0, (rd_T74 y163 t157).f1, (rd_T74 y163 t157).f2, (rd_T74 y163 t157).f3, 2⟩ : S74) ) (fun _ hk => hk); have hx18_4 := hcc18 4 _ rfl; (try simp only [show (k74).sz = 5 from rfl, Nat.mul_one, Nat.add_zero] at hx18_4); have hf18_4 := hfr18 4; (try simp only [show (k74).sz = 5 from rfl, Nat.mul_one, Nat.add_zero] at hf18_4); clear hcl18 hcc18 hfr18 hM18) | ((with_reducible refine gate_store (t := 3) (p := 37) rfl ?_); refine store_event (t := 3) (p := 37) (v := ?vo_w19) (w1 := (w17.setCell ⟨go11, (t157 : Int).toNat * 5 + 4, none⟩ (.int .i64 2))) ?hg ?ho ?hn ?hr ?_; (case ho => rfl); (case hg => rfl); (case hn => rfl); (case hr => first | (go_simp; done) | (go_simp; rfl)); intro w19 hw; have hg : w17.grownBy w19 (some go11) := (by rw [hw]; exact HP18.2); have hp_ : Kd.R k74 74 w19 w.heap.size (fun _ => True) (.slice (some ⟨go11, 0, none⟩) t160.length co11) y164 := (by rw [hw, Ny164.out]; exact HP18.1); clear HP18; have n0_ := Aside0.mk (hp_); have n1_ := Aside0.mk ((by rw [hw]; exact below_set (HB.out) GB11.out : Below w.heap.size w w19)); clear HO162; clear HB; have HO162 := n0_; have HB := n1_; clear n0_ n1_; clear hg hw hp_))
              go_ret2
              exact ⟨_, by first | rfl | (simp [errW_none, errW_some] <;> rfl) | (simp [*, errW_none, errW_some] <;> rfl), by (with_reducible repeat (first | apply Kd.R_alloc | apply Kd.R_drewN | apply Kd.R_drew)); exact HO162.out, by repeat (first | (with_reducible first | exact HB.out | apply below_alloc | apply pw_below_drewN | apply below_drew1) | exact HB.out)⟩
            · replace c12 := Bool.eq_false_iff.mpr c12
              subst c12
              have H1 : (some (y163, 0)) = some (r1, r2) := by rw [if_neg (show ¬ (false = true) by decide)] at H; exact H
              clear H
              have H := H1
              clear H1
              simp only [Option.some.injEq, Prod.mk.injEq] at H
              obtain ⟨rfl, rfl⟩ := H
              go_enter Try.func72, Try.ntmps72
              go_wp2_with (first | ((with_reducible refine gate_callee (f := 115) rfl ?_); refine goesL_ (some 13) rfl rfl Try.func115 (by kernel_rfl) rfl #[.slice A0 l0.length c0, .int .u64 a1] rfl (by (try simp only [List.map_toArray, List.map_cons, List.map_nil]); first | done | rfl | (simp only [List.length_drop, List.length_take]; rfl)) ?_; (with_reducible refine (payment_find.calls k _ _ l0 a1 t157 t158 _ ?side1 ?side2 A4.out).mono ?_); (case side1 => repeat (first | exact HR0.out | (with_reducible refine Kd.C_alloc ?_ _) | (with_reducible refine Kd.C_drewN ?_ _) | (with_reducible refine Kd.C_drew ?_))); (case side2 => exact HC0.out); rintro e w20 ⟨rfl, hb⟩; refine ⟨_, rfl, ?_⟩; have n0_ := Aside0.mk (below_step (belN HB) hb); clear HB; have HB := n0_; clear n0_; (try clear hb); (try clear hb2); (try clear hk); (try clear hi); have p159 : 0 ≤ (t157 : Int) := of_decide_eq_true (by first | (with_reducible assumption) | assumption); have q159 : t157 < (l0.length : Int) := of_decide_eq_true (by first | (with_reducible assumption) | assumption); obtain ⟨ad159, e159, hx159_0, hx159_1, hx159_2, hx159_3, hx159_4⟩ := at_T74 HR0.out t157 p159 q159; cases e159; replace hx159_0 := (HB.out.cell (World.block_lt_of_cell? w _ hx159_0)).trans hx159_0; replace hx159_1 := (HB.out.cell (World.block_lt_of_cell? w _ hx159_1)).trans hx159_1; replace hx159_2 := (HB.out.cell (World.block_lt_of_cell? w _ hx159_2)).trans hx159_2; replace hx159_3 := (HB.out.cell (World.block_lt_of_cell? w _ hx159_3)).trans hx159_3; replace hx159_4 := (HB.out.cell (World.block_lt_of_cell? w _ hx159_4)).trans hx159_4; replace p159 := eq_true p159; replace q159 := eq_true q159) | ((with_reducible refine gate_callee (f := 117) rfl ?_); refine goesL_ (some 28) rfl rfl Try.func117 (by kernel_rfl) rfl #[.slice (some ad159) l0.length c0] rfl (by (try simp only [List.map_toArray, List.map_cons, List.map_nil]); first | done | rfl | (simp only [List.length_drop, List.length_take]; rfl)) ?_; (with_reducible refine (slices_Clone_Payment.calls _ _ l0 t160 _ ?side1 ?side2 A9.out).mono ?_); (case side1 => repeat (first | exact (Kd.C_below HR0.out HB.out) | (with_reducible refine Kd.C_alloc ?_ _) | (with_reducible refine Kd.C_drewN ?_ _) | (with_reducible refine Kd.C_drew ?_))); (case side2 => exact HC0.out); rintro e w21 ⟨v161, rfl, ho0, hb⟩; refine ⟨_, rfl, ?_⟩; have n0_ := Aside0.mk (Kd.R_lower ho0 (below_size (belN HB))); have n1_ := Aside0.mk (below_step (belN HB) hb); clear HB; have HO162 := n0_; have HB := n1_; clear n0_ n1_; (try clear hb); (try clear hb2); (try clear hk); (try clear hi); (try clear ho0); have p11 : 0 ≤ (t157 : Int) := of_decide_eq_true (by first | (with_reducible assumption) | assumption); have q11 : (t157 : Int) < ((t160.length : Int) : Int) := of_decide_eq_true (by first | (with_reducible assumption) | assumption); obtain ⟨go11, co11, eo11, gb11, gl11, cl11, HG11⟩ := Kd.R_form HO162.out (by omega); (first | cases eo11 | (injection eo11 with ea_ en_ ec_; (first | subst ea_ | (injection ea_ with ea_; subst ea_)); subst ec_; clear en_)); have GB11 := Aside0.mk gb11; have GG11 := Aside0.mk HG11; clear gb11 gl11 HG11; obtain ⟨ce11, hcl11, hM11, hcc11, hfr11⟩ := Kd.R_elem HO162.out z74 (t157 : Int) p11 q11; obtain rfl := k74_openM hM11; have hx11_0 : w21.cell? ⟨go11, (t157 : Int).toNat * 5, none⟩ = some (.int .u64 ((rd_T74 t160 t157).f0)) := hcc11 0 _ rfl; have hx11_1 : w21.cell? ⟨go11, (t157 : Int).toNat * 5 + 1, none⟩ = some (.int .u64 ((rd_T74 t160 t157).f1)) := hcc11 1 _ rfl; have hx11_2 : w21.cell? ⟨go11, (t157 : Int).toNat * 5 + 2, none⟩ = some (.int .u64 ((rd_T74 t160 t157).f2)) := hcc11 2 _ rfl; have hx11_3 : w21.cell? ⟨go11, (t157 : Int).toNat * 5 + 3, none⟩ = some (.int .u64 ((rd_T74 t160 t157).f3)) := hcc11 3 _ rfl; have hx11_4 : w21.cell? ⟨go11, (t157 : Int).toNat * 5 + 4, none⟩ = some (.int .i64 ((rd_T74 t160 t157).f4)) := hcc11 4 _ rfl; have hf11_0 : w21.frozen? ⟨go11, (t157 : Int).toNat * 5, none⟩ = false := hfr11 0; have hf11_1 : w21.frozen? ⟨go11, (t157 : Int).toNat * 5 + 1, none⟩ = false := hfr11 1; have hf11_2 : w21.frozen? ⟨go11, (t157 : Int).toNat * 5 + 2, none⟩ = false := hfr11 2; have hf11_3 : w21.frozen? ⟨go11, (t157 : Int).toNat * 5 + 3, none⟩ = false := hfr11 3; have hf11_4 : w21.frozen? ⟨go11, (t157 : Int).toNat * 5 + 4, none⟩ = false := hfr11 4; clear hcl11 hcc11 hfr11 hM11; replace p11 := eq_true p11; replace q11 := eq_true q11; have HX22 := Aside0.mk (show Kd.R k74 74 w21 w.heap.size (fun _ => True) (.slice (some ⟨go11, 0, none⟩) t160.length co11) t160 from (Kd.RN HO162)); obtain ⟨ce22, hcl22, hM22, hcc22, hfr22⟩ := Kd.R_elem HX22.out z74 (t157 : Int) (of_decide_eq_true (by first | (with_reducible assumption) | assumption)) (by have h_ : (t157 : Int) < ((t160.length : Int) : Int) := of_decide_eq_true (by first | (with_reducible assumption) | assumption); first | exact h_ | (have e_ := (Kd.R_reads' HO162.out).1; omega) | simpa using h_); obtain rfl := k74_openM hM22; have HP22 := Kd.R_seg HX22.out (t157 : Int) (of_decide_eq_true (by first | (with_reducible assumption) | assumption)) (by have h_ : (t157 : Int) < ((t160.length : Int) : Int) := of_decide_eq_true (by first | (with_reducible assumption) | assumption); first | exact h_ | (have e_ := (Kd.R_reads' HO162.out).1; omega) | simpa using h_) (seg := [.int .i64 3]) (j := 4) hcl22 hcc22 (show 5 ≤ 5 from by decide) (x' := (⟨(rd_T74 t160 t157).f0, (rd_T74 t160 t157).f1, (rd_T74 t160 t157).f2, (rd_T74 t160 t157).f3, 3⟩ : S74)) (k74_mkM _ _ _ (⟨(rd_T74 t160 t157).f0, (rd_T74 t160 t157).f1, (rd_T74 t160 t157).f2, (rd_T74 t160 t157).f3, 3⟩ : S74) ) (fun _ hk => hk); have hx22_4 := hcc22 4 _ rfl; (try simp only [show (k74).sz = 5 from rfl, Nat.mul_one, Nat.add_zero] at hx22_4); have hf22_4 := hfr22 4; (try simp only [show (k74).sz = 5 from rfl, Nat.mul_one, Nat.add_zero] at hf22_4); clear hcl22 hcc22 hfr22 hM22) | ((with_reducible refine gate_store (t := 3) (p := 32) rfl ?_); refine store_event (t := 3) (p := 32) (v := ?vo_w23) (w1 := (w21.setCell ⟨go11, (t157 : Int).toNat * 5 + 4, none⟩ (.int .i64 3))) ?hg ?ho ?hn ?hr ?_; (case ho => rfl); (case hg => rfl); (case hn => rfl); (case hr => first | (go_simp; done) | (go_simp; rfl)); intro w23 hw; have hg : w21.grownBy w23 (some go11) := (by rw [hw]; exact HP22.2); have hp_ : Kd.R k74 74 w23 w.heap.size (fun _ => True) (.slice (some ⟨go11, 0, none⟩) t160.length co11) y163 := (by rw [hw, Ny163.out]; exact HP22.1); clear HP22; have n0_ := Aside0.mk (hp_); have n1_ := Aside0.mk ((by rw [hw]; exact below_set (HB.out) GB11.out : Below w.heap.size w w23)); clear HO162; clear HB; have HO162 := n0_; have HB := n1_; clear n0_ n1_; clear hg hw hp_))
              go_ret2
              exact ⟨_, by first | rfl | (simp [errW_none, errW_some] <;> rfl) | (simp [*, errW_none, errW_some] <;> rfl), by (with_reducible repeat (first | apply Kd.R_alloc | apply Kd.R_drewN | apply Kd.R_drew)); exact HO162.out, by repeat (first | (with_reducible first | exact HB.out | apply below_alloc | apply pw_below_drewN | apply below_drew1) | exact HB.out)⟩
          · rw [if_neg c10] at H
            exact absurd H (by simp)
        · rw [if_neg c8] at H
          have c8b0 : (((rd_T74 l0 t157).f4) == 1) = false := beq_eq_false_iff_ne.mpr c8
          have c8b1 : (((rd_T74 l0 t157).f4) != 1) = true := bne_iff_ne.mpr c8
          simp only [Option.some.injEq, Prod.mk.injEq] at H
          obtain ⟨rfl, rfl⟩ := H
          go_enter Try.func72, Try.ntmps72
          go_wp2_with (first | ((with_reducible refine gate_callee (f := 115) rfl ?_); refine goesL_ (some 13) rfl rfl Try.func115 (by kernel_rfl) rfl #[.slice A0 l0.length c0, .int .u64 a1] rfl (by (try simp only [List.map_toArray, List.map_cons, List.map_nil]); first | done | rfl | (simp only [List.length_drop, List.length_take]; rfl)) ?_; (with_reducible refine (payment_find.calls k _ _ l0 a1 t157 t158 _ ?side1 ?side2 A4.out).mono ?_); (case side1 => repeat (first | exact HR0.out | (with_reducible refine Kd.C_alloc ?_ _) | (with_reducible refine Kd.C_drewN ?_ _) | (with_reducible refine Kd.C_drew ?_))); (case side2 => exact HC0.out); rintro e w24 ⟨rfl, hb⟩; refine ⟨_, rfl, ?_⟩; have n0_ := Aside0.mk (below_step (belN HB) hb); clear HB; have HB := n0_; clear n0_; (try clear hb); (try clear hb2); (try clear hk); (try clear hi); have p159 : 0 ≤ (t157 : Int) := of_decide_eq_true (by first | (with_reducible assumption) | assumption); have q159 : t157 < (l0.length : Int) := of_decide_eq_true (by first | (with_reducible assumption) | assumption); obtain ⟨ad159, e159, hx159_0, hx159_1, hx159_2, hx159_3, hx159_4⟩ := at_T74 HR0.out t157 p159 q159; cases e159; replace hx159_0 := (HB.out.cell (World.block_lt_of_cell? w _ hx159_0)).trans hx159_0; replace hx159_1 := (HB.out.cell (World.block_lt_of_cell? w _ hx159_1)).trans hx159_1; replace hx159_2 := (HB.out.cell (World.block_lt_of_cell? w _ hx159_2)).trans hx159_2; replace hx159_3 := (HB.out.cell (World.block_lt_of_cell? w _ hx159_3)).trans hx159_3; replace hx159_4 := (HB.out.cell (World.block_lt_of_cell? w _ hx159_4)).trans hx159_4; replace p159 := eq_true p159; replace q159 := eq_true q159))
          go_ret2
          exact ⟨_, by first | rfl | (simp [errW_none, errW_some] <;> rfl) | (simp [*, errW_none, errW_some] <;> rfl), by first | exact Kd.R_nil _ _ _ _ _ | exact Kd.N_nil _ _ _ _ _ | exact Kd.V_nil _ _ _ _ _ | exact Kd.Q_nil _ _ _ _ _ | exact Kd.S_nil _ _ _ _ _, by repeat (first | (with_reducible first | exact HB.out | apply below_alloc | apply pw_below_drewN | apply below_drew1) | exact HB.out)⟩
      · rw [if_neg c7] at H
        exact absurd H (by simp)
    · rw [if_neg c6] at H
      exact absurd H (by simp)
  · rw [if_neg c5] at H
    have c5b0 : (t158 == 0) = false := beq_eq_false_iff_ne.mpr c5
    have c5b1 : (t158 != 0) = true := bne_iff_ne.mpr c5
    simp only [Option.some.injEq, Prod.mk.injEq] at H
    obtain ⟨rfl, rfl⟩ := H
    go_enter Try.func72, Try.ntmps72
    go_wp2_with (first | ((with_reducible refine gate_callee (f := 115) rfl ?_); refine goesL_ (some 13) rfl rfl Try.func115 (by kernel_rfl) rfl #[.slice A0 l0.length c0, .int .u64 a1] rfl (by (try simp only [List.map_toArray, List.map_cons, List.map_nil]); first | done | rfl | (simp only [List.length_drop, List.length_take]; rfl)) ?_; (with_reducible refine (payment_find.calls k _ _ l0 a1 t157 t158 _ ?side1 ?side2 A4.out).mono ?_); (case side1 => repeat (first | exact HR0.out | (with_reducible refine Kd.C_alloc ?_ _) | (with_reducible refine Kd.C_drewN ?_ _) | (with_reducible refine Kd.C_drew ?_))); (case side2 => exact HC0.out); rintro e w25 ⟨rfl, hb⟩; refine ⟨_, rfl, ?_⟩; have n0_ := Aside0.mk (below_step (belN HB) hb); clear HB; have HB := n0_; clear n0_; (try clear hb); (try clear hb2); (try clear hk); (try clear hi)))
    go_ret2
    exact ⟨_, by first | rfl | (simp [errW_none, errW_some] <;> rfl) | (simp [*, errW_none, errW_some] <;> rfl), by first | exact Kd.R_nil _ _ _ _ _ | exact Kd.N_nil _ _ _ _ _ | exact Kd.V_nil _ _ _ _ _ | exact Kd.Q_nil _ _ _ _ _ | exact Kd.S_nil _ _ _ _ _, by repeat (first | (with_reducible first | exact HB.out | apply below_alloc | apply pw_below_drewN | apply below_drew1) | exact HB.out)⟩

/-! ### damsonlaw13_live: function 68 -/
def damsonlaw13_live.f (k : Nat)  : Option (Bool) := (payment_Start.f k ([] : List (S74)) 1 0 0 5 1).bind fun bt165 => ((payment_End.f k bt165.1 1 true).bind fun bt169 => ((payment_End.f k bt169.1 1 false).bind fun bt173 => (if bt165.2 = 0 then (if bt169.2 = 0 then (some (bt173.2 == 10)) else (some false)) else (some false))))
theorem damsonlaw13_live.mono : ∀ k, LeO (damsonlaw13_live.f k ) (damsonlaw13_live.f (k + 1) ) := by
  intro  k
  unfold damsonlaw13_live.f
  repeat' first
      | (with_reducible exact payment_End.mono _ _ _ _)
      | (with_reducible exact payment_Start.mono _ _ _ _ _ _ _)
      | (with_reducible exact LeO.refl _)
      | (with_reducible exact LeO.none _)
      | (with_reducible refine LeO.ite ?_ ?_)
      | (with_reducible refine LeO.bind ?_ (fun _ => ?_))
      | exact payment_End.mono _ _ _ _
      | exact payment_Start.mono _ _ _ _ _ _ _
      | exact LeO.none _
      | refine LeO.ite ?_ ?_
      | refine LeO.bind ?_ (fun _ => ?_)
set_option maxHeartbeats 8000000 in
set_option maxRecDepth 100000 in
theorem damsonlaw13_live.calls (k : Nat)  (r : Bool) (w : World) (h : damsonlaw13_live.f k  = some r) :
    Calls Try.prog 68 #[] w fun e w' => e = .returned (.bool r) ∧ Below w.heap.size w w' := by
  have hu74 := Try.underlying74
  have HB := Aside0.mk (Below.refl w.heap.size w)
  have H : ((payment_Start.f k ([] : List (S74)) 1 0 0 5 1).bind fun bt165 => ((payment_End.f k bt165.1 1 true).bind fun bt169 => ((payment_End.f k bt169.1 1 false).bind fun bt173 => (if bt165.2 = 0 then (if bt169.2 = 0 then (some (bt173.2 == 10)) else (some false)) else (some false))))) = some r := h
  clear h
  replace H := Option.bind_eq_some_iff.mp H
  obtain ⟨⟨t165, t168⟩, A10, H⟩ := H
  replace H : ((payment_End.f k t165 1 true).bind fun bt169 => ((payment_End.f k bt169.1 1 false).bind fun bt173 => (if t168 = 0 then (if bt169.2 = 0 then (some (bt173.2 == 10)) else (some false)) else (some false)))) = some r := H
  have A1 := Aside0.mk A10
  clear A10
  replace H := Option.bind_eq_some_iff.mp H
  obtain ⟨⟨t169, t170⟩, A20, H⟩ := H
  replace H : ((payment_End.f k t169 1 false).bind fun bt173 => (if t168 = 0 then (if t170 = 0 then (some (bt173.2 == 10)) else (some false)) else (some false))) = some r := H
  have A2 := Aside0.mk A20
  clear A20
  replace H := Option.bind_eq_some_iff.mp H
  obtain ⟨⟨t173, t174⟩, A30, H⟩ := H
  replace H : (if t168 = 0 then (if t170 = 0 then (some (t174 == 10)) else (some false)) else (some false)) = some r := H
  have A3 := Aside0.mk A30
  clear A30
  by_cases c4 : t168 = 0
  · rw [if_pos c4] at H
    have c4b0 : (t168 == 0) = true := beq_iff_eq.mpr c4
    have c4b1 : (t168 != 0) = false := bne_eq_false_iff_eq.mpr c4
    clear c4
    by_cases c5 : t170 = 0
    · rw [if_pos c5] at H
      have c5b0 : (t170 == 0) = true := beq_iff_eq.mpr c5
      have c5b1 : (t170 != 0) = false := bne_eq_false_iff_eq.mpr c5
      clear c5
      obtain rfl := Option.some.inj H
      go_enter Try.func68, Try.ntmps68
      go_wp2_with (first | ((with_reducible refine gate_callee (f := 71) rfl ?_); refine goesL_ (some 8) rfl rfl Try.func71 (by kernel_rfl) rfl #[.slice none 0 0, .agg #[.int .u64 1, .int .u64 0, .int .u64 0, .int .u64 5, .int .i64 1]] rfl (by (try simp only [List.map_toArray, List.map_cons, List.map_nil]); first | done | rfl | (simp only [List.length_drop, List.length_take]; rfl)) ?_; (refine (payment_Start.calls k _ _ ([] : List (S74)) 1 0 0 5 1 t165 t168 _ ?side1 ?side2 A1.out).mono ?_); (case side1 => exact Kd.C_nil _ _); (case side2 => exact Nat.le_refl _); rintro e w6 ⟨v166, rfl, ho0, hb⟩; refine ⟨_, rfl, ?_⟩; have n0_ := Aside0.mk (Kd.R_lower ho0 (below_size (belN HB))); have n1_ := Aside0.mk (below_step (belN HB) hb); clear HB; have HO167 := n0_; have HB := n1_; clear n0_ n1_; (try clear hb); (try clear hb2); (try clear hk); (try clear hi); (try clear ho0); obtain ⟨Ao7, co7, eo7⟩ := Kd.R_slice HO167.out; subst eo7) | ((with_reducible refine gate_callee (f := 72) rfl ?_); refine goesL_ (some 13) rfl rfl Try.func72 (by kernel_rfl) rfl #[.slice Ao7 t165.length co7, .int .u64 1, .bool true] rfl (by (try simp only [List.map_toArray, List.map_cons, List.map_nil]); first | done | rfl | (simp only [List.length_drop, List.length_take]; rfl)) ?_; (with_reducible refine (payment_End.calls k _ _ t165 1 true t169 t170 _ ?side1 ?side2 A2.out).mono ?_); (case side1 => exact Kd.CN (Kd.R_reads' HO167.out).2.2); (case side2 => exact (Kd.R_reads' HO167.out).2.1); rintro e w8 ⟨v171, rfl, ho0, hb⟩; refine ⟨_, rfl, ?_⟩; have n0_ := Aside0.mk (Kd.R_elder' (Kd.RN HO167) (Kd.R_base ho0) hb); have n1_ := Aside0.mk (Kd.R_lower (Kd.R_new' ho0 (Kd.R_lt (Kd.RN HO167))) (below_size (belN HB))); have n2_ := Aside0.mk (below_step (belN HB) hb); clear HO167; clear HB; have HO167 := n0_; have HO172 := n1_; have HB := n2_; clear n0_ n1_ n2_; (try clear hb); (try clear hb2); (try clear hk); (try clear hi); (try clear ho0); obtain ⟨Ao9, co9, eo9⟩ := Kd.R_slice HO172.out; subst eo9) | ((with_reducible refine gate_callee (f := 72) rfl ?_); refine goesL_ (some 18) rfl rfl Try.func72 (by kernel_rfl) rfl #[.slice Ao9 t169.length co9, .int .u64 1, .bool false] rfl (by (try simp only [List.map_toArray, List.map_cons, List.map_nil]); first | done | rfl | (simp only [List.length_drop, List.length_take]; rfl)) ?_; (with_reducible refine (payment_End.calls k _ _ t169 1 false t173 t174 _ ?side1 ?side2 A3.out).mono ?_); (case side1 => exact Kd.CN (Kd.R_reads' HO172.out).2.2); (case side2 => exact (Kd.R_reads' HO172.out).2.1); rintro e w10 ⟨v175, rfl, ho0, hb⟩; refine ⟨_, rfl, ?_⟩; have n0_ := Aside0.mk (Kd.R_elder' (Kd.RN HO167) (Kd.R_base ho0) hb); have n1_ := Aside0.mk (Kd.R_elder' (Kd.RN HO172) (Kd.R_base ho0) hb); have n2_ := Aside0.mk (Kd.R_lower (Kd.R_new' (Kd.R_new' ho0 (Kd.R_lt (Kd.RN HO167))) (Kd.R_lt (Kd.RN HO172))) (below_size (belN HB))); have n3_ := Aside0.mk (below_step (belN HB) hb); clear HO167; clear HO172; clear HB; have HO167 := n0_; have HO172 := n1_; have HO176 := n2_; have HB := n3_; clear n0_ n1_ n2_ n3_; (try clear hb); (try clear hb2); (try clear hk); (try clear hi); (try clear ho0)))
      go_ret
      exact ⟨by first | rfl | (simp [errW_none, errW_some] <;> rfl) | (simp [*, errW_none, errW_some] <;> rfl), by repeat (first | (with_reducible first | exact HB.out | apply below_alloc | apply pw_below_drewN | apply below_drew1) | exact HB.out)⟩
    · rw [if_neg c5] at H
      have c5b0 : (t170 == 0) = false := beq_eq_false_iff_ne.mpr c5
      have c5b1 : (t170 != 0) = true := bne_iff_ne.mpr c5
      obtain rfl := Option.some.inj H
      go_enter Try.func68, Try.ntmps68
      go_wp2_with (first | ((with_reducible refine gate_callee (f := 71) rfl ?_); refine goesL_ (some 8) rfl rfl Try.func71 (by kernel_rfl) rfl #[.slice none 0 0, .agg #[.int .u64 1, .int .u64 0, .int .u64 0, .int .u64 5, .int .i64 1]] rfl (by (try simp only [List.map_toArray, List.map_cons, List.map_nil]); first | done | rfl | (simp only [List.length_drop, List.length_take]; rfl)) ?_; (refine (payment_Start.calls k _ _ ([] : List (S74)) 1 0 0 5 1 t165 t168 _ ?side1 ?side2 A1.out).mono ?_); (case side1 => exact Kd.C_nil _ _); (case side2 => exact Nat.le_refl _); rintro e w11 ⟨v166, rfl, ho0, hb⟩; refine ⟨_, rfl, ?_⟩; have n0_ := Aside0.mk (Kd.R_lower ho0 (below_size (belN HB))); have n1_ := Aside0.mk (below_step (belN HB) hb); clear HB; have HO167 := n0_; have HB := n1_; clear n0_ n1_; (try clear hb); (try clear hb2); (try clear hk); (try clear hi); (try clear ho0); obtain ⟨Ao12, co12, eo12⟩ := Kd.R_slice HO167.out; subst eo12) | ((with_reducible refine gate_callee (f := 72) rfl ?_); refine goesL_ (some 13) rfl rfl Try.func72 (by kernel_rfl) rfl #[.slice Ao12 t165.length co12, .int .u64 1, .bool true] rfl (by (try simp only [List.map_toArray, List.map_cons, List.map_nil]); first | done | rfl | (simp only [List.length_drop, List.length_take]; rfl)) ?_; (with_reducible refine (payment_End.calls k _ _ t165 1 true t169 t170 _ ?side1 ?side2 A2.out).mono ?_); (case side1 => exact Kd.CN (Kd.R_reads' HO167.out).2.2); (case side2 => exact (Kd.R_reads' HO167.out).2.1); rintro e w13 ⟨v171, rfl, ho0, hb⟩; refine ⟨_, rfl, ?_⟩; have n0_ := Aside0.mk (Kd.R_elder' (Kd.RN HO167) (Kd.R_base ho0) hb); have n1_ := Aside0.mk (Kd.R_lower (Kd.R_new' ho0 (Kd.R_lt (Kd.RN HO167))) (below_size (belN HB))); have n2_ := Aside0.mk (below_step (belN HB) hb); clear HO167; clear HB; have HO167 := n0_; have HO172 := n1_; have HB := n2_; clear n0_ n1_ n2_; (try clear hb); (try clear hb2); (try clear hk); (try clear hi); (try clear ho0); obtain ⟨Ao14, co14, eo14⟩ := Kd.R_slice HO172.out; subst eo14) | ((with_reducible refine gate_callee (f := 72) rfl ?_); refine goesL_ (some 18) rfl rfl Try.func72 (by kernel_rfl) rfl #[.slice Ao14 t169.length co14, .int .u64 1, .bool false] rfl (by (try simp only [List.map_toArray, List.map_cons, List.map_nil]); first | done | rfl | (simp only [List.length_drop, List.length_take]; rfl)) ?_; (with_reducible refine (payment_End.calls k _ _ t169 1 false t173 t174 _ ?side1 ?side2 A3.out).mono ?_); (case side1 => exact Kd.CN (Kd.R_reads' HO172.out).2.2); (case side2 => exact (Kd.R_reads' HO172.out).2.1); rintro e w15 ⟨v175, rfl, ho0, hb⟩; refine ⟨_, rfl, ?_⟩; have n0_ := Aside0.mk (Kd.R_elder' (Kd.RN HO167) (Kd.R_base ho0) hb); have n1_ := Aside0.mk (Kd.R_elder' (Kd.RN HO172) (Kd.R_base ho0) hb); have n2_ := Aside0.mk (Kd.R_lower (Kd.R_new' (Kd.R_new' ho0 (Kd.R_lt (Kd.RN HO167))) (Kd.R_lt (Kd.RN HO172))) (below_size (belN HB))); have n3_ := Aside0.mk (below_step (belN HB) hb); clear HO167; clear HO172; clear HB; have HO167 := n0_; have HO172 := n1_; have HO176 := n2_; have HB := n3_; clear n0_ n1_ n2_ n3_; (try clear hb); (try clear hb2); (try clear hk); (try clear hi); (try clear ho0)))
      go_ret
      exact ⟨by first | rfl | (simp [errW_none, errW_some] <;> rfl) | (simp [*, errW_none, errW_some] <;> rfl), by repeat (first | (with_reducible first | exact HB.out | apply below_alloc | apply pw_below_drewN | apply below_drew1) | exact HB.out)⟩
  · rw [if_neg c4] at H
    have c4b0 : (t168 == 0) = false := beq_eq_false_iff_ne.mpr c4
    have c4b1 : (t168 != 0) = true := bne_iff_ne.mpr c4
    obtain rfl := Option.some.inj H
    go_enter Try.func68, Try.ntmps68
    go_wp2_with (first | ((with_reducible refine gate_callee (f := 71) rfl ?_); refine goesL_ (some 8) rfl rfl Try.func71 (by kernel_rfl) rfl #[.slice none 0 0, .agg #[.int .u64 1, .int .u64 0, .int .u64 0, .int .u64 5, .int .i64 1]] rfl (by (try simp only [List.map_toArray, List.map_cons, List.map_nil]); first | done | rfl | (simp only [List.length_drop, List.length_take]; rfl)) ?_; (refine (payment_Start.calls k _ _ ([] : List (S74)) 1 0 0 5 1 t165 t168 _ ?side1 ?side2 A1.out).mono ?_); (case side1 => exact Kd.C_nil _ _); (case side2 => exact Nat.le_refl _); rintro e w16 ⟨v166, rfl, ho0, hb⟩; refine ⟨_, rfl, ?_⟩; have n0_ := Aside0.mk (Kd.R_lower ho0 (below_size (belN HB))); have n1_ := Aside0.mk (below_step (belN HB) hb); clear HB; have HO167 := n0_; have HB := n1_; clear n0_ n1_; (try clear hb); (try clear hb2); (try clear hk); (try clear hi); (try clear ho0); obtain ⟨Ao17, co17, eo17⟩ := Kd.R_slice HO167.out; subst eo17) | ((with_reducible refine gate_callee (f := 72) rfl ?_); refine goesL_ (some 13) rfl rfl Try.func72 (by kernel_rfl) rfl #[.slice Ao17 t165.length co17, .int .u64 1, .bool true] rfl (by (try simp only [List.map_toArray, List.map_cons, List.map_nil]); first | done | rfl | (simp only [List.length_drop, List.length_take]; rfl)) ?_; (with_reducible refine (payment_End.calls k _ _ t165 1 true t169 t170 _ ?side1 ?side2 A2.out).mono ?_); (case side1 => exact Kd.CN (Kd.R_reads' HO167.out).2.2); (case side2 => exact (Kd.R_reads' HO167.out).2.1); rintro e w18 ⟨v171, rfl, ho0, hb⟩; refine ⟨_, rfl, ?_⟩; have n0_ := Aside0.mk (Kd.R_elder' (Kd.RN HO167) (Kd.R_base ho0) hb); have n1_ := Aside0.mk (Kd.R_lower (Kd.R_new' ho0 (Kd.R_lt (Kd.RN HO167))) (below_size (belN HB))); have n2_ := Aside0.mk (below_step (belN HB) hb); clear HO167; clear HB; have HO167 := n0_; have HO172 := n1_; have HB := n2_; clear n0_ n1_ n2_; (try clear hb); (try clear hb2); (try clear hk); (try clear hi); (try clear ho0); obtain ⟨Ao19, co19, eo19⟩ := Kd.R_slice HO172.out; subst eo19) | ((with_reducible refine gate_callee (f := 72) rfl ?_); refine goesL_ (some 18) rfl rfl Try.func72 (by kernel_rfl) rfl #[.slice Ao19 t169.length co19, .int .u64 1, .bool false] rfl (by (try simp only [List.map_toArray, List.map_cons, List.map_nil]); first | done | rfl | (simp only [List.length_drop, List.length_take]; rfl)) ?_; (with_reducible refine (payment_End.calls k _ _ t169 1 false t173 t174 _ ?side1 ?side2 A3.out).mono ?_); (case side1 => exact Kd.CN (Kd.R_reads' HO172.out).2.2); (case side2 => exact (Kd.R_reads' HO172.out).2.1); rintro e w20 ⟨v175, rfl, ho0, hb⟩; refine ⟨_, rfl, ?_⟩; have n0_ := Aside0.mk (Kd.R_elder' (Kd.RN HO167) (Kd.R_base ho0) hb); have n1_ := Aside0.mk (Kd.R_elder' (Kd.RN HO172) (Kd.R_base ho0) hb); have n2_ := Aside0.mk (Kd.R_lower (Kd.R_new' (Kd.R_new' ho0 (Kd.R_lt (Kd.RN HO167))) (Kd.R_lt (Kd.RN HO172))) (below_size (belN HB))); have n3_ := Aside0.mk (below_step (belN HB) hb); clear HO167; clear HO172; clear HB; have HO167 := n0_; have HO172 := n1_; have HO176 := n2_; have HB := n3_; clear n0_ n1_ n2_ n3_; (try clear hb); (try clear hb2); (try clear hk); (try clear hi); (try clear ho0)))
    go_ret
    exact ⟨by first | rfl | (simp [errW_none, errW_some] <;> rfl) | (simp [*, errW_none, errW_some] <;> rfl), by repeat (first | (with_reducible first | exact HB.out | apply below_alloc | apply pw_below_drewN | apply below_drew1) | exact HB.out)⟩

/-! ### damsonlaw13_few: function 69 -/
def damsonlaw13_few.f (l0 : List (S74)) : Option (Bool) := if (l0.length : Int) ≤ 40 then (some true) else (if (l0.length : Int) ≥ 256 then (some (decide ((l0.length : Int) ≤ 258))) else (some false))
set_option maxHeartbeats 8000000 in
set_option maxRecDepth 100000 in
theorem damsonlaw13_few.calls (A0 : Option Addr) (c0 : Nat) (l0 : List (S74)) (r : Bool) (w : World) (hr0 : Kd.C k74 w A0 l0.length l0) (hc0 : l0.length ≤ c0) (h : damsonlaw13_few.f l0 = some r) :
    Calls Try.prog 69 #[.slice A0 l0.length c0] w fun e w' => e = .returned (.bool r) ∧ Drawn0 w w' := by
  have HR0 := Aside0.mk hr0
  have HC0 := Aside0.mk hc0
  clear hr0 hc0
  have H : (if (l0.length : Int) ≤ 40 then (some true) else (if (l0.length : Int) ≥ 256 then (some (decide ((l0.length : Int) ≤ 258))) else (some false))) = some r := h
  clear h
  by_cases c2 : (l0.length : Int) ≤ 40
  · rw [if_pos c2] at H
    have c2b0 : decide ((l0.length : Int) ≤ 40) = true := decide_eq_true c2
    have c2b1 : decide (l0.length ≤ 40) = true := decide_eq_true (by omega)
    clear c2
    obtain rfl := Option.some.inj H
    go_enter Try.func69, Try.ntmps69
    go_wp2
    go_ret
    exact ⟨by first | rfl | (simp; done) | (simp [*]; done), by repeat (first | exact Drawn0.refl _ | apply Drawn0.step)⟩
  · rw [if_neg c2] at H
    have c2b0 : decide ((l0.length : Int) ≤ 40) = false := decide_eq_false c2
    have c2b1 : decide (l0.length ≤ 40) = false := decide_eq_false (by omega)
    clear c2
    by_cases c3 : (l0.length : Int) ≥ 256
    · rw [if_pos c3] at H
      have c3b0 : decide (256 ≤ (l0.length : Int)) = true := decide_eq_true c3
      have c3b1 : decide (256 ≤ l0.length) = true := decide_eq_true (by omega)
      clear c3
      obtain rfl := Option.some.inj H
      go_enter Try.func69, Try.ntmps69
      go_wp2
      go_ret
      exact ⟨by first | rfl | (simp; done) | (simp [*]; done), by repeat (first | exact Drawn0.refl _ | apply Drawn0.step)⟩
    · rw [if_neg c3] at H
      have c3b0 : decide (256 ≤ (l0.length : Int)) = false := decide_eq_false c3
      have c3b1 : decide (256 ≤ l0.length) = false := decide_eq_false (by omega)
      clear c3
      obtain rfl := Option.some.inj H
      go_enter Try.func69, Try.ntmps69
      go_wp2
      go_ret
      exact ⟨by first | rfl | (simp; done) | (simp [*]; done), by repeat (first | exact Drawn0.refl _ | apply Drawn0.step)⟩

/-! ### payment_Get: function 70 -/
def payment_Get.f (k : Nat) (l0 : List (S74)) (a1 : Int) : Option (Int × Int × Int × Int × Int × Int) := (payment_find.f k l0 a1).bind fun bt178 => (if bt178.2 = 0 then (if 0 ≤ bt178.1 then (if bt178.1 < (l0.length : Int) then (some ((rd_T74 l0 bt178.1).f0, (rd_T74 l0 bt178.1).f1, (rd_T74 l0 bt178.1).f2, (rd_T74 l0 bt178.1).f3, (rd_T74 l0 bt178.1).f4, 0)) else (none)) else (none)) else (some (0, 0, 0, 0, 0, bt178.2)))
theorem payment_Get.mono : ∀ a0 a1 k, LeO (payment_Get.f k a0 a1) (payment_Get.f (k + 1) a0 a1) := by
  intro a0 a1 k
  unfold payment_Get.f
  repeat' first
      | (with_reducible exact payment_find.mono _ _ _)
      | (with_reducible exact LeO.refl _)
      | (with_reducible exact LeO.none _)
      | (with_reducible refine LeO.ite ?_ ?_)
      | (with_reducible refine LeO.bind ?_ (fun _ => ?_))
      | exact payment_find.mono _ _ _
      | exact LeO.none _
      | refine LeO.ite ?_ ?_
      | refine LeO.bind ?_ (fun _ => ?_)
set_option maxHeartbeats 8000000 in
set_option maxRecDepth 100000 in
theorem payment_Get.calls (k : Nat) (A0 : Option Addr) (c0 : Nat) (l0 : List (S74)) (a1 : Int) (r1 : Int) (r2 : Int) (r3 : Int) (r4 : Int) (r5 : Int) (r6 : Int) (w : World) (hr0 : Kd.C k74 w A0 l0.length l0) (hc0 : l0.length ≤ c0) (h : payment_Get.f k l0 a1 = some (r1, r2, r3, r4, r5, r6)) :
    Calls Try.prog 70 #[.slice A0 l0.length c0, .int .u64 a1] w fun e w' => e = .returned (.tuple #[.agg #[.int .u64 r1, .int .u64 r2, .int .u64 r3, .int .u64 r4, .int .i64 r5], .int .i64 r6]) ∧ Below w.heap.size w w' := by
  have hu74 := Try.underlying74
  have HR0 := Aside0.mk hr0
  have HC0 := Aside0.mk hc0
  clear hr0 hc0
  have HB := Aside0.mk (Below.refl w.heap.size w)
  have H : ((payment_find.f k l0 a1).bind fun bt178 => (if bt178.2 = 0 then (if 0 ≤ bt178.1 then (if bt178.1 < (l0.length : Int) then (some ((rd_T74 l0 bt178.1).f0, (rd_T74 l0 bt178.1).f1, (rd_T74 l0 bt178.1).f2, (rd_T74 l0 bt178.1).f3, (rd_T74 l0 bt178.1).f4, 0)) else (none)) else (none)) else (some (0, 0, 0, 0, 0, bt178.2)))) = some (r1, r2, r3, r4, r5, r6) := h
  clear h
  replace H := Option.bind_eq_some_iff.mp H
  obtain ⟨⟨t178, t179⟩, A30, H⟩ := H
  replace H : (if t179 = 0 then (if 0 ≤ t178 then (if t178 < (l0.length : Int) then (some ((rd_T74 l0 t178).f0, (rd_T74 l0 t178).f1, (rd_T74 l0 t178).f2, (rd_T74 l0 t178).f3, (rd_T74 l0 t178).f4, 0)) else (none)) else (none)) else (some (0, 0, 0, 0, 0, t179))) = some (r1, r2, r3, r4, r5, r6) := H
  have A3 := Aside0.mk A30
  clear A30
  by_cases c4 : t179 = 0
  · rw [if_pos c4] at H
    have c4b0 : (t179 == 0) = true := beq_iff_eq.mpr c4
    have c4b1 : (t179 != 0) = false := bne_eq_false_iff_eq.mpr c4
    clear c4
    by_cases c5 : 0 ≤ t178
    · rw [if_pos c5] at H
      have c5b0 : decide (0 ≤ t178) = true := decide_eq_true c5
      clear c5
      by_cases c6 : t178 < (l0.length : Int)
      · rw [if_pos c6] at H
        have c6b0 : decide (t178 < (l0.length : Int)) = true := decide_eq_true c6
        clear c6
        simp only [Option.some.injEq, Prod.mk.injEq] at H
        obtain ⟨rfl, rfl, rfl, rfl, rfl, rfl⟩ := H
        go_enter Try.func70, Try.ntmps70
        go_wp2_with (first | ((with_reducible refine gate_dst (N := 4) rfl ?_); refine box_event ?hg (N := 4) ?hd (cs := #[.int .u64 0, .int .u64 0, .int .u64 0, .int .u64 0, .int .i64 0]) (t := 74) ?hr ?_; (case hd => rfl); (case hg => rfl); (case hr => first | (go_simp; done) | (go_simp; rfl)); intro gb177 hg w7 hbox hb; have n0_ := Aside0.mk (below_step (belN HB) hb); have n1_ := Aside0.mk (hbox); have n2_ := Aside0.mk ((by rw [hg]; exact (below_size (belN HB)) : w.heap.size ≤ gb177)); have n3_ := Aside0.mk ((by rw [hg]; exact (below_size (belN HB)) : w.heap.size ≤ gb177)); clear HB; have HB := n0_; have BK177 := n1_; have GW177 := n2_; have GE177 := n3_; clear n0_ n1_ n2_ n3_; clear hb hbox hg) | ((with_reducible refine gate_callee (f := 115) rfl ?_); refine goesL_ (some 11) rfl rfl Try.func115 (by kernel_rfl) rfl #[.slice A0 l0.length c0, .int .u64 a1] rfl (by (try simp only [List.map_toArray, List.map_cons, List.map_nil]); first | done | rfl | (simp only [List.length_drop, List.length_take]; rfl)) ?_; (with_reducible refine (payment_find.calls k _ _ l0 a1 t178 t179 _ ?side1 ?side2 A3.out).mono ?_); (case side1 => repeat (first | exact (Kd.C_below HR0.out HB.out) | (with_reducible refine Kd.C_alloc ?_ _) | (with_reducible refine Kd.C_drewN ?_ _) | (with_reducible refine Kd.C_drew ?_))); (case side2 => exact HC0.out); rintro e w8 ⟨rfl, hb⟩; refine ⟨_, rfl, ?_⟩; have n0_ := Aside0.mk (blk_below (g := gb177) (blkN BK177) hb); have n1_ := Aside0.mk (below_step (belN HB) hb); clear BK177; clear HB; have BK177 := n0_; have HB := n1_; clear n0_ n1_; (try clear hb); (try clear hb2); (try clear hk); (try clear hi); have p180 : 0 ≤ (t178 : Int) := of_decide_eq_true (by first | (with_reducible assumption) | assumption); have q180 : t178 < (l0.length : Int) := of_decide_eq_true (by first | (with_reducible assumption) | assumption); obtain ⟨ad180, e180, hx180_0, hx180_1, hx180_2, hx180_3, hx180_4⟩ := at_T74 HR0.out t178 p180 q180; cases e180; replace hx180_0 := (HB.out.cell (World.block_lt_of_cell? w _ hx180_0)).trans hx180_0; replace hx180_1 := (HB.out.cell (World.block_lt_of_cell? w _ hx180_1)).trans hx180_1; replace hx180_2 := (HB.out.cell (World.block_lt_of_cell? w _ hx180_2)).trans hx180_2; replace hx180_3 := (HB.out.cell (World.block_lt_of_cell? w _ hx180_3)).trans hx180_3; replace hx180_4 := (HB.out.cell (World.block_lt_of_cell? w _ hx180_4)).trans hx180_4; replace p180 := eq_true p180; replace q180 := eq_true q180; obtain ⟨hcz9_0, hcz9_1, hcz9_2, hcz9_3, hcz9_4, hfz9_0, hfz9_1, hfz9_2, hfz9_3, hfz9_4⟩ := cz5_ (w := w8) BK177.out) | ((with_reducible refine gate_store (t := 74) (p := 4) rfl ?_); refine store_event (t := 74) (p := 4) (v := ?vo_w10) (w1 := (((((w8.setCell ⟨gb177, 0, none⟩ (.int .u64 ((rd_T74 l0 t178).f0))).setCell ⟨gb177, 1, none⟩ (.int .u64 ((rd_T74 l0 t178).f1))).setCell ⟨gb177, 2, none⟩ (.int .u64 ((rd_T74 l0 t178).f2))).setCell ⟨gb177, 3, none⟩ (.int .u64 ((rd_T74 l0 t178).f3))).setCell ⟨gb177, 4, none⟩ (.int .i64 ((rd_T74 l0 t178).f4)))) ?hg ?ho ?hn ?hr ?_; (case ho => rfl); (case hg => rfl); (case hn => rfl); (case hr => first | (go_simp; done) | (go_simp; rfl)); intro w10 hw; have n0_ : Aside0 (w10.heap[gb177]? = some (.cells #[.int .u64 ((rd_T74 l0 t178).f0), .int .u64 ((rd_T74 l0 t178).f1), .int .u64 ((rd_T74 l0 t178).f2), .int .u64 ((rd_T74 l0 t178).f3), .int .i64 ((rd_T74 l0 t178).f4)] 74 (0, 0))) := ⟨(by rw [hw]; exact (by (with_reducible repeat (first | refine blk_drewN ?_ _ | refine blk_drew ?_ | refine blk_alloc ?_ _)); refine blk_put (cs := #[.int .u64 ((rd_T74 l0 t178).f0), .int .u64 ((rd_T74 l0 t178).f1), .int .u64 ((rd_T74 l0 t178).f2), .int .u64 ((rd_T74 l0 t178).f3), .int .i64 0]) ?_ 4 _ rfl; refine blk_put (cs := #[.int .u64 ((rd_T74 l0 t178).f0), .int .u64 ((rd_T74 l0 t178).f1), .int .u64 ((rd_T74 l0 t178).f2), .int .u64 0, .int .i64 0]) ?_ 3 _ rfl; refine blk_put (cs := #[.int .u64 ((rd_T74 l0 t178).f0), .int .u64 ((rd_T74 l0 t178).f1), .int .u64 0, .int .u64 0, .int .i64 0]) ?_ 2 _ rfl; refine blk_put (cs := #[.int .u64 ((rd_T74 l0 t178).f0), .int .u64 0, .int .u64 0, .int .u64 0, .int .i64 0]) ?_ 1 _ rfl; refine blk_put (cs := #[.int .u64 0, .int .u64 0, .int .u64 0, .int .u64 0, .int .i64 0]) ?_ 0 _ rfl; (with_reducible repeat (first | refine blk_drewN ?_ _ | refine blk_drew ?_ | refine blk_alloc ?_ _)); exact BK177.out))⟩; have n1_ : Aside0 (Below w.heap.size w w10) := ⟨(by rw [hw]; exact (belN HB))⟩; clear hw; clear BK177; clear HB; have BK177 := n0_; have HB := n1_; clear n0_ n1_))
        refine bodyPost_ret (results_ct rfl _ _ gb177 74 #[.int .u64 ((rd_T74 l0 t178).f0), .int .u64 ((rd_T74 l0 t178).f1), .int .u64 ((rd_T74 l0 t178).f2), .int .u64 ((rd_T74 l0 t178).f3), .int .i64 ((rd_T74 l0 t178).f4)] (0, 0) _ rfl (blkN BK177) Try.underlying74 rfl (by kernel_rfl)) rfl ?_
        exact ⟨by first | rfl | (simp [errW_none, errW_some] <;> rfl) | (simp [*, errW_none, errW_some] <;> rfl), by repeat (first | (with_reducible first | exact HB.out | apply below_alloc | apply pw_below_drewN | apply below_drew1 | refine below_set ?_ GE177.out) | exact HB.out)⟩
      · rw [if_neg c6] at H
        exact absurd H (by simp)
    · rw [if_neg c5] at H
      exact absurd H (by simp)
  · rw [if_neg c4] at H
    have c4b0 : (t179 == 0) = false := beq_eq_false_iff_ne.mpr c4
    have c4b1 : (t179 != 0) = true := bne_iff_ne.mpr c4
    simp only [Option.some.injEq, Prod.mk.injEq] at H
    obtain ⟨rfl, rfl, rfl, rfl, rfl, rfl⟩ := H
    go_enter Try.func70, Try.ntmps70
    go_wp2_with (first | ((with_reducible refine gate_dst (N := 4) rfl ?_); refine box_event ?hg (N := 4) ?hd (cs := #[.int .u64 0, .int .u64 0, .int .u64 0, .int .u64 0, .int .i64 0]) (t := 74) ?hr ?_; (case hd => rfl); (case hg => rfl); (case hr => first | (go_simp; done) | (go_simp; rfl)); intro gb177 hg w11 hbox hb; have n0_ := Aside0.mk (below_step (belN HB) hb); have n1_ := Aside0.mk (hbox); have n2_ := Aside0.mk ((by rw [hg]; exact (below_size (belN HB)) : w.heap.size ≤ gb177)); have n3_ := Aside0.mk ((by rw [hg]; exact (below_size (belN HB)) : w.heap.size ≤ gb177)); clear HB; have HB := n0_; have BK177 := n1_; have GW177 := n2_; have GE177 := n3_; clear n0_ n1_ n2_ n3_; clear hb hbox hg) | ((with_reducible refine gate_callee (f := 115) rfl ?_); refine goesL_ (some 11) rfl rfl Try.func115 (by kernel_rfl) rfl #[.slice A0 l0.length c0, .int .u64 a1] rfl (by (try simp only [List.map_toArray, List.map_cons, List.map_nil]); first | done | rfl | (simp only [List.length_drop, List.length_take]; rfl)) ?_; (with_reducible refine (payment_find.calls k _ _ l0 a1 t178 t179 _ ?side1 ?side2 A3.out).mono ?_); (case side1 => repeat (first | exact (Kd.C_below HR0.out HB.out) | (with_reducible refine Kd.C_alloc ?_ _) | (with_reducible refine Kd.C_drewN ?_ _) | (with_reducible refine Kd.C_drew ?_))); (case side2 => exact HC0.out); rintro e w12 ⟨rfl, hb⟩; refine ⟨_, rfl, ?_⟩; have n0_ := Aside0.mk (blk_below (g := gb177) (blkN BK177) hb); have n1_ := Aside0.mk (below_step (belN HB) hb); clear BK177; clear HB; have BK177 := n0_; have HB := n1_; clear n0_ n1_; (try clear hb); (try clear hb2); (try clear hk); (try clear hi); obtain ⟨hcz13_0, hcz13_1, hcz13_2, hcz13_3, hcz13_4, hfz13_0, hfz13_1, hfz13_2, hfz13_3, hfz13_4⟩ := cz5_ (w := w12) BK177.out) | ((with_reducible refine gate_store (t := 74) (p := 4) rfl ?_); refine store_event (t := 74) (p := 4) (v := ?vo_w14) (w1 := (((((w12.setCell ⟨gb177, 0, none⟩ (.int .u64 0)).setCell ⟨gb177, 1, none⟩ (.int .u64 0)).setCell ⟨gb177, 2, none⟩ (.int .u64 0)).setCell ⟨gb177, 3, none⟩ (.int .u64 0)).setCell ⟨gb177, 4, none⟩ (.int .i64 0))) ?hg ?ho ?hn ?hr ?_; (case ho => rfl); (case hg => rfl); (case hn => rfl); (case hr => first | (go_simp; done) | (go_simp; rfl)); intro w14 hw; have n0_ : Aside0 (w14.heap[gb177]? = some (.cells #[.int .u64 0, .int .u64 0, .int .u64 0, .int .u64 0, .int .i64 0] 74 (0, 0))) := ⟨(by rw [hw]; exact (by (with_reducible repeat (first | refine blk_drewN ?_ _ | refine blk_drew ?_ | refine blk_alloc ?_ _)); refine blk_put (cs := #[.int .u64 0, .int .u64 0, .int .u64 0, .int .u64 0, .int .i64 0]) ?_ 4 _ rfl; refine blk_put (cs := #[.int .u64 0, .int .u64 0, .int .u64 0, .int .u64 0, .int .i64 0]) ?_ 3 _ rfl; refine blk_put (cs := #[.int .u64 0, .int .u64 0, .int .u64 0, .int .u64 0, .int .i64 0]) ?_ 2 _ rfl; refine blk_put (cs := #[.int .u64 0, .int .u64 0, .int .u64 0, .int .u64 0, .int .i64 0]) ?_ 1 _ rfl; refine blk_put (cs := #[.int .u64 0, .int .u64 0, .int .u64 0, .int .u64 0, .int .i64 0]) ?_ 0 _ rfl; (with_reducible repeat (first | refine blk_drewN ?_ _ | refine blk_drew ?_ | refine blk_alloc ?_ _)); exact BK177.out))⟩; have n1_ : Aside0 (Below w.heap.size w w14) := ⟨(by rw [hw]; exact (belN HB))⟩; clear hw; clear BK177; clear HB; have BK177 := n0_; have HB := n1_; clear n0_ n1_))
    refine bodyPost_ret (results_ct rfl _ _ gb177 74 #[.int .u64 0, .int .u64 0, .int .u64 0, .int .u64 0, .int .i64 0] (0, 0) _ rfl (blkN BK177) Try.underlying74 rfl (by kernel_rfl)) rfl ?_
    exact ⟨by first | rfl | (simp [errW_none, errW_some] <;> rfl) | (simp [*, errW_none, errW_some] <;> rfl), by repeat (first | (with_reducible first | exact HB.out | apply below_alloc | apply pw_below_drewN | apply below_drew1 | refine below_set ?_ GE177.out) | exact HB.out)⟩

/-! ### slices_Equal_Payment: function 123 -/
def slices_Equal_Payment.l0 : Nat → List (S74) → List (S74) → Int → Int → Option (Bool)
  | 0, _, _, _, _ => none
  | k + 1, x0, x1, x12, x13 => if x13 < x12 then (if 0 ≤ x13 then (if x13 < (x0.length : Int) then (if x13 < (x1.length : Int) then (if (!(((rd_T74 x0 x13).f0) == ((rd_T74 x1 x13).f0)) || (!(((rd_T74 x0 x13).f1) == ((rd_T74 x1 x13).f1)) || (!(((rd_T74 x0 x13).f2) == ((rd_T74 x1 x13).f2)) || (!(((rd_T74 x0 x13).f3) == ((rd_T74 x1 x13).f3)) || (!(((rd_T74 x0 x13).f4) == ((rd_T74 x1 x13).f4))))))) = true then (some false) else (slices_Equal_Payment.l0 k x0 x1 x12 (wrap64 (x13 + 1)))) else (none)) else (none)) else (none)) else (some true)
def slices_Equal_Payment.f (k : Nat) (l0 : List (S74)) (l1 : List (S74)) : Option (Bool) := if (l0.length : Int) = (l1.length : Int) then (slices_Equal_Payment.l0 k l0 l1 (l0.length : Int) 0) else (some false)
theorem slices_Equal_Payment.mono_l : ∀ k, (∀ y0 y1 y2 y3, LeO (slices_Equal_Payment.l0 k y0 y1 y2 y3) (slices_Equal_Payment.l0 (k + 1) y0 y1 y2 y3))
  | 0 => fun _ _ _ _ r h => by simp [slices_Equal_Payment.l0] at h
  | k + 1 => by
    have ih0 := slices_Equal_Payment.mono_l k
    · intro y0 y1 y2 y3
      unfold slices_Equal_Payment.l0
      repeat' first
      | (with_reducible exact ih0 _ _ _ _)
      | (with_reducible exact LeO.refl _)
      | (with_reducible exact LeO.none _)
      | (with_reducible refine LeO.ite ?_ ?_)
      | (with_reducible refine LeO.bind ?_ (fun _ => ?_))
      | exact ih0 _ _ _ _
      | exact LeO.none _
      | refine LeO.ite ?_ ?_
      | refine LeO.bind ?_ (fun _ => ?_)
theorem slices_Equal_Payment.mono : ∀ a0 a1 k, LeO (slices_Equal_Payment.f k a0 a1) (slices_Equal_Payment.f (k + 1) a0 a1) := by
  intro a0 a1 k
  have ih0 := slices_Equal_Payment.mono_l k
  unfold slices_Equal_Payment.f
  repeat' first
      | (with_reducible exact ih0 _ _ _ _)
      | (with_reducible exact LeO.refl _)
      | (with_reducible exact LeO.none _)
      | (with_reducible refine LeO.ite ?_ ?_)
      | (with_reducible refine LeO.bind ?_ (fun _ => ?_))
      | exact ih0 _ _ _ _
      | exact LeO.none _
      | refine LeO.ite ?_ ?_
      | refine LeO.bind ?_ (fun _ => ?_)
set_option maxHeartbeats 8000000 in
set_option maxRecDepth 100000 in
theorem slices_Equal_Payment.calls (k : Nat) (A0 : Option Addr) (c0 : Nat) (l0 : List (S74)) (A1 : Option Addr) (c1 : Nat) (l1 : List (S74)) (r : Bool) (w : World) (hr0 : Kd.C k74 w A0 l0.length l0) (hc0 : l0.length ≤ c0) (hr1 : Kd.C k74 w A1 l1.length l1) (hc1 : l1.length ≤ c1) (h : slices_Equal_Payment.f k l0 l1 = some r) :
    Calls Try.prog 123 #[.slice A0 l0.length c0, .slice A1 l1.length c1] w fun e w' => e = .returned (.bool r) ∧ Drawn0 w w' := by
  have hu74 := Try.underlying74
  have HR0 := Aside0.mk hr0
  have HC0 := Aside0.mk hc0
  clear hr0 hc0
  have HR1 := Aside0.mk hr1
  have HC1 := Aside0.mk hc1
  clear hr1 hc1
  have H : (if (l0.length : Int) = (l1.length : Int) then (slices_Equal_Payment.l0 k l0 l1 (l0.length : Int) 0) else (some false)) = some r := h
  clear h
  by_cases c3 : (l0.length : Int) = (l1.length : Int)
  · rw [if_pos c3] at H
    have c3b0 : ((l0.length : Int) == (l1.length : Int)) = true := beq_iff_eq.mpr c3
    have c3b1 : ((l0.length : Int) != (l1.length : Int)) = false := bne_eq_false_iff_eq.mpr c3
    have c3b2 : (l0.length == l1.length) = true := by first | simpa using c3 | (simp at c3 ⊢; omega)
    clear c3
    have H' := Aside0.mk H
    clear H
    go_enter Try.func123, Try.ntmps123
    go_wp2
    repeat (go_quiet (fail); try go_wp2)
    go_loopg [13] k (fun kq v13 w' => ∃ (x13_1 : Int), v13 = .int .i64 x13_1 ∧ Aside0 (slices_Equal_Payment.l0 kq l0 l1 (l0.length : Int) x13_1 = some r) ∧ Aside0 (kq ≤ k) ∧ Drawn0 w w')
    case atStart => exact ⟨(0), (by first | rfl | (simp; done) | (simp [*]; done)), H', ⟨Nat.le_refl _⟩, by repeat (first | exact Drawn0.refl _ | apply Drawn0.step)⟩
    case round =>
      clear H'
      try clear c1
      try clear p2
      try clear c3
      try clear c3b0
      try clear c3b1
      try clear c3b2
      obtain ⟨x13_1, rfl, HA, HK1, ⟨m1, rfl⟩⟩ := hrel
      cases gk with
      | zero => exact absurd HA.out (by simp [slices_Equal_Payment.l0])
      | succ k1 =>
        have H := HA.out
        clear HA
        simp only [slices_Equal_Payment.l0] at H
        by_cases c4 : x13_1 < (l0.length : Int)
        · rw [if_pos c4] at H
          have c4b0 : decide (x13_1 < (l0.length : Int)) = true := decide_eq_true c4
          clear c4
          by_cases c5 : 0 ≤ x13_1
          · rw [if_pos c5] at H
            have c5b0 : decide (0 ≤ x13_1) = true := decide_eq_true c5
            clear c5
            by_cases c6 : x13_1 < (l0.length : Int)
            · rw [if_pos c6] at H
              have c6b0 : decide (x13_1 < (l0.length : Int)) = true := decide_eq_true c6
              clear c6
              by_cases c7 : x13_1 < (l1.length : Int)
              · rw [if_pos c7] at H
                have c7b0 : decide (x13_1 < (l1.length : Int)) = true := decide_eq_true c7
                clear c7
                by_cases c8 : (!(((rd_T74 l0 x13_1).f0) == ((rd_T74 l1 x13_1).f0)) || (!(((rd_T74 l0 x13_1).f1) == ((rd_T74 l1 x13_1).f1)) || (!(((rd_T74 l0 x13_1).f2) == ((rd_T74 l1 x13_1).f2)) || (!(((rd_T74 l0 x13_1).f3) == ((rd_T74 l1 x13_1).f3)) || (!(((rd_T74 l0 x13_1).f4) == ((rd_T74 l1 x13_1).f4))))))) = true
                · rw [if_pos c8] at H
                  have c8b0 : (!(((rd_T74 l0 x13_1).f0) == ((rd_T74 l1 x13_1).f0)) || (!(((rd_T74 l0 x13_1).f1) == ((rd_T74 l1 x13_1).f1)) || (!(((rd_T74 l0 x13_1).f2) == ((rd_T74 l1 x13_1).f2)) || (!(((rd_T74 l0 x13_1).f3) == ((rd_T74 l1 x13_1).f3)) || (!(((rd_T74 l0 x13_1).f4) == ((rd_T74 l1 x13_1).f4))))))) = true := c8
                  clear c8
                  obtain rfl := Option.some.inj H
                  have p181 : 0 ≤ (x13_1 : Int) := of_decide_eq_true (by first | (with_reducible assumption) | assumption)
                  have q181 : x13_1 < (l0.length : Int) := of_decide_eq_true (by first | (with_reducible assumption) | assumption)
                  obtain ⟨ad181, e181, hx181_0, hx181_1, hx181_2, hx181_3, hx181_4⟩ := at_T74 HR0.out x13_1 p181 q181
                  cases e181
                  replace p181 := eq_true p181
                  replace q181 := eq_true q181
                  have p182 : 0 ≤ (x13_1 : Int) := of_decide_eq_true (by first | (with_reducible assumption) | assumption)
                  have q182 : x13_1 < (l1.length : Int) := of_decide_eq_true (by first | (with_reducible assumption) | assumption)
                  obtain ⟨ad182, e182, hx182_0, hx182_1, hx182_2, hx182_3, hx182_4⟩ := at_T74 HR1.out x13_1 p182 q182
                  cases e182
                  replace p182 := eq_true p182
                  replace q182 := eq_true q182
                  go_wp2
                  repeat (go_quiet (fail); try go_wp2)
                  go_ret
                  exact ⟨by first | rfl | (simp; done) | (simp [*]; done), by repeat (first | exact Drawn0.refl _ | apply Drawn0.step)⟩
                · rw [if_neg c8] at H
                  have c8b0 : (!(((rd_T74 l0 x13_1).f0) == ((rd_T74 l1 x13_1).f0)) || (!(((rd_T74 l0 x13_1).f1) == ((rd_T74 l1 x13_1).f1)) || (!(((rd_T74 l0 x13_1).f2) == ((rd_T74 l1 x13_1).f2)) || (!(((rd_T74 l0 x13_1).f3) == ((rd_T74 l1 x13_1).f3)) || (!(((rd_T74 l0 x13_1).f4) == ((rd_T74 l1 x13_1).f4))))))) = false := by simpa using c8
                  clear c8
                  have H' := Aside0.mk H
                  clear H
                  have p181 : 0 ≤ (x13_1 : Int) := of_decide_eq_true (by first | (with_reducible assumption) | assumption)
                  have q181 : x13_1 < (l0.length : Int) := of_decide_eq_true (by first | (with_reducible assumption) | assumption)
                  obtain ⟨ad181, e181, hx181_0, hx181_1, hx181_2, hx181_3, hx181_4⟩ := at_T74 HR0.out x13_1 p181 q181
                  cases e181
                  replace p181 := eq_true p181
                  replace q181 := eq_true q181
                  have p182 : 0 ≤ (x13_1 : Int) := of_decide_eq_true (by first | (with_reducible assumption) | assumption)
                  have q182 : x13_1 < (l1.length : Int) := of_decide_eq_true (by first | (with_reducible assumption) | assumption)
                  obtain ⟨ad182, e182, hx182_0, hx182_1, hx182_2, hx182_3, hx182_4⟩ := at_T74 HR1.out x13_1 p182 q182
                  cases e182
                  replace p182 := eq_true p182
                  replace q182 := eq_true q182
                  go_wp2
                  repeat (go_quiet (fail); try go_wp2)
                  go_roundg k1
                  case measure => have := HK1.out; omega
                  case rel => exact ⟨(wrap64 (x13_1 + 1)), (by first | rfl | (simp; done) | (simp [*]; done)), H', ⟨by have := HK1.out; omega⟩, by repeat (first | exact Drawn0.refl _ | apply Drawn0.step)⟩
              · rw [if_neg c7] at H
                exact absurd H (by simp)
            · rw [if_neg c6] at H
              exact absurd H (by simp)
          · rw [if_neg c5] at H
            exact absurd H (by simp)
        · rw [if_neg c4] at H
          have c4b0 : decide (x13_1 < (l0.length : Int)) = false := decide_eq_false c4
          clear c4
          obtain rfl := Option.some.inj H
          go_wp2
          repeat (go_quiet (fail); try go_wp2)
          go_ret
          exact ⟨by first | rfl | (simp; done) | (simp [*]; done), by repeat (first | exact Drawn0.refl _ | apply Drawn0.step)⟩
  · rw [if_neg c3] at H
    have c3b0 : ((l0.length : Int) == (l1.length : Int)) = false := beq_eq_false_iff_ne.mpr c3
    have c3b1 : ((l0.length : Int) != (l1.length : Int)) = true := bne_iff_ne.mpr c3
    have c3b2 : (l0.length == l1.length) = false := by first | simpa using c3 | (simp at c3 ⊢; omega)
    obtain rfl := Option.some.inj H
    go_enter Try.func123, Try.ntmps123
    go_wp2
    repeat (go_quiet (fail); try go_wp2)
    go_ret
    exact ⟨by first | rfl | (simp; done) | (simp [*]; done), by repeat (first | exact Drawn0.refl _ | apply Drawn0.step)⟩

/-! ### payment_Same: function 74 -/
def payment_Same.f (k : Nat) (l0 : List (S74)) (l1 : List (S74)) : Option (Bool) := (slices_Equal_Payment.f k l0 l1).bind fun t183 => (some t183)
theorem payment_Same.mono : ∀ a0 a1 k, LeO (payment_Same.f k a0 a1) (payment_Same.f (k + 1) a0 a1) := by
  intro a0 a1 k
  unfold payment_Same.f
  repeat' first
      | (with_reducible exact slices_Equal_Payment.mono _ _ _)
      | (with_reducible exact LeO.refl _)
      | (with_reducible exact LeO.none _)
      | (with_reducible refine LeO.ite ?_ ?_)
      | (with_reducible refine LeO.bind ?_ (fun _ => ?_))
      | exact slices_Equal_Payment.mono _ _ _
      | exact LeO.none _
      | refine LeO.ite ?_ ?_
      | refine LeO.bind ?_ (fun _ => ?_)
set_option maxHeartbeats 8000000 in
set_option maxRecDepth 100000 in
theorem payment_Same.calls (k : Nat) (A0 : Option Addr) (c0 : Nat) (l0 : List (S74)) (A1 : Option Addr) (c1 : Nat) (l1 : List (S74)) (r : Bool) (w : World) (hr0 : Kd.C k74 w A0 l0.length l0) (hc0 : l0.length ≤ c0) (hr1 : Kd.C k74 w A1 l1.length l1) (hc1 : l1.length ≤ c1) (h : payment_Same.f k l0 l1 = some r) :
    Calls Try.prog 74 #[.slice A0 l0.length c0, .slice A1 l1.length c1] w fun e w' => e = .returned (.bool r) ∧ Drawn0 w w' := by
  have HR0 := Aside0.mk hr0
  have HC0 := Aside0.mk hc0
  clear hr0 hc0
  have HR1 := Aside0.mk hr1
  have HC1 := Aside0.mk hc1
  clear hr1 hc1
  have H : ((slices_Equal_Payment.f k l0 l1).bind fun t183 => (some t183)) = some r := h
  clear h
  replace H := Option.bind_eq_some_iff.mp H
  obtain ⟨t183, A30, H⟩ := H
  replace H : (some t183) = some r := H
  have A3 := Aside0.mk A30
  clear A30
  obtain rfl := Option.some.inj H
  go_enter Try.func74, Try.ntmps74
  go_wp2_with (first | ((with_reducible refine gate_callee (f := 123) rfl ?_); refine goesL_ (some 7) rfl rfl Try.func123 (by kernel_rfl) rfl #[.slice A0 l0.length c0, .slice A1 l1.length c1] rfl (by (try simp only [List.map_toArray, List.map_cons, List.map_nil]); first | done | rfl | (simp only [List.length_drop, List.length_take]; rfl)) ?_; (with_reducible refine (slices_Equal_Payment.calls k _ _ l0 _ _ l1 t183 _ ?side1 ?side2 ?side3 ?side4 A3.out).mono ?_); (case side1 => repeat (first | exact HR0.out | (with_reducible refine Kd.C_alloc ?_ _) | (with_reducible refine Kd.C_drewN ?_ _) | (with_reducible refine Kd.C_drew ?_))); (case side2 => exact HC0.out); (case side3 => repeat (first | exact HR1.out | (with_reducible refine Kd.C_alloc ?_ _) | (with_reducible refine Kd.C_drewN ?_ _) | (with_reducible refine Kd.C_drew ?_))); (case side4 => exact HC1.out); rintro e w' ⟨rfl, ⟨nd, rfl⟩⟩; refine ⟨_, rfl, ?_⟩))
  go_ret
  exact ⟨by first | rfl | (simp; done) | (simp [*]; done), by repeat (first | exact Drawn0.refl _ | apply Drawn0.step)⟩

/-! ### money_Add: function 124 -/
def money_Add.l0 : Nat → Int → List Int → Int → Int → Option (Int × Int)
  | 0, _, _, _, _ => none
  | k + 1, x2, x11, x12, x13 => if x13 < x12 then (if 0 ≤ x13 then (if x13 < (x11.length : Int) then (if (IntKind.u64.wrap (x2 + (rd x11 x13))) > 4611686018427387904 then (some (0, 8)) else (money_Add.l0 k (IntKind.u64.wrap (x2 + (rd x11 x13))) x11 x12 (wrap64 (x13 + 1)))) else (none)) else (none)) else (some (x2, 0))
def money_Add.f (k : Nat) (l0 : List Int) : Option (Int × Int) := (money_Check.f k l0).bind fun t184 => (if t184 = 0 then (money_Add.l0 k 0 l0 (l0.length : Int) 0) else (some (0, t184)))
theorem money_Add.mono_l : ∀ k, (∀ y0 y1 y2 y3, LeO (money_Add.l0 k y0 y1 y2 y3) (money_Add.l0 (k + 1) y0 y1 y2 y3))
  | 0 => fun _ _ _ _ r h => by simp [money_Add.l0] at h
  | k + 1 => by
    have ih0 := money_Add.mono_l k
    · intro y0 y1 y2 y3
      unfold money_Add.l0
      repeat' first
      | (with_reducible exact ih0 _ _ _ _)
      | (with_reducible exact money_Check.mono _ _)
      | (with_reducible exact LeO.refl _)
      | (with_reducible exact LeO.none _)
      | (with_reducible refine LeO.ite ?_ ?_)
      | (with_reducible refine LeO.bind ?_ (fun _ => ?_))
      | exact ih0 _ _ _ _
      | exact money_Check.mono _ _
      | exact LeO.none _
      | refine LeO.ite ?_ ?_
      | refine LeO.bind ?_ (fun _ => ?_)
theorem money_Add.mono : ∀ a0 k, LeO (money_Add.f k a0) (money_Add.f (k + 1) a0) := by
  intro a0 k
  have ih0 := money_Add.mono_l k
  unfold money_Add.f
  repeat' first
      | (with_reducible exact ih0 _ _ _ _)
      | (with_reducible exact money_Check.mono _ _)
      | (with_reducible exact LeO.refl _)
      | (with_reducible exact LeO.none _)
      | (with_reducible refine LeO.ite ?_ ?_)
      | (with_reducible refine LeO.bind ?_ (fun _ => ?_))
      | exact ih0 _ _ _ _
      | exact money_Check.mono _ _
      | exact LeO.none _
      | refine LeO.ite ?_ ?_
      | refine LeO.bind ?_ (fun _ => ?_)
set_option maxHeartbeats 8000000 in
set_option maxRecDepth 100000 in
theorem money_Add.calls (k : Nat) (A0 : Option Addr) (c0 : Nat) (l0 : List Int) (r1 : Int) (r2 : Int) (w : World) (hr0 : Kd.C (Kd.int .u64) w A0 l0.length l0) (hc0 : l0.length ≤ c0) (h : money_Add.f k l0 = some (r1, r2)) :
    Calls Try.prog 124 #[.slice A0 l0.length c0] w fun e w' => e = .returned (.tuple #[.int .u64 r1, .int .i64 r2]) ∧ Below w.heap.size w w' := by
  have HR0 := Aside0.mk hr0
  have HC0 := Aside0.mk hc0
  clear hr0 hc0
  have HB := Aside0.mk (Below.refl w.heap.size w)
  have H : ((money_Check.f k l0).bind fun t184 => (if t184 = 0 then (money_Add.l0 k 0 l0 (l0.length : Int) 0) else (some (0, t184)))) = some (r1, r2) := h
  clear h
  replace H := Option.bind_eq_some_iff.mp H
  obtain ⟨t184, A20, H⟩ := H
  replace H : (if t184 = 0 then (money_Add.l0 k 0 l0 (l0.length : Int) 0) else (some (0, t184))) = some (r1, r2) := H
  have A2 := Aside0.mk A20
  clear A20
  by_cases c3 : t184 = 0
  · rw [if_pos c3] at H
    have c3b0 : (t184 == 0) = true := beq_iff_eq.mpr c3
    have c3b1 : (t184 != 0) = false := bne_eq_false_iff_eq.mpr c3
    clear c3
    have H' := Aside0.mk H
    clear H
    go_enter Try.func124, Try.ntmps124
    go_wp2_with (first | ((with_reducible refine gate_callee (f := 87) rfl ?_); refine goesL_ (some 7) rfl rfl Try.func87 (by kernel_rfl) rfl #[.slice A0 l0.length c0] rfl (by (try simp only [List.map_toArray, List.map_cons, List.map_nil]); first | done | rfl | (simp only [List.length_drop, List.length_take]; rfl)) ?_; (with_reducible refine (money_Check.calls k _ _ l0 t184 _ ?side1 ?side2 A2.out).mono ?_); (case side1 => repeat (first | exact HR0.out | (with_reducible refine Kd.C_alloc ?_ _) | (with_reducible refine Kd.C_drewN ?_ _) | (with_reducible refine Kd.C_drew ?_))); (case side2 => exact HC0.out); rintro e w4 ⟨rfl, hb⟩; refine ⟨_, rfl, ?_⟩; have n0_ := Aside0.mk (below_step (belN HB) hb); clear HB; have HB := n0_; clear n0_; (try clear hb); (try clear hb2); (try clear hk); (try clear hi)))
    go_loopg [2, 13] k (fun kq v2 v13 w' => ∃ (x2_1 : Int) (x13_1 : Int), v2 = .int .u64 x2_1 ∧ v13 = .int .i64 x13_1 ∧ Aside0 (money_Add.l0 kq x2_1 l0 (l0.length : Int) x13_1 = some (r1, r2)) ∧ Aside0 (kq ≤ k) ∧ Aside0 (Below w.heap.size w w'))
    case atStart => exact ⟨(0), (0), (by first | rfl | (simp; done) | (simp [*]; done)), (by first | rfl | (simp; done) | (simp [*]; done)), H', ⟨Nat.le_refl _⟩, ⟨by repeat (first | (with_reducible first | exact HB.out | apply below_alloc | apply pw_below_drewN | apply below_drew1) | exact HB.out)⟩⟩
    case round =>
      clear H'
      try clear c1
      try clear p2
      try clear c3
      try clear c3b0
      try clear c3b1
      obtain ⟨x2_1, x13_1, rfl, rfl, HA, HK1, HB⟩ := hrel
      cases gk with
      | zero => exact absurd HA.out (by simp [money_Add.l0])
      | succ k1 =>
        have H := HA.out
        clear HA
        simp only [money_Add.l0] at H
        by_cases c5 : x13_1 < (l0.length : Int)
        · rw [if_pos c5] at H
          have c5b0 : decide (x13_1 < (l0.length : Int)) = true := decide_eq_true c5
          clear c5
          by_cases c6 : 0 ≤ x13_1
          · rw [if_pos c6] at H
            have c6b0 : decide (0 ≤ x13_1) = true := decide_eq_true c6
            clear c6
            by_cases c7 : x13_1 < (l0.length : Int)
            · rw [if_pos c7] at H
              have c7b0 : decide (x13_1 < (l0.length : Int)) = true := decide_eq_true c7
              clear c7
              by_cases c8 : (IntKind.u64.wrap (x2_1 + (rd l0 x13_1))) > 4611686018427387904
              · rw [if_pos c8] at H
                have c8b0 : decide (4611686018427387904 < (IntKind.u64.wrap (x2_1 + (rd l0 x13_1)))) = true := decide_eq_true c8
                clear c8
                simp only [Option.some.injEq, Prod.mk.injEq] at H
                obtain ⟨rfl, rfl⟩ := H
                have p185 : 0 ≤ (x13_1 : Int) := of_decide_eq_true (by first | (with_reducible assumption) | assumption)
                have q185 : x13_1 < (l0.length : Int) := of_decide_eq_true (by first | (with_reducible assumption) | assumption)
                obtain ⟨ad185, e185, hx185_0⟩ := Kd.at_int HR0.out x13_1 p185 q185
                cases e185
                replace hx185_0 := (HB.out.cell (World.block_lt_of_cell? w _ hx185_0)).trans hx185_0
                replace p185 := eq_true p185
                replace q185 := eq_true q185
                go_wp2
                go_ret2
                exact ⟨by first | rfl | (simp [errW_none, errW_some] <;> rfl) | (simp [*, errW_none, errW_some] <;> rfl), by repeat (first | (with_reducible first | exact HB.out | apply below_alloc | apply pw_below_drewN | apply below_drew1) | exact HB.out)⟩
              · rw [if_neg c8] at H
                have c8b0 : decide (4611686018427387904 < (IntKind.u64.wrap (x2_1 + (rd l0 x13_1)))) = false := decide_eq_false c8
                clear c8
                have H' := Aside0.mk H
                clear H
                have p185 : 0 ≤ (x13_1 : Int) := of_decide_eq_true (by first | (with_reducible assumption) | assumption)
                have q185 : x13_1 < (l0.length : Int) := of_decide_eq_true (by first | (with_reducible assumption) | assumption)
                obtain ⟨ad185, e185, hx185_0⟩ := Kd.at_int HR0.out x13_1 p185 q185
                cases e185
                replace hx185_0 := (HB.out.cell (World.block_lt_of_cell? w _ hx185_0)).trans hx185_0
                replace p185 := eq_true p185
                replace q185 := eq_true q185
                go_wp2
                go_roundg k1
                case measure => have := HK1.out; omega
                case rel => exact ⟨(IntKind.u64.wrap (x2_1 + (rd l0 x13_1))), (wrap64 (x13_1 + 1)), (by first | rfl | (simp; done) | (simp [*]; done)), (by first | rfl | (simp; done) | (simp [*]; done)), H', ⟨by have := HK1.out; omega⟩, ⟨by repeat (first | (with_reducible first | exact HB.out | apply below_alloc | apply pw_below_drewN | apply below_drew1) | exact HB.out)⟩⟩
            · rw [if_neg c7] at H
              exact absurd H (by simp)
          · rw [if_neg c6] at H
            exact absurd H (by simp)
        · rw [if_neg c5] at H
          have c5b0 : decide (x13_1 < (l0.length : Int)) = false := decide_eq_false c5
          clear c5
          simp only [Option.some.injEq, Prod.mk.injEq] at H
          obtain ⟨rfl, rfl⟩ := H
          go_wp2
          go_ret2
          exact ⟨by first | rfl | (simp [errW_none, errW_some] <;> rfl) | (simp [*, errW_none, errW_some] <;> rfl), by repeat (first | (with_reducible first | exact HB.out | apply below_alloc | apply pw_below_drewN | apply below_drew1) | exact HB.out)⟩
  · rw [if_neg c3] at H
    have c3b0 : (t184 == 0) = false := beq_eq_false_iff_ne.mpr c3
    have c3b1 : (t184 != 0) = true := bne_iff_ne.mpr c3
    simp only [Option.some.injEq, Prod.mk.injEq] at H
    obtain ⟨rfl, rfl⟩ := H
    go_enter Try.func124, Try.ntmps124
    go_wp2_with (first | ((with_reducible refine gate_callee (f := 87) rfl ?_); refine goesL_ (some 7) rfl rfl Try.func87 (by kernel_rfl) rfl #[.slice A0 l0.length c0] rfl (by (try simp only [List.map_toArray, List.map_cons, List.map_nil]); first | done | rfl | (simp only [List.length_drop, List.length_take]; rfl)) ?_; (with_reducible refine (money_Check.calls k _ _ l0 t184 _ ?side1 ?side2 A2.out).mono ?_); (case side1 => repeat (first | exact HR0.out | (with_reducible refine Kd.C_alloc ?_ _) | (with_reducible refine Kd.C_drewN ?_ _) | (with_reducible refine Kd.C_drew ?_))); (case side2 => exact HC0.out); rintro e w9 ⟨rfl, hb⟩; refine ⟨_, rfl, ?_⟩; have n0_ := Aside0.mk (below_step (belN HB) hb); clear HB; have HB := n0_; clear n0_; (try clear hb); (try clear hb2); (try clear hk); (try clear hi)))
    go_ret2
    exact ⟨by first | rfl | (simp [errW_none, errW_some] <;> rfl) | (simp [*, errW_none, errW_some] <;> rfl), by repeat (first | (with_reducible first | exact HB.out | apply below_alloc | apply pw_below_drewN | apply below_drew1) | exact HB.out)⟩

end Go.Proofs.Ytcfbcoinbecdfaa.P
