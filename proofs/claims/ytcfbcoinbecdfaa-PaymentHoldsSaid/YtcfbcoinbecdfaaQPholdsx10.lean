-- written by a program of this session (wip/print)
import Derived.Test.YtcfbcoinbecdfaaQPholdsx0
import Derived.Test.YtcfbcoinbecdfaaQPholdsx5
import Derived.Test.YtcfbcoinbecdfaaQPholdsx8
import Derived.Test.YtcfbcoinbecdfaaQPholdsx9
namespace Go.Proofs.Ytcfbcoinbecdfaa.P
open Go.RowKit Go.Proofs.YtcfbcoinbecdfaaW.PrintWords Go.Proofs.YtcfbcoinbecdfaaW.PrintLast Go.Proofs.YtcfbcoinbecdfaaW.PrintMore
attribute [local go_sem] max2_int min2_int max_two min_two max_three min_three max_four min_four run_sub64_   -- for this text's walks alone
set_option linter.unusedVariables false
set_option linter.unusedSimpArgs false

/-! ### payment_End: function 72 -/
def payment_End.f (k : Nat) (l0 : List (S74)) (a1 : Int) (a2 : Bool) : Option ((List (S74)) × Int) := (payment_find.f k l0 a1).bind fun bt278 => (if bt278.2 = 0 then (if 0 ≤ bt278.1 then (if bt278.1 < (l0.length : Int) then (if ((rd_T74 l0 bt278.1).f4) = 1 then ((slices_Clone_Payment.f l0).bind fun t281 => (if bt278.1 < (t281.length : Int) then ((some (t281.set (bt278.1 : Int).toNat (⟨(rd_T74 t281 bt278.1).f0, (rd_T74 t281 bt278.1).f1, (rd_T74 t281 bt278.1).f2, (rd_T74 t281 bt278.1).f3, 3⟩ : S74) : List (S74))).bind fun y284 => (if a2 = true then (some ((y284.set (bt278.1 : Int).toNat (⟨(rd_T74 y284 bt278.1).f0, (rd_T74 y284 bt278.1).f1, (rd_T74 y284 bt278.1).f2, (rd_T74 y284 bt278.1).f3, 2⟩ : S74)), 0)) else (some (y284, 0)))) else (none))) else (some (([] : List (S74)), 10))) else (none)) else (none)) else (some (([] : List (S74)), bt278.2)))
theorem payment_End.mono : ∀ a0 a1 a2 k, LeO (payment_End.f k a0 a1 a2) (payment_End.f (k + 1) a0 a1 a2) := by
  intro a0 a1 a2 k
  unfold payment_End.f
  repeat' first
      | (with_reducible exact payment_find.mono _ _ _)
      | (with_reducible exact LeO.refl _)
      | (with_reducible exact LeO.none _)
      | (with_reducible refine LeO.ite ?_ ?_)
      | (with_reducible refine LeO.bind ?_ (fun _ => ?_))
      | exact payment_find.mono _ _ _
      | exact LeO.none _
      | refine LeO.ite ?_ ?_
      | refine LeO.bind ?_ (fun _ => ?_)
set_option maxHeartbeats 8000000 in
set_option maxRecDepth 100000 in
theorem payment_End.calls (k : Nat) (A0 : Option Addr) (c0 : Nat) (l0 : List (S74)) (a1 : Int) (a2 : Bool) (r1 : List (S74)) (r2 : Int) (w : World) (hr0 : Kd.C k74 w A0 l0.length l0) (hc0 : l0.length ≤ c0) (h : payment_End.f k l0 a1 a2 = some (r1, r2)) :
    Calls Try.prog 72 #[.slice A0 l0.length c0, .int .u64 a1, .bool a2] w fun e w' => ∃ v0_ : Value, e = .returned (.tuple #[v0_, .int .i64 r2]) ∧ Kd.R k74 74 w' w.heap.size (fun _ => True) v0_ r1 ∧ Below w.heap.size w w' := by
  have HR0 := Aside0.mk hr0
  have HC0 := Aside0.mk hc0
  clear hr0 hc0
  have HB := Aside0.mk (Below.refl w.heap.size w)
  have H : ((payment_find.f k l0 a1).bind fun bt278 => (if bt278.2 = 0 then (if 0 ≤ bt278.1 then (if bt278.1 < (l0.length : Int) then (if ((rd_T74 l0 bt278.1).f4) = 1 then ((slices_Clone_Payment.f l0).bind fun t281 => (if bt278.1 < (t281.length : Int) then ((some (t281.set (bt278.1 : Int).toNat (⟨(rd_T74 t281 bt278.1).f0, (rd_T74 t281 bt278.1).f1, (rd_T74 t281 bt278.1).f2, (rd_T74 t281 bt278.1).f3, 3⟩ : S74) : List (S74))).bind fun y284 => (if a2 = true then (some ((y284.set (bt278.1 : Int).toNat (⟨(rd_T74 y284 bt278.1).f0, (rd_T74 y284 bt278.1).f1, (rd_T74 y284 bt278.1).f2, (rd_T74 y284 bt278.1).f3, 2⟩ : S74)), 0)) else (some (y284, 0)))) else (none))) else (some (([] : List (S74)), 10))) else (none)) else (none)) else (some (([] : List (S74)), bt278.2)))) = some (r1, r2) := h
  clear h
  replace H := Option.bind_eq_some_iff.mp H
  obtain ⟨⟨t278, t279⟩, A40, H⟩ := H
  replace H : (if t279 = 0 then (if 0 ≤ t278 then (if t278 < (l0.length : Int) then (if ((rd_T74 l0 t278).f4) = 1 then ((slices_Clone_Payment.f l0).bind fun t281 => (if t278 < (t281.length : Int) then ((some (t281.set (t278 : Int).toNat (⟨(rd_T74 t281 t278).f0, (rd_T74 t281 t278).f1, (rd_T74 t281 t278).f2, (rd_T74 t281 t278).f3, 3⟩ : S74) : List (S74))).bind fun y284 => (if a2 = true then (some ((y284.set (t278 : Int).toNat (⟨(rd_T74 y284 t278).f0, (rd_T74 y284 t278).f1, (rd_T74 y284 t278).f2, (rd_T74 y284 t278).f3, 2⟩ : S74)), 0)) else (some (y284, 0)))) else (none))) else (some (([] : List (S74)), 10))) else (none)) else (none)) else (some (([] : List (S74)), t279))) = some (r1, r2) := H
  have A4 := Aside0.mk A40
  clear A40
  by_cases c5 : t279 = 0
  · rw [if_pos c5] at H
    have c5b0 : (t279 == 0) = true := beq_iff_eq.mpr c5
    have c5b1 : (t279 != 0) = false := bne_eq_false_iff_eq.mpr c5
    clear c5
    by_cases c6 : 0 ≤ t278
    · rw [if_pos c6] at H
      have c6b0 : decide (0 ≤ t278) = true := decide_eq_true c6
      clear c6
      by_cases c7 : t278 < (l0.length : Int)
      · rw [if_pos c7] at H
        have c7b0 : decide (t278 < (l0.length : Int)) = true := decide_eq_true c7
        clear c7
        by_cases c8 : ((rd_T74 l0 t278).f4) = 1
        · rw [if_pos c8] at H
          have c8b0 : (((rd_T74 l0 t278).f4) == 1) = true := beq_iff_eq.mpr c8
          have c8b1 : (((rd_T74 l0 t278).f4) != 1) = false := bne_eq_false_iff_eq.mpr c8
          clear c8
          replace H := Option.bind_eq_some_iff.mp H
          obtain ⟨t281, A90, H⟩ := H
          replace H : (if t278 < (t281.length : Int) then ((some (t281.set (t278 : Int).toNat (⟨(rd_T74 t281 t278).f0, (rd_T74 t281 t278).f1, (rd_T74 t281 t278).f2, (rd_T74 t281 t278).f3, 3⟩ : S74) : List (S74))).bind fun y284 => (if a2 = true then (some ((y284.set (t278 : Int).toNat (⟨(rd_T74 y284 t278).f0, (rd_T74 y284 t278).f1, (rd_T74 y284 t278).f2, (rd_T74 y284 t278).f3, 2⟩ : S74)), 0)) else (some (y284, 0)))) else (none)) = some (r1, r2) := H
          have A9 := Aside0.mk A90
          clear A90
          by_cases c10 : t278 < (t281.length : Int)
          · rw [if_pos c10] at H
            have c10b0 : decide (t278 < (t281.length : Int)) = true := decide_eq_true c10
            clear c10
            obtain ⟨y284, hy284⟩ : ∃ y_ : List (S74), y_ = (t281.set (t278 : Int).toNat (⟨(rd_T74 t281 t278).f0, (rd_T74 t281 t278).f1, (rd_T74 t281 t278).f2, (rd_T74 t281 t278).f3, 3⟩ : S74)) := ⟨_, rfl⟩
            replace H : (if a2 = true then (some ((y284.set (t278 : Int).toNat (⟨(rd_T74 y284 t278).f0, (rd_T74 y284 t278).f1, (rd_T74 y284 t278).f2, (rd_T74 y284 t278).f3, 2⟩ : S74)), 0)) else (some (y284, 0))) = some (r1, r2) := by first | (rw [hy284]; with_reducible exact H) | (have H2_ := (Option.bind_some _ _).symm.trans H; rw [hy284]; with_reducible exact H2_) | (have H2_ := (Option.bind_some _ _).symm.trans H; with_reducible exact H2_) | with_reducible exact H | (rw [hy284]; exact H) | exact H
            have Ny284 := Aside0.mk hy284
            clear hy284
            by_cases c12 : a2 = true
            · subst c12
              have H1 : (some ((y284.set (t278 : Int).toNat (⟨(rd_T74 y284 t278).f0, (rd_T74 y284 t278).f1, (rd_T74 y284 t278).f2, (rd_T74 y284 t278).f3, 2⟩ : S74)), 0)) = some (r1, r2) := by rw [if_pos rfl] at H; exact H
              clear H
              have H := H1
              clear H1
              obtain ⟨y285, hy285⟩ : ∃ y_ : List (S74), y_ = (y284.set (t278 : Int).toNat (⟨(rd_T74 y284 t278).f0, (rd_T74 y284 t278).f1, (rd_T74 y284 t278).f2, (rd_T74 y284 t278).f3, 2⟩ : S74)) := ⟨_, rfl⟩
              replace H : (some (y285, 0)) = some (r1, r2) := by first | (rw [hy285]; with_reducible exact H) | (have H2_ := (Option.bind_some _ _).symm.trans H; rw [hy285]; with_reducible exact H2_) | (have H2_ := (Option.bind_some _ _).symm.trans H; with_reducible exact H2_) | with_reducible exact H | (rw [hy285]; exact H) | exact H
              have Ny285 := Aside0.mk hy285
              clear hy285
              simp only [Option.some.injEq, Prod.mk.injEq] at H
              obtain ⟨rfl, rfl⟩ := H
              go_enter Try.func72, Try.ntmps72
              go_wp2_with (first | ((with_reducible refine gate_callee (f := 115) rfl ?_); refine goesL_ (some 13) rfl rfl Try.func115 (by kernel_rfl) rfl #[.slice A0 l0.length c0, .int .u64 a1] rfl (by (try simp only [List.map_toArray, List.map_cons, List.map_nil]); first | done | rfl | (simp only [List.length_drop, List.length_take]; rfl)) ?_; (with_reducible refine (payment_find.calls k _ _ l0 a1 t278 t279 _ ?side1 ?side2 A4.out).mono ?_); (case side1 => repeat (first | exact HR0.out | (with_reducible refine Kd.C_alloc ?_ _) | (with_reducible refine Kd.C_drewN ?_ _) | (with_reducible refine Kd.C_drew ?_))); (case side2 => exact HC0.out); rintro e w14 ⟨rfl, hb⟩; refine ⟨_, rfl, ?_⟩; have n0_ := Aside0.mk (below_step (belN HB) hb); clear HB; have HB := n0_; clear n0_; (try clear hb); (try clear hb2); (try clear hk); (try clear hi); have p280 : 0 ≤ (t278 : Int) := of_decide_eq_true (by first | (with_reducible assumption) | assumption); have q280 : t278 < (l0.length : Int) := of_decide_eq_true (by first | (with_reducible assumption) | assumption); obtain ⟨ad280, e280, hx280_0, hx280_1, hx280_2, hx280_3, hx280_4⟩ := at_T74 HR0.out t278 p280 q280; cases e280; replace hx280_0 := (HB.out.cell (World.block_lt_of_cell? w _ hx280_0)).trans hx280_0; replace hx280_1 := (HB.out.cell (World.block_lt_of_cell? w _ hx280_1)).trans hx280_1; replace hx280_2 := (HB.out.cell (World.block_lt_of_cell? w _ hx280_2)).trans hx280_2; replace hx280_3 := (HB.out.cell (World.block_lt_of_cell? w _ hx280_3)).trans hx280_3; replace hx280_4 := (HB.out.cell (World.block_lt_of_cell? w _ hx280_4)).trans hx280_4; replace p280 := eq_true p280; replace q280 := eq_true q280) | ((with_reducible refine gate_callee (f := 117) rfl ?_); refine goesL_ (some 28) rfl rfl Try.func117 (by kernel_rfl) rfl #[.slice (some ad280) l0.length c0] rfl (by (try simp only [List.map_toArray, List.map_cons, List.map_nil]); first | done | rfl | (simp only [List.length_drop, List.length_take]; rfl)) ?_; (with_reducible refine (slices_Clone_Payment.calls _ _ l0 t281 _ ?side1 ?side2 A9.out).mono ?_); (case side1 => repeat (first | exact (Kd.C_below HR0.out HB.out) | (with_reducible refine Kd.C_alloc ?_ _) | (with_reducible refine Kd.C_drewN ?_ _) | (with_reducible refine Kd.C_drew ?_))); (case side2 => exact HC0.out); rintro e w15 ⟨v282, rfl, ho0, hb⟩; refine ⟨_, rfl, ?_⟩; have n0_ := Aside0.mk (Kd.R_lower ho0 (below_size (belN HB))); have n1_ := Aside0.mk (below_step (belN HB) hb); clear HB; have HO283 := n0_; have HB := n1_; clear n0_ n1_; (try clear hb); (try clear hb2); (try clear hk); (try clear hi); (try clear ho0); have p11 : 0 ≤ (t278 : Int) := of_decide_eq_true (by first | (with_reducible assumption) | assumption); have q11 : (t278 : Int) < ((t281.length : Int) : Int) := of_decide_eq_true (by first | (with_reducible assumption) | assumption); obtain ⟨go11, co11, eo11, gb11, gl11, cl11, HG11⟩ := Kd.R_form HO283.out (by omega); (first | cases eo11 | (injection eo11 with ea_ en_ ec_; (first | subst ea_ | (injection ea_ with ea_; subst ea_)); subst ec_; clear en_)); have GB11 := Aside0.mk gb11; have GG11 := Aside0.mk HG11; clear gb11 gl11 HG11; obtain ⟨ce11, hcl11, hM11, hcc11, hfr11⟩ := Kd.R_elem HO283.out z74 (t278 : Int) p11 q11; obtain rfl := k74_openM hM11; have hx11_0 : w15.cell? ⟨go11, (t278 : Int).toNat * 5, none⟩ = some (.int .u64 ((rd_T74 t281 t278).f0)) := hcc11 0 _ rfl; have hx11_1 : w15.cell? ⟨go11, (t278 : Int).toNat * 5 + 1, none⟩ = some (.int .u64 ((rd_T74 t281 t278).f1)) := hcc11 1 _ rfl; have hx11_2 : w15.cell? ⟨go11, (t278 : Int).toNat * 5 + 2, none⟩ = some (.int .u64 ((rd_T74 t281 t278).f2)) := hcc11 2 _ rfl; have hx11_3 : w15.cell? ⟨go11, (t278 : Int).toNat * 5 + 3, none⟩ = some (.int .u64 ((rd_T74 t281 t278).f3)) := hcc11 3 _ rfl; have hx11_4 : w15.cell? ⟨go11, (t278 : Int).toNat * 5 + 4, none⟩ = some (.int .i64 ((rd_T74 t281 t278).f4)) := hcc11 4 _ rfl; have hf11_0 : w15.frozen? ⟨go11, (t278 : Int).toNat * 5, none⟩ = false := hfr11 0; have hf11_1 : w15.frozen? ⟨go11, (t278 : Int).toNat * 5 + 1, none⟩ = false := hfr11 1; have hf11_2 : w15.frozen? ⟨go11, (t278 : Int).toNat * 5 + 2, none⟩ = false := hfr11 2; have hf11_3 : w15.frozen? ⟨go11, (t278 : Int).toNat * 5 + 3, none⟩ = false := hfr11 3; have hf11_4 : w15.frozen? ⟨go11, (t278 : Int).toNat * 5 + 4, none⟩ = false := hfr11 4; clear hcl11 hcc11 hfr11 hM11; replace p11 := eq_true p11; replace q11 := eq_true q11; have HX16 := Aside0.mk (show Kd.R k74 74 w15 w.heap.size (fun _ => True) (.slice (some ⟨go11, 0, none⟩) t281.length co11) t281 from (Kd.RN HO283)); obtain ⟨ce16, hcl16, hM16, hcc16, hfr16⟩ := Kd.R_elem HX16.out z74 (t278 : Int) (of_decide_eq_true (by first | (with_reducible assumption) | assumption)) (by have h_ : (t278 : Int) < ((t281.length : Int) : Int) := of_decide_eq_true (by first | (with_reducible assumption) | assumption); first | exact h_ | (have e_ := (Kd.R_reads' HO283.out).1; omega) | simpa using h_); obtain rfl := k74_openM hM16; have HP16 := Kd.R_seg HX16.out (t278 : Int) (of_decide_eq_true (by first | (with_reducible assumption) | assumption)) (by have h_ : (t278 : Int) < ((t281.length : Int) : Int) := of_decide_eq_true (by first | (with_reducible assumption) | assumption); first | exact h_ | (have e_ := (Kd.R_reads' HO283.out).1; omega) | simpa using h_) (seg := [.int .i64 3]) (j := 4) hcl16 hcc16 (show 5 ≤ 5 from by decide) (x' := (⟨(rd_T74 t281 t278).f0, (rd_T74 t281 t278).f1, (rd_T74 t281 t278).f2, (rd_T74 t281 t278).f3, 3⟩ : S74)) (k74_mkM _ _ _ (⟨(rd_T74 t281 t278).f0, (rd_T74 t281 t278).f1, (rd_T74 t281 t278).f2, (rd_T74 t281 t278).f3, 3⟩ : S74) ) (fun _ hk => hk); have hx16_4 := hcc16 4 _ rfl; (try simp only [show (k74).sz = 5 from rfl, Nat.mul_one, Nat.add_zero] at hx16_4); have hf16_4 := hfr16 4; (try simp only [show (k74).sz = 5 from rfl, Nat.mul_one, Nat.add_zero] at hf16_4); clear hcl16 hcc16 hfr16 hM16) | ((with_reducible refine gate_store (t := 3) (p := 32) rfl ?_); refine store_event (t := 3) (p := 32) (v := ?vo_w17) (w1 := (w15.setCell ⟨go11, (t278 : Int).toNat * 5 + 4, none⟩ (.int .i64 3))) ?hg ?ho ?hn ?hr ?_; (case ho => rfl); (case hg => rfl); (case hn => rfl); (case hr => first | (go_simp; done) | (go_simp; rfl)); intro w17 hw; have hg : w15.grownBy w17 (some go11) := (by rw [hw]; exact HP16.2); have hp_ : Kd.R k74 74 w17 w.heap.size (fun _ => True) (.slice (some ⟨go11, 0, none⟩) t281.length co11) y284 := (by rw [hw, Ny284.out]; exact HP16.1); clear HP16; have n0_ := Aside0.mk (hp_); have n1_ := Aside0.mk ((by rw [hw]; exact below_set (HB.out) GB11.out : Below w.heap.size w w17)); clear HO283; clear HB; have HO283 := n0_; have HB := n1_; clear n0_ n1_; clear hg hw hp_; have p13 : 0 ≤ (t278 : Int) := of_decide_eq_true (by first | (with_reducible assumption) | assumption); have q13 : (t278 : Int) < ((t281.length : Int) : Int) := of_decide_eq_true (by first | (with_reducible assumption) | assumption); obtain ⟨ce13, hcl13, hM13, hcc13, hfr13⟩ := Kd.R_elem HO283.out z74 (t278 : Int) p13 q13; obtain rfl := k74_openM hM13; have hx13_0 : w17.cell? ⟨go11, (t278 : Int).toNat * 5, none⟩ = some (.int .u64 ((rd_T74 y284 t278).f0)) := hcc13 0 _ rfl; have hx13_1 : w17.cell? ⟨go11, (t278 : Int).toNat * 5 + 1, none⟩ = some (.int .u64 ((rd_T74 y284 t278).f1)) := hcc13 1 _ rfl; have hx13_2 : w17.cell? ⟨go11, (t278 : Int).toNat * 5 + 2, none⟩ = some (.int .u64 ((rd_T74 y284 t278).f2)) := hcc13 2 _ rfl; have hx13_3 : w17.cell? ⟨go11, (t278 : Int).toNat * 5 + 3, none⟩ = some (.int .u64 ((rd_T74 y284 t278).f3)) := hcc13 3 _ rfl; have hx13_4 : w17.cell? ⟨go11, (t278 : Int).toNat * 5 + 4, none⟩ = some (.int .i64 ((rd_T74 y284 t278).f4)) := hcc13 4 _ rfl; have hf13_0 : w17.frozen? ⟨go11, (t278 : Int).toNat * 5, none⟩ = false := hfr13 0; have hf13_1 : w17.frozen? ⟨go11, (t278 : Int).toNat * 5 + 1, none⟩ = false := hfr13 1; have hf13_2 : w17.frozen? ⟨go11, (t278 : Int).toNat * 5 + 2, none⟩ = false := hfr13 2; have hf13_3 : w17.frozen? ⟨go11, (t278 : Int).toNat * 5 + 3, none⟩ = false := hfr13 3; have hf13_4 : w17.frozen? ⟨go11, (t278 : Int).toNat * 5 + 4, none⟩ = false := hfr13 4; clear hcl13 hcc13 hfr13 hM13; replace p13 := eq_true p13; replace q13 := eq_true q13; have HX18 := Aside0.mk (show Kd.R k74 74 w17 w.heap.size (fun _ => True) (.slice (some ⟨go11, 0, none⟩) t281.length co11) y284 from (Kd.RN HO283)); obtain ⟨ce18, hcl18, hM18, hcc18, hfr18⟩ := Kd.R_elem HX18.out z74 (t278 : Int) (of_decide_eq_true (by first | (with_reducible assumption) | assumption)) (by have h_ : (t278 : Int) < ((t281.length : Int) : Int) := of_decide_eq_true (by first | (with_reducible assumption) | assumption); first | exact h_ | (have e_ := (Kd.R_reads' HO283.out).1; omega) | simpa using h_); obtain rfl := k74_openM hM18; have HP18 := Kd.R_seg HX18.out (t278 : Int) (of_decide_eq_true (by first | (with_reducible assumption) | assumption)) (by have h_ : (t278 : Int) < ((t281.length : Int) : Int) := of_decide_eq_true (by first | (with_reducible assumption) | assumption); first | exact h_ | (have e_ := (Kd.R_reads' HO283.out).1; omega) | simpa using h_) (seg := [.int .i64 2]) (j := 4) hcl18 hcc18 (show 5 ≤ 5 from by decide) (x' := (⟨(rd_T74 y284 t278).f0, (rd_T74 y284 t278).f1, (rd_T74 y284 t278).f2, (rd_T74 y284 t278).f3, 2⟩ : S74)) (k74_mkM _ _ _ (⟨(rd_T74 y284 t278).f0, (rd_T74 y284 t278).f1, (rd_T74 y284 t278).f2, (rd_T74 y284 t278).f3, 2⟩ : S74) ) (fun _ hk => hk); have hx18_4 := hcc18 4 _ rfl; (try simp only [show (k74).sz = 5 from rfl, Nat.mul_one, Nat.add_zero] at hx18_4); have hf18_4 := hfr18 4; (try simp only [show (k74).sz = 5 from rfl, Nat.mul_one, Nat.add_zero] at hf18_4); clear hcl18 hcc18 hfr18 hM18) | ((with_reducible refine gate_store (t := 3) (p := 37) rfl ?_); refine store_event (t := 3) (p := 37) (v := ?vo_w19) (w1 := (w17.setCell ⟨go11, (t278 : Int).toNat * 5 + 4, none⟩ (.int .i64 2))) ?hg ?ho ?hn ?hr ?_; (case ho => rfl); (case hg => rfl); (case hn => rfl); (case hr => first | (go_simp; done) | (go_simp; rfl)); intro w19 hw; have hg : w17.grownBy w19 (some go11) := (by rw [hw]; exact HP18.2); have hp_ : Kd.R k74 74 w19 w.heap.size (fun _ => True) (.slice (some ⟨go11, 0, none⟩) t281.length co11) y285 := (by rw [hw, Ny285.out]; exact HP18.1); clear HP18; have n0_ := Aside0.mk (hp_); have n1_ := Aside0.mk ((by rw [hw]; exact below_set (HB.out) GB11.out : Below w.heap.size w w19)); clear HO283; clear HB; have HO283 := n0_; have HB := n1_; clear n0_ n1_; clear hg hw hp_))
              go_ret2
              exact ⟨_, by first | rfl | (simp [errW_none, errW_some] <;> rfl) | (simp [*, errW_none, errW_some] <;> rfl), by (with_reducible repeat (first | apply Kd.R_alloc | apply Kd.R_drewN | apply Kd.R_drew)); exact HO283.out, by repeat (first | (with_reducible first | exact HB.out | apply below_alloc | apply pw_below_drewN | apply below_drew1) | exact HB.out)⟩
            · replace c12 := Bool.eq_false_iff.mpr c12
              subst c12
              have H1 : (some (y284, 0)) = some (r1, r2) := by rw [if_neg (show ¬ (false = true) by decide)] at H; exact H
              clear H
              have H := H1
              clear H1
              simp only [Option.some.injEq, Prod.mk.injEq] at H
              obtain ⟨rfl, rfl⟩ := H
              go_enter Try.func72, Try.ntmps72
              go_wp2_with (first | ((with_reducible refine gate_callee (f := 115) rfl ?_); refine goesL_ (some 13) rfl rfl Try.func115 (by kernel_rfl) rfl #[.slice A0 l0.length c0, .int .u64 a1] rfl (by (try simp only [List.map_toArray, List.map_cons, List.map_nil]); first | done | rfl | (simp only [List.length_drop, List.length_take]; rfl)) ?_; (with_reducible refine (payment_find.calls k _ _ l0 a1 t278 t279 _ ?side1 ?side2 A4.out).mono ?_); (case side1 => repeat (first | exact HR0.out | (with_reducible refine Kd.C_alloc ?_ _) | (with_reducible refine Kd.C_drewN ?_ _) | (with_reducible refine Kd.C_drew ?_))); (case side2 => exact HC0.out); rintro e w20 ⟨rfl, hb⟩; refine ⟨_, rfl, ?_⟩; have n0_ := Aside0.mk (below_step (belN HB) hb); clear HB; have HB := n0_; clear n0_; (try clear hb); (try clear hb2); (try clear hk); (try clear hi); have p280 : 0 ≤ (t278 : Int) := of_decide_eq_true (by first | (with_reducible assumption) | assumption); have q280 : t278 < (l0.length : Int) := of_decide_eq_true (by first | (with_reducible assumption) | assumption); obtain ⟨ad280, e280, hx280_0, hx280_1, hx280_2, hx280_3, hx280_4⟩ := at_T74 HR0.out t278 p280 q280; cases e280; replace hx280_0 := (HB.out.cell (World.block_lt_of_cell? w _ hx280_0)).trans hx280_0; replace hx280_1 := (HB.out.cell (World.block_lt_of_cell? w _ hx280_1)).trans hx280_1; replace hx280_2 := (HB.out.cell (World.block_lt_of_cell? w _ hx280_2)).trans hx280_2; replace hx280_3 := (HB.out.cell (World.block_lt_of_cell? w _ hx280_3)).trans hx280_3; replace hx280_4 := (HB.out.cell (World.block_lt_of_cell? w _ hx280_4)).trans hx280_4; replace p280 := eq_true p280; replace q280 := eq_true q280) | ((with_reducible refine gate_callee (f := 117) rfl ?_); refine goesL_ (some 28) rfl rfl Try.func117 (by kernel_rfl) rfl #[.slice (some ad280) l0.length c0] rfl (by (try simp only [List.map_toArray, List.map_cons, List.map_nil]); first | done | rfl | (simp only [List.length_drop, List.length_take]; rfl)) ?_; (with_reducible refine (slices_Clone_Payment.calls _ _ l0 t281 _ ?side1 ?side2 A9.out).mono ?_); (case side1 => repeat (first | exact (Kd.C_below HR0.out HB.out) | (with_reducible refine Kd.C_alloc ?_ _) | (with_reducible refine Kd.C_drewN ?_ _) | (with_reducible refine Kd.C_drew ?_))); (case side2 => exact HC0.out); rintro e w21 ⟨v282, rfl, ho0, hb⟩; refine ⟨_, rfl, ?_⟩; have n0_ := Aside0.mk (Kd.R_lower ho0 (below_size (belN HB))); have n1_ := Aside0.mk (below_step (belN HB) hb); clear HB; have HO283 := n0_; have HB := n1_; clear n0_ n1_; (try clear hb); (try clear hb2); (try clear hk); (try clear hi); (try clear ho0); have p11 : 0 ≤ (t278 : Int) := of_decide_eq_true (by first | (with_reducible assumption) | assumption); have q11 : (t278 : Int) < ((t281.length : Int) : Int) := of_decide_eq_true (by first | (with_reducible assumption) | assumption); obtain ⟨go11, co11, eo11, gb11, gl11, cl11, HG11⟩ := Kd.R_form HO283.out (by omega); (first | cases eo11 | (injection eo11 with ea_ en_ ec_; (first | subst ea_ | (injection ea_ with ea_; subst ea_)); subst ec_; clear en_)); have GB11 := Aside0.mk gb11; have GG11 := Aside0.mk HG11; clear gb11 gl11 HG11; obtain ⟨ce11, hcl11, hM11, hcc11, hfr11⟩ := Kd.R_elem HO283.out z74 (t278 : Int) p11 q11; obtain rfl := k74_openM hM11; have hx11_0 : w21.cell? ⟨go11, (t278 : Int).toNat * 5, none⟩ = some (.int .u64 ((rd_T74 t281 t278).f0)) := hcc11 0 _ rfl; have hx11_1 : w21.cell? ⟨go11, (t278 : Int).toNat * 5 + 1, none⟩ = some (.int .u64 ((rd_T74 t281 t278).f1)) := hcc11 1 _ rfl; have hx11_2 : w21.cell? ⟨go11, (t278 : Int).toNat * 5 + 2, none⟩ = some (.int .u64 ((rd_T74 t281 t278).f2)) := hcc11 2 _ rfl; have hx11_3 : w21.cell? ⟨go11, (t278 : Int).toNat * 5 + 3, none⟩ = some (.int .u64 ((rd_T74 t281 t278).f3)) := hcc11 3 _ rfl; have hx11_4 : w21.cell? ⟨go11, (t278 : Int).toNat * 5 + 4, none⟩ = some (.int .i64 ((rd_T74 t281 t278).f4)) := hcc11 4 _ rfl; have hf11_0 : w21.frozen? ⟨go11, (t278 : Int).toNat * 5, none⟩ = false := hfr11 0; have hf11_1 : w21.frozen? ⟨go11, (t278 : Int).toNat * 5 + 1, none⟩ = false := hfr11 1; have hf11_2 : w21.frozen? ⟨go11, (t278 : Int).toNat * 5 + 2, none⟩ = false := hfr11 2; have hf11_3 : w21.frozen? ⟨go11, (t278 : Int).toNat * 5 + 3, none⟩ = false := hfr11 3; have hf11_4 : w21.frozen? ⟨go11, (t278 : Int).toNat * 5 + 4, none⟩ = false := hfr11 4; clear hcl11 hcc11 hfr11 hM11; replace p11 := eq_true p11; replace q11 := eq_true q11; have HX22 := Aside0.mk (show Kd.R k74 74 w21 w.heap.size (fun _ => True) (.slice (some ⟨go11, 0, none⟩) t281.length co11) t281 from (Kd.RN HO283)); obtain ⟨ce22, hcl22, hM22, hcc22, hfr22⟩ := Kd.R_elem HX22.out z74 (t278 : Int) (of_decide_eq_true (by first | (with_reducible assumption) | assumption)) (by have h_ : (t278 : Int) < ((t281.length : Int) : Int) := of_decide_eq_true (by first | (with_reducible assumption) | assumption); first | exact h_ | (have e_ := (Kd.R_reads' HO283.out).1; omega) | simpa using h_); obtain rfl := k74_openM hM22; have HP22 := Kd.R_seg HX22.out (t278 : Int) (of_decide_eq_true (by first | (with_reducible assumption) | assumption)) (by have h_ : (t278 : Int) < ((t281.length : Int) : Int) := of_decide_eq_true (by first | (with_reducible assumption) | assumption); first | exact h_ | (have e_ := (Kd.R_reads' HO283.out).1; omega) | simpa using h_) (seg := [.int .i64 3]) (j := 4) hcl22 hcc22 (show 5 ≤ 5 from by decide) (x' := (⟨(rd_T74 t281 t278).f0, (rd_T74 t281 t278).f1, (rd_T74 t281 t278).f2, (rd_T74 t281 t278).f3, 3⟩ : S74)) (k74_mkM _ _ _ (⟨(rd_T74 t281 t278).f0, (rd_T74 t281 t278).f1, (rd_T74 t281 t278).f2, (rd_T74 t281 t278).f3, 3⟩ : S74) ) (fun _ hk => hk); have hx22_4 := hcc22 4 _ rfl; (try simp only [show (k74).sz = 5 from rfl, Nat.mul_one, Nat.add_zero] at hx22_4); have hf22_4 := hfr22 4; (try simp only [show (k74).sz = 5 from rfl, Nat.mul_one, Nat.add_zero] at hf22_4); clear hcl22 hcc22 hfr22 hM22) | ((with_reducible refine gate_store (t := 3) (p := 32) rfl ?_); refine store_event (t := 3) (p := 32) (v := ?vo_w23) (w1 := (w21.setCell ⟨go11, (t278 : Int).toNat * 5 + 4, none⟩ (.int .i64 3))) ?hg ?ho ?hn ?hr ?_; (case ho => rfl); (case hg => rfl); (case hn => rfl); (case hr => first | (go_simp; done) | (go_simp; rfl)); intro w23 hw; have hg : w21.grownBy w23 (some go11) := (by rw [hw]; exact HP22.2); have hp_ : Kd.R k74 74 w23 w.heap.size (fun _ => True) (.slice (some ⟨go11, 0, none⟩) t281.length co11) y284 := (by rw [hw, Ny284.out]; exact HP22.1); clear HP22; have n0_ := Aside0.mk (hp_); have n1_ := Aside0.mk ((by rw [hw]; exact below_set (HB.out) GB11.out : Below w.heap.size w w23)); clear HO283; clear HB; have HO283 := n0_; have HB := n1_; clear n0_ n1_; clear hg hw hp_))
              go_ret2
              exact ⟨_, by first | rfl | (simp [errW_none, errW_some] <;> rfl) | (simp [*, errW_none, errW_some] <;> rfl), by (with_reducible repeat (first | apply Kd.R_alloc | apply Kd.R_drewN | apply Kd.R_drew)); exact HO283.out, by repeat (first | (with_reducible first | exact HB.out | apply below_alloc | apply pw_below_drewN | apply below_drew1) | exact HB.out)⟩
          · rw [if_neg c10] at H
            exact absurd H (by simp)
        · rw [if_neg c8] at H
          have c8b0 : (((rd_T74 l0 t278).f4) == 1) = false := beq_eq_false_iff_ne.mpr c8
          have c8b1 : (((rd_T74 l0 t278).f4) != 1) = true := bne_iff_ne.mpr c8
          simp only [Option.some.injEq, Prod.mk.injEq] at H
          obtain ⟨rfl, rfl⟩ := H
          go_enter Try.func72, Try.ntmps72
          go_wp2_with (first | ((with_reducible refine gate_callee (f := 115) rfl ?_); refine goesL_ (some 13) rfl rfl Try.func115 (by kernel_rfl) rfl #[.slice A0 l0.length c0, .int .u64 a1] rfl (by (try simp only [List.map_toArray, List.map_cons, List.map_nil]); first | done | rfl | (simp only [List.length_drop, List.length_take]; rfl)) ?_; (with_reducible refine (payment_find.calls k _ _ l0 a1 t278 t279 _ ?side1 ?side2 A4.out).mono ?_); (case side1 => repeat (first | exact HR0.out | (with_reducible refine Kd.C_alloc ?_ _) | (with_reducible refine Kd.C_drewN ?_ _) | (with_reducible refine Kd.C_drew ?_))); (case side2 => exact HC0.out); rintro e w24 ⟨rfl, hb⟩; refine ⟨_, rfl, ?_⟩; have n0_ := Aside0.mk (below_step (belN HB) hb); clear HB; have HB := n0_; clear n0_; (try clear hb); (try clear hb2); (try clear hk); (try clear hi); have p280 : 0 ≤ (t278 : Int) := of_decide_eq_true (by first | (with_reducible assumption) | assumption); have q280 : t278 < (l0.length : Int) := of_decide_eq_true (by first | (with_reducible assumption) | assumption); obtain ⟨ad280, e280, hx280_0, hx280_1, hx280_2, hx280_3, hx280_4⟩ := at_T74 HR0.out t278 p280 q280; cases e280; replace hx280_0 := (HB.out.cell (World.block_lt_of_cell? w _ hx280_0)).trans hx280_0; replace hx280_1 := (HB.out.cell (World.block_lt_of_cell? w _ hx280_1)).trans hx280_1; replace hx280_2 := (HB.out.cell (World.block_lt_of_cell? w _ hx280_2)).trans hx280_2; replace hx280_3 := (HB.out.cell (World.block_lt_of_cell? w _ hx280_3)).trans hx280_3; replace hx280_4 := (HB.out.cell (World.block_lt_of_cell? w _ hx280_4)).trans hx280_4; replace p280 := eq_true p280; replace q280 := eq_true q280))
          go_ret2
          exact ⟨_, by first | rfl | (simp [errW_none, errW_some] <;> rfl) | (simp [*, errW_none, errW_some] <;> rfl), by first | exact Kd.R_nil _ _ _ _ _ | exact Kd.N_nil _ _ _ _ _ | exact Kd.V_nil _ _ _ _ _ | exact Kd.Q_nil _ _ _ _ _ | exact Kd.S_nil _ _ _ _ _, by repeat (first | (with_reducible first | exact HB.out | apply below_alloc | apply pw_below_drewN | apply below_drew1) | exact HB.out)⟩
      · rw [if_neg c7] at H
        exact absurd H (by simp)
    · rw [if_neg c6] at H
      exact absurd H (by simp)
  · rw [if_neg c5] at H
    have c5b0 : (t279 == 0) = false := beq_eq_false_iff_ne.mpr c5
    have c5b1 : (t279 != 0) = true := bne_iff_ne.mpr c5
    simp only [Option.some.injEq, Prod.mk.injEq] at H
    obtain ⟨rfl, rfl⟩ := H
    go_enter Try.func72, Try.ntmps72
    go_wp2_with (first | ((with_reducible refine gate_callee (f := 115) rfl ?_); refine goesL_ (some 13) rfl rfl Try.func115 (by kernel_rfl) rfl #[.slice A0 l0.length c0, .int .u64 a1] rfl (by (try simp only [List.map_toArray, List.map_cons, List.map_nil]); first | done | rfl | (simp only [List.length_drop, List.length_take]; rfl)) ?_; (with_reducible refine (payment_find.calls k _ _ l0 a1 t278 t279 _ ?side1 ?side2 A4.out).mono ?_); (case side1 => repeat (first | exact HR0.out | (with_reducible refine Kd.C_alloc ?_ _) | (with_reducible refine Kd.C_drewN ?_ _) | (with_reducible refine Kd.C_drew ?_))); (case side2 => exact HC0.out); rintro e w25 ⟨rfl, hb⟩; refine ⟨_, rfl, ?_⟩; have n0_ := Aside0.mk (below_step (belN HB) hb); clear HB; have HB := n0_; clear n0_; (try clear hb); (try clear hb2); (try clear hk); (try clear hi)))
    go_ret2
    exact ⟨_, by first | rfl | (simp [errW_none, errW_some] <;> rfl) | (simp [*, errW_none, errW_some] <;> rfl), by first | exact Kd.R_nil _ _ _ _ _ | exact Kd.N_nil _ _ _ _ _ | exact Kd.V_nil _ _ _ _ _ | exact Kd.Q_nil _ _ _ _ _ | exact Kd.S_nil _ _ _ _ _, by repeat (first | (with_reducible first | exact HB.out | apply below_alloc | apply pw_below_drewN | apply below_drew1) | exact HB.out)⟩

/-! ### damsonlaw13_live: function 68 -/
def damsonlaw13_live.f (k : Nat)  : Option (Bool) := (payment_Start.f k ([] : List (S74)) 1 0 0 5 1).bind fun bt286 => ((payment_End.f k bt286.1 1 true).bind fun bt290 => ((payment_End.f k bt290.1 1 false).bind fun bt294 => (if bt286.2 = 0 then (if bt290.2 = 0 then (some (bt294.2 == 10)) else (some false)) else (some false))))
theorem damsonlaw13_live.mono : ∀ k, LeO (damsonlaw13_live.f k ) (damsonlaw13_live.f (k + 1) ) := by
  intro  k
  unfold damsonlaw13_live.f
  repeat' first
      | (with_reducible exact payment_End.mono _ _ _ _)
      | (with_reducible exact payment_Start.mono _ _ _ _ _ _ _)
      | (with_reducible exact LeO.refl _)
      | (with_reducible exact LeO.none _)
      | (with_reducible refine LeO.ite ?_ ?_)
      | (with_reducible refine LeO.bind ?_ (fun _ => ?_))
      | exact payment_End.mono _ _ _ _
      | exact payment_Start.mono _ _ _ _ _ _ _
      | exact LeO.none _
      | refine LeO.ite ?_ ?_
      | refine LeO.bind ?_ (fun _ => ?_)
set_option maxHeartbeats 8000000 in
set_option maxRecDepth 100000 in
theorem damsonlaw13_live.calls (k : Nat)  (r : Bool) (w : World) (h : damsonlaw13_live.f k  = some r) :
    Calls Try.prog 68 #[] w fun e w' => e = .returned (.bool r) ∧ Below w.heap.size w w' := by
  have hu74 := Try.underlying74
  have HB := Aside0.mk (Below.refl w.heap.size w)
  have H : ((payment_Start.f k ([] : List (S74)) 1 0 0 5 1).bind fun bt286 => ((payment_End.f k bt286.1 1 true).bind fun bt290 => ((payment_End.f k bt290.1 1 false).bind fun bt294 => (if bt286.2 = 0 then (if bt290.2 = 0 then (some (bt294.2 == 10)) else (some false)) else (some false))))) = some r := h
  clear h
  replace H := Option.bind_eq_some_iff.mp H
  obtain ⟨⟨t286, t289⟩, A10, H⟩ := H
  replace H : ((payment_End.f k t286 1 true).bind fun bt290 => ((payment_End.f k bt290.1 1 false).bind fun bt294 => (if t289 = 0 then (if bt290.2 = 0 then (some (bt294.2 == 10)) else (some false)) else (some false)))) = some r := H
  have A1 := Aside0.mk A10
  clear A10
  replace H := Option.bind_eq_some_iff.mp H
  obtain ⟨⟨t290, t291⟩, A20, H⟩ := H
  replace H : ((payment_End.f k t290 1 false).bind fun bt294 => (if t289 = 0 then (if t291 = 0 then (some (bt294.2 == 10)) else (some false)) else (some false))) = some r := H
  have A2 := Aside0.mk A20
  clear A20
  replace H := Option.bind_eq_some_iff.mp H
  obtain ⟨⟨t294, t295⟩, A30, H⟩ := H
  replace H : (if t289 = 0 then (if t291 = 0 then (some (t295 == 10)) else (some false)) else (some false)) = some r := H
  have A3 := Aside0.mk A30
  clear A30
  by_cases c4 : t289 = 0
  · rw [if_pos c4] at H
    have c4b0 : (t289 == 0) = true := beq_iff_eq.mpr c4
    have c4b1 : (t289 != 0) = false := bne_eq_false_iff_eq.mpr c4
    clear c4
    by_cases c5 : t291 = 0
    · rw [if_pos c5] at H
      have c5b0 : (t291 == 0) = true := beq_iff_eq.mpr c5
      have c5b1 : (t291 != 0) = false := bne_eq_false_iff_eq.mpr c5
      clear c5
      obtain rfl := Option.some.inj H
      go_enter Try.func68, Try.ntmps68
      go_wp2_with (first | ((with_reducible refine gate_callee (f := 71) rfl ?_); refine goesL_ (some 8) rfl rfl Try.func71 (by kernel_rfl) rfl #[.slice none 0 0, .agg #[.int .u64 1, .int .u64 0, .int .u64 0, .int .u64 5, .int .i64 1]] rfl (by (try simp only [List.map_toArray, List.map_cons, List.map_nil]); first | done | rfl | (simp only [List.length_drop, List.length_take]; rfl)) ?_; (refine (payment_Start.calls k _ _ ([] : List (S74)) 1 0 0 5 1 t286 t289 _ ?side1 ?side2 A1.out).mono ?_); (case side1 => exact Kd.C_nil _ _); (case side2 => exact Nat.le_refl _); rintro e w6 ⟨v287, rfl, ho0, hb⟩; refine ⟨_, rfl, ?_⟩; have n0_ := Aside0.mk (Kd.R_lower ho0 (below_size (belN HB))); have n1_ := Aside0.mk (below_step (belN HB) hb); clear HB; have HO288 := n0_; have HB := n1_; clear n0_ n1_; (try clear hb); (try clear hb2); (try clear hk); (try clear hi); (try clear ho0); obtain ⟨Ao7, co7, eo7⟩ := Kd.R_slice HO288.out; subst eo7) | ((with_reducible refine gate_callee (f := 72) rfl ?_); refine goesL_ (some 13) rfl rfl Try.func72 (by kernel_rfl) rfl #[.slice Ao7 t286.length co7, .int .u64 1, .bool true] rfl (by (try simp only [List.map_toArray, List.map_cons, List.map_nil]); first | done | rfl | (simp only [List.length_drop, List.length_take]; rfl)) ?_; (with_reducible refine (payment_End.calls k _ _ t286 1 true t290 t291 _ ?side1 ?side2 A2.out).mono ?_); (case side1 => exact Kd.CN (Kd.R_reads' HO288.out).2.2); (case side2 => exact (Kd.R_reads' HO288.out).2.1); rintro e w8 ⟨v292, rfl, ho0, hb⟩; refine ⟨_, rfl, ?_⟩; have n0_ := Aside0.mk (Kd.R_elder' (Kd.RN HO288) (Kd.R_base ho0) hb); have n1_ := Aside0.mk (Kd.R_lower (Kd.R_new' ho0 (Kd.R_lt (Kd.RN HO288))) (below_size (belN HB))); have n2_ := Aside0.mk (below_step (belN HB) hb); clear HO288; clear HB; have HO288 := n0_; have HO293 := n1_; have HB := n2_; clear n0_ n1_ n2_; (try clear hb); (try clear hb2); (try clear hk); (try clear hi); (try clear ho0); obtain ⟨Ao9, co9, eo9⟩ := Kd.R_slice HO293.out; subst eo9) | ((with_reducible refine gate_callee (f := 72) rfl ?_); refine goesL_ (some 18) rfl rfl Try.func72 (by kernel_rfl) rfl #[.slice Ao9 t290.length co9, .int .u64 1, .bool false] rfl (by (try simp only [List.map_toArray, List.map_cons, List.map_nil]); first | done | rfl | (simp only [List.length_drop, List.length_take]; rfl)) ?_; (with_reducible refine (payment_End.calls k _ _ t290 1 false t294 t295 _ ?side1 ?side2 A3.out).mono ?_); (case side1 => exact Kd.CN (Kd.R_reads' HO293.out).2.2); (case side2 => exact (Kd.R_reads' HO293.out).2.1); rintro e w10 ⟨v296, rfl, ho0, hb⟩; refine ⟨_, rfl, ?_⟩; have n0_ := Aside0.mk (Kd.R_elder' (Kd.RN HO288) (Kd.R_base ho0) hb); have n1_ := Aside0.mk (Kd.R_elder' (Kd.RN HO293) (Kd.R_base ho0) hb); have n2_ := Aside0.mk (Kd.R_lower (Kd.R_new' (Kd.R_new' ho0 (Kd.R_lt (Kd.RN HO288))) (Kd.R_lt (Kd.RN HO293))) (below_size (belN HB))); have n3_ := Aside0.mk (below_step (belN HB) hb); clear HO288; clear HO293; clear HB; have HO288 := n0_; have HO293 := n1_; have HO297 := n2_; have HB := n3_; clear n0_ n1_ n2_ n3_; (try clear hb); (try clear hb2); (try clear hk); (try clear hi); (try clear ho0)))
      go_ret
      exact ⟨by first | rfl | (simp [errW_none, errW_some] <;> rfl) | (simp [*, errW_none, errW_some] <;> rfl), by repeat (first | (with_reducible first | exact HB.out | apply below_alloc | apply pw_below_drewN | apply below_drew1) | exact HB.out)⟩
    · rw [if_neg c5] at H
      have c5b0 : (t291 == 0) = false := beq_eq_false_iff_ne.mpr c5
      have c5b1 : (t291 != 0) = true := bne_iff_ne.mpr c5
      obtain rfl := Option.some.inj H
      go_enter Try.func68, Try.ntmps68
      go_wp2_with (first | ((with_reducible refine gate_callee (f := 71) rfl ?_); refine goesL_ (some 8) rfl rfl Try.func71 (by kernel_rfl) rfl #[.slice none 0 0, .agg #[.int .u64 1, .int .u64 0, .int .u64 0, .int .u64 5, .int .i64 1]] rfl (by (try simp only [List.map_toArray, List.map_cons, List.map_nil]); first | done | rfl | (simp only [List.length_drop, List.length_take]; rfl)) ?_; (refine (payment_Start.calls k _ _ ([] : List (S74)) 1 0 0 5 1 t286 t289 _ ?side1 ?side2 A1.out).mono ?_); (case side1 => exact Kd.C_nil _ _); (case side2 => exact Nat.le_refl _); rintro e w11 ⟨v287, rfl, ho0, hb⟩; refine ⟨_, rfl, ?_⟩; have n0_ := Aside0.mk (Kd.R_lower ho0 (below_size (belN HB))); have n1_ := Aside0.mk (below_step (belN HB) hb); clear HB; have HO288 := n0_; have HB := n1_; clear n0_ n1_; (try clear hb); (try clear hb2); (try clear hk); (try clear hi); (try clear ho0); obtain ⟨Ao12, co12, eo12⟩ := Kd.R_slice HO288.out; subst eo12) | ((with_reducible refine gate_callee (f := 72) rfl ?_); refine goesL_ (some 13) rfl rfl Try.func72 (by kernel_rfl) rfl #[.slice Ao12 t286.length co12, .int .u64 1, .bool true] rfl (by (try simp only [List.map_toArray, List.map_cons, List.map_nil]); first | done | rfl | (simp only [List.length_drop, List.length_take]; rfl)) ?_; (with_reducible refine (payment_End.calls k _ _ t286 1 true t290 t291 _ ?side1 ?side2 A2.out).mono ?_); (case side1 => exact Kd.CN (Kd.R_reads' HO288.out).2.2); (case side2 => exact (Kd.R_reads' HO288.out).2.1); rintro e w13 ⟨v292, rfl, ho0, hb⟩; refine ⟨_, rfl, ?_⟩; have n0_ := Aside0.mk (Kd.R_elder' (Kd.RN HO288) (Kd.R_base ho0) hb); have n1_ := Aside0.mk (Kd.R_lower (Kd.R_new' ho0 (Kd.R_lt (Kd.RN HO288))) (below_size (belN HB))); have n2_ := Aside0.mk (below_step (belN HB) hb); clear HO288; clear HB; have HO288 := n0_; have HO293 := n1_; have HB := n2_; clear n0_ n1_ n2_; (try clear hb); (try clear hb2); (try clear hk); (try clear hi); (try clear ho0); obtain ⟨Ao14, co14, eo14⟩ := Kd.R_slice HO293.out; subst eo14) | ((with_reducible refine gate_callee (f := 72) rfl ?_); refine goesL_ (some 18) rfl rfl Try.func72 (by kernel_rfl) rfl #[.slice Ao14 t290.length co14, .int .u64 1, .bool false] rfl (by (try simp only [List.map_toArray, List.map_cons, List.map_nil]); first | done | rfl | (simp only [List.length_drop, List.length_take]; rfl)) ?_; (with_reducible refine (payment_End.calls k _ _ t290 1 false t294 t295 _ ?side1 ?side2 A3.out).mono ?_); (case side1 => exact Kd.CN (Kd.R_reads' HO293.out).2.2); (case side2 => exact (Kd.R_reads' HO293.out).2.1); rintro e w15 ⟨v296, rfl, ho0, hb⟩; refine ⟨_, rfl, ?_⟩; have n0_ := Aside0.mk (Kd.R_elder' (Kd.RN HO288) (Kd.R_base ho0) hb); have n1_ := Aside0.mk (Kd.R_elder' (Kd.RN HO293) (Kd.R_base ho0) hb); have n2_ := Aside0.mk (Kd.R_lower (Kd.R_new' (Kd.R_new' ho0 (Kd.R_lt (Kd.RN HO288))) (Kd.R_lt (Kd.RN HO293))) (below_size (belN HB))); have n3_ := Aside0.mk (below_step (belN HB) hb); clear HO288; clear HO293; clear HB; have HO288 := n0_; have HO293 := n1_; have HO297 := n2_; have HB := n3_; clear n0_ n1_ n2_ n3_; (try clear hb); (try clear hb2); (try clear hk); (try clear hi); (try clear ho0)))
      go_ret
      exact ⟨by first | rfl | (simp [errW_none, errW_some] <;> rfl) | (simp [*, errW_none, errW_some] <;> rfl), by repeat (first | (with_reducible first | exact HB.out | apply below_alloc | apply pw_below_drewN | apply below_drew1) | exact HB.out)⟩
  · rw [if_neg c4] at H
    have c4b0 : (t289 == 0) = false := beq_eq_false_iff_ne.mpr c4
    have c4b1 : (t289 != 0) = true := bne_iff_ne.mpr c4
    obtain rfl := Option.some.inj H
    go_enter Try.func68, Try.ntmps68
    go_wp2_with (first | ((with_reducible refine gate_callee (f := 71) rfl ?_); refine goesL_ (some 8) rfl rfl Try.func71 (by kernel_rfl) rfl #[.slice none 0 0, .agg #[.int .u64 1, .int .u64 0, .int .u64 0, .int .u64 5, .int .i64 1]] rfl (by (try simp only [List.map_toArray, List.map_cons, List.map_nil]); first | done | rfl | (simp only [List.length_drop, List.length_take]; rfl)) ?_; (refine (payment_Start.calls k _ _ ([] : List (S74)) 1 0 0 5 1 t286 t289 _ ?side1 ?side2 A1.out).mono ?_); (case side1 => exact Kd.C_nil _ _); (case side2 => exact Nat.le_refl _); rintro e w16 ⟨v287, rfl, ho0, hb⟩; refine ⟨_, rfl, ?_⟩; have n0_ := Aside0.mk (Kd.R_lower ho0 (below_size (belN HB))); have n1_ := Aside0.mk (below_step (belN HB) hb); clear HB; have HO288 := n0_; have HB := n1_; clear n0_ n1_; (try clear hb); (try clear hb2); (try clear hk); (try clear hi); (try clear ho0); obtain ⟨Ao17, co17, eo17⟩ := Kd.R_slice HO288.out; subst eo17) | ((with_reducible refine gate_callee (f := 72) rfl ?_); refine goesL_ (some 13) rfl rfl Try.func72 (by kernel_rfl) rfl #[.slice Ao17 t286.length co17, .int .u64 1, .bool true] rfl (by (try simp only [List.map_toArray, List.map_cons, List.map_nil]); first | done | rfl | (simp only [List.length_drop, List.length_take]; rfl)) ?_; (with_reducible refine (payment_End.calls k _ _ t286 1 true t290 t291 _ ?side1 ?side2 A2.out).mono ?_); (case side1 => exact Kd.CN (Kd.R_reads' HO288.out).2.2); (case side2 => exact (Kd.R_reads' HO288.out).2.1); rintro e w18 ⟨v292, rfl, ho0, hb⟩; refine ⟨_, rfl, ?_⟩; have n0_ := Aside0.mk (Kd.R_elder' (Kd.RN HO288) (Kd.R_base ho0) hb); have n1_ := Aside0.mk (Kd.R_lower (Kd.R_new' ho0 (Kd.R_lt (Kd.RN HO288))) (below_size (belN HB))); have n2_ := Aside0.mk (below_step (belN HB) hb); clear HO288; clear HB; have HO288 := n0_; have HO293 := n1_; have HB := n2_; clear n0_ n1_ n2_; (try clear hb); (try clear hb2); (try clear hk); (try clear hi); (try clear ho0); obtain ⟨Ao19, co19, eo19⟩ := Kd.R_slice HO293.out; subst eo19) | ((with_reducible refine gate_callee (f := 72) rfl ?_); refine goesL_ (some 18) rfl rfl Try.func72 (by kernel_rfl) rfl #[.slice Ao19 t290.length co19, .int .u64 1, .bool false] rfl (by (try simp only [List.map_toArray, List.map_cons, List.map_nil]); first | done | rfl | (simp only [List.length_drop, List.length_take]; rfl)) ?_; (with_reducible refine (payment_End.calls k _ _ t290 1 false t294 t295 _ ?side1 ?side2 A3.out).mono ?_); (case side1 => exact Kd.CN (Kd.R_reads' HO293.out).2.2); (case side2 => exact (Kd.R_reads' HO293.out).2.1); rintro e w20 ⟨v296, rfl, ho0, hb⟩; refine ⟨_, rfl, ?_⟩; have n0_ := Aside0.mk (Kd.R_elder' (Kd.RN HO288) (Kd.R_base ho0) hb); have n1_ := Aside0.mk (Kd.R_elder' (Kd.RN HO293) (Kd.R_base ho0) hb); have n2_ := Aside0.mk (Kd.R_lower (Kd.R_new' (Kd.R_new' ho0 (Kd.R_lt (Kd.RN HO288))) (Kd.R_lt (Kd.RN HO293))) (below_size (belN HB))); have n3_ := Aside0.mk (below_step (belN HB) hb); clear HO288; clear HO293; clear HB; have HO288 := n0_; have HO293 := n1_; have HO297 := n2_; have HB := n3_; clear n0_ n1_ n2_ n3_; (try clear hb); (try clear hb2); (try clear hk); (try clear hi); (try clear ho0)))
    go_ret
    exact ⟨by first | rfl | (simp [errW_none, errW_some] <;> rfl) | (simp [*, errW_none, errW_some] <;> rfl), by repeat (first | (with_reducible first | exact HB.out | apply below_alloc | apply pw_below_drewN | apply below_drew1) | exact HB.out)⟩

/-! ### damsonlaw13_few: function 69 -/
def damsonlaw13_few.f (l0 : List (S74)) : Option (Bool) := if (l0.length : Int) ≤ 40 then (some true) else (if (l0.length : Int) ≥ 256 then (some (decide ((l0.length : Int) ≤ 258))) else (some false))
set_option maxHeartbeats 8000000 in
set_option maxRecDepth 100000 in
theorem damsonlaw13_few.calls (A0 : Option Addr) (c0 : Nat) (l0 : List (S74)) (r : Bool) (w : World) (hr0 : Kd.C k74 w A0 l0.length l0) (hc0 : l0.length ≤ c0) (h : damsonlaw13_few.f l0 = some r) :
    Calls Try.prog 69 #[.slice A0 l0.length c0] w fun e w' => e = .returned (.bool r) ∧ Drawn0 w w' := by
  have HR0 := Aside0.mk hr0
  have HC0 := Aside0.mk hc0
  clear hr0 hc0
  have H : (if (l0.length : Int) ≤ 40 then (some true) else (if (l0.length : Int) ≥ 256 then (some (decide ((l0.length : Int) ≤ 258))) else (some false))) = some r := h
  clear h
  by_cases c2 : (l0.length : Int) ≤ 40
  · rw [if_pos c2] at H
    have c2b0 : decide ((l0.length : Int) ≤ 40) = true := decide_eq_true c2
    have c2b1 : decide (l0.length ≤ 40) = true := decide_eq_true (by omega)
    clear c2
    obtain rfl := Option.some.inj H
    go_enter Try.func69, Try.ntmps69
    go_wp2
    go_ret
    exact ⟨by first | rfl | (simp; done) | (simp [*]; done), by repeat (first | exact Drawn0.refl _ | apply Drawn0.step)⟩
  · rw [if_neg c2] at H
    have c2b0 : decide ((l0.length : Int) ≤ 40) = false := decide_eq_false c2
    have c2b1 : decide (l0.length ≤ 40) = false := decide_eq_false (by omega)
    clear c2
    by_cases c3 : (l0.length : Int) ≥ 256
    · rw [if_pos c3] at H
      have c3b0 : decide (256 ≤ (l0.length : Int)) = true := decide_eq_true c3
      have c3b1 : decide (256 ≤ l0.length) = true := decide_eq_true (by omega)
      clear c3
      obtain rfl := Option.some.inj H
      go_enter Try.func69, Try.ntmps69
      go_wp2
      go_ret
      exact ⟨by first | rfl | (simp; done) | (simp [*]; done), by repeat (first | exact Drawn0.refl _ | apply Drawn0.step)⟩
    · rw [if_neg c3] at H
      have c3b0 : decide (256 ≤ (l0.length : Int)) = false := decide_eq_false c3
      have c3b1 : decide (256 ≤ l0.length) = false := decide_eq_false (by omega)
      clear c3
      obtain rfl := Option.some.inj H
      go_enter Try.func69, Try.ntmps69
      go_wp2
      go_ret
      exact ⟨by first | rfl | (simp; done) | (simp [*]; done), by repeat (first | exact Drawn0.refl _ | apply Drawn0.step)⟩

/-! ### payment_Agree: function 82 (by hand) -/
theorem ag_lay131 : laidOutB Try.prog = true := by kernel_rfl
theorem ag_row131 : (131 : TypeId) < Try.prog.types.size := of_decide_eq_true (by kernel_rfl)
theorem ag_wide131 : (match Try.prog.underlying 131 with | some (.array _ _) | some (.struct _) => true | _ => false) = true := by kernel_rfl
set_option maxRecDepth 100000 in
theorem ag_law131 : Go.WideMaps.KeyLaw Try.prog 131 := deep_law_laid ag_lay131 (m := 3) (by omega) ag_row131 (by kernel_rfl) ag_wide131
theorem ag_keyed131 : Go.Maps.Keyed Try.prog 131 := Go.Maps.Keyed.of_law ag_law131
def ag_K131 (a b c : Int) : Lit := .string (keyBytes [.int .u64 a, .int .u64 b, .int .u64 c])
theorem ag_c22 : Try.prog.cellsOf 22 = 1 := by kernel_rfl
theorem ag_c44 : Try.prog.cellsOf 44 = 2 := by kernel_rfl
theorem ag_c131 : Try.prog.cellsOf 131 = 3 := by kernel_rfl
theorem ag_lits22 (d : Nat) {a : Int} (ha : (Lit.int .u64 a).wf = true) : Try.prog.keyLits (d + 1) 22 [.int .u64 a] = some [.int .u64 a] := by
  simp [Program.keyLits, Try.underlying22, ha]
theorem ag_lits44 (d : Nat) {a b : Int} (ha : (Lit.int .u64 a).wf = true) (hb : (Lit.int .u64 b).wf = true) : Try.prog.keyLits (d + 2) 44 [.int .u64 a, .int .u64 b] = some [.int .u64 a, .int .u64 b] := by
  simp [Program.keyLits, Try.underlying44, Try.underlying22, ag_c44, ag_c22, ha, hb]
theorem ag_lits131 (d : Nat) {a b c : Int} (ha : (Lit.int .u64 a).wf = true) (hb : (Lit.int .u64 b).wf = true) (hc : (Lit.int .u64 c).wf = true) : Try.prog.keyLits (d + 3) 131 [.int .u64 a, .int .u64 b, .int .u64 c] = some [.int .u64 a, .int .u64 b, .int .u64 c] := by
  unfold Program.keyLits
  simp [Try.underlying131, ag_c131, ag_c22, ag_c44, ag_lits22 (d + 1) ha, ag_lits44 d hb hc]
theorem ag_key131 {a b c : Int} (ha : (Lit.int .u64 a).wf = true) (hb : (Lit.int .u64 b).wf = true) (hc : (Lit.int .u64 c).wf = true) : keyOf Try.prog 131 (.agg #[.int .u64 a, .int .u64 b, .int .u64 c]) = some (ag_K131 a b c) := by
  have hk : Try.prog.keyType 131 = true := by kernel_rfl
  have hu : ∃ fs, Try.prog.underlying 131 = some (.struct fs) := ⟨_, Try.underlying131⟩
  obtain ⟨fs, hu⟩ := hu
  have hf : (Value.agg #[.int .u64 a, .int .u64 b, .int .u64 c]).formed Try.prog 131 = true := by simp [Value.formed, hu, ag_c131]
  have hs : Try.prog.types.size + 1 = (Try.prog.types.size - 2) + 3 := by
    have : (131 : Nat) < Try.prog.types.size := ag_row131
    omega
  unfold keyOf
  rw [hu]
  simp only [hk, hf, Bool.and_self, if_true]
  show Option.map (fun ls => Lit.string (keyBytes ls)) (Try.prog.keyLits (Try.prog.types.size + 1) 131 [.int .u64 a, .int .u64 b, .int .u64 c]) = some (ag_K131 a b c)
  rw [hs, ag_lits131 _ ha hb hc]; rfl
theorem ag_K131_ne {a b c a' b' c' : Int} (ha : (Lit.int .u64 a).wf = true) (hb : (Lit.int .u64 b).wf = true) (hc : (Lit.int .u64 c).wf = true) (ha' : (Lit.int .u64 a').wf = true) (hb' : (Lit.int .u64 b').wf = true) (hc' : (Lit.int .u64 c').wf = true) (h : ¬ (a = a' ∧ b = b' ∧ c = c')) : ag_K131 a b c ≠ ag_K131 a' b' c' := by
  intro e
  have h1 := ag_key131 ha hb hc
  rw [e] at h1
  have h2 := ag_keyed131.inj h1 (ag_key131 ha' hb' hc')
  simp at h2
  exact h h2

/-- 'm[k]++' in two steps: an entry is made, or found; behind it the map reads as it did, at that key by an entry. -/
theorem ag_entry_upd {H : Type} {P : Program} {w : World} {t k e : TypeId} {R : Value → Option (DataW H × List MemPlace)} {b : Nat} {es : Array MapEntry} {clock : Nat} (K : Go.WideMaps.KeyLaw P k) (ht : P.underlying t = some (.map k e)) {z : Value} (hz : ∀ u : World, (zeroValue e).run P u = .ok z u) (hb : w.heap[b]? = some (.map es clock)) (F : Go.WideElems.Fit P k R es clock)
    {key : Value} {kl : Lit} (hkey : keyOf P k key = some kl) :
    ∃ (v0 : Value) (st : Nat) (w1 : World), (Instr.mapEntry t (.map (some b)) key).run P w = .ok (.tuple #[v0, goInt st]) w1 ∧ (Instr.mapUpdate t (.map (some b)) key v0).run P w = .ok () w1 ∧ (Instr.lookup t (.map (some b)) key false).run P w = .ok v0 w := by
  obtain ⟨s1, s2, _⟩ := F.stamped
  rcases K.find w hkey es.toList F.keys with ⟨h1, h2⟩ | ⟨j, e0, h1, h2, h3⟩
  · refine ⟨z, clock, ChangeMaps.setBlock w b (.map (es.push ⟨key, z, clock⟩) (clock + 1)), ?_, ?_, ?_⟩
    · simp [Instr.mapEntry, run_underlying ht, MapKept.run_getObj_map hb, K.check w false hkey, h1, hz, MapKept.run_setObj_map _ hb, Result.andThen, ChangeMaps.setBlock]
    · simp [Instr.mapUpdate, run_underlying ht, MapKept.run_getObj_map hb, K.check w false hkey, h1, MapKept.run_setObj_map _ hb, Result.andThen, ChangeMaps.setBlock]
    · simp [Instr.lookup, run_underlying ht, MapKept.run_getObj_map hb, K.check w _ hkey, h1, hz, Result.andThen]
  · have hj : es[j]? = some e0 := by simpa using h2
    have hsame : es.modify j (fun e => { e with key := key }) = es := by
      apply Array.ext'
      rw [Array.toList_modify, ChangeMaps.modify_eq_set _ _ _ _ h2]
      have : ({ e0 with key := key } : MapEntry) = e0 := by rw [← h3]
      rw [this]
      exact Go.WideElems.set_self _ _ _ h2
    have hsame2 : es.modify j (fun e => { e with key := key, val := e0.val }) = es := by
      apply Array.ext'
      rw [Array.toList_modify, ChangeMaps.modify_eq_set _ _ _ _ h2]
      have : ({ e0 with key := key, val := e0.val } : MapEntry) = e0 := by rw [← h3]
      rw [this]
      exact Go.WideElems.set_self _ _ _ h2
    refine ⟨e0.val, e0.born, ChangeMaps.setBlock w b (.map es clock), ?_, ?_, ?_⟩
    · simp [Instr.mapEntry, run_underlying ht, MapKept.run_getObj_map hb, K.check w false hkey, h1, hj, h3, K.stays w hkey, hsame, MapKept.run_setObj_map _ hb, Result.andThen, ChangeMaps.setBlock]
    · simp [Instr.mapUpdate, run_underlying ht, MapKept.run_getObj_map hb, K.check w false hkey, h1, hj, h3, K.stays w hkey, hsame2, MapKept.run_setObj_map _ hb, Result.andThen, ChangeMaps.setBlock]
    · simp [Instr.lookup, run_underlying ht, MapKept.run_getObj_map hb, K.check w _ hkey, h1, Result.andThen]
theorem ag_entry_own {H : Type} {P : Program} {w : World} {t k e : TypeId} {q : IntKind} {b n : Nat} {D : DataW H} (K : Go.WideMaps.KeyLaw P k) (h : w.ownsMap P k (plainElem P e) b n D) (ht : P.underlying t = some (.map k e)) (he : P.underlying e = some (.int q)) (hz : ∀ u : World, (zeroValue e).run P u = .ok (.int q 0) u) (hn : n < maxLen)
    {key : Value} {kl : Lit} (hkey : keyOf P k key = some kl) :
    ∃ (c : Int) (st : Nat) (w1 : World), (Instr.mapEntry t (.map (some b)) key).run P w = .ok (.tuple #[.int q c, goInt st]) w1 ∧ D.atKey kl (.lit (.int q 0)) = .lit (.int q c) ∧ (Lit.int q c).wf = true ∧
      (Instr.lookup t (.map (some b)) key false).run P w = .ok (.int q c) w ∧ (Instr.lookup t (.map (some b)) key false).run P w1 = .ok (.int q c) w1 ∧ w.grownBy w1 (some b) ∧
      ∀ (a : Int), (Lit.int q a).wf = true → ∃ w2, (Instr.entryStore t (.map (some b)) (goInt st) (.int q a)).run P w1 = .ok () w2 ∧ w2.ownsMap P k (plainElem P e) b (n + 1) (D.put kl (.lit (.int q a))) ∧ w.grownBy w2 (some b) := by
  have KK : Go.Maps.Keyed P k := Go.Maps.Keyed.of_law K
  obtain ⟨c, hrun, hat, hwc⟩ := h.lookup_int KK ht he (hz w) hkey
  have h' := h
  obtain ⟨es, clock, hb, F, hs, rfl⟩ := h'
  obtain ⟨v0, st, w1, r1, r2, r3⟩ := ag_entry_upd K ht hz hb F hkey
  rw [hrun] at r3
  have ev : v0 = .int q c := by injection r3 with r3; exact r3.symm
  subst ev
  obtain ⟨w1', u1, u2, u3⟩ := h.update KK ht hn hkey (plainElem_int he hwc)
  rw [r2] at u1
  have e1 : w1' = w1 := by injection u1 with _ u1; exact u1.symm
  subst e1
  obtain ⟨c', hrun', hat', _⟩ := u2.lookup_int KK ht he (hz _) hkey
  have ec : c' = c := by
    rw [Go.Maps.atKey_put_same ⟨_, rfl⟩ (KK.key hkey)] at hat'
    injection hat' with hat'
    injection hat' with _ hat'
    exact hat'.symm
  subst ec
  refine ⟨c', st, w1', r1, hat, hwc, hrun, hrun', u3, fun a ha => ?_⟩
  obtain ⟨v0, st', es1, clock1, m1, _, m3⟩ := Go.WideElems.entry_then_store K ht hz hb F hkey
  rw [r1] at m1
  have ew : w1' = ChangeMaps.setBlock w b (.map es1 clock1) := by injection m1
  have est : goInt st = goInt st' := by
    injection m1 with m1 _
    simp at m1
    exact m1.2
  obtain ⟨es', clock', n1, n2⟩ := m3 w1' (.int q a) (by rw [ew]; exact ChangeMaps.heap_setBlock_same hb _)
  obtain ⟨w2, x1, x2, x3⟩ := h.update KK ht hn hkey (plainElem_int he ha)
  rw [n2] at x1
  have e2 : w2 = ChangeMaps.setBlock w b (.map es' clock') := by injection x1 with _ x1; exact x1.symm
  have e3 : ChangeMaps.setBlock w1' b (.map es' clock') = w2 := by
    rw [e2, ew]
    unfold ChangeMaps.setBlock
    simp
  rw [e3] at n1
  exact ⟨w2, by rw [est]; exact n1, x2, x3⟩
def payment_Agree.ch : List Int → List (Int × Int × Int) → List S25 → Option (Option (List (Int × Int × Int)))
  | _, hs, [] => some (some hs)
  | ids, hs, c :: cs => if (0 ≤ c.f0 ∧ c.f0 < 18446744073709551616) ∧ (c.f5.all (fun h => decide (0 ≤ h.f0 ∧ h.f0 < 18446744073709551616 ∧ 0 ≤ h.f1 ∧ h.f1 < 18446744073709551616))) = true ∧ hs.length + c.f5.length < 1000000 ∧ ids.length < 1000 then (if ids.contains c.f0 = true then some none else payment_Agree.ch (ids ++ [c.f0]) (hs ++ c.f5.map (fun h => (c.f0, h.f0, h.f1))) cs) else none
def payment_Agree.pay (hs : List (Int × Int × Int)) : Int → List S74 → Option Bool
  | m, [] => some (m == 0)
  | m, p :: ps => if 0 ≤ p.f0 ∧ p.f0 < 18446744073709551616 ∧ 0 ≤ p.f2 ∧ p.f2 < 18446744073709551616 ∧ 0 ≤ p.f3 ∧ p.f3 < 18446744073709551616 then (if p.f4 = 1 then (if hs.contains (p.f2, p.f0, p.f3) = true then payment_Agree.pay hs (IntKind.i64.wrap (m - 1)) ps else some false) else payment_Agree.pay hs m ps) else none
def payment_Agree.fin (l : List S74) (r : Option (List (Int × Int × Int))) : Option (Bool × Int) := r.elim (some (false, 1)) (fun hs => (payment_Agree.pay hs (hs.length : Int) l).bind fun b => some (b, 0))
def payment_Agree.f (k : Nat) (l : List S74) (o : List S25) : Option (Bool × Int) := (payment_Check.f k l).bind fun e => if e = 0 then (if ¬ 32 < o.length then (payment_Agree.ch [] [] o).bind (payment_Agree.fin l) else some (false, 1)) else some (false, 1)
theorem payment_Agree.mono : ∀ l o k, LeO (payment_Agree.f k l o) (payment_Agree.f (k + 1) l o) := by
  intro l o k
  unfold payment_Agree.f
  exact LeO.bind (payment_Check.mono _ _) (fun _ => LeO.refl _)
/-- The numbers seen: one at each. -/
def Seen1 (D : DataW Unit) (ids : List Int) : Prop := Go.Maps.IsMap D ∧ ∀ i, (Lit.int .u64 i).wf = true → D.atKey (.int .u64 i) (.lit (.int .i64 0)) = .lit (.int .i64 (if ids.contains i = true then 1 else 0))
/-- The holds seen: so many at each. -/
def Seen2 (D : DataW Unit) (hs : List (Int × Int × Int)) : Prop := Go.Maps.IsMap D ∧ ∀ a b c, (Lit.int .u64 a).wf = true → (Lit.int .u64 b).wf = true → (Lit.int .u64 c).wf = true → ∃ n : Nat, n ≤ hs.length ∧ D.atKey (ag_K131 a b c) (.lit (.int .i64 0)) = .lit (.int .i64 (n : Int)) ∧ (n = 0 ↔ hs.contains (a, b, c) = false)
theorem Seen1.nil : Seen1 (.map []) [] := ⟨⟨[], rfl⟩, fun i _ => rfl⟩
theorem Seen2.nil_ : Seen2 (.map []) [] := ⟨⟨[], rfl⟩, fun a b c _ _ _ => ⟨0, Nat.le_refl _, rfl, by simp⟩⟩
theorem Seen1.put {D : DataW Unit} {ids : List Int} {i : Int} (h : Seen1 D ids) (hi : (Lit.int .u64 i).wf = true) : Seen1 (D.put (.int .u64 i) (.lit (.int .i64 1))) (ids ++ [i]) := by
  refine ⟨h.1.put _ _, fun j hj => ?_⟩
  by_cases e : j = i
  · subst e
    rw [Go.Maps.atKey_put_same h.1 (k := .int .u64 j) trivial, if_pos (by simp)]
  · rw [Go.Maps.atKey_put_other (by intro q; injection q with _ q; exact e q), h.2 j hj]
    have : (ids ++ [i]).contains j = ids.contains j := by simp [e]
    rw [this]
theorem Seen2.put {D : DataW Unit} {hs : List (Int × Int × Int)} {a b c v : Int} (h : Seen2 D hs) (ha : (Lit.int .u64 a).wf = true) (hb : (Lit.int .u64 b).wf = true) (hc : (Lit.int .u64 c).wf = true) (hv : D.atKey (ag_K131 a b c) (.lit (.int .i64 0)) = .lit (.int .i64 v)) : Seen2 (D.put (ag_K131 a b c) (.lit (.int .i64 (v + 1)))) (hs ++ [(a, b, c)]) := by
  refine ⟨h.1.put _ _, fun a' b' c' ha' hb' hc' => ?_⟩
  obtain ⟨n, n1, n2, n3⟩ := h.2 a b c ha hb hc
  have hvn : v = (n : Int) := by
    rw [n2] at hv
    injection hv with hv
    injection hv with _ hv
    exact hv.symm
  by_cases e : a' = a ∧ b' = b ∧ c' = c
  · obtain ⟨rfl, rfl, rfl⟩ := e
    refine ⟨n + 1, by simp; omega, ?_, by simp⟩
    rw [Go.Maps.atKey_put_same h.1 (ag_keyed131.key (ag_key131 ha hb hc)), hvn]
    rfl
  · obtain ⟨m, m1, m2, m3⟩ := h.2 a' b' c' ha' hb' hc'
    refine ⟨m, by simp; omega, ?_, ?_⟩
    · rw [Go.Maps.atKey_put_other (ag_K131_ne ha' hb' hc' ha hb hc e)]; exact m2
    · rw [m3]
      have : (hs ++ [(a, b, c)]).contains (a', b', c') = hs.contains (a', b', c') := by
        simp only [List.contains_eq_any_beq, List.any_append, List.any_cons, List.any_nil, Bool.or_false]
        have : ((a', b', c') == (a, b, c)) = false := beq_eq_false_iff_ne.mpr (by intro q; injection q with q1 q; injection q with q2 q3; exact e ⟨q1, q2, q3⟩)
        rw [this, Bool.or_false]
      rw [this]
abbrev AgOwn1 (w : World) (B n : Nat) (D : DataW Unit) : Prop := Go.World.ownsMap (H := Unit) w Try.prog 22 (Go.plainElem Try.prog 3) B n D
abbrev AgOwn2 (w : World) (B n : Nat) (D : DataW Unit) : Prop := Go.World.ownsMap (H := Unit) w Try.prog 131 (Go.plainElem Try.prog 3) B n D
theorem ag_below {k : TypeId} {R : Value → Option (DataW Unit × List MemPlace)} {w w' : World} {B n : Nat} {D : DataW Unit} (h : Go.World.ownsMap (H := Unit) w Try.prog k R B n D) (hb : Below w.heap.size w w') : Go.World.ownsMap (H := Unit) w' Try.prog k R B n D :=
  h.kept (row := none) ⟨hb.os, hb.tape, hb.output, hb.size, fun k hk _ => hb.block k hk⟩ (by simp)
theorem ag_wf64 {a : Int} (h : 0 ≤ a ∧ a < 18446744073709551616) : (Lit.int .u64 a).wf = true := by simp [Lit.wf, IntKind.min, IntKind.max, IntKind.signed, IntKind.bits]; omega
theorem ag_wfi {a : Int} (h0 : -1000000000 ≤ a) (h1 : a ≤ 1000000000) : (Lit.int .i64 a).wf = true := by simp [Lit.wf, IntKind.min, IntKind.max, IntKind.signed, IntKind.bits]; omega
theorem ag_drop74 {l : List S74} {i : Nat} (h : i < l.length) : l.drop i = rd_T74 l (i : Int) :: l.drop (i + 1) := by
  rw [List.drop_eq_getElem_cons h]
  simp only [rd_T74, Int.toNat_natCast, List.getD_eq_getElem?_getD, List.getElem?_eq_getElem h, Option.getD_some]
set_option maxHeartbeats 16000000 in
set_option maxRecDepth 100000 in
theorem payment_Agree.calls (k : Nat) (A0 : Option Addr) (c0 : Nat) (l : List S74) (A1 : Option Addr) (c1 : Nat) (o : List S25) (r1 : Bool) (r2 : Int) (w : World) (hr0 : Kd.C k74 w A0 l.length l) (hc0 : l.length ≤ c0) (hr1 : Kd.C k25 w A1 o.length o) (hc1 : o.length ≤ c1) (h : payment_Agree.f k l o = some (r1, r2)) :
    Calls Try.prog 82 #[.slice A0 l.length c0, .slice A1 o.length c1] w fun e w' => e = .returned (.tuple #[.bool r1, .int .i64 r2]) ∧ Below w.heap.size w w' := by
  have HR0 := Aside0.mk hr0
  have HC0 := Aside0.mk hc0
  have HR1 := Aside0.mk hr1
  have HC1 := Aside0.mk hc1
  clear hr0 hc0 hr1 hc1
  have HB := Aside0.mk (Below.refl w.heap.size w)
  unfold payment_Agree.f at h
  obtain ⟨e1, h1, h_⟩ := Option.bind_eq_some_iff.mp h
  replace h := h_
  clear h_
  have HF1 := Aside0.mk h1
  clear h1
  try dsimp only at h
  by_cases hc : e1 = 0
  case neg =>
    rw [if_neg hc] at h
    have he1 : (e1 != 0) = true := bne_iff_ne.mpr hc
    clear hc
    injection h with h
    injection h with hh1 hh2
    subst hh1 hh2
    go_enter Try.func82, Try.ntmps82
    go_wp2_with (first | (go_at_call 73; refine (payment_Check.calls k A0 c0 l e1 _ HR0.out HC0.out HF1.out).mono ?_; rintro e w1 ⟨rfl, hb⟩; clear HF1; replace HB := Aside0.mk (below_then HB.out HB.out.size hb); clear hb))
    go_ret2
    exact ⟨rfl, HB.out⟩
  rw [if_pos hc] at h
  subst hc
  by_cases hc : ¬ 32 < o.length
  case neg =>
    rw [if_neg hc] at h
    have g1 : decide ((32 : Int) < (o.length : Int)) = true := decide_eq_true (by omega)
    have g2 : decide (32 < o.length) = true := decide_eq_true (by omega)
    clear hc
    injection h with h
    injection h with hh1 hh2
    subst hh1 hh2
    go_enter Try.func82, Try.ntmps82
    go_wp2_with (first | (go_at_call 73; refine (payment_Check.calls k A0 c0 l 0 _ HR0.out HC0.out HF1.out).mono ?_; rintro e w1 ⟨rfl, hb⟩; clear HF1; replace HB := Aside0.mk (below_then HB.out HB.out.size hb); clear hb))
    go_ret2
    exact ⟨rfl, HB.out⟩
  rw [if_pos hc] at h
  have g1 : decide ((32 : Int) < (o.length : Int)) = false := decide_eq_false (by omega)
  have g2 : decide (32 < o.length) = false := decide_eq_false (by omega)
  have hol : o.length ≤ 32 := by omega
  have hll : l.length ≤ 9223372036854775807 := by have := HR0.out.2.1; first | exact this | (unfold maxLen at this; omega)
  clear hc
  have hB := Aside0.mk h
  clear h
  have hmm := @run_makeMap Try.prog
  go_enter Try.func82, Try.ntmps82
  go_wp2_with (first | (go_at_call 73; refine (payment_Check.calls k A0 c0 l 0 _ HR0.out HC0.out HF1.out).mono ?_; rintro e w1 ⟨rfl, hb⟩; clear HF1; replace HB := Aside0.mk (below_then HB.out HB.out.size hb); clear hb))
  have zeroE : ∀ w, (zeroValue 3).run Try.prog w = .ok (.int .i64 0) w := fun _ => by kernel_rfl
  have HZE := Aside0.mk zeroE
  have HW1 := Aside0.mk HB.out.size
  clear zeroE hmm g1 g2
  go_loopw [27, 8] (fun vi vm wr => ∃ (i : Nat) (ids : List Int) (hs : List (Int × Int × Int)) (D1 D2 : DataW Unit), i ≤ o.length ∧ vi = .int .i64 i ∧ vm = .int .i64 (hs.length : Int) ∧ Aside0 (Seen1 D1 ids) ∧ Aside0 (Seen2 D2 hs) ∧ Aside0 (AgOwn1 wr (w1.heap.size + 1) ids.length D1) ∧ Aside0 (AgOwn2 wr w1.heap.size hs.length D2) ∧ Aside0 (Below w.heap.size w wr) ∧ Aside0 ((payment_Agree.ch ids hs (o.drop i)).bind (payment_Agree.fin l) = some (r1, r2))) (fun vi _ _ => o.length - (intOf vi).toNat)
  case atStart =>
    have es : (w1.alloc (.map #[] 0)).heap.size = w1.heap.size + 1 := by simp
    exact ⟨0, [], [], .map [], .map [], Nat.zero_le _, rfl, rfl, ⟨Seen1.nil⟩, ⟨Seen2.nil_⟩, ⟨by rw [← es]; exact World.ownsMap_made _ _ _ _⟩, ⟨(World.ownsMap_made w1 _ _ _).alloc _⟩, ⟨(HB.out.alloc HB.out.size _).alloc (HB.out.alloc HB.out.size _).size _⟩, ⟨by rw [List.drop_zero]; exact hB.out⟩⟩
  case round =>
   clear HB hB
   obtain ⟨i, ids, hs, D1, D2, hi, rfl, rfl, HS1, HS2, HO1, HO2, HB, HR⟩ := hrel
   by_cases hil : i < o.length
   case neg =>
    obtain rfl : i = o.length := by omega
    have h := HR.out
    rw [List.drop_of_length_le (Nat.le_refl _), payment_Agree.ch] at h
    have HP := Aside0.mk h
    clear HR h HS1
    obtain ⟨b, hb1, hb2⟩ := Option.bind_eq_some_iff.mp (show ((payment_Agree.pay hs (hs.length : Int) l).bind fun b => some (b, (0 : Int))) = some (r1, r2) from HP.out)
    injection hb2 with hb2
    injection hb2 with hh1 hh2
    subst hh1 hh2
    have HPY := Aside0.mk hb1
    clear hb1 HP HO1
    go_wp2
    go_loopw [63, 8] (fun vj vm w5 => ∃ (j : Nat) (m : Int), j ≤ l.length ∧ vj = .int .i64 j ∧ vm = .int .i64 m ∧ Aside0 (AgOwn2 w5 w1.heap.size hs.length D2) ∧ Aside0 (Below w.heap.size w w5) ∧ Aside0 (payment_Agree.pay hs m (l.drop j) = some b)) (fun vj _ _ => l.length - (intOf vj).toNat)
    case atStart => exact ⟨0, (hs.length : Int), Nat.zero_le _, rfl, rfl, HO2, HB, ⟨by rw [List.drop_zero]; exact HPY.out⟩⟩
    case round =>
     clear HO2 HB HPY
     obtain ⟨j, m, hj, rfl, rfl, HO2, HB, HPY⟩ := hrel
     by_cases hjl : j < l.length
     case neg =>
      obtain rfl : j = l.length := by omega
      have h := HPY.out
      rw [List.drop_of_length_le (Nat.le_refl _), payment_Agree.pay] at h
      injection h with h
      subst h
      clear HPY
      go_wp2
      go_ret2
      exact ⟨rfl, HB.out⟩
     obtain ⟨adp, ep, hp0, hp1, hp2, hp3, hp4⟩ := at_T74 HR0.out (j : Int) (by omega) (by omega)
     subst ep
     have hdr := ag_drop74 hjl
     obtain ⟨p, hp⟩ : ∃ p, p = rd_T74 l (j : Int) := ⟨_, rfl⟩
     simp only [← hp, Int.toNat_natCast] at hp0 hp1 hp2 hp3 hp4 hdr
     clear hp
     replace hp0 := (HB.out.cell (World.block_lt_of_cell? w _ hp0)).trans hp0
     replace hp1 := (HB.out.cell (World.block_lt_of_cell? w _ hp1)).trans hp1
     replace hp2 := (HB.out.cell (World.block_lt_of_cell? w _ hp2)).trans hp2
     replace hp3 := (HB.out.cell (World.block_lt_of_cell? w _ hp3)).trans hp3
     replace hp4 := (HB.out.cell (World.block_lt_of_cell? w _ hp4)).trans hp4
     have h := HPY.out
     rw [hdr, payment_Agree.pay] at h
     clear hdr HPY
     by_cases hq : 0 ≤ p.f0 ∧ p.f0 < 18446744073709551616 ∧ 0 ≤ p.f2 ∧ p.f2 < 18446744073709551616 ∧ 0 ≤ p.f3 ∧ p.f3 < 18446744073709551616
     case neg => rw [if_neg hq] at h; cases h
     rw [if_pos hq] at h
     have HW0 := Aside0.mk (ag_wf64 ⟨hq.1, hq.2.1⟩)
     have HW2 := Aside0.mk (ag_wf64 ⟨hq.2.2.1, hq.2.2.2.1⟩)
     have HW3 := Aside0.mk (ag_wf64 ⟨hq.2.2.2.2.1, hq.2.2.2.2.2⟩)
     clear hq
     have hal := (Below.refl wr.heap.size wr).alloc (Nat.le_refl _) (.cells #[.int .u64 p.f0, .int .u64 p.f1, .int .u64 p.f2, .int .u64 p.f3, .int .i64 p.f4] 74)
     have HBa := Aside0.mk (below_then HB.out HB.out.size hal)
     have HO2a := Aside0.mk (ag_below HO2.out hal)
     clear hal
     by_cases h4 : p.f4 = 1
     case neg =>
      rw [if_neg h4] at h
      have HN := Aside0.mk h
      have h4b : (p.f4 != 1) = true := bne_iff_ne.mpr h4
      clear h h4
      go_wp2
      go_roundw
      case rel => exact ⟨j + 1, m, by omega, by go_num, rfl, HO2a, HBa, HN⟩
      case measure => simp [intOf]; omega
     rw [if_pos h4] at h
     have h4b : (p.f4 != 1) = false := bne_eq_false_iff_eq.mpr h4
     clear h4
     by_cases hct : hs.contains (p.f2, p.f0, p.f3) = true
     · rw [if_pos hct] at h
       have HN := Aside0.mk h
       have HQ : Aside0 (∀ cv, D2.atKey (ag_K131 p.f2 p.f0 p.f3) (.lit (.int .i64 0)) = .lit (.int .i64 cv) → (cv == 0) = false) := ⟨fun cv hat => by
         obtain ⟨n, n1, n2, n3⟩ := HS2.out.2 _ _ _ HW2.out HW0.out HW3.out
         have q := hat.symm.trans n2
         injection q with q
         injection q with _ q
         have : ¬ n = 0 := fun e => by rw [n3.1 e] at hct; cases hct
         exact beq_eq_false_iff_ne.mpr (by omega)⟩
       clear h hct
       go_wp2_with (at_lookup; refine wpList_lookup_own_int _ rfl _ _ 129 rfl 131 3 .i64 ag_keyed131 Try.underlying129 Try.underlying3 (HZE.out _) w1.heap.size hs.length D2 rfl (HO2.out.alloc _) _ _ rfl (ag_key131 HW2.out HW0.out HW3.out) ?_; intro cv hat hwc; clear hwc; have hz := HQ.out _ hat; clear hat)
       go_roundw
       case rel => exact ⟨j + 1, _, by omega, by go_num, rfl, HO2a, HBa, ⟨by have h_ := HN.out; rw [i64_w] at h_; exact h_⟩⟩
       case measure => simp [intOf]; omega
     · rw [if_neg hct] at h
       injection h with h
       subst h
       have HQ : Aside0 (∀ cv, D2.atKey (ag_K131 p.f2 p.f0 p.f3) (.lit (.int .i64 0)) = .lit (.int .i64 cv) → (cv == 0) = true) := ⟨fun cv hat => by
         obtain ⟨n, n1, n2, n3⟩ := HS2.out.2 _ _ _ HW2.out HW0.out HW3.out
         have q := hat.symm.trans n2
         injection q with q
         injection q with _ q
         have : n = 0 := n3.2 (by simpa using hct)
         exact beq_iff_eq.mpr (by omega)⟩
       clear hct
       go_wp2_with (at_lookup; refine wpList_lookup_own_int _ rfl _ _ 129 rfl 131 3 .i64 ag_keyed131 Try.underlying129 Try.underlying3 (HZE.out _) w1.heap.size hs.length D2 rfl (HO2.out.alloc _) _ _ rfl (ag_key131 HW2.out HW0.out HW3.out) ?_; intro cv hat hwc; clear hwc; have hz := HQ.out _ hat; clear hat)
       go_ret2
       exact ⟨rfl, HBa.out⟩
   obtain ⟨ad, A5, c5, ea, hx0, hx1, hx2, hx3, hx4, hx5, hx6, hl5, hi5⟩ := at_T25 HR1.out (i : Int) (by omega) (by omega)
   subst ea
   have hdr := drop25 hil
   obtain ⟨c, hc⟩ : ∃ c, c = rd_T25 o (i : Int) := ⟨_, rfl⟩
   simp only [← hc, Int.toNat_natCast] at hx0 hx1 hx2 hx3 hx4 hx5 hx6 hl5 hi5 hdr
   clear hc
   replace hx0 := (HB.out.cell (World.block_lt_of_cell? w _ hx0)).trans hx0
   replace hx1 := (HB.out.cell (World.block_lt_of_cell? w _ hx1)).trans hx1
   replace hx2 := (HB.out.cell (World.block_lt_of_cell? w _ hx2)).trans hx2
   replace hx3 := (HB.out.cell (World.block_lt_of_cell? w _ hx3)).trans hx3
   replace hx4 := (HB.out.cell (World.block_lt_of_cell? w _ hx4)).trans hx4
   replace hx5 := (HB.out.cell (World.block_lt_of_cell? w _ hx5)).trans hx5
   replace hx6 := (HB.out.cell (World.block_lt_of_cell? w _ hx6)).trans hx6
   have HL5 := Aside0.mk hl5
   have HI5 := Aside0.mk hi5
   clear hl5 hi5
   have h := HR.out
   rw [hdr, payment_Agree.ch] at h
   clear hdr HR
   by_cases hq : (0 ≤ c.f0 ∧ c.f0 < 18446744073709551616) ∧ (c.f5.all (fun h => decide (0 ≤ h.f0 ∧ h.f0 < 18446744073709551616 ∧ 0 ≤ h.f1 ∧ h.f1 < 18446744073709551616))) = true ∧ hs.length + c.f5.length < 1000000 ∧ ids.length < 1000
   case neg => rw [if_neg hq] at h; cases h
   rw [if_pos hq] at h
   have HWF := Aside0.mk (ag_wf64 hq.1)
   have HALL := Aside0.mk hq.2.1
   have HHL := Aside0.mk hq.2.2.1
   have HIL := Aside0.mk hq.2.2.2
   clear hq
   have HL1 := HO1
   by_cases hct : ids.contains c.f0 = true
   · rw [if_pos hct] at h
     injection h with h
     injection h with hh1 hh2
     subst hh1 hh2
     have HCT := Aside0.mk hct
     clear hct
     go_wp2_with (first | (at_lookup; refine wpList_lookup_own_int _ rfl _ _ 114 rfl 22 3 .i64 (Go.Maps.int_keyed Try.underlying22) Try.underlying114 Try.underlying3 (HZE.out _) (w1.heap.size + 1) ids.length D1 rfl (HL1.out.alloc _) _ _ rfl (Go.Maps.keyOf_int_mk Try.underlying22 HWF.out) ?_; intro cv hat hwc; clear hwc; have hcv : cv = 1 := (by have q := hat.symm.trans (HS1.out.2 _ HWF.out); rw [HCT.out] at q; injection q with q; injection q with _ q); subst hcv; clear hat HL1) | (at_mapUpdate; refine wpList_mapUpdate_own _ rfl _ _ _ 114 rfl 22 3 (Go.Maps.int_keyed Try.underlying22) Try.underlying114 _ (w1.heap.size + 1) ids.length D1 rfl (HO1.out.alloc _) (by have := HIL.out; unfold maxLen; omega) _ _ _ rfl rfl (Go.Maps.keyOf_int_mk Try.underlying22 HWF.out) (.lit (.int .i64 2)) [] (Go.plainElem_int Try.underlying3 (by decide)) ?_; intro w4 hown4 hgrow4; have HO4 := Aside0.mk hown4; have HGR := Aside0.mk hgrow4; have HAL := Aside0.mk ((Below.refl wr.heap.size wr).alloc (Nat.le_refl _) (.cells #[.int .u64 c.f0, .int .u64 c.f1, .int .u64 c.f2, .int .u64 c.f3, .int .u64 c.f4, .slice A5 c.f5.length c5, .bool c.f6] 25)); have HT := Aside0.mk ((HGR.out.block _ (blk_lt (blk_new wr (.cells #[.int .u64 c.f0, .int .u64 c.f1, .int .u64 c.f2, .int .u64 c.f3, .int .u64 c.f4, .slice A5 c.f5.length c5, .bool c.f6] 25))) (by intro q; injection q with q; have := HO1.out.lt; omega)).trans (blk_new wr (.cells #[.int .u64 c.f0, .int .u64 c.f1, .int .u64 c.f2, .int .u64 c.f3, .int .u64 c.f4, .slice A5 c.f5.length c5, .bool c.f6] 25))); have HO2b := Aside0.mk ((HO2.out.alloc (.cells #[.int .u64 c.f0, .int .u64 c.f1, .int .u64 c.f2, .int .u64 c.f3, .int .u64 c.f4, .slice A5 c.f5.length c5, .bool c.f6] 25)).kept HGR.out (by intro q; injection q with q; omega)); have HB4 := Aside0.mk ((HB.out.alloc HB.out.size (.cells #[.int .u64 c.f0, .int .u64 c.f1, .int .u64 c.f2, .int .u64 c.f3, .int .u64 c.f4, .slice A5 c.f5.length c5, .bool c.f6] 25)).grown HGR.out (by have := HB.out.size; simp; omega) (fun k_ hk => by injection hk with hk; have := HW1.out; omega)); obtain ⟨ht0, ht1, ht2, ht3, ht4, ht5, ht6, ht7, ht8, ht9, ht10, ht11, ht12, ht13⟩ := cz7_ HT.out; have HL2 := HO4; clear hown4 hgrow4) | (at_lookup; refine wpList_lookup_own_int _ rfl _ _ 114 rfl 22 3 .i64 (Go.Maps.int_keyed Try.underlying22) Try.underlying114 Try.underlying3 (HZE.out _) (w1.heap.size + 1) _ _ rfl HL2.out _ _ rfl (Go.Maps.keyOf_int_mk Try.underlying22 HWF.out) ?_; intro cv hat hwc; clear hwc; have hcv : cv = 2 := (by have q := hat.symm.trans (Go.Maps.atKey_put_same HS1.out.1 (k := .int .u64 c.f0) trivial _ _); injection q with q; injection q with _ q); subst hcv; clear hat HL2))
     go_ret2
     exact ⟨rfl, HB4.out⟩
   rw [if_neg hct] at h
   have HCT := Aside0.mk (show ids.contains c.f0 = false by simpa using hct)
   have HR := Aside0.mk h
   clear hct h
   go_wp2_with (first | (at_lookup; refine wpList_lookup_own_int _ rfl _ _ 114 rfl 22 3 .i64 (Go.Maps.int_keyed Try.underlying22) Try.underlying114 Try.underlying3 (HZE.out _) (w1.heap.size + 1) ids.length D1 rfl (HL1.out.alloc _) _ _ rfl (Go.Maps.keyOf_int_mk Try.underlying22 HWF.out) ?_; intro cv hat hwc; clear hwc; have hcv : cv = 0 := (by have q := hat.symm.trans (HS1.out.2 _ HWF.out); rw [HCT.out] at q; injection q with q; injection q with _ q); subst hcv; clear hat HL1) | (at_mapUpdate; refine wpList_mapUpdate_own _ rfl _ _ _ 114 rfl 22 3 (Go.Maps.int_keyed Try.underlying22) Try.underlying114 _ (w1.heap.size + 1) ids.length D1 rfl (HO1.out.alloc _) (by have := HIL.out; unfold maxLen; omega) _ _ _ rfl rfl (Go.Maps.keyOf_int_mk Try.underlying22 HWF.out) (.lit (.int .i64 1)) [] (Go.plainElem_int Try.underlying3 (by decide)) ?_; intro w4 hown4 hgrow4; have HO4 := Aside0.mk hown4; have HGR := Aside0.mk hgrow4; have HAL := Aside0.mk ((Below.refl wr.heap.size wr).alloc (Nat.le_refl _) (.cells #[.int .u64 c.f0, .int .u64 c.f1, .int .u64 c.f2, .int .u64 c.f3, .int .u64 c.f4, .slice A5 c.f5.length c5, .bool c.f6] 25)); have HT := Aside0.mk ((HGR.out.block _ (blk_lt (blk_new wr (.cells #[.int .u64 c.f0, .int .u64 c.f1, .int .u64 c.f2, .int .u64 c.f3, .int .u64 c.f4, .slice A5 c.f5.length c5, .bool c.f6] 25))) (by intro q; injection q with q; have := HO1.out.lt; omega)).trans (blk_new wr (.cells #[.int .u64 c.f0, .int .u64 c.f1, .int .u64 c.f2, .int .u64 c.f3, .int .u64 c.f4, .slice A5 c.f5.length c5, .bool c.f6] 25))); have HO2b := Aside0.mk ((HO2.out.alloc (.cells #[.int .u64 c.f0, .int .u64 c.f1, .int .u64 c.f2, .int .u64 c.f3, .int .u64 c.f4, .slice A5 c.f5.length c5, .bool c.f6] 25)).kept HGR.out (by intro q; injection q with q; omega)); have HB4 := Aside0.mk ((HB.out.alloc HB.out.size (.cells #[.int .u64 c.f0, .int .u64 c.f1, .int .u64 c.f2, .int .u64 c.f3, .int .u64 c.f4, .slice A5 c.f5.length c5, .bool c.f6] 25)).grown HGR.out (by have := HB.out.size; simp; omega) (fun k_ hk => by injection hk with hk; have := HW1.out; omega)); obtain ⟨ht0, ht1, ht2, ht3, ht4, ht5, ht6, ht7, ht8, ht9, ht10, ht11, ht12, ht13⟩ := cz7_ HT.out; have HL2 := HO4; clear hx0 hx1 hx2 hx3 hx4 hx5 hx6; clear hown4 hgrow4) | (at_lookup; refine wpList_lookup_own_int _ rfl _ _ 114 rfl 22 3 .i64 (Go.Maps.int_keyed Try.underlying22) Try.underlying114 Try.underlying3 (HZE.out _) (w1.heap.size + 1) _ _ rfl HL2.out _ _ rfl (Go.Maps.keyOf_int_mk Try.underlying22 HWF.out) ?_; intro cv hat hwc; clear hwc; have hcv : cv = 1 := (by have q := hat.symm.trans (Go.Maps.atKey_put_same HS1.out.1 (k := .int .u64 c.f0) trivial _ _); injection q with q; injection q with _ q); subst hcv; clear hat HL2))
   have HTB : Aside0 (w1.heap.size + 1 < wr.heap.size) := ⟨HO1.out.lt⟩
   have hcl : c.f5.length ≤ 9223372036854775807 := by have := HI5.out.2.1; first | exact this | (unfold maxLen at this; omega)
   clear HAL HGR
   generalize wr.heap.size = gT at HT HTB ⊢
   clear ht0 ht1 ht2 ht3 ht4 ht5 ht6 ht7 ht8 ht9 ht10 ht11 ht12 ht13 HO1 HO2 HB
   go_loopw [44, 8] (fun vj vm w5 => ∃ (j : Nat) (hs5 : List (Int × Int × Int)) (D5 : DataW Unit), j ≤ c.f5.length ∧ vj = .int .i64 j ∧ vm = .int .i64 (hs5.length : Int) ∧ Aside0 (hs5 = hs ++ (c.f5.take j).map (fun h => (c.f0, h.f0, h.f1))) ∧ Aside0 (Seen2 D5 hs5) ∧ Aside0 (AgOwn1 w5 (w1.heap.size + 1) (ids.length + 1) (D1.put (.int .u64 c.f0) (.lit (.int .i64 1)))) ∧ Aside0 (AgOwn2 w5 w1.heap.size hs5.length D5) ∧ Aside0 (Below w.heap.size w w5) ∧ Aside0 (w5.heap[gT]? = some (.cells #[.int .u64 c.f0, .int .u64 c.f1, .int .u64 c.f2, .int .u64 c.f3, .int .u64 c.f4, .slice A5 c.f5.length c5, .bool c.f6] 25 (0, 0)))) (fun vj _ _ => c.f5.length - (intOf vj).toNat)
   case atStart => exact ⟨0, hs, D2, Nat.zero_le _, rfl, rfl, ⟨by simp⟩, HS2, HO4, HO2b, HB4, HT⟩
   case round =>
    clear HO4 HO2b HB4 HT
    obtain ⟨j, hs5, D5, hj, rfl, rfl, HE5, HS5, HO1, HO2, HB, HT⟩ := hrel
    by_cases hjl : j < c.f5.length
    case neg =>
     obtain rfl : j = c.f5.length := by omega
     have he5 := HE5.out
     rw [List.take_of_length_le (Nat.le_refl _)] at he5
     have HE6 := Aside0.mk he5
     clear he5 HE5
     go_wp2
     go_roundw
     case rel => exact ⟨i + 1, ids ++ [c.f0], hs5, _, D5, by omega, by go_num, rfl, ⟨HS1.out.put HWF.out⟩, HS5, ⟨by rw [List.length_append]; exact HO1.out⟩, HO2, HB, ⟨by rw [HE6.out]; exact HR.out⟩⟩
     case measure => simp [intOf]; omega
    obtain ⟨adh, eh, hc0, hc1⟩ := at_T44 HI5.out (j : Int) (by omega) (by omega)
    subst eh
    obtain ⟨x, hx⟩ : ∃ x, x = rd_T44 c.f5 (j : Int) := ⟨_, rfl⟩
    simp only [← hx, Int.toNat_natCast] at hc0 hc1
    have hxm : c.f5[j]? = some x := by rw [hx]; simp only [rd_T44, Int.toNat_natCast, List.getD_eq_getElem?_getD, List.getElem?_eq_getElem hjl, Option.getD_some]
    have hxg := of_decide_eq_true (List.all_eq_true.1 HALL.out x (List.mem_of_getElem? hxm))
    have HX0 := Aside0.mk (ag_wf64 ⟨hxg.1, hxg.2.1⟩)
    have HX1 := Aside0.mk (ag_wf64 hxg.2.2)
    have HXM := Aside0.mk hxm
    have hln : hs5.length ≤ hs.length + j := by rw [HE5.out]; simp; omega
    have HLN := Aside0.mk hln
    clear hx hxm hxg hln
    replace hc0 := (HB.out.cell (World.block_lt_of_cell? w _ hc0)).trans hc0
    replace hc1 := (HB.out.cell (World.block_lt_of_cell? w _ hc1)).trans hc1
    obtain ⟨ht0, ht1, ht2, ht3, ht4, ht5, ht6, ht7, ht8, ht9, ht10, ht11, ht12, ht13⟩ := cz7_ HT.out
    go_wp2
    clear ht0 ht1 ht2 ht3 ht4 ht5 ht6 ht7 ht8 ht9 ht10 ht11 ht12 ht13 hc0 hc1
    have hal := (Below.refl wr.heap.size wr).alloc (Nat.le_refl _) (.cells #[.int .u64 x.f0, .int .u64 x.f1] 44)
    have HH := Aside0.mk (blk_drew (blk_new wr (.cells #[.int .u64 x.f0, .int .u64 x.f1] 44)))
    have HNE : Aside0 (gT < wr.heap.size) := ⟨blk_lt HT.out⟩
    replace HB := Aside0.mk (below_drew1 (below_then HB.out HB.out.size hal))
    replace HO1 := Aside0.mk (ag_below HO1.out hal).drew
    replace HO2 := Aside0.mk (ag_below HO2.out hal).drew
    replace HT := Aside0.mk (blk_drew (blk_below HT.out hal))
    clear hal
    obtain ⟨cv, st, we, hre, hat, hwc, hl0, hl1, hg1, hst⟩ := ag_entry_own ag_law131 HO2.out Try.underlying129 Try.underlying3 HZE.out (by have := HLN.out; have := HHL.out; unfold maxLen; omega) (ag_key131 HWF.out HX0.out HX1.out)
    obtain ⟨ws, hrs, hos, hgs⟩ := hst (IntKind.i64.wrap (cv + 1)) (by simp only [i64_w]; exact wrap64_wf _)
    have HL0 := Aside0.mk hl0
    have HL1e := Aside0.mk hl1
    have HRE := Aside0.mk hre
    have HRS := Aside0.mk hrs
    have HAT := Aside0.mk hat
    have HOS := Aside0.mk hos
    have HGS := Aside0.mk hgs
    have HTe := Aside0.mk ((hg1.block _ (blk_lt HT.out) (by intro q; injection q with q; have := HO2.out.lt; have := HTB.out; omega)).trans HT.out)
    have HHe := Aside0.mk ((hg1.block _ (blk_lt HH.out) (by intro q; injection q with q; have := HNE.out; have := HTB.out; omega)).trans HH.out)
    clear hre hat hwc hl0 hl1 hg1 hst hrs hos hgs
    refine start_ (n := 10) (S := fun w' => w'.cell? ⟨gT, 0, none⟩ = some (.int .u64 c.f0) ∧ w'.cell? ⟨wr.heap.size, 0, none⟩ = some (.int .u64 x.f0) ∧ w'.cell? ⟨wr.heap.size, 1, none⟩ = some (.int .u64 x.f1) ∧ (Instr.lookup 129 (.map (some w1.heap.size)) (.agg #[.int .u64 c.f0, .int .u64 x.f0, .int .u64 x.f1]) false).run Try.prog w' = .ok (.int .i64 cv) w') (ds := [9]) #[false, false, false, false, false, false, false, false, false, false] (by kernel_rfl) rfl rfl ⟨(cz7_ HT.out).1, (cz2_ HH.out).1, (cz2_ HH.out).2.1, HL0.out⟩ (fun hHeld => ?_)
    generalize (wr.alloc (.cells #[.int .u64 x.f0, .int .u64 x.f1] 44)).drew = wd at HB HO1 HO2 HT HH HL0 HRE HGS hHeld ⊢
    refine pure_ (i := 0) (N := some 48) (v := ?_) (a' := ?_) #[true, false, false, false, false, false, false, false, false, false] rfl rfl (by kernel_rfl) (fun _ _ _ h => h) (Or.inl ⟨by rfl, ?_⟩) ?_ ?_
    rotate_left
    · intro w'
      go_simp
      with_reducible rfl
    rotate_left
    · simp only [Act.put, List.setIfInBounds_toArray, List.set_cons_zero, List.set_cons_succ, i64_w, i32_w]
      rfl
    refine pure_ (i := 1) (N := some 49) (v := ?_) (a' := ?_) #[true, true, false, false, false, false, false, false, false, false] rfl rfl (by kernel_rfl) (fun _ _ _ h => h) (Or.inl ⟨by rfl, ?_⟩) ?_ ?_
    rotate_left
    · intro w'
      go_simp
      with_reducible rfl
    rotate_left
    · simp only [Act.put, List.setIfInBounds_toArray, List.set_cons_zero, List.set_cons_succ, i64_w, i32_w]
      rfl
    refine take_ (i := 2) (N := some 50) (v := ?_) (a' := ?_) #[true, true, true, false, false, false, false, false, false, false] rfl rfl (by kernel_rfl) (fun _ _ _ h => h) (Or.inl ⟨by rfl, ?_⟩) hHeld ?_ ?_
    rotate_left
    · rintro w' ⟨s0, s1, s2, s3⟩
      go_simp
      with_reducible rfl
    rotate_left
    · simp only [Act.put, List.setIfInBounds_toArray, List.set_cons_zero, List.set_cons_succ, i64_w, i32_w]
      rfl
    refine take_ (i := 3) (N := some 51) (v := ?_) (a' := ?_) #[true, true, true, true, false, false, false, false, false, false] rfl rfl (by kernel_rfl) (fun _ _ _ h => h) (Or.inl ⟨by rfl, ?_⟩) hHeld ?_ ?_
    rotate_left
    · rintro w' ⟨s0, s1, s2, s3⟩
      go_simp
      with_reducible rfl
    rotate_left
    · simp only [Act.put, List.setIfInBounds_toArray, List.set_cons_zero, List.set_cons_succ, i64_w, i32_w]
      rfl
    refine pure_ (i := 4) (N := some 52) (v := ?_) (a' := ?_) #[true, true, true, true, true, false, false, false, false, false] rfl rfl (by kernel_rfl) (fun _ _ _ h => h) (Or.inl ⟨by rfl, ?_⟩) ?_ ?_
    rotate_left
    · intro w'
      go_simp
      with_reducible rfl
    rotate_left
    · simp only [Act.put, List.setIfInBounds_toArray, List.set_cons_zero, List.set_cons_succ, i64_w, i32_w]
      rfl
    refine take_ (i := 5) (N := some 53) (v := ?_) (a' := ?_) #[true, true, true, true, true, true, false, false, false, false] rfl rfl (by kernel_rfl) (fun _ _ _ h => h) (Or.inl ⟨by rfl, ?_⟩) hHeld ?_ ?_
    rotate_left
    · rintro w' ⟨s0, s1, s2, s3⟩
      go_simp
      with_reducible rfl
    rotate_left
    · simp only [Act.put, List.setIfInBounds_toArray, List.set_cons_zero, List.set_cons_succ, i64_w, i32_w]
      rfl
    refine pure_ (i := 6) (N := some 54) (v := ?_) (a' := ?_) #[true, true, true, true, true, true, true, false, false, false] rfl rfl (by kernel_rfl) (fun _ _ _ h => h) (Or.inl ⟨by rfl, ?_⟩) ?_ ?_
    rotate_left
    · intro w'
      go_simp
      with_reducible rfl
    rotate_left
    · simp only [Act.put, List.setIfInBounds_toArray, List.set_cons_zero, List.set_cons_succ, i64_w, i32_w]
      rfl
    refine one_ (i := 7) (N := some 55) #[true, true, true, true, true, true, true, true, false, false] rfl rfl (by kernel_rfl) (by decide) (fun K hK => ?_)
    have hre := HRE.out
    refine event_step (w1 := we) (v := .tuple #[.int .i64 cv, goInt st]) (by rfl) (by first | (go_simp; done) | (go_simp; rfl)) ?_
    clear hre
    refine hK.out _ _ ⟨(cz7_ HTe.out).1, (cz2_ HHe.out).1, (cz2_ HHe.out).2.1, HL1e.out⟩ (fun hHeld => ?_)
    clear hK K
    refine norm_ (a' := ?_) ?_ ?_
    rotate_left
    · show Act.put _ (some 55) _ = _
      simp only [Act.put, List.setIfInBounds_toArray, List.set_cons_zero, List.set_cons_succ, i64_w, i32_w]
      rfl
    refine pure_ (i := 8) (N := some 56) (v := ?_) (a' := ?_) #[true, true, true, true, true, true, true, true, true, false] rfl rfl (by kernel_rfl) (fun _ _ _ h => h) (Or.inl ⟨by rfl, ?_⟩) ?_ ?_
    rotate_left
    · intro w'
      go_simp
      with_reducible rfl
    rotate_left
    · simp only [Act.put, List.setIfInBounds_toArray, List.set_cons_zero, List.set_cons_succ, i64_w, i32_w]
      rfl
    refine last_ (i := 9) (N := none) #[true, true, true, true, true, true, true, true, true, true] rfl rfl (by kernel_rfl) (by decide) (fun K hK => ?_)
    have hrs : (Instr.entryStore 129 (.map (some w1.heap.size)) (.int .i64 (st : Int)) (.int .i64 (wrap64 (cv + 1)))).run Try.prog we = .ok () ws := by have h_ := HRS.out; rw [i64_w] at h_; exact h_
    refine skip_ (w1 := ws) (by rfl) rfl ?_ ?_
    · first | (go_simp; done) | (go_simp; rfl)
    clear hrs
    refine hK.out _ _ ?_
    clear hK K
    refine done_ (by kernel_rfl) ?_
    have HBs := Aside0.mk (HB.out.grown HGS.out HB.out.size (fun k_ hk => by injection hk with hk; have := HW1.out; omega))
    have HO1s := Aside0.mk (HO1.out.kept HGS.out (by intro q; injection q with q; omega))
    have HTs := Aside0.mk ((HGS.out.block _ (blk_lt HT.out) (by intro q; injection q with q; have := HTB.out; omega)).trans HT.out)
    have hcb : ∃ n : Nat, n ≤ hs5.length ∧ cv = (n : Int) := by
      obtain ⟨n, n1, n2, _⟩ := HS5.out.2 _ _ _ HWF.out HX0.out HX1.out
      have := HAT.out.symm.trans n2
      injection this with this
      injection this with _ this
      exact ⟨n, n1, this⟩
    have hcw : IntKind.i64.wrap (cv + 1) = cv + 1 := by
      obtain ⟨n, n1, n2⟩ := hcb
      have := HLN.out
      have := HHL.out
      rw [IntWalk.i64_in _ (by omega)]
    have hnw : wrap64 ((hs5.length : Int) + 1) = (hs5.length : Int) + 1 := by
      have := HLN.out
      have := HHL.out
      unfold wrap64; omega
    have HOS2 : Aside0 (AgOwn2 ws w1.heap.size (hs5.length + 1) (D5.put (ag_K131 c.f0 x.f0 x.f1) (.lit (.int .i64 (cv + 1))))) := ⟨by rw [← hcw]; exact HOS.out⟩
    have HTK : Aside0 ((c.f5.take (j + 1)).map (fun h => (c.f0, h.f0, h.f1)) = (c.f5.take j).map (fun h => (c.f0, h.f0, h.f1)) ++ [(c.f0, x.f0, x.f1)]) := ⟨by rw [List.take_add_one, HXM.out, List.map_append]; rfl⟩
    clear HB HO1 HT HOS HO2 hcb hcw
    go_wp2
    go_roundw
    case rel => exact ⟨j + 1, hs5 ++ [(c.f0, x.f0, x.f1)], _, by omega, by go_num, by rw [hnw]; simp, ⟨by rw [HTK.out, ← List.append_assoc, ← HE5.out]⟩, ⟨HS5.out.put HWF.out HX0.out HX1.out HAT.out⟩, HO1s, ⟨by rw [List.length_append]; exact HOS2.out⟩, HBs, HTs⟩
    case measure => simp [intOf]; omega

end Go.Proofs.Ytcfbcoinbecdfaa.P
