-- written by a program of this session (wip/print)
import Derived.Test.YtcfbcoinbecdfaaQPdoesx0
import Derived.Test.YtcfbcoinbecdfaaQPdoesx1
import Derived.Test.YtcfbcoinbecdfaaQPdoesx3
import Derived.Test.YtcfbcoinbecdfaaQPdoesx4
import Derived.Test.YtcfbcoinbecdfaaQPdoesx5
import Derived.Test.YtcfbcoinbecdfaaQPdoesx6
import Derived.Test.YtcfbcoinbecdfaaQPdoesx7
import Derived.Test.YtcfbcoinbecdfaaQPdoesx9
namespace Go.Proofs.Ytcfbcoinbecdfaa.P
open Go.RowKit Go.Proofs.YtcfbcoinbecdfaaW.PrintWords Go.Proofs.YtcfbcoinbecdfaaW.PrintLast Go.Proofs.YtcfbcoinbecdfaaW.PrintMore
attribute [local go_sem] max2_int min2_int max_two min_two max_three min_three max_four min_four run_sub64_   -- for this text's walks alone
set_option linter.unusedVariables false
set_option linter.unusedSimpArgs false

attribute [local go_sem high] eqA74
/-! ### damsonlaw13_PaymentDoes: function 19 -/
mutual
def damsonlaw13_PaymentDoes.j0 : Nat → List (S74) → List (S74) → Int → Bool → Bool → Int → Int → Int → Int → Int → Option (Bool)
 | 0, _, _, _, _, _, _, _, _, _, _ => none
 | k + 1, x0, x1, x3, x4, x40, x286000, x286001, x286002, x286003, x286004 => if x40 = true then (some true) else (if ([] : List (S74)).length + x0.length < 3518437208883 then ((some (([] : List (S74)) ++ x0 : List (S74))).bind fun y289 => ((payment_Start.f k x0 x286000 x286001 x286002 x286003 x286004).bind fun bt292 => ((damsonref13_Start.f k x0 x286000 x286001 x286002 x286003 x286004).bind fun bt296 => ((payment_End.f k x0 x3 x4).bind fun bt300 => ((damsonref13_End.f k x0 x3 x4).bind fun bt304 => ((payment_Get.f k x0 x3).bind fun bt308 => ((damsonref13_Get.f k x0 x3).bind fun bt315 => ((payment_Held.f k x0 x3).bind fun bt322 => ((damsonref13_Held.f k x0 x3).bind fun bt324 => ((damsonref13_Same.f k bt292.1 bt296.1).bind fun t326 => (if t326 = true then (if bt292.2 = bt296.2 then ((damsonref13_Same.f k bt300.1 bt304.1).bind fun t327 => (if t327 = true then (if bt300.2 = bt304.2 then (if (bt308.1 == bt315.1 && (bt308.2.1 == bt315.2.1 && (bt308.2.2.1 == bt315.2.2.1 && (bt308.2.2.2.1 == bt315.2.2.2.1 && (bt308.2.2.2.2.1 == bt315.2.2.2.2.1))))) = true then (if bt308.2.2.2.2.2 = bt315.2.2.2.2.2 then (if bt322.1 = bt324.1 then (if bt322.2 = bt324.2 then ((payment_Check.f k x0).bind fun t328 => ((damsonref13_Check.f k x0).bind fun t329 => (if t328 = t329 then ((payment_Same.f k x0 x1).bind fun t330 => ((damsonref13_Same.f k x0 x1).bind fun t331 => (damsonlaw13_PaymentDoes.j1 k x0 y289 bt292.1 bt300.1 (t330 == t331)))) else (damsonlaw13_PaymentDoes.j1 k x0 y289 bt292.1 bt300.1 false)))) else (damsonlaw13_PaymentDoes.j1 k x0 y289 bt292.1 bt300.1 false)) else (damsonlaw13_PaymentDoes.j1 k x0 y289 bt292.1 bt300.1 false)) else (damsonlaw13_PaymentDoes.j1 k x0 y289 bt292.1 bt300.1 false)) else (damsonlaw13_PaymentDoes.j1 k x0 y289 bt292.1 bt300.1 false)) else (damsonlaw13_PaymentDoes.j1 k x0 y289 bt292.1 bt300.1 false)) else (damsonlaw13_PaymentDoes.j1 k x0 y289 bt292.1 bt300.1 false))) else (damsonlaw13_PaymentDoes.j1 k x0 y289 bt292.1 bt300.1 false)) else (damsonlaw13_PaymentDoes.j1 k x0 y289 bt292.1 bt300.1 false)))))))))))) else (none))
def damsonlaw13_PaymentDoes.j1 : Nat → List (S74) → List (S74) → List (S74) → List (S74) → Bool → Option (Bool)
 | 0, _, _, _, _, _ => none
 | k + 1, x0, x11, x12, x16, x28 => damsonlaw13_PaymentDoes.l0 k x0 x11 x12 x16 x28 (x12.length : Int) 0
def damsonlaw13_PaymentDoes.l0 : Nat → List (S74) → List (S74) → List (S74) → List (S74) → Bool → Int → Int → Option (Bool)
 | 0, _, _, _, _, _, _, _ => none
 | k + 1, x0, x11, x12, x16, x28, x148, x149 => if x149 < x148 then (if 0 ≤ x149 then (if x149 < (x12.length : Int) then (damsonlaw13_PaymentDoes.l0 k x0 x11 (x12.set (x149 : Int).toNat (⟨(rd_T74 x12 x149).f0, (rd_T74 x12 x149).f1, (rd_T74 x12 x149).f2, IntKind.u64.wrap (((rd_T74 x12 x149).f3) + 1), (rd_T74 x12 x149).f4⟩ : S74)) x16 x28 x148 (wrap64 (x149 + 1))) else (none)) else (none)) else (damsonlaw13_PaymentDoes.l1 k x0 x11 x16 x28 (x16.length : Int) 0)
def damsonlaw13_PaymentDoes.l1 : Nat → List (S74) → List (S74) → List (S74) → Bool → Int → Int → Option (Bool)
 | 0, _, _, _, _, _, _ => none
 | k + 1, x0, x11, x16, x28, x162, x163 => if x163 < x162 then (if 0 ≤ x163 then (if x163 < (x16.length : Int) then (damsonlaw13_PaymentDoes.l1 k x0 x11 (x16.set (x163 : Int).toNat (⟨(rd_T74 x16 x163).f0, (rd_T74 x16 x163).f1, (rd_T74 x16 x163).f2, IntKind.u64.wrap (((rd_T74 x16 x163).f3) + 1), (rd_T74 x16 x163).f4⟩ : S74)) x28 x162 (wrap64 (x163 + 1))) else (none)) else (none)) else (if x28 = true then ((damsonref13_Same.f k x0 x11).bind fun t336 => (some t336)) else (some false))
end
def damsonlaw13_PaymentDoes.f (k : Nat) (l0 : List (S74)) (l1 : List (S74)) (a2_0 : Int) (a2_1 : Int) (a2_2 : Int) (a2_3 : Int) (a2_4 : Int) (a3 : Int) (a4 : Bool) : Option (Bool) := (damsonlaw13_live.f k).bind fun t286 => (if t286 = true then ((damsonlaw13_few.f l0).bind fun t287 => (if t287 = true then ((damsonlaw13_few.f l1).bind fun t288 => (damsonlaw13_PaymentDoes.j0 k l0 l1 a3 a4 (!t288) a2_0 a2_1 a2_2 a2_3 a2_4)) else (damsonlaw13_PaymentDoes.j0 k l0 l1 a3 a4 true a2_0 a2_1 a2_2 a2_3 a2_4))) else (some false))
theorem damsonlaw13_PaymentDoes.mono_l : ∀ k, (∀ y0 y1 y2 y3 y4 y5 y6 y7 y8 y9, LeO (damsonlaw13_PaymentDoes.j0 k y0 y1 y2 y3 y4 y5 y6 y7 y8 y9) (damsonlaw13_PaymentDoes.j0 (k + 1) y0 y1 y2 y3 y4 y5 y6 y7 y8 y9)) ∧ (∀ y0 y1 y2 y3 y4, LeO (damsonlaw13_PaymentDoes.j1 k y0 y1 y2 y3 y4) (damsonlaw13_PaymentDoes.j1 (k + 1) y0 y1 y2 y3 y4)) ∧ (∀ y0 y1 y2 y3 y4 y5 y6, LeO (damsonlaw13_PaymentDoes.l0 k y0 y1 y2 y3 y4 y5 y6) (damsonlaw13_PaymentDoes.l0 (k + 1) y0 y1 y2 y3 y4 y5 y6)) ∧ (∀ y0 y1 y2 y3 y4 y5, LeO (damsonlaw13_PaymentDoes.l1 k y0 y1 y2 y3 y4 y5) (damsonlaw13_PaymentDoes.l1 (k + 1) y0 y1 y2 y3 y4 y5))
 | 0 => ⟨fun _ _ _ _ _ _ _ _ _ _ r h => by simp [damsonlaw13_PaymentDoes.j0] at h, fun _ _ _ _ _ r h => by simp [damsonlaw13_PaymentDoes.j1] at h, fun _ _ _ _ _ _ _ r h => by simp [damsonlaw13_PaymentDoes.l0] at h, fun _ _ _ _ _ _ r h => by simp [damsonlaw13_PaymentDoes.l1] at h⟩
 | k + 1 => by
  obtain ⟨ih0, ih1, ih2, ih3⟩ := damsonlaw13_PaymentDoes.mono_l k
  refine ⟨?_, ?_, ?_, ?_⟩
  ·intro y0 y1 y2 y3 y4 y5 y6 y7 y8 y9
   unfold damsonlaw13_PaymentDoes.j0
   repeat' first
   | (with_reducible exact ih0 _ _ _ _ _ _ _ _ _ _)
   | (with_reducible exact ih1 _ _ _ _ _)
   | (with_reducible exact ih2 _ _ _ _ _ _ _)
   | (with_reducible exact ih3 _ _ _ _ _ _)
   | (with_reducible exact damsonlaw13_live.mono _)
   | (with_reducible exact damsonref13_Check.mono _ _)
   | (with_reducible exact damsonref13_End.mono _ _ _ _)
   | (with_reducible exact damsonref13_Get.mono _ _ _)
   | (with_reducible exact damsonref13_Held.mono _ _ _)
   | (with_reducible exact damsonref13_Same.mono _ _ _)
   | (with_reducible exact damsonref13_Start.mono _ _ _ _ _ _ _)
   | (with_reducible exact payment_Check.mono _ _)
   | (with_reducible exact payment_End.mono _ _ _ _)
   | (with_reducible exact payment_Get.mono _ _ _)
   | (with_reducible exact payment_Held.mono _ _ _)
   | (with_reducible exact payment_Same.mono _ _ _)
   | (with_reducible exact payment_Start.mono _ _ _ _ _ _ _)
   | (with_reducible exact LeO.refl _)
   | (with_reducible exact LeO.none _)
   | (with_reducible refine LeO.ite ?_ ?_)
   | (with_reducible refine LeO.bind ?_ (fun _ => ?_))
   | exact ih0 _ _ _ _ _ _ _ _ _ _
   | exact ih1 _ _ _ _ _
   | exact ih2 _ _ _ _ _ _ _
   | exact ih3 _ _ _ _ _ _
   | exact damsonlaw13_live.mono _
   | exact damsonref13_Check.mono _ _
   | exact damsonref13_End.mono _ _ _ _
   | exact damsonref13_Get.mono _ _ _
   | exact damsonref13_Held.mono _ _ _
   | exact damsonref13_Same.mono _ _ _
   | exact damsonref13_Start.mono _ _ _ _ _ _ _
   | exact payment_Check.mono _ _
   | exact payment_End.mono _ _ _ _
   | exact payment_Get.mono _ _ _
   | exact payment_Held.mono _ _ _
   | exact payment_Same.mono _ _ _
   | exact payment_Start.mono _ _ _ _ _ _ _
   | exact LeO.none _
   | refine LeO.ite ?_ ?_
   | refine LeO.bind ?_ (fun _ => ?_)
  ·intro y0 y1 y2 y3 y4
   unfold damsonlaw13_PaymentDoes.j1
   repeat' first
   | (with_reducible exact ih0 _ _ _ _ _ _ _ _ _ _)
   | (with_reducible exact ih1 _ _ _ _ _)
   | (with_reducible exact ih2 _ _ _ _ _ _ _)
   | (with_reducible exact ih3 _ _ _ _ _ _)
   | (with_reducible exact damsonlaw13_live.mono _)
   | (with_reducible exact damsonref13_Check.mono _ _)
   | (with_reducible exact damsonref13_End.mono _ _ _ _)
   | (with_reducible exact damsonref13_Get.mono _ _ _)
   | (with_reducible exact damsonref13_Held.mono _ _ _)
   | (with_reducible exact damsonref13_Same.mono _ _ _)
   | (with_reducible exact damsonref13_Start.mono _ _ _ _ _ _ _)
   | (with_reducible exact payment_Check.mono _ _)
   | (with_reducible exact payment_End.mono _ _ _ _)
   | (with_reducible exact payment_Get.mono _ _ _)
   | (with_reducible exact payment_Held.mono _ _ _)
   | (with_reducible exact payment_Same.mono _ _ _)
   | (with_reducible exact payment_Start.mono _ _ _ _ _ _ _)
   | (with_reducible exact LeO.refl _)
   | (with_reducible exact LeO.none _)
   | (with_reducible refine LeO.ite ?_ ?_)
   | (with_reducible refine LeO.bind ?_ (fun _ => ?_))
   | exact ih0 _ _ _ _ _ _ _ _ _ _
   | exact ih1 _ _ _ _ _
   | exact ih2 _ _ _ _ _ _ _
   | exact ih3 _ _ _ _ _ _
   | exact damsonlaw13_live.mono _
   | exact damsonref13_Check.mono _ _
   | exact damsonref13_End.mono _ _ _ _
   | exact damsonref13_Get.mono _ _ _
   | exact damsonref13_Held.mono _ _ _
   | exact damsonref13_Same.mono _ _ _
   | exact damsonref13_Start.mono _ _ _ _ _ _ _
   | exact payment_Check.mono _ _
   | exact payment_End.mono _ _ _ _
   | exact payment_Get.mono _ _ _
   | exact payment_Held.mono _ _ _
   | exact payment_Same.mono _ _ _
   | exact payment_Start.mono _ _ _ _ _ _ _
   | exact LeO.none _
   | refine LeO.ite ?_ ?_
   | refine LeO.bind ?_ (fun _ => ?_)
  ·intro y0 y1 y2 y3 y4 y5 y6
   unfold damsonlaw13_PaymentDoes.l0
   repeat' first
   | (with_reducible exact ih0 _ _ _ _ _ _ _ _ _ _)
   | (with_reducible exact ih1 _ _ _ _ _)
   | (with_reducible exact ih2 _ _ _ _ _ _ _)
   | (with_reducible exact ih3 _ _ _ _ _ _)
   | (with_reducible exact damsonlaw13_live.mono _)
   | (with_reducible exact damsonref13_Check.mono _ _)
   | (with_reducible exact damsonref13_End.mono _ _ _ _)
   | (with_reducible exact damsonref13_Get.mono _ _ _)
   | (with_reducible exact damsonref13_Held.mono _ _ _)
   | (with_reducible exact damsonref13_Same.mono _ _ _)
   | (with_reducible exact damsonref13_Start.mono _ _ _ _ _ _ _)
   | (with_reducible exact payment_Check.mono _ _)
   | (with_reducible exact payment_End.mono _ _ _ _)
   | (with_reducible exact payment_Get.mono _ _ _)
   | (with_reducible exact payment_Held.mono _ _ _)
   | (with_reducible exact payment_Same.mono _ _ _)
   | (with_reducible exact payment_Start.mono _ _ _ _ _ _ _)
   | (with_reducible exact LeO.refl _)
   | (with_reducible exact LeO.none _)
   | (with_reducible refine LeO.ite ?_ ?_)
   | (with_reducible refine LeO.bind ?_ (fun _ => ?_))
   | exact ih0 _ _ _ _ _ _ _ _ _ _
   | exact ih1 _ _ _ _ _
   | exact ih2 _ _ _ _ _ _ _
   | exact ih3 _ _ _ _ _ _
   | exact damsonlaw13_live.mono _
   | exact damsonref13_Check.mono _ _
   | exact damsonref13_End.mono _ _ _ _
   | exact damsonref13_Get.mono _ _ _
   | exact damsonref13_Held.mono _ _ _
   | exact damsonref13_Same.mono _ _ _
   | exact damsonref13_Start.mono _ _ _ _ _ _ _
   | exact payment_Check.mono _ _
   | exact payment_End.mono _ _ _ _
   | exact payment_Get.mono _ _ _
   | exact payment_Held.mono _ _ _
   | exact payment_Same.mono _ _ _
   | exact payment_Start.mono _ _ _ _ _ _ _
   | exact LeO.none _
   | refine LeO.ite ?_ ?_
   | refine LeO.bind ?_ (fun _ => ?_)
  ·intro y0 y1 y2 y3 y4 y5
   unfold damsonlaw13_PaymentDoes.l1
   repeat' first
   | (with_reducible exact ih0 _ _ _ _ _ _ _ _ _ _)
   | (with_reducible exact ih1 _ _ _ _ _)
   | (with_reducible exact ih2 _ _ _ _ _ _ _)
   | (with_reducible exact ih3 _ _ _ _ _ _)
   | (with_reducible exact damsonlaw13_live.mono _)
   | (with_reducible exact damsonref13_Check.mono _ _)
   | (with_reducible exact damsonref13_End.mono _ _ _ _)
   | (with_reducible exact damsonref13_Get.mono _ _ _)
   | (with_reducible exact damsonref13_Held.mono _ _ _)
   | (with_reducible exact damsonref13_Same.mono _ _ _)
   | (with_reducible exact damsonref13_Start.mono _ _ _ _ _ _ _)
   | (with_reducible exact payment_Check.mono _ _)
   | (with_reducible exact payment_End.mono _ _ _ _)
   | (with_reducible exact payment_Get.mono _ _ _)
   | (with_reducible exact payment_Held.mono _ _ _)
   | (with_reducible exact payment_Same.mono _ _ _)
   | (with_reducible exact payment_Start.mono _ _ _ _ _ _ _)
   | (with_reducible exact LeO.refl _)
   | (with_reducible exact LeO.none _)
   | (with_reducible refine LeO.ite ?_ ?_)
   | (with_reducible refine LeO.bind ?_ (fun _ => ?_))
   | exact ih0 _ _ _ _ _ _ _ _ _ _
   | exact ih1 _ _ _ _ _
   | exact ih2 _ _ _ _ _ _ _
   | exact ih3 _ _ _ _ _ _
   | exact damsonlaw13_live.mono _
   | exact damsonref13_Check.mono _ _
   | exact damsonref13_End.mono _ _ _ _
   | exact damsonref13_Get.mono _ _ _
   | exact damsonref13_Held.mono _ _ _
   | exact damsonref13_Same.mono _ _ _
   | exact damsonref13_Start.mono _ _ _ _ _ _ _
   | exact payment_Check.mono _ _
   | exact payment_End.mono _ _ _ _
   | exact payment_Get.mono _ _ _
   | exact payment_Held.mono _ _ _
   | exact payment_Same.mono _ _ _
   | exact payment_Start.mono _ _ _ _ _ _ _
   | exact LeO.none _
   | refine LeO.ite ?_ ?_
   | refine LeO.bind ?_ (fun _ => ?_)
theorem damsonlaw13_PaymentDoes.mono : ∀ a0 a1 a2 a3 a4 a5 a6 a7 a8 k, LeO (damsonlaw13_PaymentDoes.f k a0 a1 a2 a3 a4 a5 a6 a7 a8) (damsonlaw13_PaymentDoes.f (k + 1) a0 a1 a2 a3 a4 a5 a6 a7 a8) := by
 intro a0 a1 a2 a3 a4 a5 a6 a7 a8 k
 obtain ⟨ih0, ih1, ih2, ih3⟩ := damsonlaw13_PaymentDoes.mono_l k
 unfold damsonlaw13_PaymentDoes.f
 repeat' first
   | (with_reducible exact ih0 _ _ _ _ _ _ _ _ _ _)
   | (with_reducible exact ih1 _ _ _ _ _)
   | (with_reducible exact ih2 _ _ _ _ _ _ _)
   | (with_reducible exact ih3 _ _ _ _ _ _)
   | (with_reducible exact damsonlaw13_live.mono _)
   | (with_reducible exact damsonref13_Check.mono _ _)
   | (with_reducible exact damsonref13_End.mono _ _ _ _)
   | (with_reducible exact damsonref13_Get.mono _ _ _)
   | (with_reducible exact damsonref13_Held.mono _ _ _)
   | (with_reducible exact damsonref13_Same.mono _ _ _)
   | (with_reducible exact damsonref13_Start.mono _ _ _ _ _ _ _)
   | (with_reducible exact payment_Check.mono _ _)
   | (with_reducible exact payment_End.mono _ _ _ _)
   | (with_reducible exact payment_Get.mono _ _ _)
   | (with_reducible exact payment_Held.mono _ _ _)
   | (with_reducible exact payment_Same.mono _ _ _)
   | (with_reducible exact payment_Start.mono _ _ _ _ _ _ _)
   | (with_reducible exact LeO.refl _)
   | (with_reducible exact LeO.none _)
   | (with_reducible refine LeO.ite ?_ ?_)
   | (with_reducible refine LeO.bind ?_ (fun _ => ?_))
   | exact ih0 _ _ _ _ _ _ _ _ _ _
   | exact ih1 _ _ _ _ _
   | exact ih2 _ _ _ _ _ _ _
   | exact ih3 _ _ _ _ _ _
   | exact damsonlaw13_live.mono _
   | exact damsonref13_Check.mono _ _
   | exact damsonref13_End.mono _ _ _ _
   | exact damsonref13_Get.mono _ _ _
   | exact damsonref13_Held.mono _ _ _
   | exact damsonref13_Same.mono _ _ _
   | exact damsonref13_Start.mono _ _ _ _ _ _ _
   | exact payment_Check.mono _ _
   | exact payment_End.mono _ _ _ _
   | exact payment_Get.mono _ _ _
   | exact payment_Held.mono _ _ _
   | exact payment_Same.mono _ _ _
   | exact payment_Start.mono _ _ _ _ _ _ _
   | exact LeO.none _
   | refine LeO.ite ?_ ?_
   | refine LeO.bind ?_ (fun _ => ?_)
set_option maxHeartbeats 8000000 in
set_option maxRecDepth 100000 in
theorem damsonlaw13_PaymentDoes.calls (k : Nat) (A0 : Option Addr) (c0 : Nat) (l0 : List (S74)) (A1 : Option Addr) (c1 : Nat) (l1 : List (S74)) (a2_0 : Int) (a2_1 : Int) (a2_2 : Int) (a2_3 : Int) (a2_4 : Int) (a3 : Int) (a4 : Bool) (r : Bool) (w : World) (hr0 : Kd.C k74 w A0 l0.length l0) (hc0 : l0.length ≤ c0) (hr1 : Kd.C k74 w A1 l1.length l1) (hc1 : l1.length ≤ c1) (h : damsonlaw13_PaymentDoes.f k l0 l1 a2_0 a2_1 a2_2 a2_3 a2_4 a3 a4 = some r) :
  Calls Try.prog 19 #[.slice A0 l0.length c0, .slice A1 l1.length c1, .agg #[.int .u64 a2_0, .int .u64 a2_1, .int .u64 a2_2, .int .u64 a2_3, .int .i64 a2_4], .int .u64 a3, .bool a4] w fun e w' => e = .returned (.bool r) ∧ Below w.heap.size w w' := by
 have hu74 := Try.underlying74
 have HR0 := Aside0.mk hr0
 have HC0 := Aside0.mk hc0
 clear hr0 hc0
 have HR1 := Aside0.mk hr1
 have HC1 := Aside0.mk hc1
 clear hr1 hc1
 have HB := Aside0.mk (Below.refl w.heap.size w)
 have H : ((damsonlaw13_live.f k).bind fun t286 => (if t286 = true then ((damsonlaw13_few.f l0).bind fun t287 => (if t287 = true then ((damsonlaw13_few.f l1).bind fun t288 => (damsonlaw13_PaymentDoes.j0 k l0 l1 a3 a4 (!t288) a2_0 a2_1 a2_2 a2_3 a2_4)) else (damsonlaw13_PaymentDoes.j0 k l0 l1 a3 a4 true a2_0 a2_1 a2_2 a2_3 a2_4))) else (some false))) = some r := h
 clear h
 replace H := Option.bind_eq_some_iff.mp H
 obtain ⟨t286, A60, H⟩ := H
 replace H : (if t286 = true then ((damsonlaw13_few.f l0).bind fun t287 => (if t287 = true then ((damsonlaw13_few.f l1).bind fun t288 => (damsonlaw13_PaymentDoes.j0 k l0 l1 a3 a4 (!t288) a2_0 a2_1 a2_2 a2_3 a2_4)) else (damsonlaw13_PaymentDoes.j0 k l0 l1 a3 a4 true a2_0 a2_1 a2_2 a2_3 a2_4))) else (some false)) = some r := H
 have A6 := Aside0.mk A60
 clear A60
 by_cases c7 : t286 = true
 ·subst c7
  have H1 : ((damsonlaw13_few.f l0).bind fun t287 => (if t287 = true then ((damsonlaw13_few.f l1).bind fun t288 => (damsonlaw13_PaymentDoes.j0 k l0 l1 a3 a4 (!t288) a2_0 a2_1 a2_2 a2_3 a2_4)) else (damsonlaw13_PaymentDoes.j0 k l0 l1 a3 a4 true a2_0 a2_1 a2_2 a2_3 a2_4))) = some r := by rw [if_pos rfl] at H; exact H
  clear H
  have H := H1
  clear H1
  have HC8 := Aside0.mk H
  clear H
  go_enter Try.func19, Try.ntmps19
  go_upto_region 3 with (first | ((with_reducible refine gate_dst (N := 7) rfl ?_); refine box_event ?hg (N := 7) ?hd (cs := #[.int .u64 a2_0, .int .u64 a2_1, .int .u64 a2_2, .int .u64 a2_3, .int .i64 a2_4]) (t := 74) ?hr ?_; (case hd => rfl); (case hg => rfl); (case hr => first | (go_simp; done) | (go_simp; rfl)); intro gb285 hg w9 hbox hb; have n0_ := Aside0.mk (below_step (belN HB) hb); have n1_ := Aside0.mk (hbox); have n2_ := Aside0.mk ((by rw [hg]; exact (below_size (belN HB)) : w.heap.size ≤ gb285)); have n3_ := Aside0.mk ((by rw [hg]; exact (below_size (belN HB)) : w.heap.size ≤ gb285)); clear HB; have HB := n0_; have BK285 := n1_; have GW285 := n2_; have GE285 := n3_; clear n0_ n1_ n2_ n3_; clear hb hbox hg) | ((with_reducible refine gate_callee (f := 68) rfl ?_); refine goesL_ (some 31) rfl rfl Try.func68 (by kernel_rfl) rfl #[] rfl (by (try simp only [List.map_toArray, List.map_cons, List.map_nil]); first | done | rfl | (simp only [List.length_drop, List.length_take]; rfl)) ?_; (with_reducible refine (damsonlaw13_live.calls k  true _ A6.out).mono ?_); rintro e w10 ⟨rfl, hb⟩; refine ⟨_, rfl, ?_⟩; have n0_ := Aside0.mk (blk_below (g := gb285) (blkN BK285) hb); have n1_ := Aside0.mk (below_step (belN HB) hb); clear BK285; clear HB; have BK285 := n0_; have HB := n1_; clear n0_ n1_; (try clear hb); (try clear hb2); (try clear hk); (try clear hi)))
  (try simp only [Act.put, List.setIfInBounds_toArray, List.set_cons_zero, List.set_cons_succ])
  go_cut [40] (fun v40 wc => ∃ (kq : Nat) (x40_7 : Bool), v40 = .bool x40_7 ∧ Aside0 (damsonlaw13_PaymentDoes.j0 kq l0 l1 a3 a4 x40_7 a2_0 a2_1 a2_2 a2_3 a2_4 = some r) ∧ Aside0 (kq ≤ k) ∧ Aside0 (wc.heap[gb285]? = some (.cells #[.int .u64 a2_0, .int .u64 a2_1, .int .u64 a2_2, .int .u64 a2_3, .int .i64 a2_4] 74 (0, 0))) ∧ Aside0 (Below w.heap.size w wc))
  case first =>
   have H := HC8.out
   clear HC8
   replace H := Option.bind_eq_some_iff.mp H
   obtain ⟨t287, A110, H⟩ := H
   replace H : (if t287 = true then ((damsonlaw13_few.f l1).bind fun t288 => (damsonlaw13_PaymentDoes.j0 k l0 l1 a3 a4 (!t288) a2_0 a2_1 a2_2 a2_3 a2_4)) else (damsonlaw13_PaymentDoes.j0 k l0 l1 a3 a4 true a2_0 a2_1 a2_2 a2_3 a2_4)) = some r := H
   have A11 := Aside0.mk A110
   clear A110
   by_cases c12 : t287 = true
   ·subst c12
    have H1 : ((damsonlaw13_few.f l1).bind fun t288 => (damsonlaw13_PaymentDoes.j0 k l0 l1 a3 a4 (!t288) a2_0 a2_1 a2_2 a2_3 a2_4)) = some r := by rw [if_pos rfl] at H; exact H
    clear H
    have H := H1
    clear H1
    replace H := Option.bind_eq_some_iff.mp H
    obtain ⟨t288, A130, H⟩ := H
    replace H : (damsonlaw13_PaymentDoes.j0 k l0 l1 a3 a4 (!t288) a2_0 a2_1 a2_2 a2_3 a2_4) = some r := H
    have A13 := Aside0.mk A130
    clear A130
    have H' := Aside0.mk H
    clear H
    go_wp2_with (first | ((with_reducible refine gate_callee (f := 69) rfl ?_); refine goesL_ (some 34) rfl rfl Try.func69 (by kernel_rfl) rfl #[.slice A0 l0.length c0] rfl (by (try simp only [List.map_toArray, List.map_cons, List.map_nil]); first | done | rfl | (simp only [List.length_drop, List.length_take]; rfl)) ?_; (with_reducible refine (damsonlaw13_few.calls _ _ l0 true _ ?side1 ?side2 A11.out).mono ?_); (case side1 => repeat (first | exact (Kd.C_below HR0.out HB.out) | (with_reducible refine Kd.C_alloc ?_ _) | (with_reducible refine Kd.C_drewN ?_ _) | (with_reducible refine Kd.C_drew ?_))); (case side2 => exact HC0.out); rintro e w' ⟨rfl, ⟨nd, rfl⟩⟩; refine ⟨_, rfl, ?_⟩) | (go_at_call 69; (with_reducible refine (damsonlaw13_few.calls _ _ l1 t288 _ ?side1 ?side2 A13.out).mono ?_); (case side1 => repeat (first | exact (Kd.C_below HR1.out (belN HB)) | (with_reducible refine Kd.C_alloc ?_ _) | (with_reducible refine Kd.C_drewN ?_ _) | (with_reducible refine Kd.C_drew ?_))); (case side2 => exact HC1.out); rintro e w' ⟨rfl, ⟨nd, rfl⟩⟩))
    go_meet
    case rel => exact ⟨_, (!t288), (by first | rfl | (simp; done) | (simp [*]; done)), H', ⟨by first | omega | exact Nat.le_refl _⟩, ⟨by (with_reducible repeat (first | refine blk_drewN ?_ _ | refine blk_drew ?_ | refine blk_alloc ?_ _)); exact BK285.out⟩, ⟨by repeat (first | (with_reducible first | exact HB.out | apply below_alloc | apply pw_below_drewN | apply below_drew1 | refine below_set ?_ GE285.out) | exact HB.out)⟩⟩
   ·replace c12 := Bool.eq_false_iff.mpr c12
    subst c12
    have H1 : (damsonlaw13_PaymentDoes.j0 k l0 l1 a3 a4 true a2_0 a2_1 a2_2 a2_3 a2_4) = some r := by rw [if_neg (show ¬ (false = true) by decide)] at H; exact H
    clear H
    have H := H1
    clear H1
    have H' := Aside0.mk H
    clear H
    go_wp2_with (first | ((with_reducible refine gate_callee (f := 69) rfl ?_); refine goesL_ (some 34) rfl rfl Try.func69 (by kernel_rfl) rfl #[.slice A0 l0.length c0] rfl (by (try simp only [List.map_toArray, List.map_cons, List.map_nil]); first | done | rfl | (simp only [List.length_drop, List.length_take]; rfl)) ?_; (with_reducible refine (damsonlaw13_few.calls _ _ l0 false _ ?side1 ?side2 A11.out).mono ?_); (case side1 => repeat (first | exact (Kd.C_below HR0.out HB.out) | (with_reducible refine Kd.C_alloc ?_ _) | (with_reducible refine Kd.C_drewN ?_ _) | (with_reducible refine Kd.C_drew ?_))); (case side2 => exact HC0.out); rintro e w' ⟨rfl, ⟨nd, rfl⟩⟩; refine ⟨_, rfl, ?_⟩))
    go_meet
    case rel => exact ⟨_, (true), (by first | rfl | (simp; done) | (simp [*]; done)), H', ⟨by first | omega | exact Nat.le_refl _⟩, ⟨by (with_reducible repeat (first | refine blk_drewN ?_ _ | refine blk_drew ?_ | refine blk_alloc ?_ _)); exact BK285.out⟩, ⟨by repeat (first | (with_reducible first | exact HB.out | apply below_alloc | apply pw_below_drewN | apply below_drew1 | refine below_set ?_ GE285.out) | exact HB.out)⟩⟩
  case rest =>
   clear HC8
   try clear c1
   try clear p2
   try clear c6
   try clear c7
   try clear c12
   obtain ⟨kq, x40_7, rfl, HA, HJ7, BK285, HB⟩ := hcut
   cases kq with
   | zero => exact absurd HA.out (by simp [damsonlaw13_PaymentDoes.j0])
   | succ kj7 =>
    have H := HA.out
    clear HA
    simp only [damsonlaw13_PaymentDoes.j0] at H
    by_cases c14 : x40_7 = true
    ·subst c14
     have H1 : (some true) = some r := by rw [if_pos rfl] at H; exact H
     clear H
     have H := H1
     clear H1
     obtain rfl := Option.some.inj H
     go_wp2
     go_ret
     exact ⟨by first | rfl | (simp [errW_none, errW_some] <;> rfl) | (simp [*, errW_none, errW_some] <;> rfl), by repeat (first | (with_reducible first | exact HB.out | apply below_alloc | apply pw_below_drewN | apply below_drew1 | refine below_set ?_ GE285.out) | exact HB.out)⟩
    ·replace c14 := Bool.eq_false_iff.mpr c14
     subst c14
     have H1 : (if ([] : List (S74)).length + l0.length < 3518437208883 then ((some (([] : List (S74)) ++ l0 : List (S74))).bind fun y289 => ((payment_Start.f kj7 l0 a2_0 a2_1 a2_2 a2_3 a2_4).bind fun bt292 => ((damsonref13_Start.f kj7 l0 a2_0 a2_1 a2_2 a2_3 a2_4).bind fun bt296 => ((payment_End.f kj7 l0 a3 a4).bind fun bt300 => ((damsonref13_End.f kj7 l0 a3 a4).bind fun bt304 => ((payment_Get.f kj7 l0 a3).bind fun bt308 => ((damsonref13_Get.f kj7 l0 a3).bind fun bt315 => ((payment_Held.f kj7 l0 a3).bind fun bt322 => ((damsonref13_Held.f kj7 l0 a3).bind fun bt324 => ((damsonref13_Same.f kj7 bt292.1 bt296.1).bind fun t326 => (if t326 = true then (if bt292.2 = bt296.2 then ((damsonref13_Same.f kj7 bt300.1 bt304.1).bind fun t327 => (if t327 = true then (if bt300.2 = bt304.2 then (if (bt308.1 == bt315.1 && (bt308.2.1 == bt315.2.1 && (bt308.2.2.1 == bt315.2.2.1 && (bt308.2.2.2.1 == bt315.2.2.2.1 && (bt308.2.2.2.2.1 == bt315.2.2.2.2.1))))) = true then (if bt308.2.2.2.2.2 = bt315.2.2.2.2.2 then (if bt322.1 = bt324.1 then (if bt322.2 = bt324.2 then ((payment_Check.f kj7 l0).bind fun t328 => ((damsonref13_Check.f kj7 l0).bind fun t329 => (if t328 = t329 then ((payment_Same.f kj7 l0 l1).bind fun t330 => ((damsonref13_Same.f kj7 l0 l1).bind fun t331 => (damsonlaw13_PaymentDoes.j1 kj7 l0 y289 bt292.1 bt300.1 (t330 == t331)))) else (damsonlaw13_PaymentDoes.j1 kj7 l0 y289 bt292.1 bt300.1 false)))) else (damsonlaw13_PaymentDoes.j1 kj7 l0 y289 bt292.1 bt300.1 false)) else (damsonlaw13_PaymentDoes.j1 kj7 l0 y289 bt292.1 bt300.1 false)) else (damsonlaw13_PaymentDoes.j1 kj7 l0 y289 bt292.1 bt300.1 false)) else (damsonlaw13_PaymentDoes.j1 kj7 l0 y289 bt292.1 bt300.1 false)) else (damsonlaw13_PaymentDoes.j1 kj7 l0 y289 bt292.1 bt300.1 false)) else (damsonlaw13_PaymentDoes.j1 kj7 l0 y289 bt292.1 bt300.1 false))) else (damsonlaw13_PaymentDoes.j1 kj7 l0 y289 bt292.1 bt300.1 false)) else (damsonlaw13_PaymentDoes.j1 kj7 l0 y289 bt292.1 bt300.1 false)))))))))))) else (none)) = some r := by rw [if_neg (show ¬ (false = true) by decide)] at H; exact H
     clear H
     have H := H1
     clear H1
     by_cases c15 : ([] : List (S74)).length + l0.length < 3518437208883
     ·rw [if_pos c15] at H
      have LMc15 := Aside0.mk c15
      clear c15
      obtain ⟨y289, hy289⟩ : ∃ y_ : List (S74), y_ = (([] : List (S74)) ++ l0) := ⟨_, rfl⟩
      replace H : ((payment_Start.f kj7 l0 a2_0 a2_1 a2_2 a2_3 a2_4).bind fun bt292 => ((damsonref13_Start.f kj7 l0 a2_0 a2_1 a2_2 a2_3 a2_4).bind fun bt296 => ((payment_End.f kj7 l0 a3 a4).bind fun bt300 => ((damsonref13_End.f kj7 l0 a3 a4).bind fun bt304 => ((payment_Get.f kj7 l0 a3).bind fun bt308 => ((damsonref13_Get.f kj7 l0 a3).bind fun bt315 => ((payment_Held.f kj7 l0 a3).bind fun bt322 => ((damsonref13_Held.f kj7 l0 a3).bind fun bt324 => ((damsonref13_Same.f kj7 bt292.1 bt296.1).bind fun t326 => (if t326 = true then (if bt292.2 = bt296.2 then ((damsonref13_Same.f kj7 bt300.1 bt304.1).bind fun t327 => (if t327 = true then (if bt300.2 = bt304.2 then (if (bt308.1 == bt315.1 && (bt308.2.1 == bt315.2.1 && (bt308.2.2.1 == bt315.2.2.1 && (bt308.2.2.2.1 == bt315.2.2.2.1 && (bt308.2.2.2.2.1 == bt315.2.2.2.2.1))))) = true then (if bt308.2.2.2.2.2 = bt315.2.2.2.2.2 then (if bt322.1 = bt324.1 then (if bt322.2 = bt324.2 then ((payment_Check.f kj7 l0).bind fun t328 => ((damsonref13_Check.f kj7 l0).bind fun t329 => (if t328 = t329 then ((payment_Same.f kj7 l0 l1).bind fun t330 => ((damsonref13_Same.f kj7 l0 l1).bind fun t331 => (damsonlaw13_PaymentDoes.j1 kj7 l0 y289 bt292.1 bt300.1 (t330 == t331)))) else (damsonlaw13_PaymentDoes.j1 kj7 l0 y289 bt292.1 bt300.1 false)))) else (damsonlaw13_PaymentDoes.j1 kj7 l0 y289 bt292.1 bt300.1 false)) else (damsonlaw13_PaymentDoes.j1 kj7 l0 y289 bt292.1 bt300.1 false)) else (damsonlaw13_PaymentDoes.j1 kj7 l0 y289 bt292.1 bt300.1 false)) else (damsonlaw13_PaymentDoes.j1 kj7 l0 y289 bt292.1 bt300.1 false)) else (damsonlaw13_PaymentDoes.j1 kj7 l0 y289 bt292.1 bt300.1 false)) else (damsonlaw13_PaymentDoes.j1 kj7 l0 y289 bt292.1 bt300.1 false))) else (damsonlaw13_PaymentDoes.j1 kj7 l0 y289 bt292.1 bt300.1 false)) else (damsonlaw13_PaymentDoes.j1 kj7 l0 y289 bt292.1 bt300.1 false))))))))))) = some r := by first | (rw [hy289]; with_reducible exact H) | (have H2_ := (Option.bind_some _ _).symm.trans H; rw [hy289]; with_reducible exact H2_) | (have H2_ := (Option.bind_some _ _).symm.trans H; with_reducible exact H2_) | with_reducible exact H | (rw [hy289]; exact H) | exact H
      have Ny289 := Aside0.mk hy289
      clear hy289
      replace H := Option.bind_eq_some_iff.mp H
      obtain ⟨⟨t292, t295⟩, A160, H⟩ := H
      replace H : ((damsonref13_Start.f kj7 l0 a2_0 a2_1 a2_2 a2_3 a2_4).bind fun bt296 => ((payment_End.f kj7 l0 a3 a4).bind fun bt300 => ((damsonref13_End.f kj7 l0 a3 a4).bind fun bt304 => ((payment_Get.f kj7 l0 a3).bind fun bt308 => ((damsonref13_Get.f kj7 l0 a3).bind fun bt315 => ((payment_Held.f kj7 l0 a3).bind fun bt322 => ((damsonref13_Held.f kj7 l0 a3).bind fun bt324 => ((damsonref13_Same.f kj7 t292 bt296.1).bind fun t326 => (if t326 = true then (if t295 = bt296.2 then ((damsonref13_Same.f kj7 bt300.1 bt304.1).bind fun t327 => (if t327 = true then (if bt300.2 = bt304.2 then (if (bt308.1 == bt315.1 && (bt308.2.1 == bt315.2.1 && (bt308.2.2.1 == bt315.2.2.1 && (bt308.2.2.2.1 == bt315.2.2.2.1 && (bt308.2.2.2.2.1 == bt315.2.2.2.2.1))))) = true then (if bt308.2.2.2.2.2 = bt315.2.2.2.2.2 then (if bt322.1 = bt324.1 then (if bt322.2 = bt324.2 then ((payment_Check.f kj7 l0).bind fun t328 => ((damsonref13_Check.f kj7 l0).bind fun t329 => (if t328 = t329 then ((payment_Same.f kj7 l0 l1).bind fun t330 => ((damsonref13_Same.f kj7 l0 l1).bind fun t331 => (damsonlaw13_PaymentDoes.j1 kj7 l0 y289 t292 bt300.1 (t330 == t331)))) else (damsonlaw13_PaymentDoes.j1 kj7 l0 y289 t292 bt300.1 false)))) else (damsonlaw13_PaymentDoes.j1 kj7 l0 y289 t292 bt300.1 false)) else (damsonlaw13_PaymentDoes.j1 kj7 l0 y289 t292 bt300.1 false)) else (damsonlaw13_PaymentDoes.j1 kj7 l0 y289 t292 bt300.1 false)) else (damsonlaw13_PaymentDoes.j1 kj7 l0 y289 t292 bt300.1 false)) else (damsonlaw13_PaymentDoes.j1 kj7 l0 y289 t292 bt300.1 false)) else (damsonlaw13_PaymentDoes.j1 kj7 l0 y289 t292 bt300.1 false))) else (damsonlaw13_PaymentDoes.j1 kj7 l0 y289 t292 bt300.1 false)) else (damsonlaw13_PaymentDoes.j1 kj7 l0 y289 t292 bt300.1 false)))))))))) = some r := H
      have A16 := Aside0.mk A160
      clear A160
      replace H := Option.bind_eq_some_iff.mp H
      obtain ⟨⟨t296, t299⟩, A170, H⟩ := H
      replace H : ((payment_End.f kj7 l0 a3 a4).bind fun bt300 => ((damsonref13_End.f kj7 l0 a3 a4).bind fun bt304 => ((payment_Get.f kj7 l0 a3).bind fun bt308 => ((damsonref13_Get.f kj7 l0 a3).bind fun bt315 => ((payment_Held.f kj7 l0 a3).bind fun bt322 => ((damsonref13_Held.f kj7 l0 a3).bind fun bt324 => ((damsonref13_Same.f kj7 t292 t296).bind fun t326 => (if t326 = true then (if t295 = t299 then ((damsonref13_Same.f kj7 bt300.1 bt304.1).bind fun t327 => (if t327 = true then (if bt300.2 = bt304.2 then (if (bt308.1 == bt315.1 && (bt308.2.1 == bt315.2.1 && (bt308.2.2.1 == bt315.2.2.1 && (bt308.2.2.2.1 == bt315.2.2.2.1 && (bt308.2.2.2.2.1 == bt315.2.2.2.2.1))))) = true then (if bt308.2.2.2.2.2 = bt315.2.2.2.2.2 then (if bt322.1 = bt324.1 then (if bt322.2 = bt324.2 then ((payment_Check.f kj7 l0).bind fun t328 => ((damsonref13_Check.f kj7 l0).bind fun t329 => (if t328 = t329 then ((payment_Same.f kj7 l0 l1).bind fun t330 => ((damsonref13_Same.f kj7 l0 l1).bind fun t331 => (damsonlaw13_PaymentDoes.j1 kj7 l0 y289 t292 bt300.1 (t330 == t331)))) else (damsonlaw13_PaymentDoes.j1 kj7 l0 y289 t292 bt300.1 false)))) else (damsonlaw13_PaymentDoes.j1 kj7 l0 y289 t292 bt300.1 false)) else (damsonlaw13_PaymentDoes.j1 kj7 l0 y289 t292 bt300.1 false)) else (damsonlaw13_PaymentDoes.j1 kj7 l0 y289 t292 bt300.1 false)) else (damsonlaw13_PaymentDoes.j1 kj7 l0 y289 t292 bt300.1 false)) else (damsonlaw13_PaymentDoes.j1 kj7 l0 y289 t292 bt300.1 false)) else (damsonlaw13_PaymentDoes.j1 kj7 l0 y289 t292 bt300.1 false))) else (damsonlaw13_PaymentDoes.j1 kj7 l0 y289 t292 bt300.1 false)) else (damsonlaw13_PaymentDoes.j1 kj7 l0 y289 t292 bt300.1 false))))))))) = some r := H
      have A17 := Aside0.mk A170
      clear A170
      replace H := Option.bind_eq_some_iff.mp H
      obtain ⟨⟨t300, t301⟩, A180, H⟩ := H
      replace H : ((damsonref13_End.f kj7 l0 a3 a4).bind fun bt304 => ((payment_Get.f kj7 l0 a3).bind fun bt308 => ((damsonref13_Get.f kj7 l0 a3).bind fun bt315 => ((payment_Held.f kj7 l0 a3).bind fun bt322 => ((damsonref13_Held.f kj7 l0 a3).bind fun bt324 => ((damsonref13_Same.f kj7 t292 t296).bind fun t326 => (if t326 = true then (if t295 = t299 then ((damsonref13_Same.f kj7 t300 bt304.1).bind fun t327 => (if t327 = true then (if t301 = bt304.2 then (if (bt308.1 == bt315.1 && (bt308.2.1 == bt315.2.1 && (bt308.2.2.1 == bt315.2.2.1 && (bt308.2.2.2.1 == bt315.2.2.2.1 && (bt308.2.2.2.2.1 == bt315.2.2.2.2.1))))) = true then (if bt308.2.2.2.2.2 = bt315.2.2.2.2.2 then (if bt322.1 = bt324.1 then (if bt322.2 = bt324.2 then ((payment_Check.f kj7 l0).bind fun t328 => ((damsonref13_Check.f kj7 l0).bind fun t329 => (if t328 = t329 then ((payment_Same.f kj7 l0 l1).bind fun t330 => ((damsonref13_Same.f kj7 l0 l1).bind fun t331 => (damsonlaw13_PaymentDoes.j1 kj7 l0 y289 t292 t300 (t330 == t331)))) else (damsonlaw13_PaymentDoes.j1 kj7 l0 y289 t292 t300 false)))) else (damsonlaw13_PaymentDoes.j1 kj7 l0 y289 t292 t300 false)) else (damsonlaw13_PaymentDoes.j1 kj7 l0 y289 t292 t300 false)) else (damsonlaw13_PaymentDoes.j1 kj7 l0 y289 t292 t300 false)) else (damsonlaw13_PaymentDoes.j1 kj7 l0 y289 t292 t300 false)) else (damsonlaw13_PaymentDoes.j1 kj7 l0 y289 t292 t300 false)) else (damsonlaw13_PaymentDoes.j1 kj7 l0 y289 t292 t300 false))) else (damsonlaw13_PaymentDoes.j1 kj7 l0 y289 t292 t300 false)) else (damsonlaw13_PaymentDoes.j1 kj7 l0 y289 t292 t300 false)))))))) = some r := H
      have A18 := Aside0.mk A180
      clear A180
      replace H := Option.bind_eq_some_iff.mp H
      obtain ⟨⟨t304, t305⟩, A190, H⟩ := H
      replace H : ((payment_Get.f kj7 l0 a3).bind fun bt308 => ((damsonref13_Get.f kj7 l0 a3).bind fun bt315 => ((payment_Held.f kj7 l0 a3).bind fun bt322 => ((damsonref13_Held.f kj7 l0 a3).bind fun bt324 => ((damsonref13_Same.f kj7 t292 t296).bind fun t326 => (if t326 = true then (if t295 = t299 then ((damsonref13_Same.f kj7 t300 t304).bind fun t327 => (if t327 = true then (if t301 = t305 then (if (bt308.1 == bt315.1 && (bt308.2.1 == bt315.2.1 && (bt308.2.2.1 == bt315.2.2.1 && (bt308.2.2.2.1 == bt315.2.2.2.1 && (bt308.2.2.2.2.1 == bt315.2.2.2.2.1))))) = true then (if bt308.2.2.2.2.2 = bt315.2.2.2.2.2 then (if bt322.1 = bt324.1 then (if bt322.2 = bt324.2 then ((payment_Check.f kj7 l0).bind fun t328 => ((damsonref13_Check.f kj7 l0).bind fun t329 => (if t328 = t329 then ((payment_Same.f kj7 l0 l1).bind fun t330 => ((damsonref13_Same.f kj7 l0 l1).bind fun t331 => (damsonlaw13_PaymentDoes.j1 kj7 l0 y289 t292 t300 (t330 == t331)))) else (damsonlaw13_PaymentDoes.j1 kj7 l0 y289 t292 t300 false)))) else (damsonlaw13_PaymentDoes.j1 kj7 l0 y289 t292 t300 false)) else (damsonlaw13_PaymentDoes.j1 kj7 l0 y289 t292 t300 false)) else (damsonlaw13_PaymentDoes.j1 kj7 l0 y289 t292 t300 false)) else (damsonlaw13_PaymentDoes.j1 kj7 l0 y289 t292 t300 false)) else (damsonlaw13_PaymentDoes.j1 kj7 l0 y289 t292 t300 false)) else (damsonlaw13_PaymentDoes.j1 kj7 l0 y289 t292 t300 false))) else (damsonlaw13_PaymentDoes.j1 kj7 l0 y289 t292 t300 false)) else (damsonlaw13_PaymentDoes.j1 kj7 l0 y289 t292 t300 false))))))) = some r := H
      have A19 := Aside0.mk A190
      clear A190
      replace H := Option.bind_eq_some_iff.mp H
      obtain ⟨⟨t308, t309, t310, t311, t312, t313⟩, A200, H⟩ := H
      replace H : ((damsonref13_Get.f kj7 l0 a3).bind fun bt315 => ((payment_Held.f kj7 l0 a3).bind fun bt322 => ((damsonref13_Held.f kj7 l0 a3).bind fun bt324 => ((damsonref13_Same.f kj7 t292 t296).bind fun t326 => (if t326 = true then (if t295 = t299 then ((damsonref13_Same.f kj7 t300 t304).bind fun t327 => (if t327 = true then (if t301 = t305 then (if (t308 == bt315.1 && (t309 == bt315.2.1 && (t310 == bt315.2.2.1 && (t311 == bt315.2.2.2.1 && (t312 == bt315.2.2.2.2.1))))) = true then (if t313 = bt315.2.2.2.2.2 then (if bt322.1 = bt324.1 then (if bt322.2 = bt324.2 then ((payment_Check.f kj7 l0).bind fun t328 => ((damsonref13_Check.f kj7 l0).bind fun t329 => (if t328 = t329 then ((payment_Same.f kj7 l0 l1).bind fun t330 => ((damsonref13_Same.f kj7 l0 l1).bind fun t331 => (damsonlaw13_PaymentDoes.j1 kj7 l0 y289 t292 t300 (t330 == t331)))) else (damsonlaw13_PaymentDoes.j1 kj7 l0 y289 t292 t300 false)))) else (damsonlaw13_PaymentDoes.j1 kj7 l0 y289 t292 t300 false)) else (damsonlaw13_PaymentDoes.j1 kj7 l0 y289 t292 t300 false)) else (damsonlaw13_PaymentDoes.j1 kj7 l0 y289 t292 t300 false)) else (damsonlaw13_PaymentDoes.j1 kj7 l0 y289 t292 t300 false)) else (damsonlaw13_PaymentDoes.j1 kj7 l0 y289 t292 t300 false)) else (damsonlaw13_PaymentDoes.j1 kj7 l0 y289 t292 t300 false))) else (damsonlaw13_PaymentDoes.j1 kj7 l0 y289 t292 t300 false)) else (damsonlaw13_PaymentDoes.j1 kj7 l0 y289 t292 t300 false)))))) = some r := H
      have A20 := Aside0.mk A200
      clear A200
      replace H := Option.bind_eq_some_iff.mp H
      obtain ⟨⟨t315, t316, t317, t318, t319, t320⟩, A210, H⟩ := H
      replace H : ((payment_Held.f kj7 l0 a3).bind fun bt322 => ((damsonref13_Held.f kj7 l0 a3).bind fun bt324 => ((damsonref13_Same.f kj7 t292 t296).bind fun t326 => (if t326 = true then (if t295 = t299 then ((damsonref13_Same.f kj7 t300 t304).bind fun t327 => (if t327 = true then (if t301 = t305 then (if (t308 == t315 && (t309 == t316 && (t310 == t317 && (t311 == t318 && (t312 == t319))))) = true then (if t313 = t320 then (if bt322.1 = bt324.1 then (if bt322.2 = bt324.2 then ((payment_Check.f kj7 l0).bind fun t328 => ((damsonref13_Check.f kj7 l0).bind fun t329 => (if t328 = t329 then ((payment_Same.f kj7 l0 l1).bind fun t330 => ((damsonref13_Same.f kj7 l0 l1).bind fun t331 => (damsonlaw13_PaymentDoes.j1 kj7 l0 y289 t292 t300 (t330 == t331)))) else (damsonlaw13_PaymentDoes.j1 kj7 l0 y289 t292 t300 false)))) else (damsonlaw13_PaymentDoes.j1 kj7 l0 y289 t292 t300 false)) else (damsonlaw13_PaymentDoes.j1 kj7 l0 y289 t292 t300 false)) else (damsonlaw13_PaymentDoes.j1 kj7 l0 y289 t292 t300 false)) else (damsonlaw13_PaymentDoes.j1 kj7 l0 y289 t292 t300 false)) else (damsonlaw13_PaymentDoes.j1 kj7 l0 y289 t292 t300 false)) else (damsonlaw13_PaymentDoes.j1 kj7 l0 y289 t292 t300 false))) else (damsonlaw13_PaymentDoes.j1 kj7 l0 y289 t292 t300 false)) else (damsonlaw13_PaymentDoes.j1 kj7 l0 y289 t292 t300 false))))) = some r := H
      have A21 := Aside0.mk A210
      clear A210
      replace H := Option.bind_eq_some_iff.mp H
      obtain ⟨⟨t322, t323⟩, A220, H⟩ := H
      replace H : ((damsonref13_Held.f kj7 l0 a3).bind fun bt324 => ((damsonref13_Same.f kj7 t292 t296).bind fun t326 => (if t326 = true then (if t295 = t299 then ((damsonref13_Same.f kj7 t300 t304).bind fun t327 => (if t327 = true then (if t301 = t305 then (if (t308 == t315 && (t309 == t316 && (t310 == t317 && (t311 == t318 && (t312 == t319))))) = true then (if t313 = t320 then (if t322 = bt324.1 then (if t323 = bt324.2 then ((payment_Check.f kj7 l0).bind fun t328 => ((damsonref13_Check.f kj7 l0).bind fun t329 => (if t328 = t329 then ((payment_Same.f kj7 l0 l1).bind fun t330 => ((damsonref13_Same.f kj7 l0 l1).bind fun t331 => (damsonlaw13_PaymentDoes.j1 kj7 l0 y289 t292 t300 (t330 == t331)))) else (damsonlaw13_PaymentDoes.j1 kj7 l0 y289 t292 t300 false)))) else (damsonlaw13_PaymentDoes.j1 kj7 l0 y289 t292 t300 false)) else (damsonlaw13_PaymentDoes.j1 kj7 l0 y289 t292 t300 false)) else (damsonlaw13_PaymentDoes.j1 kj7 l0 y289 t292 t300 false)) else (damsonlaw13_PaymentDoes.j1 kj7 l0 y289 t292 t300 false)) else (damsonlaw13_PaymentDoes.j1 kj7 l0 y289 t292 t300 false)) else (damsonlaw13_PaymentDoes.j1 kj7 l0 y289 t292 t300 false))) else (damsonlaw13_PaymentDoes.j1 kj7 l0 y289 t292 t300 false)) else (damsonlaw13_PaymentDoes.j1 kj7 l0 y289 t292 t300 false)))) = some r := H
      have A22 := Aside0.mk A220
      clear A220
      replace H := Option.bind_eq_some_iff.mp H
      obtain ⟨⟨t324, t325⟩, A230, H⟩ := H
      replace H : ((damsonref13_Same.f kj7 t292 t296).bind fun t326 => (if t326 = true then (if t295 = t299 then ((damsonref13_Same.f kj7 t300 t304).bind fun t327 => (if t327 = true then (if t301 = t305 then (if (t308 == t315 && (t309 == t316 && (t310 == t317 && (t311 == t318 && (t312 == t319))))) = true then (if t313 = t320 then (if t322 = t324 then (if t323 = t325 then ((payment_Check.f kj7 l0).bind fun t328 => ((damsonref13_Check.f kj7 l0).bind fun t329 => (if t328 = t329 then ((payment_Same.f kj7 l0 l1).bind fun t330 => ((damsonref13_Same.f kj7 l0 l1).bind fun t331 => (damsonlaw13_PaymentDoes.j1 kj7 l0 y289 t292 t300 (t330 == t331)))) else (damsonlaw13_PaymentDoes.j1 kj7 l0 y289 t292 t300 false)))) else (damsonlaw13_PaymentDoes.j1 kj7 l0 y289 t292 t300 false)) else (damsonlaw13_PaymentDoes.j1 kj7 l0 y289 t292 t300 false)) else (damsonlaw13_PaymentDoes.j1 kj7 l0 y289 t292 t300 false)) else (damsonlaw13_PaymentDoes.j1 kj7 l0 y289 t292 t300 false)) else (damsonlaw13_PaymentDoes.j1 kj7 l0 y289 t292 t300 false)) else (damsonlaw13_PaymentDoes.j1 kj7 l0 y289 t292 t300 false))) else (damsonlaw13_PaymentDoes.j1 kj7 l0 y289 t292 t300 false)) else (damsonlaw13_PaymentDoes.j1 kj7 l0 y289 t292 t300 false))) = some r := H
      have A23 := Aside0.mk A230
      clear A230
      have HC24 := Aside0.mk H
      clear H
      go_upto_region 14 with (first | ((with_reducible refine gate_builtin (b := .append) (xs := #[.const (.slice none 0 0), .tmp 41]) rfl ?_); at_builtin; refine Kd.R_append_rows k74 (w0 := w) w.heap.size rfl (.const (.slice none 0 0)) (.tmp 41) 71 74 (.agg #[(.int .u64 0), (.int .u64 0), (.int .u64 0), (.int .u64 0), (.int .i64 0)]) 40 rfl Try.underlying71 info74 rfl (by decide) (by omega) (.slice none 0 0) ([] : List (S74)) l0 _ _ _ (fun k_ => k_ ≠ gb285) (fun _ => False) rfl rfl ?aO ?aR (fun _ _ h => h) (fun _ h => h.elim) ?aF ?aB ?aS ?aL ?_; (case aR => repeat (first | exact (Kd.C_below HR0.out HB.out) | (with_reducible refine Kd.C_alloc ?_ _) | (with_reducible refine Kd.C_drewN ?_ _) | (with_reducible refine Kd.C_drew ?_))); (case aB => exact (belN HB)); (case aF => exact (fun k_ hk => Kd.freshB (g := gb285) (blkN BK285) k_ hk)); (case aO => exact ((Kd.R_nil _ _ _ _ (fun k_ => k_ ≠ gb285)))); (case aS => exact (below_size (belN HB))); (case aL => have := LMc15.out; omega); intro v290 w25 ho hb hg hat; rw [← Ny289.out] at ho; have n0_ := Aside0.mk (blk_grown (g := gb285) (blkN BK285) hg (by simp [Value.ownBlock])); have n1_ := Aside0.mk (hb); have n2_ := Aside0.mk (ho); clear BK285; clear HB; have BK285 := n0_; have HB := n1_; have HO291 := n2_; clear n0_ n1_ n2_; clear ho hb hg hat; obtain ⟨hcz26_0, hcz26_1, hcz26_2, hcz26_3, hcz26_4, hfz26_0, hfz26_1, hfz26_2, hfz26_3, hfz26_4⟩ := cz5_ (w := w25) BK285.out) | ((with_reducible refine gate_callee (f := 71) rfl ?_); refine goesL_ (some 46) rfl rfl Try.func71 (by kernel_rfl) rfl #[.slice A0 l0.length c0, .agg #[.int .u64 a2_0, .int .u64 a2_1, .int .u64 a2_2, .int .u64 a2_3, .int .i64 a2_4]] rfl (by (try simp only [List.map_toArray, List.map_cons, List.map_nil]); first | done | rfl | (simp only [List.length_drop, List.length_take]; rfl)) ?_; (with_reducible refine (payment_Start.calls kj7 _ _ l0 a2_0 a2_1 a2_2 a2_3 a2_4 t292 t295 _ ?side1 ?side2 A16.out).mono ?_); (case side1 => repeat (first | exact (Kd.C_below HR0.out HB.out) | (with_reducible refine Kd.C_alloc ?_ _) | (with_reducible refine Kd.C_drewN ?_ _) | (with_reducible refine Kd.C_drew ?_))); (case side2 => exact HC0.out); rintro e w27 ⟨v293, rfl, ho0, hb⟩; refine ⟨_, rfl, ?_⟩; have n0_ := Aside0.mk (Kd.R_elder' (Kd.RN HO291) (Kd.R_base ho0) hb); have n1_ := Aside0.mk (Kd.R_lower (Kd.R_newB (Kd.R_new' ho0 (Kd.R_lt (Kd.RN HO291))) (g := gb285) (blkN BK285)) (below_size (belN HB))); have n2_ := Aside0.mk (blk_below (g := gb285) (blkN BK285) hb); have n3_ := Aside0.mk (below_step (belN HB) hb); clear HO291; clear BK285; clear HB; have HO291 := n0_; have HO294 := n1_; have BK285 := n2_; have HB := n3_; clear n0_ n1_ n2_ n3_; (try clear hb); (try clear hb2); (try clear hk); (try clear hi); (try clear ho0); obtain ⟨hcz28_0, hcz28_1, hcz28_2, hcz28_3, hcz28_4, hfz28_0, hfz28_1, hfz28_2, hfz28_3, hfz28_4⟩ := cz5_ (w := w27) BK285.out) | ((with_reducible refine gate_callee (f := 76) rfl ?_); refine goesL_ (some 52) rfl rfl Try.func76 (by kernel_rfl) rfl #[.slice A0 l0.length c0, .agg #[.int .u64 a2_0, .int .u64 a2_1, .int .u64 a2_2, .int .u64 a2_3, .int .i64 a2_4]] rfl (by (try simp only [List.map_toArray, List.map_cons, List.map_nil]); first | done | rfl | (simp only [List.length_drop, List.length_take]; rfl)) ?_; (with_reducible refine (damsonref13_Start.calls kj7 _ _ l0 a2_0 a2_1 a2_2 a2_3 a2_4 t296 t299 _ ?side1 ?side2 A17.out).mono ?_); (case side1 => repeat (first | exact (Kd.C_below HR0.out HB.out) | (with_reducible refine Kd.C_alloc ?_ _) | (with_reducible refine Kd.C_drewN ?_ _) | (with_reducible refine Kd.C_drew ?_))); (case side2 => exact HC0.out); rintro e w29 ⟨v297, rfl, ho0, hb⟩; refine ⟨_, rfl, ?_⟩; have n0_ := Aside0.mk (Kd.R_elder' (Kd.RN HO291) (Kd.R_base ho0) hb); have n1_ := Aside0.mk (Kd.R_elder' (Kd.RN HO294) (Kd.R_base ho0) hb); have n2_ := Aside0.mk (Kd.R_lower (Kd.R_newB (Kd.R_new' (Kd.R_new' ho0 (Kd.R_lt (Kd.RN HO291))) (Kd.R_lt (Kd.RN HO294))) (g := gb285) (blkN BK285)) (below_size (belN HB))); have n3_ := Aside0.mk (blk_below (g := gb285) (blkN BK285) hb); have n4_ := Aside0.mk (below_step (belN HB) hb); clear HO291; clear HO294; clear BK285; clear HB; have HO291 := n0_; have HO294 := n1_; have HO298 := n2_; have BK285 := n3_; have HB := n4_; clear n0_ n1_ n2_ n3_ n4_; (try clear hb); (try clear hb2); (try clear hk); (try clear hi); (try clear ho0)) | ((with_reducible refine gate_callee (f := 72) rfl ?_); refine goesL_ (some 59) rfl rfl Try.func72 (by kernel_rfl) rfl #[.slice A0 l0.length c0, .int .u64 a3, .bool a4] rfl (by (try simp only [List.map_toArray, List.map_cons, List.map_nil]); first | done | rfl | (simp only [List.length_drop, List.length_take]; rfl)) ?_; (with_reducible refine (payment_End.calls kj7 _ _ l0 a3 a4 t300 t301 _ ?side1 ?side2 A18.out).mono ?_); (case side1 => repeat (first | exact (Kd.C_below HR0.out HB.out) | (with_reducible refine Kd.C_alloc ?_ _) | (with_reducible refine Kd.C_drewN ?_ _) | (with_reducible refine Kd.C_drew ?_))); (case side2 => exact HC0.out); rintro e w30 ⟨v302, rfl, ho0, hb⟩; refine ⟨_, rfl, ?_⟩; have n0_ := Aside0.mk (Kd.R_elder' (Kd.RN HO291) (Kd.R_base ho0) hb); have n1_ := Aside0.mk (Kd.R_elder' (Kd.RN HO294) (Kd.R_base ho0) hb); have n2_ := Aside0.mk (Kd.R_elder' (Kd.RN HO298) (Kd.R_base ho0) hb); have n3_ := Aside0.mk (Kd.R_lower (Kd.R_newB (Kd.R_new' (Kd.R_new' (Kd.R_new' ho0 (Kd.R_lt (Kd.RN HO291))) (Kd.R_lt (Kd.RN HO294))) (Kd.R_lt (Kd.RN HO298))) (g := gb285) (blkN BK285)) (below_size (belN HB))); have n4_ := Aside0.mk (blk_below (g := gb285) (blkN BK285) hb); have n5_ := Aside0.mk (below_step (belN HB) hb); clear HO291; clear HO294; clear HO298; clear BK285; clear HB; have HO291 := n0_; have HO294 := n1_; have HO298 := n2_; have HO303 := n3_; have BK285 := n4_; have HB := n5_; clear n0_ n1_ n2_ n3_ n4_ n5_; (try clear hb); (try clear hb2); (try clear hk); (try clear hi); (try clear ho0)) | ((with_reducible refine gate_callee (f := 77) rfl ?_); refine goesL_ (some 66) rfl rfl Try.func77 (by kernel_rfl) rfl #[.slice A0 l0.length c0, .int .u64 a3, .bool a4] rfl (by (try simp only [List.map_toArray, List.map_cons, List.map_nil]); first | done | rfl | (simp only [List.length_drop, List.length_take]; rfl)) ?_; (with_reducible refine (damsonref13_End.calls kj7 _ _ l0 a3 a4 t304 t305 _ ?side1 ?side2 A19.out).mono ?_); (case side1 => repeat (first | exact (Kd.C_below HR0.out HB.out) | (with_reducible refine Kd.C_alloc ?_ _) | (with_reducible refine Kd.C_drewN ?_ _) | (with_reducible refine Kd.C_drew ?_))); (case side2 => exact HC0.out); rintro e w31 ⟨v306, rfl, ho0, hb⟩; refine ⟨_, rfl, ?_⟩; have n0_ := Aside0.mk (Kd.R_elder' (Kd.RN HO291) (Kd.R_base ho0) hb); have n1_ := Aside0.mk (Kd.R_elder' (Kd.RN HO294) (Kd.R_base ho0) hb); have n2_ := Aside0.mk (Kd.R_elder' (Kd.RN HO298) (Kd.R_base ho0) hb); have n3_ := Aside0.mk (Kd.R_elder' (Kd.RN HO303) (Kd.R_base ho0) hb); have n4_ := Aside0.mk (Kd.R_lower (Kd.R_newB (Kd.R_new' (Kd.R_new' (Kd.R_new' (Kd.R_new' ho0 (Kd.R_lt (Kd.RN HO291))) (Kd.R_lt (Kd.RN HO294))) (Kd.R_lt (Kd.RN HO298))) (Kd.R_lt (Kd.RN HO303))) (g := gb285) (blkN BK285)) (below_size (belN HB))); have n5_ := Aside0.mk (blk_below (g := gb285) (blkN BK285) hb); have n6_ := Aside0.mk (below_step (belN HB) hb); clear HO291; clear HO294; clear HO298; clear HO303; clear BK285; clear HB; have HO291 := n0_; have HO294 := n1_; have HO298 := n2_; have HO303 := n3_; have HO307 := n4_; have BK285 := n5_; have HB := n6_; clear n0_ n1_ n2_ n3_ n4_ n5_ n6_; (try clear hb); (try clear hb2); (try clear hk); (try clear hi); (try clear ho0)) | ((with_reducible refine gate_callee (f := 70) rfl ?_); refine goesL_ (some 72) rfl rfl Try.func70 (by kernel_rfl) rfl #[.slice A0 l0.length c0, .int .u64 a3] rfl (by (try simp only [List.map_toArray, List.map_cons, List.map_nil]); first | done | rfl | (simp only [List.length_drop, List.length_take]; rfl)) ?_; (with_reducible refine (payment_Get.calls kj7 _ _ l0 a3 t308 t309 t310 t311 t312 t313 _ ?side1 ?side2 A20.out).mono ?_); (case side1 => repeat (first | exact (Kd.C_below HR0.out HB.out) | (with_reducible refine Kd.C_alloc ?_ _) | (with_reducible refine Kd.C_drewN ?_ _) | (with_reducible refine Kd.C_drew ?_))); (case side2 => exact HC0.out); rintro e w32 ⟨rfl, hb⟩; refine ⟨_, rfl, ?_⟩; have n0_ := Aside0.mk (Kd.R_below (Kd.RN HO291) hb); have n1_ := Aside0.mk (Kd.R_below (Kd.RN HO294) hb); have n2_ := Aside0.mk (Kd.R_below (Kd.RN HO298) hb); have n3_ := Aside0.mk (Kd.R_below (Kd.RN HO303) hb); have n4_ := Aside0.mk (Kd.R_below (Kd.RN HO307) hb); have n5_ := Aside0.mk (blk_below (g := gb285) (blkN BK285) hb); have n6_ := Aside0.mk (below_step (belN HB) hb); clear HO291; clear HO294; clear HO298; clear HO303; clear HO307; clear BK285; clear HB; have HO291 := n0_; have HO294 := n1_; have HO298 := n2_; have HO303 := n3_; have HO307 := n4_; have BK285 := n5_; have HB := n6_; clear n0_ n1_ n2_ n3_ n4_ n5_ n6_; (try clear hb); (try clear hb2); (try clear hk); (try clear hi)) | ((with_reducible refine gate_dst (N := 20) rfl ?_); refine box_event ?hg (N := 20) ?hd (cs := #[.int .u64 0, .int .u64 0, .int .u64 0, .int .u64 0, .int .i64 0]) (t := 74) ?hr ?_; (case hd => rfl); (case hg => rfl); (case hr => first | (go_simp; done) | (go_simp; rfl)); intro gb314 hg w33 hbox hb; have n0_ := Aside0.mk (Kd.R_below (Kd.R_elderB (Kd.RN HO291) gb314 (Nat.le_of_eq hg.symm)) hb); have n1_ := Aside0.mk (Kd.R_below (Kd.R_elderB (Kd.RN HO294) gb314 (Nat.le_of_eq hg.symm)) hb); have n2_ := Aside0.mk (Kd.R_below (Kd.R_elderB (Kd.RN HO298) gb314 (Nat.le_of_eq hg.symm)) hb); have n3_ := Aside0.mk (Kd.R_below (Kd.R_elderB (Kd.RN HO303) gb314 (Nat.le_of_eq hg.symm)) hb); have n4_ := Aside0.mk (Kd.R_below (Kd.R_elderB (Kd.RN HO307) gb314 (Nat.le_of_eq hg.symm)) hb); have n5_ := Aside0.mk (blk_below (g := gb285) (blkN BK285) hb); have n6_ := Aside0.mk (below_step (belN HB) hb); have n7_ := Aside0.mk (hbox); have n8_ := Aside0.mk ((by rw [hg]; exact (below_size (belN HB)) : w.heap.size ≤ gb314)); have n9_ := Aside0.mk ((by rw [hg]; exact (below_size (belN HB)) : w.heap.size ≤ gb314)); have n10_ := Aside0.mk ((by rw [hg]; exact Nat.ne_of_lt (blk_lt (g := gb285) (blkN BK285)) : gb285 ≠ gb314)); have n11_ := Aside0.mk ((by rw [hg]; exact Nat.ne_of_gt (blk_lt (g := gb285) (blkN BK285)) : gb314 ≠ gb285)); clear HO291; clear HO294; clear HO298; clear HO303; clear HO307; clear BK285; clear HB; have HO291 := n0_; have HO294 := n1_; have HO298 := n2_; have HO303 := n3_; have HO307 := n4_; have BK285 := n5_; have HB := n6_; have BK314 := n7_; have GW314 := n8_; have GE314 := n9_; have NB285_314 := n10_; have NB314_285 := n11_; clear n0_ n1_ n2_ n3_ n4_ n5_ n6_ n7_ n8_ n9_ n10_ n11_; clear hb hbox hg; have hnb34 := NB314_285.out; have hnc34 := NB285_314.out; obtain ⟨hcz35_0, hcz35_1, hcz35_2, hcz35_3, hcz35_4, hfz35_0, hfz35_1, hfz35_2, hfz35_3, hfz35_4⟩ := cz5_ (w := w33) BK314.out) | ((with_reducible refine gate_store (t := 74) (p := 20) rfl ?_); refine store_event (t := 74) (p := 20) (v := ?vo_w36) (w1 := (((((w33.setCell ⟨gb314, 0, none⟩ (.int .u64 t308)).setCell ⟨gb314, 1, none⟩ (.int .u64 t309)).setCell ⟨gb314, 2, none⟩ (.int .u64 t310)).setCell ⟨gb314, 3, none⟩ (.int .u64 t311)).setCell ⟨gb314, 4, none⟩ (.int .i64 t312))) ?hg ?ho ?hn ?hr ?_; (case ho => rfl); (case hg => rfl); (case hn => rfl); (case hr => first | (go_simp; done) | (go_simp; rfl)); intro w36 hw; have n0_ : Aside0 (Kd.R k74 74 w36 w.heap.size (fun k_ => some k_ ≠ (v293 : Value).ownBlock ∧ some k_ ≠ (v297 : Value).ownBlock ∧ some k_ ≠ (v302 : Value).ownBlock ∧ some k_ ≠ (v306 : Value).ownBlock ∧ k_ ≠ gb285 ∧ k_ ≠ gb314) v290 y289) := ⟨(by rw [hw]; exact (by (with_reducible repeat (first | apply Kd.R_alloc | apply Kd.R_drewN | apply Kd.R_drew)); exact Kd.R_mono (Kd.R_far (p := ⟨gb314, 4, none⟩) (Kd.R_far (p := ⟨gb314, 3, none⟩) (Kd.R_far (p := ⟨gb314, 2, none⟩) (Kd.R_far (p := ⟨gb314, 1, none⟩) (Kd.R_far (p := ⟨gb314, 0, none⟩) (Kd.R_mono HO291.out (fun k_ hk => (⟨hk, hk.2⟩ : _ ∧ k_ ≠ gb314))) (fun _ hk => hk.2) (.int .u64 t308)) (fun _ hk => hk.2) (.int .u64 t309)) (fun _ hk => hk.2) (.int .u64 t310)) (fun _ hk => hk.2) (.int .u64 t311)) (fun _ hk => hk.2) (.int .i64 t312)) (fun _ hk => ⟨hk.1.1.1.1.1.2, ⟨hk.1.1.1.1.2, ⟨hk.1.1.1.2, ⟨hk.1.1.2, ⟨hk.1.1.1.1.1.1, hk.1.2⟩⟩⟩⟩⟩)))⟩; have n1_ : Aside0 (Kd.R k74 74 w36 w.heap.size (fun k_ => some k_ ≠ (v290 : Value).ownBlock ∧ some k_ ≠ (v297 : Value).ownBlock ∧ some k_ ≠ (v302 : Value).ownBlock ∧ some k_ ≠ (v306 : Value).ownBlock ∧ k_ ≠ gb285 ∧ k_ ≠ gb314) v293 t292) := ⟨(by rw [hw]; exact (by (with_reducible repeat (first | apply Kd.R_alloc | apply Kd.R_drewN | apply Kd.R_drew)); exact Kd.R_mono (Kd.R_far (p := ⟨gb314, 4, none⟩) (Kd.R_far (p := ⟨gb314, 3, none⟩) (Kd.R_far (p := ⟨gb314, 2, none⟩) (Kd.R_far (p := ⟨gb314, 1, none⟩) (Kd.R_far (p := ⟨gb314, 0, none⟩) (Kd.R_mono HO294.out (fun k_ hk => (⟨hk, hk.2⟩ : _ ∧ k_ ≠ gb314))) (fun _ hk => hk.2) (.int .u64 t308)) (fun _ hk => hk.2) (.int .u64 t309)) (fun _ hk => hk.2) (.int .u64 t310)) (fun _ hk => hk.2) (.int .u64 t311)) (fun _ hk => hk.2) (.int .i64 t312)) (fun _ hk => ⟨hk.1.1.1.1.1.1.2, ⟨hk.1.1.1.1.2, ⟨hk.1.1.1.2, ⟨hk.1.1.2, ⟨hk.1.1.1.1.1.2, hk.1.2⟩⟩⟩⟩⟩)))⟩; have n2_ : Aside0 (Kd.R k74 74 w36 w.heap.size (fun k_ => some k_ ≠ (v290 : Value).ownBlock ∧ some k_ ≠ (v293 : Value).ownBlock ∧ some k_ ≠ (v302 : Value).ownBlock ∧ some k_ ≠ (v306 : Value).ownBlock ∧ k_ ≠ gb285 ∧ k_ ≠ gb314) v297 t296) := ⟨(by rw [hw]; exact (by (with_reducible repeat (first | apply Kd.R_alloc | apply Kd.R_drewN | apply Kd.R_drew)); exact Kd.R_mono (Kd.R_far (p := ⟨gb314, 4, none⟩) (Kd.R_far (p := ⟨gb314, 3, none⟩) (Kd.R_far (p := ⟨gb314, 2, none⟩) (Kd.R_far (p := ⟨gb314, 1, none⟩) (Kd.R_far (p := ⟨gb314, 0, none⟩) (Kd.R_mono HO298.out (fun k_ hk => (⟨hk, hk.2⟩ : _ ∧ k_ ≠ gb314))) (fun _ hk => hk.2) (.int .u64 t308)) (fun _ hk => hk.2) (.int .u64 t309)) (fun _ hk => hk.2) (.int .u64 t310)) (fun _ hk => hk.2) (.int .u64 t311)) (fun _ hk => hk.2) (.int .i64 t312)) (fun _ hk => ⟨hk.1.1.1.1.1.1.2, ⟨hk.1.1.1.1.1.2, ⟨hk.1.1.1.2, ⟨hk.1.1.2, ⟨hk.1.1.1.1.2, hk.1.2⟩⟩⟩⟩⟩)))⟩; have n3_ : Aside0 (Kd.R k74 74 w36 w.heap.size (fun k_ => some k_ ≠ (v290 : Value).ownBlock ∧ some k_ ≠ (v293 : Value).ownBlock ∧ some k_ ≠ (v297 : Value).ownBlock ∧ some k_ ≠ (v306 : Value).ownBlock ∧ k_ ≠ gb285 ∧ k_ ≠ gb314) v302 t300) := ⟨(by rw [hw]; exact (by (with_reducible repeat (first | apply Kd.R_alloc | apply Kd.R_drewN | apply Kd.R_drew)); exact Kd.R_mono (Kd.R_far (p := ⟨gb314, 4, none⟩) (Kd.R_far (p := ⟨gb314, 3, none⟩) (Kd.R_far (p := ⟨gb314, 2, none⟩) (Kd.R_far (p := ⟨gb314, 1, none⟩) (Kd.R_far (p := ⟨gb314, 0, none⟩) (Kd.R_mono HO303.out (fun k_ hk => (⟨hk, hk.2⟩ : _ ∧ k_ ≠ gb314))) (fun _ hk => hk.2) (.int .u64 t308)) (fun _ hk => hk.2) (.int .u64 t309)) (fun _ hk => hk.2) (.int .u64 t310)) (fun _ hk => hk.2) (.int .u64 t311)) (fun _ hk => hk.2) (.int .i64 t312)) (fun _ hk => ⟨hk.1.1.1.1.1.1.2, ⟨hk.1.1.1.1.1.2, ⟨hk.1.1.1.1.2, ⟨hk.1.1.2, ⟨hk.1.1.1.2, hk.1.2⟩⟩⟩⟩⟩)))⟩; have n4_ : Aside0 (Kd.R k74 74 w36 w.heap.size (fun k_ => some k_ ≠ (v290 : Value).ownBlock ∧ some k_ ≠ (v293 : Value).ownBlock ∧ some k_ ≠ (v297 : Value).ownBlock ∧ some k_ ≠ (v302 : Value).ownBlock ∧ k_ ≠ gb285 ∧ k_ ≠ gb314) v306 t304) := ⟨(by rw [hw]; exact (by (with_reducible repeat (first | apply Kd.R_alloc | apply Kd.R_drewN | apply Kd.R_drew)); exact Kd.R_mono (Kd.R_far (p := ⟨gb314, 4, none⟩) (Kd.R_far (p := ⟨gb314, 3, none⟩) (Kd.R_far (p := ⟨gb314, 2, none⟩) (Kd.R_far (p := ⟨gb314, 1, none⟩) (Kd.R_far (p := ⟨gb314, 0, none⟩) (Kd.R_mono HO307.out (fun k_ hk => (⟨hk, hk.2⟩ : _ ∧ k_ ≠ gb314))) (fun _ hk => hk.2) (.int .u64 t308)) (fun _ hk => hk.2) (.int .u64 t309)) (fun _ hk => hk.2) (.int .u64 t310)) (fun _ hk => hk.2) (.int .u64 t311)) (fun _ hk => hk.2) (.int .i64 t312)) (fun _ hk => ⟨hk.1.1.1.1.1.1.2, ⟨hk.1.1.1.1.1.2, ⟨hk.1.1.1.1.2, ⟨hk.1.1.1.2, ⟨hk.1.1.2, hk.1.2⟩⟩⟩⟩⟩)))⟩; have n5_ : Aside0 (w36.heap[gb285]? = some (.cells #[.int .u64 a2_0, .int .u64 a2_1, .int .u64 a2_2, .int .u64 a2_3, .int .i64 a2_4] 74 (0, 0))) := ⟨(by rw [hw]; exact (blkF BK285))⟩; have n6_ : Aside0 (w36.heap[gb314]? = some (.cells #[.int .u64 t308, .int .u64 t309, .int .u64 t310, .int .u64 t311, .int .i64 t312] 74 (0, 0))) := ⟨(by rw [hw]; exact (by (with_reducible repeat (first | refine blk_drewN ?_ _ | refine blk_drew ?_ | refine blk_alloc ?_ _)); refine blk_put (cs := #[.int .u64 t308, .int .u64 t309, .int .u64 t310, .int .u64 t311, .int .i64 0]) ?_ 4 _ rfl; refine blk_put (cs := #[.int .u64 t308, .int .u64 t309, .int .u64 t310, .int .u64 0, .int .i64 0]) ?_ 3 _ rfl; refine blk_put (cs := #[.int .u64 t308, .int .u64 t309, .int .u64 0, .int .u64 0, .int .i64 0]) ?_ 2 _ rfl; refine blk_put (cs := #[.int .u64 t308, .int .u64 0, .int .u64 0, .int .u64 0, .int .i64 0]) ?_ 1 _ rfl; refine blk_put (cs := #[.int .u64 0, .int .u64 0, .int .u64 0, .int .u64 0, .int .i64 0]) ?_ 0 _ rfl; (with_reducible repeat (first | refine blk_drewN ?_ _ | refine blk_drew ?_ | refine blk_alloc ?_ _)); exact BK314.out))⟩; have n7_ : Aside0 (Below w.heap.size w w36) := ⟨(by rw [hw]; exact (belN HB))⟩; clear hw; clear HO291; clear HO294; clear HO298; clear HO303; clear HO307; clear BK285; clear BK314; clear HB; have HO291 := n0_; have HO294 := n1_; have HO298 := n2_; have HO303 := n3_; have HO307 := n4_; have BK285 := n5_; have BK314 := n6_; have HB := n7_; clear n0_ n1_ n2_ n3_ n4_ n5_ n6_ n7_) | ((with_reducible refine gate_callee (f := 78) rfl ?_); refine goesL_ (some 78) rfl rfl Try.func78 (by kernel_rfl) rfl #[.slice A0 l0.length c0, .int .u64 a3] rfl (by (try simp only [List.map_toArray, List.map_cons, List.map_nil]); first | done | rfl | (simp only [List.length_drop, List.length_take]; rfl)) ?_; (with_reducible refine (damsonref13_Get.calls kj7 _ _ l0 a3 t315 t316 t317 t318 t319 t320 _ ?side1 ?side2 A21.out).mono ?_); (case side1 => repeat (first | exact (Kd.C_below HR0.out HB.out) | (with_reducible refine Kd.C_alloc ?_ _) | (with_reducible refine Kd.C_drewN ?_ _) | (with_reducible refine Kd.C_drew ?_))); (case side2 => exact HC0.out); rintro e w37 ⟨rfl, hb⟩; refine ⟨_, rfl, ?_⟩; have n0_ := Aside0.mk (Kd.R_below (Kd.RN HO291) hb); have n1_ := Aside0.mk (Kd.R_below (Kd.RN HO294) hb); have n2_ := Aside0.mk (Kd.R_below (Kd.RN HO298) hb); have n3_ := Aside0.mk (Kd.R_below (Kd.RN HO303) hb); have n4_ := Aside0.mk (Kd.R_below (Kd.RN HO307) hb); have n5_ := Aside0.mk (blk_below (g := gb285) (blkN BK285) hb); have n6_ := Aside0.mk (blk_below (g := gb314) (blkN BK314) hb); have n7_ := Aside0.mk (below_step (belN HB) hb); clear HO291; clear HO294; clear HO298; clear HO303; clear HO307; clear BK285; clear BK314; clear HB; have HO291 := n0_; have HO294 := n1_; have HO298 := n2_; have HO303 := n3_; have HO307 := n4_; have BK285 := n5_; have BK314 := n6_; have HB := n7_; clear n0_ n1_ n2_ n3_ n4_ n5_ n6_ n7_; (try clear hb); (try clear hb2); (try clear hk); (try clear hi)) | ((with_reducible refine gate_dst (N := 22) rfl ?_); refine box_event ?hg (N := 22) ?hd (cs := #[.int .u64 0, .int .u64 0, .int .u64 0, .int .u64 0, .int .i64 0]) (t := 74) ?hr ?_; (case hd => rfl); (case hg => rfl); (case hr => first | (go_simp; done) | (go_simp; rfl)); intro gb321 hg w38 hbox hb; have n0_ := Aside0.mk (Kd.R_below (Kd.R_elderB (Kd.RN HO291) gb321 (Nat.le_of_eq hg.symm)) hb); have n1_ := Aside0.mk (Kd.R_below (Kd.R_elderB (Kd.RN HO294) gb321 (Nat.le_of_eq hg.symm)) hb); have n2_ := Aside0.mk (Kd.R_below (Kd.R_elderB (Kd.RN HO298) gb321 (Nat.le_of_eq hg.symm)) hb); have n3_ := Aside0.mk (Kd.R_below (Kd.R_elderB (Kd.RN HO303) gb321 (Nat.le_of_eq hg.symm)) hb); have n4_ := Aside0.mk (Kd.R_below (Kd.R_elderB (Kd.RN HO307) gb321 (Nat.le_of_eq hg.symm)) hb); have n5_ := Aside0.mk (blk_below (g := gb285) (blkN BK285) hb); have n6_ := Aside0.mk (blk_below (g := gb314) (blkN BK314) hb); have n7_ := Aside0.mk (below_step (belN HB) hb); have n8_ := Aside0.mk (hbox); have n9_ := Aside0.mk ((by rw [hg]; exact (below_size (belN HB)) : w.heap.size ≤ gb321)); have n10_ := Aside0.mk ((by rw [hg]; exact (below_size (belN HB)) : w.heap.size ≤ gb321)); have n11_ := Aside0.mk ((by rw [hg]; exact Nat.ne_of_lt (blk_lt (g := gb285) (blkN BK285)) : gb285 ≠ gb321)); have n12_ := Aside0.mk ((by rw [hg]; exact Nat.ne_of_gt (blk_lt (g := gb285) (blkN BK285)) : gb321 ≠ gb285)); have n13_ := Aside0.mk ((by rw [hg]; exact Nat.ne_of_lt (blk_lt (g := gb314) (blkN BK314)) : gb314 ≠ gb321)); have n14_ := Aside0.mk ((by rw [hg]; exact Nat.ne_of_gt (blk_lt (g := gb314) (blkN BK314)) : gb321 ≠ gb314)); clear HO291; clear HO294; clear HO298; clear HO303; clear HO307; clear BK285; clear BK314; clear HB; have HO291 := n0_; have HO294 := n1_; have HO298 := n2_; have HO303 := n3_; have HO307 := n4_; have BK285 := n5_; have BK314 := n6_; have HB := n7_; have BK321 := n8_; have GW321 := n9_; have GE321 := n10_; have NB285_321 := n11_; have NB321_285 := n12_; have NB314_321 := n13_; have NB321_314 := n14_; clear n0_ n1_ n2_ n3_ n4_ n5_ n6_ n7_ n8_ n9_ n10_ n11_ n12_ n13_ n14_; clear hb hbox hg; have hnb39 := NB321_285.out; have hnc39 := NB285_321.out; have hnb40 := NB321_314.out; have hnc40 := NB314_321.out; obtain ⟨hcz41_0, hcz41_1, hcz41_2, hcz41_3, hcz41_4, hfz41_0, hfz41_1, hfz41_2, hfz41_3, hfz41_4⟩ := cz5_ (w := w38) BK321.out) | ((with_reducible refine gate_store (t := 74) (p := 22) rfl ?_); refine store_event (t := 74) (p := 22) (v := ?vo_w42) (w1 := (((((w38.setCell ⟨gb321, 0, none⟩ (.int .u64 t315)).setCell ⟨gb321, 1, none⟩ (.int .u64 t316)).setCell ⟨gb321, 2, none⟩ (.int .u64 t317)).setCell ⟨gb321, 3, none⟩ (.int .u64 t318)).setCell ⟨gb321, 4, none⟩ (.int .i64 t319))) ?hg ?ho ?hn ?hr ?_; (case ho => rfl); (case hg => rfl); (case hn => rfl); (case hr => first | (go_simp; done) | (go_simp; rfl)); intro w42 hw; have n0_ : Aside0 (Kd.R k74 74 w42 w.heap.size (fun k_ => some k_ ≠ (v293 : Value).ownBlock ∧ some k_ ≠ (v297 : Value).ownBlock ∧ some k_ ≠ (v302 : Value).ownBlock ∧ some k_ ≠ (v306 : Value).ownBlock ∧ k_ ≠ gb285 ∧ k_ ≠ gb314 ∧ k_ ≠ gb321) v290 y289) := ⟨(by rw [hw]; exact (by (with_reducible repeat (first | apply Kd.R_alloc | apply Kd.R_drewN | apply Kd.R_drew)); exact Kd.R_mono (Kd.R_far (p := ⟨gb321, 4, none⟩) (Kd.R_far (p := ⟨gb321, 3, none⟩) (Kd.R_far (p := ⟨gb321, 2, none⟩) (Kd.R_far (p := ⟨gb321, 1, none⟩) (Kd.R_far (p := ⟨gb321, 0, none⟩) (Kd.R_mono HO291.out (fun k_ hk => (⟨hk, hk.2⟩ : _ ∧ k_ ≠ gb321))) (fun _ hk => hk.2) (.int .u64 t315)) (fun _ hk => hk.2) (.int .u64 t316)) (fun _ hk => hk.2) (.int .u64 t317)) (fun _ hk => hk.2) (.int .u64 t318)) (fun _ hk => hk.2) (.int .i64 t319)) (fun _ hk => ⟨hk.1.1.1, ⟨hk.1.1.2.1, ⟨hk.1.1.2.2.1, ⟨hk.1.1.2.2.2.1, ⟨hk.1.1.2.2.2.2.1, ⟨hk.1.1.2.2.2.2.2, hk.1.2⟩⟩⟩⟩⟩⟩)))⟩; have n1_ : Aside0 (Kd.R k74 74 w42 w.heap.size (fun k_ => some k_ ≠ (v290 : Value).ownBlock ∧ some k_ ≠ (v297 : Value).ownBlock ∧ some k_ ≠ (v302 : Value).ownBlock ∧ some k_ ≠ (v306 : Value).ownBlock ∧ k_ ≠ gb285 ∧ k_ ≠ gb314 ∧ k_ ≠ gb321) v293 t292) := ⟨(by rw [hw]; exact (by (with_reducible repeat (first | apply Kd.R_alloc | apply Kd.R_drewN | apply Kd.R_drew)); exact Kd.R_mono (Kd.R_far (p := ⟨gb321, 4, none⟩) (Kd.R_far (p := ⟨gb321, 3, none⟩) (Kd.R_far (p := ⟨gb321, 2, none⟩) (Kd.R_far (p := ⟨gb321, 1, none⟩) (Kd.R_far (p := ⟨gb321, 0, none⟩) (Kd.R_mono HO294.out (fun k_ hk => (⟨hk, hk.2⟩ : _ ∧ k_ ≠ gb321))) (fun _ hk => hk.2) (.int .u64 t315)) (fun _ hk => hk.2) (.int .u64 t316)) (fun _ hk => hk.2) (.int .u64 t317)) (fun _ hk => hk.2) (.int .u64 t318)) (fun _ hk => hk.2) (.int .i64 t319)) (fun _ hk => ⟨hk.1.1.1, ⟨hk.1.1.2.1, ⟨hk.1.1.2.2.1, ⟨hk.1.1.2.2.2.1, ⟨hk.1.1.2.2.2.2.1, ⟨hk.1.1.2.2.2.2.2, hk.1.2⟩⟩⟩⟩⟩⟩)))⟩; have n2_ : Aside0 (Kd.R k74 74 w42 w.heap.size (fun k_ => some k_ ≠ (v290 : Value).ownBlock ∧ some k_ ≠ (v293 : Value).ownBlock ∧ some k_ ≠ (v302 : Value).ownBlock ∧ some k_ ≠ (v306 : Value).ownBlock ∧ k_ ≠ gb285 ∧ k_ ≠ gb314 ∧ k_ ≠ gb321) v297 t296) := ⟨(by rw [hw]; exact (by (with_reducible repeat (first | apply Kd.R_alloc | apply Kd.R_drewN | apply Kd.R_drew)); exact Kd.R_mono (Kd.R_far (p := ⟨gb321, 4, none⟩) (Kd.R_far (p := ⟨gb321, 3, none⟩) (Kd.R_far (p := ⟨gb321, 2, none⟩) (Kd.R_far (p := ⟨gb321, 1, none⟩) (Kd.R_far (p := ⟨gb321, 0, none⟩) (Kd.R_mono HO298.out (fun k_ hk => (⟨hk, hk.2⟩ : _ ∧ k_ ≠ gb321))) (fun _ hk => hk.2) (.int .u64 t315)) (fun _ hk => hk.2) (.int .u64 t316)) (fun _ hk => hk.2) (.int .u64 t317)) (fun _ hk => hk.2) (.int .u64 t318)) (fun _ hk => hk.2) (.int .i64 t319)) (fun _ hk => ⟨hk.1.1.1, ⟨hk.1.1.2.1, ⟨hk.1.1.2.2.1, ⟨hk.1.1.2.2.2.1, ⟨hk.1.1.2.2.2.2.1, ⟨hk.1.1.2.2.2.2.2, hk.1.2⟩⟩⟩⟩⟩⟩)))⟩; have n3_ : Aside0 (Kd.R k74 74 w42 w.heap.size (fun k_ => some k_ ≠ (v290 : Value).ownBlock ∧ some k_ ≠ (v293 : Value).ownBlock ∧ some k_ ≠ (v297 : Value).ownBlock ∧ some k_ ≠ (v306 : Value).ownBlock ∧ k_ ≠ gb285 ∧ k_ ≠ gb314 ∧ k_ ≠ gb321) v302 t300) := ⟨(by rw [hw]; exact (by (with_reducible repeat (first | apply Kd.R_alloc | apply Kd.R_drewN | apply Kd.R_drew)); exact Kd.R_mono (Kd.R_far (p := ⟨gb321, 4, none⟩) (Kd.R_far (p := ⟨gb321, 3, none⟩) (Kd.R_far (p := ⟨gb321, 2, none⟩) (Kd.R_far (p := ⟨gb321, 1, none⟩) (Kd.R_far (p := ⟨gb321, 0, none⟩) (Kd.R_mono HO303.out (fun k_ hk => (⟨hk, hk.2⟩ : _ ∧ k_ ≠ gb321))) (fun _ hk => hk.2) (.int .u64 t315)) (fun _ hk => hk.2) (.int .u64 t316)) (fun _ hk => hk.2) (.int .u64 t317)) (fun _ hk => hk.2) (.int .u64 t318)) (fun _ hk => hk.2) (.int .i64 t319)) (fun _ hk => ⟨hk.1.1.1, ⟨hk.1.1.2.1, ⟨hk.1.1.2.2.1, ⟨hk.1.1.2.2.2.1, ⟨hk.1.1.2.2.2.2.1, ⟨hk.1.1.2.2.2.2.2, hk.1.2⟩⟩⟩⟩⟩⟩)))⟩; have n4_ : Aside0 (Kd.R k74 74 w42 w.heap.size (fun k_ => some k_ ≠ (v290 : Value).ownBlock ∧ some k_ ≠ (v293 : Value).ownBlock ∧ some k_ ≠ (v297 : Value).ownBlock ∧ some k_ ≠ (v302 : Value).ownBlock ∧ k_ ≠ gb285 ∧ k_ ≠ gb314 ∧ k_ ≠ gb321) v306 t304) := ⟨(by rw [hw]; exact (by (with_reducible repeat (first | apply Kd.R_alloc | apply Kd.R_drewN | apply Kd.R_drew)); exact Kd.R_mono (Kd.R_far (p := ⟨gb321, 4, none⟩) (Kd.R_far (p := ⟨gb321, 3, none⟩) (Kd.R_far (p := ⟨gb321, 2, none⟩) (Kd.R_far (p := ⟨gb321, 1, none⟩) (Kd.R_far (p := ⟨gb321, 0, none⟩) (Kd.R_mono HO307.out (fun k_ hk => (⟨hk, hk.2⟩ : _ ∧ k_ ≠ gb321))) (fun _ hk => hk.2) (.int .u64 t315)) (fun _ hk => hk.2) (.int .u64 t316)) (fun _ hk => hk.2) (.int .u64 t317)) (fun _ hk => hk.2) (.int .u64 t318)) (fun _ hk => hk.2) (.int .i64 t319)) (fun _ hk => ⟨hk.1.1.1, ⟨hk.1.1.2.1, ⟨hk.1.1.2.2.1, ⟨hk.1.1.2.2.2.1, ⟨hk.1.1.2.2.2.2.1, ⟨hk.1.1.2.2.2.2.2, hk.1.2⟩⟩⟩⟩⟩⟩)))⟩; have n5_ : Aside0 (w42.heap[gb285]? = some (.cells #[.int .u64 a2_0, .int .u64 a2_1, .int .u64 a2_2, .int .u64 a2_3, .int .i64 a2_4] 74 (0, 0))) := ⟨(by rw [hw]; exact (blkF BK285))⟩; have n6_ : Aside0 (w42.heap[gb314]? = some (.cells #[.int .u64 t308, .int .u64 t309, .int .u64 t310, .int .u64 t311, .int .i64 t312] 74 (0, 0))) := ⟨(by rw [hw]; exact (blkF BK314))⟩; have n7_ : Aside0 (w42.heap[gb321]? = some (.cells #[.int .u64 t315, .int .u64 t316, .int .u64 t317, .int .u64 t318, .int .i64 t319] 74 (0, 0))) := ⟨(by rw [hw]; exact (by (with_reducible repeat (first | refine blk_drewN ?_ _ | refine blk_drew ?_ | refine blk_alloc ?_ _)); refine blk_put (cs := #[.int .u64 t315, .int .u64 t316, .int .u64 t317, .int .u64 t318, .int .i64 0]) ?_ 4 _ rfl; refine blk_put (cs := #[.int .u64 t315, .int .u64 t316, .int .u64 t317, .int .u64 0, .int .i64 0]) ?_ 3 _ rfl; refine blk_put (cs := #[.int .u64 t315, .int .u64 t316, .int .u64 0, .int .u64 0, .int .i64 0]) ?_ 2 _ rfl; refine blk_put (cs := #[.int .u64 t315, .int .u64 0, .int .u64 0, .int .u64 0, .int .i64 0]) ?_ 1 _ rfl; refine blk_put (cs := #[.int .u64 0, .int .u64 0, .int .u64 0, .int .u64 0, .int .i64 0]) ?_ 0 _ rfl; (with_reducible repeat (first | refine blk_drewN ?_ _ | refine blk_drew ?_ | refine blk_alloc ?_ _)); exact BK321.out))⟩; have n8_ : Aside0 (Below w.heap.size w w42) := ⟨(by rw [hw]; exact (belN HB))⟩; clear hw; clear HO291; clear HO294; clear HO298; clear HO303; clear HO307; clear BK285; clear BK314; clear BK321; clear HB; have HO291 := n0_; have HO294 := n1_; have HO298 := n2_; have HO303 := n3_; have HO307 := n4_; have BK285 := n5_; have BK314 := n6_; have BK321 := n7_; have HB := n8_; clear n0_ n1_ n2_ n3_ n4_ n5_ n6_ n7_ n8_) | ((with_reducible refine gate_callee (f := 75) rfl ?_); refine goesL_ (some 84) rfl rfl Try.func75 (by kernel_rfl) rfl #[.slice A0 l0.length c0, .int .u64 a3] rfl (by (try simp only [List.map_toArray, List.map_cons, List.map_nil]); first | done | rfl | (simp only [List.length_drop, List.length_take]; rfl)) ?_; (with_reducible refine (payment_Held.calls kj7 _ _ l0 a3 t322 t323 _ ?side1 ?side2 A22.out).mono ?_); (case side1 => repeat (first | exact (Kd.C_below HR0.out HB.out) | (with_reducible refine Kd.C_alloc ?_ _) | (with_reducible refine Kd.C_drewN ?_ _) | (with_reducible refine Kd.C_drew ?_))); (case side2 => exact HC0.out); rintro e w43 ⟨rfl, hb⟩; refine ⟨_, rfl, ?_⟩; have n0_ := Aside0.mk (Kd.R_below (Kd.RN HO291) hb); have n1_ := Aside0.mk (Kd.R_below (Kd.RN HO294) hb); have n2_ := Aside0.mk (Kd.R_below (Kd.RN HO298) hb); have n3_ := Aside0.mk (Kd.R_below (Kd.RN HO303) hb); have n4_ := Aside0.mk (Kd.R_below (Kd.RN HO307) hb); have n5_ := Aside0.mk (blk_below (g := gb285) (blkN BK285) hb); have n6_ := Aside0.mk (blk_below (g := gb314) (blkN BK314) hb); have n7_ := Aside0.mk (blk_below (g := gb321) (blkN BK321) hb); have n8_ := Aside0.mk (below_step (belN HB) hb); clear HO291; clear HO294; clear HO298; clear HO303; clear HO307; clear BK285; clear BK314; clear BK321; clear HB; have HO291 := n0_; have HO294 := n1_; have HO298 := n2_; have HO303 := n3_; have HO307 := n4_; have BK285 := n5_; have BK314 := n6_; have BK321 := n7_; have HB := n8_; clear n0_ n1_ n2_ n3_ n4_ n5_ n6_ n7_ n8_; (try clear hb); (try clear hb2); (try clear hk); (try clear hi)) | ((with_reducible refine gate_callee (f := 79) rfl ?_); refine goesL_ (some 90) rfl rfl Try.func79 (by kernel_rfl) rfl #[.slice A0 l0.length c0, .int .u64 a3] rfl (by (try simp only [List.map_toArray, List.map_cons, List.map_nil]); first | done | rfl | (simp only [List.length_drop, List.length_take]; rfl)) ?_; (with_reducible refine (damsonref13_Held.calls kj7 _ _ l0 a3 t324 t325 _ ?side1 ?side2 A23.out).mono ?_); (case side1 => repeat (first | exact (Kd.C_below HR0.out HB.out) | (with_reducible refine Kd.C_alloc ?_ _) | (with_reducible refine Kd.C_drewN ?_ _) | (with_reducible refine Kd.C_drew ?_))); (case side2 => exact HC0.out); rintro e w44 ⟨rfl, hb⟩; refine ⟨_, rfl, ?_⟩; have n0_ := Aside0.mk (Kd.R_below (Kd.RN HO291) hb); have n1_ := Aside0.mk (Kd.R_below (Kd.RN HO294) hb); have n2_ := Aside0.mk (Kd.R_below (Kd.RN HO298) hb); have n3_ := Aside0.mk (Kd.R_below (Kd.RN HO303) hb); have n4_ := Aside0.mk (Kd.R_below (Kd.RN HO307) hb); have n5_ := Aside0.mk (blk_below (g := gb285) (blkN BK285) hb); have n6_ := Aside0.mk (blk_below (g := gb314) (blkN BK314) hb); have n7_ := Aside0.mk (blk_below (g := gb321) (blkN BK321) hb); have n8_ := Aside0.mk (below_step (belN HB) hb); clear HO291; clear HO294; clear HO298; clear HO303; clear HO307; clear BK285; clear BK314; clear BK321; clear HB; have HO291 := n0_; have HO294 := n1_; have HO298 := n2_; have HO303 := n3_; have HO307 := n4_; have BK285 := n5_; have BK314 := n6_; have BK321 := n7_; have HB := n8_; clear n0_ n1_ n2_ n3_ n4_ n5_ n6_ n7_ n8_; (try clear hb); (try clear hb2); (try clear hk); (try clear hi)))
      (try simp only [Act.put, List.setIfInBounds_toArray, List.set_cons_zero, List.set_cons_succ])
      go_cut [28] (fun v28 wc => ∃ (kq : Nat) (x28_23 : Bool), v28 = .bool x28_23 ∧ Aside0 (damsonlaw13_PaymentDoes.j1 kq l0 y289 t292 t300 x28_23 = some r) ∧ Aside0 (kq ≤ kj7) ∧ Aside0 (Kd.R k74 74 wc w.heap.size (fun k_ => some k_ ≠ (v293 : Value).ownBlock ∧ some k_ ≠ (v302 : Value).ownBlock ∧ k_ ≠ gb285 ∧ k_ ≠ gb314 ∧ k_ ≠ gb321) v290 y289) ∧ Aside0 (Kd.R k74 74 wc w.heap.size (fun k_ => some k_ ≠ (v290 : Value).ownBlock ∧ some k_ ≠ (v302 : Value).ownBlock ∧ k_ ≠ gb285 ∧ k_ ≠ gb314 ∧ k_ ≠ gb321) v293 t292) ∧ Aside0 (Kd.R k74 74 wc w.heap.size (fun k_ => some k_ ≠ (v290 : Value).ownBlock ∧ some k_ ≠ (v293 : Value).ownBlock ∧ k_ ≠ gb285 ∧ k_ ≠ gb314 ∧ k_ ≠ gb321) v302 t300) ∧ Aside0 (wc.heap[gb285]? = some (.cells #[.int .u64 a2_0, .int .u64 a2_1, .int .u64 a2_2, .int .u64 a2_3, .int .i64 a2_4] 74 (0, 0))) ∧ Aside0 (wc.heap[gb314]? = some (.cells #[.int .u64 t308, .int .u64 t309, .int .u64 t310, .int .u64 t311, .int .i64 t312] 74 (0, 0))) ∧ Aside0 (wc.heap[gb321]? = some (.cells #[.int .u64 t315, .int .u64 t316, .int .u64 t317, .int .u64 t318, .int .i64 t319] 74 (0, 0))) ∧ Aside0 (Below w.heap.size w wc))
      case first =>
       have H := HC24.out
       clear HC24
       replace H := Option.bind_eq_some_iff.mp H
       obtain ⟨t326, A450, H⟩ := H
       replace H : (if t326 = true then (if t295 = t299 then ((damsonref13_Same.f kj7 t300 t304).bind fun t327 => (if t327 = true then (if t301 = t305 then (if (t308 == t315 && (t309 == t316 && (t310 == t317 && (t311 == t318 && (t312 == t319))))) = true then (if t313 = t320 then (if t322 = t324 then (if t323 = t325 then ((payment_Check.f kj7 l0).bind fun t328 => ((damsonref13_Check.f kj7 l0).bind fun t329 => (if t328 = t329 then ((payment_Same.f kj7 l0 l1).bind fun t330 => ((damsonref13_Same.f kj7 l0 l1).bind fun t331 => (damsonlaw13_PaymentDoes.j1 kj7 l0 y289 t292 t300 (t330 == t331)))) else (damsonlaw13_PaymentDoes.j1 kj7 l0 y289 t292 t300 false)))) else (damsonlaw13_PaymentDoes.j1 kj7 l0 y289 t292 t300 false)) else (damsonlaw13_PaymentDoes.j1 kj7 l0 y289 t292 t300 false)) else (damsonlaw13_PaymentDoes.j1 kj7 l0 y289 t292 t300 false)) else (damsonlaw13_PaymentDoes.j1 kj7 l0 y289 t292 t300 false)) else (damsonlaw13_PaymentDoes.j1 kj7 l0 y289 t292 t300 false)) else (damsonlaw13_PaymentDoes.j1 kj7 l0 y289 t292 t300 false))) else (damsonlaw13_PaymentDoes.j1 kj7 l0 y289 t292 t300 false)) else (damsonlaw13_PaymentDoes.j1 kj7 l0 y289 t292 t300 false)) = some r := H
       have A45 := Aside0.mk A450
       clear A450
       by_cases c46 : t326 = true
       ·subst c46
        have H1 : (if t295 = t299 then ((damsonref13_Same.f kj7 t300 t304).bind fun t327 => (if t327 = true then (if t301 = t305 then (if (t308 == t315 && (t309 == t316 && (t310 == t317 && (t311 == t318 && (t312 == t319))))) = true then (if t313 = t320 then (if t322 = t324 then (if t323 = t325 then ((payment_Check.f kj7 l0).bind fun t328 => ((damsonref13_Check.f kj7 l0).bind fun t329 => (if t328 = t329 then ((payment_Same.f kj7 l0 l1).bind fun t330 => ((damsonref13_Same.f kj7 l0 l1).bind fun t331 => (damsonlaw13_PaymentDoes.j1 kj7 l0 y289 t292 t300 (t330 == t331)))) else (damsonlaw13_PaymentDoes.j1 kj7 l0 y289 t292 t300 false)))) else (damsonlaw13_PaymentDoes.j1 kj7 l0 y289 t292 t300 false)) else (damsonlaw13_PaymentDoes.j1 kj7 l0 y289 t292 t300 false)) else (damsonlaw13_PaymentDoes.j1 kj7 l0 y289 t292 t300 false)) else (damsonlaw13_PaymentDoes.j1 kj7 l0 y289 t292 t300 false)) else (damsonlaw13_PaymentDoes.j1 kj7 l0 y289 t292 t300 false)) else (damsonlaw13_PaymentDoes.j1 kj7 l0 y289 t292 t300 false))) else (damsonlaw13_PaymentDoes.j1 kj7 l0 y289 t292 t300 false)) = some r := by rw [if_pos rfl] at H; exact H
        clear H
        have H := H1
        clear H1
        by_cases c47 : t295 = t299
        ·rw [if_pos c47] at H
         have c47b0 : (t295 == t299) = true := beq_iff_eq.mpr c47
         have c47b1 : (t295 != t299) = false := bne_eq_false_iff_eq.mpr c47
         clear c47
         (first | rw [c47b0] | (simp only [i64_w, i32_w]; rw [c47b0]) | skip)
         replace H := Option.bind_eq_some_iff.mp H
         obtain ⟨t327, A480, H⟩ := H
         replace H : (if t327 = true then (if t301 = t305 then (if (t308 == t315 && (t309 == t316 && (t310 == t317 && (t311 == t318 && (t312 == t319))))) = true then (if t313 = t320 then (if t322 = t324 then (if t323 = t325 then ((payment_Check.f kj7 l0).bind fun t328 => ((damsonref13_Check.f kj7 l0).bind fun t329 => (if t328 = t329 then ((payment_Same.f kj7 l0 l1).bind fun t330 => ((damsonref13_Same.f kj7 l0 l1).bind fun t331 => (damsonlaw13_PaymentDoes.j1 kj7 l0 y289 t292 t300 (t330 == t331)))) else (damsonlaw13_PaymentDoes.j1 kj7 l0 y289 t292 t300 false)))) else (damsonlaw13_PaymentDoes.j1 kj7 l0 y289 t292 t300 false)) else (damsonlaw13_PaymentDoes.j1 kj7 l0 y289 t292 t300 false)) else (damsonlaw13_PaymentDoes.j1 kj7 l0 y289 t292 t300 false)) else (damsonlaw13_PaymentDoes.j1 kj7 l0 y289 t292 t300 false)) else (damsonlaw13_PaymentDoes.j1 kj7 l0 y289 t292 t300 false)) else (damsonlaw13_PaymentDoes.j1 kj7 l0 y289 t292 t300 false)) = some r := H
         have A48 := Aside0.mk A480
         clear A480
         by_cases c49 : t327 = true
         ·subst c49
          have H1 : (if t301 = t305 then (if (t308 == t315 && (t309 == t316 && (t310 == t317 && (t311 == t318 && (t312 == t319))))) = true then (if t313 = t320 then (if t322 = t324 then (if t323 = t325 then ((payment_Check.f kj7 l0).bind fun t328 => ((damsonref13_Check.f kj7 l0).bind fun t329 => (if t328 = t329 then ((payment_Same.f kj7 l0 l1).bind fun t330 => ((damsonref13_Same.f kj7 l0 l1).bind fun t331 => (damsonlaw13_PaymentDoes.j1 kj7 l0 y289 t292 t300 (t330 == t331)))) else (damsonlaw13_PaymentDoes.j1 kj7 l0 y289 t292 t300 false)))) else (damsonlaw13_PaymentDoes.j1 kj7 l0 y289 t292 t300 false)) else (damsonlaw13_PaymentDoes.j1 kj7 l0 y289 t292 t300 false)) else (damsonlaw13_PaymentDoes.j1 kj7 l0 y289 t292 t300 false)) else (damsonlaw13_PaymentDoes.j1 kj7 l0 y289 t292 t300 false)) else (damsonlaw13_PaymentDoes.j1 kj7 l0 y289 t292 t300 false)) = some r := by rw [if_pos rfl] at H; exact H
          clear H
          have H := H1
          clear H1
          by_cases c50 : t301 = t305
          ·rw [if_pos c50] at H
           have c50b0 : (t301 == t305) = true := beq_iff_eq.mpr c50
           have c50b1 : (t301 != t305) = false := bne_eq_false_iff_eq.mpr c50
           clear c50
           by_cases c51 : (t308 == t315 && (t309 == t316 && (t310 == t317 && (t311 == t318 && (t312 == t319))))) = true
           ·rw [if_pos c51] at H
            have c51b0 : (t308 == t315 && (t309 == t316 && (t310 == t317 && (t311 == t318 && (t312 == t319))))) = true := c51
            (try (have c51b1 : decide (t308 = t315 && (t309 == t316 && (t310 == t317 && (t311 == t318 && (t312 == t319))))) = true := by simpa using c51))
            (try (have c51b2 : (t308 == t315 && (t309 == t316 && (t310 == t317 && (t311 == t318 && (t312 == t319))))) = true := by simpa using c51))
            clear c51
            by_cases c52 : t313 = t320
            ·rw [if_pos c52] at H
             have c52b0 : (t313 == t320) = true := beq_iff_eq.mpr c52
             have c52b1 : (t313 != t320) = false := bne_eq_false_iff_eq.mpr c52
             clear c52
             by_cases c53 : t322 = t324
             ·rw [if_pos c53] at H
              have c53b0 : (t322 == t324) = true := beq_iff_eq.mpr c53
              have c53b1 : (t322 != t324) = false := bne_eq_false_iff_eq.mpr c53
              clear c53
              by_cases c54 : t323 = t325
              ·rw [if_pos c54] at H
               have c54b0 : (t323 == t325) = true := beq_iff_eq.mpr c54
               have c54b1 : (t323 != t325) = false := bne_eq_false_iff_eq.mpr c54
               clear c54
               replace H := Option.bind_eq_some_iff.mp H
               obtain ⟨t328, A550, H⟩ := H
               replace H : ((damsonref13_Check.f kj7 l0).bind fun t329 => (if t328 = t329 then ((payment_Same.f kj7 l0 l1).bind fun t330 => ((damsonref13_Same.f kj7 l0 l1).bind fun t331 => (damsonlaw13_PaymentDoes.j1 kj7 l0 y289 t292 t300 (t330 == t331)))) else (damsonlaw13_PaymentDoes.j1 kj7 l0 y289 t292 t300 false))) = some r := H
               have A55 := Aside0.mk A550
               clear A550
               replace H := Option.bind_eq_some_iff.mp H
               obtain ⟨t329, A560, H⟩ := H
               replace H : (if t328 = t329 then ((payment_Same.f kj7 l0 l1).bind fun t330 => ((damsonref13_Same.f kj7 l0 l1).bind fun t331 => (damsonlaw13_PaymentDoes.j1 kj7 l0 y289 t292 t300 (t330 == t331)))) else (damsonlaw13_PaymentDoes.j1 kj7 l0 y289 t292 t300 false)) = some r := H
               have A56 := Aside0.mk A560
               clear A560
               by_cases c57 : t328 = t329
               ·rw [if_pos c57] at H
                have c57b0 : (t328 == t329) = true := beq_iff_eq.mpr c57
                have c57b1 : (t328 != t329) = false := bne_eq_false_iff_eq.mpr c57
                clear c57
                replace H := Option.bind_eq_some_iff.mp H
                obtain ⟨t330, A580, H⟩ := H
                replace H : ((damsonref13_Same.f kj7 l0 l1).bind fun t331 => (damsonlaw13_PaymentDoes.j1 kj7 l0 y289 t292 t300 (t330 == t331))) = some r := H
                have A58 := Aside0.mk A580
                clear A580
                replace H := Option.bind_eq_some_iff.mp H
                obtain ⟨t331, A590, H⟩ := H
                replace H : (damsonlaw13_PaymentDoes.j1 kj7 l0 y289 t292 t300 (t330 == t331)) = some r := H
                have A59 := Aside0.mk A590
                clear A590
                have H' := Aside0.mk H
                clear H
                obtain ⟨Ao60, co60, eo60⟩ := Kd.R_slice HO294.out
                subst eo60
                obtain ⟨Ao61, co61, eo61⟩ := Kd.R_slice HO298.out
                subst eo61
                go_wp2_with (first | ((with_reducible refine gate_callee (f := 80) rfl ?_); refine goesL_ (some 95) rfl rfl Try.func80 (by kernel_rfl) rfl #[.slice Ao60 t292.length co60, .slice Ao61 t296.length co61] rfl (by (try simp only [List.map_toArray, List.map_cons, List.map_nil]); first | done | rfl | (simp only [List.length_drop, List.length_take]; rfl)) ?_; (with_reducible refine (damsonref13_Same.calls kj7 _ _ t292 _ _ t296 true _ ?side1 ?side2 ?side3 ?side4 A45.out).mono ?_); (case side1 => exact Kd.CN (Kd.R_reads' HO294.out).2.2); (case side2 => exact (Kd.R_reads' HO294.out).2.1); (case side3 => exact Kd.CN (Kd.R_reads' HO298.out).2.2); (case side4 => exact (Kd.R_reads' HO298.out).2.1); rintro e w' ⟨rfl, ⟨nd, rfl⟩⟩; refine ⟨_, rfl, ?_⟩; obtain ⟨Ao62, co62, eo62⟩ := Kd.R_slice HO303.out; subst eo62; obtain ⟨Ao63, co63, eo63⟩ := Kd.R_slice HO307.out; subst eo63) | (go_at_call 80; (with_reducible refine (damsonref13_Same.calls kj7 _ _ t300 _ _ t304 true _ ?side1 ?side2 ?side3 ?side4 A48.out).mono ?_); (case side1 => exact Kd.CN (Kd.R_reads' HO303.out).2.2); (case side2 => exact (Kd.R_reads' HO303.out).2.1); (case side3 => exact Kd.CN (Kd.R_reads' HO307.out).2.2); (case side4 => exact (Kd.R_reads' HO307.out).2.1); rintro e w' ⟨rfl, ⟨nd, rfl⟩⟩; have hnb64 := NB314_285.out; have hnc64 := NB285_314.out; have hnb65 := NB314_321.out; have hnc65 := NB321_314.out; obtain ⟨hcz66_0, hcz66_1, hcz66_2, hcz66_3, hcz66_4, hfz66_0, hfz66_1, hfz66_2, hfz66_3, hfz66_4⟩ := cz5_ (w := w44) BK314.out; have hnb67 := NB321_285.out; have hnc67 := NB285_321.out; obtain ⟨hcz68_0, hcz68_1, hcz68_2, hcz68_3, hcz68_4, hfz68_0, hfz68_1, hfz68_2, hfz68_3, hfz68_4⟩ := cz5_ (w := w44) BK321.out) | (go_at_call 73; (with_reducible refine (payment_Check.calls kj7 _ _ l0 t328 _ ?side1 ?side2 A55.out).mono ?_); (case side1 => repeat (first | exact (Kd.C_below HR0.out (belN HB)) | (with_reducible refine Kd.C_alloc ?_ _) | (with_reducible refine Kd.C_drewN ?_ _) | (with_reducible refine Kd.C_drew ?_))); (case side2 => exact HC0.out); rintro e w69 ⟨rfl, hb⟩; have n0_ := Aside0.mk (Kd.R_below (Kd.RN HO291) hb); have n1_ := Aside0.mk (Kd.R_below (Kd.RN HO294) hb); have n2_ := Aside0.mk (Kd.R_below (Kd.RN HO298) hb); have n3_ := Aside0.mk (Kd.R_below (Kd.RN HO303) hb); have n4_ := Aside0.mk (Kd.R_below (Kd.RN HO307) hb); have n5_ := Aside0.mk (blk_below (g := gb285) (blkN BK285) hb); have n6_ := Aside0.mk (blk_below (g := gb314) (blkN BK314) hb); have n7_ := Aside0.mk (blk_below (g := gb321) (blkN BK321) hb); have n8_ := Aside0.mk (below_step (belN HB) hb); clear HO291; clear HO294; clear HO298; clear HO303; clear HO307; clear BK285; clear BK314; clear BK321; clear HB; have HO291 := n0_; have HO294 := n1_; have HO298 := n2_; have HO303 := n3_; have HO307 := n4_; have BK285 := n5_; have BK314 := n6_; have BK321 := n7_; have HB := n8_; clear n0_ n1_ n2_ n3_ n4_ n5_ n6_ n7_ n8_; (try clear hb); (try clear hb2); (try clear hk); (try clear hi)) | (go_at_call 81; (with_reducible refine (damsonref13_Check.calls kj7 _ _ l0 t329 _ ?side1 ?side2 A56.out).mono ?_); (case side1 => repeat (first | exact (Kd.C_below HR0.out HB.out) | (with_reducible refine Kd.C_alloc ?_ _) | (with_reducible refine Kd.C_drewN ?_ _) | (with_reducible refine Kd.C_drew ?_))); (case side2 => exact HC0.out); rintro e w70 ⟨rfl, hb⟩; have n0_ := Aside0.mk (Kd.R_below (Kd.RN HO291) hb); have n1_ := Aside0.mk (Kd.R_below (Kd.RN HO294) hb); have n2_ := Aside0.mk (Kd.R_below (Kd.RN HO298) hb); have n3_ := Aside0.mk (Kd.R_below (Kd.RN HO303) hb); have n4_ := Aside0.mk (Kd.R_below (Kd.RN HO307) hb); have n5_ := Aside0.mk (blk_below (g := gb285) (blkN BK285) hb); have n6_ := Aside0.mk (blk_below (g := gb314) (blkN BK314) hb); have n7_ := Aside0.mk (blk_below (g := gb321) (blkN BK321) hb); have n8_ := Aside0.mk (below_step (belN HB) hb); clear HO291; clear HO294; clear HO298; clear HO303; clear HO307; clear BK285; clear BK314; clear BK321; clear HB; have HO291 := n0_; have HO294 := n1_; have HO298 := n2_; have HO303 := n3_; have HO307 := n4_; have BK285 := n5_; have BK314 := n6_; have BK321 := n7_; have HB := n8_; clear n0_ n1_ n2_ n3_ n4_ n5_ n6_ n7_ n8_; (try clear hb); (try clear hb2); (try clear hk); (try clear hi)) | (go_at_call 74; (with_reducible refine (payment_Same.calls kj7 _ _ l0 _ _ l1 t330 _ ?side1 ?side2 ?side3 ?side4 A58.out).mono ?_); (case side1 => repeat (first | exact (Kd.C_below HR0.out HB.out) | (with_reducible refine Kd.C_alloc ?_ _) | (with_reducible refine Kd.C_drewN ?_ _) | (with_reducible refine Kd.C_drew ?_))); (case side2 => exact HC0.out); (case side3 => repeat (first | exact (Kd.C_below HR1.out HB.out) | (with_reducible refine Kd.C_alloc ?_ _) | (with_reducible refine Kd.C_drewN ?_ _) | (with_reducible refine Kd.C_drew ?_))); (case side4 => exact HC1.out); rintro e w' ⟨rfl, ⟨nd, rfl⟩⟩) | (go_at_call 80; (with_reducible refine (damsonref13_Same.calls kj7 _ _ l0 _ _ l1 t331 _ ?side1 ?side2 ?side3 ?side4 A59.out).mono ?_); (case side1 => repeat (first | exact (Kd.C_below HR0.out (belN HB)) | (with_reducible refine Kd.C_alloc ?_ _) | (with_reducible refine Kd.C_drewN ?_ _) | (with_reducible refine Kd.C_drew ?_))); (case side2 => exact HC0.out); (case side3 => repeat (first | exact (Kd.C_below HR1.out (belN HB)) | (with_reducible refine Kd.C_alloc ?_ _) | (with_reducible refine Kd.C_drewN ?_ _) | (with_reducible refine Kd.C_drew ?_))); (case side4 => exact HC1.out); rintro e w' ⟨rfl, ⟨nd, rfl⟩⟩))
                go_meet
                case rel => exact ⟨_, ((t330 == t331)), (by first | rfl | (simp; done) | (simp [*]; done)), H', ⟨by have := HJ7.out; first | omega | exact Nat.le_refl _⟩, ⟨by (with_reducible repeat (first | apply Kd.R_alloc | apply Kd.R_drewN | apply Kd.R_drew)); exact Kd.R_mono HO291.out (fun _ hk => ⟨hk.1, ⟨hk.2.2.1, ⟨hk.2.2.2.2.1, ⟨hk.2.2.2.2.2.1, hk.2.2.2.2.2.2⟩⟩⟩⟩)⟩, ⟨by (with_reducible repeat (first | apply Kd.R_alloc | apply Kd.R_drewN | apply Kd.R_drew)); exact Kd.R_mono HO294.out (fun _ hk => ⟨hk.1, ⟨hk.2.2.1, ⟨hk.2.2.2.2.1, ⟨hk.2.2.2.2.2.1, hk.2.2.2.2.2.2⟩⟩⟩⟩)⟩, ⟨by (with_reducible repeat (first | apply Kd.R_alloc | apply Kd.R_drewN | apply Kd.R_drew)); exact Kd.R_mono HO303.out (fun _ hk => ⟨hk.1, ⟨hk.2.1, ⟨hk.2.2.2.2.1, ⟨hk.2.2.2.2.2.1, hk.2.2.2.2.2.2⟩⟩⟩⟩)⟩, ⟨by (with_reducible repeat (first | refine blk_drewN ?_ _ | refine blk_drew ?_ | refine blk_alloc ?_ _)); exact BK285.out⟩, ⟨by (with_reducible repeat (first | refine blk_drewN ?_ _ | refine blk_drew ?_ | refine blk_alloc ?_ _)); exact BK314.out⟩, ⟨by (with_reducible repeat (first | refine blk_drewN ?_ _ | refine blk_drew ?_ | refine blk_alloc ?_ _)); exact BK321.out⟩, ⟨by repeat (first | (with_reducible first | exact HB.out | apply below_alloc | apply pw_below_drewN | apply below_drew1 | refine below_set ?_ GE285.out | refine below_set ?_ GE314.out | refine below_set ?_ GE321.out) | exact HB.out)⟩⟩
               ·rw [if_neg c57] at H
                have c57b0 : (t328 == t329) = false := beq_eq_false_iff_ne.mpr c57
                have c57b1 : (t328 != t329) = true := bne_iff_ne.mpr c57
                have H' := Aside0.mk H
                clear H
                obtain ⟨Ao71, co71, eo71⟩ := Kd.R_slice HO294.out
                subst eo71
                obtain ⟨Ao72, co72, eo72⟩ := Kd.R_slice HO298.out
                subst eo72
                go_wp2_with (first | ((with_reducible refine gate_callee (f := 80) rfl ?_); refine goesL_ (some 95) rfl rfl Try.func80 (by kernel_rfl) rfl #[.slice Ao71 t292.length co71, .slice Ao72 t296.length co72] rfl (by (try simp only [List.map_toArray, List.map_cons, List.map_nil]); first | done | rfl | (simp only [List.length_drop, List.length_take]; rfl)) ?_; (with_reducible refine (damsonref13_Same.calls kj7 _ _ t292 _ _ t296 true _ ?side1 ?side2 ?side3 ?side4 A45.out).mono ?_); (case side1 => exact Kd.CN (Kd.R_reads' HO294.out).2.2); (case side2 => exact (Kd.R_reads' HO294.out).2.1); (case side3 => exact Kd.CN (Kd.R_reads' HO298.out).2.2); (case side4 => exact (Kd.R_reads' HO298.out).2.1); rintro e w' ⟨rfl, ⟨nd, rfl⟩⟩; refine ⟨_, rfl, ?_⟩; obtain ⟨Ao73, co73, eo73⟩ := Kd.R_slice HO303.out; subst eo73; obtain ⟨Ao74, co74, eo74⟩ := Kd.R_slice HO307.out; subst eo74) | (go_at_call 80; (with_reducible refine (damsonref13_Same.calls kj7 _ _ t300 _ _ t304 true _ ?side1 ?side2 ?side3 ?side4 A48.out).mono ?_); (case side1 => exact Kd.CN (Kd.R_reads' HO303.out).2.2); (case side2 => exact (Kd.R_reads' HO303.out).2.1); (case side3 => exact Kd.CN (Kd.R_reads' HO307.out).2.2); (case side4 => exact (Kd.R_reads' HO307.out).2.1); rintro e w' ⟨rfl, ⟨nd, rfl⟩⟩; have hnb75 := NB314_285.out; have hnc75 := NB285_314.out; have hnb76 := NB314_321.out; have hnc76 := NB321_314.out; obtain ⟨hcz77_0, hcz77_1, hcz77_2, hcz77_3, hcz77_4, hfz77_0, hfz77_1, hfz77_2, hfz77_3, hfz77_4⟩ := cz5_ (w := w44) BK314.out; have hnb78 := NB321_285.out; have hnc78 := NB285_321.out; obtain ⟨hcz79_0, hcz79_1, hcz79_2, hcz79_3, hcz79_4, hfz79_0, hfz79_1, hfz79_2, hfz79_3, hfz79_4⟩ := cz5_ (w := w44) BK321.out) | (go_at_call 73; (with_reducible refine (payment_Check.calls kj7 _ _ l0 t328 _ ?side1 ?side2 A55.out).mono ?_); (case side1 => repeat (first | exact (Kd.C_below HR0.out (belN HB)) | (with_reducible refine Kd.C_alloc ?_ _) | (with_reducible refine Kd.C_drewN ?_ _) | (with_reducible refine Kd.C_drew ?_))); (case side2 => exact HC0.out); rintro e w80 ⟨rfl, hb⟩; have n0_ := Aside0.mk (Kd.R_below (Kd.RN HO291) hb); have n1_ := Aside0.mk (Kd.R_below (Kd.RN HO294) hb); have n2_ := Aside0.mk (Kd.R_below (Kd.RN HO298) hb); have n3_ := Aside0.mk (Kd.R_below (Kd.RN HO303) hb); have n4_ := Aside0.mk (Kd.R_below (Kd.RN HO307) hb); have n5_ := Aside0.mk (blk_below (g := gb285) (blkN BK285) hb); have n6_ := Aside0.mk (blk_below (g := gb314) (blkN BK314) hb); have n7_ := Aside0.mk (blk_below (g := gb321) (blkN BK321) hb); have n8_ := Aside0.mk (below_step (belN HB) hb); clear HO291; clear HO294; clear HO298; clear HO303; clear HO307; clear BK285; clear BK314; clear BK321; clear HB; have HO291 := n0_; have HO294 := n1_; have HO298 := n2_; have HO303 := n3_; have HO307 := n4_; have BK285 := n5_; have BK314 := n6_; have BK321 := n7_; have HB := n8_; clear n0_ n1_ n2_ n3_ n4_ n5_ n6_ n7_ n8_; (try clear hb); (try clear hb2); (try clear hk); (try clear hi)) | (go_at_call 81; (with_reducible refine (damsonref13_Check.calls kj7 _ _ l0 t329 _ ?side1 ?side2 A56.out).mono ?_); (case side1 => repeat (first | exact (Kd.C_below HR0.out HB.out) | (with_reducible refine Kd.C_alloc ?_ _) | (with_reducible refine Kd.C_drewN ?_ _) | (with_reducible refine Kd.C_drew ?_))); (case side2 => exact HC0.out); rintro e w81 ⟨rfl, hb⟩; have n0_ := Aside0.mk (Kd.R_below (Kd.RN HO291) hb); have n1_ := Aside0.mk (Kd.R_below (Kd.RN HO294) hb); have n2_ := Aside0.mk (Kd.R_below (Kd.RN HO298) hb); have n3_ := Aside0.mk (Kd.R_below (Kd.RN HO303) hb); have n4_ := Aside0.mk (Kd.R_below (Kd.RN HO307) hb); have n5_ := Aside0.mk (blk_below (g := gb285) (blkN BK285) hb); have n6_ := Aside0.mk (blk_below (g := gb314) (blkN BK314) hb); have n7_ := Aside0.mk (blk_below (g := gb321) (blkN BK321) hb); have n8_ := Aside0.mk (below_step (belN HB) hb); clear HO291; clear HO294; clear HO298; clear HO303; clear HO307; clear BK285; clear BK314; clear BK321; clear HB; have HO291 := n0_; have HO294 := n1_; have HO298 := n2_; have HO303 := n3_; have HO307 := n4_; have BK285 := n5_; have BK314 := n6_; have BK321 := n7_; have HB := n8_; clear n0_ n1_ n2_ n3_ n4_ n5_ n6_ n7_ n8_; (try clear hb); (try clear hb2); (try clear hk); (try clear hi)))
                go_meet
                case rel => exact ⟨_, (false), (by first | rfl | (simp; done) | (simp [*]; done)), H', ⟨by have := HJ7.out; first | omega | exact Nat.le_refl _⟩, ⟨by (with_reducible repeat (first | apply Kd.R_alloc | apply Kd.R_drewN | apply Kd.R_drew)); exact Kd.R_mono HO291.out (fun _ hk => ⟨hk.1, ⟨hk.2.2.1, ⟨hk.2.2.2.2.1, ⟨hk.2.2.2.2.2.1, hk.2.2.2.2.2.2⟩⟩⟩⟩)⟩, ⟨by (with_reducible repeat (first | apply Kd.R_alloc | apply Kd.R_drewN | apply Kd.R_drew)); exact Kd.R_mono HO294.out (fun _ hk => ⟨hk.1, ⟨hk.2.2.1, ⟨hk.2.2.2.2.1, ⟨hk.2.2.2.2.2.1, hk.2.2.2.2.2.2⟩⟩⟩⟩)⟩, ⟨by (with_reducible repeat (first | apply Kd.R_alloc | apply Kd.R_drewN | apply Kd.R_drew)); exact Kd.R_mono HO303.out (fun _ hk => ⟨hk.1, ⟨hk.2.1, ⟨hk.2.2.2.2.1, ⟨hk.2.2.2.2.2.1, hk.2.2.2.2.2.2⟩⟩⟩⟩)⟩, ⟨by (with_reducible repeat (first | refine blk_drewN ?_ _ | refine blk_drew ?_ | refine blk_alloc ?_ _)); exact BK285.out⟩, ⟨by (with_reducible repeat (first | refine blk_drewN ?_ _ | refine blk_drew ?_ | refine blk_alloc ?_ _)); exact BK314.out⟩, ⟨by (with_reducible repeat (first | refine blk_drewN ?_ _ | refine blk_drew ?_ | refine blk_alloc ?_ _)); exact BK321.out⟩, ⟨by repeat (first | (with_reducible first | exact HB.out | apply below_alloc | apply pw_below_drewN | apply below_drew1 | refine below_set ?_ GE285.out | refine below_set ?_ GE314.out | refine below_set ?_ GE321.out) | exact HB.out)⟩⟩
              ·rw [if_neg c54] at H
               have c54b0 : (t323 == t325) = false := beq_eq_false_iff_ne.mpr c54
               have c54b1 : (t323 != t325) = true := bne_iff_ne.mpr c54
               have H' := Aside0.mk H
               clear H
               obtain ⟨Ao82, co82, eo82⟩ := Kd.R_slice HO294.out
               subst eo82
               obtain ⟨Ao83, co83, eo83⟩ := Kd.R_slice HO298.out
               subst eo83
               go_wp2_with (first | ((with_reducible refine gate_callee (f := 80) rfl ?_); refine goesL_ (some 95) rfl rfl Try.func80 (by kernel_rfl) rfl #[.slice Ao82 t292.length co82, .slice Ao83 t296.length co83] rfl (by (try simp only [List.map_toArray, List.map_cons, List.map_nil]); first | done | rfl | (simp only [List.length_drop, List.length_take]; rfl)) ?_; (with_reducible refine (damsonref13_Same.calls kj7 _ _ t292 _ _ t296 true _ ?side1 ?side2 ?side3 ?side4 A45.out).mono ?_); (case side1 => exact Kd.CN (Kd.R_reads' HO294.out).2.2); (case side2 => exact (Kd.R_reads' HO294.out).2.1); (case side3 => exact Kd.CN (Kd.R_reads' HO298.out).2.2); (case side4 => exact (Kd.R_reads' HO298.out).2.1); rintro e w' ⟨rfl, ⟨nd, rfl⟩⟩; refine ⟨_, rfl, ?_⟩; obtain ⟨Ao84, co84, eo84⟩ := Kd.R_slice HO303.out; subst eo84; obtain ⟨Ao85, co85, eo85⟩ := Kd.R_slice HO307.out; subst eo85) | (go_at_call 80; (with_reducible refine (damsonref13_Same.calls kj7 _ _ t300 _ _ t304 true _ ?side1 ?side2 ?side3 ?side4 A48.out).mono ?_); (case side1 => exact Kd.CN (Kd.R_reads' HO303.out).2.2); (case side2 => exact (Kd.R_reads' HO303.out).2.1); (case side3 => exact Kd.CN (Kd.R_reads' HO307.out).2.2); (case side4 => exact (Kd.R_reads' HO307.out).2.1); rintro e w' ⟨rfl, ⟨nd, rfl⟩⟩; have hnb86 := NB314_285.out; have hnc86 := NB285_314.out; have hnb87 := NB314_321.out; have hnc87 := NB321_314.out; obtain ⟨hcz88_0, hcz88_1, hcz88_2, hcz88_3, hcz88_4, hfz88_0, hfz88_1, hfz88_2, hfz88_3, hfz88_4⟩ := cz5_ (w := w44) BK314.out; have hnb89 := NB321_285.out; have hnc89 := NB285_321.out; obtain ⟨hcz90_0, hcz90_1, hcz90_2, hcz90_3, hcz90_4, hfz90_0, hfz90_1, hfz90_2, hfz90_3, hfz90_4⟩ := cz5_ (w := w44) BK321.out))
               go_meet
               case rel => exact ⟨_, (false), (by first | rfl | (simp; done) | (simp [*]; done)), H', ⟨by have := HJ7.out; first | omega | exact Nat.le_refl _⟩, ⟨by (with_reducible repeat (first | apply Kd.R_alloc | apply Kd.R_drewN | apply Kd.R_drew)); exact Kd.R_mono HO291.out (fun _ hk => ⟨hk.1, ⟨hk.2.2.1, ⟨hk.2.2.2.2.1, ⟨hk.2.2.2.2.2.1, hk.2.2.2.2.2.2⟩⟩⟩⟩)⟩, ⟨by (with_reducible repeat (first | apply Kd.R_alloc | apply Kd.R_drewN | apply Kd.R_drew)); exact Kd.R_mono HO294.out (fun _ hk => ⟨hk.1, ⟨hk.2.2.1, ⟨hk.2.2.2.2.1, ⟨hk.2.2.2.2.2.1, hk.2.2.2.2.2.2⟩⟩⟩⟩)⟩, ⟨by (with_reducible repeat (first | apply Kd.R_alloc | apply Kd.R_drewN | apply Kd.R_drew)); exact Kd.R_mono HO303.out (fun _ hk => ⟨hk.1, ⟨hk.2.1, ⟨hk.2.2.2.2.1, ⟨hk.2.2.2.2.2.1, hk.2.2.2.2.2.2⟩⟩⟩⟩)⟩, ⟨by (with_reducible repeat (first | refine blk_drewN ?_ _ | refine blk_drew ?_ | refine blk_alloc ?_ _)); exact BK285.out⟩, ⟨by (with_reducible repeat (first | refine blk_drewN ?_ _ | refine blk_drew ?_ | refine blk_alloc ?_ _)); exact BK314.out⟩, ⟨by (with_reducible repeat (first | refine blk_drewN ?_ _ | refine blk_drew ?_ | refine blk_alloc ?_ _)); exact BK321.out⟩, ⟨by repeat (first | (with_reducible first | exact HB.out | apply below_alloc | apply pw_below_drewN | apply below_drew1 | refine below_set ?_ GE285.out | refine below_set ?_ GE314.out | refine below_set ?_ GE321.out) | exact HB.out)⟩⟩
             ·rw [if_neg c53] at H
              have c53b0 : (t322 == t324) = false := beq_eq_false_iff_ne.mpr c53
              have c53b1 : (t322 != t324) = true := bne_iff_ne.mpr c53
              have H' := Aside0.mk H
              clear H
              obtain ⟨Ao91, co91, eo91⟩ := Kd.R_slice HO294.out
              subst eo91
              obtain ⟨Ao92, co92, eo92⟩ := Kd.R_slice HO298.out
              subst eo92
              go_wp2_with (first | ((with_reducible refine gate_callee (f := 80) rfl ?_); refine goesL_ (some 95) rfl rfl Try.func80 (by kernel_rfl) rfl #[.slice Ao91 t292.length co91, .slice Ao92 t296.length co92] rfl (by (try simp only [List.map_toArray, List.map_cons, List.map_nil]); first | done | rfl | (simp only [List.length_drop, List.length_take]; rfl)) ?_; (with_reducible refine (damsonref13_Same.calls kj7 _ _ t292 _ _ t296 true _ ?side1 ?side2 ?side3 ?side4 A45.out).mono ?_); (case side1 => exact Kd.CN (Kd.R_reads' HO294.out).2.2); (case side2 => exact (Kd.R_reads' HO294.out).2.1); (case side3 => exact Kd.CN (Kd.R_reads' HO298.out).2.2); (case side4 => exact (Kd.R_reads' HO298.out).2.1); rintro e w' ⟨rfl, ⟨nd, rfl⟩⟩; refine ⟨_, rfl, ?_⟩; obtain ⟨Ao93, co93, eo93⟩ := Kd.R_slice HO303.out; subst eo93; obtain ⟨Ao94, co94, eo94⟩ := Kd.R_slice HO307.out; subst eo94) | (go_at_call 80; (with_reducible refine (damsonref13_Same.calls kj7 _ _ t300 _ _ t304 true _ ?side1 ?side2 ?side3 ?side4 A48.out).mono ?_); (case side1 => exact Kd.CN (Kd.R_reads' HO303.out).2.2); (case side2 => exact (Kd.R_reads' HO303.out).2.1); (case side3 => exact Kd.CN (Kd.R_reads' HO307.out).2.2); (case side4 => exact (Kd.R_reads' HO307.out).2.1); rintro e w' ⟨rfl, ⟨nd, rfl⟩⟩; have hnb95 := NB314_285.out; have hnc95 := NB285_314.out; have hnb96 := NB314_321.out; have hnc96 := NB321_314.out; obtain ⟨hcz97_0, hcz97_1, hcz97_2, hcz97_3, hcz97_4, hfz97_0, hfz97_1, hfz97_2, hfz97_3, hfz97_4⟩ := cz5_ (w := w44) BK314.out; have hnb98 := NB321_285.out; have hnc98 := NB285_321.out; obtain ⟨hcz99_0, hcz99_1, hcz99_2, hcz99_3, hcz99_4, hfz99_0, hfz99_1, hfz99_2, hfz99_3, hfz99_4⟩ := cz5_ (w := w44) BK321.out))
              go_meet
              case rel => exact ⟨_, (false), (by first | rfl | (simp; done) | (simp [*]; done)), H', ⟨by have := HJ7.out; first | omega | exact Nat.le_refl _⟩, ⟨by (with_reducible repeat (first | apply Kd.R_alloc | apply Kd.R_drewN | apply Kd.R_drew)); exact Kd.R_mono HO291.out (fun _ hk => ⟨hk.1, ⟨hk.2.2.1, ⟨hk.2.2.2.2.1, ⟨hk.2.2.2.2.2.1, hk.2.2.2.2.2.2⟩⟩⟩⟩)⟩, ⟨by (with_reducible repeat (first | apply Kd.R_alloc | apply Kd.R_drewN | apply Kd.R_drew)); exact Kd.R_mono HO294.out (fun _ hk => ⟨hk.1, ⟨hk.2.2.1, ⟨hk.2.2.2.2.1, ⟨hk.2.2.2.2.2.1, hk.2.2.2.2.2.2⟩⟩⟩⟩)⟩, ⟨by (with_reducible repeat (first | apply Kd.R_alloc | apply Kd.R_drewN | apply Kd.R_drew)); exact Kd.R_mono HO303.out (fun _ hk => ⟨hk.1, ⟨hk.2.1, ⟨hk.2.2.2.2.1, ⟨hk.2.2.2.2.2.1, hk.2.2.2.2.2.2⟩⟩⟩⟩)⟩, ⟨by (with_reducible repeat (first | refine blk_drewN ?_ _ | refine blk_drew ?_ | refine blk_alloc ?_ _)); exact BK285.out⟩, ⟨by (with_reducible repeat (first | refine blk_drewN ?_ _ | refine blk_drew ?_ | refine blk_alloc ?_ _)); exact BK314.out⟩, ⟨by (with_reducible repeat (first | refine blk_drewN ?_ _ | refine blk_drew ?_ | refine blk_alloc ?_ _)); exact BK321.out⟩, ⟨by repeat (first | (with_reducible first | exact HB.out | apply below_alloc | apply pw_below_drewN | apply below_drew1 | refine below_set ?_ GE285.out | refine below_set ?_ GE314.out | refine below_set ?_ GE321.out) | exact HB.out)⟩⟩
            ·rw [if_neg c52] at H
             have c52b0 : (t313 == t320) = false := beq_eq_false_iff_ne.mpr c52
             have c52b1 : (t313 != t320) = true := bne_iff_ne.mpr c52
             have H' := Aside0.mk H
             clear H
             obtain ⟨Ao100, co100, eo100⟩ := Kd.R_slice HO294.out
             subst eo100
             obtain ⟨Ao101, co101, eo101⟩ := Kd.R_slice HO298.out
             subst eo101
             go_wp2_with (first | ((with_reducible refine gate_callee (f := 80) rfl ?_); refine goesL_ (some 95) rfl rfl Try.func80 (by kernel_rfl) rfl #[.slice Ao100 t292.length co100, .slice Ao101 t296.length co101] rfl (by (try simp only [List.map_toArray, List.map_cons, List.map_nil]); first | done | rfl | (simp only [List.length_drop, List.length_take]; rfl)) ?_; (with_reducible refine (damsonref13_Same.calls kj7 _ _ t292 _ _ t296 true _ ?side1 ?side2 ?side3 ?side4 A45.out).mono ?_); (case side1 => exact Kd.CN (Kd.R_reads' HO294.out).2.2); (case side2 => exact (Kd.R_reads' HO294.out).2.1); (case side3 => exact Kd.CN (Kd.R_reads' HO298.out).2.2); (case side4 => exact (Kd.R_reads' HO298.out).2.1); rintro e w' ⟨rfl, ⟨nd, rfl⟩⟩; refine ⟨_, rfl, ?_⟩; obtain ⟨Ao102, co102, eo102⟩ := Kd.R_slice HO303.out; subst eo102; obtain ⟨Ao103, co103, eo103⟩ := Kd.R_slice HO307.out; subst eo103) | (go_at_call 80; (with_reducible refine (damsonref13_Same.calls kj7 _ _ t300 _ _ t304 true _ ?side1 ?side2 ?side3 ?side4 A48.out).mono ?_); (case side1 => exact Kd.CN (Kd.R_reads' HO303.out).2.2); (case side2 => exact (Kd.R_reads' HO303.out).2.1); (case side3 => exact Kd.CN (Kd.R_reads' HO307.out).2.2); (case side4 => exact (Kd.R_reads' HO307.out).2.1); rintro e w' ⟨rfl, ⟨nd, rfl⟩⟩; have hnb104 := NB314_285.out; have hnc104 := NB285_314.out; have hnb105 := NB314_321.out; have hnc105 := NB321_314.out; obtain ⟨hcz106_0, hcz106_1, hcz106_2, hcz106_3, hcz106_4, hfz106_0, hfz106_1, hfz106_2, hfz106_3, hfz106_4⟩ := cz5_ (w := w44) BK314.out; have hnb107 := NB321_285.out; have hnc107 := NB285_321.out; obtain ⟨hcz108_0, hcz108_1, hcz108_2, hcz108_3, hcz108_4, hfz108_0, hfz108_1, hfz108_2, hfz108_3, hfz108_4⟩ := cz5_ (w := w44) BK321.out))
             go_meet
             case rel => exact ⟨_, (false), (by first | rfl | (simp; done) | (simp [*]; done)), H', ⟨by have := HJ7.out; first | omega | exact Nat.le_refl _⟩, ⟨by (with_reducible repeat (first | apply Kd.R_alloc | apply Kd.R_drewN | apply Kd.R_drew)); exact Kd.R_mono HO291.out (fun _ hk => ⟨hk.1, ⟨hk.2.2.1, ⟨hk.2.2.2.2.1, ⟨hk.2.2.2.2.2.1, hk.2.2.2.2.2.2⟩⟩⟩⟩)⟩, ⟨by (with_reducible repeat (first | apply Kd.R_alloc | apply Kd.R_drewN | apply Kd.R_drew)); exact Kd.R_mono HO294.out (fun _ hk => ⟨hk.1, ⟨hk.2.2.1, ⟨hk.2.2.2.2.1, ⟨hk.2.2.2.2.2.1, hk.2.2.2.2.2.2⟩⟩⟩⟩)⟩, ⟨by (with_reducible repeat (first | apply Kd.R_alloc | apply Kd.R_drewN | apply Kd.R_drew)); exact Kd.R_mono HO303.out (fun _ hk => ⟨hk.1, ⟨hk.2.1, ⟨hk.2.2.2.2.1, ⟨hk.2.2.2.2.2.1, hk.2.2.2.2.2.2⟩⟩⟩⟩)⟩, ⟨by (with_reducible repeat (first | refine blk_drewN ?_ _ | refine blk_drew ?_ | refine blk_alloc ?_ _)); exact BK285.out⟩, ⟨by (with_reducible repeat (first | refine blk_drewN ?_ _ | refine blk_drew ?_ | refine blk_alloc ?_ _)); exact BK314.out⟩, ⟨by (with_reducible repeat (first | refine blk_drewN ?_ _ | refine blk_drew ?_ | refine blk_alloc ?_ _)); exact BK321.out⟩, ⟨by repeat (first | (with_reducible first | exact HB.out | apply below_alloc | apply pw_below_drewN | apply below_drew1 | refine below_set ?_ GE285.out | refine below_set ?_ GE314.out | refine below_set ?_ GE321.out) | exact HB.out)⟩⟩
           ·rw [if_neg c51] at H
            have c51b0 : (t308 == t315 && (t309 == t316 && (t310 == t317 && (t311 == t318 && (t312 == t319))))) = false := by simpa using c51
            (try (have c51b1 : decide (t308 = t315 && (t309 == t316 && (t310 == t317 && (t311 == t318 && (t312 == t319))))) = false := by simpa using c51))
            (try (have c51b2 : (t308 == t315 && (t309 == t316 && (t310 == t317 && (t311 == t318 && (t312 == t319))))) = false := by simpa using c51))
            (try (have c51b3 : ¬ (t308 = t315 && (t309 == t316 && (t310 == t317 && (t311 == t318 && (t312 == t319))))) := by simpa using c51))
            clear c51
            have H' := Aside0.mk H
            clear H
            obtain ⟨Ao109, co109, eo109⟩ := Kd.R_slice HO294.out
            subst eo109
            obtain ⟨Ao110, co110, eo110⟩ := Kd.R_slice HO298.out
            subst eo110
            go_wp2_with (first | ((with_reducible refine gate_callee (f := 80) rfl ?_); refine goesL_ (some 95) rfl rfl Try.func80 (by kernel_rfl) rfl #[.slice Ao109 t292.length co109, .slice Ao110 t296.length co110] rfl (by (try simp only [List.map_toArray, List.map_cons, List.map_nil]); first | done | rfl | (simp only [List.length_drop, List.length_take]; rfl)) ?_; (with_reducible refine (damsonref13_Same.calls kj7 _ _ t292 _ _ t296 true _ ?side1 ?side2 ?side3 ?side4 A45.out).mono ?_); (case side1 => exact Kd.CN (Kd.R_reads' HO294.out).2.2); (case side2 => exact (Kd.R_reads' HO294.out).2.1); (case side3 => exact Kd.CN (Kd.R_reads' HO298.out).2.2); (case side4 => exact (Kd.R_reads' HO298.out).2.1); rintro e w' ⟨rfl, ⟨nd, rfl⟩⟩; refine ⟨_, rfl, ?_⟩; obtain ⟨Ao111, co111, eo111⟩ := Kd.R_slice HO303.out; subst eo111; obtain ⟨Ao112, co112, eo112⟩ := Kd.R_slice HO307.out; subst eo112) | (go_at_call 80; (with_reducible refine (damsonref13_Same.calls kj7 _ _ t300 _ _ t304 true _ ?side1 ?side2 ?side3 ?side4 A48.out).mono ?_); (case side1 => exact Kd.CN (Kd.R_reads' HO303.out).2.2); (case side2 => exact (Kd.R_reads' HO303.out).2.1); (case side3 => exact Kd.CN (Kd.R_reads' HO307.out).2.2); (case side4 => exact (Kd.R_reads' HO307.out).2.1); rintro e w' ⟨rfl, ⟨nd, rfl⟩⟩; have hnb113 := NB314_285.out; have hnc113 := NB285_314.out; have hnb114 := NB314_321.out; have hnc114 := NB321_314.out; obtain ⟨hcz115_0, hcz115_1, hcz115_2, hcz115_3, hcz115_4, hfz115_0, hfz115_1, hfz115_2, hfz115_3, hfz115_4⟩ := cz5_ (w := w44) BK314.out; have hnb116 := NB321_285.out; have hnc116 := NB285_321.out; obtain ⟨hcz117_0, hcz117_1, hcz117_2, hcz117_3, hcz117_4, hfz117_0, hfz117_1, hfz117_2, hfz117_3, hfz117_4⟩ := cz5_ (w := w44) BK321.out))
            go_meet
            case rel => exact ⟨_, (false), (by first | rfl | (simp; done) | (simp [*]; done)), H', ⟨by have := HJ7.out; first | omega | exact Nat.le_refl _⟩, ⟨by (with_reducible repeat (first | apply Kd.R_alloc | apply Kd.R_drewN | apply Kd.R_drew)); exact Kd.R_mono HO291.out (fun _ hk => ⟨hk.1, ⟨hk.2.2.1, ⟨hk.2.2.2.2.1, ⟨hk.2.2.2.2.2.1, hk.2.2.2.2.2.2⟩⟩⟩⟩)⟩, ⟨by (with_reducible repeat (first | apply Kd.R_alloc | apply Kd.R_drewN | apply Kd.R_drew)); exact Kd.R_mono HO294.out (fun _ hk => ⟨hk.1, ⟨hk.2.2.1, ⟨hk.2.2.2.2.1, ⟨hk.2.2.2.2.2.1, hk.2.2.2.2.2.2⟩⟩⟩⟩)⟩, ⟨by (with_reducible repeat (first | apply Kd.R_alloc | apply Kd.R_drewN | apply Kd.R_drew)); exact Kd.R_mono HO303.out (fun _ hk => ⟨hk.1, ⟨hk.2.1, ⟨hk.2.2.2.2.1, ⟨hk.2.2.2.2.2.1, hk.2.2.2.2.2.2⟩⟩⟩⟩)⟩, ⟨by (with_reducible repeat (first | refine blk_drewN ?_ _ | refine blk_drew ?_ | refine blk_alloc ?_ _)); exact BK285.out⟩, ⟨by (with_reducible repeat (first | refine blk_drewN ?_ _ | refine blk_drew ?_ | refine blk_alloc ?_ _)); exact BK314.out⟩, ⟨by (with_reducible repeat (first | refine blk_drewN ?_ _ | refine blk_drew ?_ | refine blk_alloc ?_ _)); exact BK321.out⟩, ⟨by repeat (first | (with_reducible first | exact HB.out | apply below_alloc | apply pw_below_drewN | apply below_drew1 | refine below_set ?_ GE285.out | refine below_set ?_ GE314.out | refine below_set ?_ GE321.out) | exact HB.out)⟩⟩
          ·rw [if_neg c50] at H
           have c50b0 : (t301 == t305) = false := beq_eq_false_iff_ne.mpr c50
           have c50b1 : (t301 != t305) = true := bne_iff_ne.mpr c50
           have H' := Aside0.mk H
           clear H
           obtain ⟨Ao118, co118, eo118⟩ := Kd.R_slice HO294.out
           subst eo118
           obtain ⟨Ao119, co119, eo119⟩ := Kd.R_slice HO298.out
           subst eo119
           go_wp2_with (first | ((with_reducible refine gate_callee (f := 80) rfl ?_); refine goesL_ (some 95) rfl rfl Try.func80 (by kernel_rfl) rfl #[.slice Ao118 t292.length co118, .slice Ao119 t296.length co119] rfl (by (try simp only [List.map_toArray, List.map_cons, List.map_nil]); first | done | rfl | (simp only [List.length_drop, List.length_take]; rfl)) ?_; (with_reducible refine (damsonref13_Same.calls kj7 _ _ t292 _ _ t296 true _ ?side1 ?side2 ?side3 ?side4 A45.out).mono ?_); (case side1 => exact Kd.CN (Kd.R_reads' HO294.out).2.2); (case side2 => exact (Kd.R_reads' HO294.out).2.1); (case side3 => exact Kd.CN (Kd.R_reads' HO298.out).2.2); (case side4 => exact (Kd.R_reads' HO298.out).2.1); rintro e w' ⟨rfl, ⟨nd, rfl⟩⟩; refine ⟨_, rfl, ?_⟩; obtain ⟨Ao120, co120, eo120⟩ := Kd.R_slice HO303.out; subst eo120; obtain ⟨Ao121, co121, eo121⟩ := Kd.R_slice HO307.out; subst eo121) | (go_at_call 80; (with_reducible refine (damsonref13_Same.calls kj7 _ _ t300 _ _ t304 true _ ?side1 ?side2 ?side3 ?side4 A48.out).mono ?_); (case side1 => exact Kd.CN (Kd.R_reads' HO303.out).2.2); (case side2 => exact (Kd.R_reads' HO303.out).2.1); (case side3 => exact Kd.CN (Kd.R_reads' HO307.out).2.2); (case side4 => exact (Kd.R_reads' HO307.out).2.1); rintro e w' ⟨rfl, ⟨nd, rfl⟩⟩))
           go_meet
           case rel => exact ⟨_, (false), (by first | rfl | (simp; done) | (simp [*]; done)), H', ⟨by have := HJ7.out; first | omega | exact Nat.le_refl _⟩, ⟨by (with_reducible repeat (first | apply Kd.R_alloc | apply Kd.R_drewN | apply Kd.R_drew)); exact Kd.R_mono HO291.out (fun _ hk => ⟨hk.1, ⟨hk.2.2.1, ⟨hk.2.2.2.2.1, ⟨hk.2.2.2.2.2.1, hk.2.2.2.2.2.2⟩⟩⟩⟩)⟩, ⟨by (with_reducible repeat (first | apply Kd.R_alloc | apply Kd.R_drewN | apply Kd.R_drew)); exact Kd.R_mono HO294.out (fun _ hk => ⟨hk.1, ⟨hk.2.2.1, ⟨hk.2.2.2.2.1, ⟨hk.2.2.2.2.2.1, hk.2.2.2.2.2.2⟩⟩⟩⟩)⟩, ⟨by (with_reducible repeat (first | apply Kd.R_alloc | apply Kd.R_drewN | apply Kd.R_drew)); exact Kd.R_mono HO303.out (fun _ hk => ⟨hk.1, ⟨hk.2.1, ⟨hk.2.2.2.2.1, ⟨hk.2.2.2.2.2.1, hk.2.2.2.2.2.2⟩⟩⟩⟩)⟩, ⟨by (with_reducible repeat (first | refine blk_drewN ?_ _ | refine blk_drew ?_ | refine blk_alloc ?_ _)); exact BK285.out⟩, ⟨by (with_reducible repeat (first | refine blk_drewN ?_ _ | refine blk_drew ?_ | refine blk_alloc ?_ _)); exact BK314.out⟩, ⟨by (with_reducible repeat (first | refine blk_drewN ?_ _ | refine blk_drew ?_ | refine blk_alloc ?_ _)); exact BK321.out⟩, ⟨by repeat (first | (with_reducible first | exact HB.out | apply below_alloc | apply pw_below_drewN | apply below_drew1 | refine below_set ?_ GE285.out | refine below_set ?_ GE314.out | refine below_set ?_ GE321.out) | exact HB.out)⟩⟩
         ·replace c49 := Bool.eq_false_iff.mpr c49
          subst c49
          have H1 : (damsonlaw13_PaymentDoes.j1 kj7 l0 y289 t292 t300 false) = some r := by rw [if_neg (show ¬ (false = true) by decide)] at H; exact H
          clear H
          have H := H1
          clear H1
          have H' := Aside0.mk H
          clear H
          obtain ⟨Ao122, co122, eo122⟩ := Kd.R_slice HO294.out
          subst eo122
          obtain ⟨Ao123, co123, eo123⟩ := Kd.R_slice HO298.out
          subst eo123
          go_wp2_with (first | ((with_reducible refine gate_callee (f := 80) rfl ?_); refine goesL_ (some 95) rfl rfl Try.func80 (by kernel_rfl) rfl #[.slice Ao122 t292.length co122, .slice Ao123 t296.length co123] rfl (by (try simp only [List.map_toArray, List.map_cons, List.map_nil]); first | done | rfl | (simp only [List.length_drop, List.length_take]; rfl)) ?_; (with_reducible refine (damsonref13_Same.calls kj7 _ _ t292 _ _ t296 true _ ?side1 ?side2 ?side3 ?side4 A45.out).mono ?_); (case side1 => exact Kd.CN (Kd.R_reads' HO294.out).2.2); (case side2 => exact (Kd.R_reads' HO294.out).2.1); (case side3 => exact Kd.CN (Kd.R_reads' HO298.out).2.2); (case side4 => exact (Kd.R_reads' HO298.out).2.1); rintro e w' ⟨rfl, ⟨nd, rfl⟩⟩; refine ⟨_, rfl, ?_⟩; obtain ⟨Ao124, co124, eo124⟩ := Kd.R_slice HO303.out; subst eo124; obtain ⟨Ao125, co125, eo125⟩ := Kd.R_slice HO307.out; subst eo125) | (go_at_call 80; (with_reducible refine (damsonref13_Same.calls kj7 _ _ t300 _ _ t304 false _ ?side1 ?side2 ?side3 ?side4 A48.out).mono ?_); (case side1 => exact Kd.CN (Kd.R_reads' HO303.out).2.2); (case side2 => exact (Kd.R_reads' HO303.out).2.1); (case side3 => exact Kd.CN (Kd.R_reads' HO307.out).2.2); (case side4 => exact (Kd.R_reads' HO307.out).2.1); rintro e w' ⟨rfl, ⟨nd, rfl⟩⟩))
          go_meet
          case rel => exact ⟨_, (false), (by first | rfl | (simp; done) | (simp [*]; done)), H', ⟨by have := HJ7.out; first | omega | exact Nat.le_refl _⟩, ⟨by (with_reducible repeat (first | apply Kd.R_alloc | apply Kd.R_drewN | apply Kd.R_drew)); exact Kd.R_mono HO291.out (fun _ hk => ⟨hk.1, ⟨hk.2.2.1, ⟨hk.2.2.2.2.1, ⟨hk.2.2.2.2.2.1, hk.2.2.2.2.2.2⟩⟩⟩⟩)⟩, ⟨by (with_reducible repeat (first | apply Kd.R_alloc | apply Kd.R_drewN | apply Kd.R_drew)); exact Kd.R_mono HO294.out (fun _ hk => ⟨hk.1, ⟨hk.2.2.1, ⟨hk.2.2.2.2.1, ⟨hk.2.2.2.2.2.1, hk.2.2.2.2.2.2⟩⟩⟩⟩)⟩, ⟨by (with_reducible repeat (first | apply Kd.R_alloc | apply Kd.R_drewN | apply Kd.R_drew)); exact Kd.R_mono HO303.out (fun _ hk => ⟨hk.1, ⟨hk.2.1, ⟨hk.2.2.2.2.1, ⟨hk.2.2.2.2.2.1, hk.2.2.2.2.2.2⟩⟩⟩⟩)⟩, ⟨by (with_reducible repeat (first | refine blk_drewN ?_ _ | refine blk_drew ?_ | refine blk_alloc ?_ _)); exact BK285.out⟩, ⟨by (with_reducible repeat (first | refine blk_drewN ?_ _ | refine blk_drew ?_ | refine blk_alloc ?_ _)); exact BK314.out⟩, ⟨by (with_reducible repeat (first | refine blk_drewN ?_ _ | refine blk_drew ?_ | refine blk_alloc ?_ _)); exact BK321.out⟩, ⟨by repeat (first | (with_reducible first | exact HB.out | apply below_alloc | apply pw_below_drewN | apply below_drew1 | refine below_set ?_ GE285.out | refine below_set ?_ GE314.out | refine below_set ?_ GE321.out) | exact HB.out)⟩⟩
        ·rw [if_neg c47] at H
         have c47b0 : (t295 == t299) = false := beq_eq_false_iff_ne.mpr c47
         have c47b1 : (t295 != t299) = true := bne_iff_ne.mpr c47
         (first | rw [c47b0] | (simp only [i64_w, i32_w]; rw [c47b0]) | skip)
         have H' := Aside0.mk H
         clear H
         obtain ⟨Ao126, co126, eo126⟩ := Kd.R_slice HO294.out
         subst eo126
         obtain ⟨Ao127, co127, eo127⟩ := Kd.R_slice HO298.out
         subst eo127
         go_wp2_with (first | ((with_reducible refine gate_callee (f := 80) rfl ?_); refine goesL_ (some 95) rfl rfl Try.func80 (by kernel_rfl) rfl #[.slice Ao126 t292.length co126, .slice Ao127 t296.length co127] rfl (by (try simp only [List.map_toArray, List.map_cons, List.map_nil]); first | done | rfl | (simp only [List.length_drop, List.length_take]; rfl)) ?_; (with_reducible refine (damsonref13_Same.calls kj7 _ _ t292 _ _ t296 true _ ?side1 ?side2 ?side3 ?side4 A45.out).mono ?_); (case side1 => exact Kd.CN (Kd.R_reads' HO294.out).2.2); (case side2 => exact (Kd.R_reads' HO294.out).2.1); (case side3 => exact Kd.CN (Kd.R_reads' HO298.out).2.2); (case side4 => exact (Kd.R_reads' HO298.out).2.1); rintro e w' ⟨rfl, ⟨nd, rfl⟩⟩; refine ⟨_, rfl, ?_⟩))
         go_meet
         case rel => exact ⟨_, (false), (by first | rfl | (simp; done) | (simp [*]; done)), H', ⟨by have := HJ7.out; first | omega | exact Nat.le_refl _⟩, ⟨by (with_reducible repeat (first | apply Kd.R_alloc | apply Kd.R_drewN | apply Kd.R_drew)); exact Kd.R_mono HO291.out (fun _ hk => ⟨hk.1, ⟨hk.2.2.1, ⟨hk.2.2.2.2.1, ⟨hk.2.2.2.2.2.1, hk.2.2.2.2.2.2⟩⟩⟩⟩)⟩, ⟨by (with_reducible repeat (first | apply Kd.R_alloc | apply Kd.R_drewN | apply Kd.R_drew)); exact Kd.R_mono HO294.out (fun _ hk => ⟨hk.1, ⟨hk.2.2.1, ⟨hk.2.2.2.2.1, ⟨hk.2.2.2.2.2.1, hk.2.2.2.2.2.2⟩⟩⟩⟩)⟩, ⟨by (with_reducible repeat (first | apply Kd.R_alloc | apply Kd.R_drewN | apply Kd.R_drew)); exact Kd.R_mono HO303.out (fun _ hk => ⟨hk.1, ⟨hk.2.1, ⟨hk.2.2.2.2.1, ⟨hk.2.2.2.2.2.1, hk.2.2.2.2.2.2⟩⟩⟩⟩)⟩, ⟨by (with_reducible repeat (first | refine blk_drewN ?_ _ | refine blk_drew ?_ | refine blk_alloc ?_ _)); exact BK285.out⟩, ⟨by (with_reducible repeat (first | refine blk_drewN ?_ _ | refine blk_drew ?_ | refine blk_alloc ?_ _)); exact BK314.out⟩, ⟨by (with_reducible repeat (first | refine blk_drewN ?_ _ | refine blk_drew ?_ | refine blk_alloc ?_ _)); exact BK321.out⟩, ⟨by repeat (first | (with_reducible first | exact HB.out | apply below_alloc | apply pw_below_drewN | apply below_drew1 | refine below_set ?_ GE285.out | refine below_set ?_ GE314.out | refine below_set ?_ GE321.out) | exact HB.out)⟩⟩
       ·replace c46 := Bool.eq_false_iff.mpr c46
        subst c46
        have H1 : (damsonlaw13_PaymentDoes.j1 kj7 l0 y289 t292 t300 false) = some r := by rw [if_neg (show ¬ (false = true) by decide)] at H; exact H
        clear H
        have H := H1
        clear H1
        have H' := Aside0.mk H
        clear H
        obtain ⟨Ao128, co128, eo128⟩ := Kd.R_slice HO294.out
        subst eo128
        obtain ⟨Ao129, co129, eo129⟩ := Kd.R_slice HO298.out
        subst eo129
        go_wp2_with (first | ((with_reducible refine gate_callee (f := 80) rfl ?_); refine goesL_ (some 95) rfl rfl Try.func80 (by kernel_rfl) rfl #[.slice Ao128 t292.length co128, .slice Ao129 t296.length co129] rfl (by (try simp only [List.map_toArray, List.map_cons, List.map_nil]); first | done | rfl | (simp only [List.length_drop, List.length_take]; rfl)) ?_; (with_reducible refine (damsonref13_Same.calls kj7 _ _ t292 _ _ t296 false _ ?side1 ?side2 ?side3 ?side4 A45.out).mono ?_); (case side1 => exact Kd.CN (Kd.R_reads' HO294.out).2.2); (case side2 => exact (Kd.R_reads' HO294.out).2.1); (case side3 => exact Kd.CN (Kd.R_reads' HO298.out).2.2); (case side4 => exact (Kd.R_reads' HO298.out).2.1); rintro e w' ⟨rfl, ⟨nd, rfl⟩⟩; refine ⟨_, rfl, ?_⟩))
        go_meet
        case rel => exact ⟨_, (false), (by first | rfl | (simp; done) | (simp [*]; done)), H', ⟨by have := HJ7.out; first | omega | exact Nat.le_refl _⟩, ⟨by (with_reducible repeat (first | apply Kd.R_alloc | apply Kd.R_drewN | apply Kd.R_drew)); exact Kd.R_mono HO291.out (fun _ hk => ⟨hk.1, ⟨hk.2.2.1, ⟨hk.2.2.2.2.1, ⟨hk.2.2.2.2.2.1, hk.2.2.2.2.2.2⟩⟩⟩⟩)⟩, ⟨by (with_reducible repeat (first | apply Kd.R_alloc | apply Kd.R_drewN | apply Kd.R_drew)); exact Kd.R_mono HO294.out (fun _ hk => ⟨hk.1, ⟨hk.2.2.1, ⟨hk.2.2.2.2.1, ⟨hk.2.2.2.2.2.1, hk.2.2.2.2.2.2⟩⟩⟩⟩)⟩, ⟨by (with_reducible repeat (first | apply Kd.R_alloc | apply Kd.R_drewN | apply Kd.R_drew)); exact Kd.R_mono HO303.out (fun _ hk => ⟨hk.1, ⟨hk.2.1, ⟨hk.2.2.2.2.1, ⟨hk.2.2.2.2.2.1, hk.2.2.2.2.2.2⟩⟩⟩⟩)⟩, ⟨by (with_reducible repeat (first | refine blk_drewN ?_ _ | refine blk_drew ?_ | refine blk_alloc ?_ _)); exact BK285.out⟩, ⟨by (with_reducible repeat (first | refine blk_drewN ?_ _ | refine blk_drew ?_ | refine blk_alloc ?_ _)); exact BK314.out⟩, ⟨by (with_reducible repeat (first | refine blk_drewN ?_ _ | refine blk_drew ?_ | refine blk_alloc ?_ _)); exact BK321.out⟩, ⟨by repeat (first | (with_reducible first | exact HB.out | apply below_alloc | apply pw_below_drewN | apply below_drew1 | refine below_set ?_ GE285.out | refine below_set ?_ GE314.out | refine below_set ?_ GE321.out) | exact HB.out)⟩⟩
      case rest =>
       clear HC24
       try clear c1
       try clear p2
       try clear c3
       try clear c4
       try clear c5
       try clear c6
       try clear c7
       try clear c8
       try clear c9
       try clear c10
       try clear c11
       try clear c12
       try clear c14
       try clear c15
       try clear c19
       try clear c34
       try clear c39
       try clear c40
       try clear c46
       try clear c47
       try clear c47b0
       try clear c47b1
       try clear c49
       try clear c50
       try clear c50b0
       try clear c50b1
       try clear c51
       try clear c51b0
       try clear c51b1
       try clear c51b2
       try clear c52
       try clear c52b0
       try clear c52b1
       try clear c53
       try clear c53b0
       try clear c53b1
       try clear c54
       try clear c54b0
       try clear c54b1
       try clear c57
       try clear c57b0
       try clear c57b1
       try clear c64
       try clear c65
       try clear c67
       try clear c68
       try clear c69
       try clear c70
       try clear c71
       try clear c72
       try clear c75
       try clear c76
       try clear c77
       try clear c78
       try clear c79
       try clear c80
       try clear c86
       try clear c87
       try clear c89
       try clear c95
       try clear c96
       try clear c98
       try clear c104
       try clear c105
       try clear c107
       try clear c113
       try clear c114
       try clear c116
       try clear hcz106_0
       try clear hcz106_1
       try clear hcz106_2
       try clear hcz106_3
       try clear hcz106_4
       try clear hcz108_0
       try clear hcz108_1
       try clear hcz108_2
       try clear hcz108_3
       try clear hcz108_4
       try clear hcz115_0
       try clear hcz115_1
       try clear hcz115_2
       try clear hcz115_3
       try clear hcz115_4
       try clear hcz117_0
       try clear hcz117_1
       try clear hcz117_2
       try clear hcz117_3
       try clear hcz117_4
       try clear hcz26_0
       try clear hcz26_1
       try clear hcz26_2
       try clear hcz26_3
       try clear hcz26_4
       try clear hcz28_0
       try clear hcz28_1
       try clear hcz28_2
       try clear hcz28_3
       try clear hcz28_4
       try clear hcz35_0
       try clear hcz35_1
       try clear hcz35_2
       try clear hcz35_3
       try clear hcz35_4
       try clear hcz41_0
       try clear hcz41_1
       try clear hcz41_2
       try clear hcz41_3
       try clear hcz41_4
       try clear hcz66_0
       try clear hcz66_1
       try clear hcz66_2
       try clear hcz66_3
       try clear hcz66_4
       try clear hcz68_0
       try clear hcz68_1
       try clear hcz68_2
       try clear hcz68_3
       try clear hcz68_4
       try clear hcz77_0
       try clear hcz77_1
       try clear hcz77_2
       try clear hcz77_3
       try clear hcz77_4
       try clear hcz79_0
       try clear hcz79_1
       try clear hcz79_2
       try clear hcz79_3
       try clear hcz79_4
       try clear hcz88_0
       try clear hcz88_1
       try clear hcz88_2
       try clear hcz88_3
       try clear hcz88_4
       try clear hcz90_0
       try clear hcz90_1
       try clear hcz90_2
       try clear hcz90_3
       try clear hcz90_4
       try clear hcz97_0
       try clear hcz97_1
       try clear hcz97_2
       try clear hcz97_3
       try clear hcz97_4
       try clear hcz99_0
       try clear hcz99_1
       try clear hcz99_2
       try clear hcz99_3
       try clear hcz99_4
       try clear hfz106_0
       try clear hfz106_1
       try clear hfz106_2
       try clear hfz106_3
       try clear hfz106_4
       try clear hfz108_0
       try clear hfz108_1
       try clear hfz108_2
       try clear hfz108_3
       try clear hfz108_4
       try clear hfz115_0
       try clear hfz115_1
       try clear hfz115_2
       try clear hfz115_3
       try clear hfz115_4
       try clear hfz117_0
       try clear hfz117_1
       try clear hfz117_2
       try clear hfz117_3
       try clear hfz117_4
       try clear hfz26_0
       try clear hfz26_1
       try clear hfz26_2
       try clear hfz26_3
       try clear hfz26_4
       try clear hfz28_0
       try clear hfz28_1
       try clear hfz28_2
       try clear hfz28_3
       try clear hfz28_4
       try clear hfz35_0
       try clear hfz35_1
       try clear hfz35_2
       try clear hfz35_3
       try clear hfz35_4
       try clear hfz41_0
       try clear hfz41_1
       try clear hfz41_2
       try clear hfz41_3
       try clear hfz41_4
       try clear hfz66_0
       try clear hfz66_1
       try clear hfz66_2
       try clear hfz66_3
       try clear hfz66_4
       try clear hfz68_0
       try clear hfz68_1
       try clear hfz68_2
       try clear hfz68_3
       try clear hfz68_4
       try clear hfz77_0
       try clear hfz77_1
       try clear hfz77_2
       try clear hfz77_3
       try clear hfz77_4
       try clear hfz79_0
       try clear hfz79_1
       try clear hfz79_2
       try clear hfz79_3
       try clear hfz79_4
       try clear hfz88_0
       try clear hfz88_1
       try clear hfz88_2
       try clear hfz88_3
       try clear hfz88_4
       try clear hfz90_0
       try clear hfz90_1
       try clear hfz90_2
       try clear hfz90_3
       try clear hfz90_4
       try clear hfz97_0
       try clear hfz97_1
       try clear hfz97_2
       try clear hfz97_3
       try clear hfz97_4
       try clear hfz99_0
       try clear hfz99_1
       try clear hfz99_2
       try clear hfz99_3
       try clear hfz99_4
       try clear p2
       obtain ⟨kq, x28_23, rfl, HA, HJ23, HO_11, HO_12, HO_16, BK285, BK314, BK321, HB⟩ := hcut
       cases kq with
       | zero => exact absurd HA.out (by simp [damsonlaw13_PaymentDoes.j1])
       | succ kj23 =>
        have H := HA.out
        clear HA
        simp only [damsonlaw13_PaymentDoes.j1] at H
        have H' := Aside0.mk H
        clear H
        obtain ⟨Ao130, co130, eo130⟩ := Kd.R_slice HO_12.out
        subst eo130
        go_wp2
        go_loopg [149] kj23 (fun kq v149 w' => ∃ (x12_3 : List (S74)) (x149_3 : Int) (x286003_3 : Int) (x315003_3 : Int) (x322003_3 : Int), v149 = .int .i64 x149_3 ∧ Aside0 (damsonlaw13_PaymentDoes.l0 kq l0 y289 x12_3 t300 x28_23 (t292.length : Int) x149_3 = some r) ∧ Aside0 (kq ≤ kj23) ∧ Aside0 (Kd.R k74 74 w' w.heap.size (fun k_ => some k_ ≠ ((.slice Ao130 t292.length co130) : Value).ownBlock ∧ some k_ ≠ (v302 : Value).ownBlock ∧ k_ ≠ gb285 ∧ k_ ≠ gb314 ∧ k_ ≠ gb321) v290 y289) ∧ Aside0 (Kd.R k74 74 w' w.heap.size (fun k_ => some k_ ≠ (v290 : Value).ownBlock ∧ some k_ ≠ (v302 : Value).ownBlock ∧ k_ ≠ gb285 ∧ k_ ≠ gb314 ∧ k_ ≠ gb321) (.slice Ao130 t292.length co130) x12_3) ∧ Aside0 (Kd.R k74 74 w' w.heap.size (fun k_ => some k_ ≠ (v290 : Value).ownBlock ∧ some k_ ≠ ((.slice Ao130 t292.length co130) : Value).ownBlock ∧ k_ ≠ gb285 ∧ k_ ≠ gb314 ∧ k_ ≠ gb321) v302 t300) ∧ Aside0 (w'.heap[gb285]? = some (.cells #[.int .u64 a2_0, .int .u64 a2_1, .int .u64 a2_2, .int .u64 x286003_3, .int .i64 a2_4] 74 (0, 0))) ∧ Aside0 (w'.heap[gb314]? = some (.cells #[.int .u64 t308, .int .u64 t309, .int .u64 t310, .int .u64 x315003_3, .int .i64 t312] 74 (0, 0))) ∧ Aside0 (w'.heap[gb321]? = some (.cells #[.int .u64 t315, .int .u64 t316, .int .u64 t317, .int .u64 x322003_3, .int .i64 t319] 74 (0, 0))) ∧ Aside0 (Below w.heap.size w w'))
        case atStart => exact ⟨(t292), (0), (a2_3), (t311), (t318), (by first | rfl | (simp; done) | (simp [*]; done)), H', ⟨Nat.le_refl _⟩, ⟨by (with_reducible repeat (first | apply Kd.R_alloc | apply Kd.R_drewN | apply Kd.R_drew)); exact HO_11.out⟩, ⟨by (with_reducible repeat (first | apply Kd.R_alloc | apply Kd.R_drewN | apply Kd.R_drew)); exact HO_12.out⟩, ⟨by (with_reducible repeat (first | apply Kd.R_alloc | apply Kd.R_drewN | apply Kd.R_drew)); exact HO_16.out⟩, ⟨by (with_reducible repeat (first | refine blk_drewN ?_ _ | refine blk_drew ?_ | refine blk_alloc ?_ _)); exact BK285.out⟩, ⟨by (with_reducible repeat (first | refine blk_drewN ?_ _ | refine blk_drew ?_ | refine blk_alloc ?_ _)); exact BK314.out⟩, ⟨by (with_reducible repeat (first | refine blk_drewN ?_ _ | refine blk_drew ?_ | refine blk_alloc ?_ _)); exact BK321.out⟩, ⟨by repeat (first | (with_reducible first | exact HB.out | apply below_alloc | apply pw_below_drewN | apply below_drew1 | refine below_set ?_ GE285.out | refine below_set ?_ GE314.out | refine below_set ?_ GE321.out) | exact HB.out)⟩⟩
        case round =>
         clear H'
         try clear c1
         try clear p2
         try clear c3
         try clear c4
         try clear c5
         try clear c6
         try clear c7
         try clear c8
         try clear c9
         try clear c10
         try clear c11
         try clear c12
         try clear c14
         try clear c15
         try clear c19
         try clear c34
         try clear c39
         try clear c40
         try clear c46
         try clear c47
         try clear c47b0
         try clear c47b1
         try clear c49
         try clear c50
         try clear c50b0
         try clear c50b1
         try clear c51
         try clear c51b0
         try clear c51b1
         try clear c51b2
         try clear c52
         try clear c52b0
         try clear c52b1
         try clear c53
         try clear c53b0
         try clear c53b1
         try clear c54
         try clear c54b0
         try clear c54b1
         try clear c57
         try clear c57b0
         try clear c57b1
         try clear c64
         try clear c65
         try clear c67
         try clear c68
         try clear c69
         try clear c70
         try clear c71
         try clear c72
         try clear c75
         try clear c76
         try clear c77
         try clear c78
         try clear c79
         try clear c80
         try clear c86
         try clear c87
         try clear c89
         try clear c95
         try clear c96
         try clear c98
         try clear c104
         try clear c105
         try clear c107
         try clear c113
         try clear c114
         try clear c116
         try clear hcz106_0
         try clear hcz106_1
         try clear hcz106_2
         try clear hcz106_3
         try clear hcz106_4
         try clear hcz108_0
         try clear hcz108_1
         try clear hcz108_2
         try clear hcz108_3
         try clear hcz108_4
         try clear hcz115_0
         try clear hcz115_1
         try clear hcz115_2
         try clear hcz115_3
         try clear hcz115_4
         try clear hcz117_0
         try clear hcz117_1
         try clear hcz117_2
         try clear hcz117_3
         try clear hcz117_4
         try clear hcz26_0
         try clear hcz26_1
         try clear hcz26_2
         try clear hcz26_3
         try clear hcz26_4
         try clear hcz28_0
         try clear hcz28_1
         try clear hcz28_2
         try clear hcz28_3
         try clear hcz28_4
         try clear hcz35_0
         try clear hcz35_1
         try clear hcz35_2
         try clear hcz35_3
         try clear hcz35_4
         try clear hcz41_0
         try clear hcz41_1
         try clear hcz41_2
         try clear hcz41_3
         try clear hcz41_4
         try clear hcz66_0
         try clear hcz66_1
         try clear hcz66_2
         try clear hcz66_3
         try clear hcz66_4
         try clear hcz68_0
         try clear hcz68_1
         try clear hcz68_2
         try clear hcz68_3
         try clear hcz68_4
         try clear hcz77_0
         try clear hcz77_1
         try clear hcz77_2
         try clear hcz77_3
         try clear hcz77_4
         try clear hcz79_0
         try clear hcz79_1
         try clear hcz79_2
         try clear hcz79_3
         try clear hcz79_4
         try clear hcz88_0
         try clear hcz88_1
         try clear hcz88_2
         try clear hcz88_3
         try clear hcz88_4
         try clear hcz90_0
         try clear hcz90_1
         try clear hcz90_2
         try clear hcz90_3
         try clear hcz90_4
         try clear hcz97_0
         try clear hcz97_1
         try clear hcz97_2
         try clear hcz97_3
         try clear hcz97_4
         try clear hcz99_0
         try clear hcz99_1
         try clear hcz99_2
         try clear hcz99_3
         try clear hcz99_4
         try clear hfz106_0
         try clear hfz106_1
         try clear hfz106_2
         try clear hfz106_3
         try clear hfz106_4
         try clear hfz108_0
         try clear hfz108_1
         try clear hfz108_2
         try clear hfz108_3
         try clear hfz108_4
         try clear hfz115_0
         try clear hfz115_1
         try clear hfz115_2
         try clear hfz115_3
         try clear hfz115_4
         try clear hfz117_0
         try clear hfz117_1
         try clear hfz117_2
         try clear hfz117_3
         try clear hfz117_4
         try clear hfz26_0
         try clear hfz26_1
         try clear hfz26_2
         try clear hfz26_3
         try clear hfz26_4
         try clear hfz28_0
         try clear hfz28_1
         try clear hfz28_2
         try clear hfz28_3
         try clear hfz28_4
         try clear hfz35_0
         try clear hfz35_1
         try clear hfz35_2
         try clear hfz35_3
         try clear hfz35_4
         try clear hfz41_0
         try clear hfz41_1
         try clear hfz41_2
         try clear hfz41_3
         try clear hfz41_4
         try clear hfz66_0
         try clear hfz66_1
         try clear hfz66_2
         try clear hfz66_3
         try clear hfz66_4
         try clear hfz68_0
         try clear hfz68_1
         try clear hfz68_2
         try clear hfz68_3
         try clear hfz68_4
         try clear hfz77_0
         try clear hfz77_1
         try clear hfz77_2
         try clear hfz77_3
         try clear hfz77_4
         try clear hfz79_0
         try clear hfz79_1
         try clear hfz79_2
         try clear hfz79_3
         try clear hfz79_4
         try clear hfz88_0
         try clear hfz88_1
         try clear hfz88_2
         try clear hfz88_3
         try clear hfz88_4
         try clear hfz90_0
         try clear hfz90_1
         try clear hfz90_2
         try clear hfz90_3
         try clear hfz90_4
         try clear hfz97_0
         try clear hfz97_1
         try clear hfz97_2
         try clear hfz97_3
         try clear hfz97_4
         try clear hfz99_0
         try clear hfz99_1
         try clear hfz99_2
         try clear hfz99_3
         try clear hfz99_4
         try clear p2
         obtain ⟨x12_3, x149_3, x286003_3, x315003_3, x322003_3, rfl, HA, HK3, HO_11, HO_12, HO_16, BK285, BK314, BK321, HB⟩ := hrel
         have hl12_3 := (Kd.R_reads' HO_12.out).1
         rw [hl12_3] at HO_12
         (try simp only [hl12_3])
         (try simp only [hl12_3] at BK285)
         (try simp only [hl12_3] at BK314)
         (try simp only [hl12_3] at BK321)
         (try simp only [hl12_3] at HO_11)
         (try simp only [hl12_3] at HO_16)
         cases gk with
         | zero => exact absurd HA.out (by simp [damsonlaw13_PaymentDoes.l0])
         | succ k3 =>
          have H := HA.out
          clear HA
          simp only [damsonlaw13_PaymentDoes.l0] at H
          by_cases c131 : x149_3 < (t292.length : Int)
          ·rw [if_pos c131] at H
           have c131b0 : decide (x149_3 < (t292.length : Int)) = true := decide_eq_true c131
           clear c131
           by_cases c132 : 0 ≤ x149_3
           ·rw [if_pos c132] at H
            have c132b0 : decide (0 ≤ x149_3) = true := decide_eq_true c132
            clear c132
            by_cases c133 : x149_3 < (x12_3.length : Int)
            ·rw [if_pos c133] at H
             have c133b0 : decide (x149_3 < (x12_3.length : Int)) = true := decide_eq_true c133
             clear c133
             obtain ⟨y333, hy333⟩ : ∃ y_ : List (S74), y_ = (x12_3.set (x149_3 : Int).toNat (⟨(rd_T74 x12_3 x149_3).f0, (rd_T74 x12_3 x149_3).f1, (rd_T74 x12_3 x149_3).f2, IntKind.u64.wrap (((rd_T74 x12_3 x149_3).f3) + 1), (rd_T74 x12_3 x149_3).f4⟩ : S74)) := ⟨_, rfl⟩
             replace H : (damsonlaw13_PaymentDoes.l0 k3 l0 y289 y333 t300 x28_23 (t292.length : Int) (wrap64 (x149_3 + 1))) = some r := by first | (rw [hy333]; with_reducible exact H) | (have H2_ := (Option.bind_some _ _).symm.trans H; rw [hy333]; with_reducible exact H2_) | (have H2_ := (Option.bind_some _ _).symm.trans H; with_reducible exact H2_) | with_reducible exact H | (rw [hy333]; exact H) | exact H
             have Ny333 := Aside0.mk hy333
             clear hy333
             have H' := Aside0.mk H
             clear H
             have p332 : 0 ≤ (x149_3 : Int) := of_decide_eq_true (by first | (with_reducible assumption) | assumption)
             have q332 : x149_3 < (x12_3.length : Int) := of_decide_eq_true (by first | (with_reducible assumption) | assumption)
             obtain ⟨ad332, e332, hx332_0, hx332_1, hx332_2, hx332_3, hx332_4⟩ := at_T74 (Kd.R_reads' HO_12.out).2.2 x149_3 p332 q332
             cases e332
             replace p332 := eq_true p332
             replace q332 := eq_true q332
             have p134 : 0 ≤ (x149_3 : Int) := of_decide_eq_true (by first | (with_reducible assumption) | assumption)
             have q134 : (x149_3 : Int) < ((x12_3.length : Int) : Int) := of_decide_eq_true (by first | (with_reducible assumption) | assumption)
             obtain ⟨go134, co134, eo134, gb134, gl134, cl134, HG134⟩ := Kd.R_form HO_12.out (by omega)
             (first | cases eo134 | (injection eo134 with ea_ en_ ec_; (first | subst ea_ | (injection ea_ with ea_; subst ea_)); subst ec_; clear en_))
             have GB134 := Aside0.mk gb134
             have GG134 := Aside0.mk HG134
             clear gb134 gl134 HG134
             (first | simp only [add_plain] at hx332_0 | skip)
             (first | simp only [add_plain] at hx332_1 | skip)
             (first | simp only [add_plain] at hx332_2 | skip)
             (first | simp only [add_plain] at hx332_3 | skip)
             (first | simp only [add_plain] at hx332_4 | skip)
             obtain ⟨ce134, hcl134, hM134, hcc134, hfr134⟩ := Kd.R_elem HO_12.out z74 (x149_3 : Int) p134 q134
             obtain rfl := k74_openM hM134
             have hx134_0 : wr.cell? ⟨go134, (x149_3 : Int).toNat * 5, none⟩ = some (.int .u64 ((rd_T74 x12_3 x149_3).f0)) := hcc134 0 _ rfl
             have hx134_1 : wr.cell? ⟨go134, (x149_3 : Int).toNat * 5 + 1, none⟩ = some (.int .u64 ((rd_T74 x12_3 x149_3).f1)) := hcc134 1 _ rfl
             have hx134_2 : wr.cell? ⟨go134, (x149_3 : Int).toNat * 5 + 2, none⟩ = some (.int .u64 ((rd_T74 x12_3 x149_3).f2)) := hcc134 2 _ rfl
             have hx134_3 : wr.cell? ⟨go134, (x149_3 : Int).toNat * 5 + 3, none⟩ = some (.int .u64 ((rd_T74 x12_3 x149_3).f3)) := hcc134 3 _ rfl
             have hx134_4 : wr.cell? ⟨go134, (x149_3 : Int).toNat * 5 + 4, none⟩ = some (.int .i64 ((rd_T74 x12_3 x149_3).f4)) := hcc134 4 _ rfl
             have hf134_0 : wr.frozen? ⟨go134, (x149_3 : Int).toNat * 5, none⟩ = false := hfr134 0
             have hf134_1 : wr.frozen? ⟨go134, (x149_3 : Int).toNat * 5 + 1, none⟩ = false := hfr134 1
             have hf134_2 : wr.frozen? ⟨go134, (x149_3 : Int).toNat * 5 + 2, none⟩ = false := hfr134 2
             have hf134_3 : wr.frozen? ⟨go134, (x149_3 : Int).toNat * 5 + 3, none⟩ = false := hfr134 3
             have hf134_4 : wr.frozen? ⟨go134, (x149_3 : Int).toNat * 5 + 4, none⟩ = false := hfr134 4
             clear hcl134 hcc134 hfr134 hM134
             replace p134 := eq_true p134
             replace q134 := eq_true q134
             have HX135 := Aside0.mk (show Kd.R k74 74 wr w.heap.size (fun k_ => some k_ ≠ (v290 : Value).ownBlock ∧ some k_ ≠ (v302 : Value).ownBlock ∧ k_ ≠ gb285 ∧ k_ ≠ gb314 ∧ k_ ≠ gb321) (.slice (some ⟨go134, 0, none⟩) x12_3.length co130) x12_3 from (Kd.RN HO_12))
             obtain ⟨ce135, hcl135, hM135, hcc135, hfr135⟩ := Kd.R_elem HX135.out z74 (x149_3 : Int) (of_decide_eq_true (by first | (with_reducible assumption) | assumption)) (by have h_ : (x149_3 : Int) < ((x12_3.length : Int) : Int) := of_decide_eq_true (by first | (with_reducible assumption) | assumption); first | exact h_ | (have e_ := (Kd.R_reads' HO_12.out).1; omega) | simpa using h_)
             obtain rfl := k74_openM hM135
             have HP135 := Kd.R_seg HX135.out (x149_3 : Int) (of_decide_eq_true (by first | (with_reducible assumption) | assumption)) (by have h_ : (x149_3 : Int) < ((x12_3.length : Int) : Int) := of_decide_eq_true (by first | (with_reducible assumption) | assumption); first | exact h_ | (have e_ := (Kd.R_reads' HO_12.out).1; omega) | simpa using h_) (seg := [.int .u64 (IntKind.u64.wrap (((rd_T74 x12_3 x149_3).f3) + 1))]) (j := 3) hcl135 hcc135 (show 4 ≤ 5 from by decide) (x' := (⟨(rd_T74 x12_3 x149_3).f0, (rd_T74 x12_3 x149_3).f1, (rd_T74 x12_3 x149_3).f2, IntKind.u64.wrap (((rd_T74 x12_3 x149_3).f3) + 1), (rd_T74 x12_3 x149_3).f4⟩ : S74)) (k74_mkM _ _ _ (⟨(rd_T74 x12_3 x149_3).f0, (rd_T74 x12_3 x149_3).f1, (rd_T74 x12_3 x149_3).f2, IntKind.u64.wrap (((rd_T74 x12_3 x149_3).f3) + 1), (rd_T74 x12_3 x149_3).f4⟩ : S74) ) (fun _ hk => hk)
             have hx135_3 := hcc135 3 _ rfl
             (try simp only [show (k74).sz = 5 from rfl, Nat.mul_one, Nat.add_zero] at hx135_3)
             have hf135_3 := hfr135 3
             (try simp only [show (k74).sz = 5 from rfl, Nat.mul_one, Nat.add_zero] at hf135_3)
             clear hcl135 hcc135 hfr135 hM135
             go_wp2_with (first | ((with_reducible refine gate_store (t := 22) (p := 159) rfl ?_); refine store_event (t := 22) (p := 159) (v := ?vo_w136) (w1 := (wr.setCell ⟨go134, (x149_3 : Int).toNat * 5 + 3, none⟩ (.int .u64 (IntKind.u64.wrap (((rd_T74 x12_3 x149_3).f3) + 1))))) ?hg ?ho ?hn ?hr ?_; (case ho => rfl); (case hg => rfl); (case hn => rfl); (case hr => first | (go_simp; done) | (go_simp; rfl)); intro w136 hw; have hg : wr.grownBy w136 (some go134) := (by rw [hw]; exact HP135.2); have hp_ : Kd.R k74 74 w136 w.heap.size (fun k_ => some k_ ≠ (v290 : Value).ownBlock ∧ some k_ ≠ (v302 : Value).ownBlock ∧ k_ ≠ gb285 ∧ k_ ≠ gb314 ∧ k_ ≠ gb321) (.slice (some ⟨go134, 0, none⟩) x12_3.length co130) y333 := (by rw [hw, Ny333.out]; exact HP135.1); clear HP135; have n0_ := Aside0.mk (Kd.R_after (v := (.slice (some ⟨go134, 0, none⟩) x12_3.length co130)) (v1 := (.slice (some ⟨go134, 0, none⟩) x12_3.length co130)) (ok := (fun k_ => some k_ ≠ (v302 : Value).ownBlock ∧ k_ ≠ gb285 ∧ k_ ≠ gb314 ∧ k_ ≠ gb321)) (by (with_reducible repeat (first | apply Kd.R_alloc | apply Kd.R_drewN | apply Kd.R_drew)); exact Kd.R_mono HO_11.out (fun _ hk => ⟨⟨hk.2.1, ⟨hk.2.2.1, ⟨hk.2.2.2.1, hk.2.2.2.2⟩⟩⟩, hk.1⟩)) hg (.inl rfl)); have n1_ := Aside0.mk (hp_); have n2_ := Aside0.mk (Kd.R_after (v := (.slice (some ⟨go134, 0, none⟩) x12_3.length co130)) (v1 := (.slice (some ⟨go134, 0, none⟩) x12_3.length co130)) (ok := (fun k_ => some k_ ≠ (v290 : Value).ownBlock ∧ k_ ≠ gb285 ∧ k_ ≠ gb314 ∧ k_ ≠ gb321)) (by (with_reducible repeat (first | apply Kd.R_alloc | apply Kd.R_drewN | apply Kd.R_drew)); exact Kd.R_mono HO_16.out (fun _ hk => ⟨⟨hk.1, ⟨hk.2.2.1, ⟨hk.2.2.2.1, hk.2.2.2.2⟩⟩⟩, hk.2.1⟩)) hg (.inl rfl)); have n3_ := Aside0.mk (blk_grown (g := gb285) (blkN BK285) hg (Kd.R_away HO_12.out (fun _ hk => hk.2.2.1))); have n4_ := Aside0.mk (blk_grown (g := gb314) (blkN BK314) hg (Kd.R_away HO_12.out (fun _ hk => hk.2.2.2.1))); have n5_ := Aside0.mk (blk_grown (g := gb321) (blkN BK321) hg (Kd.R_away HO_12.out (fun _ hk => hk.2.2.2.2))); have n6_ := Aside0.mk ((by rw [hw]; exact below_set (HB.out) GB134.out : Below w.heap.size w w136)); clear HO_11; clear HO_12; clear HO_16; clear BK285; clear BK314; clear BK321; clear HB; have HO_11 := n0_; have HO_12 := n1_; have HO_16 := n2_; have BK285 := n3_; have BK314 := n4_; have BK321 := n5_; have HB := n6_; clear n0_ n1_ n2_ n3_ n4_ n5_ n6_; clear hg hw hp_))
             (try simp only [← hl12_3])
             go_roundg k3
             case measure => have := HJ7.out; have := HJ23.out; have := HK3.out; omega
             case rel => exact ⟨(y333), (wrap64 (x149_3 + 1)), (x286003_3), (x315003_3), (x322003_3), (by first | rfl | (simp; done) | (simp [*]; done)), H', ⟨by have := HJ7.out; have := HJ23.out; have := HK3.out; omega⟩, ⟨by (try simp only [hl12_3]); (with_reducible repeat (first | apply Kd.R_alloc | apply Kd.R_drewN | apply Kd.R_drew)); exact Kd.R_mono HO_11.out (fun _ hk => ⟨hk.2, ⟨hk.1.1, ⟨hk.1.2.1, ⟨hk.1.2.2.1, hk.1.2.2.2⟩⟩⟩⟩)⟩, ⟨by (try simp only [hl12_3]); (with_reducible repeat (first | apply Kd.R_alloc | apply Kd.R_drewN | apply Kd.R_drew)); exact HO_12.out⟩, ⟨by (try simp only [hl12_3]); (with_reducible repeat (first | apply Kd.R_alloc | apply Kd.R_drewN | apply Kd.R_drew)); exact Kd.R_mono HO_16.out (fun _ hk => ⟨hk.1.1, ⟨hk.2, ⟨hk.1.2.1, ⟨hk.1.2.2.1, hk.1.2.2.2⟩⟩⟩⟩)⟩, ⟨by (try simp only [hl12_3]); (with_reducible repeat (first | refine blk_drewN ?_ _ | refine blk_drew ?_ | refine blk_alloc ?_ _)); exact BK285.out⟩, ⟨by (try simp only [hl12_3]); (with_reducible repeat (first | refine blk_drewN ?_ _ | refine blk_drew ?_ | refine blk_alloc ?_ _)); exact BK314.out⟩, ⟨by (try simp only [hl12_3]); (with_reducible repeat (first | refine blk_drewN ?_ _ | refine blk_drew ?_ | refine blk_alloc ?_ _)); exact BK321.out⟩, ⟨by repeat (first | (with_reducible first | exact HB.out | apply below_alloc | apply pw_below_drewN | apply below_drew1 | refine below_set ?_ GE285.out | refine below_set ?_ GE314.out | refine below_set ?_ GE321.out) | exact HB.out)⟩⟩
            ·rw [if_neg c133] at H
             exact absurd H (by simp)
           ·rw [if_neg c132] at H
            exact absurd H (by simp)
          ·rw [if_neg c131] at H
           have c131b0 : decide (x149_3 < (t292.length : Int)) = false := decide_eq_false c131
           (try simp only [hl12_3] at c131b0)
           (try simp only [hl16_4] at c131b0)
           clear c131
           have H' := Aside0.mk H
           clear H
           obtain ⟨Ao137, co137, eo137⟩ := Kd.R_slice HO_16.out
           subst eo137
           go_wp2
           go_loopg [163] k3 (fun kq v163 w' => ∃ (x16_4 : List (S74)) (x163_4 : Int) (x286003_4 : Int) (x315003_4 : Int) (x322003_4 : Int), v163 = .int .i64 x163_4 ∧ Aside0 (damsonlaw13_PaymentDoes.l1 kq l0 y289 x16_4 x28_23 (t300.length : Int) x163_4 = some r) ∧ Aside0 (kq ≤ k3) ∧ Aside0 (Kd.R k74 74 w' w.heap.size (fun k_ => some k_ ≠ ((.slice Ao137 t300.length co137) : Value).ownBlock ∧ k_ ≠ gb285 ∧ k_ ≠ gb314 ∧ k_ ≠ gb321) v290 y289) ∧ Aside0 (Kd.R k74 74 w' w.heap.size (fun k_ => some k_ ≠ (v290 : Value).ownBlock ∧ k_ ≠ gb285 ∧ k_ ≠ gb314 ∧ k_ ≠ gb321) (.slice Ao137 t300.length co137) x16_4) ∧ Aside0 (w'.heap[gb285]? = some (.cells #[.int .u64 a2_0, .int .u64 a2_1, .int .u64 a2_2, .int .u64 x286003_4, .int .i64 a2_4] 74 (0, 0))) ∧ Aside0 (w'.heap[gb314]? = some (.cells #[.int .u64 t308, .int .u64 t309, .int .u64 t310, .int .u64 x315003_4, .int .i64 t312] 74 (0, 0))) ∧ Aside0 (w'.heap[gb321]? = some (.cells #[.int .u64 t315, .int .u64 t316, .int .u64 t317, .int .u64 x322003_4, .int .i64 t319] 74 (0, 0))) ∧ Aside0 (Below w.heap.size w w'))
           case atStart => exact ⟨(t300), (0), (x286003_3), (x315003_3), (x322003_3), (by first | rfl | (simp; done) | (simp [*]; done)), H', ⟨Nat.le_refl _⟩, ⟨by (try simp only [hl12_3]); (with_reducible repeat (first | apply Kd.R_alloc | apply Kd.R_drewN | apply Kd.R_drew)); exact Kd.R_mono HO_11.out (fun _ hk => ⟨hk.2.1, ⟨hk.2.2.1, ⟨hk.2.2.2.1, hk.2.2.2.2⟩⟩⟩)⟩, ⟨by (try simp only [hl12_3]); (with_reducible repeat (first | apply Kd.R_alloc | apply Kd.R_drewN | apply Kd.R_drew)); exact Kd.R_mono HO_16.out (fun _ hk => ⟨hk.1, ⟨hk.2.2.1, ⟨hk.2.2.2.1, hk.2.2.2.2⟩⟩⟩)⟩, ⟨by (try simp only [hl12_3]); (with_reducible repeat (first | refine blk_drewN ?_ _ | refine blk_drew ?_ | refine blk_alloc ?_ _)); exact BK285.out⟩, ⟨by (try simp only [hl12_3]); (with_reducible repeat (first | refine blk_drewN ?_ _ | refine blk_drew ?_ | refine blk_alloc ?_ _)); exact BK314.out⟩, ⟨by (try simp only [hl12_3]); (with_reducible repeat (first | refine blk_drewN ?_ _ | refine blk_drew ?_ | refine blk_alloc ?_ _)); exact BK321.out⟩, ⟨by repeat (first | (with_reducible first | exact HB.out | apply below_alloc | apply pw_below_drewN | apply below_drew1 | refine below_set ?_ GE285.out | refine below_set ?_ GE314.out | refine below_set ?_ GE321.out) | exact HB.out)⟩⟩
           case round =>
            clear H'
            try clear c1
            try clear p1
            try clear q1
            try clear hx1
            try clear p2
            try clear c3
            try clear p3
            try clear q3
            try clear hx3
            try clear c4
            try clear c5
            try clear c6
            try clear p6
            try clear c7
            try clear c8
            try clear c9
            try clear c10
            try clear c11
            try clear c12
            try clear c13
            try clear p13
            try clear q13
            try clear hx13
            try clear hf13
            try clear c14
            try clear c15
            try clear c19
            try clear p33
            try clear q33
            try clear hx33
            try clear c34
            try clear c39
            try clear c40
            try clear c46
            try clear c47
            try clear c47b0
            try clear c47b1
            try clear c49
            try clear c50
            try clear c50b0
            try clear c50b1
            try clear c51
            try clear c51b0
            try clear c51b1
            try clear c51b2
            try clear c52
            try clear c52b0
            try clear c52b1
            try clear c53
            try clear c53b0
            try clear c53b1
            try clear c54
            try clear c54b0
            try clear c54b1
            try clear c57
            try clear c57b0
            try clear c57b1
            try clear c64
            try clear p64
            try clear c65
            try clear c67
            try clear c68
            try clear c69
            try clear c70
            try clear c71
            try clear c72
            try clear c75
            try clear c76
            try clear c77
            try clear c78
            try clear c79
            try clear c80
            try clear c86
            try clear c87
            try clear c89
            try clear c95
            try clear c96
            try clear c98
            try clear c104
            try clear c105
            try clear c107
            try clear c113
            try clear c114
            try clear c116
            try clear c131
            try clear c131b0
            try clear c132
            try clear c132b0
            try clear c133
            try clear c133b0
            try clear c134
            try clear p134
            try clear q134
            try clear hx134
            try clear hf134
            try clear c135
            try clear hx135
            try clear hf135
            try clear hcz106_0
            try clear hcz106_1
            try clear hcz106_2
            try clear hcz106_3
            try clear hcz106_4
            try clear hcz108_0
            try clear hcz108_1
            try clear hcz108_2
            try clear hcz108_3
            try clear hcz108_4
            try clear hcz115_0
            try clear hcz115_1
            try clear hcz115_2
            try clear hcz115_3
            try clear hcz115_4
            try clear hcz117_0
            try clear hcz117_1
            try clear hcz117_2
            try clear hcz117_3
            try clear hcz117_4
            try clear hcz26_0
            try clear hcz26_1
            try clear hcz26_2
            try clear hcz26_3
            try clear hcz26_4
            try clear hcz28_0
            try clear hcz28_1
            try clear hcz28_2
            try clear hcz28_3
            try clear hcz28_4
            try clear hcz35_0
            try clear hcz35_1
            try clear hcz35_2
            try clear hcz35_3
            try clear hcz35_4
            try clear hcz41_0
            try clear hcz41_1
            try clear hcz41_2
            try clear hcz41_3
            try clear hcz41_4
            try clear hcz66_0
            try clear hcz66_1
            try clear hcz66_2
            try clear hcz66_3
            try clear hcz66_4
            try clear hcz68_0
            try clear hcz68_1
            try clear hcz68_2
            try clear hcz68_3
            try clear hcz68_4
            try clear hcz77_0
            try clear hcz77_1
            try clear hcz77_2
            try clear hcz77_3
            try clear hcz77_4
            try clear hcz79_0
            try clear hcz79_1
            try clear hcz79_2
            try clear hcz79_3
            try clear hcz79_4
            try clear hcz88_0
            try clear hcz88_1
            try clear hcz88_2
            try clear hcz88_3
            try clear hcz88_4
            try clear hcz90_0
            try clear hcz90_1
            try clear hcz90_2
            try clear hcz90_3
            try clear hcz90_4
            try clear hcz97_0
            try clear hcz97_1
            try clear hcz97_2
            try clear hcz97_3
            try clear hcz97_4
            try clear hcz99_0
            try clear hcz99_1
            try clear hcz99_2
            try clear hcz99_3
            try clear hcz99_4
            try clear hfz106_0
            try clear hfz106_1
            try clear hfz106_2
            try clear hfz106_3
            try clear hfz106_4
            try clear hfz108_0
            try clear hfz108_1
            try clear hfz108_2
            try clear hfz108_3
            try clear hfz108_4
            try clear hfz115_0
            try clear hfz115_1
            try clear hfz115_2
            try clear hfz115_3
            try clear hfz115_4
            try clear hfz117_0
            try clear hfz117_1
            try clear hfz117_2
            try clear hfz117_3
            try clear hfz117_4
            try clear hfz26_0
            try clear hfz26_1
            try clear hfz26_2
            try clear hfz26_3
            try clear hfz26_4
            try clear hfz28_0
            try clear hfz28_1
            try clear hfz28_2
            try clear hfz28_3
            try clear hfz28_4
            try clear hfz35_0
            try clear hfz35_1
            try clear hfz35_2
            try clear hfz35_3
            try clear hfz35_4
            try clear hfz41_0
            try clear hfz41_1
            try clear hfz41_2
            try clear hfz41_3
            try clear hfz41_4
            try clear hfz66_0
            try clear hfz66_1
            try clear hfz66_2
            try clear hfz66_3
            try clear hfz66_4
            try clear hfz68_0
            try clear hfz68_1
            try clear hfz68_2
            try clear hfz68_3
            try clear hfz68_4
            try clear hfz77_0
            try clear hfz77_1
            try clear hfz77_2
            try clear hfz77_3
            try clear hfz77_4
            try clear hfz79_0
            try clear hfz79_1
            try clear hfz79_2
            try clear hfz79_3
            try clear hfz79_4
            try clear hfz88_0
            try clear hfz88_1
            try clear hfz88_2
            try clear hfz88_3
            try clear hfz88_4
            try clear hfz90_0
            try clear hfz90_1
            try clear hfz90_2
            try clear hfz90_3
            try clear hfz90_4
            try clear hfz97_0
            try clear hfz97_1
            try clear hfz97_2
            try clear hfz97_3
            try clear hfz97_4
            try clear hfz99_0
            try clear hfz99_1
            try clear hfz99_2
            try clear hfz99_3
            try clear hfz99_4
            try clear hx134_0
            try clear hx134_1
            try clear hx134_2
            try clear hx134_3
            try clear hx134_4
            try clear hx135_3
            try clear hx332_0
            try clear hx332_1
            try clear hx332_2
            try clear hx332_3
            try clear hx332_4
            try clear p134
            try clear p2
            try clear p332
            try clear q134
            try clear q332
            obtain ⟨x16_4, x163_4, x286003_4, x315003_4, x322003_4, rfl, HA, HK4, HO_11, HO_16, BK285, BK314, BK321, HB⟩ := hrel
            have hl16_4 := (Kd.R_reads' HO_16.out).1
            rw [hl16_4] at HO_16
            (try simp only [hl16_4])
            (try simp only [hl16_4] at BK285)
            (try simp only [hl16_4] at BK314)
            (try simp only [hl16_4] at BK321)
            (try simp only [hl16_4] at HO_11)
            cases gk with
            | zero => exact absurd HA.out (by simp [damsonlaw13_PaymentDoes.l1])
            | succ k4 =>
             have H := HA.out
             clear HA
             simp only [damsonlaw13_PaymentDoes.l1] at H
             by_cases c138 : x163_4 < (t300.length : Int)
             ·rw [if_pos c138] at H
              have c138b0 : decide (x163_4 < (t300.length : Int)) = true := decide_eq_true c138
              clear c138
              by_cases c139 : 0 ≤ x163_4
              ·rw [if_pos c139] at H
               have c139b0 : decide (0 ≤ x163_4) = true := decide_eq_true c139
               clear c139
               by_cases c140 : x163_4 < (x16_4.length : Int)
               ·rw [if_pos c140] at H
                have c140b0 : decide (x163_4 < (x16_4.length : Int)) = true := decide_eq_true c140
                clear c140
                obtain ⟨y335, hy335⟩ : ∃ y_ : List (S74), y_ = (x16_4.set (x163_4 : Int).toNat (⟨(rd_T74 x16_4 x163_4).f0, (rd_T74 x16_4 x163_4).f1, (rd_T74 x16_4 x163_4).f2, IntKind.u64.wrap (((rd_T74 x16_4 x163_4).f3) + 1), (rd_T74 x16_4 x163_4).f4⟩ : S74)) := ⟨_, rfl⟩
                replace H : (damsonlaw13_PaymentDoes.l1 k4 l0 y289 y335 x28_23 (t300.length : Int) (wrap64 (x163_4 + 1))) = some r := by first | (rw [hy335]; with_reducible exact H) | (have H2_ := (Option.bind_some _ _).symm.trans H; rw [hy335]; with_reducible exact H2_) | (have H2_ := (Option.bind_some _ _).symm.trans H; with_reducible exact H2_) | with_reducible exact H | (rw [hy335]; exact H) | exact H
                have Ny335 := Aside0.mk hy335
                clear hy335
                have H' := Aside0.mk H
                clear H
                have p334 : 0 ≤ (x163_4 : Int) := of_decide_eq_true (by first | (with_reducible assumption) | assumption)
                have q334 : x163_4 < (x16_4.length : Int) := of_decide_eq_true (by first | (with_reducible assumption) | assumption)
                obtain ⟨ad334, e334, hx334_0, hx334_1, hx334_2, hx334_3, hx334_4⟩ := at_T74 (Kd.R_reads' HO_16.out).2.2 x163_4 p334 q334
                cases e334
                replace p334 := eq_true p334
                replace q334 := eq_true q334
                have p141 : 0 ≤ (x163_4 : Int) := of_decide_eq_true (by first | (with_reducible assumption) | assumption)
                have q141 : (x163_4 : Int) < ((x16_4.length : Int) : Int) := of_decide_eq_true (by first | (with_reducible assumption) | assumption)
                obtain ⟨go141, co141, eo141, gb141, gl141, cl141, HG141⟩ := Kd.R_form HO_16.out (by omega)
                (first | cases eo141 | (injection eo141 with ea_ en_ ec_; (first | subst ea_ | (injection ea_ with ea_; subst ea_)); subst ec_; clear en_))
                have GB141 := Aside0.mk gb141
                have GG141 := Aside0.mk HG141
                clear gb141 gl141 HG141
                (first | simp only [add_plain] at hx334_0 | skip)
                (first | simp only [add_plain] at hx334_1 | skip)
                (first | simp only [add_plain] at hx334_2 | skip)
                (first | simp only [add_plain] at hx334_3 | skip)
                (first | simp only [add_plain] at hx334_4 | skip)
                obtain ⟨ce141, hcl141, hM141, hcc141, hfr141⟩ := Kd.R_elem HO_16.out z74 (x163_4 : Int) p141 q141
                obtain rfl := k74_openM hM141
                have hx141_0 : wr.cell? ⟨go141, (x163_4 : Int).toNat * 5, none⟩ = some (.int .u64 ((rd_T74 x16_4 x163_4).f0)) := hcc141 0 _ rfl
                have hx141_1 : wr.cell? ⟨go141, (x163_4 : Int).toNat * 5 + 1, none⟩ = some (.int .u64 ((rd_T74 x16_4 x163_4).f1)) := hcc141 1 _ rfl
                have hx141_2 : wr.cell? ⟨go141, (x163_4 : Int).toNat * 5 + 2, none⟩ = some (.int .u64 ((rd_T74 x16_4 x163_4).f2)) := hcc141 2 _ rfl
                have hx141_3 : wr.cell? ⟨go141, (x163_4 : Int).toNat * 5 + 3, none⟩ = some (.int .u64 ((rd_T74 x16_4 x163_4).f3)) := hcc141 3 _ rfl
                have hx141_4 : wr.cell? ⟨go141, (x163_4 : Int).toNat * 5 + 4, none⟩ = some (.int .i64 ((rd_T74 x16_4 x163_4).f4)) := hcc141 4 _ rfl
                have hf141_0 : wr.frozen? ⟨go141, (x163_4 : Int).toNat * 5, none⟩ = false := hfr141 0
                have hf141_1 : wr.frozen? ⟨go141, (x163_4 : Int).toNat * 5 + 1, none⟩ = false := hfr141 1
                have hf141_2 : wr.frozen? ⟨go141, (x163_4 : Int).toNat * 5 + 2, none⟩ = false := hfr141 2
                have hf141_3 : wr.frozen? ⟨go141, (x163_4 : Int).toNat * 5 + 3, none⟩ = false := hfr141 3
                have hf141_4 : wr.frozen? ⟨go141, (x163_4 : Int).toNat * 5 + 4, none⟩ = false := hfr141 4
                clear hcl141 hcc141 hfr141 hM141
                replace p141 := eq_true p141
                replace q141 := eq_true q141
                have HX142 := Aside0.mk (show Kd.R k74 74 wr w.heap.size (fun k_ => some k_ ≠ (v290 : Value).ownBlock ∧ k_ ≠ gb285 ∧ k_ ≠ gb314 ∧ k_ ≠ gb321) (.slice (some ⟨go141, 0, none⟩) x16_4.length co137) x16_4 from (Kd.RN HO_16))
                obtain ⟨ce142, hcl142, hM142, hcc142, hfr142⟩ := Kd.R_elem HX142.out z74 (x163_4 : Int) (of_decide_eq_true (by first | (with_reducible assumption) | assumption)) (by have h_ : (x163_4 : Int) < ((x16_4.length : Int) : Int) := of_decide_eq_true (by first | (with_reducible assumption) | assumption); first | exact h_ | (have e_ := (Kd.R_reads' HO_16.out).1; omega) | simpa using h_)
                obtain rfl := k74_openM hM142
                have HP142 := Kd.R_seg HX142.out (x163_4 : Int) (of_decide_eq_true (by first | (with_reducible assumption) | assumption)) (by have h_ : (x163_4 : Int) < ((x16_4.length : Int) : Int) := of_decide_eq_true (by first | (with_reducible assumption) | assumption); first | exact h_ | (have e_ := (Kd.R_reads' HO_16.out).1; omega) | simpa using h_) (seg := [.int .u64 (IntKind.u64.wrap (((rd_T74 x16_4 x163_4).f3) + 1))]) (j := 3) hcl142 hcc142 (show 4 ≤ 5 from by decide) (x' := (⟨(rd_T74 x16_4 x163_4).f0, (rd_T74 x16_4 x163_4).f1, (rd_T74 x16_4 x163_4).f2, IntKind.u64.wrap (((rd_T74 x16_4 x163_4).f3) + 1), (rd_T74 x16_4 x163_4).f4⟩ : S74)) (k74_mkM _ _ _ (⟨(rd_T74 x16_4 x163_4).f0, (rd_T74 x16_4 x163_4).f1, (rd_T74 x16_4 x163_4).f2, IntKind.u64.wrap (((rd_T74 x16_4 x163_4).f3) + 1), (rd_T74 x16_4 x163_4).f4⟩ : S74) ) (fun _ hk => hk)
                have hx142_3 := hcc142 3 _ rfl
                (try simp only [show (k74).sz = 5 from rfl, Nat.mul_one, Nat.add_zero] at hx142_3)
                have hf142_3 := hfr142 3
                (try simp only [show (k74).sz = 5 from rfl, Nat.mul_one, Nat.add_zero] at hf142_3)
                clear hcl142 hcc142 hfr142 hM142
                go_wp2_with (first | ((with_reducible refine gate_store (t := 22) (p := 173) rfl ?_); refine store_event (t := 22) (p := 173) (v := ?vo_w143) (w1 := (wr.setCell ⟨go141, (x163_4 : Int).toNat * 5 + 3, none⟩ (.int .u64 (IntKind.u64.wrap (((rd_T74 x16_4 x163_4).f3) + 1))))) ?hg ?ho ?hn ?hr ?_; (case ho => rfl); (case hg => rfl); (case hn => rfl); (case hr => first | (go_simp; done) | (go_simp; rfl)); intro w143 hw; have hg : wr.grownBy w143 (some go141) := (by rw [hw]; exact HP142.2); have hp_ : Kd.R k74 74 w143 w.heap.size (fun k_ => some k_ ≠ (v290 : Value).ownBlock ∧ k_ ≠ gb285 ∧ k_ ≠ gb314 ∧ k_ ≠ gb321) (.slice (some ⟨go141, 0, none⟩) x16_4.length co137) y335 := (by rw [hw, Ny335.out]; exact HP142.1); clear HP142; have n0_ := Aside0.mk (Kd.R_after (v := (.slice (some ⟨go141, 0, none⟩) x16_4.length co137)) (v1 := (.slice (some ⟨go141, 0, none⟩) x16_4.length co137)) (ok := (fun k_ => k_ ≠ gb285 ∧ k_ ≠ gb314 ∧ k_ ≠ gb321)) (by (with_reducible repeat (first | apply Kd.R_alloc | apply Kd.R_drewN | apply Kd.R_drew)); exact Kd.R_mono HO_11.out (fun _ hk => ⟨⟨hk.2.1, ⟨hk.2.2.1, hk.2.2.2⟩⟩, hk.1⟩)) hg (.inl rfl)); have n1_ := Aside0.mk (hp_); have n2_ := Aside0.mk (blk_grown (g := gb285) (blkN BK285) hg (Kd.R_away HO_16.out (fun _ hk => hk.2.1))); have n3_ := Aside0.mk (blk_grown (g := gb314) (blkN BK314) hg (Kd.R_away HO_16.out (fun _ hk => hk.2.2.1))); have n4_ := Aside0.mk (blk_grown (g := gb321) (blkN BK321) hg (Kd.R_away HO_16.out (fun _ hk => hk.2.2.2))); have n5_ := Aside0.mk ((by rw [hw]; exact below_set (HB.out) GB141.out : Below w.heap.size w w143)); clear HO_11; clear HO_16; clear BK285; clear BK314; clear BK321; clear HB; have HO_11 := n0_; have HO_16 := n1_; have BK285 := n2_; have BK314 := n3_; have BK321 := n4_; have HB := n5_; clear n0_ n1_ n2_ n3_ n4_ n5_; clear hg hw hp_))
                (try simp only [← hl16_4])
                go_roundg k4
                case measure => have := HJ7.out; have := HJ23.out; have := HK3.out; have := HK4.out; omega
                case rel => exact ⟨(y335), (wrap64 (x163_4 + 1)), (x286003_4), (x315003_4), (x322003_4), (by first | rfl | (simp; done) | (simp [*]; done)), H', ⟨by have := HJ7.out; have := HJ23.out; have := HK3.out; have := HK4.out; omega⟩, ⟨by (try simp only [hl12_3]); (try simp only [hl16_4]); (with_reducible repeat (first | apply Kd.R_alloc | apply Kd.R_drewN | apply Kd.R_drew)); exact Kd.R_mono HO_11.out (fun _ hk => ⟨hk.2, ⟨hk.1.1, ⟨hk.1.2.1, hk.1.2.2⟩⟩⟩)⟩, ⟨by (try simp only [hl12_3]); (try simp only [hl16_4]); (with_reducible repeat (first | apply Kd.R_alloc | apply Kd.R_drewN | apply Kd.R_drew)); exact HO_16.out⟩, ⟨by (try simp only [hl12_3]); (try simp only [hl16_4]); (with_reducible repeat (first | refine blk_drewN ?_ _ | refine blk_drew ?_ | refine blk_alloc ?_ _)); exact BK285.out⟩, ⟨by (try simp only [hl12_3]); (try simp only [hl16_4]); (with_reducible repeat (first | refine blk_drewN ?_ _ | refine blk_drew ?_ | refine blk_alloc ?_ _)); exact BK314.out⟩, ⟨by (try simp only [hl12_3]); (try simp only [hl16_4]); (with_reducible repeat (first | refine blk_drewN ?_ _ | refine blk_drew ?_ | refine blk_alloc ?_ _)); exact BK321.out⟩, ⟨by repeat (first | (with_reducible first | exact HB.out | apply below_alloc | apply pw_below_drewN | apply below_drew1 | refine below_set ?_ GE285.out | refine below_set ?_ GE314.out | refine below_set ?_ GE321.out) | exact HB.out)⟩⟩
               ·rw [if_neg c140] at H
                exact absurd H (by simp)
              ·rw [if_neg c139] at H
               exact absurd H (by simp)
             ·rw [if_neg c138] at H
              have c138b0 : decide (x163_4 < (t300.length : Int)) = false := decide_eq_false c138
              (try simp only [hl12_3] at c138b0)
              (try simp only [hl16_4] at c138b0)
              clear c138
              by_cases c144 : x28_23 = true
              ·subst c144
               have H1 : ((damsonref13_Same.f k4 l0 y289).bind fun t336 => (some t336)) = some r := by rw [if_pos rfl] at H; exact H
               clear H
               have H := H1
               clear H1
               replace H := Option.bind_eq_some_iff.mp H
               obtain ⟨t336, A1450, H⟩ := H
               replace H : (some t336) = some r := H
               have A145 := Aside0.mk A1450
               clear A1450
               obtain rfl := Option.some.inj H
               obtain ⟨Ao146, co146, eo146⟩ := Kd.R_slice HO_11.out
               subst eo146
               go_wp2_with (first | (go_at_call 80; (with_reducible refine (damsonref13_Same.calls k4 _ _ l0 _ _ y289 t336 _ ?side1 ?side2 ?side3 ?side4 A145.out).mono ?_); (case side1 => repeat (first | exact (Kd.C_below HR0.out HB.out) | (with_reducible refine Kd.C_alloc ?_ _) | (with_reducible refine Kd.C_drewN ?_ _) | (with_reducible refine Kd.C_drew ?_))); (case side2 => exact HC0.out); (case side3 => exact Kd.CN (Kd.R_reads' HO_11.out).2.2); (case side4 => exact (Kd.R_reads' HO_11.out).2.1); rintro e w' ⟨rfl, ⟨nd, rfl⟩⟩))
               go_ret
               exact ⟨by first | rfl | (simp [errW_none, errW_some] <;> rfl) | (simp [*, errW_none, errW_some] <;> rfl), by repeat (first | (with_reducible first | exact HB.out | apply below_alloc | apply pw_below_drewN | apply below_drew1 | refine below_set ?_ GE285.out | refine below_set ?_ GE314.out | refine below_set ?_ GE321.out) | exact HB.out)⟩
              ·replace c144 := Bool.eq_false_iff.mpr c144
               subst c144
               have H1 : (some false) = some r := by rw [if_neg (show ¬ (false = true) by decide)] at H; exact H
               clear H
               have H := H1
               clear H1
               obtain rfl := Option.some.inj H
               go_wp2
               go_ret
               exact ⟨by first | rfl | (simp [errW_none, errW_some] <;> rfl) | (simp [*, errW_none, errW_some] <;> rfl), by repeat (first | (with_reducible first | exact HB.out | apply below_alloc | apply pw_below_drewN | apply below_drew1 | refine below_set ?_ GE285.out | refine below_set ?_ GE314.out | refine below_set ?_ GE321.out) | exact HB.out)⟩
     ·rw [if_neg c15] at H
      exact absurd H (by simp)
 ·replace c7 := Bool.eq_false_iff.mpr c7
  subst c7
  have H1 : (some false) = some r := by rw [if_neg (show ¬ (false = true) by decide)] at H; exact H
  clear H
  have H := H1
  clear H1
  obtain rfl := Option.some.inj H
  go_enter Try.func19, Try.ntmps19
  go_wp2_with (first | ((with_reducible refine gate_dst (N := 7) rfl ?_); refine box_event ?hg (N := 7) ?hd (cs := #[.int .u64 a2_0, .int .u64 a2_1, .int .u64 a2_2, .int .u64 a2_3, .int .i64 a2_4]) (t := 74) ?hr ?_; (case hd => rfl); (case hg => rfl); (case hr => first | (go_simp; done) | (go_simp; rfl)); intro gb285 hg w147 hbox hb; have n0_ := Aside0.mk (below_step (belN HB) hb); have n1_ := Aside0.mk (hbox); have n2_ := Aside0.mk ((by rw [hg]; exact (below_size (belN HB)) : w.heap.size ≤ gb285)); have n3_ := Aside0.mk ((by rw [hg]; exact (below_size (belN HB)) : w.heap.size ≤ gb285)); clear HB; have HB := n0_; have BK285 := n1_; have GW285 := n2_; have GE285 := n3_; clear n0_ n1_ n2_ n3_; clear hb hbox hg) | ((with_reducible refine gate_callee (f := 68) rfl ?_); refine goesL_ (some 31) rfl rfl Try.func68 (by kernel_rfl) rfl #[] rfl (by (try simp only [List.map_toArray, List.map_cons, List.map_nil]); first | done | rfl | (simp only [List.length_drop, List.length_take]; rfl)) ?_; (with_reducible refine (damsonlaw13_live.calls k  false _ A6.out).mono ?_); rintro e w148 ⟨rfl, hb⟩; refine ⟨_, rfl, ?_⟩; have n0_ := Aside0.mk (blk_below (g := gb285) (blkN BK285) hb); have n1_ := Aside0.mk (below_step (belN HB) hb); clear BK285; clear HB; have BK285 := n0_; have HB := n1_; clear n0_ n1_; (try clear hb); (try clear hb2); (try clear hk); (try clear hi)))
  go_ret
  exact ⟨by first | rfl | (simp [errW_none, errW_some] <;> rfl) | (simp [*, errW_none, errW_some] <;> rfl), by repeat (first | (with_reducible first | exact HB.out | apply below_alloc | apply pw_below_drewN | apply below_drew1 | refine below_set ?_ GE285.out) | exact HB.out)⟩

/-- THE ONE PURE STATEMENT of damsonlaw13_PaymentDoes: yours. -/
def damsonlaw13_PaymentDoes.Pure : Prop := ∀ (l0 : List (S74)) (l1 : List (S74)) (s2 : S74) (a3 : Int) (a4 : Bool), (l0.length ≤ 9223372036854775807 ∧ ∀ y_ ∈ l0, G74 y_) → (l1.length ≤ 9223372036854775807 ∧ ∀ y_ ∈ l1, G74 y_) → G74 s2 → (Lit.int .u64 a3).wf = true → ∃ k, damsonlaw13_PaymentDoes.f k l0 l1 (s2.f0) (s2.f1) (s2.f2) (s2.f3) (s2.f4) a3 a4 = some true
theorem damsonlaw13_PaymentDoes.walk (P : damsonlaw13_PaymentDoes.Pure) (w : World) (l0 : List (S74)) (A0 : Option Addr) (c0 : Nat) (hr0 : Kd.C k74 w A0 l0.length l0) (hc0 : l0.length ≤ c0) (g0 : l0.length ≤ 9223372036854775807 ∧ ∀ y_ ∈ l0, G74 y_) (l1 : List (S74)) (A1 : Option Addr) (c1 : Nat) (hr1 : Kd.C k74 w A1 l1.length l1) (hc1 : l1.length ≤ c1) (g1 : l1.length ≤ 9223372036854775807 ∧ ∀ y_ ∈ l1, G74 y_) (s2 : S74) (g2 : G74 s2) (a3 : Int) (g3 : (Lit.int .u64 a3).wf = true) (a4 : Bool) :
  Calls Try.prog 19 #[.slice A0 l0.length c0, .slice A1 l1.length c1, .agg #[.int .u64 (s2.f0), .int .u64 (s2.f1), .int .u64 (s2.f2), .int .u64 (s2.f3), .int .i64 (s2.f4)], .int .u64 a3, .bool a4] w fun e w' => e = .returned (.bool true) ∧ Below w.heap.size w w' := by
 obtain ⟨k, h⟩ := P l0 l1 s2 a3 a4 g0 g1 g2 g3
 refine (damsonlaw13_PaymentDoes.calls k A0 c0 l0 A1 c1 l1 (s2.f0) (s2.f1) (s2.f2) (s2.f3) (s2.f4) a3 a4 true w hr0 hc0 hr1 hc1 h).mono ?_
 rintro e w' ⟨rfl, hd⟩
 exact ⟨rfl, hd⟩

end Go.Proofs.Ytcfbcoinbecdfaa.P
