-- written by a program of this session (wip/print)
import Derived.Test.YtlpdgagohafmaaaPx0
import Derived.Test.YtlpdgagohafmaaaPx4
import Derived.Test.YtlpdgagohafmaaaPx5
namespace Go.Proofs.Ytlpdgagohafmaaa.P
open Go.RowKit Go.Proofs.YtlpdgagohafmaaaW.PrintWords Go.Proofs.YtlpdgagohafmaaaW.PrintLast Go.Proofs.YtlpdgagohafmaaaW.PrintMore
attribute [local go_sem] max2_int min2_int max_two min_two max_three min_three max_four min_four   -- for this text's walks alone
set_option linter.unusedVariables false
set_option linter.unusedSimpArgs false

/-! ### invoice_Same: function 13 -/
def invoice_Same.f (k : Nat) (l0 : List (S34)) (l1 : List (S34)) : Option (Bool) := (slices_EqualFunc_Invoice_at_invoice_Same_1.f k l0 l1).bind fun t179 => (some t179)
theorem invoice_Same.mono : ∀ a0 a1 k, LeO (invoice_Same.f k a0 a1) (invoice_Same.f (k + 1) a0 a1) := by
  intro a0 a1 k
  unfold invoice_Same.f
  repeat' first
      | (with_reducible exact slices_EqualFunc_Invoice_at_invoice_Same_1.mono _ _ _)
      | (with_reducible exact LeO.refl _)
      | (with_reducible exact LeO.none _)
      | (with_reducible refine LeO.ite ?_ ?_)
      | (with_reducible refine LeO.bind ?_ (fun _ => ?_))
      | exact slices_EqualFunc_Invoice_at_invoice_Same_1.mono _ _ _
      | exact LeO.none _
      | refine LeO.ite ?_ ?_
      | refine LeO.bind ?_ (fun _ => ?_)
set_option maxHeartbeats 8000000 in
set_option maxRecDepth 100000 in
theorem invoice_Same.calls (k : Nat) (A0 : Option Addr) (c0 : Nat) (l0 : List (S34)) (A1 : Option Addr) (c1 : Nat) (l1 : List (S34)) (r : Bool) (w : World) (hr0 : Kd.C k34 w A0 l0.length l0) (hc0 : l0.length ≤ c0) (hr1 : Kd.C k34 w A1 l1.length l1) (hc1 : l1.length ≤ c1) (h : invoice_Same.f k l0 l1 = some r) :
    Calls Try.prog 13 #[.slice A0 l0.length c0, .slice A1 l1.length c1] w fun e w' => e = .returned (.bool r) ∧ Below w.heap.size w w' := by
  have HR0 := Aside0.mk hr0
  have HC0 := Aside0.mk hc0
  clear hr0 hc0
  have HR1 := Aside0.mk hr1
  have HC1 := Aside0.mk hc1
  clear hr1 hc1
  have HB := Aside0.mk (Below.refl w.heap.size w)
  have H : ((slices_EqualFunc_Invoice_at_invoice_Same_1.f k l0 l1).bind fun t179 => (some t179)) = some r := h
  clear h
  replace H := Option.bind_eq_some_iff.mp H
  obtain ⟨t179, A30, H⟩ := H
  replace H : (some t179) = some r := H
  have A3 := Aside0.mk A30
  clear A30
  obtain rfl := Option.some.inj H
  go_enter Try.func13, Try.ntmps13
  go_wp2_with (first | ((with_reducible refine gate_callee (f := 30) rfl ?_); refine goesL_ (some 7) rfl rfl Try.func30 (by kernel_rfl) rfl #[.slice A0 l0.length c0, .slice A1 l1.length c1, .func (.func 31) #[] #[]] rfl (by (try simp only [List.map_toArray, List.map_cons, List.map_nil]); first | done | rfl | (simp only [List.length_drop, List.length_take]; rfl)) ?_; (with_reducible refine (slices_EqualFunc_Invoice_at_invoice_Same_1.calls k _ _ l0 _ _ l1  t179 _ ?side1 ?side2 ?side3 ?side4 A3.out).mono ?_); (case side1 => repeat (first | exact HR0.out | (with_reducible refine Kd.C_alloc ?_ _) | (with_reducible refine Kd.C_drewN ?_ _) | (with_reducible refine Kd.C_drew ?_))); (case side2 => exact HC0.out); (case side3 => repeat (first | exact HR1.out | (with_reducible refine Kd.C_alloc ?_ _) | (with_reducible refine Kd.C_drewN ?_ _) | (with_reducible refine Kd.C_drew ?_))); (case side4 => exact HC1.out); rintro e w4 ⟨rfl, hb⟩; refine ⟨_, rfl, ?_⟩; have n0_ := Aside0.mk (below_step (by repeat (first | (with_reducible first | exact HB.out | apply below_alloc | apply pw_below_drewN | apply below_drew1) | exact HB.out)) hb); clear HB; have HB := n0_; clear n0_; (try clear hb); (try clear hb2); (try clear hk); (try clear hi)))
  go_ret
  exact ⟨by first | rfl | (simp [errW_none, errW_some] <;> rfl) | (simp [*, errW_none, errW_some] <;> rfl), by repeat (first | (with_reducible first | exact HB.out | apply below_alloc | apply pw_below_drewN | apply below_drew1) | exact HB.out)⟩

/-! ### damsonlaw12_InvoiceOrder: function 5 -/
mutual
def damsonlaw12_InvoiceOrder.j0 : Nat → List (S34) → Bool → Int → Int → Int → Int → Int → Int → Int → Int → Option (Bool)
  | 0, _, _, _, _, _, _, _, _, _, _ => none
  | k + 1, x0, x26, x181000, x181001, x181002, x181003, x182000, x182001, x182002, x182003 => if x26 = true then (some true) else ((invoice_Create.f k x0 x181000 x181001 x181002).bind fun bt184 => ((invoice_Create.f k x0 x182000 x182001 x182002).bind fun bt188 => (if bt184.2 = 0 then (damsonlaw12_InvoiceOrder.j1 k x0 bt184.1 bt188.1 (bt188.2 != 0) x181000 x181001 x181002 x181003 x182000 x182001 x182002 x182003) else (damsonlaw12_InvoiceOrder.j1 k x0 bt184.1 bt188.1 true x181000 x181001 x181002 x181003 x182000 x182001 x182002 x182003))))
def damsonlaw12_InvoiceOrder.j1 : Nat → List (S34) → List (S34) → List (S34) → Bool → Int → Int → Int → Int → Int → Int → Int → Int → Option (Bool)
  | 0, _, _, _, _, _, _, _, _, _, _, _, _ => none
  | k + 1, x0, x7, x9, x54, x181000, x181001, x181002, x181003, x182000, x182001, x182002, x182003 => if x54 = true then (some true) else ((invoice_Create.f k x7 x182000 x182001 x182002).bind fun bt192 => ((invoice_Create.f k x9 x181000 x181001 x181002).bind fun bt196 => (if bt192.2 = bt196.2 then ((invoice_Same.f k bt192.1 bt196.1).bind fun t200 => (if t200 = true then (if ((bt192.2 == 0) == (decide ((wrap64 ((x0.length : Int) + 2)) ≤ 256))) = true then (if bt192.2 = 0 then (some true) else (some (bt192.2 == 7))) else (some false)) else (some false))) else (some false))))
end
def damsonlaw12_InvoiceOrder.f (k : Nat) (l0 : List (S34)) (a1_0 : Int) (a1_1 : Int) (a1_2 : Int) (a1_3 : Int) (a2_0 : Int) (a2_1 : Int) (a2_2 : Int) (a2_3 : Int) : Option (Bool) := (damsonlaw12_live.f k).bind fun t182 => (if t182 = true then ((damsonlaw12_few.f l0).bind fun t183 => (if t183 = true then (damsonlaw12_InvoiceOrder.j0 k l0 (a1_0 == a2_0) a1_0 a1_1 a1_2 a1_3 a2_0 a2_1 a2_2 a2_3) else (damsonlaw12_InvoiceOrder.j0 k l0 true a1_0 a1_1 a1_2 a1_3 a2_0 a2_1 a2_2 a2_3))) else (some false))
theorem damsonlaw12_InvoiceOrder.mono_l : ∀ k, (∀ y0 y1 y2 y3 y4 y5 y6 y7 y8 y9, LeO (damsonlaw12_InvoiceOrder.j0 k y0 y1 y2 y3 y4 y5 y6 y7 y8 y9) (damsonlaw12_InvoiceOrder.j0 (k + 1) y0 y1 y2 y3 y4 y5 y6 y7 y8 y9)) ∧ (∀ y0 y1 y2 y3 y4 y5 y6 y7 y8 y9 y10 y11, LeO (damsonlaw12_InvoiceOrder.j1 k y0 y1 y2 y3 y4 y5 y6 y7 y8 y9 y10 y11) (damsonlaw12_InvoiceOrder.j1 (k + 1) y0 y1 y2 y3 y4 y5 y6 y7 y8 y9 y10 y11))
  | 0 => ⟨fun _ _ _ _ _ _ _ _ _ _ r h => by simp [damsonlaw12_InvoiceOrder.j0] at h, fun _ _ _ _ _ _ _ _ _ _ _ _ r h => by simp [damsonlaw12_InvoiceOrder.j1] at h⟩
  | k + 1 => by
    obtain ⟨ih0, ih1⟩ := damsonlaw12_InvoiceOrder.mono_l k
    refine ⟨?_, ?_⟩
    · intro y0 y1 y2 y3 y4 y5 y6 y7 y8 y9
      unfold damsonlaw12_InvoiceOrder.j0
      repeat' first
      | (with_reducible exact ih0 _ _ _ _ _ _ _ _ _ _)
      | (with_reducible exact ih1 _ _ _ _ _ _ _ _ _ _ _ _)
      | (with_reducible exact damsonlaw12_live.mono _)
      | (with_reducible exact invoice_Create.mono _ _ _ _ _)
      | (with_reducible exact invoice_Same.mono _ _ _)
      | (with_reducible exact LeO.refl _)
      | (with_reducible exact LeO.none _)
      | (with_reducible refine LeO.ite ?_ ?_)
      | (with_reducible refine LeO.bind ?_ (fun _ => ?_))
      | exact ih0 _ _ _ _ _ _ _ _ _ _
      | exact ih1 _ _ _ _ _ _ _ _ _ _ _ _
      | exact damsonlaw12_live.mono _
      | exact invoice_Create.mono _ _ _ _ _
      | exact invoice_Same.mono _ _ _
      | exact LeO.none _
      | refine LeO.ite ?_ ?_
      | refine LeO.bind ?_ (fun _ => ?_)
    · intro y0 y1 y2 y3 y4 y5 y6 y7 y8 y9 y10 y11
      unfold damsonlaw12_InvoiceOrder.j1
      repeat' first
      | (with_reducible exact ih0 _ _ _ _ _ _ _ _ _ _)
      | (with_reducible exact ih1 _ _ _ _ _ _ _ _ _ _ _ _)
      | (with_reducible exact damsonlaw12_live.mono _)
      | (with_reducible exact invoice_Create.mono _ _ _ _ _)
      | (with_reducible exact invoice_Same.mono _ _ _)
      | (with_reducible exact LeO.refl _)
      | (with_reducible exact LeO.none _)
      | (with_reducible refine LeO.ite ?_ ?_)
      | (with_reducible refine LeO.bind ?_ (fun _ => ?_))
      | exact ih0 _ _ _ _ _ _ _ _ _ _
      | exact ih1 _ _ _ _ _ _ _ _ _ _ _ _
      | exact damsonlaw12_live.mono _
      | exact invoice_Create.mono _ _ _ _ _
      | exact invoice_Same.mono _ _ _
      | exact LeO.none _
      | refine LeO.ite ?_ ?_
      | refine LeO.bind ?_ (fun _ => ?_)
theorem damsonlaw12_InvoiceOrder.mono : ∀ a0 a1 a2 a3 a4 a5 a6 a7 a8 k, LeO (damsonlaw12_InvoiceOrder.f k a0 a1 a2 a3 a4 a5 a6 a7 a8) (damsonlaw12_InvoiceOrder.f (k + 1) a0 a1 a2 a3 a4 a5 a6 a7 a8) := by
  intro a0 a1 a2 a3 a4 a5 a6 a7 a8 k
  obtain ⟨ih0, ih1⟩ := damsonlaw12_InvoiceOrder.mono_l k
  unfold damsonlaw12_InvoiceOrder.f
  repeat' first
      | (with_reducible exact ih0 _ _ _ _ _ _ _ _ _ _)
      | (with_reducible exact ih1 _ _ _ _ _ _ _ _ _ _ _ _)
      | (with_reducible exact damsonlaw12_live.mono _)
      | (with_reducible exact invoice_Create.mono _ _ _ _ _)
      | (with_reducible exact invoice_Same.mono _ _ _)
      | (with_reducible exact LeO.refl _)
      | (with_reducible exact LeO.none _)
      | (with_reducible refine LeO.ite ?_ ?_)
      | (with_reducible refine LeO.bind ?_ (fun _ => ?_))
      | exact ih0 _ _ _ _ _ _ _ _ _ _
      | exact ih1 _ _ _ _ _ _ _ _ _ _ _ _
      | exact damsonlaw12_live.mono _
      | exact invoice_Create.mono _ _ _ _ _
      | exact invoice_Same.mono _ _ _
      | exact LeO.none _
      | refine LeO.ite ?_ ?_
      | refine LeO.bind ?_ (fun _ => ?_)
set_option maxHeartbeats 8000000 in
set_option maxRecDepth 100000 in
theorem damsonlaw12_InvoiceOrder.calls (k : Nat) (A0 : Option Addr) (c0 : Nat) (l0 : List (S34)) (a1_0 : Int) (a1_1 : Int) (a1_2 : Int) (a1_3 : Int) (a2_0 : Int) (a2_1 : Int) (a2_2 : Int) (a2_3 : Int) (r : Bool) (w : World) (hr0 : Kd.C k34 w A0 l0.length l0) (hc0 : l0.length ≤ c0) (h : damsonlaw12_InvoiceOrder.f k l0 a1_0 a1_1 a1_2 a1_3 a2_0 a2_1 a2_2 a2_3 = some r) :
    Calls Try.prog 5 #[.slice A0 l0.length c0, .agg #[.int .u64 a1_0, .int .u64 a1_1, .int .u64 a1_2, .int .i64 a1_3], .agg #[.int .u64 a2_0, .int .u64 a2_1, .int .u64 a2_2, .int .i64 a2_3]] w fun e w' => e = .returned (.bool r) ∧ Below w.heap.size w w' := by
  have hu34 := Try.underlying34
  have HR0 := Aside0.mk hr0
  have HC0 := Aside0.mk hc0
  clear hr0 hc0
  have HB := Aside0.mk (Below.refl w.heap.size w)
  have H : ((damsonlaw12_live.f k).bind fun t182 => (if t182 = true then ((damsonlaw12_few.f l0).bind fun t183 => (if t183 = true then (damsonlaw12_InvoiceOrder.j0 k l0 (a1_0 == a2_0) a1_0 a1_1 a1_2 a1_3 a2_0 a2_1 a2_2 a2_3) else (damsonlaw12_InvoiceOrder.j0 k l0 true a1_0 a1_1 a1_2 a1_3 a2_0 a2_1 a2_2 a2_3))) else (some false))) = some r := h
  clear h
  replace H := Option.bind_eq_some_iff.mp H
  obtain ⟨t182, A40, H⟩ := H
  replace H : (if t182 = true then ((damsonlaw12_few.f l0).bind fun t183 => (if t183 = true then (damsonlaw12_InvoiceOrder.j0 k l0 (a1_0 == a2_0) a1_0 a1_1 a1_2 a1_3 a2_0 a2_1 a2_2 a2_3) else (damsonlaw12_InvoiceOrder.j0 k l0 true a1_0 a1_1 a1_2 a1_3 a2_0 a2_1 a2_2 a2_3))) else (some false)) = some r := H
  have A4 := Aside0.mk A40
  clear A40
  by_cases c5 : t182 = true
  · subst c5
    have H1 : ((damsonlaw12_few.f l0).bind fun t183 => (if t183 = true then (damsonlaw12_InvoiceOrder.j0 k l0 (a1_0 == a2_0) a1_0 a1_1 a1_2 a1_3 a2_0 a2_1 a2_2 a2_3) else (damsonlaw12_InvoiceOrder.j0 k l0 true a1_0 a1_1 a1_2 a1_3 a2_0 a2_1 a2_2 a2_3))) = some r := by rw [if_pos rfl] at H; exact H
    clear H
    have H := H1
    clear H1
    have HC6 := Aside0.mk H
    clear H
    go_enter Try.func5, Try.ntmps5
    go_upto_region 3 with (first | ((with_reducible refine gate_dst (N := 4) rfl ?_); (try (refine gate_guard (by rfl) ?_; dsimp only)); refine box_event ?hg (N := 4) ?hd (cs := #[.int .u64 a1_0, .int .u64 a1_1, .int .u64 a1_2, .int .i64 a1_3]) (t := 34) ?hr ?_; (case hd => rfl); (case hg => rfl); (case hr => first | (go_simp; done) | (go_simp; rfl)); intro gb180 hg w7 hbox hb; have n0_ := Aside0.mk (below_step (by repeat (first | (with_reducible first | exact HB.out | apply below_alloc | apply pw_below_drewN | apply below_drew1) | exact HB.out)) hb); have n1_ := Aside0.mk (hbox); have n2_ := Aside0.mk ((by rw [hg]; exact (below_size (by repeat (first | (with_reducible first | exact HB.out | apply below_alloc | apply pw_below_drewN | apply below_drew1) | exact HB.out))) : w.heap.size ≤ gb180)); have n3_ := Aside0.mk ((by rw [hg]; exact (below_size (by repeat (first | (with_reducible first | exact HB.out | apply below_alloc | apply pw_below_drewN | apply below_drew1) | exact HB.out))) : w.heap.size ≤ gb180)); clear HB; have HB := n0_; have BK180 := n1_; have GW180 := n2_; have GE180 := n3_; clear n0_ n1_ n2_ n3_; clear hb hbox hg) | ((with_reducible refine gate_dst (N := 5) rfl ?_); (try (refine gate_guard (by rfl) ?_; dsimp only)); refine box_event ?hg (N := 5) ?hd (cs := #[.int .u64 a2_0, .int .u64 a2_1, .int .u64 a2_2, .int .i64 a2_3]) (t := 34) ?hr ?_; (case hd => rfl); (case hg => rfl); (case hr => first | (go_simp; done) | (go_simp; rfl)); intro gb181 hg w8 hbox hb; have n0_ := Aside0.mk (blk_below (g := gb180) (o := .cells #[.int .u64 a1_0, .int .u64 a1_1, .int .u64 a1_2, .int .i64 a1_3] 34 (0, 0)) (by (with_reducible repeat (first | refine blk_drewN ?_ _ | refine blk_drew ?_ | refine blk_alloc ?_ _)); exact BK180.out) hb); have n1_ := Aside0.mk (below_step (by repeat (first | (with_reducible first | exact HB.out | apply below_alloc | apply pw_below_drewN | apply below_drew1 | refine below_set ?_ GE180.out) | exact HB.out)) hb); have n2_ := Aside0.mk (hbox); have n3_ := Aside0.mk ((by rw [hg]; exact (below_size (by repeat (first | (with_reducible first | exact HB.out | apply below_alloc | apply pw_below_drewN | apply below_drew1 | refine below_set ?_ GE180.out) | exact HB.out))) : w.heap.size ≤ gb181)); have n4_ := Aside0.mk ((by rw [hg]; exact (below_size (by repeat (first | (with_reducible first | exact HB.out | apply below_alloc | apply pw_below_drewN | apply below_drew1 | refine below_set ?_ GE180.out) | exact HB.out))) : w.heap.size ≤ gb181)); have n5_ := Aside0.mk ((by rw [hg]; exact Nat.ne_of_lt (blk_lt (g := gb180) (o := .cells #[.int .u64 a1_0, .int .u64 a1_1, .int .u64 a1_2, .int .i64 a1_3] 34 (0, 0)) (by (with_reducible repeat (first | refine blk_drewN ?_ _ | refine blk_drew ?_ | refine blk_alloc ?_ _)); exact BK180.out)) : gb180 ≠ gb181)); have n6_ := Aside0.mk ((by rw [hg]; exact Nat.ne_of_gt (blk_lt (g := gb180) (o := .cells #[.int .u64 a1_0, .int .u64 a1_1, .int .u64 a1_2, .int .i64 a1_3] 34 (0, 0)) (by (with_reducible repeat (first | refine blk_drewN ?_ _ | refine blk_drew ?_ | refine blk_alloc ?_ _)); exact BK180.out)) : gb181 ≠ gb180)); clear BK180; clear HB; have BK180 := n0_; have HB := n1_; have BK181 := n2_; have GW181 := n3_; have GE181 := n4_; have NB180_181 := n5_; have NB181_180 := n6_; clear n0_ n1_ n2_ n3_ n4_ n5_ n6_; clear hb hbox hg) | ((with_reducible refine gate_callee (f := 9) rfl ?_); refine goesL_ (some 15) rfl rfl Try.func9 (by kernel_rfl) rfl #[] rfl (by (try simp only [List.map_toArray, List.map_cons, List.map_nil]); first | done | rfl | (simp only [List.length_drop, List.length_take]; rfl)) ?_; (with_reducible refine (damsonlaw12_live.calls k  true _ A4.out).mono ?_); rintro e w9 ⟨rfl, hb⟩; refine ⟨_, rfl, ?_⟩; have n0_ := Aside0.mk (blk_below (g := gb180) (o := .cells #[.int .u64 a1_0, .int .u64 a1_1, .int .u64 a1_2, .int .i64 a1_3] 34 (0, 0)) (by (with_reducible repeat (first | refine blk_drewN ?_ _ | refine blk_drew ?_ | refine blk_alloc ?_ _)); exact BK180.out) hb); have n1_ := Aside0.mk (blk_below (g := gb181) (o := .cells #[.int .u64 a2_0, .int .u64 a2_1, .int .u64 a2_2, .int .i64 a2_3] 34 (0, 0)) (by (with_reducible repeat (first | refine blk_drewN ?_ _ | refine blk_drew ?_ | refine blk_alloc ?_ _)); exact BK181.out) hb); have n2_ := Aside0.mk (below_step (by repeat (first | (with_reducible first | exact HB.out | apply below_alloc | apply pw_below_drewN | apply below_drew1 | refine below_set ?_ GE180.out | refine below_set ?_ GE181.out) | exact HB.out)) hb); clear BK180; clear BK181; clear HB; have BK180 := n0_; have BK181 := n1_; have HB := n2_; clear n0_ n1_ n2_; (try clear hb); (try clear hb2); (try clear hk); (try clear hi)))
    (try simp only [Act.put, List.setIfInBounds_toArray, List.set_cons_zero, List.set_cons_succ])
    go_cut [26] (fun v26 wc => ∃ (kq : Nat) (x26_5 : Bool), v26 = .bool x26_5 ∧ Aside0 (damsonlaw12_InvoiceOrder.j0 kq l0 x26_5 a1_0 a1_1 a1_2 a1_3 a2_0 a2_1 a2_2 a2_3 = some r) ∧ Aside0 (kq ≤ k) ∧ Aside0 (wc.heap[gb180]? = some (.cells #[.int .u64 a1_0, .int .u64 a1_1, .int .u64 a1_2, .int .i64 a1_3] 34 (0, 0))) ∧ Aside0 (wc.heap[gb181]? = some (.cells #[.int .u64 a2_0, .int .u64 a2_1, .int .u64 a2_2, .int .i64 a2_3] 34 (0, 0))) ∧ Aside0 (Below w.heap.size w wc))
    case first =>
      have H := HC6.out
      clear HC6
      replace H := Option.bind_eq_some_iff.mp H
      obtain ⟨t183, A100, H⟩ := H
      replace H : (if t183 = true then (damsonlaw12_InvoiceOrder.j0 k l0 (a1_0 == a2_0) a1_0 a1_1 a1_2 a1_3 a2_0 a2_1 a2_2 a2_3) else (damsonlaw12_InvoiceOrder.j0 k l0 true a1_0 a1_1 a1_2 a1_3 a2_0 a2_1 a2_2 a2_3)) = some r := H
      have A10 := Aside0.mk A100
      clear A100
      by_cases c11 : t183 = true
      · subst c11
        have H1 : (damsonlaw12_InvoiceOrder.j0 k l0 (a1_0 == a2_0) a1_0 a1_1 a1_2 a1_3 a2_0 a2_1 a2_2 a2_3) = some r := by rw [if_pos rfl] at H; exact H
        clear H
        have H := H1
        clear H1
        have H' := Aside0.mk H
        clear H
        go_wp2_with (first | ((with_reducible refine gate_callee (f := 10) rfl ?_); refine goesL_ (some 18) rfl rfl Try.func10 (by kernel_rfl) rfl #[.slice A0 l0.length c0] rfl (by (try simp only [List.map_toArray, List.map_cons, List.map_nil]); first | done | rfl | (simp only [List.length_drop, List.length_take]; rfl)) ?_; (with_reducible refine (damsonlaw12_few.calls _ _ l0 true _ ?side1 ?side2 A10.out).mono ?_); (case side1 => repeat (first | exact (Kd.C_below HR0.out HB.out) | (with_reducible refine Kd.C_alloc ?_ _) | (with_reducible refine Kd.C_drewN ?_ _) | (with_reducible refine Kd.C_drew ?_))); (case side2 => exact HC0.out); rintro e w' ⟨rfl, ⟨nd, rfl⟩⟩; refine ⟨_, rfl, ?_⟩; have hnb12 := NB180_181.out; have hnc12 := NB181_180.out; have hcz13_0 : w9.cell? ⟨gb180, 0, none⟩ = some (.int .u64 a1_0) := (blk_cell BK180.out 0).trans rfl; have hcz13_1 : w9.cell? ⟨gb180, 1, none⟩ = some (.int .u64 a1_1) := (blk_cell BK180.out 1).trans rfl; have hcz13_2 : w9.cell? ⟨gb180, 2, none⟩ = some (.int .u64 a1_2) := (blk_cell BK180.out 2).trans rfl; have hcz13_3 : w9.cell? ⟨gb180, 3, none⟩ = some (.int .i64 a1_3) := (blk_cell BK180.out 3).trans rfl; have hfz13_0 := blk_frozen BK180.out 0; have hfz13_1 := blk_frozen BK180.out 1; have hfz13_2 := blk_frozen BK180.out 2; have hfz13_3 := blk_frozen BK180.out 3; have hcz14_0 : w9.cell? ⟨gb181, 0, none⟩ = some (.int .u64 a2_0) := (blk_cell BK181.out 0).trans rfl; have hcz14_1 : w9.cell? ⟨gb181, 1, none⟩ = some (.int .u64 a2_1) := (blk_cell BK181.out 1).trans rfl; have hcz14_2 : w9.cell? ⟨gb181, 2, none⟩ = some (.int .u64 a2_2) := (blk_cell BK181.out 2).trans rfl; have hcz14_3 : w9.cell? ⟨gb181, 3, none⟩ = some (.int .i64 a2_3) := (blk_cell BK181.out 3).trans rfl; have hfz14_0 := blk_frozen BK181.out 0; have hfz14_1 := blk_frozen BK181.out 1; have hfz14_2 := blk_frozen BK181.out 2; have hfz14_3 := blk_frozen BK181.out 3))
        go_meet
        case rel => exact ⟨_, ((a1_0 == a2_0)), (by first | rfl | (simp; done) | (simp [*]; done)), H', ⟨by first | omega | exact Nat.le_refl _⟩, ⟨by (with_reducible repeat (first | refine blk_drewN ?_ _ | refine blk_drew ?_ | refine blk_alloc ?_ _)); exact BK180.out⟩, ⟨by (with_reducible repeat (first | refine blk_drewN ?_ _ | refine blk_drew ?_ | refine blk_alloc ?_ _)); exact BK181.out⟩, ⟨by repeat (first | (with_reducible first | exact HB.out | apply below_alloc | apply pw_below_drewN | apply below_drew1 | refine below_set ?_ GE180.out | refine below_set ?_ GE181.out) | exact HB.out)⟩⟩
      · replace c11 := Bool.eq_false_iff.mpr c11
        subst c11
        have H1 : (damsonlaw12_InvoiceOrder.j0 k l0 true a1_0 a1_1 a1_2 a1_3 a2_0 a2_1 a2_2 a2_3) = some r := by rw [if_neg (show ¬ (false = true) by decide)] at H; exact H
        clear H
        have H := H1
        clear H1
        have H' := Aside0.mk H
        clear H
        go_wp2_with (first | ((with_reducible refine gate_callee (f := 10) rfl ?_); refine goesL_ (some 18) rfl rfl Try.func10 (by kernel_rfl) rfl #[.slice A0 l0.length c0] rfl (by (try simp only [List.map_toArray, List.map_cons, List.map_nil]); first | done | rfl | (simp only [List.length_drop, List.length_take]; rfl)) ?_; (with_reducible refine (damsonlaw12_few.calls _ _ l0 false _ ?side1 ?side2 A10.out).mono ?_); (case side1 => repeat (first | exact (Kd.C_below HR0.out HB.out) | (with_reducible refine Kd.C_alloc ?_ _) | (with_reducible refine Kd.C_drewN ?_ _) | (with_reducible refine Kd.C_drew ?_))); (case side2 => exact HC0.out); rintro e w' ⟨rfl, ⟨nd, rfl⟩⟩; refine ⟨_, rfl, ?_⟩))
        go_meet
        case rel => exact ⟨_, (true), (by first | rfl | (simp; done) | (simp [*]; done)), H', ⟨by first | omega | exact Nat.le_refl _⟩, ⟨by (with_reducible repeat (first | refine blk_drewN ?_ _ | refine blk_drew ?_ | refine blk_alloc ?_ _)); exact BK180.out⟩, ⟨by (with_reducible repeat (first | refine blk_drewN ?_ _ | refine blk_drew ?_ | refine blk_alloc ?_ _)); exact BK181.out⟩, ⟨by repeat (first | (with_reducible first | exact HB.out | apply below_alloc | apply pw_below_drewN | apply below_drew1 | refine below_set ?_ GE180.out | refine below_set ?_ GE181.out) | exact HB.out)⟩⟩
    case rest =>
      clear HC6
      try clear c1
      try clear p2
      try clear c5
      try clear c9
      try clear c10
      try clear c11
      try clear c12
      try clear hcz13_0
      try clear hcz13_1
      try clear hcz13_2
      try clear hcz13_3
      try clear hcz14_0
      try clear hcz14_1
      try clear hcz14_2
      try clear hcz14_3
      try clear hfz13_0
      try clear hfz13_1
      try clear hfz13_2
      try clear hfz13_3
      try clear hfz14_0
      try clear hfz14_1
      try clear hfz14_2
      try clear hfz14_3
      obtain ⟨kq, x26_5, rfl, HA, HJ5, BK180, BK181, HB⟩ := hcut
      cases kq with
      | zero => exact absurd HA.out (by simp [damsonlaw12_InvoiceOrder.j0])
      | succ kj5 =>
        have H := HA.out
        clear HA
        simp only [damsonlaw12_InvoiceOrder.j0] at H
        by_cases c15 : x26_5 = true
        · subst c15
          have H1 : (some true) = some r := by rw [if_pos rfl] at H; exact H
          clear H
          have H := H1
          clear H1
          obtain rfl := Option.some.inj H
          go_wp2
          go_ret
          exact ⟨by first | rfl | (simp [errW_none, errW_some] <;> rfl) | (simp [*, errW_none, errW_some] <;> rfl), by repeat (first | (with_reducible first | exact HB.out | apply below_alloc | apply pw_below_drewN | apply below_drew1 | refine below_set ?_ GE180.out | refine below_set ?_ GE181.out) | exact HB.out)⟩
        · replace c15 := Bool.eq_false_iff.mpr c15
          subst c15
          have H1 : ((invoice_Create.f kj5 l0 a1_0 a1_1 a1_2).bind fun bt184 => ((invoice_Create.f kj5 l0 a2_0 a2_1 a2_2).bind fun bt188 => (if bt184.2 = 0 then (damsonlaw12_InvoiceOrder.j1 kj5 l0 bt184.1 bt188.1 (bt188.2 != 0) a1_0 a1_1 a1_2 a1_3 a2_0 a2_1 a2_2 a2_3) else (damsonlaw12_InvoiceOrder.j1 kj5 l0 bt184.1 bt188.1 true a1_0 a1_1 a1_2 a1_3 a2_0 a2_1 a2_2 a2_3)))) = some r := by rw [if_neg (show ¬ (false = true) by decide)] at H; exact H
          clear H
          have H := H1
          clear H1
          replace H := Option.bind_eq_some_iff.mp H
          obtain ⟨⟨t184, t185⟩, A160, H⟩ := H
          replace H : ((invoice_Create.f kj5 l0 a2_0 a2_1 a2_2).bind fun bt188 => (if t185 = 0 then (damsonlaw12_InvoiceOrder.j1 kj5 l0 t184 bt188.1 (bt188.2 != 0) a1_0 a1_1 a1_2 a1_3 a2_0 a2_1 a2_2 a2_3) else (damsonlaw12_InvoiceOrder.j1 kj5 l0 t184 bt188.1 true a1_0 a1_1 a1_2 a1_3 a2_0 a2_1 a2_2 a2_3))) = some r := H
          have A16 := Aside0.mk A160
          clear A160
          replace H := Option.bind_eq_some_iff.mp H
          obtain ⟨⟨t188, t189⟩, A170, H⟩ := H
          replace H : (if t185 = 0 then (damsonlaw12_InvoiceOrder.j1 kj5 l0 t184 t188 (t189 != 0) a1_0 a1_1 a1_2 a1_3 a2_0 a2_1 a2_2 a2_3) else (damsonlaw12_InvoiceOrder.j1 kj5 l0 t184 t188 true a1_0 a1_1 a1_2 a1_3 a2_0 a2_1 a2_2 a2_3)) = some r := H
          have A17 := Aside0.mk A170
          clear A170
          have HC18 := Aside0.mk H
          clear H
          have hnb19 := NB180_181.out
          have hnc19 := NB181_180.out
          have hcz20_0 : wc.cell? ⟨gb180, 0, none⟩ = some (.int .u64 a1_0) := (blk_cell BK180.out 0).trans rfl
          have hcz20_1 : wc.cell? ⟨gb180, 1, none⟩ = some (.int .u64 a1_1) := (blk_cell BK180.out 1).trans rfl
          have hcz20_2 : wc.cell? ⟨gb180, 2, none⟩ = some (.int .u64 a1_2) := (blk_cell BK180.out 2).trans rfl
          have hcz20_3 : wc.cell? ⟨gb180, 3, none⟩ = some (.int .i64 a1_3) := (blk_cell BK180.out 3).trans rfl
          have hfz20_0 := blk_frozen BK180.out 0
          have hfz20_1 := blk_frozen BK180.out 1
          have hfz20_2 := blk_frozen BK180.out 2
          have hfz20_3 := blk_frozen BK180.out 3
          go_upto_region 7 with (first | ((with_reducible refine gate_callee (f := 11) rfl ?_); refine goesL_ (some 35) rfl rfl Try.func11 (by kernel_rfl) rfl #[.slice A0 l0.length c0, .int .u64 a1_0, .int .u64 a1_1, .int .u64 a1_2] rfl (by (try simp only [List.map_toArray, List.map_cons, List.map_nil]); first | done | rfl | (simp only [List.length_drop, List.length_take]; rfl)) ?_; (with_reducible refine (invoice_Create.calls kj5 _ _ l0 a1_0 a1_1 a1_2 t184 t185 _ ?side1 ?side2 A16.out).mono ?_); (case side1 => repeat (first | exact (Kd.C_below HR0.out HB.out) | (with_reducible refine Kd.C_alloc ?_ _) | (with_reducible refine Kd.C_drewN ?_ _) | (with_reducible refine Kd.C_drew ?_))); (case side2 => exact HC0.out); rintro e w21 ⟨v186, rfl, ho0, hb⟩; refine ⟨_, rfl, ?_⟩; have n0_ := Aside0.mk (Kd.R_lower (Kd.R_newB (Kd.R_newB ho0 (g := gb180) (o := .cells #[.int .u64 a1_0, .int .u64 a1_1, .int .u64 a1_2, .int .i64 a1_3] 34 (0, 0)) (by (with_reducible repeat (first | refine blk_drewN ?_ _ | refine blk_drew ?_ | refine blk_alloc ?_ _)); exact BK180.out)) (g := gb181) (o := .cells #[.int .u64 a2_0, .int .u64 a2_1, .int .u64 a2_2, .int .i64 a2_3] 34 (0, 0)) (by (with_reducible repeat (first | refine blk_drewN ?_ _ | refine blk_drew ?_ | refine blk_alloc ?_ _)); exact BK181.out)) (below_size (by repeat (first | (with_reducible first | exact HB.out | apply below_alloc | apply pw_below_drewN | apply below_drew1 | refine below_set ?_ GE180.out | refine below_set ?_ GE181.out) | exact HB.out)))); have n1_ := Aside0.mk (blk_below (g := gb180) (o := .cells #[.int .u64 a1_0, .int .u64 a1_1, .int .u64 a1_2, .int .i64 a1_3] 34 (0, 0)) (by (with_reducible repeat (first | refine blk_drewN ?_ _ | refine blk_drew ?_ | refine blk_alloc ?_ _)); exact BK180.out) hb); have n2_ := Aside0.mk (blk_below (g := gb181) (o := .cells #[.int .u64 a2_0, .int .u64 a2_1, .int .u64 a2_2, .int .i64 a2_3] 34 (0, 0)) (by (with_reducible repeat (first | refine blk_drewN ?_ _ | refine blk_drew ?_ | refine blk_alloc ?_ _)); exact BK181.out) hb); have n3_ := Aside0.mk (below_step (by repeat (first | (with_reducible first | exact HB.out | apply below_alloc | apply pw_below_drewN | apply below_drew1 | refine below_set ?_ GE180.out | refine below_set ?_ GE181.out) | exact HB.out)) hb); clear BK180; clear BK181; clear HB; have HO187 := n0_; have BK180 := n1_; have BK181 := n2_; have HB := n3_; clear n0_ n1_ n2_ n3_; (try clear hb); (try clear hb2); (try clear hk); (try clear hi); (try clear ho0); have hcz22_0 : w21.cell? ⟨gb181, 0, none⟩ = some (.int .u64 a2_0) := (blk_cell BK181.out 0).trans rfl; have hcz22_1 : w21.cell? ⟨gb181, 1, none⟩ = some (.int .u64 a2_1) := (blk_cell BK181.out 1).trans rfl; have hcz22_2 : w21.cell? ⟨gb181, 2, none⟩ = some (.int .u64 a2_2) := (blk_cell BK181.out 2).trans rfl; have hcz22_3 : w21.cell? ⟨gb181, 3, none⟩ = some (.int .i64 a2_3) := (blk_cell BK181.out 3).trans rfl; have hfz22_0 := blk_frozen BK181.out 0; have hfz22_1 := blk_frozen BK181.out 1; have hfz22_2 := blk_frozen BK181.out 2; have hfz22_3 := blk_frozen BK181.out 3) | ((with_reducible refine gate_callee (f := 11) rfl ?_); refine goesL_ (some 46) rfl rfl Try.func11 (by kernel_rfl) rfl #[.slice A0 l0.length c0, .int .u64 a2_0, .int .u64 a2_1, .int .u64 a2_2] rfl (by (try simp only [List.map_toArray, List.map_cons, List.map_nil]); first | done | rfl | (simp only [List.length_drop, List.length_take]; rfl)) ?_; (with_reducible refine (invoice_Create.calls kj5 _ _ l0 a2_0 a2_1 a2_2 t188 t189 _ ?side1 ?side2 A17.out).mono ?_); (case side1 => repeat (first | exact (Kd.C_below HR0.out HB.out) | (with_reducible refine Kd.C_alloc ?_ _) | (with_reducible refine Kd.C_drewN ?_ _) | (with_reducible refine Kd.C_drew ?_))); (case side2 => exact HC0.out); rintro e w23 ⟨v190, rfl, ho0, hb⟩; refine ⟨_, rfl, ?_⟩; have n0_ := Aside0.mk (Kd.R_elder' (by (with_reducible repeat (first | apply Kd.R_alloc | apply Kd.R_drewN | apply Kd.R_drew)); exact HO187.out) (Kd.R_base ho0) hb); have n1_ := Aside0.mk (Kd.R_lower (Kd.R_newB (Kd.R_newB (Kd.R_new' ho0 (Kd.R_lt (by (with_reducible repeat (first | apply Kd.R_alloc | apply Kd.R_drewN | apply Kd.R_drew)); exact HO187.out))) (g := gb180) (o := .cells #[.int .u64 a1_0, .int .u64 a1_1, .int .u64 a1_2, .int .i64 a1_3] 34 (0, 0)) (by (with_reducible repeat (first | refine blk_drewN ?_ _ | refine blk_drew ?_ | refine blk_alloc ?_ _)); exact BK180.out)) (g := gb181) (o := .cells #[.int .u64 a2_0, .int .u64 a2_1, .int .u64 a2_2, .int .i64 a2_3] 34 (0, 0)) (by (with_reducible repeat (first | refine blk_drewN ?_ _ | refine blk_drew ?_ | refine blk_alloc ?_ _)); exact BK181.out)) (below_size (by repeat (first | (with_reducible first | exact HB.out | apply below_alloc | apply pw_below_drewN | apply below_drew1 | refine below_set ?_ GE180.out | refine below_set ?_ GE181.out) | exact HB.out)))); have n2_ := Aside0.mk (blk_below (g := gb180) (o := .cells #[.int .u64 a1_0, .int .u64 a1_1, .int .u64 a1_2, .int .i64 a1_3] 34 (0, 0)) (by (with_reducible repeat (first | refine blk_drewN ?_ _ | refine blk_drew ?_ | refine blk_alloc ?_ _)); exact BK180.out) hb); have n3_ := Aside0.mk (blk_below (g := gb181) (o := .cells #[.int .u64 a2_0, .int .u64 a2_1, .int .u64 a2_2, .int .i64 a2_3] 34 (0, 0)) (by (with_reducible repeat (first | refine blk_drewN ?_ _ | refine blk_drew ?_ | refine blk_alloc ?_ _)); exact BK181.out) hb); have n4_ := Aside0.mk (below_step (by repeat (first | (with_reducible first | exact HB.out | apply below_alloc | apply pw_below_drewN | apply below_drew1 | refine below_set ?_ GE180.out | refine below_set ?_ GE181.out) | exact HB.out)) hb); clear HO187; clear BK180; clear BK181; clear HB; have HO187 := n0_; have HO191 := n1_; have BK180 := n2_; have BK181 := n3_; have HB := n4_; clear n0_ n1_ n2_ n3_ n4_; (try clear hb); (try clear hb2); (try clear hk); (try clear hi); (try clear ho0)))
          (try simp only [Act.put, List.setIfInBounds_toArray, List.set_cons_zero, List.set_cons_succ])
          go_cut [54] (fun v54 wc => ∃ (kq : Nat) (x54_17 : Bool), v54 = .bool x54_17 ∧ Aside0 (damsonlaw12_InvoiceOrder.j1 kq l0 t184 t188 x54_17 a1_0 a1_1 a1_2 a1_3 a2_0 a2_1 a2_2 a2_3 = some r) ∧ Aside0 (kq ≤ kj5) ∧ Aside0 (Kd.R k34 34 wc w.heap.size (fun k_ => some k_ ≠ (v190 : Value).ownBlock ∧ k_ ≠ gb180 ∧ k_ ≠ gb181) v186 t184) ∧ Aside0 (Kd.R k34 34 wc w.heap.size (fun k_ => some k_ ≠ (v186 : Value).ownBlock ∧ k_ ≠ gb180 ∧ k_ ≠ gb181) v190 t188) ∧ Aside0 (wc.heap[gb180]? = some (.cells #[.int .u64 a1_0, .int .u64 a1_1, .int .u64 a1_2, .int .i64 a1_3] 34 (0, 0))) ∧ Aside0 (wc.heap[gb181]? = some (.cells #[.int .u64 a2_0, .int .u64 a2_1, .int .u64 a2_2, .int .i64 a2_3] 34 (0, 0))) ∧ Aside0 (Below w.heap.size w wc))
          case first =>
            have H := HC18.out
            clear HC18
            by_cases c24 : t185 = 0
            · rw [if_pos c24] at H
              have c24b0 : (t185 == 0) = true := beq_iff_eq.mpr c24
              have c24b1 : (t185 != 0) = false := bne_eq_false_iff_eq.mpr c24
              clear c24
              (first | rw [c24b0] | (simp only [i64_w, i32_w]; rw [c24b0]) | skip)
              have H' := Aside0.mk H
              clear H
              go_wp2
              go_meet
              case rel => exact ⟨_, ((t189 != 0)), (by first | rfl | (simp; done) | (simp [*]; done)), H', ⟨by have := HJ5.out; first | omega | exact Nat.le_refl _⟩, ⟨by (with_reducible repeat (first | apply Kd.R_alloc | apply Kd.R_drewN | apply Kd.R_drew)); exact Kd.R_mono HO187.out (fun _ hk => ⟨hk.2, ⟨hk.1.1.2, hk.1.2⟩⟩)⟩, ⟨by (with_reducible repeat (first | apply Kd.R_alloc | apply Kd.R_drewN | apply Kd.R_drew)); exact Kd.R_mono HO191.out (fun _ hk => ⟨hk.1.1.2, ⟨hk.1.2, hk.2⟩⟩)⟩, ⟨by (with_reducible repeat (first | refine blk_drewN ?_ _ | refine blk_drew ?_ | refine blk_alloc ?_ _)); exact BK180.out⟩, ⟨by (with_reducible repeat (first | refine blk_drewN ?_ _ | refine blk_drew ?_ | refine blk_alloc ?_ _)); exact BK181.out⟩, ⟨by repeat (first | (with_reducible first | exact HB.out | apply below_alloc | apply pw_below_drewN | apply below_drew1 | refine below_set ?_ GE180.out | refine below_set ?_ GE181.out) | exact HB.out)⟩⟩
            · rw [if_neg c24] at H
              have c24b0 : (t185 == 0) = false := beq_eq_false_iff_ne.mpr c24
              have c24b1 : (t185 != 0) = true := bne_iff_ne.mpr c24
              (first | rw [c24b0] | (simp only [i64_w, i32_w]; rw [c24b0]) | skip)
              have H' := Aside0.mk H
              clear H
              go_wp2
              go_meet
              case rel => exact ⟨_, (true), (by first | rfl | (simp; done) | (simp [*]; done)), H', ⟨by have := HJ5.out; first | omega | exact Nat.le_refl _⟩, ⟨by (with_reducible repeat (first | apply Kd.R_alloc | apply Kd.R_drewN | apply Kd.R_drew)); exact Kd.R_mono HO187.out (fun _ hk => ⟨hk.2, ⟨hk.1.1.2, hk.1.2⟩⟩)⟩, ⟨by (with_reducible repeat (first | apply Kd.R_alloc | apply Kd.R_drewN | apply Kd.R_drew)); exact Kd.R_mono HO191.out (fun _ hk => ⟨hk.1.1.2, ⟨hk.1.2, hk.2⟩⟩)⟩, ⟨by (with_reducible repeat (first | refine blk_drewN ?_ _ | refine blk_drew ?_ | refine blk_alloc ?_ _)); exact BK180.out⟩, ⟨by (with_reducible repeat (first | refine blk_drewN ?_ _ | refine blk_drew ?_ | refine blk_alloc ?_ _)); exact BK181.out⟩, ⟨by repeat (first | (with_reducible first | exact HB.out | apply below_alloc | apply pw_below_drewN | apply below_drew1 | refine below_set ?_ GE180.out | refine below_set ?_ GE181.out) | exact HB.out)⟩⟩
          case rest =>
            clear HC18
            try clear c1
            try clear c2
            try clear p2
            try clear c5
            try clear c9
            try clear c10
            try clear c11
            try clear c12
            try clear c15
            try clear c19
            try clear c24
            try clear c24b0
            try clear c24b1
            try clear hcz13_0
            try clear hcz13_1
            try clear hcz13_2
            try clear hcz13_3
            try clear hcz14_0
            try clear hcz14_1
            try clear hcz14_2
            try clear hcz14_3
            try clear hcz20_0
            try clear hcz20_1
            try clear hcz20_2
            try clear hcz20_3
            try clear hcz22_0
            try clear hcz22_1
            try clear hcz22_2
            try clear hcz22_3
            try clear hfz13_0
            try clear hfz13_1
            try clear hfz13_2
            try clear hfz13_3
            try clear hfz14_0
            try clear hfz14_1
            try clear hfz14_2
            try clear hfz14_3
            try clear hfz20_0
            try clear hfz20_1
            try clear hfz20_2
            try clear hfz20_3
            try clear hfz22_0
            try clear hfz22_1
            try clear hfz22_2
            try clear hfz22_3
            try clear p2
            obtain ⟨kq, x54_17, rfl, HA, HJ17, HO_7, HO_9, BK180, BK181, HB⟩ := hcut
            cases kq with
            | zero => exact absurd HA.out (by simp [damsonlaw12_InvoiceOrder.j1])
            | succ kj17 =>
              have H := HA.out
              clear HA
              simp only [damsonlaw12_InvoiceOrder.j1] at H
              by_cases c25 : x54_17 = true
              · subst c25
                have H1 : (some true) = some r := by rw [if_pos rfl] at H; exact H
                clear H
                have H := H1
                clear H1
                obtain rfl := Option.some.inj H
                go_wp2
                go_ret
                exact ⟨by first | rfl | (simp [errW_none, errW_some] <;> rfl) | (simp [*, errW_none, errW_some] <;> rfl), by repeat (first | (with_reducible first | exact HB.out | apply below_alloc | apply pw_below_drewN | apply below_drew1 | refine below_set ?_ GE180.out | refine below_set ?_ GE181.out) | exact HB.out)⟩
              · replace c25 := Bool.eq_false_iff.mpr c25
                subst c25
                have H1 : ((invoice_Create.f kj17 t184 a2_0 a2_1 a2_2).bind fun bt192 => ((invoice_Create.f kj17 t188 a1_0 a1_1 a1_2).bind fun bt196 => (if bt192.2 = bt196.2 then ((invoice_Same.f kj17 bt192.1 bt196.1).bind fun t200 => (if t200 = true then (if ((bt192.2 == 0) == (decide ((wrap64 ((l0.length : Int) + 2)) ≤ 256))) = true then (if bt192.2 = 0 then (some true) else (some (bt192.2 == 7))) else (some false)) else (some false))) else (some false)))) = some r := by rw [if_neg (show ¬ (false = true) by decide)] at H; exact H
                clear H
                have H := H1
                clear H1
                replace H := Option.bind_eq_some_iff.mp H
                obtain ⟨⟨t192, t193⟩, A260, H⟩ := H
                replace H : ((invoice_Create.f kj17 t188 a1_0 a1_1 a1_2).bind fun bt196 => (if t193 = bt196.2 then ((invoice_Same.f kj17 t192 bt196.1).bind fun t200 => (if t200 = true then (if ((t193 == 0) == (decide ((wrap64 ((l0.length : Int) + 2)) ≤ 256))) = true then (if t193 = 0 then (some true) else (some (t193 == 7))) else (some false)) else (some false))) else (some false))) = some r := H
                have A26 := Aside0.mk A260
                clear A260
                replace H := Option.bind_eq_some_iff.mp H
                obtain ⟨⟨t196, t197⟩, A270, H⟩ := H
                replace H : (if t193 = t197 then ((invoice_Same.f kj17 t192 t196).bind fun t200 => (if t200 = true then (if ((t193 == 0) == (decide ((wrap64 ((l0.length : Int) + 2)) ≤ 256))) = true then (if t193 = 0 then (some true) else (some (t193 == 7))) else (some false)) else (some false))) else (some false)) = some r := H
                have A27 := Aside0.mk A270
                clear A270
                by_cases c28 : t193 = t197
                · rw [if_pos c28] at H
                  have c28b0 : (t193 == t197) = true := beq_iff_eq.mpr c28
                  have c28b1 : (t193 != t197) = false := bne_eq_false_iff_eq.mpr c28
                  clear c28
                  replace H := Option.bind_eq_some_iff.mp H
                  obtain ⟨t200, A290, H⟩ := H
                  replace H : (if t200 = true then (if ((t193 == 0) == (decide ((wrap64 ((l0.length : Int) + 2)) ≤ 256))) = true then (if t193 = 0 then (some true) else (some (t193 == 7))) else (some false)) else (some false)) = some r := H
                  have A29 := Aside0.mk A290
                  clear A290
                  by_cases c30 : t200 = true
                  · subst c30
                    have H1 : (if ((t193 == 0) == (decide ((wrap64 ((l0.length : Int) + 2)) ≤ 256))) = true then (if t193 = 0 then (some true) else (some (t193 == 7))) else (some false)) = some r := by rw [if_pos rfl] at H; exact H
                    clear H
                    have H := H1
                    clear H1
                    by_cases c31 : ((t193 == 0) == (decide ((wrap64 ((l0.length : Int) + 2)) ≤ 256))) = true
                    · rw [if_pos c31] at H
                      have c31b0 : ((t193 == 0) == (decide ((wrap64 ((l0.length : Int) + 2)) ≤ 256))) = true := c31
                      (try (have c31b1 : decide ((t193 == 0) = (decide ((wrap64 ((l0.length : Int) + 2)) ≤ 256))) = true := by simpa using c31))
                      (try (have c31b2 : ((t193 == 0) == (decide ((wrap64 ((l0.length : Int) + 2)) ≤ 256))) = true := by simpa using c31))
                      clear c31
                      by_cases c32 : t193 = 0
                      · rw [if_pos c32] at H
                        have c32b0 : (t193 == 0) = true := beq_iff_eq.mpr c32
                        have c32b1 : (t193 != 0) = false := bne_eq_false_iff_eq.mpr c32
                        (try (rw [c32b0] at c31b0; simp only [Bool.true_beq, Bool.false_beq, Bool.not_eq_true', beq_true, beq_false] at c31b0))
                        clear c32
                        obtain rfl := Option.some.inj H
                        have hnb33 := NB181_180.out
                        have hnc33 := NB180_181.out
                        have hcz34_0 : wc.cell? ⟨gb181, 0, none⟩ = some (.int .u64 a2_0) := (blk_cell BK181.out 0).trans rfl
                        have hcz34_1 : wc.cell? ⟨gb181, 1, none⟩ = some (.int .u64 a2_1) := (blk_cell BK181.out 1).trans rfl
                        have hcz34_2 : wc.cell? ⟨gb181, 2, none⟩ = some (.int .u64 a2_2) := (blk_cell BK181.out 2).trans rfl
                        have hcz34_3 : wc.cell? ⟨gb181, 3, none⟩ = some (.int .i64 a2_3) := (blk_cell BK181.out 3).trans rfl
                        have hfz34_0 := blk_frozen BK181.out 0
                        have hfz34_1 := blk_frozen BK181.out 1
                        have hfz34_2 := blk_frozen BK181.out 2
                        have hfz34_3 := blk_frozen BK181.out 3
                        obtain ⟨Ao35, co35, eo35⟩ := Kd.R_slice HO_7.out
                        subst eo35
                        go_wp2_with (first | ((with_reducible refine gate_callee (f := 11) rfl ?_); refine goesL_ (some 63) rfl rfl Try.func11 (by kernel_rfl) rfl #[.slice Ao35 t184.length co35, .int .u64 a2_0, .int .u64 a2_1, .int .u64 a2_2] rfl (by (try simp only [List.map_toArray, List.map_cons, List.map_nil]); first | done | rfl | (simp only [List.length_drop, List.length_take]; rfl)) ?_; (with_reducible refine (invoice_Create.calls kj17 _ _ t184 a2_0 a2_1 a2_2 t192 t193 _ ?side1 ?side2 A26.out).mono ?_); (case side1 => repeat (first | exact (Kd.R_reads' HO_7.out).2.2 | (with_reducible refine Kd.C_alloc ?_ _) | (with_reducible refine Kd.C_drewN ?_ _) | (with_reducible refine Kd.C_drew ?_))); (case side2 => exact (Kd.R_reads' HO_7.out).2.1); rintro e w36 ⟨v194, rfl, ho0, hb⟩; refine ⟨_, rfl, ?_⟩; have n0_ := Aside0.mk (Kd.R_elder' (by (with_reducible repeat (first | apply Kd.R_alloc | apply Kd.R_drewN | apply Kd.R_drew)); exact HO_7.out) (Kd.R_base ho0) hb); have n1_ := Aside0.mk (Kd.R_elder' (by (with_reducible repeat (first | apply Kd.R_alloc | apply Kd.R_drewN | apply Kd.R_drew)); exact HO_9.out) (Kd.R_base ho0) hb); have n2_ := Aside0.mk (Kd.R_lower (Kd.R_newB (Kd.R_newB (Kd.R_new' (Kd.R_new' ho0 (Kd.R_lt (by (with_reducible repeat (first | apply Kd.R_alloc | apply Kd.R_drewN | apply Kd.R_drew)); exact HO_7.out))) (Kd.R_lt (by (with_reducible repeat (first | apply Kd.R_alloc | apply Kd.R_drewN | apply Kd.R_drew)); exact HO_9.out))) (g := gb180) (o := .cells #[.int .u64 a1_0, .int .u64 a1_1, .int .u64 a1_2, .int .i64 a1_3] 34 (0, 0)) (by (with_reducible repeat (first | refine blk_drewN ?_ _ | refine blk_drew ?_ | refine blk_alloc ?_ _)); exact BK180.out)) (g := gb181) (o := .cells #[.int .u64 a2_0, .int .u64 a2_1, .int .u64 a2_2, .int .i64 a2_3] 34 (0, 0)) (by (with_reducible repeat (first | refine blk_drewN ?_ _ | refine blk_drew ?_ | refine blk_alloc ?_ _)); exact BK181.out)) (below_size (by repeat (first | (with_reducible first | exact HB.out | apply below_alloc | apply pw_below_drewN | apply below_drew1 | refine below_set ?_ GE180.out | refine below_set ?_ GE181.out) | exact HB.out)))); have n3_ := Aside0.mk (blk_below (g := gb180) (o := .cells #[.int .u64 a1_0, .int .u64 a1_1, .int .u64 a1_2, .int .i64 a1_3] 34 (0, 0)) (by (with_reducible repeat (first | refine blk_drewN ?_ _ | refine blk_drew ?_ | refine blk_alloc ?_ _)); exact BK180.out) hb); have n4_ := Aside0.mk (blk_below (g := gb181) (o := .cells #[.int .u64 a2_0, .int .u64 a2_1, .int .u64 a2_2, .int .i64 a2_3] 34 (0, 0)) (by (with_reducible repeat (first | refine blk_drewN ?_ _ | refine blk_drew ?_ | refine blk_alloc ?_ _)); exact BK181.out) hb); have n5_ := Aside0.mk (below_step (by repeat (first | (with_reducible first | exact HB.out | apply below_alloc | apply pw_below_drewN | apply below_drew1 | refine below_set ?_ GE180.out | refine below_set ?_ GE181.out) | exact HB.out)) hb); clear HO_7; clear HO_9; clear BK180; clear BK181; clear HB; have HO_7 := n0_; have HO_9 := n1_; have HO195 := n2_; have BK180 := n3_; have BK181 := n4_; have HB := n5_; clear n0_ n1_ n2_ n3_ n4_ n5_; (try clear hb); (try clear hb2); (try clear hk); (try clear hi); (try clear ho0); have hcz37_0 : w36.cell? ⟨gb180, 0, none⟩ = some (.int .u64 a1_0) := (blk_cell BK180.out 0).trans rfl; have hcz37_1 : w36.cell? ⟨gb180, 1, none⟩ = some (.int .u64 a1_1) := (blk_cell BK180.out 1).trans rfl; have hcz37_2 : w36.cell? ⟨gb180, 2, none⟩ = some (.int .u64 a1_2) := (blk_cell BK180.out 2).trans rfl; have hcz37_3 : w36.cell? ⟨gb180, 3, none⟩ = some (.int .i64 a1_3) := (blk_cell BK180.out 3).trans rfl; have hfz37_0 := blk_frozen BK180.out 0; have hfz37_1 := blk_frozen BK180.out 1; have hfz37_2 := blk_frozen BK180.out 2; have hfz37_3 := blk_frozen BK180.out 3; obtain ⟨Ao38, co38, eo38⟩ := Kd.R_slice HO_9.out; subst eo38) | ((with_reducible refine gate_callee (f := 11) rfl ?_); refine goesL_ (some 74) rfl rfl Try.func11 (by kernel_rfl) rfl #[.slice Ao38 t188.length co38, .int .u64 a1_0, .int .u64 a1_1, .int .u64 a1_2] rfl (by (try simp only [List.map_toArray, List.map_cons, List.map_nil]); first | done | rfl | (simp only [List.length_drop, List.length_take]; rfl)) ?_; (with_reducible refine (invoice_Create.calls kj17 _ _ t188 a1_0 a1_1 a1_2 t196 t197 _ ?side1 ?side2 A27.out).mono ?_); (case side1 => repeat (first | exact (Kd.R_reads' HO_9.out).2.2 | (with_reducible refine Kd.C_alloc ?_ _) | (with_reducible refine Kd.C_drewN ?_ _) | (with_reducible refine Kd.C_drew ?_))); (case side2 => exact (Kd.R_reads' HO_9.out).2.1); rintro e w39 ⟨v198, rfl, ho0, hb⟩; refine ⟨_, rfl, ?_⟩; have n0_ := Aside0.mk (Kd.R_elder' (by (with_reducible repeat (first | apply Kd.R_alloc | apply Kd.R_drewN | apply Kd.R_drew)); exact HO_7.out) (Kd.R_base ho0) hb); have n1_ := Aside0.mk (Kd.R_elder' (by (with_reducible repeat (first | apply Kd.R_alloc | apply Kd.R_drewN | apply Kd.R_drew)); exact HO_9.out) (Kd.R_base ho0) hb); have n2_ := Aside0.mk (Kd.R_elder' (by (with_reducible repeat (first | apply Kd.R_alloc | apply Kd.R_drewN | apply Kd.R_drew)); exact HO195.out) (Kd.R_base ho0) hb); have n3_ := Aside0.mk (Kd.R_lower (Kd.R_newB (Kd.R_newB (Kd.R_new' (Kd.R_new' (Kd.R_new' ho0 (Kd.R_lt (by (with_reducible repeat (first | apply Kd.R_alloc | apply Kd.R_drewN | apply Kd.R_drew)); exact HO_7.out))) (Kd.R_lt (by (with_reducible repeat (first | apply Kd.R_alloc | apply Kd.R_drewN | apply Kd.R_drew)); exact HO_9.out))) (Kd.R_lt (by (with_reducible repeat (first | apply Kd.R_alloc | apply Kd.R_drewN | apply Kd.R_drew)); exact HO195.out))) (g := gb180) (o := .cells #[.int .u64 a1_0, .int .u64 a1_1, .int .u64 a1_2, .int .i64 a1_3] 34 (0, 0)) (by (with_reducible repeat (first | refine blk_drewN ?_ _ | refine blk_drew ?_ | refine blk_alloc ?_ _)); exact BK180.out)) (g := gb181) (o := .cells #[.int .u64 a2_0, .int .u64 a2_1, .int .u64 a2_2, .int .i64 a2_3] 34 (0, 0)) (by (with_reducible repeat (first | refine blk_drewN ?_ _ | refine blk_drew ?_ | refine blk_alloc ?_ _)); exact BK181.out)) (below_size (by repeat (first | (with_reducible first | exact HB.out | apply below_alloc | apply pw_below_drewN | apply below_drew1 | refine below_set ?_ GE180.out | refine below_set ?_ GE181.out) | exact HB.out)))); have n4_ := Aside0.mk (blk_below (g := gb180) (o := .cells #[.int .u64 a1_0, .int .u64 a1_1, .int .u64 a1_2, .int .i64 a1_3] 34 (0, 0)) (by (with_reducible repeat (first | refine blk_drewN ?_ _ | refine blk_drew ?_ | refine blk_alloc ?_ _)); exact BK180.out) hb); have n5_ := Aside0.mk (blk_below (g := gb181) (o := .cells #[.int .u64 a2_0, .int .u64 a2_1, .int .u64 a2_2, .int .i64 a2_3] 34 (0, 0)) (by (with_reducible repeat (first | refine blk_drewN ?_ _ | refine blk_drew ?_ | refine blk_alloc ?_ _)); exact BK181.out) hb); have n6_ := Aside0.mk (below_step (by repeat (first | (with_reducible first | exact HB.out | apply below_alloc | apply pw_below_drewN | apply below_drew1 | refine below_set ?_ GE180.out | refine below_set ?_ GE181.out) | exact HB.out)) hb); clear HO_7; clear HO_9; clear HO195; clear BK180; clear BK181; clear HB; have HO_7 := n0_; have HO_9 := n1_; have HO195 := n2_; have HO199 := n3_; have BK180 := n4_; have BK181 := n5_; have HB := n6_; clear n0_ n1_ n2_ n3_ n4_ n5_ n6_; (try clear hb); (try clear hb2); (try clear hk); (try clear hi); (try clear ho0); obtain ⟨Ao40, co40, eo40⟩ := Kd.R_slice HO195.out; subst eo40; obtain ⟨Ao41, co41, eo41⟩ := Kd.R_slice HO199.out; subst eo41) | (go_at_call 13; (with_reducible refine (invoice_Same.calls kj17 _ _ t192 _ _ t196 true _ ?side1 ?side2 ?side3 ?side4 A29.out).mono ?_); (case side1 => repeat (first | exact (Kd.R_reads' HO195.out).2.2 | (with_reducible refine Kd.C_alloc ?_ _) | (with_reducible refine Kd.C_drewN ?_ _) | (with_reducible refine Kd.C_drew ?_))); (case side2 => exact (Kd.R_reads' HO195.out).2.1); (case side3 => repeat (first | exact (Kd.R_reads' HO199.out).2.2 | (with_reducible refine Kd.C_alloc ?_ _) | (with_reducible refine Kd.C_drewN ?_ _) | (with_reducible refine Kd.C_drew ?_))); (case side4 => exact (Kd.R_reads' HO199.out).2.1); rintro e w42 ⟨rfl, hb⟩; have n0_ := Aside0.mk (Kd.R_below (by (with_reducible repeat (first | apply Kd.R_alloc | apply Kd.R_drewN | apply Kd.R_drew)); exact HO_7.out) hb); have n1_ := Aside0.mk (Kd.R_below (by (with_reducible repeat (first | apply Kd.R_alloc | apply Kd.R_drewN | apply Kd.R_drew)); exact HO_9.out) hb); have n2_ := Aside0.mk (Kd.R_below (by (with_reducible repeat (first | apply Kd.R_alloc | apply Kd.R_drewN | apply Kd.R_drew)); exact HO195.out) hb); have n3_ := Aside0.mk (Kd.R_below (by (with_reducible repeat (first | apply Kd.R_alloc | apply Kd.R_drewN | apply Kd.R_drew)); exact HO199.out) hb); have n4_ := Aside0.mk (blk_below (g := gb180) (o := .cells #[.int .u64 a1_0, .int .u64 a1_1, .int .u64 a1_2, .int .i64 a1_3] 34 (0, 0)) (by (with_reducible repeat (first | refine blk_drewN ?_ _ | refine blk_drew ?_ | refine blk_alloc ?_ _)); exact BK180.out) hb); have n5_ := Aside0.mk (blk_below (g := gb181) (o := .cells #[.int .u64 a2_0, .int .u64 a2_1, .int .u64 a2_2, .int .i64 a2_3] 34 (0, 0)) (by (with_reducible repeat (first | refine blk_drewN ?_ _ | refine blk_drew ?_ | refine blk_alloc ?_ _)); exact BK181.out) hb); have n6_ := Aside0.mk (below_step (by repeat (first | (with_reducible first | exact HB.out | apply below_alloc | apply pw_below_drewN | apply below_drew1 | refine below_set ?_ GE180.out | refine below_set ?_ GE181.out) | exact HB.out)) hb); clear HO_7; clear HO_9; clear HO195; clear HO199; clear BK180; clear BK181; clear HB; have HO_7 := n0_; have HO_9 := n1_; have HO195 := n2_; have HO199 := n3_; have BK180 := n4_; have BK181 := n5_; have HB := n6_; clear n0_ n1_ n2_ n3_ n4_ n5_ n6_; (try clear hb); (try clear hb2); (try clear hk); (try clear hi)))
                        go_ret
                        exact ⟨by first | rfl | (simp [errW_none, errW_some] <;> rfl) | (simp [*, errW_none, errW_some] <;> rfl), by repeat (first | (with_reducible first | exact HB.out | apply below_alloc | apply pw_below_drewN | apply below_drew1 | refine below_set ?_ GE180.out | refine below_set ?_ GE181.out) | exact HB.out)⟩
                      · rw [if_neg c32] at H
                        have c32b0 : (t193 == 0) = false := beq_eq_false_iff_ne.mpr c32
                        have c32b1 : (t193 != 0) = true := bne_iff_ne.mpr c32
                        (try (rw [c32b0] at c31b0; simp only [Bool.true_beq, Bool.false_beq, Bool.not_eq_true', beq_true, beq_false] at c31b0))
                        obtain rfl := Option.some.inj H
                        have hnb43 := NB181_180.out
                        have hnc43 := NB180_181.out
                        have hcz44_0 : wc.cell? ⟨gb181, 0, none⟩ = some (.int .u64 a2_0) := (blk_cell BK181.out 0).trans rfl
                        have hcz44_1 : wc.cell? ⟨gb181, 1, none⟩ = some (.int .u64 a2_1) := (blk_cell BK181.out 1).trans rfl
                        have hcz44_2 : wc.cell? ⟨gb181, 2, none⟩ = some (.int .u64 a2_2) := (blk_cell BK181.out 2).trans rfl
                        have hcz44_3 : wc.cell? ⟨gb181, 3, none⟩ = some (.int .i64 a2_3) := (blk_cell BK181.out 3).trans rfl
                        have hfz44_0 := blk_frozen BK181.out 0
                        have hfz44_1 := blk_frozen BK181.out 1
                        have hfz44_2 := blk_frozen BK181.out 2
                        have hfz44_3 := blk_frozen BK181.out 3
                        obtain ⟨Ao45, co45, eo45⟩ := Kd.R_slice HO_7.out
                        subst eo45
                        go_wp2_with (first | ((with_reducible refine gate_callee (f := 11) rfl ?_); refine goesL_ (some 63) rfl rfl Try.func11 (by kernel_rfl) rfl #[.slice Ao45 t184.length co45, .int .u64 a2_0, .int .u64 a2_1, .int .u64 a2_2] rfl (by (try simp only [List.map_toArray, List.map_cons, List.map_nil]); first | done | rfl | (simp only [List.length_drop, List.length_take]; rfl)) ?_; (with_reducible refine (invoice_Create.calls kj17 _ _ t184 a2_0 a2_1 a2_2 t192 t193 _ ?side1 ?side2 A26.out).mono ?_); (case side1 => repeat (first | exact (Kd.R_reads' HO_7.out).2.2 | (with_reducible refine Kd.C_alloc ?_ _) | (with_reducible refine Kd.C_drewN ?_ _) | (with_reducible refine Kd.C_drew ?_))); (case side2 => exact (Kd.R_reads' HO_7.out).2.1); rintro e w46 ⟨v194, rfl, ho0, hb⟩; refine ⟨_, rfl, ?_⟩; have n0_ := Aside0.mk (Kd.R_elder' (by (with_reducible repeat (first | apply Kd.R_alloc | apply Kd.R_drewN | apply Kd.R_drew)); exact HO_7.out) (Kd.R_base ho0) hb); have n1_ := Aside0.mk (Kd.R_elder' (by (with_reducible repeat (first | apply Kd.R_alloc | apply Kd.R_drewN | apply Kd.R_drew)); exact HO_9.out) (Kd.R_base ho0) hb); have n2_ := Aside0.mk (Kd.R_lower (Kd.R_newB (Kd.R_newB (Kd.R_new' (Kd.R_new' ho0 (Kd.R_lt (by (with_reducible repeat (first | apply Kd.R_alloc | apply Kd.R_drewN | apply Kd.R_drew)); exact HO_7.out))) (Kd.R_lt (by (with_reducible repeat (first | apply Kd.R_alloc | apply Kd.R_drewN | apply Kd.R_drew)); exact HO_9.out))) (g := gb180) (o := .cells #[.int .u64 a1_0, .int .u64 a1_1, .int .u64 a1_2, .int .i64 a1_3] 34 (0, 0)) (by (with_reducible repeat (first | refine blk_drewN ?_ _ | refine blk_drew ?_ | refine blk_alloc ?_ _)); exact BK180.out)) (g := gb181) (o := .cells #[.int .u64 a2_0, .int .u64 a2_1, .int .u64 a2_2, .int .i64 a2_3] 34 (0, 0)) (by (with_reducible repeat (first | refine blk_drewN ?_ _ | refine blk_drew ?_ | refine blk_alloc ?_ _)); exact BK181.out)) (below_size (by repeat (first | (with_reducible first | exact HB.out | apply below_alloc | apply pw_below_drewN | apply below_drew1 | refine below_set ?_ GE180.out | refine below_set ?_ GE181.out) | exact HB.out)))); have n3_ := Aside0.mk (blk_below (g := gb180) (o := .cells #[.int .u64 a1_0, .int .u64 a1_1, .int .u64 a1_2, .int .i64 a1_3] 34 (0, 0)) (by (with_reducible repeat (first | refine blk_drewN ?_ _ | refine blk_drew ?_ | refine blk_alloc ?_ _)); exact BK180.out) hb); have n4_ := Aside0.mk (blk_below (g := gb181) (o := .cells #[.int .u64 a2_0, .int .u64 a2_1, .int .u64 a2_2, .int .i64 a2_3] 34 (0, 0)) (by (with_reducible repeat (first | refine blk_drewN ?_ _ | refine blk_drew ?_ | refine blk_alloc ?_ _)); exact BK181.out) hb); have n5_ := Aside0.mk (below_step (by repeat (first | (with_reducible first | exact HB.out | apply below_alloc | apply pw_below_drewN | apply below_drew1 | refine below_set ?_ GE180.out | refine below_set ?_ GE181.out) | exact HB.out)) hb); clear HO_7; clear HO_9; clear BK180; clear BK181; clear HB; have HO_7 := n0_; have HO_9 := n1_; have HO195 := n2_; have BK180 := n3_; have BK181 := n4_; have HB := n5_; clear n0_ n1_ n2_ n3_ n4_ n5_; (try clear hb); (try clear hb2); (try clear hk); (try clear hi); (try clear ho0); have hcz47_0 : w46.cell? ⟨gb180, 0, none⟩ = some (.int .u64 a1_0) := (blk_cell BK180.out 0).trans rfl; have hcz47_1 : w46.cell? ⟨gb180, 1, none⟩ = some (.int .u64 a1_1) := (blk_cell BK180.out 1).trans rfl; have hcz47_2 : w46.cell? ⟨gb180, 2, none⟩ = some (.int .u64 a1_2) := (blk_cell BK180.out 2).trans rfl; have hcz47_3 : w46.cell? ⟨gb180, 3, none⟩ = some (.int .i64 a1_3) := (blk_cell BK180.out 3).trans rfl; have hfz47_0 := blk_frozen BK180.out 0; have hfz47_1 := blk_frozen BK180.out 1; have hfz47_2 := blk_frozen BK180.out 2; have hfz47_3 := blk_frozen BK180.out 3; obtain ⟨Ao48, co48, eo48⟩ := Kd.R_slice HO_9.out; subst eo48) | ((with_reducible refine gate_callee (f := 11) rfl ?_); refine goesL_ (some 74) rfl rfl Try.func11 (by kernel_rfl) rfl #[.slice Ao48 t188.length co48, .int .u64 a1_0, .int .u64 a1_1, .int .u64 a1_2] rfl (by (try simp only [List.map_toArray, List.map_cons, List.map_nil]); first | done | rfl | (simp only [List.length_drop, List.length_take]; rfl)) ?_; (with_reducible refine (invoice_Create.calls kj17 _ _ t188 a1_0 a1_1 a1_2 t196 t197 _ ?side1 ?side2 A27.out).mono ?_); (case side1 => repeat (first | exact (Kd.R_reads' HO_9.out).2.2 | (with_reducible refine Kd.C_alloc ?_ _) | (with_reducible refine Kd.C_drewN ?_ _) | (with_reducible refine Kd.C_drew ?_))); (case side2 => exact (Kd.R_reads' HO_9.out).2.1); rintro e w49 ⟨v198, rfl, ho0, hb⟩; refine ⟨_, rfl, ?_⟩; have n0_ := Aside0.mk (Kd.R_elder' (by (with_reducible repeat (first | apply Kd.R_alloc | apply Kd.R_drewN | apply Kd.R_drew)); exact HO_7.out) (Kd.R_base ho0) hb); have n1_ := Aside0.mk (Kd.R_elder' (by (with_reducible repeat (first | apply Kd.R_alloc | apply Kd.R_drewN | apply Kd.R_drew)); exact HO_9.out) (Kd.R_base ho0) hb); have n2_ := Aside0.mk (Kd.R_elder' (by (with_reducible repeat (first | apply Kd.R_alloc | apply Kd.R_drewN | apply Kd.R_drew)); exact HO195.out) (Kd.R_base ho0) hb); have n3_ := Aside0.mk (Kd.R_lower (Kd.R_newB (Kd.R_newB (Kd.R_new' (Kd.R_new' (Kd.R_new' ho0 (Kd.R_lt (by (with_reducible repeat (first | apply Kd.R_alloc | apply Kd.R_drewN | apply Kd.R_drew)); exact HO_7.out))) (Kd.R_lt (by (with_reducible repeat (first | apply Kd.R_alloc | apply Kd.R_drewN | apply Kd.R_drew)); exact HO_9.out))) (Kd.R_lt (by (with_reducible repeat (first | apply Kd.R_alloc | apply Kd.R_drewN | apply Kd.R_drew)); exact HO195.out))) (g := gb180) (o := .cells #[.int .u64 a1_0, .int .u64 a1_1, .int .u64 a1_2, .int .i64 a1_3] 34 (0, 0)) (by (with_reducible repeat (first | refine blk_drewN ?_ _ | refine blk_drew ?_ | refine blk_alloc ?_ _)); exact BK180.out)) (g := gb181) (o := .cells #[.int .u64 a2_0, .int .u64 a2_1, .int .u64 a2_2, .int .i64 a2_3] 34 (0, 0)) (by (with_reducible repeat (first | refine blk_drewN ?_ _ | refine blk_drew ?_ | refine blk_alloc ?_ _)); exact BK181.out)) (below_size (by repeat (first | (with_reducible first | exact HB.out | apply below_alloc | apply pw_below_drewN | apply below_drew1 | refine below_set ?_ GE180.out | refine below_set ?_ GE181.out) | exact HB.out)))); have n4_ := Aside0.mk (blk_below (g := gb180) (o := .cells #[.int .u64 a1_0, .int .u64 a1_1, .int .u64 a1_2, .int .i64 a1_3] 34 (0, 0)) (by (with_reducible repeat (first | refine blk_drewN ?_ _ | refine blk_drew ?_ | refine blk_alloc ?_ _)); exact BK180.out) hb); have n5_ := Aside0.mk (blk_below (g := gb181) (o := .cells #[.int .u64 a2_0, .int .u64 a2_1, .int .u64 a2_2, .int .i64 a2_3] 34 (0, 0)) (by (with_reducible repeat (first | refine blk_drewN ?_ _ | refine blk_drew ?_ | refine blk_alloc ?_ _)); exact BK181.out) hb); have n6_ := Aside0.mk (below_step (by repeat (first | (with_reducible first | exact HB.out | apply below_alloc | apply pw_below_drewN | apply below_drew1 | refine below_set ?_ GE180.out | refine below_set ?_ GE181.out) | exact HB.out)) hb); clear HO_7; clear HO_9; clear HO195; clear BK180; clear BK181; clear HB; have HO_7 := n0_; have HO_9 := n1_; have HO195 := n2_; have HO199 := n3_; have BK180 := n4_; have BK181 := n5_; have HB := n6_; clear n0_ n1_ n2_ n3_ n4_ n5_ n6_; (try clear hb); (try clear hb2); (try clear hk); (try clear hi); (try clear ho0); obtain ⟨Ao50, co50, eo50⟩ := Kd.R_slice HO195.out; subst eo50; obtain ⟨Ao51, co51, eo51⟩ := Kd.R_slice HO199.out; subst eo51) | (go_at_call 13; (with_reducible refine (invoice_Same.calls kj17 _ _ t192 _ _ t196 true _ ?side1 ?side2 ?side3 ?side4 A29.out).mono ?_); (case side1 => repeat (first | exact (Kd.R_reads' HO195.out).2.2 | (with_reducible refine Kd.C_alloc ?_ _) | (with_reducible refine Kd.C_drewN ?_ _) | (with_reducible refine Kd.C_drew ?_))); (case side2 => exact (Kd.R_reads' HO195.out).2.1); (case side3 => repeat (first | exact (Kd.R_reads' HO199.out).2.2 | (with_reducible refine Kd.C_alloc ?_ _) | (with_reducible refine Kd.C_drewN ?_ _) | (with_reducible refine Kd.C_drew ?_))); (case side4 => exact (Kd.R_reads' HO199.out).2.1); rintro e w52 ⟨rfl, hb⟩; have n0_ := Aside0.mk (Kd.R_below (by (with_reducible repeat (first | apply Kd.R_alloc | apply Kd.R_drewN | apply Kd.R_drew)); exact HO_7.out) hb); have n1_ := Aside0.mk (Kd.R_below (by (with_reducible repeat (first | apply Kd.R_alloc | apply Kd.R_drewN | apply Kd.R_drew)); exact HO_9.out) hb); have n2_ := Aside0.mk (Kd.R_below (by (with_reducible repeat (first | apply Kd.R_alloc | apply Kd.R_drewN | apply Kd.R_drew)); exact HO195.out) hb); have n3_ := Aside0.mk (Kd.R_below (by (with_reducible repeat (first | apply Kd.R_alloc | apply Kd.R_drewN | apply Kd.R_drew)); exact HO199.out) hb); have n4_ := Aside0.mk (blk_below (g := gb180) (o := .cells #[.int .u64 a1_0, .int .u64 a1_1, .int .u64 a1_2, .int .i64 a1_3] 34 (0, 0)) (by (with_reducible repeat (first | refine blk_drewN ?_ _ | refine blk_drew ?_ | refine blk_alloc ?_ _)); exact BK180.out) hb); have n5_ := Aside0.mk (blk_below (g := gb181) (o := .cells #[.int .u64 a2_0, .int .u64 a2_1, .int .u64 a2_2, .int .i64 a2_3] 34 (0, 0)) (by (with_reducible repeat (first | refine blk_drewN ?_ _ | refine blk_drew ?_ | refine blk_alloc ?_ _)); exact BK181.out) hb); have n6_ := Aside0.mk (below_step (by repeat (first | (with_reducible first | exact HB.out | apply below_alloc | apply pw_below_drewN | apply below_drew1 | refine below_set ?_ GE180.out | refine below_set ?_ GE181.out) | exact HB.out)) hb); clear HO_7; clear HO_9; clear HO195; clear HO199; clear BK180; clear BK181; clear HB; have HO_7 := n0_; have HO_9 := n1_; have HO195 := n2_; have HO199 := n3_; have BK180 := n4_; have BK181 := n5_; have HB := n6_; clear n0_ n1_ n2_ n3_ n4_ n5_ n6_; (try clear hb); (try clear hb2); (try clear hk); (try clear hi)))
                        go_ret
                        exact ⟨by first | rfl | (simp [errW_none, errW_some] <;> rfl) | (simp [*, errW_none, errW_some] <;> rfl), by repeat (first | (with_reducible first | exact HB.out | apply below_alloc | apply pw_below_drewN | apply below_drew1 | refine below_set ?_ GE180.out | refine below_set ?_ GE181.out) | exact HB.out)⟩
                    · rw [if_neg c31] at H
                      have c31b0 : ((t193 == 0) == (decide ((wrap64 ((l0.length : Int) + 2)) ≤ 256))) = false := by simpa using c31
                      (try (have c31b1 : decide ((t193 == 0) = (decide ((wrap64 ((l0.length : Int) + 2)) ≤ 256))) = false := by simpa using c31))
                      (try (have c31b2 : ((t193 == 0) == (decide ((wrap64 ((l0.length : Int) + 2)) ≤ 256))) = false := by simpa using c31))
                      (try (have c31b3 : ¬ ((t193 == 0) = (decide ((wrap64 ((l0.length : Int) + 2)) ≤ 256))) := by simpa using c31))
                      clear c31
                      obtain rfl := Option.some.inj H
                      have hnb53 := NB181_180.out
                      have hnc53 := NB180_181.out
                      have hcz54_0 : wc.cell? ⟨gb181, 0, none⟩ = some (.int .u64 a2_0) := (blk_cell BK181.out 0).trans rfl
                      have hcz54_1 : wc.cell? ⟨gb181, 1, none⟩ = some (.int .u64 a2_1) := (blk_cell BK181.out 1).trans rfl
                      have hcz54_2 : wc.cell? ⟨gb181, 2, none⟩ = some (.int .u64 a2_2) := (blk_cell BK181.out 2).trans rfl
                      have hcz54_3 : wc.cell? ⟨gb181, 3, none⟩ = some (.int .i64 a2_3) := (blk_cell BK181.out 3).trans rfl
                      have hfz54_0 := blk_frozen BK181.out 0
                      have hfz54_1 := blk_frozen BK181.out 1
                      have hfz54_2 := blk_frozen BK181.out 2
                      have hfz54_3 := blk_frozen BK181.out 3
                      obtain ⟨Ao55, co55, eo55⟩ := Kd.R_slice HO_7.out
                      subst eo55
                      go_wp2_with (first | ((with_reducible refine gate_callee (f := 11) rfl ?_); refine goesL_ (some 63) rfl rfl Try.func11 (by kernel_rfl) rfl #[.slice Ao55 t184.length co55, .int .u64 a2_0, .int .u64 a2_1, .int .u64 a2_2] rfl (by (try simp only [List.map_toArray, List.map_cons, List.map_nil]); first | done | rfl | (simp only [List.length_drop, List.length_take]; rfl)) ?_; (with_reducible refine (invoice_Create.calls kj17 _ _ t184 a2_0 a2_1 a2_2 t192 t193 _ ?side1 ?side2 A26.out).mono ?_); (case side1 => repeat (first | exact (Kd.R_reads' HO_7.out).2.2 | (with_reducible refine Kd.C_alloc ?_ _) | (with_reducible refine Kd.C_drewN ?_ _) | (with_reducible refine Kd.C_drew ?_))); (case side2 => exact (Kd.R_reads' HO_7.out).2.1); rintro e w56 ⟨v194, rfl, ho0, hb⟩; refine ⟨_, rfl, ?_⟩; have n0_ := Aside0.mk (Kd.R_elder' (by (with_reducible repeat (first | apply Kd.R_alloc | apply Kd.R_drewN | apply Kd.R_drew)); exact HO_7.out) (Kd.R_base ho0) hb); have n1_ := Aside0.mk (Kd.R_elder' (by (with_reducible repeat (first | apply Kd.R_alloc | apply Kd.R_drewN | apply Kd.R_drew)); exact HO_9.out) (Kd.R_base ho0) hb); have n2_ := Aside0.mk (Kd.R_lower (Kd.R_newB (Kd.R_newB (Kd.R_new' (Kd.R_new' ho0 (Kd.R_lt (by (with_reducible repeat (first | apply Kd.R_alloc | apply Kd.R_drewN | apply Kd.R_drew)); exact HO_7.out))) (Kd.R_lt (by (with_reducible repeat (first | apply Kd.R_alloc | apply Kd.R_drewN | apply Kd.R_drew)); exact HO_9.out))) (g := gb180) (o := .cells #[.int .u64 a1_0, .int .u64 a1_1, .int .u64 a1_2, .int .i64 a1_3] 34 (0, 0)) (by (with_reducible repeat (first | refine blk_drewN ?_ _ | refine blk_drew ?_ | refine blk_alloc ?_ _)); exact BK180.out)) (g := gb181) (o := .cells #[.int .u64 a2_0, .int .u64 a2_1, .int .u64 a2_2, .int .i64 a2_3] 34 (0, 0)) (by (with_reducible repeat (first | refine blk_drewN ?_ _ | refine blk_drew ?_ | refine blk_alloc ?_ _)); exact BK181.out)) (below_size (by repeat (first | (with_reducible first | exact HB.out | apply below_alloc | apply pw_below_drewN | apply below_drew1 | refine below_set ?_ GE180.out | refine below_set ?_ GE181.out) | exact HB.out)))); have n3_ := Aside0.mk (blk_below (g := gb180) (o := .cells #[.int .u64 a1_0, .int .u64 a1_1, .int .u64 a1_2, .int .i64 a1_3] 34 (0, 0)) (by (with_reducible repeat (first | refine blk_drewN ?_ _ | refine blk_drew ?_ | refine blk_alloc ?_ _)); exact BK180.out) hb); have n4_ := Aside0.mk (blk_below (g := gb181) (o := .cells #[.int .u64 a2_0, .int .u64 a2_1, .int .u64 a2_2, .int .i64 a2_3] 34 (0, 0)) (by (with_reducible repeat (first | refine blk_drewN ?_ _ | refine blk_drew ?_ | refine blk_alloc ?_ _)); exact BK181.out) hb); have n5_ := Aside0.mk (below_step (by repeat (first | (with_reducible first | exact HB.out | apply below_alloc | apply pw_below_drewN | apply below_drew1 | refine below_set ?_ GE180.out | refine below_set ?_ GE181.out) | exact HB.out)) hb); clear HO_7; clear HO_9; clear BK180; clear BK181; clear HB; have HO_7 := n0_; have HO_9 := n1_; have HO195 := n2_; have BK180 := n3_; have BK181 := n4_; have HB := n5_; clear n0_ n1_ n2_ n3_ n4_ n5_; (try clear hb); (try clear hb2); (try clear hk); (try clear hi); (try clear ho0); have hcz57_0 : w56.cell? ⟨gb180, 0, none⟩ = some (.int .u64 a1_0) := (blk_cell BK180.out 0).trans rfl; have hcz57_1 : w56.cell? ⟨gb180, 1, none⟩ = some (.int .u64 a1_1) := (blk_cell BK180.out 1).trans rfl; have hcz57_2 : w56.cell? ⟨gb180, 2, none⟩ = some (.int .u64 a1_2) := (blk_cell BK180.out 2).trans rfl; have hcz57_3 : w56.cell? ⟨gb180, 3, none⟩ = some (.int .i64 a1_3) := (blk_cell BK180.out 3).trans rfl; have hfz57_0 := blk_frozen BK180.out 0; have hfz57_1 := blk_frozen BK180.out 1; have hfz57_2 := blk_frozen BK180.out 2; have hfz57_3 := blk_frozen BK180.out 3; obtain ⟨Ao58, co58, eo58⟩ := Kd.R_slice HO_9.out; subst eo58) | ((with_reducible refine gate_callee (f := 11) rfl ?_); refine goesL_ (some 74) rfl rfl Try.func11 (by kernel_rfl) rfl #[.slice Ao58 t188.length co58, .int .u64 a1_0, .int .u64 a1_1, .int .u64 a1_2] rfl (by (try simp only [List.map_toArray, List.map_cons, List.map_nil]); first | done | rfl | (simp only [List.length_drop, List.length_take]; rfl)) ?_; (with_reducible refine (invoice_Create.calls kj17 _ _ t188 a1_0 a1_1 a1_2 t196 t197 _ ?side1 ?side2 A27.out).mono ?_); (case side1 => repeat (first | exact (Kd.R_reads' HO_9.out).2.2 | (with_reducible refine Kd.C_alloc ?_ _) | (with_reducible refine Kd.C_drewN ?_ _) | (with_reducible refine Kd.C_drew ?_))); (case side2 => exact (Kd.R_reads' HO_9.out).2.1); rintro e w59 ⟨v198, rfl, ho0, hb⟩; refine ⟨_, rfl, ?_⟩; have n0_ := Aside0.mk (Kd.R_elder' (by (with_reducible repeat (first | apply Kd.R_alloc | apply Kd.R_drewN | apply Kd.R_drew)); exact HO_7.out) (Kd.R_base ho0) hb); have n1_ := Aside0.mk (Kd.R_elder' (by (with_reducible repeat (first | apply Kd.R_alloc | apply Kd.R_drewN | apply Kd.R_drew)); exact HO_9.out) (Kd.R_base ho0) hb); have n2_ := Aside0.mk (Kd.R_elder' (by (with_reducible repeat (first | apply Kd.R_alloc | apply Kd.R_drewN | apply Kd.R_drew)); exact HO195.out) (Kd.R_base ho0) hb); have n3_ := Aside0.mk (Kd.R_lower (Kd.R_newB (Kd.R_newB (Kd.R_new' (Kd.R_new' (Kd.R_new' ho0 (Kd.R_lt (by (with_reducible repeat (first | apply Kd.R_alloc | apply Kd.R_drewN | apply Kd.R_drew)); exact HO_7.out))) (Kd.R_lt (by (with_reducible repeat (first | apply Kd.R_alloc | apply Kd.R_drewN | apply Kd.R_drew)); exact HO_9.out))) (Kd.R_lt (by (with_reducible repeat (first | apply Kd.R_alloc | apply Kd.R_drewN | apply Kd.R_drew)); exact HO195.out))) (g := gb180) (o := .cells #[.int .u64 a1_0, .int .u64 a1_1, .int .u64 a1_2, .int .i64 a1_3] 34 (0, 0)) (by (with_reducible repeat (first | refine blk_drewN ?_ _ | refine blk_drew ?_ | refine blk_alloc ?_ _)); exact BK180.out)) (g := gb181) (o := .cells #[.int .u64 a2_0, .int .u64 a2_1, .int .u64 a2_2, .int .i64 a2_3] 34 (0, 0)) (by (with_reducible repeat (first | refine blk_drewN ?_ _ | refine blk_drew ?_ | refine blk_alloc ?_ _)); exact BK181.out)) (below_size (by repeat (first | (with_reducible first | exact HB.out | apply below_alloc | apply pw_below_drewN | apply below_drew1 | refine below_set ?_ GE180.out | refine below_set ?_ GE181.out) | exact HB.out)))); have n4_ := Aside0.mk (blk_below (g := gb180) (o := .cells #[.int .u64 a1_0, .int .u64 a1_1, .int .u64 a1_2, .int .i64 a1_3] 34 (0, 0)) (by (with_reducible repeat (first | refine blk_drewN ?_ _ | refine blk_drew ?_ | refine blk_alloc ?_ _)); exact BK180.out) hb); have n5_ := Aside0.mk (blk_below (g := gb181) (o := .cells #[.int .u64 a2_0, .int .u64 a2_1, .int .u64 a2_2, .int .i64 a2_3] 34 (0, 0)) (by (with_reducible repeat (first | refine blk_drewN ?_ _ | refine blk_drew ?_ | refine blk_alloc ?_ _)); exact BK181.out) hb); have n6_ := Aside0.mk (below_step (by repeat (first | (with_reducible first | exact HB.out | apply below_alloc | apply pw_below_drewN | apply below_drew1 | refine below_set ?_ GE180.out | refine below_set ?_ GE181.out) | exact HB.out)) hb); clear HO_7; clear HO_9; clear HO195; clear BK180; clear BK181; clear HB; have HO_7 := n0_; have HO_9 := n1_; have HO195 := n2_; have HO199 := n3_; have BK180 := n4_; have BK181 := n5_; have HB := n6_; clear n0_ n1_ n2_ n3_ n4_ n5_ n6_; (try clear hb); (try clear hb2); (try clear hk); (try clear hi); (try clear ho0); obtain ⟨Ao60, co60, eo60⟩ := Kd.R_slice HO195.out; subst eo60; obtain ⟨Ao61, co61, eo61⟩ := Kd.R_slice HO199.out; subst eo61) | (go_at_call 13; (with_reducible refine (invoice_Same.calls kj17 _ _ t192 _ _ t196 true _ ?side1 ?side2 ?side3 ?side4 A29.out).mono ?_); (case side1 => repeat (first | exact (Kd.R_reads' HO195.out).2.2 | (with_reducible refine Kd.C_alloc ?_ _) | (with_reducible refine Kd.C_drewN ?_ _) | (with_reducible refine Kd.C_drew ?_))); (case side2 => exact (Kd.R_reads' HO195.out).2.1); (case side3 => repeat (first | exact (Kd.R_reads' HO199.out).2.2 | (with_reducible refine Kd.C_alloc ?_ _) | (with_reducible refine Kd.C_drewN ?_ _) | (with_reducible refine Kd.C_drew ?_))); (case side4 => exact (Kd.R_reads' HO199.out).2.1); rintro e w62 ⟨rfl, hb⟩; have n0_ := Aside0.mk (Kd.R_below (by (with_reducible repeat (first | apply Kd.R_alloc | apply Kd.R_drewN | apply Kd.R_drew)); exact HO_7.out) hb); have n1_ := Aside0.mk (Kd.R_below (by (with_reducible repeat (first | apply Kd.R_alloc | apply Kd.R_drewN | apply Kd.R_drew)); exact HO_9.out) hb); have n2_ := Aside0.mk (Kd.R_below (by (with_reducible repeat (first | apply Kd.R_alloc | apply Kd.R_drewN | apply Kd.R_drew)); exact HO195.out) hb); have n3_ := Aside0.mk (Kd.R_below (by (with_reducible repeat (first | apply Kd.R_alloc | apply Kd.R_drewN | apply Kd.R_drew)); exact HO199.out) hb); have n4_ := Aside0.mk (blk_below (g := gb180) (o := .cells #[.int .u64 a1_0, .int .u64 a1_1, .int .u64 a1_2, .int .i64 a1_3] 34 (0, 0)) (by (with_reducible repeat (first | refine blk_drewN ?_ _ | refine blk_drew ?_ | refine blk_alloc ?_ _)); exact BK180.out) hb); have n5_ := Aside0.mk (blk_below (g := gb181) (o := .cells #[.int .u64 a2_0, .int .u64 a2_1, .int .u64 a2_2, .int .i64 a2_3] 34 (0, 0)) (by (with_reducible repeat (first | refine blk_drewN ?_ _ | refine blk_drew ?_ | refine blk_alloc ?_ _)); exact BK181.out) hb); have n6_ := Aside0.mk (below_step (by repeat (first | (with_reducible first | exact HB.out | apply below_alloc | apply pw_below_drewN | apply below_drew1 | refine below_set ?_ GE180.out | refine below_set ?_ GE181.out) | exact HB.out)) hb); clear HO_7; clear HO_9; clear HO195; clear HO199; clear BK180; clear BK181; clear HB; have HO_7 := n0_; have HO_9 := n1_; have HO195 := n2_; have HO199 := n3_; have BK180 := n4_; have BK181 := n5_; have HB := n6_; clear n0_ n1_ n2_ n3_ n4_ n5_ n6_; (try clear hb); (try clear hb2); (try clear hk); (try clear hi)))
                      go_ret
                      exact ⟨by first | rfl | (simp [errW_none, errW_some] <;> rfl) | (simp [*, errW_none, errW_some] <;> rfl), by repeat (first | (with_reducible first | exact HB.out | apply below_alloc | apply pw_below_drewN | apply below_drew1 | refine below_set ?_ GE180.out | refine below_set ?_ GE181.out) | exact HB.out)⟩
                  · replace c30 := Bool.eq_false_iff.mpr c30
                    subst c30
                    have H1 : (some false) = some r := by rw [if_neg (show ¬ (false = true) by decide)] at H; exact H
                    clear H
                    have H := H1
                    clear H1
                    obtain rfl := Option.some.inj H
                    have hnb63 := NB181_180.out
                    have hnc63 := NB180_181.out
                    have hcz64_0 : wc.cell? ⟨gb181, 0, none⟩ = some (.int .u64 a2_0) := (blk_cell BK181.out 0).trans rfl
                    have hcz64_1 : wc.cell? ⟨gb181, 1, none⟩ = some (.int .u64 a2_1) := (blk_cell BK181.out 1).trans rfl
                    have hcz64_2 : wc.cell? ⟨gb181, 2, none⟩ = some (.int .u64 a2_2) := (blk_cell BK181.out 2).trans rfl
                    have hcz64_3 : wc.cell? ⟨gb181, 3, none⟩ = some (.int .i64 a2_3) := (blk_cell BK181.out 3).trans rfl
                    have hfz64_0 := blk_frozen BK181.out 0
                    have hfz64_1 := blk_frozen BK181.out 1
                    have hfz64_2 := blk_frozen BK181.out 2
                    have hfz64_3 := blk_frozen BK181.out 3
                    obtain ⟨Ao65, co65, eo65⟩ := Kd.R_slice HO_7.out
                    subst eo65
                    go_wp2_with (first | ((with_reducible refine gate_callee (f := 11) rfl ?_); refine goesL_ (some 63) rfl rfl Try.func11 (by kernel_rfl) rfl #[.slice Ao65 t184.length co65, .int .u64 a2_0, .int .u64 a2_1, .int .u64 a2_2] rfl (by (try simp only [List.map_toArray, List.map_cons, List.map_nil]); first | done | rfl | (simp only [List.length_drop, List.length_take]; rfl)) ?_; (with_reducible refine (invoice_Create.calls kj17 _ _ t184 a2_0 a2_1 a2_2 t192 t193 _ ?side1 ?side2 A26.out).mono ?_); (case side1 => repeat (first | exact (Kd.R_reads' HO_7.out).2.2 | (with_reducible refine Kd.C_alloc ?_ _) | (with_reducible refine Kd.C_drewN ?_ _) | (with_reducible refine Kd.C_drew ?_))); (case side2 => exact (Kd.R_reads' HO_7.out).2.1); rintro e w66 ⟨v194, rfl, ho0, hb⟩; refine ⟨_, rfl, ?_⟩; have n0_ := Aside0.mk (Kd.R_elder' (by (with_reducible repeat (first | apply Kd.R_alloc | apply Kd.R_drewN | apply Kd.R_drew)); exact HO_7.out) (Kd.R_base ho0) hb); have n1_ := Aside0.mk (Kd.R_elder' (by (with_reducible repeat (first | apply Kd.R_alloc | apply Kd.R_drewN | apply Kd.R_drew)); exact HO_9.out) (Kd.R_base ho0) hb); have n2_ := Aside0.mk (Kd.R_lower (Kd.R_newB (Kd.R_newB (Kd.R_new' (Kd.R_new' ho0 (Kd.R_lt (by (with_reducible repeat (first | apply Kd.R_alloc | apply Kd.R_drewN | apply Kd.R_drew)); exact HO_7.out))) (Kd.R_lt (by (with_reducible repeat (first | apply Kd.R_alloc | apply Kd.R_drewN | apply Kd.R_drew)); exact HO_9.out))) (g := gb180) (o := .cells #[.int .u64 a1_0, .int .u64 a1_1, .int .u64 a1_2, .int .i64 a1_3] 34 (0, 0)) (by (with_reducible repeat (first | refine blk_drewN ?_ _ | refine blk_drew ?_ | refine blk_alloc ?_ _)); exact BK180.out)) (g := gb181) (o := .cells #[.int .u64 a2_0, .int .u64 a2_1, .int .u64 a2_2, .int .i64 a2_3] 34 (0, 0)) (by (with_reducible repeat (first | refine blk_drewN ?_ _ | refine blk_drew ?_ | refine blk_alloc ?_ _)); exact BK181.out)) (below_size (by repeat (first | (with_reducible first | exact HB.out | apply below_alloc | apply pw_below_drewN | apply below_drew1 | refine below_set ?_ GE180.out | refine below_set ?_ GE181.out) | exact HB.out)))); have n3_ := Aside0.mk (blk_below (g := gb180) (o := .cells #[.int .u64 a1_0, .int .u64 a1_1, .int .u64 a1_2, .int .i64 a1_3] 34 (0, 0)) (by (with_reducible repeat (first | refine blk_drewN ?_ _ | refine blk_drew ?_ | refine blk_alloc ?_ _)); exact BK180.out) hb); have n4_ := Aside0.mk (blk_below (g := gb181) (o := .cells #[.int .u64 a2_0, .int .u64 a2_1, .int .u64 a2_2, .int .i64 a2_3] 34 (0, 0)) (by (with_reducible repeat (first | refine blk_drewN ?_ _ | refine blk_drew ?_ | refine blk_alloc ?_ _)); exact BK181.out) hb); have n5_ := Aside0.mk (below_step (by repeat (first | (with_reducible first | exact HB.out | apply below_alloc | apply pw_below_drewN | apply below_drew1 | refine below_set ?_ GE180.out | refine below_set ?_ GE181.out) | exact HB.out)) hb); clear HO_7; clear HO_9; clear BK180; clear BK181; clear HB; have HO_7 := n0_; have HO_9 := n1_; have HO195 := n2_; have BK180 := n3_; have BK181 := n4_; have HB := n5_; clear n0_ n1_ n2_ n3_ n4_ n5_; (try clear hb); (try clear hb2); (try clear hk); (try clear hi); (try clear ho0); have hcz67_0 : w66.cell? ⟨gb180, 0, none⟩ = some (.int .u64 a1_0) := (blk_cell BK180.out 0).trans rfl; have hcz67_1 : w66.cell? ⟨gb180, 1, none⟩ = some (.int .u64 a1_1) := (blk_cell BK180.out 1).trans rfl; have hcz67_2 : w66.cell? ⟨gb180, 2, none⟩ = some (.int .u64 a1_2) := (blk_cell BK180.out 2).trans rfl; have hcz67_3 : w66.cell? ⟨gb180, 3, none⟩ = some (.int .i64 a1_3) := (blk_cell BK180.out 3).trans rfl; have hfz67_0 := blk_frozen BK180.out 0; have hfz67_1 := blk_frozen BK180.out 1; have hfz67_2 := blk_frozen BK180.out 2; have hfz67_3 := blk_frozen BK180.out 3; obtain ⟨Ao68, co68, eo68⟩ := Kd.R_slice HO_9.out; subst eo68) | ((with_reducible refine gate_callee (f := 11) rfl ?_); refine goesL_ (some 74) rfl rfl Try.func11 (by kernel_rfl) rfl #[.slice Ao68 t188.length co68, .int .u64 a1_0, .int .u64 a1_1, .int .u64 a1_2] rfl (by (try simp only [List.map_toArray, List.map_cons, List.map_nil]); first | done | rfl | (simp only [List.length_drop, List.length_take]; rfl)) ?_; (with_reducible refine (invoice_Create.calls kj17 _ _ t188 a1_0 a1_1 a1_2 t196 t197 _ ?side1 ?side2 A27.out).mono ?_); (case side1 => repeat (first | exact (Kd.R_reads' HO_9.out).2.2 | (with_reducible refine Kd.C_alloc ?_ _) | (with_reducible refine Kd.C_drewN ?_ _) | (with_reducible refine Kd.C_drew ?_))); (case side2 => exact (Kd.R_reads' HO_9.out).2.1); rintro e w69 ⟨v198, rfl, ho0, hb⟩; refine ⟨_, rfl, ?_⟩; have n0_ := Aside0.mk (Kd.R_elder' (by (with_reducible repeat (first | apply Kd.R_alloc | apply Kd.R_drewN | apply Kd.R_drew)); exact HO_7.out) (Kd.R_base ho0) hb); have n1_ := Aside0.mk (Kd.R_elder' (by (with_reducible repeat (first | apply Kd.R_alloc | apply Kd.R_drewN | apply Kd.R_drew)); exact HO_9.out) (Kd.R_base ho0) hb); have n2_ := Aside0.mk (Kd.R_elder' (by (with_reducible repeat (first | apply Kd.R_alloc | apply Kd.R_drewN | apply Kd.R_drew)); exact HO195.out) (Kd.R_base ho0) hb); have n3_ := Aside0.mk (Kd.R_lower (Kd.R_newB (Kd.R_newB (Kd.R_new' (Kd.R_new' (Kd.R_new' ho0 (Kd.R_lt (by (with_reducible repeat (first | apply Kd.R_alloc | apply Kd.R_drewN | apply Kd.R_drew)); exact HO_7.out))) (Kd.R_lt (by (with_reducible repeat (first | apply Kd.R_alloc | apply Kd.R_drewN | apply Kd.R_drew)); exact HO_9.out))) (Kd.R_lt (by (with_reducible repeat (first | apply Kd.R_alloc | apply Kd.R_drewN | apply Kd.R_drew)); exact HO195.out))) (g := gb180) (o := .cells #[.int .u64 a1_0, .int .u64 a1_1, .int .u64 a1_2, .int .i64 a1_3] 34 (0, 0)) (by (with_reducible repeat (first | refine blk_drewN ?_ _ | refine blk_drew ?_ | refine blk_alloc ?_ _)); exact BK180.out)) (g := gb181) (o := .cells #[.int .u64 a2_0, .int .u64 a2_1, .int .u64 a2_2, .int .i64 a2_3] 34 (0, 0)) (by (with_reducible repeat (first | refine blk_drewN ?_ _ | refine blk_drew ?_ | refine blk_alloc ?_ _)); exact BK181.out)) (below_size (by repeat (first | (with_reducible first | exact HB.out | apply below_alloc | apply pw_below_drewN | apply below_drew1 | refine below_set ?_ GE180.out | refine below_set ?_ GE181.out) | exact HB.out)))); have n4_ := Aside0.mk (blk_below (g := gb180) (o := .cells #[.int .u64 a1_0, .int .u64 a1_1, .int .u64 a1_2, .int .i64 a1_3] 34 (0, 0)) (by (with_reducible repeat (first | refine blk_drewN ?_ _ | refine blk_drew ?_ | refine blk_alloc ?_ _)); exact BK180.out) hb); have n5_ := Aside0.mk (blk_below (g := gb181) (o := .cells #[.int .u64 a2_0, .int .u64 a2_1, .int .u64 a2_2, .int .i64 a2_3] 34 (0, 0)) (by (with_reducible repeat (first | refine blk_drewN ?_ _ | refine blk_drew ?_ | refine blk_alloc ?_ _)); exact BK181.out) hb); have n6_ := Aside0.mk (below_step (by repeat (first | (with_reducible first | exact HB.out | apply below_alloc | apply pw_below_drewN | apply below_drew1 | refine below_set ?_ GE180.out | refine below_set ?_ GE181.out) | exact HB.out)) hb); clear HO_7; clear HO_9; clear HO195; clear BK180; clear BK181; clear HB; have HO_7 := n0_; have HO_9 := n1_; have HO195 := n2_; have HO199 := n3_; have BK180 := n4_; have BK181 := n5_; have HB := n6_; clear n0_ n1_ n2_ n3_ n4_ n5_ n6_; (try clear hb); (try clear hb2); (try clear hk); (try clear hi); (try clear ho0); obtain ⟨Ao70, co70, eo70⟩ := Kd.R_slice HO195.out; subst eo70; obtain ⟨Ao71, co71, eo71⟩ := Kd.R_slice HO199.out; subst eo71) | (go_at_call 13; (with_reducible refine (invoice_Same.calls kj17 _ _ t192 _ _ t196 false _ ?side1 ?side2 ?side3 ?side4 A29.out).mono ?_); (case side1 => repeat (first | exact (Kd.R_reads' HO195.out).2.2 | (with_reducible refine Kd.C_alloc ?_ _) | (with_reducible refine Kd.C_drewN ?_ _) | (with_reducible refine Kd.C_drew ?_))); (case side2 => exact (Kd.R_reads' HO195.out).2.1); (case side3 => repeat (first | exact (Kd.R_reads' HO199.out).2.2 | (with_reducible refine Kd.C_alloc ?_ _) | (with_reducible refine Kd.C_drewN ?_ _) | (with_reducible refine Kd.C_drew ?_))); (case side4 => exact (Kd.R_reads' HO199.out).2.1); rintro e w72 ⟨rfl, hb⟩; have n0_ := Aside0.mk (Kd.R_below (by (with_reducible repeat (first | apply Kd.R_alloc | apply Kd.R_drewN | apply Kd.R_drew)); exact HO_7.out) hb); have n1_ := Aside0.mk (Kd.R_below (by (with_reducible repeat (first | apply Kd.R_alloc | apply Kd.R_drewN | apply Kd.R_drew)); exact HO_9.out) hb); have n2_ := Aside0.mk (Kd.R_below (by (with_reducible repeat (first | apply Kd.R_alloc | apply Kd.R_drewN | apply Kd.R_drew)); exact HO195.out) hb); have n3_ := Aside0.mk (Kd.R_below (by (with_reducible repeat (first | apply Kd.R_alloc | apply Kd.R_drewN | apply Kd.R_drew)); exact HO199.out) hb); have n4_ := Aside0.mk (blk_below (g := gb180) (o := .cells #[.int .u64 a1_0, .int .u64 a1_1, .int .u64 a1_2, .int .i64 a1_3] 34 (0, 0)) (by (with_reducible repeat (first | refine blk_drewN ?_ _ | refine blk_drew ?_ | refine blk_alloc ?_ _)); exact BK180.out) hb); have n5_ := Aside0.mk (blk_below (g := gb181) (o := .cells #[.int .u64 a2_0, .int .u64 a2_1, .int .u64 a2_2, .int .i64 a2_3] 34 (0, 0)) (by (with_reducible repeat (first | refine blk_drewN ?_ _ | refine blk_drew ?_ | refine blk_alloc ?_ _)); exact BK181.out) hb); have n6_ := Aside0.mk (below_step (by repeat (first | (with_reducible first | exact HB.out | apply below_alloc | apply pw_below_drewN | apply below_drew1 | refine below_set ?_ GE180.out | refine below_set ?_ GE181.out) | exact HB.out)) hb); clear HO_7; clear HO_9; clear HO195; clear HO199; clear BK180; clear BK181; clear HB; have HO_7 := n0_; have HO_9 := n1_; have HO195 := n2_; have HO199 := n3_; have BK180 := n4_; have BK181 := n5_; have HB := n6_; clear n0_ n1_ n2_ n3_ n4_ n5_ n6_; (try clear hb); (try clear hb2); (try clear hk); (try clear hi)))
                    go_ret
                    exact ⟨by first | rfl | (simp [errW_none, errW_some] <;> rfl) | (simp [*, errW_none, errW_some] <;> rfl), by repeat (first | (with_reducible first | exact HB.out | apply below_alloc | apply pw_below_drewN | apply below_drew1 | refine below_set ?_ GE180.out | refine below_set ?_ GE181.out) | exact HB.out)⟩
                · rw [if_neg c28] at H
                  have c28b0 : (t193 == t197) = false := beq_eq_false_iff_ne.mpr c28
                  have c28b1 : (t193 != t197) = true := bne_iff_ne.mpr c28
                  obtain rfl := Option.some.inj H
                  have hnb73 := NB181_180.out
                  have hnc73 := NB180_181.out
                  have hcz74_0 : wc.cell? ⟨gb181, 0, none⟩ = some (.int .u64 a2_0) := (blk_cell BK181.out 0).trans rfl
                  have hcz74_1 : wc.cell? ⟨gb181, 1, none⟩ = some (.int .u64 a2_1) := (blk_cell BK181.out 1).trans rfl
                  have hcz74_2 : wc.cell? ⟨gb181, 2, none⟩ = some (.int .u64 a2_2) := (blk_cell BK181.out 2).trans rfl
                  have hcz74_3 : wc.cell? ⟨gb181, 3, none⟩ = some (.int .i64 a2_3) := (blk_cell BK181.out 3).trans rfl
                  have hfz74_0 := blk_frozen BK181.out 0
                  have hfz74_1 := blk_frozen BK181.out 1
                  have hfz74_2 := blk_frozen BK181.out 2
                  have hfz74_3 := blk_frozen BK181.out 3
                  obtain ⟨Ao75, co75, eo75⟩ := Kd.R_slice HO_7.out
                  subst eo75
                  go_wp2_with (first | ((with_reducible refine gate_callee (f := 11) rfl ?_); refine goesL_ (some 63) rfl rfl Try.func11 (by kernel_rfl) rfl #[.slice Ao75 t184.length co75, .int .u64 a2_0, .int .u64 a2_1, .int .u64 a2_2] rfl (by (try simp only [List.map_toArray, List.map_cons, List.map_nil]); first | done | rfl | (simp only [List.length_drop, List.length_take]; rfl)) ?_; (with_reducible refine (invoice_Create.calls kj17 _ _ t184 a2_0 a2_1 a2_2 t192 t193 _ ?side1 ?side2 A26.out).mono ?_); (case side1 => repeat (first | exact (Kd.R_reads' HO_7.out).2.2 | (with_reducible refine Kd.C_alloc ?_ _) | (with_reducible refine Kd.C_drewN ?_ _) | (with_reducible refine Kd.C_drew ?_))); (case side2 => exact (Kd.R_reads' HO_7.out).2.1); rintro e w76 ⟨v194, rfl, ho0, hb⟩; refine ⟨_, rfl, ?_⟩; have n0_ := Aside0.mk (Kd.R_elder' (by (with_reducible repeat (first | apply Kd.R_alloc | apply Kd.R_drewN | apply Kd.R_drew)); exact HO_7.out) (Kd.R_base ho0) hb); have n1_ := Aside0.mk (Kd.R_elder' (by (with_reducible repeat (first | apply Kd.R_alloc | apply Kd.R_drewN | apply Kd.R_drew)); exact HO_9.out) (Kd.R_base ho0) hb); have n2_ := Aside0.mk (Kd.R_lower (Kd.R_newB (Kd.R_newB (Kd.R_new' (Kd.R_new' ho0 (Kd.R_lt (by (with_reducible repeat (first | apply Kd.R_alloc | apply Kd.R_drewN | apply Kd.R_drew)); exact HO_7.out))) (Kd.R_lt (by (with_reducible repeat (first | apply Kd.R_alloc | apply Kd.R_drewN | apply Kd.R_drew)); exact HO_9.out))) (g := gb180) (o := .cells #[.int .u64 a1_0, .int .u64 a1_1, .int .u64 a1_2, .int .i64 a1_3] 34 (0, 0)) (by (with_reducible repeat (first | refine blk_drewN ?_ _ | refine blk_drew ?_ | refine blk_alloc ?_ _)); exact BK180.out)) (g := gb181) (o := .cells #[.int .u64 a2_0, .int .u64 a2_1, .int .u64 a2_2, .int .i64 a2_3] 34 (0, 0)) (by (with_reducible repeat (first | refine blk_drewN ?_ _ | refine blk_drew ?_ | refine blk_alloc ?_ _)); exact BK181.out)) (below_size (by repeat (first | (with_reducible first | exact HB.out | apply below_alloc | apply pw_below_drewN | apply below_drew1 | refine below_set ?_ GE180.out | refine below_set ?_ GE181.out) | exact HB.out)))); have n3_ := Aside0.mk (blk_below (g := gb180) (o := .cells #[.int .u64 a1_0, .int .u64 a1_1, .int .u64 a1_2, .int .i64 a1_3] 34 (0, 0)) (by (with_reducible repeat (first | refine blk_drewN ?_ _ | refine blk_drew ?_ | refine blk_alloc ?_ _)); exact BK180.out) hb); have n4_ := Aside0.mk (blk_below (g := gb181) (o := .cells #[.int .u64 a2_0, .int .u64 a2_1, .int .u64 a2_2, .int .i64 a2_3] 34 (0, 0)) (by (with_reducible repeat (first | refine blk_drewN ?_ _ | refine blk_drew ?_ | refine blk_alloc ?_ _)); exact BK181.out) hb); have n5_ := Aside0.mk (below_step (by repeat (first | (with_reducible first | exact HB.out | apply below_alloc | apply pw_below_drewN | apply below_drew1 | refine below_set ?_ GE180.out | refine below_set ?_ GE181.out) | exact HB.out)) hb); clear HO_7; clear HO_9; clear BK180; clear BK181; clear HB; have HO_7 := n0_; have HO_9 := n1_; have HO195 := n2_; have BK180 := n3_; have BK181 := n4_; have HB := n5_; clear n0_ n1_ n2_ n3_ n4_ n5_; (try clear hb); (try clear hb2); (try clear hk); (try clear hi); (try clear ho0); have hcz77_0 : w76.cell? ⟨gb180, 0, none⟩ = some (.int .u64 a1_0) := (blk_cell BK180.out 0).trans rfl; have hcz77_1 : w76.cell? ⟨gb180, 1, none⟩ = some (.int .u64 a1_1) := (blk_cell BK180.out 1).trans rfl; have hcz77_2 : w76.cell? ⟨gb180, 2, none⟩ = some (.int .u64 a1_2) := (blk_cell BK180.out 2).trans rfl; have hcz77_3 : w76.cell? ⟨gb180, 3, none⟩ = some (.int .i64 a1_3) := (blk_cell BK180.out 3).trans rfl; have hfz77_0 := blk_frozen BK180.out 0; have hfz77_1 := blk_frozen BK180.out 1; have hfz77_2 := blk_frozen BK180.out 2; have hfz77_3 := blk_frozen BK180.out 3; obtain ⟨Ao78, co78, eo78⟩ := Kd.R_slice HO_9.out; subst eo78) | ((with_reducible refine gate_callee (f := 11) rfl ?_); refine goesL_ (some 74) rfl rfl Try.func11 (by kernel_rfl) rfl #[.slice Ao78 t188.length co78, .int .u64 a1_0, .int .u64 a1_1, .int .u64 a1_2] rfl (by (try simp only [List.map_toArray, List.map_cons, List.map_nil]); first | done | rfl | (simp only [List.length_drop, List.length_take]; rfl)) ?_; (with_reducible refine (invoice_Create.calls kj17 _ _ t188 a1_0 a1_1 a1_2 t196 t197 _ ?side1 ?side2 A27.out).mono ?_); (case side1 => repeat (first | exact (Kd.R_reads' HO_9.out).2.2 | (with_reducible refine Kd.C_alloc ?_ _) | (with_reducible refine Kd.C_drewN ?_ _) | (with_reducible refine Kd.C_drew ?_))); (case side2 => exact (Kd.R_reads' HO_9.out).2.1); rintro e w79 ⟨v198, rfl, ho0, hb⟩; refine ⟨_, rfl, ?_⟩; have n0_ := Aside0.mk (Kd.R_elder' (by (with_reducible repeat (first | apply Kd.R_alloc | apply Kd.R_drewN | apply Kd.R_drew)); exact HO_7.out) (Kd.R_base ho0) hb); have n1_ := Aside0.mk (Kd.R_elder' (by (with_reducible repeat (first | apply Kd.R_alloc | apply Kd.R_drewN | apply Kd.R_drew)); exact HO_9.out) (Kd.R_base ho0) hb); have n2_ := Aside0.mk (Kd.R_elder' (by (with_reducible repeat (first | apply Kd.R_alloc | apply Kd.R_drewN | apply Kd.R_drew)); exact HO195.out) (Kd.R_base ho0) hb); have n3_ := Aside0.mk (Kd.R_lower (Kd.R_newB (Kd.R_newB (Kd.R_new' (Kd.R_new' (Kd.R_new' ho0 (Kd.R_lt (by (with_reducible repeat (first | apply Kd.R_alloc | apply Kd.R_drewN | apply Kd.R_drew)); exact HO_7.out))) (Kd.R_lt (by (with_reducible repeat (first | apply Kd.R_alloc | apply Kd.R_drewN | apply Kd.R_drew)); exact HO_9.out))) (Kd.R_lt (by (with_reducible repeat (first | apply Kd.R_alloc | apply Kd.R_drewN | apply Kd.R_drew)); exact HO195.out))) (g := gb180) (o := .cells #[.int .u64 a1_0, .int .u64 a1_1, .int .u64 a1_2, .int .i64 a1_3] 34 (0, 0)) (by (with_reducible repeat (first | refine blk_drewN ?_ _ | refine blk_drew ?_ | refine blk_alloc ?_ _)); exact BK180.out)) (g := gb181) (o := .cells #[.int .u64 a2_0, .int .u64 a2_1, .int .u64 a2_2, .int .i64 a2_3] 34 (0, 0)) (by (with_reducible repeat (first | refine blk_drewN ?_ _ | refine blk_drew ?_ | refine blk_alloc ?_ _)); exact BK181.out)) (below_size (by repeat (first | (with_reducible first | exact HB.out | apply below_alloc | apply pw_below_drewN | apply below_drew1 | refine below_set ?_ GE180.out | refine below_set ?_ GE181.out) | exact HB.out)))); have n4_ := Aside0.mk (blk_below (g := gb180) (o := .cells #[.int .u64 a1_0, .int .u64 a1_1, .int .u64 a1_2, .int .i64 a1_3] 34 (0, 0)) (by (with_reducible repeat (first | refine blk_drewN ?_ _ | refine blk_drew ?_ | refine blk_alloc ?_ _)); exact BK180.out) hb); have n5_ := Aside0.mk (blk_below (g := gb181) (o := .cells #[.int .u64 a2_0, .int .u64 a2_1, .int .u64 a2_2, .int .i64 a2_3] 34 (0, 0)) (by (with_reducible repeat (first | refine blk_drewN ?_ _ | refine blk_drew ?_ | refine blk_alloc ?_ _)); exact BK181.out) hb); have n6_ := Aside0.mk (below_step (by repeat (first | (with_reducible first | exact HB.out | apply below_alloc | apply pw_below_drewN | apply below_drew1 | refine below_set ?_ GE180.out | refine below_set ?_ GE181.out) | exact HB.out)) hb); clear HO_7; clear HO_9; clear HO195; clear BK180; clear BK181; clear HB; have HO_7 := n0_; have HO_9 := n1_; have HO195 := n2_; have HO199 := n3_; have BK180 := n4_; have BK181 := n5_; have HB := n6_; clear n0_ n1_ n2_ n3_ n4_ n5_ n6_; (try clear hb); (try clear hb2); (try clear hk); (try clear hi); (try clear ho0)))
                  go_ret
                  exact ⟨by first | rfl | (simp [errW_none, errW_some] <;> rfl) | (simp [*, errW_none, errW_some] <;> rfl), by repeat (first | (with_reducible first | exact HB.out | apply below_alloc | apply pw_below_drewN | apply below_drew1 | refine below_set ?_ GE180.out | refine below_set ?_ GE181.out) | exact HB.out)⟩
  · replace c5 := Bool.eq_false_iff.mpr c5
    subst c5
    have H1 : (some false) = some r := by rw [if_neg (show ¬ (false = true) by decide)] at H; exact H
    clear H
    have H := H1
    clear H1
    obtain rfl := Option.some.inj H
    go_enter Try.func5, Try.ntmps5
    go_wp2_with (first | ((with_reducible refine gate_dst (N := 4) rfl ?_); (try (refine gate_guard (by rfl) ?_; dsimp only)); refine box_event ?hg (N := 4) ?hd (cs := #[.int .u64 a1_0, .int .u64 a1_1, .int .u64 a1_2, .int .i64 a1_3]) (t := 34) ?hr ?_; (case hd => rfl); (case hg => rfl); (case hr => first | (go_simp; done) | (go_simp; rfl)); intro gb180 hg w80 hbox hb; have n0_ := Aside0.mk (below_step (by repeat (first | (with_reducible first | exact HB.out | apply below_alloc | apply pw_below_drewN | apply below_drew1) | exact HB.out)) hb); have n1_ := Aside0.mk (hbox); have n2_ := Aside0.mk ((by rw [hg]; exact (below_size (by repeat (first | (with_reducible first | exact HB.out | apply below_alloc | apply pw_below_drewN | apply below_drew1) | exact HB.out))) : w.heap.size ≤ gb180)); have n3_ := Aside0.mk ((by rw [hg]; exact (below_size (by repeat (first | (with_reducible first | exact HB.out | apply below_alloc | apply pw_below_drewN | apply below_drew1) | exact HB.out))) : w.heap.size ≤ gb180)); clear HB; have HB := n0_; have BK180 := n1_; have GW180 := n2_; have GE180 := n3_; clear n0_ n1_ n2_ n3_; clear hb hbox hg) | ((with_reducible refine gate_dst (N := 5) rfl ?_); (try (refine gate_guard (by rfl) ?_; dsimp only)); refine box_event ?hg (N := 5) ?hd (cs := #[.int .u64 a2_0, .int .u64 a2_1, .int .u64 a2_2, .int .i64 a2_3]) (t := 34) ?hr ?_; (case hd => rfl); (case hg => rfl); (case hr => first | (go_simp; done) | (go_simp; rfl)); intro gb181 hg w81 hbox hb; have n0_ := Aside0.mk (blk_below (g := gb180) (o := .cells #[.int .u64 a1_0, .int .u64 a1_1, .int .u64 a1_2, .int .i64 a1_3] 34 (0, 0)) (by (with_reducible repeat (first | refine blk_drewN ?_ _ | refine blk_drew ?_ | refine blk_alloc ?_ _)); exact BK180.out) hb); have n1_ := Aside0.mk (below_step (by repeat (first | (with_reducible first | exact HB.out | apply below_alloc | apply pw_below_drewN | apply below_drew1 | refine below_set ?_ GE180.out) | exact HB.out)) hb); have n2_ := Aside0.mk (hbox); have n3_ := Aside0.mk ((by rw [hg]; exact (below_size (by repeat (first | (with_reducible first | exact HB.out | apply below_alloc | apply pw_below_drewN | apply below_drew1 | refine below_set ?_ GE180.out) | exact HB.out))) : w.heap.size ≤ gb181)); have n4_ := Aside0.mk ((by rw [hg]; exact (below_size (by repeat (first | (with_reducible first | exact HB.out | apply below_alloc | apply pw_below_drewN | apply below_drew1 | refine below_set ?_ GE180.out) | exact HB.out))) : w.heap.size ≤ gb181)); have n5_ := Aside0.mk ((by rw [hg]; exact Nat.ne_of_lt (blk_lt (g := gb180) (o := .cells #[.int .u64 a1_0, .int .u64 a1_1, .int .u64 a1_2, .int .i64 a1_3] 34 (0, 0)) (by (with_reducible repeat (first | refine blk_drewN ?_ _ | refine blk_drew ?_ | refine blk_alloc ?_ _)); exact BK180.out)) : gb180 ≠ gb181)); have n6_ := Aside0.mk ((by rw [hg]; exact Nat.ne_of_gt (blk_lt (g := gb180) (o := .cells #[.int .u64 a1_0, .int .u64 a1_1, .int .u64 a1_2, .int .i64 a1_3] 34 (0, 0)) (by (with_reducible repeat (first | refine blk_drewN ?_ _ | refine blk_drew ?_ | refine blk_alloc ?_ _)); exact BK180.out)) : gb181 ≠ gb180)); clear BK180; clear HB; have BK180 := n0_; have HB := n1_; have BK181 := n2_; have GW181 := n3_; have GE181 := n4_; have NB180_181 := n5_; have NB181_180 := n6_; clear n0_ n1_ n2_ n3_ n4_ n5_ n6_; clear hb hbox hg) | ((with_reducible refine gate_callee (f := 9) rfl ?_); refine goesL_ (some 15) rfl rfl Try.func9 (by kernel_rfl) rfl #[] rfl (by (try simp only [List.map_toArray, List.map_cons, List.map_nil]); first | done | rfl | (simp only [List.length_drop, List.length_take]; rfl)) ?_; (with_reducible refine (damsonlaw12_live.calls k  false _ A4.out).mono ?_); rintro e w82 ⟨rfl, hb⟩; refine ⟨_, rfl, ?_⟩; have n0_ := Aside0.mk (blk_below (g := gb180) (o := .cells #[.int .u64 a1_0, .int .u64 a1_1, .int .u64 a1_2, .int .i64 a1_3] 34 (0, 0)) (by (with_reducible repeat (first | refine blk_drewN ?_ _ | refine blk_drew ?_ | refine blk_alloc ?_ _)); exact BK180.out) hb); have n1_ := Aside0.mk (blk_below (g := gb181) (o := .cells #[.int .u64 a2_0, .int .u64 a2_1, .int .u64 a2_2, .int .i64 a2_3] 34 (0, 0)) (by (with_reducible repeat (first | refine blk_drewN ?_ _ | refine blk_drew ?_ | refine blk_alloc ?_ _)); exact BK181.out) hb); have n2_ := Aside0.mk (below_step (by repeat (first | (with_reducible first | exact HB.out | apply below_alloc | apply pw_below_drewN | apply below_drew1 | refine below_set ?_ GE180.out | refine below_set ?_ GE181.out) | exact HB.out)) hb); clear BK180; clear BK181; clear HB; have BK180 := n0_; have BK181 := n1_; have HB := n2_; clear n0_ n1_ n2_; (try clear hb); (try clear hb2); (try clear hk); (try clear hi)))
    go_ret
    exact ⟨by first | rfl | (simp [errW_none, errW_some] <;> rfl) | (simp [*, errW_none, errW_some] <;> rfl), by repeat (first | (with_reducible first | exact HB.out | apply below_alloc | apply pw_below_drewN | apply below_drew1 | refine below_set ?_ GE180.out | refine below_set ?_ GE181.out) | exact HB.out)⟩

/-- THE ONE PURE STATEMENT of damsonlaw12_InvoiceOrder: yours. -/
def damsonlaw12_InvoiceOrder.Pure : Prop := ∀ (l0 : List (S34)) (s1 : S34) (s2 : S34), (l0.length ≤ 9223372036854775807 ∧ ∀ y_ ∈ l0, G34 y_) → G34 s1 → G34 s2 → ∃ k, damsonlaw12_InvoiceOrder.f k l0 (s1.f0) (s1.f1) (s1.f2) (s1.f3) (s2.f0) (s2.f1) (s2.f2) (s2.f3) = some true
theorem damsonlaw12_InvoiceOrder.walk (P : damsonlaw12_InvoiceOrder.Pure) (w : World) (l0 : List (S34)) (A0 : Option Addr) (c0 : Nat) (hr0 : Kd.C k34 w A0 l0.length l0) (hc0 : l0.length ≤ c0) (g0 : l0.length ≤ 9223372036854775807 ∧ ∀ y_ ∈ l0, G34 y_) (s1 : S34) (g1 : G34 s1) (s2 : S34) (g2 : G34 s2) :
    Calls Try.prog 5 #[.slice A0 l0.length c0, .agg #[.int .u64 (s1.f0), .int .u64 (s1.f1), .int .u64 (s1.f2), .int .i64 (s1.f3)], .agg #[.int .u64 (s2.f0), .int .u64 (s2.f1), .int .u64 (s2.f2), .int .i64 (s2.f3)]] w fun e w' => e = .returned (.bool true) ∧ Below w.heap.size w w' := by
  obtain ⟨k, h⟩ := P l0 s1 s2 g0 g1 g2
  refine (damsonlaw12_InvoiceOrder.calls k A0 c0 l0 (s1.f0) (s1.f1) (s1.f2) (s1.f3) (s2.f0) (s2.f1) (s2.f2) (s2.f3) true w hr0 hc0 h).mono ?_
  rintro e w' ⟨rfl, hd⟩
  exact ⟨rfl, hd⟩

/-! ### invoice_end: function 32 -/
def invoice_end.f (k : Nat) (l0 : List (S34)) (a1 : Int) (a2 : Int) (a3 : Int) (a4 : Int) : Option ((List (S34)) × Int) := (invoice_find.f k l0 a1).bind fun bt201 => (if bt201.2 = 0 then (if 0 ≤ bt201.1 then (if bt201.1 < (l0.length : Int) then ((invoice_now.f ((rd_T34 l0 bt201.1).f0) ((rd_T34 l0 bt201.1).f1) ((rd_T34 l0 bt201.1).f2) ((rd_T34 l0 bt201.1).f3) a2).bind fun t204 => (if t204 = 4 then (some (([] : List (S34)), 13)) else (if t204 = 1 then (if a3 < ((rd_T34 l0 bt201.1).f1) then (some (([] : List (S34)), 9)) else ((slices_Clone_Invoice.f l0).bind fun t206 => (if bt201.1 < (t206.length : Int) then (some ((t206.set (bt201.1 : Int).toNat (⟨(rd_T34 t206 bt201.1).f0, (rd_T34 t206 bt201.1).f1, (rd_T34 t206 bt201.1).f2, a4⟩ : S34)), 0)) else (none)))) else (some (([] : List (S34)), 10))))) else (none)) else (none)) else (some (([] : List (S34)), bt201.2)))
theorem invoice_end.mono : ∀ a0 a1 a2 a3 a4 k, LeO (invoice_end.f k a0 a1 a2 a3 a4) (invoice_end.f (k + 1) a0 a1 a2 a3 a4) := by
  intro a0 a1 a2 a3 a4 k
  unfold invoice_end.f
  repeat' first
      | (with_reducible exact invoice_find.mono _ _ _)
      | (with_reducible exact LeO.refl _)
      | (with_reducible exact LeO.none _)
      | (with_reducible refine LeO.ite ?_ ?_)
      | (with_reducible refine LeO.bind ?_ (fun _ => ?_))
      | exact invoice_find.mono _ _ _
      | exact LeO.none _
      | refine LeO.ite ?_ ?_
      | refine LeO.bind ?_ (fun _ => ?_)
set_option maxHeartbeats 8000000 in
set_option maxRecDepth 100000 in
theorem invoice_end.calls (k : Nat) (A0 : Option Addr) (c0 : Nat) (l0 : List (S34)) (a1 : Int) (a2 : Int) (a3 : Int) (a4 : Int) (r1 : List (S34)) (r2 : Int) (w : World) (hr0 : Kd.C k34 w A0 l0.length l0) (hc0 : l0.length ≤ c0) (h : invoice_end.f k l0 a1 a2 a3 a4 = some (r1, r2)) :
    Calls Try.prog 32 #[.slice A0 l0.length c0, .int .u64 a1, .int .u64 a2, .int .u64 a3, .int .i64 a4] w fun e w' => ∃ v0_ : Value, e = .returned (.tuple #[v0_, .int .i64 r2]) ∧ Kd.R k34 34 w' w.heap.size (fun _ => True) v0_ r1 ∧ Below w.heap.size w w' := by
  have hu34 := Try.underlying34
  have HR0 := Aside0.mk hr0
  have HC0 := Aside0.mk hc0
  clear hr0 hc0
  have HB := Aside0.mk (Below.refl w.heap.size w)
  have H : ((invoice_find.f k l0 a1).bind fun bt201 => (if bt201.2 = 0 then (if 0 ≤ bt201.1 then (if bt201.1 < (l0.length : Int) then ((invoice_now.f ((rd_T34 l0 bt201.1).f0) ((rd_T34 l0 bt201.1).f1) ((rd_T34 l0 bt201.1).f2) ((rd_T34 l0 bt201.1).f3) a2).bind fun t204 => (if t204 = 4 then (some (([] : List (S34)), 13)) else (if t204 = 1 then (if a3 < ((rd_T34 l0 bt201.1).f1) then (some (([] : List (S34)), 9)) else ((slices_Clone_Invoice.f l0).bind fun t206 => (if bt201.1 < (t206.length : Int) then (some ((t206.set (bt201.1 : Int).toNat (⟨(rd_T34 t206 bt201.1).f0, (rd_T34 t206 bt201.1).f1, (rd_T34 t206 bt201.1).f2, a4⟩ : S34)), 0)) else (none)))) else (some (([] : List (S34)), 10))))) else (none)) else (none)) else (some (([] : List (S34)), bt201.2)))) = some (r1, r2) := h
  clear h
  replace H := Option.bind_eq_some_iff.mp H
  obtain ⟨⟨t201, t202⟩, A60, H⟩ := H
  replace H : (if t202 = 0 then (if 0 ≤ t201 then (if t201 < (l0.length : Int) then ((invoice_now.f ((rd_T34 l0 t201).f0) ((rd_T34 l0 t201).f1) ((rd_T34 l0 t201).f2) ((rd_T34 l0 t201).f3) a2).bind fun t204 => (if t204 = 4 then (some (([] : List (S34)), 13)) else (if t204 = 1 then (if a3 < ((rd_T34 l0 t201).f1) then (some (([] : List (S34)), 9)) else ((slices_Clone_Invoice.f l0).bind fun t206 => (if t201 < (t206.length : Int) then (some ((t206.set (t201 : Int).toNat (⟨(rd_T34 t206 t201).f0, (rd_T34 t206 t201).f1, (rd_T34 t206 t201).f2, a4⟩ : S34)), 0)) else (none)))) else (some (([] : List (S34)), 10))))) else (none)) else (none)) else (some (([] : List (S34)), t202))) = some (r1, r2) := H
  have A6 := Aside0.mk A60
  clear A60
  by_cases c7 : t202 = 0
  · rw [if_pos c7] at H
    have c7b0 : (t202 == 0) = true := beq_iff_eq.mpr c7
    have c7b1 : (t202 != 0) = false := bne_eq_false_iff_eq.mpr c7
    clear c7
    by_cases c8 : 0 ≤ t201
    · rw [if_pos c8] at H
      have c8b0 : decide (0 ≤ t201) = true := decide_eq_true c8
      clear c8
      by_cases c9 : t201 < (l0.length : Int)
      · rw [if_pos c9] at H
        have c9b0 : decide (t201 < (l0.length : Int)) = true := decide_eq_true c9
        clear c9
        replace H := Option.bind_eq_some_iff.mp H
        obtain ⟨t204, A100, H⟩ := H
        replace H : (if t204 = 4 then (some (([] : List (S34)), 13)) else (if t204 = 1 then (if a3 < ((rd_T34 l0 t201).f1) then (some (([] : List (S34)), 9)) else ((slices_Clone_Invoice.f l0).bind fun t206 => (if t201 < (t206.length : Int) then (some ((t206.set (t201 : Int).toNat (⟨(rd_T34 t206 t201).f0, (rd_T34 t206 t201).f1, (rd_T34 t206 t201).f2, a4⟩ : S34)), 0)) else (none)))) else (some (([] : List (S34)), 10)))) = some (r1, r2) := H
        have A10 := Aside0.mk A100
        clear A100
        by_cases c11 : t204 = 4
        · rw [if_pos c11] at H
          have c11b0 : (t204 == 4) = true := beq_iff_eq.mpr c11
          have c11b1 : (t204 != 4) = false := bne_eq_false_iff_eq.mpr c11
          clear c11
          simp only [Option.some.injEq, Prod.mk.injEq] at H
          obtain ⟨rfl, rfl⟩ := H
          go_enter Try.func32, Try.ntmps32
          go_wp2_with (first | ((with_reducible refine gate_callee (f := 25) rfl ?_); refine goesL_ (some 18) rfl rfl Try.func25 (by kernel_rfl) rfl #[.slice A0 l0.length c0, .int .u64 a1] rfl (by (try simp only [List.map_toArray, List.map_cons, List.map_nil]); first | done | rfl | (simp only [List.length_drop, List.length_take]; rfl)) ?_; (with_reducible refine (invoice_find.calls k _ _ l0 a1 t201 t202 _ ?side1 ?side2 A6.out).mono ?_); (case side1 => repeat (first | exact HR0.out | (with_reducible refine Kd.C_alloc ?_ _) | (with_reducible refine Kd.C_drewN ?_ _) | (with_reducible refine Kd.C_drew ?_))); (case side2 => exact HC0.out); rintro e w12 ⟨rfl, hb⟩; refine ⟨_, rfl, ?_⟩; have n0_ := Aside0.mk (below_step (by repeat (first | (with_reducible first | exact HB.out | apply below_alloc | apply pw_below_drewN | apply below_drew1) | exact HB.out)) hb); clear HB; have HB := n0_; clear n0_; (try clear hb); (try clear hb2); (try clear hk); (try clear hi); have p203 : 0 ≤ (t201 : Int) := of_decide_eq_true (by first | (with_reducible assumption) | assumption); have q203 : t201 < (l0.length : Int) := of_decide_eq_true (by first | (with_reducible assumption) | assumption); obtain ⟨ad203, e203, hx203_0, hx203_1, hx203_2, hx203_3⟩ := at_T34 HR0.out t201 p203 q203; cases e203; replace hx203_0 := (HB.out.cell (World.block_lt_of_cell? w _ hx203_0)).trans hx203_0; replace hx203_1 := (HB.out.cell (World.block_lt_of_cell? w _ hx203_1)).trans hx203_1; replace hx203_2 := (HB.out.cell (World.block_lt_of_cell? w _ hx203_2)).trans hx203_2; replace hx203_3 := (HB.out.cell (World.block_lt_of_cell? w _ hx203_3)).trans hx203_3; replace p203 := eq_true p203; replace q203 := eq_true q203) | ((with_reducible refine gate_callee (f := 29) rfl ?_); refine goesL_ (some 29) rfl rfl Try.func29 (by kernel_rfl) rfl #[.agg #[.int .u64 ((rd_T34 l0 t201).f0), .int .u64 ((rd_T34 l0 t201).f1), .int .u64 ((rd_T34 l0 t201).f2), .int .i64 ((rd_T34 l0 t201).f3)], .int .u64 a2] rfl (by (try simp only [List.map_toArray, List.map_cons, List.map_nil]); first | done | rfl | (simp only [List.length_drop, List.length_take]; rfl)) ?_; (with_reducible refine (invoice_now.calls ((rd_T34 l0 t201).f0) ((rd_T34 l0 t201).f1) ((rd_T34 l0 t201).f2) ((rd_T34 l0 t201).f3) a2 t204 _ A10.out).mono ?_); rintro e w13 ⟨rfl, hb⟩; refine ⟨_, rfl, ?_⟩; have n0_ := Aside0.mk (below_step (by repeat (first | (with_reducible first | exact HB.out | apply below_alloc | apply pw_below_drewN | apply below_drew1) | exact HB.out)) hb); clear HB; have HB := n0_; clear n0_; (try clear hb); (try clear hb2); (try clear hk); (try clear hi)))
          go_ret2
          exact ⟨_, by first | rfl | (simp [errW_none, errW_some] <;> rfl) | (simp [*, errW_none, errW_some] <;> rfl), by first | exact Kd.R_nil _ _ _ _ _ | exact Kd.N_nil _ _ _ _ _ | exact Kd.V_nil _ _ _ _ _ | exact Kd.Q_nil _ _ _ _ _ | exact Kd.S_nil _ _ _ _ _, by repeat (first | (with_reducible first | exact HB.out | apply below_alloc | apply pw_below_drewN | apply below_drew1) | exact HB.out)⟩
        · rw [if_neg c11] at H
          have c11b0 : (t204 == 4) = false := beq_eq_false_iff_ne.mpr c11
          have c11b1 : (t204 != 4) = true := bne_iff_ne.mpr c11
          by_cases c14 : t204 = 1
          · rw [if_pos c14] at H
            have c14b0 : (t204 == 1) = true := beq_iff_eq.mpr c14
            have c14b1 : (t204 != 1) = false := bne_eq_false_iff_eq.mpr c14
            clear c14
            by_cases c15 : a3 < ((rd_T34 l0 t201).f1)
            · rw [if_pos c15] at H
              have c15b0 : decide (a3 < ((rd_T34 l0 t201).f1)) = true := decide_eq_true c15
              clear c15
              simp only [Option.some.injEq, Prod.mk.injEq] at H
              obtain ⟨rfl, rfl⟩ := H
              go_enter Try.func32, Try.ntmps32
              go_wp2_with (first | ((with_reducible refine gate_callee (f := 25) rfl ?_); refine goesL_ (some 18) rfl rfl Try.func25 (by kernel_rfl) rfl #[.slice A0 l0.length c0, .int .u64 a1] rfl (by (try simp only [List.map_toArray, List.map_cons, List.map_nil]); first | done | rfl | (simp only [List.length_drop, List.length_take]; rfl)) ?_; (with_reducible refine (invoice_find.calls k _ _ l0 a1 t201 t202 _ ?side1 ?side2 A6.out).mono ?_); (case side1 => repeat (first | exact HR0.out | (with_reducible refine Kd.C_alloc ?_ _) | (with_reducible refine Kd.C_drewN ?_ _) | (with_reducible refine Kd.C_drew ?_))); (case side2 => exact HC0.out); rintro e w16 ⟨rfl, hb⟩; refine ⟨_, rfl, ?_⟩; have n0_ := Aside0.mk (below_step (by repeat (first | (with_reducible first | exact HB.out | apply below_alloc | apply pw_below_drewN | apply below_drew1) | exact HB.out)) hb); clear HB; have HB := n0_; clear n0_; (try clear hb); (try clear hb2); (try clear hk); (try clear hi); have p203 : 0 ≤ (t201 : Int) := of_decide_eq_true (by first | (with_reducible assumption) | assumption); have q203 : t201 < (l0.length : Int) := of_decide_eq_true (by first | (with_reducible assumption) | assumption); obtain ⟨ad203, e203, hx203_0, hx203_1, hx203_2, hx203_3⟩ := at_T34 HR0.out t201 p203 q203; cases e203; replace hx203_0 := (HB.out.cell (World.block_lt_of_cell? w _ hx203_0)).trans hx203_0; replace hx203_1 := (HB.out.cell (World.block_lt_of_cell? w _ hx203_1)).trans hx203_1; replace hx203_2 := (HB.out.cell (World.block_lt_of_cell? w _ hx203_2)).trans hx203_2; replace hx203_3 := (HB.out.cell (World.block_lt_of_cell? w _ hx203_3)).trans hx203_3; replace p203 := eq_true p203; replace q203 := eq_true q203) | ((with_reducible refine gate_callee (f := 29) rfl ?_); refine goesL_ (some 29) rfl rfl Try.func29 (by kernel_rfl) rfl #[.agg #[.int .u64 ((rd_T34 l0 t201).f0), .int .u64 ((rd_T34 l0 t201).f1), .int .u64 ((rd_T34 l0 t201).f2), .int .i64 ((rd_T34 l0 t201).f3)], .int .u64 a2] rfl (by (try simp only [List.map_toArray, List.map_cons, List.map_nil]); first | done | rfl | (simp only [List.length_drop, List.length_take]; rfl)) ?_; (with_reducible refine (invoice_now.calls ((rd_T34 l0 t201).f0) ((rd_T34 l0 t201).f1) ((rd_T34 l0 t201).f2) ((rd_T34 l0 t201).f3) a2 t204 _ A10.out).mono ?_); rintro e w17 ⟨rfl, hb⟩; refine ⟨_, rfl, ?_⟩; have n0_ := Aside0.mk (below_step (by repeat (first | (with_reducible first | exact HB.out | apply below_alloc | apply pw_below_drewN | apply below_drew1) | exact HB.out)) hb); clear HB; have HB := n0_; clear n0_; (try clear hb); (try clear hb2); (try clear hk); (try clear hi); have p205 : 0 ≤ (t201 : Int) := of_decide_eq_true (by first | (with_reducible assumption) | assumption); have q205 : t201 < (l0.length : Int) := of_decide_eq_true (by first | (with_reducible assumption) | assumption); obtain ⟨ad205, e205, hx205_0, hx205_1, hx205_2, hx205_3⟩ := at_T34 HR0.out t201 p205 q205; obtain rfl : ad203 = ad205 := (by injection e205); replace hx205_0 := (HB.out.cell (World.block_lt_of_cell? w _ hx205_0)).trans hx205_0; replace hx205_1 := (HB.out.cell (World.block_lt_of_cell? w _ hx205_1)).trans hx205_1; replace hx205_2 := (HB.out.cell (World.block_lt_of_cell? w _ hx205_2)).trans hx205_2; replace hx205_3 := (HB.out.cell (World.block_lt_of_cell? w _ hx205_3)).trans hx205_3; replace p205 := eq_true p205; replace q205 := eq_true q205))
              go_ret2
              exact ⟨_, by first | rfl | (simp [errW_none, errW_some] <;> rfl) | (simp [*, errW_none, errW_some] <;> rfl), by first | exact Kd.R_nil _ _ _ _ _ | exact Kd.N_nil _ _ _ _ _ | exact Kd.V_nil _ _ _ _ _ | exact Kd.Q_nil _ _ _ _ _ | exact Kd.S_nil _ _ _ _ _, by repeat (first | (with_reducible first | exact HB.out | apply below_alloc | apply pw_below_drewN | apply below_drew1) | exact HB.out)⟩
            · rw [if_neg c15] at H
              have c15b0 : decide (a3 < ((rd_T34 l0 t201).f1)) = false := decide_eq_false c15
              clear c15
              replace H := Option.bind_eq_some_iff.mp H
              obtain ⟨t206, A180, H⟩ := H
              replace H : (if t201 < (t206.length : Int) then (some ((t206.set (t201 : Int).toNat (⟨(rd_T34 t206 t201).f0, (rd_T34 t206 t201).f1, (rd_T34 t206 t201).f2, a4⟩ : S34)), 0)) else (none)) = some (r1, r2) := H
              have A18 := Aside0.mk A180
              clear A180
              by_cases c19 : t201 < (t206.length : Int)
              · rw [if_pos c19] at H
                have c19b0 : decide (t201 < (t206.length : Int)) = true := decide_eq_true c19
                clear c19
                obtain ⟨y209, hy209⟩ : ∃ y_ : List (S34), y_ = (t206.set (t201 : Int).toNat (⟨(rd_T34 t206 t201).f0, (rd_T34 t206 t201).f1, (rd_T34 t206 t201).f2, a4⟩ : S34)) := ⟨_, rfl⟩
                replace H : (some (y209, 0)) = some (r1, r2) := by first | (rw [hy209]; with_reducible exact H) | (have H2_ := (Option.bind_some _ _).symm.trans H; rw [hy209]; with_reducible exact H2_) | (have H2_ := (Option.bind_some _ _).symm.trans H; with_reducible exact H2_) | with_reducible exact H | (rw [hy209]; exact H) | exact H
                have Ny209 := Aside0.mk hy209
                clear hy209
                simp only [Option.some.injEq, Prod.mk.injEq] at H
                obtain ⟨rfl, rfl⟩ := H
                go_enter Try.func32, Try.ntmps32
                go_wp2_with (first | ((with_reducible refine gate_callee (f := 25) rfl ?_); refine goesL_ (some 18) rfl rfl Try.func25 (by kernel_rfl) rfl #[.slice A0 l0.length c0, .int .u64 a1] rfl (by (try simp only [List.map_toArray, List.map_cons, List.map_nil]); first | done | rfl | (simp only [List.length_drop, List.length_take]; rfl)) ?_; (with_reducible refine (invoice_find.calls k _ _ l0 a1 t201 t202 _ ?side1 ?side2 A6.out).mono ?_); (case side1 => repeat (first | exact HR0.out | (with_reducible refine Kd.C_alloc ?_ _) | (with_reducible refine Kd.C_drewN ?_ _) | (with_reducible refine Kd.C_drew ?_))); (case side2 => exact HC0.out); rintro e w21 ⟨rfl, hb⟩; refine ⟨_, rfl, ?_⟩; have n0_ := Aside0.mk (below_step (by repeat (first | (with_reducible first | exact HB.out | apply below_alloc | apply pw_below_drewN | apply below_drew1) | exact HB.out)) hb); clear HB; have HB := n0_; clear n0_; (try clear hb); (try clear hb2); (try clear hk); (try clear hi); have p203 : 0 ≤ (t201 : Int) := of_decide_eq_true (by first | (with_reducible assumption) | assumption); have q203 : t201 < (l0.length : Int) := of_decide_eq_true (by first | (with_reducible assumption) | assumption); obtain ⟨ad203, e203, hx203_0, hx203_1, hx203_2, hx203_3⟩ := at_T34 HR0.out t201 p203 q203; cases e203; replace hx203_0 := (HB.out.cell (World.block_lt_of_cell? w _ hx203_0)).trans hx203_0; replace hx203_1 := (HB.out.cell (World.block_lt_of_cell? w _ hx203_1)).trans hx203_1; replace hx203_2 := (HB.out.cell (World.block_lt_of_cell? w _ hx203_2)).trans hx203_2; replace hx203_3 := (HB.out.cell (World.block_lt_of_cell? w _ hx203_3)).trans hx203_3; replace p203 := eq_true p203; replace q203 := eq_true q203) | ((with_reducible refine gate_callee (f := 29) rfl ?_); refine goesL_ (some 29) rfl rfl Try.func29 (by kernel_rfl) rfl #[.agg #[.int .u64 ((rd_T34 l0 t201).f0), .int .u64 ((rd_T34 l0 t201).f1), .int .u64 ((rd_T34 l0 t201).f2), .int .i64 ((rd_T34 l0 t201).f3)], .int .u64 a2] rfl (by (try simp only [List.map_toArray, List.map_cons, List.map_nil]); first | done | rfl | (simp only [List.length_drop, List.length_take]; rfl)) ?_; (with_reducible refine (invoice_now.calls ((rd_T34 l0 t201).f0) ((rd_T34 l0 t201).f1) ((rd_T34 l0 t201).f2) ((rd_T34 l0 t201).f3) a2 t204 _ A10.out).mono ?_); rintro e w22 ⟨rfl, hb⟩; refine ⟨_, rfl, ?_⟩; have n0_ := Aside0.mk (below_step (by repeat (first | (with_reducible first | exact HB.out | apply below_alloc | apply pw_below_drewN | apply below_drew1) | exact HB.out)) hb); clear HB; have HB := n0_; clear n0_; (try clear hb); (try clear hb2); (try clear hk); (try clear hi); have p205 : 0 ≤ (t201 : Int) := of_decide_eq_true (by first | (with_reducible assumption) | assumption); have q205 : t201 < (l0.length : Int) := of_decide_eq_true (by first | (with_reducible assumption) | assumption); obtain ⟨ad205, e205, hx205_0, hx205_1, hx205_2, hx205_3⟩ := at_T34 HR0.out t201 p205 q205; obtain rfl : ad203 = ad205 := (by injection e205); replace hx205_0 := (HB.out.cell (World.block_lt_of_cell? w _ hx205_0)).trans hx205_0; replace hx205_1 := (HB.out.cell (World.block_lt_of_cell? w _ hx205_1)).trans hx205_1; replace hx205_2 := (HB.out.cell (World.block_lt_of_cell? w _ hx205_2)).trans hx205_2; replace hx205_3 := (HB.out.cell (World.block_lt_of_cell? w _ hx205_3)).trans hx205_3; replace p205 := eq_true p205; replace q205 := eq_true q205) | ((with_reducible refine gate_callee (f := 28) rfl ?_); refine goesL_ (some 45) rfl rfl Try.func28 (by kernel_rfl) rfl #[.slice (some ad203) l0.length c0] rfl (by (try simp only [List.map_toArray, List.map_cons, List.map_nil]); first | done | rfl | (simp only [List.length_drop, List.length_take]; rfl)) ?_; (with_reducible refine (slices_Clone_Invoice.calls _ _ l0 t206 _ ?side1 ?side2 A18.out).mono ?_); (case side1 => repeat (first | exact (Kd.C_below HR0.out HB.out) | (with_reducible refine Kd.C_alloc ?_ _) | (with_reducible refine Kd.C_drewN ?_ _) | (with_reducible refine Kd.C_drew ?_))); (case side2 => exact HC0.out); rintro e w23 ⟨v207, rfl, ho0, hb⟩; refine ⟨_, rfl, ?_⟩; have n0_ := Aside0.mk (Kd.R_lower ho0 (below_size (by repeat (first | (with_reducible first | exact HB.out | apply below_alloc | apply pw_below_drewN | apply below_drew1) | exact HB.out)))); have n1_ := Aside0.mk (below_step (by repeat (first | (with_reducible first | exact HB.out | apply below_alloc | apply pw_below_drewN | apply below_drew1) | exact HB.out)) hb); clear HB; have HO208 := n0_; have HB := n1_; clear n0_ n1_; (try clear hb); (try clear hb2); (try clear hk); (try clear hi); (try clear ho0); have p20 : 0 ≤ (t201 : Int) := of_decide_eq_true (by first | (with_reducible assumption) | assumption); have q20 : (t201 : Int) < ((t206.length : Int) : Int) := of_decide_eq_true (by first | (with_reducible assumption) | assumption); obtain ⟨go20, co20, eo20, gb20, gl20, cl20, HG20⟩ := Kd.R_form HO208.out (by omega); (first | cases eo20 | (injection eo20 with ea_ en_ ec_; (first | subst ea_ | (injection ea_ with ea_; subst ea_)); subst ec_; clear en_)); have GB20 := Aside0.mk gb20; have GG20 := Aside0.mk HG20; clear gb20 gl20 HG20; obtain ⟨ce20, hcl20, hM20, hcc20, hfr20⟩ := Kd.R_elem HO208.out z34 (t201 : Int) p20 q20; obtain rfl := k34_openM hM20; have hx20_0 : w23.cell? ⟨go20, (t201 : Int).toNat * 4, none⟩ = some (.int .u64 ((rd_T34 t206 t201).f0)) := hcc20 0 _ rfl; have hx20_1 : w23.cell? ⟨go20, (t201 : Int).toNat * 4 + 1, none⟩ = some (.int .u64 ((rd_T34 t206 t201).f1)) := hcc20 1 _ rfl; have hx20_2 : w23.cell? ⟨go20, (t201 : Int).toNat * 4 + 2, none⟩ = some (.int .u64 ((rd_T34 t206 t201).f2)) := hcc20 2 _ rfl; have hx20_3 : w23.cell? ⟨go20, (t201 : Int).toNat * 4 + 3, none⟩ = some (.int .i64 ((rd_T34 t206 t201).f3)) := hcc20 3 _ rfl; have hf20_0 : w23.frozen? ⟨go20, (t201 : Int).toNat * 4, none⟩ = false := hfr20 0; have hf20_1 : w23.frozen? ⟨go20, (t201 : Int).toNat * 4 + 1, none⟩ = false := hfr20 1; have hf20_2 : w23.frozen? ⟨go20, (t201 : Int).toNat * 4 + 2, none⟩ = false := hfr20 2; have hf20_3 : w23.frozen? ⟨go20, (t201 : Int).toNat * 4 + 3, none⟩ = false := hfr20 3; clear hcl20 hcc20 hfr20 hM20; replace p20 := eq_true p20; replace q20 := eq_true q20; have HX24 := Aside0.mk (show Kd.R k34 34 w23 w.heap.size (fun _ => True) (.slice (some ⟨go20, 0, none⟩) t206.length co20) t206 from (by (with_reducible repeat (first | apply Kd.R_alloc | apply Kd.R_drewN | apply Kd.R_drew)); exact HO208.out)); obtain ⟨ce24, hcl24, hM24, hcc24, hfr24⟩ := Kd.R_elem HX24.out z34 (t201 : Int) (of_decide_eq_true (by first | (with_reducible assumption) | assumption)) (by have h_ : (t201 : Int) < ((t206.length : Int) : Int) := of_decide_eq_true (by first | (with_reducible assumption) | assumption); first | exact h_ | (have e_ := (Kd.R_reads' HO208.out).1; omega) | simpa using h_); obtain rfl := k34_openM hM24; have HP24 := Kd.R_seg HX24.out (t201 : Int) (of_decide_eq_true (by first | (with_reducible assumption) | assumption)) (by have h_ : (t201 : Int) < ((t206.length : Int) : Int) := of_decide_eq_true (by first | (with_reducible assumption) | assumption); first | exact h_ | (have e_ := (Kd.R_reads' HO208.out).1; omega) | simpa using h_) (seg := [.int .i64 a4]) (j := 3) hcl24 hcc24 (show 4 ≤ 4 from by decide) (x' := (⟨(rd_T34 t206 t201).f0, (rd_T34 t206 t201).f1, (rd_T34 t206 t201).f2, a4⟩ : S34)) (k34_mkM _ _ _ (⟨(rd_T34 t206 t201).f0, (rd_T34 t206 t201).f1, (rd_T34 t206 t201).f2, a4⟩ : S34) ) (fun _ hk => hk); have hx24_3 := hcc24 3 _ rfl; (try simp only [show (k34).sz = 4 from rfl, Nat.mul_one, Nat.add_zero] at hx24_3); have hf24_3 := hfr24 3; (try simp only [show (k34).sz = 4 from rfl, Nat.mul_one, Nat.add_zero] at hf24_3); clear hcl24 hcc24 hfr24 hM24) | ((with_reducible refine gate_store (t := 3) (p := 50) rfl ?_); refine store_event (t := 3) (p := 50) (v := ?vo_w25) (w1 := (w23.setCell ⟨go20, (t201 : Int).toNat * 4 + 3, none⟩ (.int .i64 a4))) ?hg ?ho ?hn ?hr ?_; (case ho => rfl); (case hg => rfl); (case hn => rfl); (case hr => first | (go_simp; done) | (go_simp; rfl)); intro w25 hw; have hg : w23.grownBy w25 (some go20) := (by rw [hw]; exact HP24.2); have hp_ : Kd.R k34 34 w25 w.heap.size (fun _ => True) (.slice (some ⟨go20, 0, none⟩) t206.length co20) y209 := (by rw [hw, Ny209.out]; exact HP24.1); clear HP24; have n0_ := Aside0.mk (hp_); have n1_ := Aside0.mk ((by rw [hw]; exact below_set (HB.out) GB20.out : Below w.heap.size w w25)); clear HO208; clear HB; have HO208 := n0_; have HB := n1_; clear n0_ n1_; clear hg hw hp_))
                go_ret2
                exact ⟨_, by first | rfl | (simp [errW_none, errW_some] <;> rfl) | (simp [*, errW_none, errW_some] <;> rfl), by (with_reducible repeat (first | apply Kd.R_alloc | apply Kd.R_drewN | apply Kd.R_drew)); exact HO208.out, by repeat (first | (with_reducible first | exact HB.out | apply below_alloc | apply pw_below_drewN | apply below_drew1) | exact HB.out)⟩
              · rw [if_neg c19] at H
                exact absurd H (by simp)
          · rw [if_neg c14] at H
            have c14b0 : (t204 == 1) = false := beq_eq_false_iff_ne.mpr c14
            have c14b1 : (t204 != 1) = true := bne_iff_ne.mpr c14
            simp only [Option.some.injEq, Prod.mk.injEq] at H
            obtain ⟨rfl, rfl⟩ := H
            go_enter Try.func32, Try.ntmps32
            go_wp2_with (first | ((with_reducible refine gate_callee (f := 25) rfl ?_); refine goesL_ (some 18) rfl rfl Try.func25 (by kernel_rfl) rfl #[.slice A0 l0.length c0, .int .u64 a1] rfl (by (try simp only [List.map_toArray, List.map_cons, List.map_nil]); first | done | rfl | (simp only [List.length_drop, List.length_take]; rfl)) ?_; (with_reducible refine (invoice_find.calls k _ _ l0 a1 t201 t202 _ ?side1 ?side2 A6.out).mono ?_); (case side1 => repeat (first | exact HR0.out | (with_reducible refine Kd.C_alloc ?_ _) | (with_reducible refine Kd.C_drewN ?_ _) | (with_reducible refine Kd.C_drew ?_))); (case side2 => exact HC0.out); rintro e w26 ⟨rfl, hb⟩; refine ⟨_, rfl, ?_⟩; have n0_ := Aside0.mk (below_step (by repeat (first | (with_reducible first | exact HB.out | apply below_alloc | apply pw_below_drewN | apply below_drew1) | exact HB.out)) hb); clear HB; have HB := n0_; clear n0_; (try clear hb); (try clear hb2); (try clear hk); (try clear hi); have p203 : 0 ≤ (t201 : Int) := of_decide_eq_true (by first | (with_reducible assumption) | assumption); have q203 : t201 < (l0.length : Int) := of_decide_eq_true (by first | (with_reducible assumption) | assumption); obtain ⟨ad203, e203, hx203_0, hx203_1, hx203_2, hx203_3⟩ := at_T34 HR0.out t201 p203 q203; cases e203; replace hx203_0 := (HB.out.cell (World.block_lt_of_cell? w _ hx203_0)).trans hx203_0; replace hx203_1 := (HB.out.cell (World.block_lt_of_cell? w _ hx203_1)).trans hx203_1; replace hx203_2 := (HB.out.cell (World.block_lt_of_cell? w _ hx203_2)).trans hx203_2; replace hx203_3 := (HB.out.cell (World.block_lt_of_cell? w _ hx203_3)).trans hx203_3; replace p203 := eq_true p203; replace q203 := eq_true q203) | ((with_reducible refine gate_callee (f := 29) rfl ?_); refine goesL_ (some 29) rfl rfl Try.func29 (by kernel_rfl) rfl #[.agg #[.int .u64 ((rd_T34 l0 t201).f0), .int .u64 ((rd_T34 l0 t201).f1), .int .u64 ((rd_T34 l0 t201).f2), .int .i64 ((rd_T34 l0 t201).f3)], .int .u64 a2] rfl (by (try simp only [List.map_toArray, List.map_cons, List.map_nil]); first | done | rfl | (simp only [List.length_drop, List.length_take]; rfl)) ?_; (with_reducible refine (invoice_now.calls ((rd_T34 l0 t201).f0) ((rd_T34 l0 t201).f1) ((rd_T34 l0 t201).f2) ((rd_T34 l0 t201).f3) a2 t204 _ A10.out).mono ?_); rintro e w27 ⟨rfl, hb⟩; refine ⟨_, rfl, ?_⟩; have n0_ := Aside0.mk (below_step (by repeat (first | (with_reducible first | exact HB.out | apply below_alloc | apply pw_below_drewN | apply below_drew1) | exact HB.out)) hb); clear HB; have HB := n0_; clear n0_; (try clear hb); (try clear hb2); (try clear hk); (try clear hi)))
            go_ret2
            exact ⟨_, by first | rfl | (simp [errW_none, errW_some] <;> rfl) | (simp [*, errW_none, errW_some] <;> rfl), by first | exact Kd.R_nil _ _ _ _ _ | exact Kd.N_nil _ _ _ _ _ | exact Kd.V_nil _ _ _ _ _ | exact Kd.Q_nil _ _ _ _ _ | exact Kd.S_nil _ _ _ _ _, by repeat (first | (with_reducible first | exact HB.out | apply below_alloc | apply pw_below_drewN | apply below_drew1) | exact HB.out)⟩
      · rw [if_neg c9] at H
        exact absurd H (by simp)
    · rw [if_neg c8] at H
      exact absurd H (by simp)
  · rw [if_neg c7] at H
    have c7b0 : (t202 == 0) = false := beq_eq_false_iff_ne.mpr c7
    have c7b1 : (t202 != 0) = true := bne_iff_ne.mpr c7
    simp only [Option.some.injEq, Prod.mk.injEq] at H
    obtain ⟨rfl, rfl⟩ := H
    go_enter Try.func32, Try.ntmps32
    go_wp2_with (first | ((with_reducible refine gate_callee (f := 25) rfl ?_); refine goesL_ (some 18) rfl rfl Try.func25 (by kernel_rfl) rfl #[.slice A0 l0.length c0, .int .u64 a1] rfl (by (try simp only [List.map_toArray, List.map_cons, List.map_nil]); first | done | rfl | (simp only [List.length_drop, List.length_take]; rfl)) ?_; (with_reducible refine (invoice_find.calls k _ _ l0 a1 t201 t202 _ ?side1 ?side2 A6.out).mono ?_); (case side1 => repeat (first | exact HR0.out | (with_reducible refine Kd.C_alloc ?_ _) | (with_reducible refine Kd.C_drewN ?_ _) | (with_reducible refine Kd.C_drew ?_))); (case side2 => exact HC0.out); rintro e w28 ⟨rfl, hb⟩; refine ⟨_, rfl, ?_⟩; have n0_ := Aside0.mk (below_step (by repeat (first | (with_reducible first | exact HB.out | apply below_alloc | apply pw_below_drewN | apply below_drew1) | exact HB.out)) hb); clear HB; have HB := n0_; clear n0_; (try clear hb); (try clear hb2); (try clear hk); (try clear hi)))
    go_ret2
    exact ⟨_, by first | rfl | (simp [errW_none, errW_some] <;> rfl) | (simp [*, errW_none, errW_some] <;> rfl), by first | exact Kd.R_nil _ _ _ _ _ | exact Kd.N_nil _ _ _ _ _ | exact Kd.V_nil _ _ _ _ _ | exact Kd.Q_nil _ _ _ _ _ | exact Kd.S_nil _ _ _ _ _, by repeat (first | (with_reducible first | exact HB.out | apply below_alloc | apply pw_below_drewN | apply below_drew1) | exact HB.out)⟩

/-! ### invoice_Pay: function 14 -/
def invoice_Pay.f (k : Nat) (l0 : List (S34)) (a1 : Int) (a2 : Int) (a3 : Int) : Option ((List (S34)) × Int) := (invoice_end.f k l0 a1 a3 a2 2).bind fun bt210 => (some (bt210.1, bt210.2))
theorem invoice_Pay.mono : ∀ a0 a1 a2 a3 k, LeO (invoice_Pay.f k a0 a1 a2 a3) (invoice_Pay.f (k + 1) a0 a1 a2 a3) := by
  intro a0 a1 a2 a3 k
  unfold invoice_Pay.f
  repeat' first
      | (with_reducible exact invoice_end.mono _ _ _ _ _ _)
      | (with_reducible exact LeO.refl _)
      | (with_reducible exact LeO.none _)
      | (with_reducible refine LeO.ite ?_ ?_)
      | (with_reducible refine LeO.bind ?_ (fun _ => ?_))
      | exact invoice_end.mono _ _ _ _ _ _
      | exact LeO.none _
      | refine LeO.ite ?_ ?_
      | refine LeO.bind ?_ (fun _ => ?_)
set_option maxHeartbeats 8000000 in
set_option maxRecDepth 100000 in
theorem invoice_Pay.calls (k : Nat) (A0 : Option Addr) (c0 : Nat) (l0 : List (S34)) (a1 : Int) (a2 : Int) (a3 : Int) (r1 : List (S34)) (r2 : Int) (w : World) (hr0 : Kd.C k34 w A0 l0.length l0) (hc0 : l0.length ≤ c0) (h : invoice_Pay.f k l0 a1 a2 a3 = some (r1, r2)) :
    Calls Try.prog 14 #[.slice A0 l0.length c0, .int .u64 a1, .int .u64 a2, .int .u64 a3] w fun e w' => ∃ v0_ : Value, e = .returned (.tuple #[v0_, .int .i64 r2]) ∧ Kd.R k34 34 w' w.heap.size (fun _ => True) v0_ r1 ∧ Below w.heap.size w w' := by
  have HR0 := Aside0.mk hr0
  have HC0 := Aside0.mk hc0
  clear hr0 hc0
  have HB := Aside0.mk (Below.refl w.heap.size w)
  have H : ((invoice_end.f k l0 a1 a3 a2 2).bind fun bt210 => (some (bt210.1, bt210.2))) = some (r1, r2) := h
  clear h
  replace H := Option.bind_eq_some_iff.mp H
  obtain ⟨⟨t210, t211⟩, A50, H⟩ := H
  replace H : (some (t210, t211)) = some (r1, r2) := H
  have A5 := Aside0.mk A50
  clear A50
  simp only [Option.some.injEq, Prod.mk.injEq] at H
  obtain ⟨rfl, rfl⟩ := H
  go_enter Try.func14, Try.ntmps14
  go_wp2_with (first | ((with_reducible refine gate_callee (f := 32) rfl ?_); refine goesL_ (some 14) rfl rfl Try.func32 (by kernel_rfl) rfl #[.slice A0 l0.length c0, .int .u64 a1, .int .u64 a3, .int .u64 a2, .int .i64 2] rfl (by (try simp only [List.map_toArray, List.map_cons, List.map_nil]); first | done | rfl | (simp only [List.length_drop, List.length_take]; rfl)) ?_; (with_reducible refine (invoice_end.calls k _ _ l0 a1 a3 a2 2 t210 t211 _ ?side1 ?side2 A5.out).mono ?_); (case side1 => repeat (first | exact HR0.out | (with_reducible refine Kd.C_alloc ?_ _) | (with_reducible refine Kd.C_drewN ?_ _) | (with_reducible refine Kd.C_drew ?_))); (case side2 => exact HC0.out); rintro e w6 ⟨v212, rfl, ho0, hb⟩; refine ⟨_, rfl, ?_⟩; have n0_ := Aside0.mk (Kd.R_lower ho0 (below_size (by repeat (first | (with_reducible first | exact HB.out | apply below_alloc | apply pw_below_drewN | apply below_drew1) | exact HB.out)))); have n1_ := Aside0.mk (below_step (by repeat (first | (with_reducible first | exact HB.out | apply below_alloc | apply pw_below_drewN | apply below_drew1) | exact HB.out)) hb); clear HB; have HO213 := n0_; have HB := n1_; clear n0_ n1_; (try clear hb); (try clear hb2); (try clear hk); (try clear hi); (try clear ho0)))
  go_ret2
  exact ⟨_, by first | rfl | (simp [errW_none, errW_some] <;> rfl) | (simp [*, errW_none, errW_some] <;> rfl), by (with_reducible repeat (first | apply Kd.R_alloc | apply Kd.R_drewN | apply Kd.R_drew)); exact HO213.out, by repeat (first | (with_reducible first | exact HB.out | apply below_alloc | apply pw_below_drewN | apply below_drew1) | exact HB.out)⟩

/-! ### invoice_Cancel: function 15 -/
def invoice_Cancel.f (k : Nat) (l0 : List (S34)) (a1 : Int) (a2 : Int) : Option ((List (S34)) × Int) := (invoice_end.f k l0 a1 a2 4611686018427387904 3).bind fun bt214 => (some (bt214.1, bt214.2))
theorem invoice_Cancel.mono : ∀ a0 a1 a2 k, LeO (invoice_Cancel.f k a0 a1 a2) (invoice_Cancel.f (k + 1) a0 a1 a2) := by
  intro a0 a1 a2 k
  unfold invoice_Cancel.f
  repeat' first
      | (with_reducible exact invoice_end.mono _ _ _ _ _ _)
      | (with_reducible exact LeO.refl _)
      | (with_reducible exact LeO.none _)
      | (with_reducible refine LeO.ite ?_ ?_)
      | (with_reducible refine LeO.bind ?_ (fun _ => ?_))
      | exact invoice_end.mono _ _ _ _ _ _
      | exact LeO.none _
      | refine LeO.ite ?_ ?_
      | refine LeO.bind ?_ (fun _ => ?_)
set_option maxHeartbeats 8000000 in
set_option maxRecDepth 100000 in
theorem invoice_Cancel.calls (k : Nat) (A0 : Option Addr) (c0 : Nat) (l0 : List (S34)) (a1 : Int) (a2 : Int) (r1 : List (S34)) (r2 : Int) (w : World) (hr0 : Kd.C k34 w A0 l0.length l0) (hc0 : l0.length ≤ c0) (h : invoice_Cancel.f k l0 a1 a2 = some (r1, r2)) :
    Calls Try.prog 15 #[.slice A0 l0.length c0, .int .u64 a1, .int .u64 a2] w fun e w' => ∃ v0_ : Value, e = .returned (.tuple #[v0_, .int .i64 r2]) ∧ Kd.R k34 34 w' w.heap.size (fun _ => True) v0_ r1 ∧ Below w.heap.size w w' := by
  have HR0 := Aside0.mk hr0
  have HC0 := Aside0.mk hc0
  clear hr0 hc0
  have HB := Aside0.mk (Below.refl w.heap.size w)
  have H : ((invoice_end.f k l0 a1 a2 4611686018427387904 3).bind fun bt214 => (some (bt214.1, bt214.2))) = some (r1, r2) := h
  clear h
  replace H := Option.bind_eq_some_iff.mp H
  obtain ⟨⟨t214, t215⟩, A40, H⟩ := H
  replace H : (some (t214, t215)) = some (r1, r2) := H
  have A4 := Aside0.mk A40
  clear A40
  simp only [Option.some.injEq, Prod.mk.injEq] at H
  obtain ⟨rfl, rfl⟩ := H
  go_enter Try.func15, Try.ntmps15
  go_wp2_with (first | ((with_reducible refine gate_callee (f := 32) rfl ?_); refine goesL_ (some 11) rfl rfl Try.func32 (by kernel_rfl) rfl #[.slice A0 l0.length c0, .int .u64 a1, .int .u64 a2, .int .u64 4611686018427387904, .int .i64 3] rfl (by (try simp only [List.map_toArray, List.map_cons, List.map_nil]); first | done | rfl | (simp only [List.length_drop, List.length_take]; rfl)) ?_; (with_reducible refine (invoice_end.calls k _ _ l0 a1 a2 4611686018427387904 3 t214 t215 _ ?side1 ?side2 A4.out).mono ?_); (case side1 => repeat (first | exact HR0.out | (with_reducible refine Kd.C_alloc ?_ _) | (with_reducible refine Kd.C_drewN ?_ _) | (with_reducible refine Kd.C_drew ?_))); (case side2 => exact HC0.out); rintro e w5 ⟨v216, rfl, ho0, hb⟩; refine ⟨_, rfl, ?_⟩; have n0_ := Aside0.mk (Kd.R_lower ho0 (below_size (by repeat (first | (with_reducible first | exact HB.out | apply below_alloc | apply pw_below_drewN | apply below_drew1) | exact HB.out)))); have n1_ := Aside0.mk (below_step (by repeat (first | (with_reducible first | exact HB.out | apply below_alloc | apply pw_below_drewN | apply below_drew1) | exact HB.out)) hb); clear HB; have HO217 := n0_; have HB := n1_; clear n0_ n1_; (try clear hb); (try clear hb2); (try clear hk); (try clear hi); (try clear ho0)))
  go_ret2
  exact ⟨_, by first | rfl | (simp [errW_none, errW_some] <;> rfl) | (simp [*, errW_none, errW_some] <;> rfl), by (with_reducible repeat (first | apply Kd.R_alloc | apply Kd.R_drewN | apply Kd.R_drew)); exact HO217.out, by repeat (first | (with_reducible first | exact HB.out | apply below_alloc | apply pw_below_drewN | apply below_drew1) | exact HB.out)⟩

end Go.Proofs.Ytlpdgagohafmaaa.P
