-- written by a program of this session (wip/print)
import Derived.Test.YtlpdgagohafmaaaQIDoesx0
import Derived.Test.YtlpdgagohafmaaaQIDoesx1
import Derived.Test.YtlpdgagohafmaaaQIDoesx3
import Derived.Test.YtlpdgagohafmaaaQIDoesx4
import Derived.Test.YtlpdgagohafmaaaQIDoesx5
import Derived.Test.YtlpdgagohafmaaaQIDoesx7
import Derived.Test.YtlpdgagohafmaaaQIDoesx8
namespace Go.Proofs.Ytlpdgagohafmaaa.P
open Go.RowKit Go.Proofs.YtlpdgagohafmaaaW.PrintWords Go.Proofs.YtlpdgagohafmaaaW.PrintLast Go.Proofs.YtlpdgagohafmaaaW.PrintMore
attribute [local go_sem] max2_int min2_int max_two min_two max_three min_three max_four min_four   -- for this text's walks alone
set_option linter.unusedVariables false
set_option linter.unusedSimpArgs false

attribute [local go_sem high] eqA34
/-! ### damsonref12_Cancel: function 19 -/
def damsonref12_Cancel.f (k : Nat) (l0 : List (S34)) (a1 : Int) (a2 : Int) : Option ((List (S34)) × Int) := (damsonref12_open.f k l0 a1 a2).bind fun bt236 => (if bt236.2.2.2.2 = 0 then ((damsonref12_with.f k l0 bt236.1 bt236.2.1 bt236.2.2.1 3).bind fun t242 => (some (t242, 0))) else (some (([] : List (S34)), bt236.2.2.2.2)))
theorem damsonref12_Cancel.mono : ∀ a0 a1 a2 k, LeO (damsonref12_Cancel.f k a0 a1 a2) (damsonref12_Cancel.f (k + 1) a0 a1 a2) := by
  intro a0 a1 a2 k
  unfold damsonref12_Cancel.f
  repeat' first
      | (with_reducible exact damsonref12_open.mono _ _ _ _)
      | (with_reducible exact damsonref12_with.mono _ _ _ _ _ _)
      | (with_reducible exact LeO.refl _)
      | (with_reducible exact LeO.none _)
      | (with_reducible refine LeO.ite ?_ ?_)
      | (with_reducible refine LeO.bind ?_ (fun _ => ?_))
      | exact damsonref12_open.mono _ _ _ _
      | exact damsonref12_with.mono _ _ _ _ _ _
      | exact LeO.none _
      | refine LeO.ite ?_ ?_
      | refine LeO.bind ?_ (fun _ => ?_)
set_option maxHeartbeats 8000000 in
set_option maxRecDepth 100000 in
theorem damsonref12_Cancel.calls (k : Nat) (A0 : Option Addr) (c0 : Nat) (l0 : List (S34)) (a1 : Int) (a2 : Int) (r1 : List (S34)) (r2 : Int) (w : World) (hr0 : Kd.C k34 w A0 l0.length l0) (hc0 : l0.length ≤ c0) (h : damsonref12_Cancel.f k l0 a1 a2 = some (r1, r2)) :
    Calls Try.prog 19 #[.slice A0 l0.length c0, .int .u64 a1, .int .u64 a2] w fun e w' => ∃ v0_ : Value, e = .returned (.tuple #[v0_, .int .i64 r2]) ∧ Kd.R k34 34 w' w.heap.size (fun _ => True) v0_ r1 ∧ Below w.heap.size w w' := by
  have hu34 := Try.underlying34
  have HR0 := Aside0.mk hr0
  have HC0 := Aside0.mk hc0
  clear hr0 hc0
  have HB := Aside0.mk (Below.refl w.heap.size w)
  have H : ((damsonref12_open.f k l0 a1 a2).bind fun bt236 => (if bt236.2.2.2.2 = 0 then ((damsonref12_with.f k l0 bt236.1 bt236.2.1 bt236.2.2.1 3).bind fun t242 => (some (t242, 0))) else (some (([] : List (S34)), bt236.2.2.2.2)))) = some (r1, r2) := h
  clear h
  replace H := Option.bind_eq_some_iff.mp H
  obtain ⟨⟨t236, t237, t238, t239, t240⟩, A40, H⟩ := H
  replace H : (if t240 = 0 then ((damsonref12_with.f k l0 t236 t237 t238 3).bind fun t242 => (some (t242, 0))) else (some (([] : List (S34)), t240))) = some (r1, r2) := H
  have A4 := Aside0.mk A40
  clear A40
  by_cases c5 : t240 = 0
  · rw [if_pos c5] at H
    have c5b0 : (t240 == 0) = true := beq_iff_eq.mpr c5
    have c5b1 : (t240 != 0) = false := bne_eq_false_iff_eq.mpr c5
    clear c5
    replace H := Option.bind_eq_some_iff.mp H
    obtain ⟨t242, A60, H⟩ := H
    replace H : (some (t242, 0)) = some (r1, r2) := H
    have A6 := Aside0.mk A60
    clear A60
    simp only [Option.some.injEq, Prod.mk.injEq] at H
    obtain ⟨rfl, rfl⟩ := H
    go_enter Try.func19, Try.ntmps19
    go_wp2_with (first | ((with_reducible refine gate_callee (f := 39) rfl ?_); refine goesL_ (some 14) rfl rfl Try.func39 (by kernel_rfl) rfl #[.slice A0 l0.length c0, .int .u64 a1, .int .u64 a2] rfl (by (try simp only [List.map_toArray, List.map_cons, List.map_nil]); first | done | rfl | (simp only [List.length_drop, List.length_take]; rfl)) ?_; (with_reducible refine (damsonref12_open.calls k _ _ l0 a1 a2 t236 t237 t238 t239 t240 _ ?side1 ?side2 A4.out).mono ?_); (case side1 => repeat (first | exact HR0.out | (with_reducible refine Kd.C_alloc ?_ _) | (with_reducible refine Kd.C_drewN ?_ _) | (with_reducible refine Kd.C_drew ?_))); (case side2 => exact HC0.out); rintro e w7 ⟨rfl, hb⟩; refine ⟨_, rfl, ?_⟩; have n0_ := Aside0.mk (below_step (belN HB) hb); clear HB; have HB := n0_; clear n0_; (try clear hb); (try clear hb2); (try clear hk); (try clear hi)) | ((with_reducible refine gate_dst (N := 8) rfl ?_); refine box_event ?hg (N := 8) ?hd (cs := #[.int .u64 0, .int .u64 0, .int .u64 0, .int .i64 0]) (t := 34) ?hr ?_; (case hd => rfl); (case hg => rfl); (case hr => first | (go_simp; done) | (go_simp; rfl)); intro gb241 hg w8 hbox hb; have n0_ := Aside0.mk (below_step (belN HB) hb); have n1_ := Aside0.mk (hbox); have n2_ := Aside0.mk ((by rw [hg]; exact (below_size (belN HB)) : w.heap.size ≤ gb241)); have n3_ := Aside0.mk ((by rw [hg]; exact (below_size (belN HB)) : w.heap.size ≤ gb241)); clear HB; have HB := n0_; have BK241 := n1_; have GW241 := n2_; have GE241 := n3_; clear n0_ n1_ n2_ n3_; clear hb hbox hg; obtain ⟨hcz9_0, hcz9_1, hcz9_2, hcz9_3, hfz9_0, hfz9_1, hfz9_2, hfz9_3⟩ := cz4_ (w := w8) BK241.out) | ((with_reducible refine gate_store (t := 34) (p := 8) rfl ?_); refine store_event (t := 34) (p := 8) (v := ?vo_w10) (w1 := ((((w8.setCell ⟨gb241, 0, none⟩ (.int .u64 t236)).setCell ⟨gb241, 1, none⟩ (.int .u64 t237)).setCell ⟨gb241, 2, none⟩ (.int .u64 t238)).setCell ⟨gb241, 3, none⟩ (.int .i64 t239))) ?hg ?ho ?hn ?hr ?_; (case ho => rfl); (case hg => rfl); (case hn => rfl); (case hr => first | (go_simp; done) | (go_simp; rfl)); intro w10 hw; have n0_ : Aside0 (w10.heap[gb241]? = some (.cells #[.int .u64 t236, .int .u64 t237, .int .u64 t238, .int .i64 t239] 34 (0, 0))) := ⟨(by rw [hw]; exact (by (with_reducible repeat (first | refine blk_drewN ?_ _ | refine blk_drew ?_ | refine blk_alloc ?_ _)); refine blk_put (cs := #[.int .u64 t236, .int .u64 t237, .int .u64 t238, .int .i64 0]) ?_ 3 _ rfl; refine blk_put (cs := #[.int .u64 t236, .int .u64 t237, .int .u64 0, .int .i64 0]) ?_ 2 _ rfl; refine blk_put (cs := #[.int .u64 t236, .int .u64 0, .int .u64 0, .int .i64 0]) ?_ 1 _ rfl; refine blk_put (cs := #[.int .u64 0, .int .u64 0, .int .u64 0, .int .i64 0]) ?_ 0 _ rfl; (with_reducible repeat (first | refine blk_drewN ?_ _ | refine blk_drew ?_ | refine blk_alloc ?_ _)); exact BK241.out))⟩; have n1_ : Aside0 (Below w.heap.size w w10) := ⟨(by rw [hw]; exact (belN HB))⟩; clear hw; clear BK241; clear HB; have BK241 := n0_; have HB := n1_; clear n0_ n1_; obtain ⟨hcz11_0, hcz11_1, hcz11_2, hcz11_3, hfz11_0, hfz11_1, hfz11_2, hfz11_3⟩ := cz4_ (w := w10) BK241.out) | ((with_reducible refine gate_callee (f := 38) rfl ?_); refine goesL_ (some 23) rfl rfl Try.func38 (by kernel_rfl) rfl #[.slice A0 l0.length c0, .agg #[.int .u64 t236, .int .u64 t237, .int .u64 t238, .int .i64 3]] rfl (by (try simp only [List.map_toArray, List.map_cons, List.map_nil]); first | done | rfl | (simp only [List.length_drop, List.length_take]; rfl)) ?_; (with_reducible refine (damsonref12_with.calls k _ _ l0 t236 t237 t238 3 t242 _ ?side1 ?side2 A6.out).mono ?_); (case side1 => exact Kd.C_below HR0.out (belN HB)); (case side2 => exact HC0.out); rintro e w12 ⟨v243, rfl, ho0, hb⟩; refine ⟨_, rfl, ?_⟩; have n0_ := Aside0.mk (Kd.R_lower (Kd.R_newB ho0 (g := gb241) (o := .cells #[.int .u64 t236, .int .u64 t237, .int .u64 t238, .int .i64 3] 34 (0, 0)) (by (with_reducible repeat (first | refine blk_drewN ?_ _ | refine blk_drew ?_ | refine blk_alloc ?_ _)); refine blk_put (cs := #[.int .u64 t236, .int .u64 t237, .int .u64 t238, .int .i64 t239]) ?_ 3 _ rfl; (with_reducible repeat (first | refine blk_drewN ?_ _ | refine blk_drew ?_ | refine blk_alloc ?_ _)); exact BK241.out)) (below_size (belN HB))); have n1_ := Aside0.mk (blk_below (g := gb241) (o := .cells #[.int .u64 t236, .int .u64 t237, .int .u64 t238, .int .i64 3] 34 (0, 0)) (by (with_reducible repeat (first | refine blk_drewN ?_ _ | refine blk_drew ?_ | refine blk_alloc ?_ _)); refine blk_put (cs := #[.int .u64 t236, .int .u64 t237, .int .u64 t238, .int .i64 t239]) ?_ 3 _ rfl; (with_reducible repeat (first | refine blk_drewN ?_ _ | refine blk_drew ?_ | refine blk_alloc ?_ _)); exact BK241.out) hb); have n2_ := Aside0.mk (below_step (belN HB) hb); clear BK241; clear HB; have HO244 := n0_; have BK241 := n1_; have HB := n2_; clear n0_ n1_ n2_; (try clear hb); (try clear hb2); (try clear hk); (try clear hi); (try clear ho0)))
    go_ret2
    exact ⟨_, by first | rfl | (simp [errW_none, errW_some] <;> rfl) | (simp [*, errW_none, errW_some] <;> rfl), by (with_reducible repeat (first | apply Kd.R_alloc | apply Kd.R_drewN | apply Kd.R_drew)); exact Kd.R_mono HO244.out (fun _ hk => trivial), by repeat (first | (with_reducible first | exact HB.out | apply below_alloc | apply pw_below_drewN | apply below_drew1 | refine below_set ?_ GE241.out) | exact HB.out)⟩
  · rw [if_neg c5] at H
    have c5b0 : (t240 == 0) = false := beq_eq_false_iff_ne.mpr c5
    have c5b1 : (t240 != 0) = true := bne_iff_ne.mpr c5
    simp only [Option.some.injEq, Prod.mk.injEq] at H
    obtain ⟨rfl, rfl⟩ := H
    go_enter Try.func19, Try.ntmps19
    go_wp2_with (first | ((with_reducible refine gate_callee (f := 39) rfl ?_); refine goesL_ (some 14) rfl rfl Try.func39 (by kernel_rfl) rfl #[.slice A0 l0.length c0, .int .u64 a1, .int .u64 a2] rfl (by (try simp only [List.map_toArray, List.map_cons, List.map_nil]); first | done | rfl | (simp only [List.length_drop, List.length_take]; rfl)) ?_; (with_reducible refine (damsonref12_open.calls k _ _ l0 a1 a2 t236 t237 t238 t239 t240 _ ?side1 ?side2 A4.out).mono ?_); (case side1 => repeat (first | exact HR0.out | (with_reducible refine Kd.C_alloc ?_ _) | (with_reducible refine Kd.C_drewN ?_ _) | (with_reducible refine Kd.C_drew ?_))); (case side2 => exact HC0.out); rintro e w13 ⟨rfl, hb⟩; refine ⟨_, rfl, ?_⟩; have n0_ := Aside0.mk (below_step (belN HB) hb); clear HB; have HB := n0_; clear n0_; (try clear hb); (try clear hb2); (try clear hk); (try clear hi)) | ((with_reducible refine gate_dst (N := 8) rfl ?_); refine box_event ?hg (N := 8) ?hd (cs := #[.int .u64 0, .int .u64 0, .int .u64 0, .int .i64 0]) (t := 34) ?hr ?_; (case hd => rfl); (case hg => rfl); (case hr => first | (go_simp; done) | (go_simp; rfl)); intro gb241 hg w14 hbox hb; have n0_ := Aside0.mk (below_step (belN HB) hb); have n1_ := Aside0.mk (hbox); have n2_ := Aside0.mk ((by rw [hg]; exact (below_size (belN HB)) : w.heap.size ≤ gb241)); have n3_ := Aside0.mk ((by rw [hg]; exact (below_size (belN HB)) : w.heap.size ≤ gb241)); clear HB; have HB := n0_; have BK241 := n1_; have GW241 := n2_; have GE241 := n3_; clear n0_ n1_ n2_ n3_; clear hb hbox hg; obtain ⟨hcz15_0, hcz15_1, hcz15_2, hcz15_3, hfz15_0, hfz15_1, hfz15_2, hfz15_3⟩ := cz4_ (w := w14) BK241.out) | ((with_reducible refine gate_store (t := 34) (p := 8) rfl ?_); refine store_event (t := 34) (p := 8) (v := ?vo_w16) (w1 := ((((w14.setCell ⟨gb241, 0, none⟩ (.int .u64 t236)).setCell ⟨gb241, 1, none⟩ (.int .u64 t237)).setCell ⟨gb241, 2, none⟩ (.int .u64 t238)).setCell ⟨gb241, 3, none⟩ (.int .i64 t239))) ?hg ?ho ?hn ?hr ?_; (case ho => rfl); (case hg => rfl); (case hn => rfl); (case hr => first | (go_simp; done) | (go_simp; rfl)); intro w16 hw; have n0_ : Aside0 (w16.heap[gb241]? = some (.cells #[.int .u64 t236, .int .u64 t237, .int .u64 t238, .int .i64 t239] 34 (0, 0))) := ⟨(by rw [hw]; exact (by (with_reducible repeat (first | refine blk_drewN ?_ _ | refine blk_drew ?_ | refine blk_alloc ?_ _)); refine blk_put (cs := #[.int .u64 t236, .int .u64 t237, .int .u64 t238, .int .i64 0]) ?_ 3 _ rfl; refine blk_put (cs := #[.int .u64 t236, .int .u64 t237, .int .u64 0, .int .i64 0]) ?_ 2 _ rfl; refine blk_put (cs := #[.int .u64 t236, .int .u64 0, .int .u64 0, .int .i64 0]) ?_ 1 _ rfl; refine blk_put (cs := #[.int .u64 0, .int .u64 0, .int .u64 0, .int .i64 0]) ?_ 0 _ rfl; (with_reducible repeat (first | refine blk_drewN ?_ _ | refine blk_drew ?_ | refine blk_alloc ?_ _)); exact BK241.out))⟩; have n1_ : Aside0 (Below w.heap.size w w16) := ⟨(by rw [hw]; exact (belN HB))⟩; clear hw; clear BK241; clear HB; have BK241 := n0_; have HB := n1_; clear n0_ n1_))
    go_ret2
    exact ⟨_, by first | rfl | (simp [errW_none, errW_some] <;> rfl) | (simp [*, errW_none, errW_some] <;> rfl), by first | exact Kd.R_nil _ _ _ _ _ | exact Kd.N_nil _ _ _ _ _ | exact Kd.V_nil _ _ _ _ _ | exact Kd.Q_nil _ _ _ _ _ | exact Kd.S_nil _ _ _ _ _, by repeat (first | (with_reducible first | exact HB.out | apply below_alloc | apply pw_below_drewN | apply below_drew1 | refine below_set ?_ GE241.out) | exact HB.out)⟩

/-! ### damsonref12_Pay: function 20 -/
def damsonref12_Pay.f (k : Nat) (l0 : List (S34)) (a1 : Int) (a2 : Int) (a3 : Int) : Option ((List (S34)) × Int) := (damsonref12_open.f k l0 a1 a3).bind fun bt245 => (if bt245.2.2.2.2 = 0 then (if a2 < bt245.2.1 then (some (([] : List (S34)), 9)) else ((damsonref12_with.f k l0 bt245.1 bt245.2.1 bt245.2.2.1 2).bind fun t251 => (some (t251, 0)))) else (some (([] : List (S34)), bt245.2.2.2.2)))
theorem damsonref12_Pay.mono : ∀ a0 a1 a2 a3 k, LeO (damsonref12_Pay.f k a0 a1 a2 a3) (damsonref12_Pay.f (k + 1) a0 a1 a2 a3) := by
  intro a0 a1 a2 a3 k
  unfold damsonref12_Pay.f
  repeat' first
      | (with_reducible exact damsonref12_open.mono _ _ _ _)
      | (with_reducible exact damsonref12_with.mono _ _ _ _ _ _)
      | (with_reducible exact LeO.refl _)
      | (with_reducible exact LeO.none _)
      | (with_reducible refine LeO.ite ?_ ?_)
      | (with_reducible refine LeO.bind ?_ (fun _ => ?_))
      | exact damsonref12_open.mono _ _ _ _
      | exact damsonref12_with.mono _ _ _ _ _ _
      | exact LeO.none _
      | refine LeO.ite ?_ ?_
      | refine LeO.bind ?_ (fun _ => ?_)
set_option maxHeartbeats 8000000 in
set_option maxRecDepth 100000 in
theorem damsonref12_Pay.calls (k : Nat) (A0 : Option Addr) (c0 : Nat) (l0 : List (S34)) (a1 : Int) (a2 : Int) (a3 : Int) (r1 : List (S34)) (r2 : Int) (w : World) (hr0 : Kd.C k34 w A0 l0.length l0) (hc0 : l0.length ≤ c0) (h : damsonref12_Pay.f k l0 a1 a2 a3 = some (r1, r2)) :
    Calls Try.prog 20 #[.slice A0 l0.length c0, .int .u64 a1, .int .u64 a2, .int .u64 a3] w fun e w' => ∃ v0_ : Value, e = .returned (.tuple #[v0_, .int .i64 r2]) ∧ Kd.R k34 34 w' w.heap.size (fun _ => True) v0_ r1 ∧ Below w.heap.size w w' := by
  have hu34 := Try.underlying34
  have HR0 := Aside0.mk hr0
  have HC0 := Aside0.mk hc0
  clear hr0 hc0
  have HB := Aside0.mk (Below.refl w.heap.size w)
  have H : ((damsonref12_open.f k l0 a1 a3).bind fun bt245 => (if bt245.2.2.2.2 = 0 then (if a2 < bt245.2.1 then (some (([] : List (S34)), 9)) else ((damsonref12_with.f k l0 bt245.1 bt245.2.1 bt245.2.2.1 2).bind fun t251 => (some (t251, 0)))) else (some (([] : List (S34)), bt245.2.2.2.2)))) = some (r1, r2) := h
  clear h
  replace H := Option.bind_eq_some_iff.mp H
  obtain ⟨⟨t245, t246, t247, t248, t249⟩, A50, H⟩ := H
  replace H : (if t249 = 0 then (if a2 < t246 then (some (([] : List (S34)), 9)) else ((damsonref12_with.f k l0 t245 t246 t247 2).bind fun t251 => (some (t251, 0)))) else (some (([] : List (S34)), t249))) = some (r1, r2) := H
  have A5 := Aside0.mk A50
  clear A50
  by_cases c6 : t249 = 0
  · rw [if_pos c6] at H
    have c6b0 : (t249 == 0) = true := beq_iff_eq.mpr c6
    have c6b1 : (t249 != 0) = false := bne_eq_false_iff_eq.mpr c6
    clear c6
    by_cases c7 : a2 < t246
    · rw [if_pos c7] at H
      have c7b0 : decide (a2 < t246) = true := decide_eq_true c7
      clear c7
      simp only [Option.some.injEq, Prod.mk.injEq] at H
      obtain ⟨rfl, rfl⟩ := H
      go_enter Try.func20, Try.ntmps20
      go_wp2_with (first | ((with_reducible refine gate_callee (f := 39) rfl ?_); refine goesL_ (some 16) rfl rfl Try.func39 (by kernel_rfl) rfl #[.slice A0 l0.length c0, .int .u64 a1, .int .u64 a3] rfl (by (try simp only [List.map_toArray, List.map_cons, List.map_nil]); first | done | rfl | (simp only [List.length_drop, List.length_take]; rfl)) ?_; (with_reducible refine (damsonref12_open.calls k _ _ l0 a1 a3 t245 t246 t247 t248 t249 _ ?side1 ?side2 A5.out).mono ?_); (case side1 => repeat (first | exact HR0.out | (with_reducible refine Kd.C_alloc ?_ _) | (with_reducible refine Kd.C_drewN ?_ _) | (with_reducible refine Kd.C_drew ?_))); (case side2 => exact HC0.out); rintro e w8 ⟨rfl, hb⟩; refine ⟨_, rfl, ?_⟩; have n0_ := Aside0.mk (below_step (belN HB) hb); clear HB; have HB := n0_; clear n0_; (try clear hb); (try clear hb2); (try clear hk); (try clear hi)) | ((with_reducible refine gate_dst (N := 10) rfl ?_); refine box_event ?hg (N := 10) ?hd (cs := #[.int .u64 0, .int .u64 0, .int .u64 0, .int .i64 0]) (t := 34) ?hr ?_; (case hd => rfl); (case hg => rfl); (case hr => first | (go_simp; done) | (go_simp; rfl)); intro gb250 hg w9 hbox hb; have n0_ := Aside0.mk (below_step (belN HB) hb); have n1_ := Aside0.mk (hbox); have n2_ := Aside0.mk ((by rw [hg]; exact (below_size (belN HB)) : w.heap.size ≤ gb250)); have n3_ := Aside0.mk ((by rw [hg]; exact (below_size (belN HB)) : w.heap.size ≤ gb250)); clear HB; have HB := n0_; have BK250 := n1_; have GW250 := n2_; have GE250 := n3_; clear n0_ n1_ n2_ n3_; clear hb hbox hg; obtain ⟨hcz10_0, hcz10_1, hcz10_2, hcz10_3, hfz10_0, hfz10_1, hfz10_2, hfz10_3⟩ := cz4_ (w := w9) BK250.out) | ((with_reducible refine gate_store (t := 34) (p := 10) rfl ?_); refine store_event (t := 34) (p := 10) (v := ?vo_w11) (w1 := ((((w9.setCell ⟨gb250, 0, none⟩ (.int .u64 t245)).setCell ⟨gb250, 1, none⟩ (.int .u64 t246)).setCell ⟨gb250, 2, none⟩ (.int .u64 t247)).setCell ⟨gb250, 3, none⟩ (.int .i64 t248))) ?hg ?ho ?hn ?hr ?_; (case ho => rfl); (case hg => rfl); (case hn => rfl); (case hr => first | (go_simp; done) | (go_simp; rfl)); intro w11 hw; have n0_ : Aside0 (w11.heap[gb250]? = some (.cells #[.int .u64 t245, .int .u64 t246, .int .u64 t247, .int .i64 t248] 34 (0, 0))) := ⟨(by rw [hw]; exact (by (with_reducible repeat (first | refine blk_drewN ?_ _ | refine blk_drew ?_ | refine blk_alloc ?_ _)); refine blk_put (cs := #[.int .u64 t245, .int .u64 t246, .int .u64 t247, .int .i64 0]) ?_ 3 _ rfl; refine blk_put (cs := #[.int .u64 t245, .int .u64 t246, .int .u64 0, .int .i64 0]) ?_ 2 _ rfl; refine blk_put (cs := #[.int .u64 t245, .int .u64 0, .int .u64 0, .int .i64 0]) ?_ 1 _ rfl; refine blk_put (cs := #[.int .u64 0, .int .u64 0, .int .u64 0, .int .i64 0]) ?_ 0 _ rfl; (with_reducible repeat (first | refine blk_drewN ?_ _ | refine blk_drew ?_ | refine blk_alloc ?_ _)); exact BK250.out))⟩; have n1_ : Aside0 (Below w.heap.size w w11) := ⟨(by rw [hw]; exact (belN HB))⟩; clear hw; clear BK250; clear HB; have BK250 := n0_; have HB := n1_; clear n0_ n1_; obtain ⟨hcz12_0, hcz12_1, hcz12_2, hcz12_3, hfz12_0, hfz12_1, hfz12_2, hfz12_3⟩ := cz4_ (w := w11) BK250.out))
      go_ret2
      exact ⟨_, by first | rfl | (simp [errW_none, errW_some] <;> rfl) | (simp [*, errW_none, errW_some] <;> rfl), by first | exact Kd.R_nil _ _ _ _ _ | exact Kd.N_nil _ _ _ _ _ | exact Kd.V_nil _ _ _ _ _ | exact Kd.Q_nil _ _ _ _ _ | exact Kd.S_nil _ _ _ _ _, by repeat (first | (with_reducible first | exact HB.out | apply below_alloc | apply pw_below_drewN | apply below_drew1 | refine below_set ?_ GE250.out) | exact HB.out)⟩
    · rw [if_neg c7] at H
      have c7b0 : decide (a2 < t246) = false := decide_eq_false c7
      clear c7
      replace H := Option.bind_eq_some_iff.mp H
      obtain ⟨t251, A130, H⟩ := H
      replace H : (some (t251, 0)) = some (r1, r2) := H
      have A13 := Aside0.mk A130
      clear A130
      simp only [Option.some.injEq, Prod.mk.injEq] at H
      obtain ⟨rfl, rfl⟩ := H
      go_enter Try.func20, Try.ntmps20
      go_wp2_with (first | ((with_reducible refine gate_callee (f := 39) rfl ?_); refine goesL_ (some 16) rfl rfl Try.func39 (by kernel_rfl) rfl #[.slice A0 l0.length c0, .int .u64 a1, .int .u64 a3] rfl (by (try simp only [List.map_toArray, List.map_cons, List.map_nil]); first | done | rfl | (simp only [List.length_drop, List.length_take]; rfl)) ?_; (with_reducible refine (damsonref12_open.calls k _ _ l0 a1 a3 t245 t246 t247 t248 t249 _ ?side1 ?side2 A5.out).mono ?_); (case side1 => repeat (first | exact HR0.out | (with_reducible refine Kd.C_alloc ?_ _) | (with_reducible refine Kd.C_drewN ?_ _) | (with_reducible refine Kd.C_drew ?_))); (case side2 => exact HC0.out); rintro e w14 ⟨rfl, hb⟩; refine ⟨_, rfl, ?_⟩; have n0_ := Aside0.mk (below_step (belN HB) hb); clear HB; have HB := n0_; clear n0_; (try clear hb); (try clear hb2); (try clear hk); (try clear hi)) | ((with_reducible refine gate_dst (N := 10) rfl ?_); refine box_event ?hg (N := 10) ?hd (cs := #[.int .u64 0, .int .u64 0, .int .u64 0, .int .i64 0]) (t := 34) ?hr ?_; (case hd => rfl); (case hg => rfl); (case hr => first | (go_simp; done) | (go_simp; rfl)); intro gb250 hg w15 hbox hb; have n0_ := Aside0.mk (below_step (belN HB) hb); have n1_ := Aside0.mk (hbox); have n2_ := Aside0.mk ((by rw [hg]; exact (below_size (belN HB)) : w.heap.size ≤ gb250)); have n3_ := Aside0.mk ((by rw [hg]; exact (below_size (belN HB)) : w.heap.size ≤ gb250)); clear HB; have HB := n0_; have BK250 := n1_; have GW250 := n2_; have GE250 := n3_; clear n0_ n1_ n2_ n3_; clear hb hbox hg; obtain ⟨hcz16_0, hcz16_1, hcz16_2, hcz16_3, hfz16_0, hfz16_1, hfz16_2, hfz16_3⟩ := cz4_ (w := w15) BK250.out) | ((with_reducible refine gate_store (t := 34) (p := 10) rfl ?_); refine store_event (t := 34) (p := 10) (v := ?vo_w17) (w1 := ((((w15.setCell ⟨gb250, 0, none⟩ (.int .u64 t245)).setCell ⟨gb250, 1, none⟩ (.int .u64 t246)).setCell ⟨gb250, 2, none⟩ (.int .u64 t247)).setCell ⟨gb250, 3, none⟩ (.int .i64 t248))) ?hg ?ho ?hn ?hr ?_; (case ho => rfl); (case hg => rfl); (case hn => rfl); (case hr => first | (go_simp; done) | (go_simp; rfl)); intro w17 hw; have n0_ : Aside0 (w17.heap[gb250]? = some (.cells #[.int .u64 t245, .int .u64 t246, .int .u64 t247, .int .i64 t248] 34 (0, 0))) := ⟨(by rw [hw]; exact (by (with_reducible repeat (first | refine blk_drewN ?_ _ | refine blk_drew ?_ | refine blk_alloc ?_ _)); refine blk_put (cs := #[.int .u64 t245, .int .u64 t246, .int .u64 t247, .int .i64 0]) ?_ 3 _ rfl; refine blk_put (cs := #[.int .u64 t245, .int .u64 t246, .int .u64 0, .int .i64 0]) ?_ 2 _ rfl; refine blk_put (cs := #[.int .u64 t245, .int .u64 0, .int .u64 0, .int .i64 0]) ?_ 1 _ rfl; refine blk_put (cs := #[.int .u64 0, .int .u64 0, .int .u64 0, .int .i64 0]) ?_ 0 _ rfl; (with_reducible repeat (first | refine blk_drewN ?_ _ | refine blk_drew ?_ | refine blk_alloc ?_ _)); exact BK250.out))⟩; have n1_ : Aside0 (Below w.heap.size w w17) := ⟨(by rw [hw]; exact (belN HB))⟩; clear hw; clear BK250; clear HB; have BK250 := n0_; have HB := n1_; clear n0_ n1_; obtain ⟨hcz18_0, hcz18_1, hcz18_2, hcz18_3, hfz18_0, hfz18_1, hfz18_2, hfz18_3⟩ := cz4_ (w := w17) BK250.out) | ((with_reducible refine gate_callee (f := 38) rfl ?_); refine goesL_ (some 29) rfl rfl Try.func38 (by kernel_rfl) rfl #[.slice A0 l0.length c0, .agg #[.int .u64 t245, .int .u64 t246, .int .u64 t247, .int .i64 2]] rfl (by (try simp only [List.map_toArray, List.map_cons, List.map_nil]); first | done | rfl | (simp only [List.length_drop, List.length_take]; rfl)) ?_; (with_reducible refine (damsonref12_with.calls k _ _ l0 t245 t246 t247 2 t251 _ ?side1 ?side2 A13.out).mono ?_); (case side1 => exact Kd.C_below HR0.out (belN HB)); (case side2 => exact HC0.out); rintro e w19 ⟨v252, rfl, ho0, hb⟩; refine ⟨_, rfl, ?_⟩; have n0_ := Aside0.mk (Kd.R_lower (Kd.R_newB ho0 (g := gb250) (o := .cells #[.int .u64 t245, .int .u64 t246, .int .u64 t247, .int .i64 2] 34 (0, 0)) (by (with_reducible repeat (first | refine blk_drewN ?_ _ | refine blk_drew ?_ | refine blk_alloc ?_ _)); refine blk_put (cs := #[.int .u64 t245, .int .u64 t246, .int .u64 t247, .int .i64 t248]) ?_ 3 _ rfl; (with_reducible repeat (first | refine blk_drewN ?_ _ | refine blk_drew ?_ | refine blk_alloc ?_ _)); exact BK250.out)) (below_size (belN HB))); have n1_ := Aside0.mk (blk_below (g := gb250) (o := .cells #[.int .u64 t245, .int .u64 t246, .int .u64 t247, .int .i64 2] 34 (0, 0)) (by (with_reducible repeat (first | refine blk_drewN ?_ _ | refine blk_drew ?_ | refine blk_alloc ?_ _)); refine blk_put (cs := #[.int .u64 t245, .int .u64 t246, .int .u64 t247, .int .i64 t248]) ?_ 3 _ rfl; (with_reducible repeat (first | refine blk_drewN ?_ _ | refine blk_drew ?_ | refine blk_alloc ?_ _)); exact BK250.out) hb); have n2_ := Aside0.mk (below_step (belN HB) hb); clear BK250; clear HB; have HO253 := n0_; have BK250 := n1_; have HB := n2_; clear n0_ n1_ n2_; (try clear hb); (try clear hb2); (try clear hk); (try clear hi); (try clear ho0)))
      go_ret2
      exact ⟨_, by first | rfl | (simp [errW_none, errW_some] <;> rfl) | (simp [*, errW_none, errW_some] <;> rfl), by (with_reducible repeat (first | apply Kd.R_alloc | apply Kd.R_drewN | apply Kd.R_drew)); exact Kd.R_mono HO253.out (fun _ hk => trivial), by repeat (first | (with_reducible first | exact HB.out | apply below_alloc | apply pw_below_drewN | apply below_drew1 | refine below_set ?_ GE250.out) | exact HB.out)⟩
  · rw [if_neg c6] at H
    have c6b0 : (t249 == 0) = false := beq_eq_false_iff_ne.mpr c6
    have c6b1 : (t249 != 0) = true := bne_iff_ne.mpr c6
    simp only [Option.some.injEq, Prod.mk.injEq] at H
    obtain ⟨rfl, rfl⟩ := H
    go_enter Try.func20, Try.ntmps20
    go_wp2_with (first | ((with_reducible refine gate_callee (f := 39) rfl ?_); refine goesL_ (some 16) rfl rfl Try.func39 (by kernel_rfl) rfl #[.slice A0 l0.length c0, .int .u64 a1, .int .u64 a3] rfl (by (try simp only [List.map_toArray, List.map_cons, List.map_nil]); first | done | rfl | (simp only [List.length_drop, List.length_take]; rfl)) ?_; (with_reducible refine (damsonref12_open.calls k _ _ l0 a1 a3 t245 t246 t247 t248 t249 _ ?side1 ?side2 A5.out).mono ?_); (case side1 => repeat (first | exact HR0.out | (with_reducible refine Kd.C_alloc ?_ _) | (with_reducible refine Kd.C_drewN ?_ _) | (with_reducible refine Kd.C_drew ?_))); (case side2 => exact HC0.out); rintro e w20 ⟨rfl, hb⟩; refine ⟨_, rfl, ?_⟩; have n0_ := Aside0.mk (below_step (belN HB) hb); clear HB; have HB := n0_; clear n0_; (try clear hb); (try clear hb2); (try clear hk); (try clear hi)) | ((with_reducible refine gate_dst (N := 10) rfl ?_); refine box_event ?hg (N := 10) ?hd (cs := #[.int .u64 0, .int .u64 0, .int .u64 0, .int .i64 0]) (t := 34) ?hr ?_; (case hd => rfl); (case hg => rfl); (case hr => first | (go_simp; done) | (go_simp; rfl)); intro gb250 hg w21 hbox hb; have n0_ := Aside0.mk (below_step (belN HB) hb); have n1_ := Aside0.mk (hbox); have n2_ := Aside0.mk ((by rw [hg]; exact (below_size (belN HB)) : w.heap.size ≤ gb250)); have n3_ := Aside0.mk ((by rw [hg]; exact (below_size (belN HB)) : w.heap.size ≤ gb250)); clear HB; have HB := n0_; have BK250 := n1_; have GW250 := n2_; have GE250 := n3_; clear n0_ n1_ n2_ n3_; clear hb hbox hg; obtain ⟨hcz22_0, hcz22_1, hcz22_2, hcz22_3, hfz22_0, hfz22_1, hfz22_2, hfz22_3⟩ := cz4_ (w := w21) BK250.out) | ((with_reducible refine gate_store (t := 34) (p := 10) rfl ?_); refine store_event (t := 34) (p := 10) (v := ?vo_w23) (w1 := ((((w21.setCell ⟨gb250, 0, none⟩ (.int .u64 t245)).setCell ⟨gb250, 1, none⟩ (.int .u64 t246)).setCell ⟨gb250, 2, none⟩ (.int .u64 t247)).setCell ⟨gb250, 3, none⟩ (.int .i64 t248))) ?hg ?ho ?hn ?hr ?_; (case ho => rfl); (case hg => rfl); (case hn => rfl); (case hr => first | (go_simp; done) | (go_simp; rfl)); intro w23 hw; have n0_ : Aside0 (w23.heap[gb250]? = some (.cells #[.int .u64 t245, .int .u64 t246, .int .u64 t247, .int .i64 t248] 34 (0, 0))) := ⟨(by rw [hw]; exact (by (with_reducible repeat (first | refine blk_drewN ?_ _ | refine blk_drew ?_ | refine blk_alloc ?_ _)); refine blk_put (cs := #[.int .u64 t245, .int .u64 t246, .int .u64 t247, .int .i64 0]) ?_ 3 _ rfl; refine blk_put (cs := #[.int .u64 t245, .int .u64 t246, .int .u64 0, .int .i64 0]) ?_ 2 _ rfl; refine blk_put (cs := #[.int .u64 t245, .int .u64 0, .int .u64 0, .int .i64 0]) ?_ 1 _ rfl; refine blk_put (cs := #[.int .u64 0, .int .u64 0, .int .u64 0, .int .i64 0]) ?_ 0 _ rfl; (with_reducible repeat (first | refine blk_drewN ?_ _ | refine blk_drew ?_ | refine blk_alloc ?_ _)); exact BK250.out))⟩; have n1_ : Aside0 (Below w.heap.size w w23) := ⟨(by rw [hw]; exact (belN HB))⟩; clear hw; clear BK250; clear HB; have BK250 := n0_; have HB := n1_; clear n0_ n1_))
    go_ret2
    exact ⟨_, by first | rfl | (simp [errW_none, errW_some] <;> rfl) | (simp [*, errW_none, errW_some] <;> rfl), by first | exact Kd.R_nil _ _ _ _ _ | exact Kd.N_nil _ _ _ _ _ | exact Kd.V_nil _ _ _ _ _ | exact Kd.Q_nil _ _ _ _ _ | exact Kd.S_nil _ _ _ _ _, by repeat (first | (with_reducible first | exact HB.out | apply below_alloc | apply pw_below_drewN | apply below_drew1 | refine below_set ?_ GE250.out) | exact HB.out)⟩

/-! ### damsonref12_Sweep: function 21 -/
def damsonref12_Sweep.l0 : Nat → Int → List (S34) → List (S34) → Int → Int → Option ((List (S34)) × Int)
  | 0, _, _, _, _, _ => none
  | k + 1, x1, x6, x12, x13, x14 => if x14 < x13 then (if 0 ≤ x14 then (if x14 < (x12.length : Int) then ((damsonref12_late.f ((rd_T34 x12 x14).f0) ((rd_T34 x12 x14).f1) ((rd_T34 x12 x14).f2) ((rd_T34 x12 x14).f3) x1).bind fun t257 => (if t257 = true then (damsonref12_Sweep.l0 k x1 x6 x12 x13 (wrap64 (x14 + 1))) else (if ((rd_T34 x12 x14).f3) = 3 then (damsonref12_Sweep.l0 k x1 x6 x12 x13 (wrap64 (x14 + 1))) else (if x6.length < 4398046511104 then (damsonref12_Sweep.l0 k x1 (x6 ++ [(⟨(rd_T34 x12 x14).f0, (rd_T34 x12 x14).f1, (rd_T34 x12 x14).f2, (rd_T34 x12 x14).f3⟩ : S34)]) x12 x13 (wrap64 (x14 + 1))) else (none))))) else (none)) else (none)) else (some (x6, 0))
def damsonref12_Sweep.f (k : Nat) (l0 : List (S34)) (a1 : Int) : Option ((List (S34)) × Int) := (damsonref12_Check.f k l0).bind fun t254 => (if t254 = 0 then (damsonref12_Sweep.l0 k a1 ([] : List (S34)) l0 (l0.length : Int) 0) else (some (([] : List (S34)), 1)))
theorem damsonref12_Sweep.mono_l : ∀ k, (∀ y0 y1 y2 y3 y4, LeO (damsonref12_Sweep.l0 k y0 y1 y2 y3 y4) (damsonref12_Sweep.l0 (k + 1) y0 y1 y2 y3 y4))
  | 0 => fun _ _ _ _ _ r h => by simp [damsonref12_Sweep.l0] at h
  | k + 1 => by
    have ih0 := damsonref12_Sweep.mono_l k
    · intro y0 y1 y2 y3 y4
      unfold damsonref12_Sweep.l0
      repeat' first
      | (with_reducible exact ih0 _ _ _ _ _)
      | (with_reducible exact damsonref12_Check.mono _ _)
      | (with_reducible exact LeO.refl _)
      | (with_reducible exact LeO.none _)
      | (with_reducible refine LeO.ite ?_ ?_)
      | (with_reducible refine LeO.bind ?_ (fun _ => ?_))
      | exact ih0 _ _ _ _ _
      | exact damsonref12_Check.mono _ _
      | exact LeO.none _
      | refine LeO.ite ?_ ?_
      | refine LeO.bind ?_ (fun _ => ?_)
theorem damsonref12_Sweep.mono : ∀ a0 a1 k, LeO (damsonref12_Sweep.f k a0 a1) (damsonref12_Sweep.f (k + 1) a0 a1) := by
  intro a0 a1 k
  have ih0 := damsonref12_Sweep.mono_l k
  unfold damsonref12_Sweep.f
  repeat' first
      | (with_reducible exact ih0 _ _ _ _ _)
      | (with_reducible exact damsonref12_Check.mono _ _)
      | (with_reducible exact LeO.refl _)
      | (with_reducible exact LeO.none _)
      | (with_reducible refine LeO.ite ?_ ?_)
      | (with_reducible refine LeO.bind ?_ (fun _ => ?_))
      | exact ih0 _ _ _ _ _
      | exact damsonref12_Check.mono _ _
      | exact LeO.none _
      | refine LeO.ite ?_ ?_
      | refine LeO.bind ?_ (fun _ => ?_)
set_option maxHeartbeats 8000000 in
set_option maxRecDepth 100000 in
theorem damsonref12_Sweep.calls (k : Nat) (A0 : Option Addr) (c0 : Nat) (l0 : List (S34)) (a1 : Int) (r1 : List (S34)) (r2 : Int) (w : World) (hr0 : Kd.C k34 w A0 l0.length l0) (hc0 : l0.length ≤ c0) (h : damsonref12_Sweep.f k l0 a1 = some (r1, r2)) :
    Calls Try.prog 21 #[.slice A0 l0.length c0, .int .u64 a1] w fun e w' => ∃ v0_ : Value, e = .returned (.tuple #[v0_, .int .i64 r2]) ∧ Kd.R k34 34 w' w.heap.size (fun _ => True) v0_ r1 ∧ Below w.heap.size w w' := by
  have hu34 := Try.underlying34
  have HR0 := Aside0.mk hr0
  have HC0 := Aside0.mk hc0
  clear hr0 hc0
  have HB := Aside0.mk (Below.refl w.heap.size w)
  have H : ((damsonref12_Check.f k l0).bind fun t254 => (if t254 = 0 then (damsonref12_Sweep.l0 k a1 ([] : List (S34)) l0 (l0.length : Int) 0) else (some (([] : List (S34)), 1)))) = some (r1, r2) := h
  clear h
  replace H := Option.bind_eq_some_iff.mp H
  obtain ⟨t254, A30, H⟩ := H
  replace H : (if t254 = 0 then (damsonref12_Sweep.l0 k a1 ([] : List (S34)) l0 (l0.length : Int) 0) else (some (([] : List (S34)), 1))) = some (r1, r2) := H
  have A3 := Aside0.mk A30
  clear A30
  by_cases c4 : t254 = 0
  · rw [if_pos c4] at H
    have c4b0 : (t254 == 0) = true := beq_iff_eq.mpr c4
    have c4b1 : (t254 != 0) = false := bne_eq_false_iff_eq.mpr c4
    clear c4
    have H' := Aside0.mk H
    clear H
    go_enter Try.func21, Try.ntmps21
    go_wp2_with (first | ((with_reducible refine gate_callee (f := 24) rfl ?_); refine goesL_ (some 10) rfl rfl Try.func24 (by kernel_rfl) rfl #[.slice A0 l0.length c0] rfl (by (try simp only [List.map_toArray, List.map_cons, List.map_nil]); first | done | rfl | (simp only [List.length_drop, List.length_take]; rfl)) ?_; (with_reducible refine (damsonref12_Check.calls k _ _ l0 t254 _ ?side1 ?side2 A3.out).mono ?_); (case side1 => repeat (first | exact HR0.out | (with_reducible refine Kd.C_alloc ?_ _) | (with_reducible refine Kd.C_drewN ?_ _) | (with_reducible refine Kd.C_drew ?_))); (case side2 => exact HC0.out); rintro e w5 ⟨rfl, hb⟩; refine ⟨_, rfl, ?_⟩; have n0_ := Aside0.mk (below_step (belN HB) hb); clear HB; have HB := n0_; clear n0_; (try clear hb); (try clear hb2); (try clear hk); (try clear hi)))
    go_loopg [6, 14] k (fun kq v6 v14 w' => ∃ (x6_1 : List (S34)) (x14_1 : Int), v14 = .int .i64 x14_1 ∧ Aside0 (damsonref12_Sweep.l0 kq a1 x6_1 l0 (l0.length : Int) x14_1 = some (r1, r2)) ∧ Aside0 (kq ≤ k) ∧ Aside0 (Kd.R k34 34 w' w.heap.size (fun _ => True) v6 x6_1) ∧ Aside0 (Below w.heap.size w w'))
    case atStart => exact ⟨(([] : List (S34))), (0), (by first | rfl | (simp; done) | (simp [*]; done)), H', ⟨Nat.le_refl _⟩, ⟨by first | exact Kd.R_nil _ _ _ _ _ | exact Kd.N_nil _ _ _ _ _ | exact Kd.V_nil _ _ _ _ _ | exact Kd.Q_nil _ _ _ _ _ | exact Kd.S_nil _ _ _ _ _⟩, ⟨by repeat (first | (with_reducible first | exact HB.out | apply below_alloc | apply pw_below_drewN | apply below_drew1) | exact HB.out)⟩⟩
    case round =>
      clear H'
      try clear c2
      try clear p2
      try clear c4
      try clear c4b0
      try clear c4b1
      obtain ⟨x6_1, x14_1, rfl, HA, HK1, HO_6, HB⟩ := hrel
      cases gk with
      | zero => exact absurd HA.out (by simp [damsonref12_Sweep.l0])
      | succ k1 =>
        have H := HA.out
        clear HA
        simp only [damsonref12_Sweep.l0] at H
        by_cases c6 : x14_1 < (l0.length : Int)
        · rw [if_pos c6] at H
          have c6b0 : decide (x14_1 < (l0.length : Int)) = true := decide_eq_true c6
          clear c6
          by_cases c7 : 0 ≤ x14_1
          · rw [if_pos c7] at H
            have c7b0 : decide (0 ≤ x14_1) = true := decide_eq_true c7
            clear c7
            by_cases c8 : x14_1 < (l0.length : Int)
            · rw [if_pos c8] at H
              have c8b0 : decide (x14_1 < (l0.length : Int)) = true := decide_eq_true c8
              clear c8
              replace H := Option.bind_eq_some_iff.mp H
              obtain ⟨t257, A90, H⟩ := H
              replace H : (if t257 = true then (damsonref12_Sweep.l0 k1 a1 x6_1 l0 (l0.length : Int) (wrap64 (x14_1 + 1))) else (if ((rd_T34 l0 x14_1).f3) = 3 then (damsonref12_Sweep.l0 k1 a1 x6_1 l0 (l0.length : Int) (wrap64 (x14_1 + 1))) else (if x6_1.length < 4398046511104 then (damsonref12_Sweep.l0 k1 a1 (x6_1 ++ [(⟨(rd_T34 l0 x14_1).f0, (rd_T34 l0 x14_1).f1, (rd_T34 l0 x14_1).f2, (rd_T34 l0 x14_1).f3⟩ : S34)]) l0 (l0.length : Int) (wrap64 (x14_1 + 1))) else (none)))) = some (r1, r2) := H
              have A9 := Aside0.mk A90
              clear A90
              by_cases c10 : t257 = true
              · subst c10
                have H1 : (damsonref12_Sweep.l0 k1 a1 x6_1 l0 (l0.length : Int) (wrap64 (x14_1 + 1))) = some (r1, r2) := by rw [if_pos rfl] at H; exact H
                clear H
                have H := H1
                clear H1
                have H' := Aside0.mk H
                clear H
                have p255 : 0 ≤ (x14_1 : Int) := of_decide_eq_true (by first | (with_reducible assumption) | assumption)
                have q255 : x14_1 < (l0.length : Int) := of_decide_eq_true (by first | (with_reducible assumption) | assumption)
                obtain ⟨ad255, e255, hx255_0, hx255_1, hx255_2, hx255_3⟩ := at_T34 HR0.out x14_1 p255 q255
                cases e255
                replace hx255_0 := (HB.out.cell (World.block_lt_of_cell? w _ hx255_0)).trans hx255_0
                replace hx255_1 := (HB.out.cell (World.block_lt_of_cell? w _ hx255_1)).trans hx255_1
                replace hx255_2 := (HB.out.cell (World.block_lt_of_cell? w _ hx255_2)).trans hx255_2
                replace hx255_3 := (HB.out.cell (World.block_lt_of_cell? w _ hx255_3)).trans hx255_3
                replace p255 := eq_true p255
                replace q255 := eq_true q255
                go_wp2_with (first | ((with_reducible refine gate_dst (N := 8) rfl ?_); refine box_event ?hg (N := 8) ?hd (cs := #[.int .u64 0, .int .u64 0, .int .u64 0, .int .i64 0]) (t := 34) ?hr ?_; (case hd => rfl); (case hg => rfl); (case hr => first | (go_simp; done) | (go_simp; rfl)); intro gb256 hg w11 hbox hb; have n0_ := Aside0.mk (Kd.R_below (Kd.R_elderB (Kd.RN HO_6) gb256 (Nat.le_of_eq hg.symm)) hb); have n1_ := Aside0.mk (below_step (belN HB) hb); have n2_ := Aside0.mk (hbox); have n3_ := Aside0.mk ((by rw [hg]; exact (below_size (belN HB)) : w.heap.size ≤ gb256)); have n4_ := Aside0.mk ((by rw [hg]; exact (below_size (belN HB)) : w.heap.size ≤ gb256)); clear HO_6; clear HB; have HO_6 := n0_; have HB := n1_; have BK256 := n2_; have GW256 := n3_; have GE256 := n4_; clear n0_ n1_ n2_ n3_ n4_; clear hb hbox hg; obtain ⟨hcz12_0, hcz12_1, hcz12_2, hcz12_3, hfz12_0, hfz12_1, hfz12_2, hfz12_3⟩ := cz4_ (w := w11) BK256.out) | ((with_reducible refine gate_store (t := 34) (p := 8) rfl ?_); refine store_event (t := 34) (p := 8) (v := ?vo_w13) (w1 := ((((w11.setCell ⟨gb256, 0, none⟩ (.int .u64 ((rd_T34 l0 x14_1).f0))).setCell ⟨gb256, 1, none⟩ (.int .u64 ((rd_T34 l0 x14_1).f1))).setCell ⟨gb256, 2, none⟩ (.int .u64 ((rd_T34 l0 x14_1).f2))).setCell ⟨gb256, 3, none⟩ (.int .i64 ((rd_T34 l0 x14_1).f3)))) ?hg ?ho ?hn ?hr ?_; (case ho => rfl); (case hg => rfl); (case hn => rfl); (case hr => first | (go_simp; done) | (go_simp; rfl)); intro w13 hw; have n0_ : Aside0 (Kd.R k34 34 w13 w.heap.size (fun k_ => k_ ≠ gb256) u6 x6_1) := ⟨(by rw [hw]; exact (by (with_reducible repeat (first | apply Kd.R_alloc | apply Kd.R_drewN | apply Kd.R_drew)); exact Kd.R_mono (Kd.R_far (p := ⟨gb256, 3, none⟩) (Kd.R_far (p := ⟨gb256, 2, none⟩) (Kd.R_far (p := ⟨gb256, 1, none⟩) (Kd.R_far (p := ⟨gb256, 0, none⟩) (Kd.R_mono HO_6.out (fun k_ hk => (⟨hk, hk.2⟩ : _ ∧ k_ ≠ gb256))) (fun _ hk => hk.2) (.int .u64 ((rd_T34 l0 x14_1).f0))) (fun _ hk => hk.2) (.int .u64 ((rd_T34 l0 x14_1).f1))) (fun _ hk => hk.2) (.int .u64 ((rd_T34 l0 x14_1).f2))) (fun _ hk => hk.2) (.int .i64 ((rd_T34 l0 x14_1).f3))) (fun _ hk => hk.1.2)))⟩; have n1_ : Aside0 (w13.heap[gb256]? = some (.cells #[.int .u64 ((rd_T34 l0 x14_1).f0), .int .u64 ((rd_T34 l0 x14_1).f1), .int .u64 ((rd_T34 l0 x14_1).f2), .int .i64 ((rd_T34 l0 x14_1).f3)] 34 (0, 0))) := ⟨(by rw [hw]; exact (by (with_reducible repeat (first | refine blk_drewN ?_ _ | refine blk_drew ?_ | refine blk_alloc ?_ _)); refine blk_put (cs := #[.int .u64 ((rd_T34 l0 x14_1).f0), .int .u64 ((rd_T34 l0 x14_1).f1), .int .u64 ((rd_T34 l0 x14_1).f2), .int .i64 0]) ?_ 3 _ rfl; refine blk_put (cs := #[.int .u64 ((rd_T34 l0 x14_1).f0), .int .u64 ((rd_T34 l0 x14_1).f1), .int .u64 0, .int .i64 0]) ?_ 2 _ rfl; refine blk_put (cs := #[.int .u64 ((rd_T34 l0 x14_1).f0), .int .u64 0, .int .u64 0, .int .i64 0]) ?_ 1 _ rfl; refine blk_put (cs := #[.int .u64 0, .int .u64 0, .int .u64 0, .int .i64 0]) ?_ 0 _ rfl; (with_reducible repeat (first | refine blk_drewN ?_ _ | refine blk_drew ?_ | refine blk_alloc ?_ _)); exact BK256.out))⟩; have n2_ : Aside0 (Below w.heap.size w w13) := ⟨(by rw [hw]; exact (belN HB))⟩; clear hw; clear HO_6; clear BK256; clear HB; have HO_6 := n0_; have BK256 := n1_; have HB := n2_; clear n0_ n1_ n2_; obtain ⟨hcz14_0, hcz14_1, hcz14_2, hcz14_3, hfz14_0, hfz14_1, hfz14_2, hfz14_3⟩ := cz4_ (w := w13) BK256.out) | ((with_reducible refine gate_callee (f := 40) rfl ?_); refine goesL_ (some 20) rfl rfl Try.func40 (by kernel_rfl) rfl #[.agg #[.int .u64 ((rd_T34 l0 x14_1).f0), .int .u64 ((rd_T34 l0 x14_1).f1), .int .u64 ((rd_T34 l0 x14_1).f2), .int .i64 ((rd_T34 l0 x14_1).f3)], .int .u64 a1] rfl (by (try simp only [List.map_toArray, List.map_cons, List.map_nil]); first | done | rfl | (simp only [List.length_drop, List.length_take]; rfl)) ?_; (with_reducible refine (damsonref12_late.calls ((rd_T34 l0 x14_1).f0) ((rd_T34 l0 x14_1).f1) ((rd_T34 l0 x14_1).f2) ((rd_T34 l0 x14_1).f3) a1 true _ A9.out).mono ?_); rintro e w15 ⟨rfl, hb⟩; refine ⟨_, rfl, ?_⟩; have n0_ := Aside0.mk (Kd.R_below (Kd.RN HO_6) hb); have n1_ := Aside0.mk (blk_below (g := gb256) (blkN BK256) hb); have n2_ := Aside0.mk (below_step (belN HB) hb); clear HO_6; clear BK256; clear HB; have HO_6 := n0_; have BK256 := n1_; have HB := n2_; clear n0_ n1_ n2_; (try clear hb); (try clear hb2); (try clear hk); (try clear hi)))
                go_roundg k1
                case measure => have := HK1.out; omega
                case rel => exact ⟨(x6_1), (wrap64 (x14_1 + 1)), (by first | rfl | (simp; done) | (simp [*]; done)), H', ⟨by have := HK1.out; omega⟩, ⟨by (with_reducible repeat (first | apply Kd.R_alloc | apply Kd.R_drewN | apply Kd.R_drew)); exact Kd.R_mono HO_6.out (fun _ hk => trivial)⟩, ⟨by repeat (first | (with_reducible first | exact HB.out | apply below_alloc | apply pw_below_drewN | apply below_drew1 | refine below_set ?_ GE256.out) | exact HB.out)⟩⟩
              · replace c10 := Bool.eq_false_iff.mpr c10
                subst c10
                have H1 : (if ((rd_T34 l0 x14_1).f3) = 3 then (damsonref12_Sweep.l0 k1 a1 x6_1 l0 (l0.length : Int) (wrap64 (x14_1 + 1))) else (if x6_1.length < 4398046511104 then (damsonref12_Sweep.l0 k1 a1 (x6_1 ++ [(⟨(rd_T34 l0 x14_1).f0, (rd_T34 l0 x14_1).f1, (rd_T34 l0 x14_1).f2, (rd_T34 l0 x14_1).f3⟩ : S34)]) l0 (l0.length : Int) (wrap64 (x14_1 + 1))) else (none))) = some (r1, r2) := by rw [if_neg (show ¬ (false = true) by decide)] at H; exact H
                clear H
                have H := H1
                clear H1
                by_cases c16 : ((rd_T34 l0 x14_1).f3) = 3
                · rw [if_pos c16] at H
                  have c16b0 : (((rd_T34 l0 x14_1).f3) == 3) = true := beq_iff_eq.mpr c16
                  have c16b1 : (((rd_T34 l0 x14_1).f3) != 3) = false := bne_eq_false_iff_eq.mpr c16
                  clear c16
                  have H' := Aside0.mk H
                  clear H
                  have p255 : 0 ≤ (x14_1 : Int) := of_decide_eq_true (by first | (with_reducible assumption) | assumption)
                  have q255 : x14_1 < (l0.length : Int) := of_decide_eq_true (by first | (with_reducible assumption) | assumption)
                  obtain ⟨ad255, e255, hx255_0, hx255_1, hx255_2, hx255_3⟩ := at_T34 HR0.out x14_1 p255 q255
                  cases e255
                  replace hx255_0 := (HB.out.cell (World.block_lt_of_cell? w _ hx255_0)).trans hx255_0
                  replace hx255_1 := (HB.out.cell (World.block_lt_of_cell? w _ hx255_1)).trans hx255_1
                  replace hx255_2 := (HB.out.cell (World.block_lt_of_cell? w _ hx255_2)).trans hx255_2
                  replace hx255_3 := (HB.out.cell (World.block_lt_of_cell? w _ hx255_3)).trans hx255_3
                  replace p255 := eq_true p255
                  replace q255 := eq_true q255
                  go_wp2_with (first | ((with_reducible refine gate_dst (N := 8) rfl ?_); refine box_event ?hg (N := 8) ?hd (cs := #[.int .u64 0, .int .u64 0, .int .u64 0, .int .i64 0]) (t := 34) ?hr ?_; (case hd => rfl); (case hg => rfl); (case hr => first | (go_simp; done) | (go_simp; rfl)); intro gb256 hg w17 hbox hb; have n0_ := Aside0.mk (Kd.R_below (Kd.R_elderB (Kd.RN HO_6) gb256 (Nat.le_of_eq hg.symm)) hb); have n1_ := Aside0.mk (below_step (belN HB) hb); have n2_ := Aside0.mk (hbox); have n3_ := Aside0.mk ((by rw [hg]; exact (below_size (belN HB)) : w.heap.size ≤ gb256)); have n4_ := Aside0.mk ((by rw [hg]; exact (below_size (belN HB)) : w.heap.size ≤ gb256)); clear HO_6; clear HB; have HO_6 := n0_; have HB := n1_; have BK256 := n2_; have GW256 := n3_; have GE256 := n4_; clear n0_ n1_ n2_ n3_ n4_; clear hb hbox hg; obtain ⟨hcz18_0, hcz18_1, hcz18_2, hcz18_3, hfz18_0, hfz18_1, hfz18_2, hfz18_3⟩ := cz4_ (w := w17) BK256.out) | ((with_reducible refine gate_store (t := 34) (p := 8) rfl ?_); refine store_event (t := 34) (p := 8) (v := ?vo_w19) (w1 := ((((w17.setCell ⟨gb256, 0, none⟩ (.int .u64 ((rd_T34 l0 x14_1).f0))).setCell ⟨gb256, 1, none⟩ (.int .u64 ((rd_T34 l0 x14_1).f1))).setCell ⟨gb256, 2, none⟩ (.int .u64 ((rd_T34 l0 x14_1).f2))).setCell ⟨gb256, 3, none⟩ (.int .i64 ((rd_T34 l0 x14_1).f3)))) ?hg ?ho ?hn ?hr ?_; (case ho => rfl); (case hg => rfl); (case hn => rfl); (case hr => first | (go_simp; done) | (go_simp; rfl)); intro w19 hw; have n0_ : Aside0 (Kd.R k34 34 w19 w.heap.size (fun k_ => k_ ≠ gb256) u6 x6_1) := ⟨(by rw [hw]; exact (by (with_reducible repeat (first | apply Kd.R_alloc | apply Kd.R_drewN | apply Kd.R_drew)); exact Kd.R_mono (Kd.R_far (p := ⟨gb256, 3, none⟩) (Kd.R_far (p := ⟨gb256, 2, none⟩) (Kd.R_far (p := ⟨gb256, 1, none⟩) (Kd.R_far (p := ⟨gb256, 0, none⟩) (Kd.R_mono HO_6.out (fun k_ hk => (⟨hk, hk.2⟩ : _ ∧ k_ ≠ gb256))) (fun _ hk => hk.2) (.int .u64 ((rd_T34 l0 x14_1).f0))) (fun _ hk => hk.2) (.int .u64 ((rd_T34 l0 x14_1).f1))) (fun _ hk => hk.2) (.int .u64 ((rd_T34 l0 x14_1).f2))) (fun _ hk => hk.2) (.int .i64 ((rd_T34 l0 x14_1).f3))) (fun _ hk => hk.1.2)))⟩; have n1_ : Aside0 (w19.heap[gb256]? = some (.cells #[.int .u64 ((rd_T34 l0 x14_1).f0), .int .u64 ((rd_T34 l0 x14_1).f1), .int .u64 ((rd_T34 l0 x14_1).f2), .int .i64 ((rd_T34 l0 x14_1).f3)] 34 (0, 0))) := ⟨(by rw [hw]; exact (by (with_reducible repeat (first | refine blk_drewN ?_ _ | refine blk_drew ?_ | refine blk_alloc ?_ _)); refine blk_put (cs := #[.int .u64 ((rd_T34 l0 x14_1).f0), .int .u64 ((rd_T34 l0 x14_1).f1), .int .u64 ((rd_T34 l0 x14_1).f2), .int .i64 0]) ?_ 3 _ rfl; refine blk_put (cs := #[.int .u64 ((rd_T34 l0 x14_1).f0), .int .u64 ((rd_T34 l0 x14_1).f1), .int .u64 0, .int .i64 0]) ?_ 2 _ rfl; refine blk_put (cs := #[.int .u64 ((rd_T34 l0 x14_1).f0), .int .u64 0, .int .u64 0, .int .i64 0]) ?_ 1 _ rfl; refine blk_put (cs := #[.int .u64 0, .int .u64 0, .int .u64 0, .int .i64 0]) ?_ 0 _ rfl; (with_reducible repeat (first | refine blk_drewN ?_ _ | refine blk_drew ?_ | refine blk_alloc ?_ _)); exact BK256.out))⟩; have n2_ : Aside0 (Below w.heap.size w w19) := ⟨(by rw [hw]; exact (belN HB))⟩; clear hw; clear HO_6; clear BK256; clear HB; have HO_6 := n0_; have BK256 := n1_; have HB := n2_; clear n0_ n1_ n2_; obtain ⟨hcz20_0, hcz20_1, hcz20_2, hcz20_3, hfz20_0, hfz20_1, hfz20_2, hfz20_3⟩ := cz4_ (w := w19) BK256.out) | ((with_reducible refine gate_callee (f := 40) rfl ?_); refine goesL_ (some 20) rfl rfl Try.func40 (by kernel_rfl) rfl #[.agg #[.int .u64 ((rd_T34 l0 x14_1).f0), .int .u64 ((rd_T34 l0 x14_1).f1), .int .u64 ((rd_T34 l0 x14_1).f2), .int .i64 ((rd_T34 l0 x14_1).f3)], .int .u64 a1] rfl (by (try simp only [List.map_toArray, List.map_cons, List.map_nil]); first | done | rfl | (simp only [List.length_drop, List.length_take]; rfl)) ?_; (with_reducible refine (damsonref12_late.calls ((rd_T34 l0 x14_1).f0) ((rd_T34 l0 x14_1).f1) ((rd_T34 l0 x14_1).f2) ((rd_T34 l0 x14_1).f3) a1 false _ A9.out).mono ?_); rintro e w21 ⟨rfl, hb⟩; refine ⟨_, rfl, ?_⟩; have n0_ := Aside0.mk (Kd.R_below (Kd.RN HO_6) hb); have n1_ := Aside0.mk (blk_below (g := gb256) (blkN BK256) hb); have n2_ := Aside0.mk (below_step (belN HB) hb); clear HO_6; clear BK256; clear HB; have HO_6 := n0_; have BK256 := n1_; have HB := n2_; clear n0_ n1_ n2_; (try clear hb); (try clear hb2); (try clear hk); (try clear hi); obtain ⟨hcz22_0, hcz22_1, hcz22_2, hcz22_3, hfz22_0, hfz22_1, hfz22_2, hfz22_3⟩ := cz4_ (w := w21) BK256.out))
                  go_roundg k1
                  case measure => have := HK1.out; omega
                  case rel => exact ⟨(x6_1), (wrap64 (x14_1 + 1)), (by first | rfl | (simp; done) | (simp [*]; done)), H', ⟨by have := HK1.out; omega⟩, ⟨by (with_reducible repeat (first | apply Kd.R_alloc | apply Kd.R_drewN | apply Kd.R_drew)); exact Kd.R_mono HO_6.out (fun _ hk => trivial)⟩, ⟨by repeat (first | (with_reducible first | exact HB.out | apply below_alloc | apply pw_below_drewN | apply below_drew1 | refine below_set ?_ GE256.out) | exact HB.out)⟩⟩
                · rw [if_neg c16] at H
                  have c16b0 : (((rd_T34 l0 x14_1).f3) == 3) = false := beq_eq_false_iff_ne.mpr c16
                  have c16b1 : (((rd_T34 l0 x14_1).f3) != 3) = true := bne_iff_ne.mpr c16
                  by_cases c23 : x6_1.length < 4398046511104
                  · rw [if_pos c23] at H
                    have LMc23 := Aside0.mk c23
                    clear c23
                    obtain ⟨y258, hy258⟩ : ∃ y_ : List (S34), y_ = (x6_1 ++ [(⟨(rd_T34 l0 x14_1).f0, (rd_T34 l0 x14_1).f1, (rd_T34 l0 x14_1).f2, (rd_T34 l0 x14_1).f3⟩ : S34)]) := ⟨_, rfl⟩
                    replace H : (damsonref12_Sweep.l0 k1 a1 y258 l0 (l0.length : Int) (wrap64 (x14_1 + 1))) = some (r1, r2) := by first | (rw [hy258]; with_reducible exact H) | (have H2_ := (Option.bind_some _ _).symm.trans H; rw [hy258]; with_reducible exact H2_) | (have H2_ := (Option.bind_some _ _).symm.trans H; with_reducible exact H2_) | with_reducible exact H | (rw [hy258]; exact H) | exact H
                    have Ny258 := Aside0.mk hy258
                    clear hy258
                    have H' := Aside0.mk H
                    clear H
                    have p255 : 0 ≤ (x14_1 : Int) := of_decide_eq_true (by first | (with_reducible assumption) | assumption)
                    have q255 : x14_1 < (l0.length : Int) := of_decide_eq_true (by first | (with_reducible assumption) | assumption)
                    obtain ⟨ad255, e255, hx255_0, hx255_1, hx255_2, hx255_3⟩ := at_T34 HR0.out x14_1 p255 q255
                    cases e255
                    replace hx255_0 := (HB.out.cell (World.block_lt_of_cell? w _ hx255_0)).trans hx255_0
                    replace hx255_1 := (HB.out.cell (World.block_lt_of_cell? w _ hx255_1)).trans hx255_1
                    replace hx255_2 := (HB.out.cell (World.block_lt_of_cell? w _ hx255_2)).trans hx255_2
                    replace hx255_3 := (HB.out.cell (World.block_lt_of_cell? w _ hx255_3)).trans hx255_3
                    replace p255 := eq_true p255
                    replace q255 := eq_true q255
                    go_wp2_with (first | ((with_reducible refine gate_dst (N := 8) rfl ?_); refine box_event ?hg (N := 8) ?hd (cs := #[.int .u64 0, .int .u64 0, .int .u64 0, .int .i64 0]) (t := 34) ?hr ?_; (case hd => rfl); (case hg => rfl); (case hr => first | (go_simp; done) | (go_simp; rfl)); intro gb256 hg w24 hbox hb; have n0_ := Aside0.mk (Kd.R_below (Kd.R_elderB (Kd.RN HO_6) gb256 (Nat.le_of_eq hg.symm)) hb); have n1_ := Aside0.mk (below_step (belN HB) hb); have n2_ := Aside0.mk (hbox); have n3_ := Aside0.mk ((by rw [hg]; exact (below_size (belN HB)) : w.heap.size ≤ gb256)); have n4_ := Aside0.mk ((by rw [hg]; exact (below_size (belN HB)) : w.heap.size ≤ gb256)); clear HO_6; clear HB; have HO_6 := n0_; have HB := n1_; have BK256 := n2_; have GW256 := n3_; have GE256 := n4_; clear n0_ n1_ n2_ n3_ n4_; clear hb hbox hg; obtain ⟨hcz25_0, hcz25_1, hcz25_2, hcz25_3, hfz25_0, hfz25_1, hfz25_2, hfz25_3⟩ := cz4_ (w := w24) BK256.out) | ((with_reducible refine gate_store (t := 34) (p := 8) rfl ?_); refine store_event (t := 34) (p := 8) (v := ?vo_w26) (w1 := ((((w24.setCell ⟨gb256, 0, none⟩ (.int .u64 ((rd_T34 l0 x14_1).f0))).setCell ⟨gb256, 1, none⟩ (.int .u64 ((rd_T34 l0 x14_1).f1))).setCell ⟨gb256, 2, none⟩ (.int .u64 ((rd_T34 l0 x14_1).f2))).setCell ⟨gb256, 3, none⟩ (.int .i64 ((rd_T34 l0 x14_1).f3)))) ?hg ?ho ?hn ?hr ?_; (case ho => rfl); (case hg => rfl); (case hn => rfl); (case hr => first | (go_simp; done) | (go_simp; rfl)); intro w26 hw; have n0_ : Aside0 (Kd.R k34 34 w26 w.heap.size (fun k_ => k_ ≠ gb256) u6 x6_1) := ⟨(by rw [hw]; exact (by (with_reducible repeat (first | apply Kd.R_alloc | apply Kd.R_drewN | apply Kd.R_drew)); exact Kd.R_mono (Kd.R_far (p := ⟨gb256, 3, none⟩) (Kd.R_far (p := ⟨gb256, 2, none⟩) (Kd.R_far (p := ⟨gb256, 1, none⟩) (Kd.R_far (p := ⟨gb256, 0, none⟩) (Kd.R_mono HO_6.out (fun k_ hk => (⟨hk, hk.2⟩ : _ ∧ k_ ≠ gb256))) (fun _ hk => hk.2) (.int .u64 ((rd_T34 l0 x14_1).f0))) (fun _ hk => hk.2) (.int .u64 ((rd_T34 l0 x14_1).f1))) (fun _ hk => hk.2) (.int .u64 ((rd_T34 l0 x14_1).f2))) (fun _ hk => hk.2) (.int .i64 ((rd_T34 l0 x14_1).f3))) (fun _ hk => hk.1.2)))⟩; have n1_ : Aside0 (w26.heap[gb256]? = some (.cells #[.int .u64 ((rd_T34 l0 x14_1).f0), .int .u64 ((rd_T34 l0 x14_1).f1), .int .u64 ((rd_T34 l0 x14_1).f2), .int .i64 ((rd_T34 l0 x14_1).f3)] 34 (0, 0))) := ⟨(by rw [hw]; exact (by (with_reducible repeat (first | refine blk_drewN ?_ _ | refine blk_drew ?_ | refine blk_alloc ?_ _)); refine blk_put (cs := #[.int .u64 ((rd_T34 l0 x14_1).f0), .int .u64 ((rd_T34 l0 x14_1).f1), .int .u64 ((rd_T34 l0 x14_1).f2), .int .i64 0]) ?_ 3 _ rfl; refine blk_put (cs := #[.int .u64 ((rd_T34 l0 x14_1).f0), .int .u64 ((rd_T34 l0 x14_1).f1), .int .u64 0, .int .i64 0]) ?_ 2 _ rfl; refine blk_put (cs := #[.int .u64 ((rd_T34 l0 x14_1).f0), .int .u64 0, .int .u64 0, .int .i64 0]) ?_ 1 _ rfl; refine blk_put (cs := #[.int .u64 0, .int .u64 0, .int .u64 0, .int .i64 0]) ?_ 0 _ rfl; (with_reducible repeat (first | refine blk_drewN ?_ _ | refine blk_drew ?_ | refine blk_alloc ?_ _)); exact BK256.out))⟩; have n2_ : Aside0 (Below w.heap.size w w26) := ⟨(by rw [hw]; exact (belN HB))⟩; clear hw; clear HO_6; clear BK256; clear HB; have HO_6 := n0_; have BK256 := n1_; have HB := n2_; clear n0_ n1_ n2_; obtain ⟨hcz27_0, hcz27_1, hcz27_2, hcz27_3, hfz27_0, hfz27_1, hfz27_2, hfz27_3⟩ := cz4_ (w := w26) BK256.out) | ((with_reducible refine gate_callee (f := 40) rfl ?_); refine goesL_ (some 20) rfl rfl Try.func40 (by kernel_rfl) rfl #[.agg #[.int .u64 ((rd_T34 l0 x14_1).f0), .int .u64 ((rd_T34 l0 x14_1).f1), .int .u64 ((rd_T34 l0 x14_1).f2), .int .i64 ((rd_T34 l0 x14_1).f3)], .int .u64 a1] rfl (by (try simp only [List.map_toArray, List.map_cons, List.map_nil]); first | done | rfl | (simp only [List.length_drop, List.length_take]; rfl)) ?_; (with_reducible refine (damsonref12_late.calls ((rd_T34 l0 x14_1).f0) ((rd_T34 l0 x14_1).f1) ((rd_T34 l0 x14_1).f2) ((rd_T34 l0 x14_1).f3) a1 false _ A9.out).mono ?_); rintro e w28 ⟨rfl, hb⟩; refine ⟨_, rfl, ?_⟩; have n0_ := Aside0.mk (Kd.R_below (Kd.RN HO_6) hb); have n1_ := Aside0.mk (blk_below (g := gb256) (blkN BK256) hb); have n2_ := Aside0.mk (below_step (belN HB) hb); clear HO_6; clear BK256; clear HB; have HO_6 := n0_; have BK256 := n1_; have HB := n2_; clear n0_ n1_ n2_; (try clear hb); (try clear hb2); (try clear hk); (try clear hi); obtain ⟨hcz29_0, hcz29_1, hcz29_2, hcz29_3, hfz29_0, hfz29_1, hfz29_2, hfz29_3⟩ := cz4_ (w := w28) BK256.out) | ((with_reducible refine gate_builtin (b := .append) (xs := #[.tmp 27, .tmp 29]) rfl ?_); at_builtin; refine Kd.R_append k34 (w0 := w) w.heap.size rfl (.tmp 27) (.tmp 29) 22 34 (.agg #[(.int .u64 0), (.int .u64 0), (.int .u64 0), (.int .i64 0)]) 32 rfl Try.underlying22 info34 rfl (by decide) (by omega) u6 x6_1 (⟨(rd_T34 l0 x14_1).f0, (rd_T34 l0 x14_1).f1, (rd_T34 l0 x14_1).f2, (rd_T34 l0 x14_1).f3⟩ : S34) [.int .u64 ((rd_T34 l0 x14_1).f0), .int .u64 ((rd_T34 l0 x14_1).f1), .int .u64 ((rd_T34 l0 x14_1).f2), .int .i64 ((rd_T34 l0 x14_1).f3)] (fun k_ => k_ ≠ gb256) (fun _ => False) rfl rfl ?aP (fun _ hk => hk.elim) ?aF ?aO ?aB ?aS ?aL ?_; (case aP => exact k34_mkM _ _ _ (⟨(rd_T34 l0 x14_1).f0, (rd_T34 l0 x14_1).f1, (rd_T34 l0 x14_1).f2, (rd_T34 l0 x14_1).f3⟩ : S34)); (case aB => exact (belN HB)); (case aF => exact (fun k_ hk => Kd.freshB (g := gb256) (blkN BK256) k_ hk)); (case aO => exact (Kd.RN HO_6)); (case aS => exact (below_size (belN HB))); (case aL => have := LMc23.out; omega); intro v259 w30 ho hb hg hat; rw [← Ny258.out] at ho; have n0_ := Aside0.mk (blk_grown (g := gb256) (blkN BK256) hg (Kd.R_away HO_6.out (fun _ hk => hk))); have n1_ := Aside0.mk (hb); have n2_ := Aside0.mk (ho); clear BK256; clear HB; clear HO_6; have BK256 := n0_; have HB := n1_; have HO260 := n2_; clear n0_ n1_ n2_; clear ho hb hg hat))
                    go_roundg k1
                    case measure => have := HK1.out; omega
                    case rel => exact ⟨(y258), (wrap64 (x14_1 + 1)), (by first | rfl | (simp; done) | (simp [*]; done)), H', ⟨by have := HK1.out; omega⟩, ⟨by (with_reducible repeat (first | apply Kd.R_alloc | apply Kd.R_drewN | apply Kd.R_drew)); exact Kd.R_mono HO260.out (fun _ hk => trivial)⟩, ⟨by repeat (first | (with_reducible first | exact HB.out | apply below_alloc | apply pw_below_drewN | apply below_drew1 | refine below_set ?_ GE256.out) | exact HB.out)⟩⟩
                  · rw [if_neg c23] at H
                    exact absurd H (by simp)
            · rw [if_neg c8] at H
              exact absurd H (by simp)
          · rw [if_neg c7] at H
            exact absurd H (by simp)
        · rw [if_neg c6] at H
          have c6b0 : decide (x14_1 < (l0.length : Int)) = false := decide_eq_false c6
          clear c6
          simp only [Option.some.injEq, Prod.mk.injEq] at H
          obtain ⟨rfl, rfl⟩ := H
          go_wp2
          go_ret2
          exact ⟨_, by first | rfl | (simp [errW_none, errW_some] <;> rfl) | (simp [*, errW_none, errW_some] <;> rfl), by (with_reducible repeat (first | apply Kd.R_alloc | apply Kd.R_drewN | apply Kd.R_drew)); exact HO_6.out, by repeat (first | (with_reducible first | exact HB.out | apply below_alloc | apply pw_below_drewN | apply below_drew1) | exact HB.out)⟩
  · rw [if_neg c4] at H
    have c4b0 : (t254 == 0) = false := beq_eq_false_iff_ne.mpr c4
    have c4b1 : (t254 != 0) = true := bne_iff_ne.mpr c4
    simp only [Option.some.injEq, Prod.mk.injEq] at H
    obtain ⟨rfl, rfl⟩ := H
    go_enter Try.func21, Try.ntmps21
    go_wp2_with (first | ((with_reducible refine gate_callee (f := 24) rfl ?_); refine goesL_ (some 10) rfl rfl Try.func24 (by kernel_rfl) rfl #[.slice A0 l0.length c0] rfl (by (try simp only [List.map_toArray, List.map_cons, List.map_nil]); first | done | rfl | (simp only [List.length_drop, List.length_take]; rfl)) ?_; (with_reducible refine (damsonref12_Check.calls k _ _ l0 t254 _ ?side1 ?side2 A3.out).mono ?_); (case side1 => repeat (first | exact HR0.out | (with_reducible refine Kd.C_alloc ?_ _) | (with_reducible refine Kd.C_drewN ?_ _) | (with_reducible refine Kd.C_drew ?_))); (case side2 => exact HC0.out); rintro e w31 ⟨rfl, hb⟩; refine ⟨_, rfl, ?_⟩; have n0_ := Aside0.mk (below_step (belN HB) hb); clear HB; have HB := n0_; clear n0_; (try clear hb); (try clear hb2); (try clear hk); (try clear hi)))
    go_ret2
    exact ⟨_, by first | rfl | (simp [errW_none, errW_some] <;> rfl) | (simp [*, errW_none, errW_some] <;> rfl), by first | exact Kd.R_nil _ _ _ _ _ | exact Kd.N_nil _ _ _ _ _ | exact Kd.V_nil _ _ _ _ _ | exact Kd.Q_nil _ _ _ _ _ | exact Kd.S_nil _ _ _ _ _, by repeat (first | (with_reducible first | exact HB.out | apply below_alloc | apply pw_below_drewN | apply below_drew1) | exact HB.out)⟩

/-! ### damsonref12_Same: function 23 -/
def damsonref12_Same.l0 : Nat → List (S34) → List (S34) → Int → Int → Option (Bool)
  | 0, _, _, _, _ => none
  | k + 1, x0, x1, x12, x13 => if x13 < x12 then (if 0 ≤ x13 then (if x13 < (x0.length : Int) then (if x13 < (x1.length : Int) then (if (!(((rd_T34 x0 x13).f0) == ((rd_T34 x1 x13).f0)) || (!(((rd_T34 x0 x13).f1) == ((rd_T34 x1 x13).f1)) || (!(((rd_T34 x0 x13).f2) == ((rd_T34 x1 x13).f2)) || (!(((rd_T34 x0 x13).f3) == ((rd_T34 x1 x13).f3)))))) = true then (some false) else (damsonref12_Same.l0 k x0 x1 x12 (wrap64 (x13 + 1)))) else (none)) else (none)) else (none)) else (some true)
def damsonref12_Same.f (k : Nat) (l0 : List (S34)) (l1 : List (S34)) : Option (Bool) := if (l0.length : Int) = (l1.length : Int) then (damsonref12_Same.l0 k l0 l1 (l0.length : Int) 0) else (some false)
theorem damsonref12_Same.mono_l : ∀ k, (∀ y0 y1 y2 y3, LeO (damsonref12_Same.l0 k y0 y1 y2 y3) (damsonref12_Same.l0 (k + 1) y0 y1 y2 y3))
  | 0 => fun _ _ _ _ r h => by simp [damsonref12_Same.l0] at h
  | k + 1 => by
    have ih0 := damsonref12_Same.mono_l k
    · intro y0 y1 y2 y3
      unfold damsonref12_Same.l0
      repeat' first
      | (with_reducible exact ih0 _ _ _ _)
      | (with_reducible exact LeO.refl _)
      | (with_reducible exact LeO.none _)
      | (with_reducible refine LeO.ite ?_ ?_)
      | (with_reducible refine LeO.bind ?_ (fun _ => ?_))
      | exact ih0 _ _ _ _
      | exact LeO.none _
      | refine LeO.ite ?_ ?_
      | refine LeO.bind ?_ (fun _ => ?_)
theorem damsonref12_Same.mono : ∀ a0 a1 k, LeO (damsonref12_Same.f k a0 a1) (damsonref12_Same.f (k + 1) a0 a1) := by
  intro a0 a1 k
  have ih0 := damsonref12_Same.mono_l k
  unfold damsonref12_Same.f
  repeat' first
      | (with_reducible exact ih0 _ _ _ _)
      | (with_reducible exact LeO.refl _)
      | (with_reducible exact LeO.none _)
      | (with_reducible refine LeO.ite ?_ ?_)
      | (with_reducible refine LeO.bind ?_ (fun _ => ?_))
      | exact ih0 _ _ _ _
      | exact LeO.none _
      | refine LeO.ite ?_ ?_
      | refine LeO.bind ?_ (fun _ => ?_)
set_option maxHeartbeats 8000000 in
set_option maxRecDepth 100000 in
theorem damsonref12_Same.calls (k : Nat) (A0 : Option Addr) (c0 : Nat) (l0 : List (S34)) (A1 : Option Addr) (c1 : Nat) (l1 : List (S34)) (r : Bool) (w : World) (hr0 : Kd.C k34 w A0 l0.length l0) (hc0 : l0.length ≤ c0) (hr1 : Kd.C k34 w A1 l1.length l1) (hc1 : l1.length ≤ c1) (h : damsonref12_Same.f k l0 l1 = some r) :
    Calls Try.prog 23 #[.slice A0 l0.length c0, .slice A1 l1.length c1] w fun e w' => e = .returned (.bool r) ∧ Drawn0 w w' := by
  have hu34 := Try.underlying34
  have HR0 := Aside0.mk hr0
  have HC0 := Aside0.mk hc0
  clear hr0 hc0
  have HR1 := Aside0.mk hr1
  have HC1 := Aside0.mk hc1
  clear hr1 hc1
  have H : (if (l0.length : Int) = (l1.length : Int) then (damsonref12_Same.l0 k l0 l1 (l0.length : Int) 0) else (some false)) = some r := h
  clear h
  by_cases c3 : (l0.length : Int) = (l1.length : Int)
  · rw [if_pos c3] at H
    have c3b0 : ((l0.length : Int) == (l1.length : Int)) = true := beq_iff_eq.mpr c3
    have c3b1 : ((l0.length : Int) != (l1.length : Int)) = false := bne_eq_false_iff_eq.mpr c3
    have c3b2 : (l0.length == l1.length) = true := by first | simpa using c3 | (simp at c3 ⊢; omega)
    clear c3
    have H' := Aside0.mk H
    clear H
    go_enter Try.func23, Try.ntmps23
    go_wp2
    repeat (go_quiet (fail); try go_wp2)
    go_loopg [13] k (fun kq v13 w' => ∃ (x13_1 : Int), v13 = .int .i64 x13_1 ∧ Aside0 (damsonref12_Same.l0 kq l0 l1 (l0.length : Int) x13_1 = some r) ∧ Aside0 (kq ≤ k) ∧ Drawn0 w w')
    case atStart => exact ⟨(0), (by first | rfl | (simp; done) | (simp [*]; done)), H', ⟨Nat.le_refl _⟩, by repeat (first | exact Drawn0.refl _ | apply Drawn0.step)⟩
    case round =>
      clear H'
      try clear c1
      try clear c2
      try clear p2
      try clear c3
      try clear c3b0
      try clear c3b1
      try clear c3b2
      obtain ⟨x13_1, rfl, HA, HK1, ⟨m1, rfl⟩⟩ := hrel
      cases gk with
      | zero => exact absurd HA.out (by simp [damsonref12_Same.l0])
      | succ k1 =>
        have H := HA.out
        clear HA
        simp only [damsonref12_Same.l0] at H
        by_cases c4 : x13_1 < (l0.length : Int)
        · rw [if_pos c4] at H
          have c4b0 : decide (x13_1 < (l0.length : Int)) = true := decide_eq_true c4
          clear c4
          by_cases c5 : 0 ≤ x13_1
          · rw [if_pos c5] at H
            have c5b0 : decide (0 ≤ x13_1) = true := decide_eq_true c5
            clear c5
            by_cases c6 : x13_1 < (l0.length : Int)
            · rw [if_pos c6] at H
              have c6b0 : decide (x13_1 < (l0.length : Int)) = true := decide_eq_true c6
              clear c6
              by_cases c7 : x13_1 < (l1.length : Int)
              · rw [if_pos c7] at H
                have c7b0 : decide (x13_1 < (l1.length : Int)) = true := decide_eq_true c7
                clear c7
                by_cases c8 : (!(((rd_T34 l0 x13_1).f0) == ((rd_T34 l1 x13_1).f0)) || (!(((rd_T34 l0 x13_1).f1) == ((rd_T34 l1 x13_1).f1)) || (!(((rd_T34 l0 x13_1).f2) == ((rd_T34 l1 x13_1).f2)) || (!(((rd_T34 l0 x13_1).f3) == ((rd_T34 l1 x13_1).f3)))))) = true
                · rw [if_pos c8] at H
                  have c8b0 : (!(((rd_T34 l0 x13_1).f0) == ((rd_T34 l1 x13_1).f0)) || (!(((rd_T34 l0 x13_1).f1) == ((rd_T34 l1 x13_1).f1)) || (!(((rd_T34 l0 x13_1).f2) == ((rd_T34 l1 x13_1).f2)) || (!(((rd_T34 l0 x13_1).f3) == ((rd_T34 l1 x13_1).f3)))))) = true := c8
                  clear c8
                  obtain rfl := Option.some.inj H
                  have p261 : 0 ≤ (x13_1 : Int) := of_decide_eq_true (by first | (with_reducible assumption) | assumption)
                  have q261 : x13_1 < (l0.length : Int) := of_decide_eq_true (by first | (with_reducible assumption) | assumption)
                  obtain ⟨ad261, e261, hx261_0, hx261_1, hx261_2, hx261_3⟩ := at_T34 HR0.out x13_1 p261 q261
                  cases e261
                  replace p261 := eq_true p261
                  replace q261 := eq_true q261
                  have p262 : 0 ≤ (x13_1 : Int) := of_decide_eq_true (by first | (with_reducible assumption) | assumption)
                  have q262 : x13_1 < (l1.length : Int) := of_decide_eq_true (by first | (with_reducible assumption) | assumption)
                  obtain ⟨ad262, e262, hx262_0, hx262_1, hx262_2, hx262_3⟩ := at_T34 HR1.out x13_1 p262 q262
                  cases e262
                  replace p262 := eq_true p262
                  replace q262 := eq_true q262
                  go_wp2
                  repeat (go_quiet (fail); try go_wp2)
                  go_ret
                  exact ⟨by first | rfl | (simp; done) | (simp [*]; done), by repeat (first | exact Drawn0.refl _ | apply Drawn0.step)⟩
                · rw [if_neg c8] at H
                  have c8b0 : (!(((rd_T34 l0 x13_1).f0) == ((rd_T34 l1 x13_1).f0)) || (!(((rd_T34 l0 x13_1).f1) == ((rd_T34 l1 x13_1).f1)) || (!(((rd_T34 l0 x13_1).f2) == ((rd_T34 l1 x13_1).f2)) || (!(((rd_T34 l0 x13_1).f3) == ((rd_T34 l1 x13_1).f3)))))) = false := by simpa using c8
                  clear c8
                  have H' := Aside0.mk H
                  clear H
                  have p261 : 0 ≤ (x13_1 : Int) := of_decide_eq_true (by first | (with_reducible assumption) | assumption)
                  have q261 : x13_1 < (l0.length : Int) := of_decide_eq_true (by first | (with_reducible assumption) | assumption)
                  obtain ⟨ad261, e261, hx261_0, hx261_1, hx261_2, hx261_3⟩ := at_T34 HR0.out x13_1 p261 q261
                  cases e261
                  replace p261 := eq_true p261
                  replace q261 := eq_true q261
                  have p262 : 0 ≤ (x13_1 : Int) := of_decide_eq_true (by first | (with_reducible assumption) | assumption)
                  have q262 : x13_1 < (l1.length : Int) := of_decide_eq_true (by first | (with_reducible assumption) | assumption)
                  obtain ⟨ad262, e262, hx262_0, hx262_1, hx262_2, hx262_3⟩ := at_T34 HR1.out x13_1 p262 q262
                  cases e262
                  replace p262 := eq_true p262
                  replace q262 := eq_true q262
                  go_wp2
                  repeat (go_quiet (fail); try go_wp2)
                  go_roundg k1
                  case measure => have := HK1.out; omega
                  case rel => exact ⟨(wrap64 (x13_1 + 1)), (by first | rfl | (simp; done) | (simp [*]; done)), H', ⟨by have := HK1.out; omega⟩, by repeat (first | exact Drawn0.refl _ | apply Drawn0.step)⟩
              · rw [if_neg c7] at H
                exact absurd H (by simp)
            · rw [if_neg c6] at H
              exact absurd H (by simp)
          · rw [if_neg c5] at H
            exact absurd H (by simp)
        · rw [if_neg c4] at H
          have c4b0 : decide (x13_1 < (l0.length : Int)) = false := decide_eq_false c4
          clear c4
          obtain rfl := Option.some.inj H
          go_wp2
          repeat (go_quiet (fail); try go_wp2)
          go_ret
          exact ⟨by first | rfl | (simp; done) | (simp [*]; done), by repeat (first | exact Drawn0.refl _ | apply Drawn0.step)⟩
  · rw [if_neg c3] at H
    have c3b0 : ((l0.length : Int) == (l1.length : Int)) = false := beq_eq_false_iff_ne.mpr c3
    have c3b1 : ((l0.length : Int) != (l1.length : Int)) = true := bne_iff_ne.mpr c3
    have c3b2 : (l0.length == l1.length) = false := by first | simpa using c3 | (simp at c3 ⊢; omega)
    obtain rfl := Option.some.inj H
    go_enter Try.func23, Try.ntmps23
    go_wp2
    repeat (go_quiet (fail); try go_wp2)
    go_ret
    exact ⟨by first | rfl | (simp; done) | (simp [*]; done), by repeat (first | exact Drawn0.refl _ | apply Drawn0.step)⟩

/-! ### damsonlaw12_InvoiceDoes: function 8 (by hand) -/
def damsonlaw12_InvoiceDoes.b (k : Nat) (l0 l1 : List (S34)) (a2 a3 a4 a5 : Int) : Option (Bool) :=
  (invoice_Create.f k l0 a2 a3 a4).bind fun a => (damsonref12_Create.f k l0 a2 a3 a4).bind fun b => (invoice_Cancel.f k l0 a2 a5).bind fun c => (damsonref12_Cancel.f k l0 a2 a5).bind fun d => (invoice_Pay.f k l0 a2 a3 a5).bind fun p => (damsonref12_Pay.f k l0 a2 a3 a5).bind fun q => (invoice_Sweep.f k l0 a5).bind fun s => (damsonref12_Sweep.f k l0 a5).bind fun t => (invoice_State.f k l0 a2 a5).bind fun x => (damsonref12_State.f k l0 a2 a5).bind fun y =>
  (damsonref12_Same.f k a.1 b.1).bind fun s1 => (damsonref12_Same.f k c.1 d.1).bind fun s2 => (damsonref12_Same.f k p.1 q.1).bind fun s3 => (damsonref12_Same.f k s.1 t.1).bind fun s4 => (invoice_Check.f k l0).bind fun c1 => (damsonref12_Check.f k l0).bind fun c2 => (invoice_Same.f k l0 l1).bind fun m1 => (damsonref12_Same.f k l0 l1).bind fun m2 => (damsonref12_Same.f k l0 l0).bind fun z =>
  if l0.length < 4398046511104 ∧ s1 = true ∧ s2 = true ∧ s3 = true ∧ s4 = true ∧ a.2 = b.2 ∧ c.2 = d.2 ∧ p.2 = q.2 ∧ s.2 = t.2 ∧ x.1 = y.1 ∧ x.2 = y.2 ∧ c1 = c2 ∧ m1 = m2 then some z else none
def damsonlaw12_InvoiceDoes.f (k : Nat) (l0 l1 : List (S34)) (a2 a3 a4 a5 : Int) : Option (Bool) := (damsonlaw12_live.f k).bind fun t1 => (if t1 = true then ((damsonlaw12_few.f l0).bind fun t2 => (if t2 = true then ((damsonlaw12_few.f l1).bind fun t3 => (if t3 = true then damsonlaw12_InvoiceDoes.b k l0 l1 a2 a3 a4 a5 else (some true))) else (some true))) else (some false))
theorem damsonlaw12_InvoiceDoes.mono : ∀ a0 a1 a2 a3 a4 a5 k, LeO (damsonlaw12_InvoiceDoes.f k a0 a1 a2 a3 a4 a5) (damsonlaw12_InvoiceDoes.f (k + 1) a0 a1 a2 a3 a4 a5) := by
  intro a0 a1 a2 a3 a4 a5 k
  unfold damsonlaw12_InvoiceDoes.f damsonlaw12_InvoiceDoes.b
  repeat' first
    | (with_reducible exact LeO.refl _)
    | apply damsonlaw12_live.mono
    | apply invoice_Create.mono
    | apply damsonref12_Create.mono
    | apply invoice_Cancel.mono
    | apply damsonref12_Cancel.mono
    | apply invoice_Pay.mono
    | apply damsonref12_Pay.mono
    | apply invoice_Sweep.mono
    | apply damsonref12_Sweep.mono
    | apply invoice_State.mono
    | apply damsonref12_State.mono
    | apply damsonref12_Same.mono
    | apply invoice_Check.mono
    | apply damsonref12_Check.mono
    | apply invoice_Same.mono
    | (with_reducible refine LeO.ite ?_ ?_)
    | (with_reducible refine LeO.bind ?_ (fun _ => ?_))
def sel4 {α : Type} (a b c d : α) : Nat → α
  | 0 => a
  | 1 => b
  | 2 => c
  | _ => d
/-- What stays while the rows that were made are written to: all that was there before them, the row of the four, and that they are the call's own. -/
structure Four (w4 : World) (g4 : Nat) (vs : Nat → Value) (lo hi : Nat → Nat) (wr : World) : Prop where
  bel : Below w4.heap.size w4 wr
  blk : wr.heap[g4]? = some (.cells #[vs 0, vs 1, vs 2, vs 3] 22 (0, 0))
  rows : ∀ i, i < 4 → ∃ xs, Kd.R k34 34 wr w4.heap.size (fun k => lo i ≤ k ∧ k < hi i) (vs i) xs
theorem Four.put {w4 : World} {g4 : Nat} {vs : Nat → Value} {lo hi : Nat → Nat} {wr w2 : World} (h : Four w4 g4 vs lo hi wr) {j g : Nat} (hj : j < 4) (hg : lo j ≤ g ∧ g < hi j) (h4 : g4 ≠ g)
    (hd : ∀ i, i < 4 → i ≠ j → ∀ k, lo i ≤ k ∧ k < hi i → lo j ≤ k ∧ k < hi j → False) (hb : Below w4.heap.size w4 w2) (hgr : wr.grownBy w2 (some g)) (xs : List S34) (hn : Kd.R k34 34 w2 w4.heap.size (fun k => lo j ≤ k ∧ k < hi j) (vs j) xs) : Four w4 g4 vs lo hi w2 := by
  refine ⟨hb, (hgr.block g4 (blk_lt h.blk) (by simpa using h4)).trans h.blk, fun i hi4 => ?_⟩
  by_cases e : i = j
  · subst e; exact ⟨xs, hn⟩
  · obtain ⟨ys, hy⟩ := h.rows i hi4
    refine ⟨ys, Kd.R_grown hy hgr (fun k hk he => ?_)⟩
    injection he with he
    subst he
    exact hd i hi4 e k hk hg
theorem cells34c {w : World} {base n cap g : Nat} {P : Nat → Prop} {ys : List S34} (h : Kd.R k34 34 w base P (.slice (some ⟨g, 0, none⟩) n cap) ys) (i : Nat) (hi : i < ys.length) : ∀ j u, ([.int .u64 (rd_T34 ys i).f0, .int .u64 (rd_T34 ys i).f1, .int .u64 (rd_T34 ys i).f2, .int .i64 (rd_T34 ys i).f3] : List Value)[j]? = some u → w.cell? ⟨g, (i : Int).toNat * k34.sz + j, none⟩ = some u := by
  obtain ⟨ad, c, had, hcl, hK, hcc⟩ := Kd.C_get (Kd.R_reads' h).2.2 z34 (i : Int) (by omega) (by omega)
  injection had with had
  subst had
  obtain rfl := k34_open hK
  intro j u hj
  have := hcc j u hj
  rwa [add_plain] at this
set_option maxHeartbeats 16000000 in
set_option maxRecDepth 100000 in
theorem damsonlaw12_InvoiceDoes.calls (k : Nat) (A0 : Option Addr) (c0 : Nat) (l0 : List (S34)) (A1 : Option Addr) (c1 : Nat) (l1 : List (S34)) (a2 : Int) (a3 : Int) (a4 : Int) (a5 : Int) (r : Bool) (w : World) (hr0 : Kd.C k34 w A0 l0.length l0) (hc0 : l0.length ≤ c0) (hr1 : Kd.C k34 w A1 l1.length l1) (hc1 : l1.length ≤ c1) (h : damsonlaw12_InvoiceDoes.f k l0 l1 a2 a3 a4 a5 = some r) :
    Calls Try.prog 8 #[.slice A0 l0.length c0, .slice A1 l1.length c1, .int .u64 a2, .int .u64 a3, .int .u64 a4, .int .u64 a5] w fun e w' => e = .returned (.bool r) ∧ Below w.heap.size w w' := by
  have HR0 := Aside0.mk hr0
  have HC0 := Aside0.mk hc0
  have HR1 := Aside0.mk hr1
  have HC1 := Aside0.mk hc1
  clear hr0 hc0 hr1 hc1
  obtain ⟨t1, h1, h⟩ := Option.bind_eq_some_iff.mp h
  have HL := Aside0.mk h1
  clear h1
  cases t1 with
  | false =>
    rw [if_neg (by decide)] at h
    injection h with h
    subst h
    go_enter Try.func8, Try.ntmps8
    go_wp2_with (first | (go_at_call 9; refine (damsonlaw12_live.calls k _ _ HL.out).mono ?_; rintro e w1 ⟨rfl, hb⟩; have HB1 := Aside0.mk hb; clear hb HL))
    go_ret
    exact ⟨rfl, HB1.out⟩
  | true =>
  rw [if_pos rfl] at h
  obtain ⟨t2, h2, h⟩ := Option.bind_eq_some_iff.mp h
  have HF0 := Aside0.mk h2
  clear h2
  cases t2 with
  | false =>
    rw [if_neg (by decide)] at h
    injection h with h
    subst h
    go_enter Try.func8, Try.ntmps8
    go_wp2_with (first | (go_at_call 9; refine (damsonlaw12_live.calls k _ _ HL.out).mono ?_; rintro e w1 ⟨rfl, hb⟩; have HB1 := Aside0.mk hb; clear hb HL) | (go_at_call 10; refine (damsonlaw12_few.calls A0 c0 l0 _ _ (Kd.C_below HR0.out HB1.out) HC0.out HF0.out).mono ?_; rintro e w2 ⟨rfl, hd⟩; have HB2 := Aside0.mk (below_then HB1.out HB1.out.size hd.below); clear hd HF0))
    go_ret
    exact ⟨rfl, HB2.out⟩
  | true =>
  rw [if_pos rfl] at h
  obtain ⟨t3, h3, h⟩ := Option.bind_eq_some_iff.mp h
  have HF1 := Aside0.mk h3
  clear h3
  cases t3 with
  | false =>
    rw [if_neg (by decide)] at h
    injection h with h
    subst h
    go_enter Try.func8, Try.ntmps8
    go_wp2_with (first | (go_at_call 9; refine (damsonlaw12_live.calls k _ _ HL.out).mono ?_; rintro e w1 ⟨rfl, hb⟩; have HB1 := Aside0.mk hb; clear hb HL) | (go_at_call 10; refine (damsonlaw12_few.calls A0 c0 l0 _ _ (Kd.C_below HR0.out HB1.out) HC0.out HF0.out).mono ?_; rintro e w2 ⟨rfl, hd⟩; have HB2 := Aside0.mk (below_then HB1.out HB1.out.size hd.below); clear hd HF0) | (go_at_call 10; refine (damsonlaw12_few.calls A1 c1 l1 _ _ (Kd.C_below HR1.out HB2.out) HC1.out HF1.out).mono ?_; rintro e w3 ⟨rfl, hd⟩; have HB3 := Aside0.mk (below_then HB2.out HB2.out.size hd.below); clear hd HF1))
    go_ret
    exact ⟨rfl, HB3.out⟩
  | true =>
  rw [if_pos rfl] at h
  unfold damsonlaw12_InvoiceDoes.b at h
  obtain ⟨⟨la, ea⟩, h1, h⟩ := Option.bind_eq_some_iff.mp h
  have HFa := Aside0.mk h1
  clear h1
  obtain ⟨⟨lb, eb⟩, h1, h⟩ := Option.bind_eq_some_iff.mp h
  have HFb := Aside0.mk h1
  clear h1
  obtain ⟨⟨lc, ec⟩, h1, h⟩ := Option.bind_eq_some_iff.mp h
  have HFc := Aside0.mk h1
  clear h1
  obtain ⟨⟨ld, ed⟩, h1, h⟩ := Option.bind_eq_some_iff.mp h
  have HFd := Aside0.mk h1
  clear h1
  obtain ⟨⟨lp, ep⟩, h1, h⟩ := Option.bind_eq_some_iff.mp h
  have HFp := Aside0.mk h1
  clear h1
  obtain ⟨⟨lq, eq⟩, h1, h⟩ := Option.bind_eq_some_iff.mp h
  have HFq := Aside0.mk h1
  clear h1
  obtain ⟨⟨ls, es⟩, h1, h⟩ := Option.bind_eq_some_iff.mp h
  have HFs := Aside0.mk h1
  clear h1
  obtain ⟨⟨lt, et⟩, h1, h⟩ := Option.bind_eq_some_iff.mp h
  have HFt := Aside0.mk h1
  clear h1
  obtain ⟨⟨lx, ex⟩, h1, h⟩ := Option.bind_eq_some_iff.mp h
  have HFx := Aside0.mk h1
  clear h1
  obtain ⟨⟨ly, ey⟩, h1, h⟩ := Option.bind_eq_some_iff.mp h
  have HFy := Aside0.mk h1
  clear h1
  obtain ⟨ts1, h1, h⟩ := Option.bind_eq_some_iff.mp h
  have HFs1 := Aside0.mk h1
  clear h1
  obtain ⟨ts2, h1, h⟩ := Option.bind_eq_some_iff.mp h
  have HFs2 := Aside0.mk h1
  clear h1
  obtain ⟨ts3, h1, h⟩ := Option.bind_eq_some_iff.mp h
  have HFs3 := Aside0.mk h1
  clear h1
  obtain ⟨ts4, h1, h⟩ := Option.bind_eq_some_iff.mp h
  have HFs4 := Aside0.mk h1
  clear h1
  obtain ⟨tk1, h1, h⟩ := Option.bind_eq_some_iff.mp h
  have HFk1 := Aside0.mk h1
  clear h1
  obtain ⟨tk2, h1, h⟩ := Option.bind_eq_some_iff.mp h
  have HFk2 := Aside0.mk h1
  clear h1
  obtain ⟨tm1, h1, h⟩ := Option.bind_eq_some_iff.mp h
  have HFm1 := Aside0.mk h1
  clear h1
  obtain ⟨tm2, h1, h⟩ := Option.bind_eq_some_iff.mp h
  have HFm2 := Aside0.mk h1
  clear h1
  obtain ⟨tz, h1, h⟩ := Option.bind_eq_some_iff.mp h
  have HFz := Aside0.mk h1
  clear h1
  by_cases hc : l0.length < 4398046511104 ∧ ts1 = true ∧ ts2 = true ∧ ts3 = true ∧ ts4 = true ∧ ea = eb ∧ ec = ed ∧ ep = eq ∧ es = et ∧ lx = ly ∧ ex = ey ∧ tk1 = tk2 ∧ tm1 = tm2
  case neg => rw [if_neg hc] at h; cases h
  rw [if_pos hc] at h
  injection h with h
  subst h
  obtain ⟨hlen, rfl, rfl, rfl, rfl, g1, g2, g3, g4, g5, g6, g7, g8⟩ := hc
  have HLEN := Aside0.mk hlen
  clear hlen
  have gb1 : (ea == eb) = true := beq_iff_eq.mpr g1
  have gb2 : (ec == ed) = true := beq_iff_eq.mpr g2
  have gb3 : (ep == eq) = true := beq_iff_eq.mpr g3
  have gb4 : (es == et) = true := beq_iff_eq.mpr g4
  have gb5 : (lx == ly) = true := beq_iff_eq.mpr g5
  have gb6 : (ex == ey) = true := beq_iff_eq.mpr g6
  have gb7 : (tk1 == tk2) = true := beq_iff_eq.mpr g7
  have gb8 : (tm1 == tm2) = true := beq_iff_eq.mpr g8
  clear g1 g2 g3 g4 g5 g6 g7 g8
  go_enter Try.func8, Try.ntmps8
  go_wp2_with (first | (go_at_call 9; refine (damsonlaw12_live.calls k _ _ HL.out).mono ?_; rintro e w1 ⟨rfl, hb⟩; have HB1 := Aside0.mk hb; clear hb HL) | (go_at_call 10; refine (damsonlaw12_few.calls A0 c0 l0 _ _ (Kd.C_below HR0.out HB1.out) HC0.out HF0.out).mono ?_; rintro e w2 ⟨rfl, hd⟩; have HB2 := Aside0.mk (below_then HB1.out HB1.out.size hd.below); clear hd HF0) | (go_at_call 10; refine (damsonlaw12_few.calls A1 c1 l1 _ _ (Kd.C_below HR1.out HB2.out) HC1.out HF1.out).mono ?_; rintro e w3 ⟨rfl, hd⟩; have HB3 := Aside0.mk (below_then HB2.out HB2.out.size hd.below); clear hd HF1) | ((with_reducible refine gate_builtin (b := .append) (xs := #[.const (.slice none 0 0), .tmp 48]) rfl ?_); at_builtin; refine Kd.R_append_rows k34 (w0 := w3) w3.heap.size rfl (.const (.slice none 0 0)) (.tmp 48) 22 34 (.agg #[(.int .u64 0), (.int .u64 0), (.int .u64 0), (.int .i64 0)]) 32 rfl Try.underlying22 info34 rfl (by decide) (by omega) (.slice none 0 0) [] l0 _ _ _ (fun _ => True) (fun _ => False) rfl rfl (Kd.R_nil _ _ _ _ _) (Kd.C_below HR0.out HB3.out) (fun _ _ h => h) (fun _ h => h.elim) (fun _ _ => trivial) (Below.refl _ _) (Nat.le_refl _) (by have := HLEN.out; simp only [List.length_nil]; omega) ?_; intro vw w4 ho hb hg hat; clear hg hat; rw [List.nil_append] at ho; obtain ⟨Aw, cw, ew⟩ := Kd.R_slice ho; subst ew; have HOw := Aside0.mk (Kd.R_reads' ho); have HB4 := Aside0.mk (below_then HB3.out HB3.out.size hb); clear ho hb) | (go_at_call 11; refine (invoice_Create.calls k A0 c0 l0 a2 a3 a4 la ea _ (Kd.C_below HR0.out HB4.out) HC0.out HFa.out).mono ?_; rintro e w5 ⟨v, rfl, ho, hb⟩; obtain ⟨Aa, ca, ev⟩ := Kd.R_slice ho; subst ev; have HOa5 := Aside0.mk (Kd.R_mono (Kd.R_bound ho) (ok' := fun k => w4.heap.size ≤ k ∧ k < w5.heap.size) (fun k hk => ⟨hk.2.1, hk.2.2.1⟩)); have HZ5 := Aside0.mk hb.size; have HB5 := Aside0.mk (below_then HB4.out HB4.out.size hb); have HW5 := Aside0.mk (hb); clear ho hb HFa) | (go_at_call 18; refine (damsonref12_Create.calls k A0 c0 l0 a2 a3 a4 lb eb _ (Kd.C_below HR0.out HB5.out) HC0.out HFb.out).mono ?_; rintro e w6 ⟨v, rfl, ho, hb⟩; obtain ⟨Ab, cb, ev⟩ := Kd.R_slice ho; subst ev; have HOa6 := Aside0.mk (Kd.R_below HOa5.out hb); clear HOa5; have HOb6 := Aside0.mk (Kd.R_mono (Kd.R_bound ho) (ok' := fun k => w5.heap.size ≤ k ∧ k < w6.heap.size) (fun k hk => ⟨hk.2.1, hk.2.2.1⟩)); have HZ6 := Aside0.mk hb.size; have HB6 := Aside0.mk (below_then HB5.out HB5.out.size hb); have HW6 := Aside0.mk (below_then HW5.out HW5.out.size hb); clear ho hb HFb) | (go_at_call 15; refine (invoice_Cancel.calls k A0 c0 l0 a2 a5 lc ec _ (Kd.C_below HR0.out HB6.out) HC0.out HFc.out).mono ?_; rintro e w7 ⟨v, rfl, ho, hb⟩; obtain ⟨Ac, cc, ev⟩ := Kd.R_slice ho; subst ev; have HOa7 := Aside0.mk (Kd.R_below HOa6.out hb); clear HOa6; have HOb7 := Aside0.mk (Kd.R_below HOb6.out hb); clear HOb6; have HOc7 := Aside0.mk (Kd.R_mono (Kd.R_bound ho) (ok' := fun k => w6.heap.size ≤ k ∧ k < w7.heap.size) (fun k hk => ⟨hk.2.1, hk.2.2.1⟩)); have HZ7 := Aside0.mk hb.size; have HB7 := Aside0.mk (below_then HB6.out HB6.out.size hb); have HW7 := Aside0.mk (below_then HW6.out HW6.out.size hb); clear ho hb HFc) | (go_at_call 19; refine (damsonref12_Cancel.calls k A0 c0 l0 a2 a5 ld ed _ (Kd.C_below HR0.out HB7.out) HC0.out HFd.out).mono ?_; rintro e w8 ⟨v, rfl, ho, hb⟩; obtain ⟨Ad, cd, ev⟩ := Kd.R_slice ho; subst ev; have HOa8 := Aside0.mk (Kd.R_below HOa7.out hb); clear HOa7; have HOb8 := Aside0.mk (Kd.R_below HOb7.out hb); clear HOb7; have HOc8 := Aside0.mk (Kd.R_below HOc7.out hb); clear HOc7; have HOd8 := Aside0.mk (Kd.R_mono (Kd.R_bound ho) (ok' := fun k => w7.heap.size ≤ k ∧ k < w8.heap.size) (fun k hk => ⟨hk.2.1, hk.2.2.1⟩)); have HZ8 := Aside0.mk hb.size; have HB8 := Aside0.mk (below_then HB7.out HB7.out.size hb); have HW8 := Aside0.mk (below_then HW7.out HW7.out.size hb); clear ho hb HFd) | (go_at_call 14; refine (invoice_Pay.calls k A0 c0 l0 a2 a3 a5 lp ep _ (Kd.C_below HR0.out HB8.out) HC0.out HFp.out).mono ?_; rintro e w9 ⟨v, rfl, ho, hb⟩; obtain ⟨Ap, cp, ev⟩ := Kd.R_slice ho; subst ev; have HOa9 := Aside0.mk (Kd.R_below HOa8.out hb); clear HOa8; have HOb9 := Aside0.mk (Kd.R_below HOb8.out hb); clear HOb8; have HOc9 := Aside0.mk (Kd.R_below HOc8.out hb); clear HOc8; have HOd9 := Aside0.mk (Kd.R_below HOd8.out hb); clear HOd8; have HOp9 := Aside0.mk (Kd.R_mono (Kd.R_bound ho) (ok' := fun k => w8.heap.size ≤ k ∧ k < w9.heap.size) (fun k hk => ⟨hk.2.1, hk.2.2.1⟩)); have HZ9 := Aside0.mk hb.size; have HB9 := Aside0.mk (below_then HB8.out HB8.out.size hb); have HW9 := Aside0.mk (below_then HW8.out HW8.out.size hb); clear ho hb HFp) | (go_at_call 20; refine (damsonref12_Pay.calls k A0 c0 l0 a2 a3 a5 lq eq _ (Kd.C_below HR0.out HB9.out) HC0.out HFq.out).mono ?_; rintro e w10 ⟨v, rfl, ho, hb⟩; obtain ⟨Aq, cq, ev⟩ := Kd.R_slice ho; subst ev; have HOa10 := Aside0.mk (Kd.R_below HOa9.out hb); clear HOa9; have HOb10 := Aside0.mk (Kd.R_below HOb9.out hb); clear HOb9; have HOc10 := Aside0.mk (Kd.R_below HOc9.out hb); clear HOc9; have HOd10 := Aside0.mk (Kd.R_below HOd9.out hb); clear HOd9; have HOp10 := Aside0.mk (Kd.R_below HOp9.out hb); clear HOp9; have HOq10 := Aside0.mk (Kd.R_mono (Kd.R_bound ho) (ok' := fun k => w9.heap.size ≤ k ∧ k < w10.heap.size) (fun k hk => ⟨hk.2.1, hk.2.2.1⟩)); have HZ10 := Aside0.mk hb.size; have HB10 := Aside0.mk (below_then HB9.out HB9.out.size hb); have HW10 := Aside0.mk (below_then HW9.out HW9.out.size hb); clear ho hb HFq) | (go_at_call 16; refine (invoice_Sweep.calls k A0 c0 l0 a5 ls es _ (Kd.C_below HR0.out HB10.out) HC0.out HFs.out).mono ?_; rintro e w11 ⟨v, rfl, ho, hb⟩; obtain ⟨As, cs, ev⟩ := Kd.R_slice ho; subst ev; have HOa11 := Aside0.mk (Kd.R_below HOa10.out hb); clear HOa10; have HOb11 := Aside0.mk (Kd.R_below HOb10.out hb); clear HOb10; have HOc11 := Aside0.mk (Kd.R_below HOc10.out hb); clear HOc10; have HOd11 := Aside0.mk (Kd.R_below HOd10.out hb); clear HOd10; have HOp11 := Aside0.mk (Kd.R_below HOp10.out hb); clear HOp10; have HOq11 := Aside0.mk (Kd.R_below HOq10.out hb); clear HOq10; have HOs11 := Aside0.mk (Kd.R_mono (Kd.R_bound ho) (ok' := fun k => w10.heap.size ≤ k ∧ k < w11.heap.size) (fun k hk => ⟨hk.2.1, hk.2.2.1⟩)); have HZ11 := Aside0.mk hb.size; have HB11 := Aside0.mk (below_then HB10.out HB10.out.size hb); have HW11 := Aside0.mk (below_then HW10.out HW10.out.size hb); clear ho hb HFs) | (go_at_call 21; refine (damsonref12_Sweep.calls k A0 c0 l0 a5 lt et _ (Kd.C_below HR0.out HB11.out) HC0.out HFt.out).mono ?_; rintro e w12 ⟨v, rfl, ho, hb⟩; obtain ⟨At, ct, ev⟩ := Kd.R_slice ho; subst ev; have HOa12 := Aside0.mk (Kd.R_below HOa11.out hb); clear HOa11; have HOb12 := Aside0.mk (Kd.R_below HOb11.out hb); clear HOb11; have HOc12 := Aside0.mk (Kd.R_below HOc11.out hb); clear HOc11; have HOd12 := Aside0.mk (Kd.R_below HOd11.out hb); clear HOd11; have HOp12 := Aside0.mk (Kd.R_below HOp11.out hb); clear HOp11; have HOq12 := Aside0.mk (Kd.R_below HOq11.out hb); clear HOq11; have HOs12 := Aside0.mk (Kd.R_below HOs11.out hb); clear HOs11; have HOt12 := Aside0.mk (Kd.R_mono (Kd.R_bound ho) (ok' := fun k => w11.heap.size ≤ k ∧ k < w12.heap.size) (fun k hk => ⟨hk.2.1, hk.2.2.1⟩)); have HZ12 := Aside0.mk hb.size; have HB12 := Aside0.mk (below_then HB11.out HB11.out.size hb); have HW12 := Aside0.mk (below_then HW11.out HW11.out.size hb); clear ho hb HFt) | (go_at_call 12; refine (invoice_State.calls k A0 c0 l0 a2 a5 lx ex _ (Kd.C_below HR0.out HB12.out) HC0.out HFx.out).mono ?_; rintro e w13 ⟨rfl, hb⟩; have HN := Aside0.mk (hb); clear hb; have HOa13 := Aside0.mk (Kd.R_below HOa12.out HN.out); clear HOa12; have HOb13 := Aside0.mk (Kd.R_below HOb12.out HN.out); clear HOb12; have HOc13 := Aside0.mk (Kd.R_below HOc12.out HN.out); clear HOc12; have HOd13 := Aside0.mk (Kd.R_below HOd12.out HN.out); clear HOd12; have HOp13 := Aside0.mk (Kd.R_below HOp12.out HN.out); clear HOp12; have HOq13 := Aside0.mk (Kd.R_below HOq12.out HN.out); clear HOq12; have HOs13 := Aside0.mk (Kd.R_below HOs12.out HN.out); clear HOs12; have HOt13 := Aside0.mk (Kd.R_below HOt12.out HN.out); clear HOt12; have HB13 := Aside0.mk (below_then HB12.out HB12.out.size HN.out); have HW13 := Aside0.mk (below_then HW12.out HW12.out.size HN.out); clear HN HFx) | (go_at_call 22; refine (damsonref12_State.calls k A0 c0 l0 a2 a5 ly ey _ (Kd.C_below HR0.out HB13.out) HC0.out HFy.out).mono ?_; rintro e w14 ⟨rfl, hb⟩; have HN := Aside0.mk (hb); clear hb; have HOa14 := Aside0.mk (Kd.R_below HOa13.out HN.out); clear HOa13; have HOb14 := Aside0.mk (Kd.R_below HOb13.out HN.out); clear HOb13; have HOc14 := Aside0.mk (Kd.R_below HOc13.out HN.out); clear HOc13; have HOd14 := Aside0.mk (Kd.R_below HOd13.out HN.out); clear HOd13; have HOp14 := Aside0.mk (Kd.R_below HOp13.out HN.out); clear HOp13; have HOq14 := Aside0.mk (Kd.R_below HOq13.out HN.out); clear HOq13; have HOs14 := Aside0.mk (Kd.R_below HOs13.out HN.out); clear HOs13; have HOt14 := Aside0.mk (Kd.R_below HOt13.out HN.out); clear HOt13; have HB14 := Aside0.mk (below_then HB13.out HB13.out.size HN.out); have HW14 := Aside0.mk (below_then HW13.out HW13.out.size HN.out); clear HN HFy) | (go_at_call 23; refine (damsonref12_Same.calls k Aa ca la Ab cb lb true _ (Kd.R_reads' HOa14.out).2.2 (Kd.R_reads' HOa14.out).2.1 (Kd.R_reads' HOb14.out).2.2 (Kd.R_reads' HOb14.out).2.1 HFs1.out).mono ?_; rintro e w15 ⟨rfl, hd⟩; have HN := Aside0.mk (hd.below); clear hd; have HOa15 := Aside0.mk (Kd.R_below HOa14.out HN.out); clear HOa14; have HOb15 := Aside0.mk (Kd.R_below HOb14.out HN.out); clear HOb14; have HOc15 := Aside0.mk (Kd.R_below HOc14.out HN.out); clear HOc14; have HOd15 := Aside0.mk (Kd.R_below HOd14.out HN.out); clear HOd14; have HOp15 := Aside0.mk (Kd.R_below HOp14.out HN.out); clear HOp14; have HOq15 := Aside0.mk (Kd.R_below HOq14.out HN.out); clear HOq14; have HOs15 := Aside0.mk (Kd.R_below HOs14.out HN.out); clear HOs14; have HOt15 := Aside0.mk (Kd.R_below HOt14.out HN.out); clear HOt14; have HB15 := Aside0.mk (below_then HB14.out HB14.out.size HN.out); have HW15 := Aside0.mk (below_then HW14.out HW14.out.size HN.out); clear HN HFs1) | (go_at_call 23; refine (damsonref12_Same.calls k Ac cc lc Ad cd ld true _ (Kd.R_reads' HOc15.out).2.2 (Kd.R_reads' HOc15.out).2.1 (Kd.R_reads' HOd15.out).2.2 (Kd.R_reads' HOd15.out).2.1 HFs2.out).mono ?_; rintro e w16 ⟨rfl, hd⟩; have HN := Aside0.mk (hd.below); clear hd; have HOa16 := Aside0.mk (Kd.R_below HOa15.out HN.out); clear HOa15; have HOb16 := Aside0.mk (Kd.R_below HOb15.out HN.out); clear HOb15; have HOc16 := Aside0.mk (Kd.R_below HOc15.out HN.out); clear HOc15; have HOd16 := Aside0.mk (Kd.R_below HOd15.out HN.out); clear HOd15; have HOp16 := Aside0.mk (Kd.R_below HOp15.out HN.out); clear HOp15; have HOq16 := Aside0.mk (Kd.R_below HOq15.out HN.out); clear HOq15; have HOs16 := Aside0.mk (Kd.R_below HOs15.out HN.out); clear HOs15; have HOt16 := Aside0.mk (Kd.R_below HOt15.out HN.out); clear HOt15; have HB16 := Aside0.mk (below_then HB15.out HB15.out.size HN.out); have HW16 := Aside0.mk (below_then HW15.out HW15.out.size HN.out); clear HN HFs2) | (go_at_call 23; refine (damsonref12_Same.calls k Ap cp lp Aq cq lq true _ (Kd.R_reads' HOp16.out).2.2 (Kd.R_reads' HOp16.out).2.1 (Kd.R_reads' HOq16.out).2.2 (Kd.R_reads' HOq16.out).2.1 HFs3.out).mono ?_; rintro e w17 ⟨rfl, hd⟩; have HN := Aside0.mk (hd.below); clear hd; have HOa17 := Aside0.mk (Kd.R_below HOa16.out HN.out); clear HOa16; have HOb17 := Aside0.mk (Kd.R_below HOb16.out HN.out); clear HOb16; have HOc17 := Aside0.mk (Kd.R_below HOc16.out HN.out); clear HOc16; have HOd17 := Aside0.mk (Kd.R_below HOd16.out HN.out); clear HOd16; have HOp17 := Aside0.mk (Kd.R_below HOp16.out HN.out); clear HOp16; have HOq17 := Aside0.mk (Kd.R_below HOq16.out HN.out); clear HOq16; have HOs17 := Aside0.mk (Kd.R_below HOs16.out HN.out); clear HOs16; have HOt17 := Aside0.mk (Kd.R_below HOt16.out HN.out); clear HOt16; have HB17 := Aside0.mk (below_then HB16.out HB16.out.size HN.out); have HW17 := Aside0.mk (below_then HW16.out HW16.out.size HN.out); clear HN HFs3) | (go_at_call 23; refine (damsonref12_Same.calls k As cs ls At ct lt true _ (Kd.R_reads' HOs17.out).2.2 (Kd.R_reads' HOs17.out).2.1 (Kd.R_reads' HOt17.out).2.2 (Kd.R_reads' HOt17.out).2.1 HFs4.out).mono ?_; rintro e w18 ⟨rfl, hd⟩; have HN := Aside0.mk (hd.below); clear hd; have HOa18 := Aside0.mk (Kd.R_below HOa17.out HN.out); clear HOa17; have HOb18 := Aside0.mk (Kd.R_below HOb17.out HN.out); clear HOb17; have HOc18 := Aside0.mk (Kd.R_below HOc17.out HN.out); clear HOc17; have HOd18 := Aside0.mk (Kd.R_below HOd17.out HN.out); clear HOd17; have HOp18 := Aside0.mk (Kd.R_below HOp17.out HN.out); clear HOp17; have HOq18 := Aside0.mk (Kd.R_below HOq17.out HN.out); clear HOq17; have HOs18 := Aside0.mk (Kd.R_below HOs17.out HN.out); clear HOs17; have HOt18 := Aside0.mk (Kd.R_below HOt17.out HN.out); clear HOt17; have HB18 := Aside0.mk (below_then HB17.out HB17.out.size HN.out); have HW18 := Aside0.mk (below_then HW17.out HW17.out.size HN.out); clear HN HFs4) | (go_at_call 17; refine (invoice_Check.calls k A0 c0 l0 tk1 _ (Kd.C_below HR0.out HB18.out) HC0.out HFk1.out).mono ?_; rintro e w19 ⟨rfl, hb⟩; have HN := Aside0.mk (hb); clear hb; have HOa19 := Aside0.mk (Kd.R_below HOa18.out HN.out); clear HOa18; have HOb19 := Aside0.mk (Kd.R_below HOb18.out HN.out); clear HOb18; have HOc19 := Aside0.mk (Kd.R_below HOc18.out HN.out); clear HOc18; have HOd19 := Aside0.mk (Kd.R_below HOd18.out HN.out); clear HOd18; have HOp19 := Aside0.mk (Kd.R_below HOp18.out HN.out); clear HOp18; have HOq19 := Aside0.mk (Kd.R_below HOq18.out HN.out); clear HOq18; have HOs19 := Aside0.mk (Kd.R_below HOs18.out HN.out); clear HOs18; have HOt19 := Aside0.mk (Kd.R_below HOt18.out HN.out); clear HOt18; have HB19 := Aside0.mk (below_then HB18.out HB18.out.size HN.out); have HW19 := Aside0.mk (below_then HW18.out HW18.out.size HN.out); clear HN HFk1) | (go_at_call 24; refine (damsonref12_Check.calls k A0 c0 l0 tk2 _ (Kd.C_below HR0.out HB19.out) HC0.out HFk2.out).mono ?_; rintro e w20 ⟨rfl, hb⟩; have HN := Aside0.mk (hb); clear hb; have HOa20 := Aside0.mk (Kd.R_below HOa19.out HN.out); clear HOa19; have HOb20 := Aside0.mk (Kd.R_below HOb19.out HN.out); clear HOb19; have HOc20 := Aside0.mk (Kd.R_below HOc19.out HN.out); clear HOc19; have HOd20 := Aside0.mk (Kd.R_below HOd19.out HN.out); clear HOd19; have HOp20 := Aside0.mk (Kd.R_below HOp19.out HN.out); clear HOp19; have HOq20 := Aside0.mk (Kd.R_below HOq19.out HN.out); clear HOq19; have HOs20 := Aside0.mk (Kd.R_below HOs19.out HN.out); clear HOs19; have HOt20 := Aside0.mk (Kd.R_below HOt19.out HN.out); clear HOt19; have HB20 := Aside0.mk (below_then HB19.out HB19.out.size HN.out); have HW20 := Aside0.mk (below_then HW19.out HW19.out.size HN.out); clear HN HFk2) | (go_at_call 13; refine (invoice_Same.calls k A0 c0 l0 A1 c1 l1 tm1 _ (Kd.C_below HR0.out HB20.out) HC0.out (Kd.C_below HR1.out HB20.out) HC1.out HFm1.out).mono ?_; rintro e w21 ⟨rfl, hb⟩; have HN := Aside0.mk (hb); clear hb; have HOa21 := Aside0.mk (Kd.R_below HOa20.out HN.out); clear HOa20; have HOb21 := Aside0.mk (Kd.R_below HOb20.out HN.out); clear HOb20; have HOc21 := Aside0.mk (Kd.R_below HOc20.out HN.out); clear HOc20; have HOd21 := Aside0.mk (Kd.R_below HOd20.out HN.out); clear HOd20; have HOp21 := Aside0.mk (Kd.R_below HOp20.out HN.out); clear HOp20; have HOq21 := Aside0.mk (Kd.R_below HOq20.out HN.out); clear HOq20; have HOs21 := Aside0.mk (Kd.R_below HOs20.out HN.out); clear HOs20; have HOt21 := Aside0.mk (Kd.R_below HOt20.out HN.out); clear HOt20; have HB21 := Aside0.mk (below_then HB20.out HB20.out.size HN.out); have HW21 := Aside0.mk (below_then HW20.out HW20.out.size HN.out); clear HN HFm1) | (go_at_call 23; refine (damsonref12_Same.calls k A0 c0 l0 A1 c1 l1 tm2 _ (Kd.C_below HR0.out HB21.out) HC0.out (Kd.C_below HR1.out HB21.out) HC1.out HFm2.out).mono ?_; rintro e w22 ⟨rfl, hd⟩; have HN := Aside0.mk (hd.below); clear hd; have HOa22 := Aside0.mk (Kd.R_below HOa21.out HN.out); clear HOa21; have HOb22 := Aside0.mk (Kd.R_below HOb21.out HN.out); clear HOb21; have HOc22 := Aside0.mk (Kd.R_below HOc21.out HN.out); clear HOc21; have HOd22 := Aside0.mk (Kd.R_below HOd21.out HN.out); clear HOd21; have HOp22 := Aside0.mk (Kd.R_below HOp21.out HN.out); clear HOp21; have HOq22 := Aside0.mk (Kd.R_below HOq21.out HN.out); clear HOq21; have HOs22 := Aside0.mk (Kd.R_below HOs21.out HN.out); clear HOs21; have HOt22 := Aside0.mk (Kd.R_below HOt21.out HN.out); clear HOt21; have HB22 := Aside0.mk (below_then HB21.out HB21.out.size HN.out); have HW22 := Aside0.mk (below_then HW21.out HW21.out.size HN.out); clear HN HFm2))
  have HD : Aside0 (∀ i j, i < 4 → j < 4 → i ≠ j → ∀ k : Nat, (sel4 w4.heap.size w6.heap.size w8.heap.size w10.heap.size) i ≤ k ∧ k < (sel4 w5.heap.size w7.heap.size w9.heap.size w11.heap.size) i → (sel4 w4.heap.size w6.heap.size w8.heap.size w10.heap.size) j ≤ k ∧ k < (sel4 w5.heap.size w7.heap.size w9.heap.size w11.heap.size) j → False) := ⟨by
    have z5 := HZ5.out
    have z6 := HZ6.out
    have z7 := HZ7.out
    have z8 := HZ8.out
    have z9 := HZ9.out
    have z10 := HZ10.out
    have z11 := HZ11.out
    intro i j hi hj hne k h1 h2
    have e1 : i = 0 ∨ i = 1 ∨ i = 2 ∨ i = 3 := by omega
    have e2 : j = 0 ∨ j = 1 ∨ j = 2 ∨ j = 3 := by omega
    rcases e1 with rfl | rfl | rfl | rfl <;> rcases e2 with rfl | rfl | rfl | rfl <;> simp only [sel4] at h1 h2 <;> omega⟩
  go_loopw [192] (fun v192 wr => ∃ j : Nat, j ≤ 4 ∧ v192 = .int .i64 j ∧ Aside0 (Four w4 w22.heap.size (sel4 (.slice Aa la.length ca) (.slice Ac lc.length cc) (.slice Ap lp.length cp) (.slice As ls.length cs)) (sel4 w4.heap.size w6.heap.size w8.heap.size w10.heap.size) (sel4 w5.heap.size w7.heap.size w9.heap.size w11.heap.size) wr)) (fun v192 _ => 4 - (intOf v192).toNat)
  case atStart =>
    refine ⟨0, by omega, rfl, ⟨⟨HW22.out.alloc HW22.out.size _, blk_new _ _, fun i hi => ?_⟩⟩⟩
    have z5 := HZ5.out
    have z6 := HZ6.out
    have z7 := HZ7.out
    have z8 := HZ8.out
    have z9 := HZ9.out
    have z10 := HZ10.out
    match i, hi with
    | 0, _ => exact ⟨la, Kd.R_alloc HOa22.out _⟩
    | 1, _ => exact ⟨lc, Kd.R_alloc (Kd.R_lower HOc22.out (by omega)) _⟩
    | 2, _ => exact ⟨lp, Kd.R_alloc (Kd.R_lower HOp22.out (by omega)) _⟩
    | 3, _ => exact ⟨ls, Kd.R_alloc (Kd.R_lower HOs22.out (by omega)) _⟩
  case round =>
    obtain ⟨j, hj, rfl, HI⟩ := hrel
    by_cases hlt : j < 4
    · obtain ⟨xs, hx⟩ := HI.out.rows j hlt
      obtain ⟨A, c, hsel⟩ := Kd.R_slice hx
      have hcell : wr.cell? ⟨w22.heap.size, j, none⟩ = some (.slice A xs.length c) := by
        rw [blk_cell HI.out.blk, ← hsel]
        match j, hlt with
        | 0, _ => rfl
        | 1, _ => rfl
        | 2, _ => rfl
        | 3, _ => rfl
      have HSEL := Aside0.mk hsel
      rw [hsel] at hx
      have hxm : xs.length ≤ 9223372036854775807 := (Kd.R_reads' hx).2.2.2.1
      clear hx hsel
      go_wp2
      go_loopw [198] (fun v198 w2 => ∃ i : Nat, i ≤ xs.length ∧ v198 = .int .i64 i ∧ Aside0 (Four w4 w22.heap.size (sel4 (.slice Aa la.length ca) (.slice Ac lc.length cc) (.slice Ap lp.length cp) (.slice As ls.length cs)) (sel4 w4.heap.size w6.heap.size w8.heap.size w10.heap.size) (sel4 w5.heap.size w7.heap.size w9.heap.size w11.heap.size) w2)) (fun v198 _ => xs.length - (intOf v198).toNat)
      case atStart => exact ⟨0, Nat.zero_le _, rfl, HI⟩
      case round =>
        obtain ⟨i, hi, rfl, HJ⟩ := hrel
        by_cases hil : i < xs.length
        · obtain ⟨ys, hy⟩ := HJ.out.rows j hlt
          rw [HSEL.out] at hy
          have HYL := Aside0.mk (Kd.R_reads' hy).1
          obtain ⟨g, cap, he, hbg, hgl, cells, hcells⟩ := Kd.R_form hy (by have := HYL.out; omega)
          have HNE := Aside0.mk (blk_ne HJ.out.blk hcells (by decide))
          injection he with he1 he2 he3
          subst he1
          clear he2 he3 hcells hbg hgl
          have HG := Aside0.mk (hy.1 g (by simp [Value.ownBlock]))
          obtain ⟨ad, had, h0, h1, h2, h3⟩ := at_T34 (Kd.R_reads' hy).2.2 (i : Int) (by omega) (by have := HYL.out; omega)
          injection had with had
          subst had
          rw [Int.toNat_natCast] at h0 h1 h2 h3
          rw [add_plain] at h0 h1 h2 h3
          have HY := Aside0.mk hy
          clear hy
          go_wp2_with ((with_reducible refine gate_ (.store 23 (.tmp 208) (.tmp 206)) rfl ?_); refine Kd.R_store (w0 := w4) k34 w4.heap.size rfl rfl 23 (.tmp 208) (.tmp 206) rfl 34 (i : Int) 1 ys ⟨(rd_T34 ys i).f0, IntKind.u64.wrap ((rd_T34 ys i).f1 + 1), (rd_T34 ys i).f2, (rd_T34 ys i).f3⟩ (.int .u64 (IntKind.u64.wrap ((rd_T34 ys i).f1 + 1))) [.int .u64 (IntKind.u64.wrap ((rd_T34 ys i).f1 + 1))] [.int .u64 (rd_T34 ys i).f0, .int .u64 (rd_T34 ys i).f1, .int .u64 (rd_T34 ys i).f2, .int .i64 (rd_T34 ys i).f3] _ (fun _ => False) rfl ?hoff rfl rfl (by kernel_rfl) ?hone HY.out (by omega) (by omega) rfl (cells34c HY.out i (by have := HYL.out; omega)) (show 1 + 1 ≤ 4 by decide) ?hM (fun _ h => h.elim) HJ.out.bel ?_; (case hoff => rw [Int.toNat_natCast]; rfl); (case hone => simp [Value.oneCell']); (case hM => exact k34_mkM _ _ _ (⟨(rd_T34 ys i).f0, IntKind.u64.wrap ((rd_T34 ys i).f1 + 1), (rd_T34 ys i).f2, (rd_T34 ys i).f3⟩ : S34)); intro w3_ hR3 hB3 hg3; have HN := Aside0.mk (Four.put HJ.out hlt HG.out HNE.out (fun i2 hh2 hne k2 q1 q2 => HD.out i2 j hh2 hlt hne k2 q1 q2) hB3 hg3 _ (by rw [HSEL.out]; exact hR3)); clear hR3 hB3 hg3)
          go_roundw
          case rel => exact ⟨i + 1, by omega, by go_num, HN⟩
          case measure => simp [intOf]; omega
        · obtain rfl : i = xs.length := by omega
          go_wp2
          go_roundw
          case rel => exact ⟨j + 1, by omega, by go_num, HJ⟩
          case measure => simp [intOf]; omega
    · obtain rfl : j = 4 := by omega
      have HBF := Aside0.mk (below_then HB4.out HB4.out.size HI.out.bel)
      go_wp2_with (go_at_call 23; refine (damsonref12_Same.calls k A0 c0 l0 Aw cw l0 tz _ (Kd.C_below HR0.out HBF.out) HC0.out (Kd.C_below HOw.out.2.2 HI.out.bel) HOw.out.2.1 HFz.out).mono ?_; rintro e wz ⟨rfl, hd⟩; have HBG := Aside0.mk (below_then HBF.out HBF.out.size hd.below); clear hd)
      go_ret
      exact ⟨rfl, HBG.out⟩


/-- THE ONE PURE STATEMENT of damsonlaw12_InvoiceDoes: yours. -/
def damsonlaw12_InvoiceDoes.Pure : Prop := ∀ (l0 : List (S34)) (l1 : List (S34)) (a2 : Int) (a3 : Int) (a4 : Int) (a5 : Int), (l0.length ≤ 9223372036854775807 ∧ ∀ y_ ∈ l0, G34 y_) → (l1.length ≤ 9223372036854775807 ∧ ∀ y_ ∈ l1, G34 y_) → (Lit.int .u64 a2).wf = true → (Lit.int .u64 a3).wf = true → (Lit.int .u64 a4).wf = true → (Lit.int .u64 a5).wf = true → ∃ k, damsonlaw12_InvoiceDoes.f k l0 l1 a2 a3 a4 a5 = some true
theorem damsonlaw12_InvoiceDoes.walk (P : damsonlaw12_InvoiceDoes.Pure) (w : World) (l0 : List (S34)) (A0 : Option Addr) (c0 : Nat) (hr0 : Kd.C k34 w A0 l0.length l0) (hc0 : l0.length ≤ c0) (g0 : l0.length ≤ 9223372036854775807 ∧ ∀ y_ ∈ l0, G34 y_) (l1 : List (S34)) (A1 : Option Addr) (c1 : Nat) (hr1 : Kd.C k34 w A1 l1.length l1) (hc1 : l1.length ≤ c1) (g1 : l1.length ≤ 9223372036854775807 ∧ ∀ y_ ∈ l1, G34 y_) (a2 : Int) (g2 : (Lit.int .u64 a2).wf = true) (a3 : Int) (g3 : (Lit.int .u64 a3).wf = true) (a4 : Int) (g4 : (Lit.int .u64 a4).wf = true) (a5 : Int) (g5 : (Lit.int .u64 a5).wf = true) :
    Calls Try.prog 8 #[.slice A0 l0.length c0, .slice A1 l1.length c1, .int .u64 a2, .int .u64 a3, .int .u64 a4, .int .u64 a5] w fun e w' => e = .returned (.bool true) ∧ Below w.heap.size w w' := by
  obtain ⟨k, h⟩ := P l0 l1 a2 a3 a4 a5 g0 g1 g2 g3 g4 g5
  refine (damsonlaw12_InvoiceDoes.calls k A0 c0 l0 A1 c1 l1 a2 a3 a4 a5 true w hr0 hc0 hr1 hc1 h).mono ?_
  rintro e w' ⟨rfl, hd⟩
  exact ⟨rfl, hd⟩
end Go.Proofs.Ytlpdgagohafmaaa.P
