-- written by a program of this session (wip/print)
import Derived.Test.YtlpdgagohafmaaaQIDoesx0
import Derived.Test.YtlpdgagohafmaaaQIDoesx2
import Derived.Test.YtlpdgagohafmaaaQIDoesx3
namespace Go.Proofs.Ytlpdgagohafmaaa.P
open Go.RowKit Go.Proofs.YtlpdgagohafmaaaW.PrintWords Go.Proofs.YtlpdgagohafmaaaW.PrintLast Go.Proofs.YtlpdgagohafmaaaW.PrintMore
attribute [local go_sem] max2_int min2_int max_two min_two max_three min_three max_four min_four   -- for this text's walks alone
set_option linter.unusedVariables false
set_option linter.unusedSimpArgs false

-- NOT PRINTED: function 41 (slices_BinarySearchFunc_uint64)

/-! ### slices_BinarySearchFunc_uint64_at_invoice_order: function 67 -/
def slices_BinarySearchFunc_uint64_at_invoice_order.l0 : Nat → List (S34) → Int → Int → Int → Int → Option (Int × Bool)
  | 0, _, _, _, _, _ => none
  | k + 1, x0, x1, x8, x9, x10 => if x9 < x10 then (if 0 ≤ (wrap64 ((IntKind.u64.wrap (wrap64 (x9 + x10))) / 2)) then (if (wrap64 ((IntKind.u64.wrap (wrap64 (x9 + x10))) / 2)) < (x0.length : Int) then ((invoice_order.f ((rd_T34 x0 (wrap64 ((IntKind.u64.wrap (wrap64 (x9 + x10))) / 2))).f0) ((rd_T34 x0 (wrap64 ((IntKind.u64.wrap (wrap64 (x9 + x10))) / 2))).f1) ((rd_T34 x0 (wrap64 ((IntKind.u64.wrap (wrap64 (x9 + x10))) / 2))).f2) ((rd_T34 x0 (wrap64 ((IntKind.u64.wrap (wrap64 (x9 + x10))) / 2))).f3) x1).bind fun t119 => (if t119 < 0 then (slices_BinarySearchFunc_uint64_at_invoice_order.l0 k x0 x1 x8 (wrap64 ((wrap64 ((IntKind.u64.wrap (wrap64 (x9 + x10))) / 2)) + 1)) x10) else (slices_BinarySearchFunc_uint64_at_invoice_order.l0 k x0 x1 x8 x9 (wrap64 ((IntKind.u64.wrap (wrap64 (x9 + x10))) / 2))))) else (none)) else (none)) else (if x9 < x8 then (if 0 ≤ x9 then (if x9 < (x0.length : Int) then ((invoice_order.f ((rd_T34 x0 x9).f0) ((rd_T34 x0 x9).f1) ((rd_T34 x0 x9).f2) ((rd_T34 x0 x9).f3) x1).bind fun t121 => (some (x9, (t121 == 0)))) else (none)) else (none)) else (some (x9, false)))
def slices_BinarySearchFunc_uint64_at_invoice_order.f (k : Nat) (l0 : List (S34)) (a1 : Int)  : Option (Int × Bool) := slices_BinarySearchFunc_uint64_at_invoice_order.l0 k l0 a1 (l0.length : Int) 0 (l0.length : Int)
theorem slices_BinarySearchFunc_uint64_at_invoice_order.mono_l : ∀ k, (∀ y0 y1 y2 y3 y4, LeO (slices_BinarySearchFunc_uint64_at_invoice_order.l0 k y0 y1 y2 y3 y4) (slices_BinarySearchFunc_uint64_at_invoice_order.l0 (k + 1) y0 y1 y2 y3 y4))
  | 0 => fun _ _ _ _ _ r h => by simp [slices_BinarySearchFunc_uint64_at_invoice_order.l0] at h
  | k + 1 => by
    have ih0 := slices_BinarySearchFunc_uint64_at_invoice_order.mono_l k
    · intro y0 y1 y2 y3 y4
      unfold slices_BinarySearchFunc_uint64_at_invoice_order.l0
      repeat' first
      | (with_reducible exact ih0 _ _ _ _ _)
      | (with_reducible exact LeO.refl _)
      | (with_reducible exact LeO.none _)
      | (with_reducible refine LeO.ite ?_ ?_)
      | (with_reducible refine LeO.bind ?_ (fun _ => ?_))
      | exact ih0 _ _ _ _ _
      | exact LeO.none _
      | refine LeO.ite ?_ ?_
      | refine LeO.bind ?_ (fun _ => ?_)
theorem slices_BinarySearchFunc_uint64_at_invoice_order.mono : ∀ a0 a1 k, LeO (slices_BinarySearchFunc_uint64_at_invoice_order.f k a0 a1) (slices_BinarySearchFunc_uint64_at_invoice_order.f (k + 1) a0 a1) := by
  intro a0 a1 k
  have ih0 := slices_BinarySearchFunc_uint64_at_invoice_order.mono_l k
  unfold slices_BinarySearchFunc_uint64_at_invoice_order.f
  repeat' first
      | (with_reducible exact ih0 _ _ _ _ _)
      | (with_reducible exact LeO.refl _)
      | (with_reducible exact LeO.none _)
      | (with_reducible refine LeO.ite ?_ ?_)
      | (with_reducible refine LeO.bind ?_ (fun _ => ?_))
      | exact ih0 _ _ _ _ _
      | exact LeO.none _
      | refine LeO.ite ?_ ?_
      | refine LeO.bind ?_ (fun _ => ?_)
set_option maxHeartbeats 8000000 in
set_option maxRecDepth 100000 in
theorem slices_BinarySearchFunc_uint64_at_invoice_order.calls (k : Nat) (A0 : Option Addr) (c0 : Nat) (l0 : List (S34)) (a1 : Int)  (r1 : Int) (r2 : Bool) (w : World) (hr0 : Kd.C k34 w A0 l0.length l0) (hc0 : l0.length ≤ c0) (h : slices_BinarySearchFunc_uint64_at_invoice_order.f k l0 a1 = some (r1, r2)) :
    Calls Try.prog 41 #[.slice A0 l0.length c0, .int .u64 a1, .func (.func 35) #[] #[]] w fun e w' => e = .returned (.tuple #[.int .i64 r1, .bool r2]) ∧ Below w.heap.size w w' := by
  have hu34 := Try.underlying34
  have HR0 := Aside0.mk hr0
  have HC0 := Aside0.mk hc0
  clear hr0 hc0
  have HB := Aside0.mk (Below.refl w.heap.size w)
  have H : (slices_BinarySearchFunc_uint64_at_invoice_order.l0 k l0 a1 (l0.length : Int) 0 (l0.length : Int)) = some (r1, r2) := h
  clear h
  have H' := Aside0.mk H
  clear H
  go_enter Try.func41, Try.ntmps41
  go_wp2
  go_loopg [9, 10] k (fun kq v9 v10 w' => ∃ (x9_1 : Int) (x10_1 : Int), v9 = .int .i64 x9_1 ∧ v10 = .int .i64 x10_1 ∧ Aside0 (slices_BinarySearchFunc_uint64_at_invoice_order.l0 kq l0 a1 (l0.length : Int) x9_1 x10_1 = some (r1, r2)) ∧ Aside0 (kq ≤ k) ∧ Aside0 (Below w.heap.size w w'))
  case atStart => exact ⟨(0), ((l0.length : Int)), (by first | rfl | (simp; done) | (simp [*]; done)), (by first | rfl | (simp; done) | (simp [*]; done)), H', ⟨Nat.le_refl _⟩, ⟨by repeat (first | (with_reducible first | exact HB.out | apply below_alloc | apply pw_below_drewN | apply below_drew1) | exact HB.out)⟩⟩
  case round =>
    clear H'
    try clear p2
    obtain ⟨x9_1, x10_1, rfl, rfl, HA, HK1, HB⟩ := hrel
    cases gk with
    | zero => exact absurd HA.out (by simp [slices_BinarySearchFunc_uint64_at_invoice_order.l0])
    | succ k1 =>
      have H := HA.out
      clear HA
      simp only [slices_BinarySearchFunc_uint64_at_invoice_order.l0] at H
      by_cases c4 : x9_1 < x10_1
      · rw [if_pos c4] at H
        have c4b0 : decide (x9_1 < x10_1) = true := decide_eq_true c4
        clear c4
        obtain ⟨ji5, hji5⟩ : ∃ j_ : Int, (wrap64 ((IntKind.u64.wrap (wrap64 (x9_1 + x10_1))) / 2)) = j_ := ⟨_, rfl⟩
        replace H : (if 0 ≤ (ji5) then (if (ji5) < (l0.length : Int) then ((invoice_order.f ((rd_T34 l0 (ji5)).f0) ((rd_T34 l0 (ji5)).f1) ((rd_T34 l0 (ji5)).f2) ((rd_T34 l0 (ji5)).f3) a1).bind fun t119 => (if t119 < 0 then (slices_BinarySearchFunc_uint64_at_invoice_order.l0 k1 l0 a1 (l0.length : Int) (wrap64 ((ji5) + 1)) x10_1) else (slices_BinarySearchFunc_uint64_at_invoice_order.l0 k1 l0 a1 (l0.length : Int) x9_1 ji5))) else (none)) else (none)) = some (r1, r2) := by first | (rw [hji5] at H; exact H) | (simp only [hji5] at H ⊢; exact H)
        have hji5w : (IntKind.i64.wrap ((IntKind.u64.wrap (wrap64 (x9_1 + x10_1))) / 2)) = ji5 := (i64_w _).trans hji5
        by_cases c6 : 0 ≤ (ji5)
        · rw [if_pos c6] at H
          have c6b0 : decide (0 ≤ (ji5)) = true := decide_eq_true c6
          clear c6
          by_cases c7 : (ji5) < (l0.length : Int)
          · rw [if_pos c7] at H
            have c7b0 : decide ((ji5) < (l0.length : Int)) = true := decide_eq_true c7
            clear c7
            replace H := Option.bind_eq_some_iff.mp H
            obtain ⟨t119, A80, H⟩ := H
            replace H : (if t119 < 0 then (slices_BinarySearchFunc_uint64_at_invoice_order.l0 k1 l0 a1 (l0.length : Int) (wrap64 ((ji5) + 1)) x10_1) else (slices_BinarySearchFunc_uint64_at_invoice_order.l0 k1 l0 a1 (l0.length : Int) x9_1 ji5)) = some (r1, r2) := H
            have A8 := Aside0.mk A80
            clear A80
            by_cases c9 : t119 < 0
            · rw [if_pos c9] at H
              have c9b0 : decide (t119 < 0) = true := decide_eq_true c9
              clear c9
              have H' := Aside0.mk H
              clear H
              have p118 : 0 ≤ ((ji5) : Int) := of_decide_eq_true (by first | (with_reducible assumption) | assumption)
              have q118 : (ji5) < (l0.length : Int) := of_decide_eq_true (by first | (with_reducible assumption) | assumption)
              obtain ⟨ad118, e118, hx118_0, hx118_1, hx118_2, hx118_3⟩ := at_T34 HR0.out (ji5) p118 q118
              cases e118
              replace hx118_0 := (HB.out.cell (World.block_lt_of_cell? w _ hx118_0)).trans hx118_0
              replace hx118_1 := (HB.out.cell (World.block_lt_of_cell? w _ hx118_1)).trans hx118_1
              replace hx118_2 := (HB.out.cell (World.block_lt_of_cell? w _ hx118_2)).trans hx118_2
              replace hx118_3 := (HB.out.cell (World.block_lt_of_cell? w _ hx118_3)).trans hx118_3
              replace p118 := eq_true p118
              replace q118 := eq_true q118
              go_wp2_with (first | ((with_reducible refine gate_tmp (t_ := 24) rfl ?_); refine goesT_ (some 30) rfl rfl Try.func35 (by kernel_rfl) rfl #[.agg #[.int .u64 ((rd_T34 l0 (ji5)).f0), .int .u64 ((rd_T34 l0 (ji5)).f1), .int .u64 ((rd_T34 l0 (ji5)).f2), .int .i64 ((rd_T34 l0 (ji5)).f3)], .int .u64 a1] rfl rfl (by (try simp only [List.map_toArray, List.map_cons, List.map_nil]); first | done | (simp only [hji5]; rfl) | rfl | (simp only [List.length_drop, List.length_take]; rfl)) ?_; (with_reducible refine (invoice_order.calls ((rd_T34 l0 (ji5)).f0) ((rd_T34 l0 (ji5)).f1) ((rd_T34 l0 (ji5)).f2) ((rd_T34 l0 (ji5)).f3) a1 t119 _ A8.out).mono ?_); rintro e w10 ⟨rfl, hb⟩; refine ⟨_, rfl, ?_⟩; have n0_ := Aside0.mk (below_step (belN HB) hb); clear HB; have HB := n0_; clear n0_; (try clear hb); (try clear hb2); (try clear hk); (try clear hi)))
              go_roundg k1
              case measure => have := HK1.out; omega
              case rel => exact ⟨(wrap64 ((ji5) + 1)), (x10_1), (by first | rfl | (simp; done) | (simp only [← hji5] <;> (first | rfl | simp)) | (simp [*]; done)), (by first | rfl | (simp; done) | (simp [*]; done)), H', ⟨by have := HK1.out; omega⟩, ⟨by repeat (first | (with_reducible first | exact HB.out | apply below_alloc | apply pw_below_drewN | apply below_drew1) | exact HB.out)⟩⟩
            · rw [if_neg c9] at H
              have c9b0 : decide (t119 < 0) = false := decide_eq_false c9
              clear c9
              have H' := Aside0.mk H
              clear H
              have p118 : 0 ≤ ((ji5) : Int) := of_decide_eq_true (by first | (with_reducible assumption) | assumption)
              have q118 : (ji5) < (l0.length : Int) := of_decide_eq_true (by first | (with_reducible assumption) | assumption)
              obtain ⟨ad118, e118, hx118_0, hx118_1, hx118_2, hx118_3⟩ := at_T34 HR0.out (ji5) p118 q118
              cases e118
              replace hx118_0 := (HB.out.cell (World.block_lt_of_cell? w _ hx118_0)).trans hx118_0
              replace hx118_1 := (HB.out.cell (World.block_lt_of_cell? w _ hx118_1)).trans hx118_1
              replace hx118_2 := (HB.out.cell (World.block_lt_of_cell? w _ hx118_2)).trans hx118_2
              replace hx118_3 := (HB.out.cell (World.block_lt_of_cell? w _ hx118_3)).trans hx118_3
              replace p118 := eq_true p118
              replace q118 := eq_true q118
              go_wp2_with (first | ((with_reducible refine gate_tmp (t_ := 24) rfl ?_); refine goesT_ (some 30) rfl rfl Try.func35 (by kernel_rfl) rfl #[.agg #[.int .u64 ((rd_T34 l0 (ji5)).f0), .int .u64 ((rd_T34 l0 (ji5)).f1), .int .u64 ((rd_T34 l0 (ji5)).f2), .int .i64 ((rd_T34 l0 (ji5)).f3)], .int .u64 a1] rfl rfl (by (try simp only [List.map_toArray, List.map_cons, List.map_nil]); first | done | (simp only [hji5]; rfl) | rfl | (simp only [List.length_drop, List.length_take]; rfl)) ?_; (with_reducible refine (invoice_order.calls ((rd_T34 l0 (ji5)).f0) ((rd_T34 l0 (ji5)).f1) ((rd_T34 l0 (ji5)).f2) ((rd_T34 l0 (ji5)).f3) a1 t119 _ A8.out).mono ?_); rintro e w11 ⟨rfl, hb⟩; refine ⟨_, rfl, ?_⟩; have n0_ := Aside0.mk (below_step (belN HB) hb); clear HB; have HB := n0_; clear n0_; (try clear hb); (try clear hb2); (try clear hk); (try clear hi)))
              go_roundg k1
              case measure => have := HK1.out; omega
              case rel => exact ⟨(x9_1), (ji5), (by first | rfl | (simp; done) | (simp [*]; done)), (by first | rfl | (simp; done) | (simp only [← hji5] <;> (first | rfl | simp)) | (simp [*]; done)), H', ⟨by have := HK1.out; omega⟩, ⟨by repeat (first | (with_reducible first | exact HB.out | apply below_alloc | apply pw_below_drewN | apply below_drew1) | exact HB.out)⟩⟩
          · rw [if_neg c7] at H
            exact absurd H (by simp)
        · rw [if_neg c6] at H
          exact absurd H (by simp)
      · rw [if_neg c4] at H
        have c4b0 : decide (x9_1 < x10_1) = false := decide_eq_false c4
        clear c4
        by_cases c12 : x9_1 < (l0.length : Int)
        · rw [if_pos c12] at H
          have c12b0 : decide (x9_1 < (l0.length : Int)) = true := decide_eq_true c12
          clear c12
          by_cases c13 : 0 ≤ x9_1
          · rw [if_pos c13] at H
            have c13b0 : decide (0 ≤ x9_1) = true := decide_eq_true c13
            clear c13
            by_cases c14 : x9_1 < (l0.length : Int)
            · rw [if_pos c14] at H
              have c14b0 : decide (x9_1 < (l0.length : Int)) = true := decide_eq_true c14
              clear c14
              replace H := Option.bind_eq_some_iff.mp H
              obtain ⟨t121, A150, H⟩ := H
              replace H : (some (x9_1, (t121 == 0))) = some (r1, r2) := H
              have A15 := Aside0.mk A150
              clear A150
              simp only [Option.some.injEq, Prod.mk.injEq] at H
              obtain ⟨rfl, rfl⟩ := H
              have p120 : 0 ≤ (x9_1 : Int) := of_decide_eq_true (by first | (with_reducible assumption) | assumption)
              have q120 : x9_1 < (l0.length : Int) := of_decide_eq_true (by first | (with_reducible assumption) | assumption)
              obtain ⟨ad120, e120, hx120_0, hx120_1, hx120_2, hx120_3⟩ := at_T34 HR0.out x9_1 p120 q120
              cases e120
              replace hx120_0 := (HB.out.cell (World.block_lt_of_cell? w _ hx120_0)).trans hx120_0
              replace hx120_1 := (HB.out.cell (World.block_lt_of_cell? w _ hx120_1)).trans hx120_1
              replace hx120_2 := (HB.out.cell (World.block_lt_of_cell? w _ hx120_2)).trans hx120_2
              replace hx120_3 := (HB.out.cell (World.block_lt_of_cell? w _ hx120_3)).trans hx120_3
              replace p120 := eq_true p120
              replace q120 := eq_true q120
              go_wp2_with (first | (go_at_call 35; (with_reducible refine (invoice_order.calls ((rd_T34 l0 x9_1).f0) ((rd_T34 l0 x9_1).f1) ((rd_T34 l0 x9_1).f2) ((rd_T34 l0 x9_1).f3) a1 t121 _ A15.out).mono ?_); rintro e w16 ⟨rfl, hb⟩; have n0_ := Aside0.mk (below_step (belN HB) hb); clear HB; have HB := n0_; clear n0_; (try clear hb); (try clear hb2); (try clear hk); (try clear hi)))
              go_ret2
              exact ⟨by first | rfl | (simp [errW_none, errW_some] <;> rfl) | (simp [*, errW_none, errW_some] <;> rfl), by repeat (first | (with_reducible first | exact HB.out | apply below_alloc | apply pw_below_drewN | apply below_drew1) | exact HB.out)⟩
            · rw [if_neg c14] at H
              exact absurd H (by simp)
          · rw [if_neg c13] at H
            exact absurd H (by simp)
        · rw [if_neg c12] at H
          have c12b0 : decide (x9_1 < (l0.length : Int)) = false := decide_eq_false c12
          clear c12
          simp only [Option.some.injEq, Prod.mk.injEq] at H
          obtain ⟨rfl, rfl⟩ := H
          go_wp2
          go_ret2
          exact ⟨by first | rfl | (simp [errW_none, errW_some] <;> rfl) | (simp [*, errW_none, errW_some] <;> rfl), by repeat (first | (with_reducible first | exact HB.out | apply below_alloc | apply pw_below_drewN | apply below_drew1) | exact HB.out)⟩

/-! ### invoice_find: function 25 -/
def invoice_find.f (k : Nat) (l0 : List (S34)) (a1 : Int) : Option (Int × Int) := (invoice_Check.f k l0).bind fun t122 => (if t122 = 0 then ((slices_BinarySearchFunc_uint64_at_invoice_order.f k l0 a1).bind fun bt123 => (if bt123.2 = true then (some (bt123.1, 0)) else (some (bt123.1, 5)))) else (some (0, t122)))
theorem invoice_find.mono : ∀ a0 a1 k, LeO (invoice_find.f k a0 a1) (invoice_find.f (k + 1) a0 a1) := by
  intro a0 a1 k
  unfold invoice_find.f
  repeat' first
      | (with_reducible exact invoice_Check.mono _ _)
      | (with_reducible exact slices_BinarySearchFunc_uint64_at_invoice_order.mono _ _ _)
      | (with_reducible exact LeO.refl _)
      | (with_reducible exact LeO.none _)
      | (with_reducible refine LeO.ite ?_ ?_)
      | (with_reducible refine LeO.bind ?_ (fun _ => ?_))
      | exact invoice_Check.mono _ _
      | exact slices_BinarySearchFunc_uint64_at_invoice_order.mono _ _ _
      | exact LeO.none _
      | refine LeO.ite ?_ ?_
      | refine LeO.bind ?_ (fun _ => ?_)
set_option maxHeartbeats 8000000 in
set_option maxRecDepth 100000 in
theorem invoice_find.calls (k : Nat) (A0 : Option Addr) (c0 : Nat) (l0 : List (S34)) (a1 : Int) (r1 : Int) (r2 : Int) (w : World) (hr0 : Kd.C k34 w A0 l0.length l0) (hc0 : l0.length ≤ c0) (h : invoice_find.f k l0 a1 = some (r1, r2)) :
    Calls Try.prog 25 #[.slice A0 l0.length c0, .int .u64 a1] w fun e w' => e = .returned (.tuple #[.int .i64 r1, .int .i64 r2]) ∧ Below w.heap.size w w' := by
  have HR0 := Aside0.mk hr0
  have HC0 := Aside0.mk hc0
  clear hr0 hc0
  have HB := Aside0.mk (Below.refl w.heap.size w)
  have H : ((invoice_Check.f k l0).bind fun t122 => (if t122 = 0 then ((slices_BinarySearchFunc_uint64_at_invoice_order.f k l0 a1).bind fun bt123 => (if bt123.2 = true then (some (bt123.1, 0)) else (some (bt123.1, 5)))) else (some (0, t122)))) = some (r1, r2) := h
  clear h
  replace H := Option.bind_eq_some_iff.mp H
  obtain ⟨t122, A30, H⟩ := H
  replace H : (if t122 = 0 then ((slices_BinarySearchFunc_uint64_at_invoice_order.f k l0 a1).bind fun bt123 => (if bt123.2 = true then (some (bt123.1, 0)) else (some (bt123.1, 5)))) else (some (0, t122))) = some (r1, r2) := H
  have A3 := Aside0.mk A30
  clear A30
  by_cases c4 : t122 = 0
  · rw [if_pos c4] at H
    have c4b0 : (t122 == 0) = true := beq_iff_eq.mpr c4
    have c4b1 : (t122 != 0) = false := bne_eq_false_iff_eq.mpr c4
    clear c4
    replace H := Option.bind_eq_some_iff.mp H
    obtain ⟨⟨t123, t124⟩, A50, H⟩ := H
    replace H : (if t124 = true then (some (t123, 0)) else (some (t123, 5))) = some (r1, r2) := H
    have A5 := Aside0.mk A50
    clear A50
    by_cases c6 : t124 = true
    · subst c6
      have H1 : (some (t123, 0)) = some (r1, r2) := by rw [if_pos rfl] at H; exact H
      clear H
      have H := H1
      clear H1
      simp only [Option.some.injEq, Prod.mk.injEq] at H
      obtain ⟨rfl, rfl⟩ := H
      go_enter Try.func25, Try.ntmps25
      go_wp2_with (first | ((with_reducible refine gate_callee (f := 17) rfl ?_); refine goesL_ (some 10) rfl rfl Try.func17 (by kernel_rfl) rfl #[.slice A0 l0.length c0] rfl (by (try simp only [List.map_toArray, List.map_cons, List.map_nil]); first | done | rfl | (simp only [List.length_drop, List.length_take]; rfl)) ?_; (with_reducible refine (invoice_Check.calls k _ _ l0 t122 _ ?side1 ?side2 A3.out).mono ?_); (case side1 => repeat (first | exact HR0.out | (with_reducible refine Kd.C_alloc ?_ _) | (with_reducible refine Kd.C_drewN ?_ _) | (with_reducible refine Kd.C_drew ?_))); (case side2 => exact HC0.out); rintro e w7 ⟨rfl, hb⟩; refine ⟨_, rfl, ?_⟩; have n0_ := Aside0.mk (below_step (belN HB) hb); clear HB; have HB := n0_; clear n0_; (try clear hb); (try clear hb2); (try clear hk); (try clear hi)) | ((with_reducible refine gate_callee (f := 41) rfl ?_); refine goesL_ (some 17) rfl rfl Try.func41 (by kernel_rfl) rfl #[.slice A0 l0.length c0, .int .u64 a1, .func (.func 35) #[] #[]] rfl (by (try simp only [List.map_toArray, List.map_cons, List.map_nil]); first | done | rfl | (simp only [List.length_drop, List.length_take]; rfl)) ?_; (with_reducible refine (slices_BinarySearchFunc_uint64_at_invoice_order.calls k _ _ l0 a1  t123 true _ ?side1 ?side2 A5.out).mono ?_); (case side1 => repeat (first | exact (Kd.C_below HR0.out HB.out) | (with_reducible refine Kd.C_alloc ?_ _) | (with_reducible refine Kd.C_drewN ?_ _) | (with_reducible refine Kd.C_drew ?_))); (case side2 => exact HC0.out); rintro e w8 ⟨rfl, hb⟩; refine ⟨_, rfl, ?_⟩; have n0_ := Aside0.mk (below_step (belN HB) hb); clear HB; have HB := n0_; clear n0_; (try clear hb); (try clear hb2); (try clear hk); (try clear hi)))
      go_ret2
      exact ⟨by first | rfl | (simp [errW_none, errW_some] <;> rfl) | (simp [*, errW_none, errW_some] <;> rfl), by repeat (first | (with_reducible first | exact HB.out | apply below_alloc | apply pw_below_drewN | apply below_drew1) | exact HB.out)⟩
    · replace c6 := Bool.eq_false_iff.mpr c6
      subst c6
      have H1 : (some (t123, 5)) = some (r1, r2) := by rw [if_neg (show ¬ (false = true) by decide)] at H; exact H
      clear H
      have H := H1
      clear H1
      simp only [Option.some.injEq, Prod.mk.injEq] at H
      obtain ⟨rfl, rfl⟩ := H
      go_enter Try.func25, Try.ntmps25
      go_wp2_with (first | ((with_reducible refine gate_callee (f := 17) rfl ?_); refine goesL_ (some 10) rfl rfl Try.func17 (by kernel_rfl) rfl #[.slice A0 l0.length c0] rfl (by (try simp only [List.map_toArray, List.map_cons, List.map_nil]); first | done | rfl | (simp only [List.length_drop, List.length_take]; rfl)) ?_; (with_reducible refine (invoice_Check.calls k _ _ l0 t122 _ ?side1 ?side2 A3.out).mono ?_); (case side1 => repeat (first | exact HR0.out | (with_reducible refine Kd.C_alloc ?_ _) | (with_reducible refine Kd.C_drewN ?_ _) | (with_reducible refine Kd.C_drew ?_))); (case side2 => exact HC0.out); rintro e w9 ⟨rfl, hb⟩; refine ⟨_, rfl, ?_⟩; have n0_ := Aside0.mk (below_step (belN HB) hb); clear HB; have HB := n0_; clear n0_; (try clear hb); (try clear hb2); (try clear hk); (try clear hi)) | ((with_reducible refine gate_callee (f := 41) rfl ?_); refine goesL_ (some 17) rfl rfl Try.func41 (by kernel_rfl) rfl #[.slice A0 l0.length c0, .int .u64 a1, .func (.func 35) #[] #[]] rfl (by (try simp only [List.map_toArray, List.map_cons, List.map_nil]); first | done | rfl | (simp only [List.length_drop, List.length_take]; rfl)) ?_; (with_reducible refine (slices_BinarySearchFunc_uint64_at_invoice_order.calls k _ _ l0 a1  t123 false _ ?side1 ?side2 A5.out).mono ?_); (case side1 => repeat (first | exact (Kd.C_below HR0.out HB.out) | (with_reducible refine Kd.C_alloc ?_ _) | (with_reducible refine Kd.C_drewN ?_ _) | (with_reducible refine Kd.C_drew ?_))); (case side2 => exact HC0.out); rintro e w10 ⟨rfl, hb⟩; refine ⟨_, rfl, ?_⟩; have n0_ := Aside0.mk (below_step (belN HB) hb); clear HB; have HB := n0_; clear n0_; (try clear hb); (try clear hb2); (try clear hk); (try clear hi)))
      go_ret2
      exact ⟨by first | rfl | (simp [errW_none, errW_some] <;> rfl) | (simp [*, errW_none, errW_some] <;> rfl), by repeat (first | (with_reducible first | exact HB.out | apply below_alloc | apply pw_below_drewN | apply below_drew1) | exact HB.out)⟩
  · rw [if_neg c4] at H
    have c4b0 : (t122 == 0) = false := beq_eq_false_iff_ne.mpr c4
    have c4b1 : (t122 != 0) = true := bne_iff_ne.mpr c4
    simp only [Option.some.injEq, Prod.mk.injEq] at H
    obtain ⟨rfl, rfl⟩ := H
    go_enter Try.func25, Try.ntmps25
    go_wp2_with (first | ((with_reducible refine gate_callee (f := 17) rfl ?_); refine goesL_ (some 10) rfl rfl Try.func17 (by kernel_rfl) rfl #[.slice A0 l0.length c0] rfl (by (try simp only [List.map_toArray, List.map_cons, List.map_nil]); first | done | rfl | (simp only [List.length_drop, List.length_take]; rfl)) ?_; (with_reducible refine (invoice_Check.calls k _ _ l0 t122 _ ?side1 ?side2 A3.out).mono ?_); (case side1 => repeat (first | exact HR0.out | (with_reducible refine Kd.C_alloc ?_ _) | (with_reducible refine Kd.C_drewN ?_ _) | (with_reducible refine Kd.C_drew ?_))); (case side2 => exact HC0.out); rintro e w11 ⟨rfl, hb⟩; refine ⟨_, rfl, ?_⟩; have n0_ := Aside0.mk (below_step (belN HB) hb); clear HB; have HB := n0_; clear n0_; (try clear hb); (try clear hb2); (try clear hk); (try clear hi)))
    go_ret2
    exact ⟨by first | rfl | (simp [errW_none, errW_some] <;> rfl) | (simp [*, errW_none, errW_some] <;> rfl), by repeat (first | (with_reducible first | exact HB.out | apply below_alloc | apply pw_below_drewN | apply below_drew1) | exact HB.out)⟩

/-! ### slices_Insert_Invoice: function 27 (by hand) -/
theorem slices_Insert_Invoice.apart_ (g2 cap2 : Nat) (cur2 : Array Value) (w : World) (hg2 : w.heap[g2]? = some (.cells cur2 34 (0, 0))) (b o lb cb : Nat) (cur : Array Value) (hb : w.heap[b]? = some (.cells cur 34 (0, 0))) (hne : g2 ≠ b) (h0 : cur.size ≠ 0) :
    (callFunc 43 #[.slice (some ⟨g2, 0, none⟩) 1 cap2, .slice (some ⟨b, o, none⟩) lb cb]).run Try.prog w = .ok (.value (.bool false)) w := by
  rw [run_callFunc_extern Try.func43 (by kernel_rfl) (by kernel_rfl) (by kernel_rfl) (e := Extern.SlicesOverlaps.overlaps #[22, 22] #[4]) (by kernel_rfl),
    Lib.run_overlaps_apart w 22 4 34 Try.underlying22 4 Try.sizeOf34 ⟨g2, 0, none⟩ ⟨b, o, none⟩ 1 cap2 lb cb hne 34 34 cur2.size cur.size (by simp [World.shape?, hg2]) (by simp [World.shape?, hb]) h0 (blk_frozen hg2 0) (blk_frozen hg2 _)]
  rfl
set_option maxHeartbeats 4000000 in
set_option maxRecDepth 100000 in
theorem slices_Insert_Invoice.shift (g n cap i g2 cap2 : Nat) (cur cur2 : Array Value) (w : World) (hi : i < n) (hroom : n + 1 ≤ cap) (hcap : cap ≤ 9223372036854775807) (hg : w.heap[g]? = some (.cells cur 34 (0, 0))) (hg2 : w.heap[g2]? = some (.cells cur2 34 (0, 0))) (hne : g2 ≠ g)
    (hcur : cur.size = cap * 4) (hcur2 : 4 ≤ cur2.size) (h1 : ∀ u ∈ cur.toList.take (n * 4), u.oneCell' = true) (h2 : ∀ u ∈ cur2.toList.take 4, u.oneCell' = true) :
    Calls Try.prog 27 #[.slice (some ⟨g, 0, none⟩) n cap, .int .i64 i, .slice (some ⟨g2, 0, none⟩) 1 cap2] w fun e w' => ∃ cur', e = .returned (.slice (some ⟨g, 0, none⟩) (n + 1) cap) ∧ w'.heap[g]? = some (.cells cur' 34 (0, 0)) ∧ w.grownBy w' (some g) ∧ cur'.size = cap * 4 ∧
      cur'.toList.take ((n + 1) * 4) = (cur.toList.take (n * 4)).take (i * 4) ++ cur2.toList.take 4 ++ (cur.toList.take (n * 4)).drop (i * 4) := by
  obtain ⟨cs, hcs⟩ : ∃ cs, cs = (cur.toList.drop (i * 4)).take ((n - i) * 4) := ⟨_, rfl⟩
  obtain ⟨vs, hvs⟩ : ∃ vs, vs = cur2.toList.take 4 := ⟨_, rfl⟩
  have hov : ∀ o lb cb, (callFunc 43 #[.slice (some ⟨g2, 0, none⟩) 1 cap2, .slice (some ⟨g, o, none⟩) lb cb]).run Try.prog w = .ok (.value (.bool false)) w := fun o lb cb => slices_Insert_Invoice.apart_ g2 cap2 cur2 w hg2 g o lb cb cur hg hne (by omega)
  have hz2 : ¬ ((i : Int) = (n : Int)) := by omega
  have hb1 : (0 : Int) ≤ (i : Int) := by omega
  have hb3 : (i : Int) ≤ (n : Int) := by omega
  have hb4 : ¬ (cap = i) := by omega
  have hb5 : ¬ (cap = i + 1) := by omega
  have hw1 : IntKind.i64.wrap ((i : Int) + 1) = (i : Int) + 1 := by rw [IntKind.wrap_i64]; omega
  have hb6 : (0 : Int) ≤ (i : Int) + 1 := by omega
  have hb7 : (i : Int) + 1 ≤ (n : Int) + 1 := by omega
  have hb8 : ((i : Int) + 1).toNat = i + 1 := by omega
  have hb9 : (i : Int) ≤ (n : Int) + 1 := by omega
  have hb10 : n + 1 - (i + 1) = n - i := by omega
  have hsz : (Try.prog.info? 34).map (·.size) = some 4 := by kernel_rfl
  have hcl : cs.length = (n - i) * 4 := by rw [hcs, List.length_take, List.length_drop, Array.length_toList]; omega
  have hvl : vs.length = 1 * 4 := by rw [hvs, List.length_take, Array.length_toList]; omega
  obtain ⟨cur1, hcur1⟩ : ∃ cur1, cur1 = (cur.toList.take ((i + 1) * 4) ++ cs ++ cur.toList.drop ((i + 1) * 4 + cs.length)).toArray := ⟨_, rfl⟩
  have hcp1 : ∀ ty, (Builtin.copy_ #[22, 22] ty #[.slice (some ⟨g, (i + 1) * 4, none⟩) (n - i) (cap - (i + 1)), .slice (some ⟨g, i * 4, none⟩) (n + 1 - i) (cap - i)]).run Try.prog w.drew = .ok (goInt ((n - i : Nat) : Int)) (w.drew.setRow g cur1) := fun ty => by
    rw [hcur1]
    exact run_copy_rowK w.drew 22 22 ty 34 g ((i + 1) * 4) (n - i) (cap - (i + 1)) ⟨g, i * 4, none⟩ (n + 1 - i) (cap - i) 4 (n - i) cur 34 cs Try.underlying22 hsz hg (by simp only [Nat.min_def]; split <;> omega) hcl
      (blk_cells hg (i * 4) ((n - i) * 4) cs hcs.symm) (by omega) (fun v hv => h1 v (by
        rw [hcs] at hv
        rw [List.take_drop, show i * 4 + (n - i) * 4 = n * 4 by omega] at hv
        exact List.mem_of_mem_drop hv))
  obtain ⟨W1, hW1⟩ : ∃ W1, W1 = w.drew.setRow g cur1 := ⟨_, rfl⟩
  have hW1g : W1.heap[g]? = some (.cells cur1 34 (0, 0)) := by rw [hW1]; exact setRow_heap w.drew g cur _ 34 _ hg
  have hW1g2 : W1.heap[g2]? = some (.cells cur2 34 (0, 0)) := by rw [hW1, setRow_other w.drew g g2 _ hne]; exact hg2
  have hc1s : cur1.size = cap * 4 := by rw [hcur1]; simp only [List.size_toArray, List.length_append, List.length_take, List.length_drop, Array.length_toList]; omega
  obtain ⟨cur', hcur'⟩ : ∃ cur', cur' = (cur1.toList.take (i * 4) ++ vs ++ cur1.toList.drop (i * 4 + vs.length)).toArray := ⟨_, rfl⟩
  have hcp2 : ∀ ty, (Builtin.copy_ #[22, 22] ty #[.slice (some ⟨g, i * 4, none⟩) (n + 1 - i) (cap - i), .slice (some ⟨g2, 0, none⟩) 1 cap2]).run Try.prog W1 = .ok (goInt 1) (W1.setRow g cur') := fun ty => by
    rw [hcur']
    exact run_copy_rowK W1 22 22 ty 34 g (i * 4) (n + 1 - i) (cap - i) ⟨g2, 0, none⟩ 1 cap2 4 1 cur1 34 vs Try.underlying22 hsz hW1g (by simp only [Nat.min_def]; split <;> omega) hvl
      (blk_cells hW1g2 0 4 vs (by rw [hvs, List.drop_zero])) (by omega) (fun v hv => h2 v (by rw [hvs] at hv; exact hv))
  have fin : cur'.size = cap * 4 ∧ cur'.toList.take ((n + 1) * 4) = (cur.toList.take (n * 4)).take (i * 4) ++ cur2.toList.take 4 ++ (cur.toList.take (n * 4)).drop (i * 4) := by
    have hL : cur.toList.length = cap * 4 := by rw [Array.length_toList, hcur]
    have h := ins_cells cur.toList vs (i * 4) ((n - i) * 4) 4 0 (by omega) (by omega)
    simp only at h
    have ec : (i + 1) * 4 = i * 4 + 4 := by omega
    rw [hcur', hcur1, hcl, ec, hvl, Nat.one_mul]
    rw [hcs, hvs]
    rw [hvs] at h
    have en : i * 4 + (n - i) * 4 = n * 4 := by omega
    rw [en] at h
    rw [show (n + 1) * 4 = n * 4 + 4 by omega]
    exact ⟨h.1.trans hL, h.2⟩
  have fin2 : w.grownBy (W1.setRow g cur') (some g) := by
    rw [hW1]
    exact grown_trans (grown_trans (show w.grownBy w.drew (some g) from ⟨rfl, rfl, rfl, Nat.le_refl _, fun _ _ _ => rfl⟩) (grown_setRow w.drew g cur1)) (grown_setRow _ g cur')
  have fin3 : (W1.setRow g cur').heap[g]? = some (.cells cur' 34 (0, 0)) := setRow_heap W1 g cur1 _ 34 _ hW1g
  rw [← hW1] at hcp1
  clear hW1 hcur1 hcur' hcs hvs h1 h2 hcur hcur2 hg hg2
  go_enter Try.func27, Try.ntmps27
  go_wp2_with (simp only [hov])
  go_region_law (refine step_copy_run rfl _ _ 22 22 rfl _ _ (by simp [Act.eval, Act.put]) (by simp [Act.eval, Act.put]) (hcp1 _) ?_)
  go_wp2_with (at_builtin; refine wpList_copy_run _ rfl _ _ 22 22 rfl _ _ rfl rfl (hcp2 _) ?_)

  go_ret
  exact ⟨cur', rfl, fin3, fin2, fin⟩

set_option maxHeartbeats 4000000 in
set_option maxRecDepth 100000 in
theorem slices_Insert_Invoice.grow (g n cap i g2 cap2 : Nat) (cur cur2 : Array Value) (w : World) (hi : i < n) (hnc : n ≤ cap) (hroom : cap < n + 1) (hbig : (n + 1) * 32 ≤ 140737488355328) (hg : w.heap[g]? = some (.cells cur 34 (0, 0))) (hg2 : w.heap[g2]? = some (.cells cur2 34 (0, 0)))
    (hcur : cur.size = cap * 4) (hcur2 : 4 ≤ cur2.size) (h1 : ∀ u ∈ cur.toList.take (n * 4), u.oneCell' = true) (h2 : ∀ u ∈ cur2.toList.take 4, u.oneCell' = true) :
    Calls Try.prog 27 #[.slice (some ⟨g, 0, none⟩) n cap, .int .i64 i, .slice (some ⟨g2, 0, none⟩) 1 cap2] w fun e w' => ∃ cur' G, e = .returned (.slice (some ⟨w.heap.size, 0, none⟩) (n + 1) G) ∧ w'.heap[w.heap.size]? = some (.cells cur' 34 (0, 0)) ∧ w.grownBy w' none ∧ n + 1 ≤ G ∧ G ≤ maxLen ∧ cur'.size = G * 4 ∧
      cur'.toList.take ((n + 1) * 4) = (cur.toList.take (n * 4)).take (i * 4) ++ cur2.toList.take 4 ++ (cur.toList.take (n * 4)).drop (i * 4) := by
  obtain ⟨i0, hi0, hz0, hzs, hzb⟩ := info_parts info34
  have hlg : g < w.heap.size := blk_lt hg
  have hlg2 : g2 < w.heap.size := blk_lt hg2
  obtain ⟨inn, hinn⟩ : ∃ inn, inn = cur.toList.take (n * 4) := ⟨_, rfl⟩
  have hinl : inn.length = n * 4 := by rw [hinn, List.length_take, Array.length_toList]; omega
  have hold : (Builtin.firstCells i0.size i (.slice (some ⟨g, 0, none⟩) i cap)).run Try.prog w.drew = .ok (inn.take (i * 4)).toArray w.drew := by
    rw [hzs]
    exact run_firstCells_some w.drew 4 i ⟨g, 0, none⟩ i cap (inn.take (i * 4)) (by rw [List.length_take]; omega) (blk_cells (w := w.drew) hg 0 (i * 4) _ (by rw [hinn, List.drop_zero, List.take_take, Nat.min_eq_left (by omega)]))
  obtain ⟨G, hG⟩ : ∃ G, G = grownCap w (n + 1) cap 34 := ⟨_, rfl⟩
  have hGn : n + 1 ≤ G := by rw [hG]; exact grownCap_ge w _ _ _
  have hGm : G ≤ maxLen := by rw [hG]; exact grownCap_le_maxLen w (n + 1) cap 34 (by unfold maxLen; omega)
  have hG63 : G ≤ 9223372036854775807 := by unfold maxLen at hGm; omega
  obtain ⟨ROW, hROW⟩ : ∃ ROW : Array Value, ROW = (inn.take (i * 4)).toArray ++ Builtin.zeroCells ((.agg #[(.int .u64 0), (.int .u64 0), (.int .u64 0), (.int .i64 0)]) : Value).cells (n + 1 - i) ++ Builtin.zeroCells ((.agg #[(.int .u64 0), (.int .u64 0), (.int .u64 0), (.int .i64 0)]) : Value).cells (G - (n + 1)) := ⟨_, rfl⟩
  have hRs : ROW.size = G * 4 := by
    rw [hROW]
    simp only [Array.size_append, List.size_toArray, List.length_take, hinl, size_zeroCells, show ((.agg #[(.int .u64 0), (.int .u64 0), (.int .u64 0), (.int .i64 0)]) : Value).cells.size = 4 from rfl]
    omega
  have hRt : ROW.toList.take (i * 4) = inn.take (i * 4) := by
    rw [hROW, Array.toList_append, Array.toList_append, List.append_assoc, List.take_append_of_le_length (by simp only [List.length_take, hinl]; omega), List.take_of_length_le (by simp only [List.length_take, hinl]; omega)]
  have hrz : ∀ ty, (Builtin.append_ #[22, 3] ty #[.slice (some ⟨g, 0, none⟩) i cap, .int .i64 ((n : Int) + 1 - (i : Int))]).run Try.prog w =
      .ok (.slice (some ⟨w.heap.size, 0, none⟩) (n + 1) G) (w.drew.alloc (.cells ROW 34)) := fun ty => by
    have h := Lib.run_append_grow_zeros w 22 3 ty 34 i0 _ .i64 .i64 Try.underlying22 Try.underlying3 hi0 hz0 (some ⟨g, 0, none⟩) i cap (inn.take (i * 4)) hold (n + 1 - i) (by omega) (by omega) (by omega) (by omega) (by rw [hzb]; omega) (by rw [hzb, show i + (n + 1 - i) = n + 1 by omega]; exact growslice_fits hroom hbig)
    rw [show i + (n + 1 - i) = n + 1 by omega, ← hG, ← hROW] at h
    rw [show (n : Int) + 1 - (i : Int) = ((n + 1 - i : Nat) : Int) by omega]
    exact h
  have hsz : (Try.prog.info? 34).map (·.size) = some 4 := by kernel_rfl
  obtain ⟨N, hN⟩ : ∃ N, N = w.heap.size := ⟨_, rfl⟩
  obtain ⟨vs, hvs⟩ : ∃ vs, vs = cur2.toList.take 4 := ⟨_, rfl⟩
  have hvl : vs.length = 1 * 4 := by rw [hvs, List.length_take, Array.length_toList]; omega
  obtain ⟨cs, hcs⟩ : ∃ cs, cs = inn.drop (i * 4) := ⟨_, rfl⟩
  have hcl : cs.length = (n - i) * 4 := by rw [hcs, List.length_drop]; omega
  obtain ⟨cur1, hcur1⟩ : ∃ cur1, cur1 = (ROW.toList.take (i * 4) ++ vs ++ ROW.toList.drop (i * 4 + vs.length)).toArray := ⟨_, rfl⟩
  have hc1s : cur1.size = G * 4 := by rw [hcur1]; simp only [List.size_toArray, List.length_append, List.length_take, List.length_drop, Array.length_toList]; omega
  obtain ⟨cur', hcur'⟩ : ∃ cur', cur' = (cur1.toList.take ((i + 1) * 4) ++ cs ++ cur1.toList.drop ((i + 1) * 4 + cs.length)).toArray := ⟨_, rfl⟩
  have hcpA : ∀ (W : World), W.heap[N]? = some (.cells ROW 34 (0, 0)) → W.heap[g2]? = some (.cells cur2 34 (0, 0)) → ∀ ty, (Builtin.copy_ #[22, 22] ty #[.slice (some ⟨N, i * 4, none⟩) (n + 1 - i) (G - i), .slice (some ⟨g2, 0, none⟩) 1 cap2]).run Try.prog W = .ok (goInt 1) (W.setRow N cur1) := fun W hW hWv ty => by
    rw [hcur1]
    exact run_copy_rowK W 22 22 ty 34 N (i * 4) (n + 1 - i) (G - i) ⟨g2, 0, none⟩ 1 cap2 4 1 ROW 34 vs Try.underlying22 hsz hW (by simp only [Nat.min_def]; split <;> omega) hvl
      (blk_cells hWv 0 4 vs (by rw [hvs, List.drop_zero])) (by omega) (fun v hv => h2 v (by rw [hvs] at hv; exact hv))
  have hcpB : ∀ (W : World), W.heap[N]? = some (.cells cur1 34 (0, 0)) → W.heap[g]? = some (.cells cur 34 (0, 0)) → ∀ ty, (Builtin.copy_ #[22, 22] ty #[.slice (some ⟨N, (i + 1) * 4, none⟩) (n - i) (G - (i + 1)), .slice (some ⟨g, i * 4, none⟩) (n - i) (cap - i)]).run Try.prog W = .ok (goInt ((n - i : Nat) : Int)) (W.setRow N cur') := fun W hW hWv ty => by
    rw [hcur']
    exact run_copy_rowK W 22 22 ty 34 N ((i + 1) * 4) (n - i) (G - (i + 1)) ⟨g, i * 4, none⟩ (n - i) (cap - i) 4 (n - i) cur1 34 cs Try.underlying22 hsz hW (by simp only [Nat.min_def]; split <;> omega) hcl
      (blk_cells hWv (i * 4) ((n - i) * 4) cs (by rw [hcs, hinn, List.drop_take]; congr 1; omega)) (by omega) (fun v hv => h1 v (by rw [hcs, hinn] at hv; exact List.mem_of_mem_drop hv))
  have fin : cur'.size = G * 4 ∧ cur'.toList.take ((n + 1) * 4) = inn.take (i * 4) ++ cur2.toList.take 4 ++ inn.drop (i * 4) := by
    have e1 : cur1.toList.take ((i + 1) * 4) = inn.take (i * 4) ++ vs := by
      rw [hcur1]
      show List.take _ (List.take (i * 4) ROW.toList ++ vs ++ _) = _
      rw [hRt, List.take_append_of_le_length (by simp only [List.length_append, List.length_take, hinl]; omega), List.take_of_length_le (by simp only [List.length_append, List.length_take, hinl]; omega)]
    refine ⟨?_, ?_⟩
    · rw [hcur']; simp only [List.size_toArray, List.length_append, List.length_take, List.length_drop, Array.length_toList]; omega
    · rw [hcur', e1]
      show List.take _ (inn.take (i * 4) ++ vs ++ cs ++ _) = _
      rw [List.take_append_of_le_length (by simp only [List.length_append, List.length_take, hinl]; omega), List.take_of_length_le (by simp only [List.length_append, List.length_take, hinl]; omega), hcs, hvs]
  rw [← hN] at hlg hlg2 hrz ⊢
  rw [← hinn]
  have hz2 : ¬ ((i : Int) = (n : Int)) := by omega
  have hz3 : (cap : Int) < (n : Int) + 1 := by omega
  have hb1 : (0 : Int) ≤ (i : Int) := by omega
  have hb3 : (i : Int) ≤ (n : Int) := by omega
  have hb4 : ¬ (cap = i) := by omega
  have hb5 : ¬ (G = i) := by omega
  have hb6 : ¬ (G = i + 1) := by omega
  have hw1 : IntKind.i64.wrap ((i : Int) + 1) = (i : Int) + 1 := by rw [IntKind.wrap_i64]; omega
  have hb7 : (0 : Int) ≤ (i : Int) + 1 := by omega
  have hb8 : (i : Int) + 1 ≤ (n : Int) + 1 := by omega
  have hb9 : ((i : Int) + 1).toNat = i + 1 := by omega
  have hb10 : (i : Int) ≤ (n : Int) + 1 := by omega
  have hb11 : n + 1 - (i + 1) = n - i := by omega
  obtain ⟨W1, hW1⟩ : ∃ W1, W1 = w.drew.alloc (.cells ROW 34) := ⟨_, rfl⟩
  have hn1 : W1.heap[N]? = some (.cells ROW 34 (0, 0)) := by rw [hW1, hN]; exact heap_alloc_new w.drew _
  have hg1 : W1.heap[g]? = some (.cells cur 34 (0, 0)) := by rw [hW1]; exact blk_alloc (w := w.drew) hg _
  have hg21 : W1.heap[g2]? = some (.cells cur2 34 (0, 0)) := by rw [hW1]; exact blk_alloc (w := w.drew) hg2 _
  have hgr1 : w.grownBy W1 none := by rw [hW1]; exact ⟨rfl, rfl, rfl, by simp, fun k hk _ => heap_alloc_old w.drew _ hk⟩
  have hsN : w.heap.size ≤ N := by omega
  rw [← hW1] at hrz
  have hA := hcpA W1 hn1 hg21
  obtain ⟨W2, hW2⟩ : ∃ W2, W2 = W1.setRow N cur1 := ⟨_, rfl⟩
  have hn2 : W2.heap[N]? = some (.cells cur1 34 (0, 0)) := by rw [hW2]; exact setRow_heap W1 N ROW _ 34 _ hn1
  have hgg2 : W2.heap[g]? = some (.cells cur 34 (0, 0)) := by rw [hW2, setRow_other W1 N g _ (by omega)]; exact hg1
  have hgr2 : w.grownBy W2 none := by
    rw [hW2]
    exact ⟨hgr1.os, hgr1.tape, hgr1.output, Nat.le_trans hgr1.size (by simp [World.setRow]), fun k hk hr => (setRow_other W1 N k _ (by omega)).trans (hgr1.block k hk hr)⟩
  rw [← hW2] at hA
  have hB := hcpB W2.drew hn2 hgg2
  have fin3 : (W2.drew.setRow N cur').heap[N]? = some (.cells cur' 34 (0, 0)) := setRow_heap W2.drew N cur1 _ 34 _ hn2
  have fin2 : w.grownBy (W2.drew.setRow N cur') none := ⟨hgr2.os, hgr2.tape, hgr2.output, Nat.le_trans hgr2.size (by simp [World.setRow]), fun k hk hr => (setRow_other W2.drew N k _ (by omega)).trans (hgr2.block k hk hr)⟩
  clear hcpA hcpB hW1 hW2 hcur1 hcur' hcs hvs h1 h2 hcur hcur2 hg hg2 hROW hG hold hinn hN hn1 hg1 hg21 hgr1 hn2 hgg2 hgr2 hRt hRs
  go_enter Try.func27, Try.ntmps27
  go_wp2_with (first
    | (at_builtin; refine Lib.wpList_append_run _ rfl _ _ _ _ rfl _ _ rfl rfl _ _ (hrz _) ?_)
    | (at_builtin; refine wpList_copy_run _ rfl _ _ 22 22 rfl _ _ rfl rfl (hA _) ?_))
  go_region_law (refine step_copy_run rfl _ _ 22 22 rfl _ _ (by simp [Act.eval, Act.put]) (by simp [Act.eval, Act.put]) (hB _) ?_)
  go_wp2
  go_ret
  exact ⟨cur', G, rfl, fin3, fin2, hGn, hGm, fin⟩

def slices_Insert_Invoice.f (l0 : List (S34)) (a1 : Int) (l2 : List (S34)) : Option (List (S34)) := if 0 ≤ a1 ∧ a1 ≤ (l0.length : Int) ∧ l2.length = 1 ∧ l0.length + 1 < 4398046511104 then (some (l0.take a1.toNat ++ l2 ++ l0.drop a1.toNat)) else (none)
set_option maxHeartbeats 8000000 in
set_option maxRecDepth 100000 in
theorem slices_Insert_Invoice.last (P0_ : Nat → Prop) (u9000_ : Value) (l0 : List (S34)) (a1 : Int) (P2_ : Nat → Prop) (u9001_ : Value) (l2 : List (S34)) (w0 w : World) (hB : Below w0.heap.size w0 w) (ho0 : Kd.R k34 34 w w0.heap.size P0_ u9000_ l0) (ho2 : Kd.R k34 34 w w0.heap.size P2_ u9001_ l2) (h1 : a1 = (l0.length : Int)) (h2 : l2.length = 1) (h3 : l0.length + 1 < 4398046511104) :
    Calls Try.prog 27 #[u9000_, .int .i64 a1, u9001_] w fun e w' => ∃ v0_ : Value, e = .returned (v0_) ∧ Kd.R k34 34 w' w0.heap.size (fun k_ => ((P0_ k_ ∨ P2_ k_) ∨ w.heap.size ≤ k_)) v0_ (l0 ++ l2) ∧ Below w0.heap.size w0 w' ∧ Kept w w' (fun k_ => P0_ k_ ∨ P2_ k_) := by
  have HO0 := Aside0.mk (show Kd.R k34 34 w w0.heap.size (fun k_ => P0_ k_ ∨ w.heap.size ≤ k_) u9000_ l0 from Kd.R_mono ho0 (fun k_ hk => .inl hk))
  have HP := Aside0.mk ho0.1
  obtain ⟨Av, cv, ev⟩ := Kd.R_slice ho2
  subst ev
  have HR2 := Aside0.mk (Kd.R_reads' ho2).2.2
  have HB := Aside0.mk hB
  have HS := Aside0.mk hB.size
  have LM := Aside0.mk (show l0.length + l2.length < 4398046511104 by omega)
  obtain ⟨Ao12, co12, eo12⟩ := Kd.R_slice HO0.out
  subst eo12
  have q11 : (a1 : Int) ≤ ((l0.length : Int) : Int) := by omega
  obtain ⟨i011, hi011, _, hsz11, _⟩ := info_parts info34
  have hroom11 : l0.length ≤ co12 := (Kd.R_reads' HO0.out).2.1
  have q011 : (0 : Int) ≤ (a1 : Int) := by omega
  have hcut11 := cut_from (P := Try.prog) 22 34 .i64 Try.underlying22 hi011 4 hsz11 Ao12 l0.length co12 a1 q011 q11
  obtain ⟨A11, hA11⟩ : ∃ A1, A1 = (if co12 = (a1 : Int).toNat then Ao12 else (Ao12 : Option Addr).map (·.add ((a1 : Int).toNat * 4))) := ⟨_, rfl⟩
  obtain ⟨c11, hc11⟩ : ∃ c1, c1 = co12 - (a1 : Int).toNat := ⟨_, rfl⟩
  obtain ⟨y11, hy11⟩ : ∃ y1, y1 = l0.length - (a1 : Int).toNat := ⟨_, rfl⟩
  rw [← hy11, ← hA11, ← hc11] at hcut11
  have c6b0 : ((l2.length : Int) == 0) = false := by rw [h2]; rfl
  have c6b1 : ((l2.length : Int) != 0) = true := by rw [h2]; rfl
  have c6b2 : ¬ (l2 = []) := fun h_ => by rw [h_] at h2; cases h2
  have c9b0 : (a1 == (l0.length : Int)) = true := beq_iff_eq.mpr h1
  have c9b1 : (a1 != (l0.length : Int)) = false := bne_eq_false_iff_eq.mpr h1
  clear hi011 hsz11 hc11 hA11 hy11 h1 h2 h3 ho0 ho2 hB
  replace q11 := eq_true q11
  replace q011 := eq_true q011
  go_enter Try.func27, Try.ntmps27
  go_wp2_with (first | ((with_reducible refine gate_builtin (b := .append) (xs := #[.tmp 23, .tmp 24]) rfl ?_); at_builtin; refine Kd.R_append_rows k34 (w0 := w0) w0.heap.size rfl (.tmp 23) (.tmp 24) 22 34 (.agg #[(.int .u64 0), (.int .u64 0), (.int .u64 0), (.int .i64 0)]) 32 rfl Try.underlying22 info34 rfl (by decide) (by omega) (.slice Ao12 l0.length co12) l0 l2 _ _ _ (fun k_ => (P0_ k_ ∨ w.heap.size ≤ k_)) (fun _ => False) rfl rfl ?aO ?aR (fun _ _ h => h) (fun _ h => h.elim) ?aF ?aB ?aS ?aL ?_; (case aR => exact HR2.out); (case aB => exact HB.out); (case aF => exact (fun k_ hk => .inr hk)); (case aO => exact HO0.out); (case aS => exact HS.out); (case aL => have := LM.out; omega); intro v138 w13 ho hb hg hat; have n0_ := Aside0.mk ho; have n1_ := Aside0.mk hb; have n2_ := Aside0.mk hg; clear ho hb hg hat))
  go_ret
  exact ⟨_, rfl, Kd.R_mono n0_.out (fun k_ hk => hk.elim (fun h_ => .inl (.inl h_)) .inr), n1_.out, Kept.of_grown (S := fun k_ => P0_ k_ ∨ P2_ k_) n2_.out (Kept.refl w _) (fun k_ e_ => .inl (.inl (HP.out k_ e_)))⟩
set_option maxHeartbeats 4000000 in
theorem slices_Insert_Invoice.calls (P0_ : Nat → Prop) (u9000_ : Value) (l0 : List (S34)) (a1 : Int) (P2_ : Nat → Prop) (u9001_ : Value) (l2 : List (S34)) (r : List (S34)) (w0 w : World) (hB : Below w0.heap.size w0 w) (ho0 : Kd.R k34 34 w w0.heap.size P0_ u9000_ l0) (hp0_2 : ∀ k_, P0_ k_ → ¬ P2_ k_) (ho2 : Kd.R k34 34 w w0.heap.size P2_ u9001_ l2) (hp2_0 : ∀ k_, P2_ k_ → ¬ P0_ k_) (h : slices_Insert_Invoice.f l0 a1 l2 = some r) :
    Calls Try.prog 27 #[u9000_, .int .i64 a1, u9001_] w fun e w' => ∃ v0_ : Value, e = .returned (v0_) ∧ Kd.R k34 34 w' w0.heap.size (fun k_ => ((P0_ k_ ∨ P2_ k_) ∨ w.heap.size ≤ k_)) v0_ r ∧ Below w0.heap.size w0 w' ∧ Kept w w' (fun k_ => P0_ k_ ∨ P2_ k_) := by
  unfold slices_Insert_Invoice.f at h
  by_cases hc : 0 ≤ a1 ∧ a1 ≤ (l0.length : Int) ∧ l2.length = 1 ∧ l0.length + 1 < 4398046511104
  · rw [if_pos hc] at h
    obtain ⟨c1, c2, c3, c4⟩ := hc
    obtain rfl := Option.some.inj h
    by_cases hl : a1 = (l0.length : Int)
    · have he : l0.take a1.toNat ++ l2 ++ l0.drop a1.toNat = l0 ++ l2 := by
        rw [hl, Int.toNat_natCast, List.take_of_length_le (Nat.le_refl _), List.drop_of_length_le (Nat.le_refl _), List.append_nil]
      rw [he]
      exact slices_Insert_Invoice.last P0_ u9000_ l0 a1 P2_ u9001_ l2 w0 w hB ho0 ho2 hl c3 c4
    · obtain ⟨i, rfl⟩ := Int.eq_ofNat_of_zero_le c1
      have hi : i < l0.length := by omega
      obtain ⟨hb0, in0, hown0, hr0⟩ := ho0
      obtain ⟨hb2, in2, hown2, hr2⟩ := ho2
      have one0 := Kd.reps_one hr0 (show 0 < Kd.sz k34 from by decide) (fun p c hp => Kd.K_one _ (Kd.K_of_M _ hp))
      have one2 := Kd.reps_one hr2 (show 0 < Kd.sz k34 from by decide) (fun p c hp => Kd.K_one _ (Kd.K_of_M _ hp))
      have hsz : Kd.sz k34 = 4 := rfl
      rcases hown0 with ⟨hl0, ⟨rfl, h0⟩ | ⟨g, cap, cur, rfl, hgb, hg, hnc, hcm, hcs, hct⟩⟩
      · omega
      · rcases hown2 with ⟨hl2, ⟨rfl, h0⟩ | ⟨g2, cap2, cur2, rfl, hgb2, hg2, hnc2, hcm2, hcs2, hct2⟩⟩
        · omega
        · have hne : g2 ≠ g := fun e => hp0_2 g (hb0 g rfl) (by rw [← e]; exact hb2 g2 rfl)
          rw [c3, Nat.one_mul] at hct2
          rw [c3] at hnc2 hl2
          rw [hsz] at hct hct2 hcs hcs2 hl0 hl2
          have hl1 : (Value.slice (some (⟨g2, 0, none⟩ : Addr)) l2.length cap2) = .slice (some ⟨g2, 0, none⟩) 1 cap2 := by rw [c3]
          rw [hl1]
          have fin : ∀ (v1 : Value) (w1 : World), w1.ownsRow w0.heap.size 34 4 v1 (l0.length + 1) (in0.take (i * 4) ++ in2 ++ in0.drop (i * 4)) → w.grownBy w1 (some g) → (v1.ownBlock = some g ∨ ∃ b, v1.ownBlock = some b ∧ w.heap.size ≤ b) →
              ∃ v0_ : Value, Ending.returned v1 = .returned (v0_) ∧ Kd.R k34 34 w1 w0.heap.size (fun k_ => ((P0_ k_ ∨ P2_ k_) ∨ w.heap.size ≤ k_)) v0_ (l0.take i ++ l2 ++ l0.drop i) ∧ Below w0.heap.size w0 w1 ∧ Kept w w1 (fun k_ => P0_ k_ ∨ P2_ k_) := by
            intro v1 w1 hown hgr hat
            refine ⟨v1, rfl, ?_, ?_, ?_⟩
            · exact Kd_R_inserted (d := k34) (u := .slice (some ⟨g, 0, none⟩) l0.length cap) (v := .slice (some ⟨g2, 0, none⟩) l2.length cap2) i (by omega) hb0 hr0 hr2 hp0_2 (by rw [c3]; exact hown) hgr hat
            · exact hB.grown hgr hB.size (fun k hk => by injection hk with hk; omega)
            · exact Kept.of_grown (S := fun k_ => P0_ k_ ∨ P2_ k_) hgr (Kept.refl w _) (fun k_ e_ => .inl (.inl (hb0 k_ e_)))
          rw [Int.toNat_natCast]
          rw [← hct] at one0 fin
          rw [← hct2] at one2 fin
          by_cases hroom : l0.length + 1 ≤ cap
          · refine (slices_Insert_Invoice.shift g l0.length cap i g2 cap2 cur cur2 w hi hroom (by unfold maxLen at hcm; omega) hg hg2 hne hcs (by rw [hcs2]; omega) one0 one2).mono ?_
            rintro e w' ⟨cur', rfl, q1, q2, q3, q4⟩
            refine fin _ w' ⟨?_, .inr ⟨g, cap, cur', rfl, hgb, q1, hroom, hcm, q3, q4⟩⟩ q2 (.inl rfl)
            rw [← q4, List.length_take, show cur'.toList.length = cap * 4 from Array.length_toList.trans q3, Nat.min_eq_left (by omega)]
          · refine (slices_Insert_Invoice.grow g l0.length cap i g2 cap2 cur cur2 w hi hnc (by omega) (by omega) hg hg2 hcs (by rw [hcs2]; omega) one0 one2).mono ?_
            rintro e w' ⟨cur', G, rfl, q1, q2, q3, q4, q5, q6⟩
            refine fin _ w' ⟨?_, .inr ⟨w.heap.size, G, cur', rfl, hB.size, q1, q3, q4, q5, q6⟩⟩ ⟨q2.os, q2.tape, q2.output, q2.size, fun k hk _ => q2.block k hk (by simp)⟩ (.inr ⟨w.heap.size, rfl, Nat.le_refl _⟩)
            rw [← q6, List.length_take, show cur'.toList.length = G * 4 from Array.length_toList.trans q5, Nat.min_eq_left (by omega)]
  · rw [if_neg hc] at h
    exact absurd h (by simp)

/-! ### slices_Clone_Invoice: function 28 (by hand) -/
def slices_Clone_Invoice.f (l0 : List (S34)) : Option (List (S34)) := if l0.length < 4398046511104 then (some l0) else (none)
set_option maxHeartbeats 8000000 in
set_option maxRecDepth 100000 in
theorem slices_Clone_Invoice.calls (A0 : Option Addr) (c0 : Nat) (l0 : List (S34)) (r : List (S34)) (w : World) (hr0 : Kd.C k34 w A0 l0.length l0) (hc0 : l0.length ≤ c0) (h : slices_Clone_Invoice.f l0 = some r) :
    Calls Try.prog 28 #[.slice A0 l0.length c0] w fun e w' => ∃ v0_ : Value, e = .returned (v0_) ∧ Kd.R k34 34 w' w.heap.size (fun _ => True) v0_ r ∧ Below w.heap.size w w' := by
  have H : (if l0.length < 4398046511104 then (some l0) else (none)) = some r := h
  clear h
  cases A0 with
  | none =>
    have hl : l0 = [] := C_none_ hr0
    subst hl
    have hr : r = [] := by simpa using H.symm
    subst hr
    clear H hr0
    have hnil := fun W => Lib.run_eql_slice_nil (P := Try.prog) W 22 34 none 0 c0 0 0 Try.underlying22
    go_enter Try.func28, Try.ntmps28
    go_wp2
    go_ret
    exact ⟨_, rfl, Kd.R_nil _ _ _ _ _, Below.refl _ _⟩
  | some A0 =>
    have HR0 := Aside0.mk hr0
    have HC0 := Aside0.mk hc0
    clear hr0 hc0
    have HB := Aside0.mk (Below.refl w.heap.size w)
    by_cases c2 : l0.length < 4398046511104
    · rw [if_pos c2] at H
      have LMc2 := Aside0.mk c2
      clear c2
      obtain rfl := Option.some.inj H
      have hnil := fun W => Lib.run_eql_slice_nil (P := Try.prog) W 22 34 (some A0) l0.length c0 0 0 Try.underlying22
      go_enter Try.func28, Try.ntmps28
      go_wp2_with (first | ((with_reducible refine gate_dst (N := 5) rfl ?_); refine Kd.R_lit k34 _ 34 ?hg (N := 5) ?hd (xs := ([] : List (S34))) (inner := []) (ok := fun _ => True) (okp := fun _ => True) ?hr ?hp (fun _ hk => hk) trivial (Below.refl _ _) (Nat.le_refl _) (by simp) ?_; (case hd => rfl); (case hg => rfl); (case hr => first | (go_simp; done) | (go_simp; rfl)); (case hp => exact (Reps.none _ _)); intro v141 w3 ho4 hb hg_ hnew_; clear hg_ hnew_; have n0_ := Aside0.mk (Kd.R_lower ho4 (below_size (by repeat (first | (with_reducible first | exact HB.out | apply below_alloc | apply pw_below_drewN | apply below_drew1) | exact HB.out)))); have n1_ := Aside0.mk (below_step (by repeat (first | (with_reducible first | exact HB.out | apply below_alloc | apply pw_below_drewN | apply below_drew1) | exact HB.out)) hb); clear HB; have HO142 := n0_; have HB := n1_; clear n0_ n1_; clear hb ho4) | ((with_reducible refine gate_builtin (b := .append) (xs := #[.tmp 5, .tmp 6]) rfl ?_); at_builtin; refine Kd.R_append_rows k34 (w0 := w) w.heap.size rfl (.tmp 5) (.tmp 6) 22 34 (.agg #[(.int .u64 0), (.int .u64 0), (.int .u64 0), (.int .i64 0)]) 32 rfl Try.underlying22 info34 rfl (by decide) (by omega) v141 [] l0 _ _ _ (fun _ => True) (fun _ => False) rfl rfl ?aO ?aR (fun _ _ h => h) (fun _ h => h.elim) ?aF ?aB ?aS ?aL ?_; (case aR => repeat (first | exact (Kd.C_below HR0.out HB.out) | (with_reducible refine Kd.C_alloc ?_ _) | (with_reducible refine Kd.C_drewN ?_ _) | (with_reducible refine Kd.C_drew ?_))); (case aB => exact (by repeat (first | (with_reducible first | exact HB.out | apply below_alloc | apply pw_below_drewN | apply below_drew1) | exact HB.out))); (case aF => exact (fun _ _ => trivial)); (case aO => exact (by (with_reducible repeat (first | apply Kd.R_alloc | apply Kd.R_drewN | apply Kd.R_drew)); exact HO142.out)); (case aS => exact (below_size (by repeat (first | (with_reducible first | exact HB.out | apply below_alloc | apply pw_below_drewN | apply below_drew1) | exact HB.out)))); (case aL => have := LMc2.out; simp only [List.length_nil]; omega); intro v144 w5 ho hb hg hat; rw [List.nil_append] at ho; have n0_ := Aside0.mk (hb); have n1_ := Aside0.mk (ho); clear HB; clear HO142; have HB := n0_; have HO145 := n1_; clear n0_ n1_; clear ho hb hg hat))
      go_ret
      exact ⟨_, by first | rfl | (simp [errW_none, errW_some] <;> rfl) | (simp [*, errW_none, errW_some] <;> rfl), by (with_reducible repeat (first | apply Kd.R_alloc | apply Kd.R_drewN | apply Kd.R_drew)); exact HO145.out, by repeat (first | (with_reducible first | exact HB.out | apply below_alloc | apply pw_below_drewN | apply below_drew1) | exact HB.out)⟩
    · rw [if_neg c2] at H
      exact absurd H (by simp)

/-! ### invoice_Create: function 11 -/
def invoice_Create.j0 : Nat → List (S34) → Int → Int → Int → Int → Int → Bool → Option ((List (S34)) × Int)
  | 0, _, _, _, _, _, _, _ => none
  | k + 1, x0, x1, x2, x3, x10, x11, x18 => if x18 = true then (some (([] : List (S34)), 1)) else (if x11 = 0 then (some (([] : List (S34)), 6)) else (if (x0.length : Int) = 256 then (some (([] : List (S34)), 7)) else ((slices_Clone_Invoice.f x0).bind fun t128 => ((slices_Insert_Invoice.f t128 x10 (([(⟨x1, x2, x3, 1⟩ : S34)] : List (S34)))).bind fun t134 => (some (t134, 0))))))
def invoice_Create.f (k : Nat) (l0 : List (S34)) (a1 : Int) (a2 : Int) (a3 : Int) : Option ((List (S34)) × Int) := (invoice_find.f k l0 a1).bind fun bt125 => (if bt125.2 = 1 then (invoice_Create.j0 k l0 a1 a2 a3 bt125.1 bt125.2 true) else ((invoice_bill.f k a2).bind fun t127 => (invoice_Create.j0 k l0 a1 a2 a3 bt125.1 bt125.2 (!t127))))
theorem invoice_Create.mono_l : ∀ k, (∀ y0 y1 y2 y3 y4 y5 y6, LeO (invoice_Create.j0 k y0 y1 y2 y3 y4 y5 y6) (invoice_Create.j0 (k + 1) y0 y1 y2 y3 y4 y5 y6))
  | 0 => fun _ _ _ _ _ _ _ r h => by simp [invoice_Create.j0] at h
  | k + 1 => by
    have ih0 := invoice_Create.mono_l k
    · intro y0 y1 y2 y3 y4 y5 y6
      unfold invoice_Create.j0
      repeat' first
      | (with_reducible exact ih0 _ _ _ _ _ _ _)
      | (with_reducible exact invoice_bill.mono _ _)
      | (with_reducible exact invoice_find.mono _ _ _)
      | (with_reducible exact LeO.refl _)
      | (with_reducible exact LeO.none _)
      | (with_reducible refine LeO.ite ?_ ?_)
      | (with_reducible refine LeO.bind ?_ (fun _ => ?_))
      | exact ih0 _ _ _ _ _ _ _
      | exact invoice_bill.mono _ _
      | exact invoice_find.mono _ _ _
      | exact LeO.none _
      | refine LeO.ite ?_ ?_
      | refine LeO.bind ?_ (fun _ => ?_)
theorem invoice_Create.mono : ∀ a0 a1 a2 a3 k, LeO (invoice_Create.f k a0 a1 a2 a3) (invoice_Create.f (k + 1) a0 a1 a2 a3) := by
  intro a0 a1 a2 a3 k
  have ih0 := invoice_Create.mono_l k
  unfold invoice_Create.f
  repeat' first
      | (with_reducible exact ih0 _ _ _ _ _ _ _)
      | (with_reducible exact invoice_bill.mono _ _)
      | (with_reducible exact invoice_find.mono _ _ _)
      | (with_reducible exact LeO.refl _)
      | (with_reducible exact LeO.none _)
      | (with_reducible refine LeO.ite ?_ ?_)
      | (with_reducible refine LeO.bind ?_ (fun _ => ?_))
      | exact ih0 _ _ _ _ _ _ _
      | exact invoice_bill.mono _ _
      | exact invoice_find.mono _ _ _
      | exact LeO.none _
      | refine LeO.ite ?_ ?_
      | refine LeO.bind ?_ (fun _ => ?_)
set_option maxHeartbeats 8000000 in
set_option maxRecDepth 100000 in
theorem invoice_Create.calls (k : Nat) (A0 : Option Addr) (c0 : Nat) (l0 : List (S34)) (a1 : Int) (a2 : Int) (a3 : Int) (r1 : List (S34)) (r2 : Int) (w : World) (hr0 : Kd.C k34 w A0 l0.length l0) (hc0 : l0.length ≤ c0) (h : invoice_Create.f k l0 a1 a2 a3 = some (r1, r2)) :
    Calls Try.prog 11 #[.slice A0 l0.length c0, .int .u64 a1, .int .u64 a2, .int .u64 a3] w fun e w' => ∃ v0_ : Value, e = .returned (.tuple #[v0_, .int .i64 r2]) ∧ Kd.R k34 34 w' w.heap.size (fun _ => True) v0_ r1 ∧ Below w.heap.size w w' := by
  have hu34 := Try.underlying34
  have HR0 := Aside0.mk hr0
  have HC0 := Aside0.mk hc0
  clear hr0 hc0
  have HB := Aside0.mk (Below.refl w.heap.size w)
  have H : ((invoice_find.f k l0 a1).bind fun bt125 => (if bt125.2 = 1 then (invoice_Create.j0 k l0 a1 a2 a3 bt125.1 bt125.2 true) else ((invoice_bill.f k a2).bind fun t127 => (invoice_Create.j0 k l0 a1 a2 a3 bt125.1 bt125.2 (!t127))))) = some (r1, r2) := h
  clear h
  replace H := Option.bind_eq_some_iff.mp H
  obtain ⟨⟨t125, t126⟩, A50, H⟩ := H
  replace H : (if t126 = 1 then (invoice_Create.j0 k l0 a1 a2 a3 t125 t126 true) else ((invoice_bill.f k a2).bind fun t127 => (invoice_Create.j0 k l0 a1 a2 a3 t125 t126 (!t127)))) = some (r1, r2) := H
  have A5 := Aside0.mk A50
  clear A50
  have HC6 := Aside0.mk H
  clear H
  go_enter Try.func11, Try.ntmps11
  go_upto_region 2 with (first | ((with_reducible refine gate_callee (f := 25) rfl ?_); refine goesL_ (some 15) rfl rfl Try.func25 (by kernel_rfl) rfl #[.slice A0 l0.length c0, .int .u64 a1] rfl (by (try simp only [List.map_toArray, List.map_cons, List.map_nil]); first | done | rfl | (simp only [List.length_drop, List.length_take]; rfl)) ?_; (with_reducible refine (invoice_find.calls k _ _ l0 a1 t125 t126 _ ?side1 ?side2 A5.out).mono ?_); (case side1 => repeat (first | exact HR0.out | (with_reducible refine Kd.C_alloc ?_ _) | (with_reducible refine Kd.C_drewN ?_ _) | (with_reducible refine Kd.C_drew ?_))); (case side2 => exact HC0.out); rintro e w7 ⟨rfl, hb⟩; refine ⟨_, rfl, ?_⟩; have n0_ := Aside0.mk (below_step (belN HB) hb); clear HB; have HB := n0_; clear n0_; (try clear hb); (try clear hb2); (try clear hk); (try clear hi)))
  (try simp only [Act.put, List.setIfInBounds_toArray, List.set_cons_zero, List.set_cons_succ])
  go_cut [18] (fun v18 wc => ∃ (kq : Nat) (x18_5 : Bool), v18 = .bool x18_5 ∧ Aside0 (invoice_Create.j0 kq l0 a1 a2 a3 t125 t126 x18_5 = some (r1, r2)) ∧ Aside0 (kq ≤ k) ∧ Aside0 (Below w.heap.size w wc))
  case first =>
    have H := HC6.out
    clear HC6
    by_cases c8 : t126 = 1
    · rw [if_pos c8] at H
      have c8b0 : (t126 == 1) = true := beq_iff_eq.mpr c8
      have c8b1 : (t126 != 1) = false := bne_eq_false_iff_eq.mpr c8
      clear c8
      (first | rw [c8b0] | (simp only [i64_w, i32_w]; rw [c8b0]) | skip)
      have H' := Aside0.mk H
      clear H
      go_wp2
      go_meet
      case rel => exact ⟨_, (true), (by first | rfl | (simp; done) | (simp [*]; done)), H', ⟨by first | omega | exact Nat.le_refl _⟩, ⟨by repeat (first | (with_reducible first | exact HB.out | apply below_alloc | apply pw_below_drewN | apply below_drew1) | exact HB.out)⟩⟩
    · rw [if_neg c8] at H
      have c8b0 : (t126 == 1) = false := beq_eq_false_iff_ne.mpr c8
      have c8b1 : (t126 != 1) = true := bne_iff_ne.mpr c8
      (first | rw [c8b0] | (simp only [i64_w, i32_w]; rw [c8b0]) | skip)
      replace H := Option.bind_eq_some_iff.mp H
      obtain ⟨t127, A90, H⟩ := H
      replace H : (invoice_Create.j0 k l0 a1 a2 a3 t125 t126 (!t127)) = some (r1, r2) := H
      have A9 := Aside0.mk A90
      clear A90
      have H' := Aside0.mk H
      clear H
      go_wp2_with (first | (go_at_call 26; (with_reducible refine (invoice_bill.calls k a2 t127 _ A9.out).mono ?_); rintro e w10 ⟨rfl, hb⟩; have n0_ := Aside0.mk (below_step (belN HB) hb); clear HB; have HB := n0_; clear n0_; (try clear hb); (try clear hb2); (try clear hk); (try clear hi)))
      go_meet
      case rel => exact ⟨_, (!t127), (by first | rfl | (simp; done) | (simp [*]; done)), H', ⟨by first | omega | exact Nat.le_refl _⟩, ⟨by repeat (first | (with_reducible first | exact HB.out | apply below_alloc | apply pw_below_drewN | apply below_drew1) | exact HB.out)⟩⟩
  case rest =>
    clear HC6
    try clear c1
    try clear c2
    try clear p2
    try clear c8
    try clear c8b0
    try clear c8b1
    obtain ⟨kq, x18_5, rfl, HA, HJ5, HB⟩ := hcut
    cases kq with
    | zero => exact absurd HA.out (by simp [invoice_Create.j0])
    | succ kj5 =>
      have H := HA.out
      clear HA
      simp only [invoice_Create.j0] at H
      by_cases c11 : x18_5 = true
      · subst c11
        have H1 : (some (([] : List (S34)), 1)) = some (r1, r2) := by rw [if_pos rfl] at H; exact H
        clear H
        have H := H1
        clear H1
        simp only [Option.some.injEq, Prod.mk.injEq] at H
        obtain ⟨rfl, rfl⟩ := H
        go_wp2
        go_ret2
        exact ⟨_, by first | rfl | (simp [errW_none, errW_some] <;> rfl) | (simp [*, errW_none, errW_some] <;> rfl), by first | exact Kd.R_nil _ _ _ _ _ | exact Kd.N_nil _ _ _ _ _ | exact Kd.V_nil _ _ _ _ _ | exact Kd.Q_nil _ _ _ _ _ | exact Kd.S_nil _ _ _ _ _, by repeat (first | (with_reducible first | exact HB.out | apply below_alloc | apply pw_below_drewN | apply below_drew1) | exact HB.out)⟩
      · replace c11 := Bool.eq_false_iff.mpr c11
        subst c11
        have H1 : (if t126 = 0 then (some (([] : List (S34)), 6)) else (if (l0.length : Int) = 256 then (some (([] : List (S34)), 7)) else ((slices_Clone_Invoice.f l0).bind fun t128 => ((slices_Insert_Invoice.f t128 t125 (([(⟨a1, a2, a3, 1⟩ : S34)] : List (S34)))).bind fun t134 => (some (t134, 0)))))) = some (r1, r2) := by rw [if_neg (show ¬ (false = true) by decide)] at H; exact H
        clear H
        have H := H1
        clear H1
        by_cases c12 : t126 = 0
        · rw [if_pos c12] at H
          have c12b0 : (t126 == 0) = true := beq_iff_eq.mpr c12
          have c12b1 : (t126 != 0) = false := bne_eq_false_iff_eq.mpr c12
          clear c12
          simp only [Option.some.injEq, Prod.mk.injEq] at H
          obtain ⟨rfl, rfl⟩ := H
          go_wp2
          go_ret2
          exact ⟨_, by first | rfl | (simp [errW_none, errW_some] <;> rfl) | (simp [*, errW_none, errW_some] <;> rfl), by first | exact Kd.R_nil _ _ _ _ _ | exact Kd.N_nil _ _ _ _ _ | exact Kd.V_nil _ _ _ _ _ | exact Kd.Q_nil _ _ _ _ _ | exact Kd.S_nil _ _ _ _ _, by repeat (first | (with_reducible first | exact HB.out | apply below_alloc | apply pw_below_drewN | apply below_drew1) | exact HB.out)⟩
        · rw [if_neg c12] at H
          have c12b0 : (t126 == 0) = false := beq_eq_false_iff_ne.mpr c12
          have c12b1 : (t126 != 0) = true := bne_iff_ne.mpr c12
          by_cases c13 : (l0.length : Int) = 256
          · rw [if_pos c13] at H
            have c13b0 : ((l0.length : Int) == 256) = true := beq_iff_eq.mpr c13
            have c13b1 : ((l0.length : Int) != 256) = false := bne_eq_false_iff_eq.mpr c13
            clear c13
            simp only [Option.some.injEq, Prod.mk.injEq] at H
            obtain ⟨rfl, rfl⟩ := H
            go_wp2
            go_ret2
            exact ⟨_, by first | rfl | (simp [errW_none, errW_some] <;> rfl) | (simp [*, errW_none, errW_some] <;> rfl), by first | exact Kd.R_nil _ _ _ _ _ | exact Kd.N_nil _ _ _ _ _ | exact Kd.V_nil _ _ _ _ _ | exact Kd.Q_nil _ _ _ _ _ | exact Kd.S_nil _ _ _ _ _, by repeat (first | (with_reducible first | exact HB.out | apply below_alloc | apply pw_below_drewN | apply below_drew1) | exact HB.out)⟩
          · rw [if_neg c13] at H
            have c13b0 : ((l0.length : Int) == 256) = false := beq_eq_false_iff_ne.mpr c13
            have c13b1 : ((l0.length : Int) != 256) = true := bne_iff_ne.mpr c13
            replace H := Option.bind_eq_some_iff.mp H
            obtain ⟨t128, A140, H⟩ := H
            replace H : ((slices_Insert_Invoice.f t128 t125 (([(⟨a1, a2, a3, 1⟩ : S34)] : List (S34)))).bind fun t134 => (some (t134, 0))) = some (r1, r2) := H
            have A14 := Aside0.mk A140
            clear A140
            obtain ⟨y131, hy131⟩ : ∃ y_ : List (S34), y_ = (([(⟨a1, a2, a3, 1⟩ : S34)] : List (S34))) := ⟨_, rfl⟩
            replace H : ((slices_Insert_Invoice.f t128 t125 y131).bind fun t134 => (some (t134, 0))) = some (r1, r2) := by first | (rw [hy131]; with_reducible exact H) | (have H2_ := (Option.bind_some _ _).symm.trans H; rw [hy131]; with_reducible exact H2_) | (have H2_ := (Option.bind_some _ _).symm.trans H; with_reducible exact H2_) | with_reducible exact H | (rw [hy131]; exact H) | exact H
            have Ny131 := Aside0.mk hy131
            clear hy131
            replace H := Option.bind_eq_some_iff.mp H
            obtain ⟨t134, A150, H⟩ := H
            replace H : (some (t134, 0)) = some (r1, r2) := H
            have A15 := Aside0.mk A150
            clear A150
            simp only [Option.some.injEq, Prod.mk.injEq] at H
            obtain ⟨rfl, rfl⟩ := H
            go_wp2_with (first | ((with_reducible refine gate_callee (f := 28) rfl ?_); refine goesL_ (some 34) rfl rfl Try.func28 (by kernel_rfl) rfl #[.slice A0 l0.length c0] rfl (by (try simp only [List.map_toArray, List.map_cons, List.map_nil]); first | done | rfl | (simp only [List.length_drop, List.length_take]; rfl)) ?_; (with_reducible refine (slices_Clone_Invoice.calls _ _ l0 t128 _ ?side1 ?side2 A14.out).mono ?_); (case side1 => repeat (first | exact (Kd.C_below HR0.out HB.out) | (with_reducible refine Kd.C_alloc ?_ _) | (with_reducible refine Kd.C_drewN ?_ _) | (with_reducible refine Kd.C_drew ?_))); (case side2 => exact HC0.out); rintro e w16 ⟨v129, rfl, ho0, hb⟩; refine ⟨_, rfl, ?_⟩; have n0_ := Aside0.mk (Kd.R_lower ho0 (below_size (belN HB))); have n1_ := Aside0.mk (below_step (belN HB) hb); clear HB; have HO130 := n0_; have HB := n1_; clear n0_ n1_; (try clear hb); (try clear hb2); (try clear hk); (try clear hi); (try clear ho0)) | ((with_reducible refine gate_dst (N := 40) rfl ?_); refine Kd.R_lit k34 _ 34 ?hg (N := 40) ?hd (xs := ([(⟨a1, a2, a3, 1⟩ : S34)] : List (S34))) (inner := [.int .u64 a1, .int .u64 a2, .int .u64 a3, .int .i64 1]) (ok := fun _ => True) (okp := fun _ => True) ?hr ?hp (fun _ hk => hk) trivial (Below.refl _ _) (Nat.le_refl _) (by simp) ?_; (case hd => rfl); (case hg => rfl); (case hr => first | (go_simp; done) | (go_simp; rfl)); (case hp => exact (Reps.c4 (show Kd.M k34 _ _ _ (⟨a1, a2, a3, 1⟩ : S34) [.int .u64 a1, .int .u64 a2, .int .u64 a3, .int .i64 1] from (k34_mkM _ _ _ (⟨a1, a2, a3, 1⟩ : S34) )) (Reps.none _ _))); intro v132 w17 ho18 hb hg_ hnew_; clear hg_ hnew_; (first | rw [← Ny131.out] at ho18 | (simp only [Int.reduceToNat] at ho18; rw [← Ny131.out] at ho18)); have n0_ := Aside0.mk (Kd.R_elder' (Kd.RN HO130) (Kd.R_base ho18) hb); have n1_ := Aside0.mk (Kd.R_lower (Kd.R_new' ho18 (Kd.R_lt (Kd.RN HO130))) (below_size (belN HB))); have n2_ := Aside0.mk (below_step (belN HB) hb); clear HO130; clear HB; have HO130 := n0_; have HO133 := n1_; have HB := n2_; clear n0_ n1_ n2_; clear hb ho18; obtain ⟨Ao19, co19, eo19⟩ := Kd.R_slice HO130.out; subst eo19; obtain ⟨Ao20, co20, eo20⟩ := Kd.R_slice HO133.out; subst eo20) | ((with_reducible refine gate_callee (f := 27) rfl ?_); refine goesL_ (some 41) rfl rfl Try.func27 (by kernel_rfl) rfl #[.slice Ao19 t128.length co19, .int .i64 t125, .slice Ao20 y131.length co20] rfl (by (try simp only [List.map_toArray, List.map_cons, List.map_nil]); first | done | rfl | (simp only [List.length_drop, List.length_take]; rfl)) ?_; (with_reducible refine (slices_Insert_Invoice.calls (fun k_ => some k_ = (.slice Ao19 t128.length co19 : Value).ownBlock) (.slice Ao19 t128.length co19) t128 t125 (fun k_ => some k_ = (.slice Ao20 y131.length co20 : Value).ownBlock) (.slice Ao20 y131.length co20) y131 t134 w _ ?side1 ?side2 ?side3 ?side4 ?side5 A15.out).mono ?_); (case side1 => repeat (first | (with_reducible first | exact HB.out | apply below_alloc | apply pw_below_drewN | apply below_drew1) | exact HB.out)); (case side2 => exact Kd.R_tight rfl HO130.out); (case side3 => exact fun k_ e_ => (HO130.out.1 k_ e_.symm).2); (case side4 => exact Kd.R_tight rfl HO133.out); (case side5 => exact fun k_ e_ => (HO133.out.1 k_ e_.symm).2); rintro e w21 ⟨v135, rfl, ho0, hb, hkp⟩; refine ⟨_, rfl, ?_⟩; have n0_ := Aside0.mk (Kd.R_mono (ok' := fun k_ => True) ho0 (fun k_ hk_ => trivial)); have n1_ := Aside0.mk (hb); clear HB; clear HO130; clear HO133; have HO136 := n0_; have HB := n1_; clear n0_ n1_; (try clear hb); (try clear hkp); (try clear ho0)))
            go_ret2
            exact ⟨_, by first | rfl | (simp [errW_none, errW_some] <;> rfl) | (simp [*, errW_none, errW_some] <;> rfl), by (with_reducible repeat (first | apply Kd.R_alloc | apply Kd.R_drewN | apply Kd.R_drew)); exact HO136.out, by repeat (first | (with_reducible first | exact HB.out | apply below_alloc | apply pw_below_drewN | apply below_drew1) | exact HB.out)⟩

/-! ### invoice_now: function 29 -/
def invoice_now.f (a0_0 : Int) (a0_1 : Int) (a0_2 : Int) (a0_3 : Int) (a1 : Int) : Option (Int) := if a0_3 = 1 then (if a1 > a0_2 then (some 4) else (some a0_3)) else (some a0_3)
set_option maxHeartbeats 8000000 in
set_option maxRecDepth 100000 in
theorem invoice_now.calls (a0_0 : Int) (a0_1 : Int) (a0_2 : Int) (a0_3 : Int) (a1 : Int) (r : Int) (w : World) (h : invoice_now.f a0_0 a0_1 a0_2 a0_3 a1 = some r) :
    Calls Try.prog 29 #[.agg #[.int .u64 a0_0, .int .u64 a0_1, .int .u64 a0_2, .int .i64 a0_3], .int .u64 a1] w fun e w' => e = .returned (.int .i64 r) ∧ Below w.heap.size w w' := by
  have hu34 := Try.underlying34
  have HB := Aside0.mk (Below.refl w.heap.size w)
  have H : (if a0_3 = 1 then (if a1 > a0_2 then (some 4) else (some a0_3)) else (some a0_3)) = some r := h
  clear h
  by_cases c3 : a0_3 = 1
  · rw [if_pos c3] at H
    have c3b0 : (a0_3 == 1) = true := beq_iff_eq.mpr c3
    have c3b1 : (a0_3 != 1) = false := bne_eq_false_iff_eq.mpr c3
    clear c3
    by_cases c4 : a1 > a0_2
    · rw [if_pos c4] at H
      have c4b0 : decide (a0_2 < a1) = true := decide_eq_true c4
      clear c4
      obtain rfl := Option.some.inj H
      go_enter Try.func29, Try.ntmps29
      go_wp2_with (first | ((with_reducible refine gate_dst (N := 2) rfl ?_); refine box_event ?hg (N := 2) ?hd (cs := #[.int .u64 a0_0, .int .u64 a0_1, .int .u64 a0_2, .int .i64 a0_3]) (t := 34) ?hr ?_; (case hd => rfl); (case hg => rfl); (case hr => first | (go_simp; done) | (go_simp; rfl)); intro gb137 hg w5 hbox hb; have n0_ := Aside0.mk (below_step (belN HB) hb); have n1_ := Aside0.mk (hbox); have n2_ := Aside0.mk ((by rw [hg]; exact (below_size (belN HB)) : w.heap.size ≤ gb137)); have n3_ := Aside0.mk ((by rw [hg]; exact (below_size (belN HB)) : w.heap.size ≤ gb137)); clear HB; have HB := n0_; have BK137 := n1_; have GW137 := n2_; have GE137 := n3_; clear n0_ n1_ n2_ n3_; clear hb hbox hg; obtain ⟨hcz6_0, hcz6_1, hcz6_2, hcz6_3, hfz6_0, hfz6_1, hfz6_2, hfz6_3⟩ := cz4_ (w := w5) BK137.out))
      go_ret
      exact ⟨by first | rfl | (simp [errW_none, errW_some] <;> rfl) | (simp [*, errW_none, errW_some] <;> rfl), by repeat (first | (with_reducible first | exact HB.out | apply below_alloc | apply pw_below_drewN | apply below_drew1 | refine below_set ?_ GE137.out) | exact HB.out)⟩
    · rw [if_neg c4] at H
      have c4b0 : decide (a0_2 < a1) = false := decide_eq_false c4
      clear c4
      obtain rfl := Option.some.inj H
      go_enter Try.func29, Try.ntmps29
      go_wp2_with (first | ((with_reducible refine gate_dst (N := 2) rfl ?_); refine box_event ?hg (N := 2) ?hd (cs := #[.int .u64 a0_0, .int .u64 a0_1, .int .u64 a0_2, .int .i64 a0_3]) (t := 34) ?hr ?_; (case hd => rfl); (case hg => rfl); (case hr => first | (go_simp; done) | (go_simp; rfl)); intro gb137 hg w7 hbox hb; have n0_ := Aside0.mk (below_step (belN HB) hb); have n1_ := Aside0.mk (hbox); have n2_ := Aside0.mk ((by rw [hg]; exact (below_size (belN HB)) : w.heap.size ≤ gb137)); have n3_ := Aside0.mk ((by rw [hg]; exact (below_size (belN HB)) : w.heap.size ≤ gb137)); clear HB; have HB := n0_; have BK137 := n1_; have GW137 := n2_; have GE137 := n3_; clear n0_ n1_ n2_ n3_; clear hb hbox hg; obtain ⟨hcz8_0, hcz8_1, hcz8_2, hcz8_3, hfz8_0, hfz8_1, hfz8_2, hfz8_3⟩ := cz4_ (w := w7) BK137.out))
      go_ret
      exact ⟨by first | rfl | (simp [errW_none, errW_some] <;> rfl) | (simp [*, errW_none, errW_some] <;> rfl), by repeat (first | (with_reducible first | exact HB.out | apply below_alloc | apply pw_below_drewN | apply below_drew1 | refine below_set ?_ GE137.out) | exact HB.out)⟩
  · rw [if_neg c3] at H
    have c3b0 : (a0_3 == 1) = false := beq_eq_false_iff_ne.mpr c3
    have c3b1 : (a0_3 != 1) = true := bne_iff_ne.mpr c3
    obtain rfl := Option.some.inj H
    go_enter Try.func29, Try.ntmps29
    go_wp2_with (first | ((with_reducible refine gate_dst (N := 2) rfl ?_); refine box_event ?hg (N := 2) ?hd (cs := #[.int .u64 a0_0, .int .u64 a0_1, .int .u64 a0_2, .int .i64 a0_3]) (t := 34) ?hr ?_; (case hd => rfl); (case hg => rfl); (case hr => first | (go_simp; done) | (go_simp; rfl)); intro gb137 hg w9 hbox hb; have n0_ := Aside0.mk (below_step (belN HB) hb); have n1_ := Aside0.mk (hbox); have n2_ := Aside0.mk ((by rw [hg]; exact (below_size (belN HB)) : w.heap.size ≤ gb137)); have n3_ := Aside0.mk ((by rw [hg]; exact (below_size (belN HB)) : w.heap.size ≤ gb137)); clear HB; have HB := n0_; have BK137 := n1_; have GW137 := n2_; have GE137 := n3_; clear n0_ n1_ n2_ n3_; clear hb hbox hg; obtain ⟨hcz10_0, hcz10_1, hcz10_2, hcz10_3, hfz10_0, hfz10_1, hfz10_2, hfz10_3⟩ := cz4_ (w := w9) BK137.out))
    go_ret
    exact ⟨by first | rfl | (simp [errW_none, errW_some] <;> rfl) | (simp [*, errW_none, errW_some] <;> rfl), by repeat (first | (with_reducible first | exact HB.out | apply below_alloc | apply pw_below_drewN | apply below_drew1 | refine below_set ?_ GE137.out) | exact HB.out)⟩

/-! ### invoice_State: function 12 -/
def invoice_State.f (k : Nat) (l0 : List (S34)) (a1 : Int) (a2 : Int) : Option (Int × Int) := (invoice_find.f k l0 a1).bind fun bt138 => (if bt138.2 = 0 then (if 0 ≤ bt138.1 then (if bt138.1 < (l0.length : Int) then ((invoice_now.f ((rd_T34 l0 bt138.1).f0) ((rd_T34 l0 bt138.1).f1) ((rd_T34 l0 bt138.1).f2) ((rd_T34 l0 bt138.1).f3) a2).bind fun t141 => (some (t141, 0))) else (none)) else (none)) else (some (0, bt138.2)))
theorem invoice_State.mono : ∀ a0 a1 a2 k, LeO (invoice_State.f k a0 a1 a2) (invoice_State.f (k + 1) a0 a1 a2) := by
  intro a0 a1 a2 k
  unfold invoice_State.f
  repeat' first
      | (with_reducible exact invoice_find.mono _ _ _)
      | (with_reducible exact LeO.refl _)
      | (with_reducible exact LeO.none _)
      | (with_reducible refine LeO.ite ?_ ?_)
      | (with_reducible refine LeO.bind ?_ (fun _ => ?_))
      | exact invoice_find.mono _ _ _
      | exact LeO.none _
      | refine LeO.ite ?_ ?_
      | refine LeO.bind ?_ (fun _ => ?_)
set_option maxHeartbeats 8000000 in
set_option maxRecDepth 100000 in
theorem invoice_State.calls (k : Nat) (A0 : Option Addr) (c0 : Nat) (l0 : List (S34)) (a1 : Int) (a2 : Int) (r1 : Int) (r2 : Int) (w : World) (hr0 : Kd.C k34 w A0 l0.length l0) (hc0 : l0.length ≤ c0) (h : invoice_State.f k l0 a1 a2 = some (r1, r2)) :
    Calls Try.prog 12 #[.slice A0 l0.length c0, .int .u64 a1, .int .u64 a2] w fun e w' => e = .returned (.tuple #[.int .i64 r1, .int .i64 r2]) ∧ Below w.heap.size w w' := by
  have hu34 := Try.underlying34
  have HR0 := Aside0.mk hr0
  have HC0 := Aside0.mk hc0
  clear hr0 hc0
  have HB := Aside0.mk (Below.refl w.heap.size w)
  have H : ((invoice_find.f k l0 a1).bind fun bt138 => (if bt138.2 = 0 then (if 0 ≤ bt138.1 then (if bt138.1 < (l0.length : Int) then ((invoice_now.f ((rd_T34 l0 bt138.1).f0) ((rd_T34 l0 bt138.1).f1) ((rd_T34 l0 bt138.1).f2) ((rd_T34 l0 bt138.1).f3) a2).bind fun t141 => (some (t141, 0))) else (none)) else (none)) else (some (0, bt138.2)))) = some (r1, r2) := h
  clear h
  replace H := Option.bind_eq_some_iff.mp H
  obtain ⟨⟨t138, t139⟩, A40, H⟩ := H
  replace H : (if t139 = 0 then (if 0 ≤ t138 then (if t138 < (l0.length : Int) then ((invoice_now.f ((rd_T34 l0 t138).f0) ((rd_T34 l0 t138).f1) ((rd_T34 l0 t138).f2) ((rd_T34 l0 t138).f3) a2).bind fun t141 => (some (t141, 0))) else (none)) else (none)) else (some (0, t139))) = some (r1, r2) := H
  have A4 := Aside0.mk A40
  clear A40
  by_cases c5 : t139 = 0
  · rw [if_pos c5] at H
    have c5b0 : (t139 == 0) = true := beq_iff_eq.mpr c5
    have c5b1 : (t139 != 0) = false := bne_eq_false_iff_eq.mpr c5
    clear c5
    by_cases c6 : 0 ≤ t138
    · rw [if_pos c6] at H
      have c6b0 : decide (0 ≤ t138) = true := decide_eq_true c6
      clear c6
      by_cases c7 : t138 < (l0.length : Int)
      · rw [if_pos c7] at H
        have c7b0 : decide (t138 < (l0.length : Int)) = true := decide_eq_true c7
        clear c7
        replace H := Option.bind_eq_some_iff.mp H
        obtain ⟨t141, A80, H⟩ := H
        replace H : (some (t141, 0)) = some (r1, r2) := H
        have A8 := Aside0.mk A80
        clear A80
        simp only [Option.some.injEq, Prod.mk.injEq] at H
        obtain ⟨rfl, rfl⟩ := H
        go_enter Try.func12, Try.ntmps12
        go_wp2_with (first | ((with_reducible refine gate_callee (f := 25) rfl ?_); refine goesL_ (some 13) rfl rfl Try.func25 (by kernel_rfl) rfl #[.slice A0 l0.length c0, .int .u64 a1] rfl (by (try simp only [List.map_toArray, List.map_cons, List.map_nil]); first | done | rfl | (simp only [List.length_drop, List.length_take]; rfl)) ?_; (with_reducible refine (invoice_find.calls k _ _ l0 a1 t138 t139 _ ?side1 ?side2 A4.out).mono ?_); (case side1 => repeat (first | exact HR0.out | (with_reducible refine Kd.C_alloc ?_ _) | (with_reducible refine Kd.C_drewN ?_ _) | (with_reducible refine Kd.C_drew ?_))); (case side2 => exact HC0.out); rintro e w9 ⟨rfl, hb⟩; refine ⟨_, rfl, ?_⟩; have n0_ := Aside0.mk (below_step (belN HB) hb); clear HB; have HB := n0_; clear n0_; (try clear hb); (try clear hb2); (try clear hk); (try clear hi); have p140 : 0 ≤ (t138 : Int) := of_decide_eq_true (by first | (with_reducible assumption) | assumption); have q140 : t138 < (l0.length : Int) := of_decide_eq_true (by first | (with_reducible assumption) | assumption); obtain ⟨ad140, e140, hx140_0, hx140_1, hx140_2, hx140_3⟩ := at_T34 HR0.out t138 p140 q140; cases e140; replace hx140_0 := (HB.out.cell (World.block_lt_of_cell? w _ hx140_0)).trans hx140_0; replace hx140_1 := (HB.out.cell (World.block_lt_of_cell? w _ hx140_1)).trans hx140_1; replace hx140_2 := (HB.out.cell (World.block_lt_of_cell? w _ hx140_2)).trans hx140_2; replace hx140_3 := (HB.out.cell (World.block_lt_of_cell? w _ hx140_3)).trans hx140_3; replace p140 := eq_true p140; replace q140 := eq_true q140) | ((with_reducible refine gate_callee (f := 29) rfl ?_); refine goesL_ (some 24) rfl rfl Try.func29 (by kernel_rfl) rfl #[.agg #[.int .u64 ((rd_T34 l0 t138).f0), .int .u64 ((rd_T34 l0 t138).f1), .int .u64 ((rd_T34 l0 t138).f2), .int .i64 ((rd_T34 l0 t138).f3)], .int .u64 a2] rfl (by (try simp only [List.map_toArray, List.map_cons, List.map_nil]); first | done | rfl | (simp only [List.length_drop, List.length_take]; rfl)) ?_; (with_reducible refine (invoice_now.calls ((rd_T34 l0 t138).f0) ((rd_T34 l0 t138).f1) ((rd_T34 l0 t138).f2) ((rd_T34 l0 t138).f3) a2 t141 _ A8.out).mono ?_); rintro e w10 ⟨rfl, hb⟩; refine ⟨_, rfl, ?_⟩; have n0_ := Aside0.mk (below_step (belN HB) hb); clear HB; have HB := n0_; clear n0_; (try clear hb); (try clear hb2); (try clear hk); (try clear hi)))
        go_ret2
        exact ⟨by first | rfl | (simp [errW_none, errW_some] <;> rfl) | (simp [*, errW_none, errW_some] <;> rfl), by repeat (first | (with_reducible first | exact HB.out | apply below_alloc | apply pw_below_drewN | apply below_drew1) | exact HB.out)⟩
      · rw [if_neg c7] at H
        exact absurd H (by simp)
    · rw [if_neg c6] at H
      exact absurd H (by simp)
  · rw [if_neg c5] at H
    have c5b0 : (t139 == 0) = false := beq_eq_false_iff_ne.mpr c5
    have c5b1 : (t139 != 0) = true := bne_iff_ne.mpr c5
    simp only [Option.some.injEq, Prod.mk.injEq] at H
    obtain ⟨rfl, rfl⟩ := H
    go_enter Try.func12, Try.ntmps12
    go_wp2_with (first | ((with_reducible refine gate_callee (f := 25) rfl ?_); refine goesL_ (some 13) rfl rfl Try.func25 (by kernel_rfl) rfl #[.slice A0 l0.length c0, .int .u64 a1] rfl (by (try simp only [List.map_toArray, List.map_cons, List.map_nil]); first | done | rfl | (simp only [List.length_drop, List.length_take]; rfl)) ?_; (with_reducible refine (invoice_find.calls k _ _ l0 a1 t138 t139 _ ?side1 ?side2 A4.out).mono ?_); (case side1 => repeat (first | exact HR0.out | (with_reducible refine Kd.C_alloc ?_ _) | (with_reducible refine Kd.C_drewN ?_ _) | (with_reducible refine Kd.C_drew ?_))); (case side2 => exact HC0.out); rintro e w11 ⟨rfl, hb⟩; refine ⟨_, rfl, ?_⟩; have n0_ := Aside0.mk (below_step (belN HB) hb); clear HB; have HB := n0_; clear n0_; (try clear hb); (try clear hb2); (try clear hk); (try clear hi)))
    go_ret2
    exact ⟨by first | rfl | (simp [errW_none, errW_some] <;> rfl) | (simp [*, errW_none, errW_some] <;> rfl), by repeat (first | (with_reducible first | exact HB.out | apply below_alloc | apply pw_below_drewN | apply below_drew1) | exact HB.out)⟩

end Go.Proofs.Ytlpdgagohafmaaa.P
