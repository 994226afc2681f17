-- written by a program of this session (wip/print)
import Derived.Test.YtcfbcoinbecdfaaQPholdsx0
import Derived.Test.YtcfbcoinbecdfaaQPholdsx1
import Derived.Test.YtcfbcoinbecdfaaQPholdsx3
import Derived.Test.YtcfbcoinbecdfaaQPholdsx5
import Derived.Test.YtcfbcoinbecdfaaQPholdsx6
namespace Go.Proofs.Ytcfbcoinbecdfaa.P
open Go.RowKit Go.Proofs.YtcfbcoinbecdfaaW.PrintWords Go.Proofs.YtcfbcoinbecdfaaW.PrintLast Go.Proofs.YtcfbcoinbecdfaaW.PrintMore
attribute [local go_sem] max2_int min2_int max_two min_two max_three min_three max_four min_four run_sub64_   -- for this text's walks alone
set_option linter.unusedVariables false
set_option linter.unusedSimpArgs false

/-! ### slices_Delete_Hold: function 133 (by hand) -/
def slices_Delete_Hold.f (l0 : List (S44)) (a1 : Int) (a2 : Int) : Option (List (S44)) := if 0 ≤ a1 ∧ a1 < (l0.length : Int) ∧ a2 = wrap64 (a1 + 1) ∧ l0.length ≤ 140737488355328 then (some (l0.eraseIdx a1.toNat)) else (none)
set_option maxHeartbeats 8000000 in
set_option maxRecDepth 100000 in
theorem slices_Delete_Hold.calls (P0_ : Nat → Prop) (u9000_ : Value) (l0 : List (S44)) (a1 : Int) (a2 : Int) (r : List (S44)) (w0 w : World) (hB : Below w0.heap.size w0 w) (ho0 : Kd.R k44 44 w w0.heap.size P0_ u9000_ l0) (h : slices_Delete_Hold.f l0 a1 a2 = some r) :
    Calls Try.prog 133 #[u9000_, .int .i64 a1, .int .i64 a2] w fun e w' => ∃ v0_ : Value, e = .returned (v0_) ∧ Kd.R k44 44 w' w0.heap.size (fun k_ => (P0_ k_ ∨ w.heap.size ≤ k_)) v0_ r ∧ Below w0.heap.size w0 w' ∧ Kept w w' (fun k_ => P0_ k_) := by
  unfold slices_Delete_Hold.f at h
  by_cases hc : 0 ≤ a1 ∧ a1 < (l0.length : Int) ∧ a2 = wrap64 (a1 + 1) ∧ l0.length ≤ 140737488355328
  · rw [if_pos hc] at h
    obtain ⟨c1, c2, c3, c4⟩ := hc
    obtain rfl := Option.some.inj h
    clear h
    obtain ⟨i, rfl⟩ := Int.eq_ofNat_of_zero_le c1
    have hi : i < l0.length := by omega
    have c5 : a2 = (i : Int) + 1 := by rw [c3]; unfold wrap64; omega
    subst c5
    rw [Int.toNat_natCast]
    obtain ⟨i0, hi0, _, hsz0, _⟩ := info_parts info44
    have hsz : Kd.sz k44 = 2 := rfl
    have ho := ho0
    obtain ⟨hb0, in0, hown0, hr0⟩ := ho0
    obtain ⟨n, hn⟩ : ∃ n, n = l0.length := ⟨_, rfl⟩
    rcases hown0 with ⟨hl0, ⟨rfl, h0⟩ | ⟨g, cap, cur, rfl, hgb, hg, hnc, hcm, hcs, hct⟩⟩
    · omega
    · have hA : (if cap = i + 1 then some (⟨g, 0, none⟩ : Addr) else some ⟨g, (i + 1) * 2, none⟩) = if cap = i + 1 then some ⟨g, 0, none⟩ else (some (⟨g, 0, none⟩ : Addr)).map (·.add ((i + 1) * Kd.sz k44)) := by
        split
        · rfl
        · simp [hsz, Addr.add]
      obtain ⟨w1, hrun, hR1, hgr1⟩ := Kd.R_delete_run (P := Try.prog) k44 w0.heap.size 23 23 44 i0 Try.underlying23 hi0 (by rw [hsz0]; rfl) (W := w.drew) (Kd.R_drew ho) hi hA (cap - (i + 1))
      have hR1' := hR1
      obtain ⟨_, in1, hown1, _⟩ := hR1'
      rcases hown1 with ⟨hl1, ⟨e1, _⟩ | ⟨g1, cap1, cur1, e1, hgb1, hg1, hnc1, hcm1, hcs1, hct1⟩⟩
      · cases e1
      injection e1 with e1 _ e2
      injection e1 with e1
      injection e1 with e1
      subst e1; subst e2
      obtain ⟨zs, hzs⟩ : ∃ zs, zs = (Builtin.zeroCells ((.agg #[(.int .u64 0), (.int .u64 0)]) : Value).cells 1).toList := ⟨_, rfl⟩
      have hzl : zs.length = 2 := by rw [hzs]; simp [Builtin.zeroCells, Value.cells]
      have hz1 : ∀ v ∈ zs, v.oneCell' = true := by
        have hall : (Builtin.zeroCells ((.agg #[(.int .u64 0), (.int .u64 0)]) : Value).cells 1).toList.all (fun v => v.oneCell') = true := by simp [Builtin.zeroCells, Value.cells]; decide
        rw [hzs]; exact List.all_eq_true.1 hall
      have hzv : ∀ w, (zeroValue 44).run Try.prog w = .ok ((.agg #[(.int .u64 0), (.int .u64 0)])) w := fun _ => by kernel_rfl
      obtain ⟨cur2, hcur2⟩ : ∃ cur2, cur2 = (cur1.toList.take ((l0.length - 1) * 2) ++ zs ++ cur1.toList.drop ((l0.length - 1) * 2 + zs.length)).toArray := ⟨_, rfl⟩
      rw [hsz] at hcs1
      have hclr : ∀ ty c, (Builtin.clear_ #[23] ty #[.slice (some ⟨g, (l0.length - 1) * 2, none⟩) 1 c]).run Try.prog w1 = .ok (.tuple #[]) (w1.setRow g cur2) := fun ty c => by
        rw [hcur2]
        exact run_clear_rowK w1 23 44 ty _ Try.underlying23 hzv g ((l0.length - 1) * 2) 1 c (by omega) cur1 44 hg1 zs hzs (by rw [hzl, hcs1]; omega) hz1
      have hc2s : cur2.size = cur1.size := by have hq := Array.length_toList (xs := cur1); rw [hcur2]; simp only [List.size_toArray, List.length_append, List.length_take, List.length_drop]; omega
      have hc2t : cur2.toList.take ((l0.length - 1) * Kd.sz k44) = cur1.toList.take ((l0.length - 1) * Kd.sz k44) := by
        rw [hsz, hcur2]
        show List.take _ (List.take _ cur1.toList ++ zs ++ _) = _
        rw [List.append_assoc, List.take_append_of_le_length (by rw [List.length_take, Array.length_toList (xs := cur1)]; omega), List.take_take, Nat.min_self]
      have hR2 := Kd_R_past hR1 hg1 hc2s hc2t
      have hgr : w.grownBy (w1.setRow g cur2) (some g) := grown_trans (show w.grownBy w1 (some g) from ⟨hgr1.os, hgr1.tape, hgr1.output, hgr1.size, hgr1.block⟩) (grown_setRow w1 g cur2)
      have hBf : Below w0.heap.size w0 (w1.setRow g cur2) := hB.grown hgr hB.size (fun k hk => by injection hk with hk; omega)
      have hKf : Kept w (w1.setRow g cur2) (fun k_ => P0_ k_) := Kept.of_grown (S := fun k_ => P0_ k_) hgr (Kept.refl w _) (fun k_ e_ => .inl (hb0 k_ e_))
      have hRf := Kd.R_mono (ok' := fun k_ => P0_ k_ ∨ w.heap.size ≤ k_) hR2 (fun k_ hk => .inl hk)
      rw [← hn] at hi hnc hrun hclr hRf ⊢
      unfold maxLen at hcm
      have q1 : (0 : Int) ≤ (i : Int) := by omega
      have q2 : (0 : Int) ≤ (i : Int) + 1 := by omega
      have q3 : (i : Int) + 1 ≤ (n : Int) := by omega
      have q4 : (i : Int) ≤ (i : Int) + 1 := by omega
      have q5 : (i : Int) ≤ (n : Int) := by omega
      have q6 : ((i : Int) + 1).toNat = i + 1 := by omega
      have q7 : ¬ ((i : Int) = (i : Int) + 1) := by omega
      have q8 : ¬ (cap = n - 1) := by omega
      have q9 : ¬ (n = i) := by omega
      have q10 : n - (n - 1) = 1 := by omega
      have q11 : (i : Int) ≤ (cap : Int) := by omega
      have q12 : ((n - 1 : Nat) : Int) ≤ (n : Int) := by omega
      have q13 : (n : Int) ≤ (cap : Int) := by omega
      have q14 : i ≤ n := by omega
      clear hcur2 hc2s hc2t hR2 hgr hR1 hgr1 hg1 hcs1 hct1 hl1 hzs hzl hz1 hg hcs hct hl0 hr0 ho hb0 c1 c2 c3 c4 hn hA
      by_cases q15 : cap = i + 1
      · subst q15
        have q16 : n - (i + 1) = 0 := by omega
        go_enter Try.func133, Try.ntmps133
        go_wp2
        go_region_law (refine step_append_run rfl _ _ 23 23 rfl _ _ (by simp [Act.eval, Act.put, q16]) (by simp [Act.eval, Act.put, q16]) (hrun) ?_)
        go_wp2_with (at_builtin; refine wpList_clear_run _ rfl _ 23 rfl _ rfl (hclr _ _) ?_)
        go_ret
        exact ⟨_, rfl, hRf, hBf, hKf⟩
      · skip
        go_enter Try.func133, Try.ntmps133
        go_wp2
        go_region_law (refine step_append_run rfl _ _ 23 23 rfl _ _ (by simp [Act.eval, Act.put, q15]) (by simp [Act.eval, Act.put, q15]) (hrun) ?_)
        go_wp2_with (at_builtin; refine wpList_clear_run _ rfl _ 23 rfl _ rfl (hclr _ _) ?_)
        go_ret
        exact ⟨_, rfl, hRf, hBf, hKf⟩
  · rw [if_neg hc] at h
    exact absurd h (by simp)

-- NOT PRINTED: function 90 (channel_end)

/-! ### channel_Fail_1: function 91 (by hand) -/
def channel_Fail_1.f : Option (Unit) := some ()
theorem channel_Fail_1.calls {g : Nat} (w : World) (h : channel_Fail_1.f = some ()) :
    Calls Try.prog 91 #[.pointer (some ⟨g, 0, none⟩)] w fun e w' => e = .returned (.pointer (some ⟨g, 1, none⟩)) ∧ Drawn0 w w' := by
  go_enter Try.func91, Try.ntmps91
  go_wp2
  go_ret
  exact ⟨rfl, 0, rfl⟩

/-! ### channel_end_at_channel_Fail_1: function 165 -/
def channel_end_at_channel_Fail_1.f (k : Nat) (a0_0 : Int) (a0_1 : Int) (a0_2 : Int) (a0_3 : Int) (a0_4 : Int) (l0_5 : List (S44)) (a0_6 : Bool) (a1 : Int)  : Option (Int × Int × Int × Int × Int × (List (S44)) × Bool × Int × Int) := (channel_Check.f k a0_0 a0_1 a0_2 a0_3 a0_4 l0_5 a0_6).bind fun t179 => (if t179 = 0 then ((slices_BinarySearchFunc_uint64_at_channel_order.f k l0_5 a1).bind fun bt180 => (if bt180.2 = true then (if 0 ≤ bt180.1 then (if bt180.1 < (l0_5.length : Int) then ((slices_Clone_Hold.f l0_5).bind fun t183 => ((slices_Delete_Hold.f t183 bt180.1 (wrap64 (bt180.1 + 1))).bind fun t186 => ((channel_Fail_1.f).bind fun _ => (some (a0_0, IntKind.u64.wrap (a0_1 + ((rd_T44 l0_5 bt180.1).f1)), a0_2, a0_3, a0_4, t186, a0_6, (rd_T44 l0_5 bt180.1).f1, 0))))) else (none)) else (none)) else (some (0, 0, 0, 0, 0, ([] : List (S44)), false, 0, 5)))) else (some (0, 0, 0, 0, 0, ([] : List (S44)), false, 0, t179)))
theorem channel_end_at_channel_Fail_1.mono : ∀ a0 a1 a2 a3 a4 a5 a6 a7 k, LeO (channel_end_at_channel_Fail_1.f k a0 a1 a2 a3 a4 a5 a6 a7) (channel_end_at_channel_Fail_1.f (k + 1) a0 a1 a2 a3 a4 a5 a6 a7) := by
 intro a0 a1 a2 a3 a4 a5 a6 a7 k
 unfold channel_end_at_channel_Fail_1.f
 repeat' first
   | (with_reducible exact channel_Check.mono _ _ _ _ _ _ _ _)
   | (with_reducible exact slices_BinarySearchFunc_uint64_at_channel_order.mono _ _ _)
   | (with_reducible exact LeO.refl _)
   | (with_reducible exact LeO.none _)
   | (with_reducible refine LeO.ite ?_ ?_)
   | (with_reducible refine LeO.bind ?_ (fun _ => ?_))
   | exact channel_Check.mono _ _ _ _ _ _ _ _
   | exact slices_BinarySearchFunc_uint64_at_channel_order.mono _ _ _
   | exact LeO.none _
   | refine LeO.ite ?_ ?_
   | refine LeO.bind ?_ (fun _ => ?_)
set_option maxHeartbeats 8000000 in
set_option maxRecDepth 100000 in
theorem channel_end_at_channel_Fail_1.calls (k : Nat) (a0_0 : Int) (a0_1 : Int) (a0_2 : Int) (a0_3 : Int) (a0_4 : Int) (A0_5 : Option Addr) (c0_5 : Nat) (l0_5 : List (S44)) (a0_6 : Bool) (a1 : Int)  (r1 : Int) (r2 : Int) (r3 : Int) (r4 : Int) (r5 : Int) (r6 : List (S44)) (r7 : Bool) (r8 : Int) (r9 : Int) (w : World) (hr0_5 : Kd.C k44 w A0_5 l0_5.length l0_5) (hc0_5 : l0_5.length ≤ c0_5) (h : channel_end_at_channel_Fail_1.f k a0_0 a0_1 a0_2 a0_3 a0_4 l0_5 a0_6 a1 = some (r1, r2, r3, r4, r5, r6, r7, r8, r9)) :
  Calls Try.prog 90 #[.agg #[.int .u64 a0_0, .int .u64 a0_1, .int .u64 a0_2, .int .u64 a0_3, .int .u64 a0_4, .slice A0_5 l0_5.length c0_5, .bool a0_6], .int .u64 a1, .func (.func 91) #[] #[]] w fun e w' => ∃ v5_ : Value, e = .returned (.tuple #[.agg #[.int .u64 r1, .int .u64 r2, .int .u64 r3, .int .u64 r4, .int .u64 r5, v5_, .bool r7], .int .u64 r8, .int .i64 r9]) ∧ Kd.R k44 44 w' w.heap.size (fun _ => True) v5_ r6 ∧ Below w.heap.size w w' := by
 have hu25 := Try.underlying25
 have HR0_5 := Aside0.mk hr0_5
 have HC0_5 := Aside0.mk hc0_5
 clear hr0_5 hc0_5
 have HB := Aside0.mk (Below.refl w.heap.size w)
 have H : ((channel_Check.f k a0_0 a0_1 a0_2 a0_3 a0_4 l0_5 a0_6).bind fun t179 => (if t179 = 0 then ((slices_BinarySearchFunc_uint64_at_channel_order.f k l0_5 a1).bind fun bt180 => (if bt180.2 = true then (if 0 ≤ bt180.1 then (if bt180.1 < (l0_5.length : Int) then ((slices_Clone_Hold.f l0_5).bind fun t183 => ((slices_Delete_Hold.f t183 bt180.1 (wrap64 (bt180.1 + 1))).bind fun t186 => ((channel_Fail_1.f).bind fun _ => (some (a0_0, IntKind.u64.wrap (a0_1 + ((rd_T44 l0_5 bt180.1).f1)), a0_2, a0_3, a0_4, t186, a0_6, (rd_T44 l0_5 bt180.1).f1, 0))))) else (none)) else (none)) else (some (0, 0, 0, 0, 0, ([] : List (S44)), false, 0, 5)))) else (some (0, 0, 0, 0, 0, ([] : List (S44)), false, 0, t179)))) = some (r1, r2, r3, r4, r5, r6, r7, r8, r9) := h
 clear h
 replace H := Option.bind_eq_some_iff.mp H
 obtain ⟨t179, A40, H⟩ := H
 replace H : (if t179 = 0 then ((slices_BinarySearchFunc_uint64_at_channel_order.f k l0_5 a1).bind fun bt180 => (if bt180.2 = true then (if 0 ≤ bt180.1 then (if bt180.1 < (l0_5.length : Int) then ((slices_Clone_Hold.f l0_5).bind fun t183 => ((slices_Delete_Hold.f t183 bt180.1 (wrap64 (bt180.1 + 1))).bind fun t186 => ((channel_Fail_1.f).bind fun _ => (some (a0_0, IntKind.u64.wrap (a0_1 + ((rd_T44 l0_5 bt180.1).f1)), a0_2, a0_3, a0_4, t186, a0_6, (rd_T44 l0_5 bt180.1).f1, 0))))) else (none)) else (none)) else (some (0, 0, 0, 0, 0, ([] : List (S44)), false, 0, 5)))) else (some (0, 0, 0, 0, 0, ([] : List (S44)), false, 0, t179))) = some (r1, r2, r3, r4, r5, r6, r7, r8, r9) := H
 have A4 := Aside0.mk A40
 clear A40
 by_cases c5 : t179 = 0
 ·rw [if_pos c5] at H
  have c5b0 : (t179 == 0) = true := beq_iff_eq.mpr c5
  have c5b1 : (t179 != 0) = false := bne_eq_false_iff_eq.mpr c5
  clear c5
  replace H := Option.bind_eq_some_iff.mp H
  obtain ⟨⟨t180, t181⟩, A60, H⟩ := H
  replace H : (if t181 = true then (if 0 ≤ t180 then (if t180 < (l0_5.length : Int) then ((slices_Clone_Hold.f l0_5).bind fun t183 => ((slices_Delete_Hold.f t183 t180 (wrap64 (t180 + 1))).bind fun t186 => ((channel_Fail_1.f).bind fun _ => (some (a0_0, IntKind.u64.wrap (a0_1 + ((rd_T44 l0_5 t180).f1)), a0_2, a0_3, a0_4, t186, a0_6, (rd_T44 l0_5 t180).f1, 0))))) else (none)) else (none)) else (some (0, 0, 0, 0, 0, ([] : List (S44)), false, 0, 5))) = some (r1, r2, r3, r4, r5, r6, r7, r8, r9) := H
  have A6 := Aside0.mk A60
  clear A60
  by_cases c7 : t181 = true
  ·subst c7
   have H1 : (if 0 ≤ t180 then (if t180 < (l0_5.length : Int) then ((slices_Clone_Hold.f l0_5).bind fun t183 => ((slices_Delete_Hold.f t183 t180 (wrap64 (t180 + 1))).bind fun t186 => ((channel_Fail_1.f).bind fun _ => (some (a0_0, IntKind.u64.wrap (a0_1 + ((rd_T44 l0_5 t180).f1)), a0_2, a0_3, a0_4, t186, a0_6, (rd_T44 l0_5 t180).f1, 0))))) else (none)) else (none)) = some (r1, r2, r3, r4, r5, r6, r7, r8, r9) := by rw [if_pos rfl] at H; exact H
   clear H
   have H := H1
   clear H1
   by_cases c8 : 0 ≤ t180
   ·rw [if_pos c8] at H
    have c8b0 : decide (0 ≤ t180) = true := decide_eq_true c8
    clear c8
    by_cases c9 : t180 < (l0_5.length : Int)
    ·rw [if_pos c9] at H
     have c9b0 : decide (t180 < (l0_5.length : Int)) = true := decide_eq_true c9
     clear c9
     replace H := Option.bind_eq_some_iff.mp H
     obtain ⟨t183, A100, H⟩ := H
     replace H : ((slices_Delete_Hold.f t183 t180 (wrap64 (t180 + 1))).bind fun t186 => ((channel_Fail_1.f).bind fun _ => (some (a0_0, IntKind.u64.wrap (a0_1 + ((rd_T44 l0_5 t180).f1)), a0_2, a0_3, a0_4, t186, a0_6, (rd_T44 l0_5 t180).f1, 0)))) = some (r1, r2, r3, r4, r5, r6, r7, r8, r9) := H
     have A10 := Aside0.mk A100
     clear A100
     replace H := Option.bind_eq_some_iff.mp H
     obtain ⟨t186, A110, H⟩ := H
     replace H : ((channel_Fail_1.f).bind fun _ => (some (a0_0, IntKind.u64.wrap (a0_1 + ((rd_T44 l0_5 t180).f1)), a0_2, a0_3, a0_4, t186, a0_6, (rd_T44 l0_5 t180).f1, 0))) = some (r1, r2, r3, r4, r5, r6, r7, r8, r9) := H
     have A11 := Aside0.mk A110
     clear A110
     replace H := Option.bind_eq_some_iff.mp H
     obtain ⟨_, A120, H⟩ := H
     replace H : (some (a0_0, IntKind.u64.wrap (a0_1 + ((rd_T44 l0_5 t180).f1)), a0_2, a0_3, a0_4, t186, a0_6, (rd_T44 l0_5 t180).f1, 0)) = some (r1, r2, r3, r4, r5, r6, r7, r8, r9) := H
     have A12 := Aside0.mk A120
     clear A120
     simp only [Option.some.injEq, Prod.mk.injEq] at H
     obtain ⟨rfl, rfl, rfl, rfl, rfl, rfl, rfl, rfl, rfl⟩ := H
     go_enter Try.func90, Try.ntmps90
     go_wp2_with (first | ((with_reducible refine gate_dst (N := 3) rfl ?_); refine box_event ?hg (N := 3) ?hd (cs := #[.int .u64 a0_0, .int .u64 a0_1, .int .u64 a0_2, .int .u64 a0_3, .int .u64 a0_4, .slice A0_5 l0_5.length c0_5, .bool a0_6]) (t := 25) ?hr ?_; (case hd => rfl); (case hg => rfl); (case hr => first | (go_simp; done) | (go_simp; rfl)); intro gb177 hg w13 hbox hb; have n0_ := Aside0.mk (below_step (belN HB) hb); have n1_ := Aside0.mk (hbox); have n2_ := Aside0.mk ((by rw [hg]; exact (below_size (belN HB)) : w.heap.size ≤ gb177)); have n3_ := Aside0.mk ((by rw [hg]; exact (below_size (belN HB)) : w.heap.size ≤ gb177)); clear HB; have HB := n0_; have BK177 := n1_; have GW177 := n2_; have GE177 := n3_; clear n0_ n1_ n2_ n3_; clear hb hbox hg) | ((with_reducible refine gate_dst (N := 6) rfl ?_); refine box_event ?hg (N := 6) ?hd (cs := #[.int .u64 0, .int .u64 0, .int .u64 0, .int .u64 0, .int .u64 0, .slice none 0 0, .bool false]) (t := 25) ?hr ?_; (case hd => rfl); (case hg => rfl); (case hr => first | (go_simp; done) | (go_simp; rfl)); intro gb178 hg w14 hbox hb; have n0_ := Aside0.mk (blk_below (g := gb177) (blkN BK177) hb); have n1_ := Aside0.mk (below_step (belN HB) hb); have n2_ := Aside0.mk (hbox); have n3_ := Aside0.mk ((by rw [hg]; exact (below_size (belN HB)) : w.heap.size ≤ gb178)); have n4_ := Aside0.mk ((by rw [hg]; exact (below_size (belN HB)) : w.heap.size ≤ gb178)); have n5_ := Aside0.mk ((by rw [hg]; exact Nat.ne_of_lt (blk_lt (g := gb177) (blkN BK177)) : gb177 ≠ gb178)); have n6_ := Aside0.mk ((by rw [hg]; exact Nat.ne_of_gt (blk_lt (g := gb177) (blkN BK177)) : gb178 ≠ gb177)); clear BK177; clear HB; have BK177 := n0_; have HB := n1_; have BK178 := n2_; have GW178 := n3_; have GE178 := n4_; have NB177_178 := n5_; have NB178_177 := n6_; clear n0_ n1_ n2_ n3_ n4_ n5_ n6_; clear hb hbox hg; have hnb15 := NB177_178.out; have hnc15 := NB178_177.out; obtain ⟨hcz16_0, hcz16_1, hcz16_2, hcz16_3, hcz16_4, hcz16_5, hcz16_6, hfz16_0, hfz16_1, hfz16_2, hfz16_3, hfz16_4, hfz16_5, hfz16_6⟩ := cz7_ (w := w14) BK177.out) | ((with_reducible refine gate_callee (f := 33) rfl ?_); refine goesL_ (some 14) rfl rfl Try.func33 (by kernel_rfl) rfl #[.agg #[.int .u64 a0_0, .int .u64 a0_1, .int .u64 a0_2, .int .u64 a0_3, .int .u64 a0_4, .slice A0_5 l0_5.length c0_5, .bool a0_6]] rfl (by (try simp only [List.map_toArray, List.map_cons, List.map_nil]); first | done | rfl | (simp only [List.length_drop, List.length_take]; rfl)) ?_; (with_reducible refine (channel_Check.calls k a0_0 a0_1 a0_2 a0_3 a0_4 _ _ l0_5 a0_6 t179 _ ?side1 ?side2 A4.out).mono ?_); (case side1 => repeat (first | exact (Kd.C_below HR0_5.out HB.out) | (with_reducible refine Kd.C_alloc ?_ _) | (with_reducible refine Kd.C_drewN ?_ _) | (with_reducible refine Kd.C_drew ?_))); (case side2 => exact HC0_5.out); rintro e w17 ⟨rfl, hb⟩; refine ⟨_, rfl, ?_⟩; have n0_ := Aside0.mk (blk_below (g := gb177) (blkN BK177) hb); have n1_ := Aside0.mk (blk_below (g := gb178) (blkN BK178) hb); have n2_ := Aside0.mk (below_step (belN HB) hb); clear BK177; clear BK178; clear HB; have BK177 := n0_; have BK178 := n1_; have HB := n2_; clear n0_ n1_ n2_; (try clear hb); (try clear hb2); (try clear hk); (try clear hi); obtain ⟨hcz18_0, hcz18_1, hcz18_2, hcz18_3, hcz18_4, hcz18_5, hcz18_6, hfz18_0, hfz18_1, hfz18_2, hfz18_3, hfz18_4, hfz18_5, hfz18_6⟩ := cz7_ (w := w17) BK177.out) | ((with_reducible refine gate_callee (f := 85) rfl ?_); refine goesL_ (some 23) rfl rfl Try.func85 (by kernel_rfl) rfl #[.slice A0_5 l0_5.length c0_5, .int .u64 a1, .func (.func 86) #[] #[]] rfl (by (try simp only [List.map_toArray, List.map_cons, List.map_nil]); first | done | rfl | (simp only [List.length_drop, List.length_take]; rfl)) ?_; (with_reducible refine (slices_BinarySearchFunc_uint64_at_channel_order.calls k _ _ l0_5 a1  t180 true _ ?side1 ?side2 A6.out).mono ?_); (case side1 => repeat (first | exact (Kd.C_below HR0_5.out HB.out) | (with_reducible refine Kd.C_alloc ?_ _) | (with_reducible refine Kd.C_drewN ?_ _) | (with_reducible refine Kd.C_drew ?_))); (case side2 => exact HC0_5.out); rintro e w19 ⟨rfl, hb⟩; refine ⟨_, rfl, ?_⟩; have n0_ := Aside0.mk (blk_below (g := gb177) (blkN BK177) hb); have n1_ := Aside0.mk (blk_below (g := gb178) (blkN BK178) hb); have n2_ := Aside0.mk (below_step (belN HB) hb); clear BK177; clear BK178; clear HB; have BK177 := n0_; have BK178 := n1_; have HB := n2_; clear n0_ n1_ n2_; (try clear hb); (try clear hb2); (try clear hk); (try clear hi); obtain ⟨hcz20_0, hcz20_1, hcz20_2, hcz20_3, hcz20_4, hcz20_5, hcz20_6, hfz20_0, hfz20_1, hfz20_2, hfz20_3, hfz20_4, hfz20_5, hfz20_6⟩ := cz7_ (w := w19) BK177.out; have p182 : 0 ≤ (t180 : Int) := of_decide_eq_true (by first | (with_reducible assumption) | assumption); have q182 : t180 < (l0_5.length : Int) := of_decide_eq_true (by first | (with_reducible assumption) | assumption); obtain ⟨ad182, e182, hx182_0, hx182_1⟩ := at_T44 HR0_5.out t180 p182 q182; cases e182; replace hx182_0 := (HB.out.cell (World.block_lt_of_cell? w _ hx182_0)).trans hx182_0; replace hx182_1 := (HB.out.cell (World.block_lt_of_cell? w _ hx182_1)).trans hx182_1; replace p182 := eq_true p182; replace q182 := eq_true q182) | ((with_reducible refine gate_callee (f := 89) rfl ?_); refine goesL_ (some 37) rfl rfl Try.func89 (by kernel_rfl) rfl #[.slice (some ad182) l0_5.length c0_5] rfl (by (try simp only [List.map_toArray, List.map_cons, List.map_nil]); first | done | rfl | (simp only [List.length_drop, List.length_take]; rfl)) ?_; (with_reducible refine (slices_Clone_Hold.calls _ _ l0_5 t183 _ ?side1 ?side2 A10.out).mono ?_); (case side1 => repeat (first | exact (Kd.C_below HR0_5.out HB.out) | (with_reducible refine Kd.C_alloc ?_ _) | (with_reducible refine Kd.C_drewN ?_ _) | (with_reducible refine Kd.C_drew ?_))); (case side2 => exact HC0_5.out); rintro e w21 ⟨v184, rfl, ho0, hb⟩; refine ⟨_, rfl, ?_⟩; have n0_ := Aside0.mk (Kd.R_lower ho0 (below_size (belN HB))); have n1_ := Aside0.mk (blk_below (g := gb177) (blkN BK177) hb); have n2_ := Aside0.mk (blk_below (g := gb178) (blkN BK178) hb); have n3_ := Aside0.mk (below_step (belN HB) hb); clear BK177; clear BK178; clear HB; have HO185 := n0_; have BK177 := n1_; have BK178 := n2_; have HB := n3_; clear n0_ n1_ n2_ n3_; (try clear hb); (try clear hb2); (try clear hk); (try clear hi); (try clear ho0); obtain ⟨Ao22, co22, eo22⟩ := Kd.R_slice HO185.out; subst eo22) | ((with_reducible refine gate_callee (f := 133) rfl ?_); refine goesL_ (some 41) rfl rfl Try.func133 (by kernel_rfl) rfl #[.slice Ao22 t183.length co22, .int .i64 t180, .int .i64 (wrap64 (t180 + 1))] rfl (by (try simp only [List.map_toArray, List.map_cons, List.map_nil]); first | done | rfl | (simp only [List.length_drop, List.length_take]; rfl)) ?_; (with_reducible refine (slices_Delete_Hold.calls (fun k_ => some k_ = (.slice Ao22 t183.length co22 : Value).ownBlock) (.slice Ao22 t183.length co22) t183 t180 (wrap64 (t180 + 1)) t186 w _ ?side1 ?side2 A11.out).mono ?_); (case side1 => repeat (first | (with_reducible first | exact HB.out | apply below_alloc | apply pw_below_drewN | apply below_drew1 | refine below_set ?_ GE177.out | refine below_set ?_ GE178.out) | exact HB.out)); (case side2 => exact Kd.R_tight rfl HO185.out); rintro e w23 ⟨v187, rfl, ho0, hb, hkp⟩; refine ⟨_, rfl, ?_⟩; have n0_ := Aside0.mk (blk_kept (blkN BK177) hkp (fun hs_ => (fun e_ => (Kd.R_ne HO185.out BK177.out (by decide)) e_) hs_)); have n1_ := Aside0.mk (blk_kept (blkN BK178) hkp (fun hs_ => (fun e_ => (Kd.R_ne HO185.out BK178.out (by decide)) e_) hs_)); have n2_ := Aside0.mk (Kd.R_mono (ok' := fun k_ => True) ho0 (fun k_ hk_ => trivial)); have n3_ := Aside0.mk (hb); clear BK177; clear BK178; clear HB; clear HO185; have BK177 := n0_; have BK178 := n1_; have HO188 := n2_; have HB := n3_; clear n0_ n1_ n2_ n3_; (try clear hb); (try clear hkp); (try clear ho0); obtain ⟨Ao24, co24, eo24⟩ := Kd.R_slice HO188.out; subst eo24; obtain ⟨hcz25_0, hcz25_1, hcz25_2, hcz25_3, hcz25_4, hcz25_5, hcz25_6, hfz25_0, hfz25_1, hfz25_2, hfz25_3, hfz25_4, hfz25_5, hfz25_6⟩ := cz7_ (w := w23) BK177.out) | ((with_reducible refine gate_tmp (t_ := 43) rfl ?_); refine goesT_ (some 44) rfl rfl Try.func91 (by kernel_rfl) rfl #[.pointer (some ⟨gb177, 0, none⟩)] rfl rfl (by (try simp only [List.map_toArray, List.map_cons, List.map_nil]); first | done | rfl | (simp only [List.length_drop, List.length_take]; rfl)) ?_; (with_reducible refine (channel_Fail_1.calls   _ A12.out).mono ?_); rintro e w' ⟨rfl, ⟨nd, rfl⟩⟩; refine ⟨_, rfl, ?_⟩; obtain ⟨hcz26_0, hcz26_1, hcz26_2, hcz26_3, hcz26_4, hcz26_5, hcz26_6, hfz26_0, hfz26_1, hfz26_2, hfz26_3, hfz26_4, hfz26_5, hfz26_6⟩ := cz7_ (w := w23) BK178.out))
     refine bodyPost_ret (results_ctt rfl _ _ gb178 25 #[.int .u64 a0_0, .int .u64 (IntKind.u64.wrap (a0_1 + ((rd_T44 l0_5 t180).f1))), .int .u64 a0_2, .int .u64 a0_3, .int .u64 a0_4, .slice Ao24 t186.length co24, .bool a0_6] (0, 0) _ rfl (by (with_reducible repeat (first | refine blk_drewN ?_ _ | refine blk_drew ?_ | refine blk_alloc ?_ _)); refine blk_put (cs := #[.int .u64 a0_0, .int .u64 (IntKind.u64.wrap (a0_1 + ((rd_T44 l0_5 t180).f1))), .int .u64 a0_2, .int .u64 a0_3, .int .u64 a0_4, .slice Ao24 t186.length co24, .bool false]) ?_ 6 _ rfl; refine blk_put (cs := #[.int .u64 a0_0, .int .u64 (IntKind.u64.wrap (a0_1 + ((rd_T44 l0_5 t180).f1))), .int .u64 a0_2, .int .u64 a0_3, .int .u64 a0_4, .slice none 0 0, .bool false]) ?_ 5 _ rfl; refine blk_put (cs := #[.int .u64 a0_0, .int .u64 (IntKind.u64.wrap (a0_1 + ((rd_T44 l0_5 t180).f1))), .int .u64 a0_2, .int .u64 a0_3, .int .u64 0, .slice none 0 0, .bool false]) ?_ 4 _ rfl; refine blk_put (cs := #[.int .u64 a0_0, .int .u64 (IntKind.u64.wrap (a0_1 + ((rd_T44 l0_5 t180).f1))), .int .u64 a0_2, .int .u64 0, .int .u64 0, .slice none 0 0, .bool false]) ?_ 3 _ rfl; refine blk_put (cs := #[.int .u64 a0_0, .int .u64 (IntKind.u64.wrap (a0_1 + ((rd_T44 l0_5 t180).f1))), .int .u64 0, .int .u64 0, .int .u64 0, .slice none 0 0, .bool false]) ?_ 2 _ rfl; refine blk_put (cs := #[.int .u64 a0_0, .int .u64 0, .int .u64 0, .int .u64 0, .int .u64 0, .slice none 0 0, .bool false]) ?_ 1 _ rfl; refine blk_put (cs := #[.int .u64 0, .int .u64 0, .int .u64 0, .int .u64 0, .int .u64 0, .slice none 0 0, .bool false]) ?_ 0 _ rfl; (with_reducible repeat (first | refine blk_drewN ?_ _ | refine blk_drew ?_ | refine blk_alloc ?_ _)); refine blk_far ?_ NB178_177.out _; (with_reducible repeat (first | refine blk_drewN ?_ _ | refine blk_drew ?_ | refine blk_alloc ?_ _)); refine blk_far ?_ NB178_177.out _; (with_reducible repeat (first | refine blk_drewN ?_ _ | refine blk_drew ?_ | refine blk_alloc ?_ _)); exact BK178.out) Try.underlying25 rfl (by kernel_rfl)) rfl ?_
     exact ⟨_, by first | rfl | (simp [errW_none, errW_some] <;> rfl) | (simp [*, errW_none, errW_some] <;> rfl), by (with_reducible repeat (first | apply Kd.R_alloc | apply Kd.R_drewN | apply Kd.R_drew)); exact Kd.R_mono (Kd.R_far (p := ⟨gb178, 6, none⟩) (Kd.R_far (p := ⟨gb178, 5, none⟩) (Kd.R_far (p := ⟨gb178, 4, none⟩) (Kd.R_far (p := ⟨gb178, 3, none⟩) (Kd.R_far (p := ⟨gb178, 2, none⟩) (Kd.R_far (p := ⟨gb178, 1, none⟩) (Kd.R_far (p := ⟨gb178, 0, none⟩) (Kd.R_far (p := ⟨gb177, 1, none⟩) (Kd.R_far (p := ⟨gb177, 5, none⟩) (Kd.R_types (Kd.R_types HO188.out BK177.out (by decide)) BK178.out (by decide)) (fun _ hk => hk.1.2) (.slice Ao24 t186.length co24)) (fun _ hk => hk.1.2) (.int .u64 (IntKind.u64.wrap (a0_1 + ((rd_T44 l0_5 t180).f1))))) (fun _ hk => hk.2) (.int .u64 a0_0)) (fun _ hk => hk.2) (.int .u64 (IntKind.u64.wrap (a0_1 + ((rd_T44 l0_5 t180).f1))))) (fun _ hk => hk.2) (.int .u64 a0_2)) (fun _ hk => hk.2) (.int .u64 a0_3)) (fun _ hk => hk.2) (.int .u64 a0_4)) (fun _ hk => hk.2) (.slice Ao24 t186.length co24)) (fun _ hk => hk.2) (.bool a0_6)) (fun _ hk => trivial), by repeat (first | (with_reducible first | exact HB.out | apply below_alloc | apply pw_below_drewN | apply below_drew1 | refine below_set ?_ GE177.out | refine below_set ?_ GE178.out) | exact HB.out)⟩
    ·rw [if_neg c9] at H
     exact absurd H (by simp)
   ·rw [if_neg c8] at H
    exact absurd H (by simp)
  ·replace c7 := Bool.eq_false_iff.mpr c7
   subst c7
   have H1 : (some (0, 0, 0, 0, 0, ([] : List (S44)), false, 0, 5)) = some (r1, r2, r3, r4, r5, r6, r7, r8, r9) := by rw [if_neg (show ¬ (false = true) by decide)] at H; exact H
   clear H
   have H := H1
   clear H1
   simp only [Option.some.injEq, Prod.mk.injEq] at H
   obtain ⟨rfl, rfl, rfl, rfl, rfl, rfl, rfl, rfl, rfl⟩ := H
   go_enter Try.func90, Try.ntmps90
   go_wp2_with (first | ((with_reducible refine gate_dst (N := 3) rfl ?_); refine box_event ?hg (N := 3) ?hd (cs := #[.int .u64 a0_0, .int .u64 a0_1, .int .u64 a0_2, .int .u64 a0_3, .int .u64 a0_4, .slice A0_5 l0_5.length c0_5, .bool a0_6]) (t := 25) ?hr ?_; (case hd => rfl); (case hg => rfl); (case hr => first | (go_simp; done) | (go_simp; rfl)); intro gb177 hg w27 hbox hb; have n0_ := Aside0.mk (below_step (belN HB) hb); have n1_ := Aside0.mk (hbox); have n2_ := Aside0.mk ((by rw [hg]; exact (below_size (belN HB)) : w.heap.size ≤ gb177)); have n3_ := Aside0.mk ((by rw [hg]; exact (below_size (belN HB)) : w.heap.size ≤ gb177)); clear HB; have HB := n0_; have BK177 := n1_; have GW177 := n2_; have GE177 := n3_; clear n0_ n1_ n2_ n3_; clear hb hbox hg) | ((with_reducible refine gate_dst (N := 6) rfl ?_); refine box_event ?hg (N := 6) ?hd (cs := #[.int .u64 0, .int .u64 0, .int .u64 0, .int .u64 0, .int .u64 0, .slice none 0 0, .bool false]) (t := 25) ?hr ?_; (case hd => rfl); (case hg => rfl); (case hr => first | (go_simp; done) | (go_simp; rfl)); intro gb178 hg w28 hbox hb; have n0_ := Aside0.mk (blk_below (g := gb177) (blkN BK177) hb); have n1_ := Aside0.mk (below_step (belN HB) hb); have n2_ := Aside0.mk (hbox); have n3_ := Aside0.mk ((by rw [hg]; exact (below_size (belN HB)) : w.heap.size ≤ gb178)); have n4_ := Aside0.mk ((by rw [hg]; exact (below_size (belN HB)) : w.heap.size ≤ gb178)); have n5_ := Aside0.mk ((by rw [hg]; exact Nat.ne_of_lt (blk_lt (g := gb177) (blkN BK177)) : gb177 ≠ gb178)); have n6_ := Aside0.mk ((by rw [hg]; exact Nat.ne_of_gt (blk_lt (g := gb177) (blkN BK177)) : gb178 ≠ gb177)); clear BK177; clear HB; have BK177 := n0_; have HB := n1_; have BK178 := n2_; have GW178 := n3_; have GE178 := n4_; have NB177_178 := n5_; have NB178_177 := n6_; clear n0_ n1_ n2_ n3_ n4_ n5_ n6_; clear hb hbox hg; have hnb29 := NB177_178.out; have hnc29 := NB178_177.out; obtain ⟨hcz30_0, hcz30_1, hcz30_2, hcz30_3, hcz30_4, hcz30_5, hcz30_6, hfz30_0, hfz30_1, hfz30_2, hfz30_3, hfz30_4, hfz30_5, hfz30_6⟩ := cz7_ (w := w28) BK177.out) | ((with_reducible refine gate_callee (f := 33) rfl ?_); refine goesL_ (some 14) rfl rfl Try.func33 (by kernel_rfl) rfl #[.agg #[.int .u64 a0_0, .int .u64 a0_1, .int .u64 a0_2, .int .u64 a0_3, .int .u64 a0_4, .slice A0_5 l0_5.length c0_5, .bool a0_6]] rfl (by (try simp only [List.map_toArray, List.map_cons, List.map_nil]); first | done | rfl | (simp only [List.length_drop, List.length_take]; rfl)) ?_; (with_reducible refine (channel_Check.calls k a0_0 a0_1 a0_2 a0_3 a0_4 _ _ l0_5 a0_6 t179 _ ?side1 ?side2 A4.out).mono ?_); (case side1 => repeat (first | exact (Kd.C_below HR0_5.out HB.out) | (with_reducible refine Kd.C_alloc ?_ _) | (with_reducible refine Kd.C_drewN ?_ _) | (with_reducible refine Kd.C_drew ?_))); (case side2 => exact HC0_5.out); rintro e w31 ⟨rfl, hb⟩; refine ⟨_, rfl, ?_⟩; have n0_ := Aside0.mk (blk_below (g := gb177) (blkN BK177) hb); have n1_ := Aside0.mk (blk_below (g := gb178) (blkN BK178) hb); have n2_ := Aside0.mk (below_step (belN HB) hb); clear BK177; clear BK178; clear HB; have BK177 := n0_; have BK178 := n1_; have HB := n2_; clear n0_ n1_ n2_; (try clear hb); (try clear hb2); (try clear hk); (try clear hi); obtain ⟨hcz32_0, hcz32_1, hcz32_2, hcz32_3, hcz32_4, hcz32_5, hcz32_6, hfz32_0, hfz32_1, hfz32_2, hfz32_3, hfz32_4, hfz32_5, hfz32_6⟩ := cz7_ (w := w31) BK177.out) | ((with_reducible refine gate_callee (f := 85) rfl ?_); refine goesL_ (some 23) rfl rfl Try.func85 (by kernel_rfl) rfl #[.slice A0_5 l0_5.length c0_5, .int .u64 a1, .func (.func 86) #[] #[]] rfl (by (try simp only [List.map_toArray, List.map_cons, List.map_nil]); first | done | rfl | (simp only [List.length_drop, List.length_take]; rfl)) ?_; (with_reducible refine (slices_BinarySearchFunc_uint64_at_channel_order.calls k _ _ l0_5 a1  t180 false _ ?side1 ?side2 A6.out).mono ?_); (case side1 => repeat (first | exact (Kd.C_below HR0_5.out HB.out) | (with_reducible refine Kd.C_alloc ?_ _) | (with_reducible refine Kd.C_drewN ?_ _) | (with_reducible refine Kd.C_drew ?_))); (case side2 => exact HC0_5.out); rintro e w33 ⟨rfl, hb⟩; refine ⟨_, rfl, ?_⟩; have n0_ := Aside0.mk (blk_below (g := gb177) (blkN BK177) hb); have n1_ := Aside0.mk (blk_below (g := gb178) (blkN BK178) hb); have n2_ := Aside0.mk (below_step (belN HB) hb); clear BK177; clear BK178; clear HB; have BK177 := n0_; have BK178 := n1_; have HB := n2_; clear n0_ n1_ n2_; (try clear hb); (try clear hb2); (try clear hk); (try clear hi); obtain ⟨hcz34_0, hcz34_1, hcz34_2, hcz34_3, hcz34_4, hcz34_5, hcz34_6, hfz34_0, hfz34_1, hfz34_2, hfz34_3, hfz34_4, hfz34_5, hfz34_6⟩ := cz7_ (w := w33) BK178.out))
   refine bodyPost_ret (results_ctt rfl _ _ gb178 25 #[.int .u64 0, .int .u64 0, .int .u64 0, .int .u64 0, .int .u64 0, .slice none 0 0, .bool false] (0, 0) _ rfl (by (with_reducible repeat (first | refine blk_drewN ?_ _ | refine blk_drew ?_ | refine blk_alloc ?_ _)); refine blk_put (cs := #[.int .u64 0, .int .u64 0, .int .u64 0, .int .u64 0, .int .u64 0, .slice none 0 0, .bool false]) ?_ 6 _ rfl; refine blk_put (cs := #[.int .u64 0, .int .u64 0, .int .u64 0, .int .u64 0, .int .u64 0, .slice none 0 0, .bool false]) ?_ 5 _ rfl; refine blk_put (cs := #[.int .u64 0, .int .u64 0, .int .u64 0, .int .u64 0, .int .u64 0, .slice none 0 0, .bool false]) ?_ 4 _ rfl; refine blk_put (cs := #[.int .u64 0, .int .u64 0, .int .u64 0, .int .u64 0, .int .u64 0, .slice none 0 0, .bool false]) ?_ 3 _ rfl; refine blk_put (cs := #[.int .u64 0, .int .u64 0, .int .u64 0, .int .u64 0, .int .u64 0, .slice none 0 0, .bool false]) ?_ 2 _ rfl; refine blk_put (cs := #[.int .u64 0, .int .u64 0, .int .u64 0, .int .u64 0, .int .u64 0, .slice none 0 0, .bool false]) ?_ 1 _ rfl; refine blk_put (cs := #[.int .u64 0, .int .u64 0, .int .u64 0, .int .u64 0, .int .u64 0, .slice none 0 0, .bool false]) ?_ 0 _ rfl; (with_reducible repeat (first | refine blk_drewN ?_ _ | refine blk_drew ?_ | refine blk_alloc ?_ _)); exact BK178.out) Try.underlying25 rfl (by kernel_rfl)) rfl ?_
   exact ⟨_, by first | rfl | (simp [errW_none, errW_some] <;> rfl) | (simp [*, errW_none, errW_some] <;> rfl), by first | exact Kd.R_nil _ _ _ _ _ | exact Kd.N_nil _ _ _ _ _ | exact Kd.V_nil _ _ _ _ _ | exact Kd.Q_nil _ _ _ _ _ | exact Kd.S_nil _ _ _ _ _, by repeat (first | (with_reducible first | exact HB.out | apply below_alloc | apply pw_below_drewN | apply below_drew1 | refine below_set ?_ GE177.out | refine below_set ?_ GE178.out) | exact HB.out)⟩
 ·rw [if_neg c5] at H
  have c5b0 : (t179 == 0) = false := beq_eq_false_iff_ne.mpr c5
  have c5b1 : (t179 != 0) = true := bne_iff_ne.mpr c5
  simp only [Option.some.injEq, Prod.mk.injEq] at H
  obtain ⟨rfl, rfl, rfl, rfl, rfl, rfl, rfl, rfl, rfl⟩ := H
  go_enter Try.func90, Try.ntmps90
  go_wp2_with (first | ((with_reducible refine gate_dst (N := 3) rfl ?_); refine box_event ?hg (N := 3) ?hd (cs := #[.int .u64 a0_0, .int .u64 a0_1, .int .u64 a0_2, .int .u64 a0_3, .int .u64 a0_4, .slice A0_5 l0_5.length c0_5, .bool a0_6]) (t := 25) ?hr ?_; (case hd => rfl); (case hg => rfl); (case hr => first | (go_simp; done) | (go_simp; rfl)); intro gb177 hg w35 hbox hb; have n0_ := Aside0.mk (below_step (belN HB) hb); have n1_ := Aside0.mk (hbox); have n2_ := Aside0.mk ((by rw [hg]; exact (below_size (belN HB)) : w.heap.size ≤ gb177)); have n3_ := Aside0.mk ((by rw [hg]; exact (below_size (belN HB)) : w.heap.size ≤ gb177)); clear HB; have HB := n0_; have BK177 := n1_; have GW177 := n2_; have GE177 := n3_; clear n0_ n1_ n2_ n3_; clear hb hbox hg) | ((with_reducible refine gate_dst (N := 6) rfl ?_); refine box_event ?hg (N := 6) ?hd (cs := #[.int .u64 0, .int .u64 0, .int .u64 0, .int .u64 0, .int .u64 0, .slice none 0 0, .bool false]) (t := 25) ?hr ?_; (case hd => rfl); (case hg => rfl); (case hr => first | (go_simp; done) | (go_simp; rfl)); intro gb178 hg w36 hbox hb; have n0_ := Aside0.mk (blk_below (g := gb177) (blkN BK177) hb); have n1_ := Aside0.mk (below_step (belN HB) hb); have n2_ := Aside0.mk (hbox); have n3_ := Aside0.mk ((by rw [hg]; exact (below_size (belN HB)) : w.heap.size ≤ gb178)); have n4_ := Aside0.mk ((by rw [hg]; exact (below_size (belN HB)) : w.heap.size ≤ gb178)); have n5_ := Aside0.mk ((by rw [hg]; exact Nat.ne_of_lt (blk_lt (g := gb177) (blkN BK177)) : gb177 ≠ gb178)); have n6_ := Aside0.mk ((by rw [hg]; exact Nat.ne_of_gt (blk_lt (g := gb177) (blkN BK177)) : gb178 ≠ gb177)); clear BK177; clear HB; have BK177 := n0_; have HB := n1_; have BK178 := n2_; have GW178 := n3_; have GE178 := n4_; have NB177_178 := n5_; have NB178_177 := n6_; clear n0_ n1_ n2_ n3_ n4_ n5_ n6_; clear hb hbox hg; have hnb37 := NB177_178.out; have hnc37 := NB178_177.out; obtain ⟨hcz38_0, hcz38_1, hcz38_2, hcz38_3, hcz38_4, hcz38_5, hcz38_6, hfz38_0, hfz38_1, hfz38_2, hfz38_3, hfz38_4, hfz38_5, hfz38_6⟩ := cz7_ (w := w36) BK177.out) | ((with_reducible refine gate_callee (f := 33) rfl ?_); refine goesL_ (some 14) rfl rfl Try.func33 (by kernel_rfl) rfl #[.agg #[.int .u64 a0_0, .int .u64 a0_1, .int .u64 a0_2, .int .u64 a0_3, .int .u64 a0_4, .slice A0_5 l0_5.length c0_5, .bool a0_6]] rfl (by (try simp only [List.map_toArray, List.map_cons, List.map_nil]); first | done | rfl | (simp only [List.length_drop, List.length_take]; rfl)) ?_; (with_reducible refine (channel_Check.calls k a0_0 a0_1 a0_2 a0_3 a0_4 _ _ l0_5 a0_6 t179 _ ?side1 ?side2 A4.out).mono ?_); (case side1 => repeat (first | exact (Kd.C_below HR0_5.out HB.out) | (with_reducible refine Kd.C_alloc ?_ _) | (with_reducible refine Kd.C_drewN ?_ _) | (with_reducible refine Kd.C_drew ?_))); (case side2 => exact HC0_5.out); rintro e w39 ⟨rfl, hb⟩; refine ⟨_, rfl, ?_⟩; have n0_ := Aside0.mk (blk_below (g := gb177) (blkN BK177) hb); have n1_ := Aside0.mk (blk_below (g := gb178) (blkN BK178) hb); have n2_ := Aside0.mk (below_step (belN HB) hb); clear BK177; clear BK178; clear HB; have BK177 := n0_; have BK178 := n1_; have HB := n2_; clear n0_ n1_ n2_; (try clear hb); (try clear hb2); (try clear hk); (try clear hi); obtain ⟨hcz40_0, hcz40_1, hcz40_2, hcz40_3, hcz40_4, hcz40_5, hcz40_6, hfz40_0, hfz40_1, hfz40_2, hfz40_3, hfz40_4, hfz40_5, hfz40_6⟩ := cz7_ (w := w39) BK178.out))
  refine bodyPost_ret (results_ctt rfl _ _ gb178 25 #[.int .u64 0, .int .u64 0, .int .u64 0, .int .u64 0, .int .u64 0, .slice none 0 0, .bool false] (0, 0) _ rfl (by (with_reducible repeat (first | refine blk_drewN ?_ _ | refine blk_drew ?_ | refine blk_alloc ?_ _)); refine blk_put (cs := #[.int .u64 0, .int .u64 0, .int .u64 0, .int .u64 0, .int .u64 0, .slice none 0 0, .bool false]) ?_ 6 _ rfl; refine blk_put (cs := #[.int .u64 0, .int .u64 0, .int .u64 0, .int .u64 0, .int .u64 0, .slice none 0 0, .bool false]) ?_ 5 _ rfl; refine blk_put (cs := #[.int .u64 0, .int .u64 0, .int .u64 0, .int .u64 0, .int .u64 0, .slice none 0 0, .bool false]) ?_ 4 _ rfl; refine blk_put (cs := #[.int .u64 0, .int .u64 0, .int .u64 0, .int .u64 0, .int .u64 0, .slice none 0 0, .bool false]) ?_ 3 _ rfl; refine blk_put (cs := #[.int .u64 0, .int .u64 0, .int .u64 0, .int .u64 0, .int .u64 0, .slice none 0 0, .bool false]) ?_ 2 _ rfl; refine blk_put (cs := #[.int .u64 0, .int .u64 0, .int .u64 0, .int .u64 0, .int .u64 0, .slice none 0 0, .bool false]) ?_ 1 _ rfl; refine blk_put (cs := #[.int .u64 0, .int .u64 0, .int .u64 0, .int .u64 0, .int .u64 0, .slice none 0 0, .bool false]) ?_ 0 _ rfl; (with_reducible repeat (first | refine blk_drewN ?_ _ | refine blk_drew ?_ | refine blk_alloc ?_ _)); exact BK178.out) Try.underlying25 rfl (by kernel_rfl)) rfl ?_
  exact ⟨_, by first | rfl | (simp [errW_none, errW_some] <;> rfl) | (simp [*, errW_none, errW_some] <;> rfl), by first | exact Kd.R_nil _ _ _ _ _ | exact Kd.N_nil _ _ _ _ _ | exact Kd.V_nil _ _ _ _ _ | exact Kd.Q_nil _ _ _ _ _ | exact Kd.S_nil _ _ _ _ _, by repeat (first | (with_reducible first | exact HB.out | apply below_alloc | apply pw_below_drewN | apply below_drew1 | refine below_set ?_ GE177.out | refine below_set ?_ GE178.out) | exact HB.out)⟩

/-! ### channel_Fail: function 24 -/
def channel_Fail.f (k : Nat) (a0_0 : Int) (a0_1 : Int) (a0_2 : Int) (a0_3 : Int) (a0_4 : Int) (l0_5 : List (S44)) (a0_6 : Bool) (a1 : Int) : Option (Int × Int × Int × Int × Int × (List (S44)) × Bool × Int × Int) := (channel_end_at_channel_Fail_1.f k a0_0 a0_1 a0_2 a0_3 a0_4 l0_5 a0_6 a1).bind fun bt191 => (some (bt191.1, bt191.2.1, bt191.2.2.1, bt191.2.2.2.1, bt191.2.2.2.2.1, bt191.2.2.2.2.2.1, bt191.2.2.2.2.2.2.1, bt191.2.2.2.2.2.2.2.1, bt191.2.2.2.2.2.2.2.2))
theorem channel_Fail.mono : ∀ a0 a1 a2 a3 a4 a5 a6 a7 k, LeO (channel_Fail.f k a0 a1 a2 a3 a4 a5 a6 a7) (channel_Fail.f (k + 1) a0 a1 a2 a3 a4 a5 a6 a7) := by
  intro a0 a1 a2 a3 a4 a5 a6 a7 k
  unfold channel_Fail.f
  repeat' first
      | (with_reducible exact channel_end_at_channel_Fail_1.mono _ _ _ _ _ _ _ _ _)
      | (with_reducible exact LeO.refl _)
      | (with_reducible exact LeO.none _)
      | (with_reducible refine LeO.ite ?_ ?_)
      | (with_reducible refine LeO.bind ?_ (fun _ => ?_))
      | exact channel_end_at_channel_Fail_1.mono _ _ _ _ _ _ _ _ _
      | exact LeO.none _
      | refine LeO.ite ?_ ?_
      | refine LeO.bind ?_ (fun _ => ?_)
set_option maxHeartbeats 8000000 in
set_option maxRecDepth 100000 in
theorem channel_Fail.calls (k : Nat) (a0_0 : Int) (a0_1 : Int) (a0_2 : Int) (a0_3 : Int) (a0_4 : Int) (A0_5 : Option Addr) (c0_5 : Nat) (l0_5 : List (S44)) (a0_6 : Bool) (a1 : Int) (r1 : Int) (r2 : Int) (r3 : Int) (r4 : Int) (r5 : Int) (r6 : List (S44)) (r7 : Bool) (r8 : Int) (r9 : Int) (w : World) (hr0_5 : Kd.C k44 w A0_5 l0_5.length l0_5) (hc0_5 : l0_5.length ≤ c0_5) (h : channel_Fail.f k a0_0 a0_1 a0_2 a0_3 a0_4 l0_5 a0_6 a1 = some (r1, r2, r3, r4, r5, r6, r7, r8, r9)) :
    Calls Try.prog 24 #[.agg #[.int .u64 a0_0, .int .u64 a0_1, .int .u64 a0_2, .int .u64 a0_3, .int .u64 a0_4, .slice A0_5 l0_5.length c0_5, .bool a0_6], .int .u64 a1] w fun e w' => ∃ v5_ : Value, e = .returned (.tuple #[.agg #[.int .u64 r1, .int .u64 r2, .int .u64 r3, .int .u64 r4, .int .u64 r5, v5_, .bool r7], .int .u64 r8, .int .i64 r9]) ∧ Kd.R k44 44 w' w.heap.size (fun _ => True) v5_ r6 ∧ Below w.heap.size w w' := by
  have hu25 := Try.underlying25
  have HR0_5 := Aside0.mk hr0_5
  have HC0_5 := Aside0.mk hc0_5
  clear hr0_5 hc0_5
  have HB := Aside0.mk (Below.refl w.heap.size w)
  have H : ((channel_end_at_channel_Fail_1.f k a0_0 a0_1 a0_2 a0_3 a0_4 l0_5 a0_6 a1).bind fun bt191 => (some (bt191.1, bt191.2.1, bt191.2.2.1, bt191.2.2.2.1, bt191.2.2.2.2.1, bt191.2.2.2.2.2.1, bt191.2.2.2.2.2.2.1, bt191.2.2.2.2.2.2.2.1, bt191.2.2.2.2.2.2.2.2))) = some (r1, r2, r3, r4, r5, r6, r7, r8, r9) := h
  clear h
  replace H := Option.bind_eq_some_iff.mp H
  obtain ⟨⟨t191, t192, t193, t194, t195, t196, t199, t200, t201⟩, A30, H⟩ := H
  replace H : (some (t191, t192, t193, t194, t195, t196, t199, t200, t201)) = some (r1, r2, r3, r4, r5, r6, r7, r8, r9) := H
  have A3 := Aside0.mk A30
  clear A30
  simp only [Option.some.injEq, Prod.mk.injEq] at H
  obtain ⟨rfl, rfl, rfl, rfl, rfl, rfl, rfl, rfl, rfl⟩ := H
  go_enter Try.func24, Try.ntmps24
  go_wp2_with (first | ((with_reducible refine gate_dst (N := 2) rfl ?_); refine box_event ?hg (N := 2) ?hd (cs := #[.int .u64 a0_0, .int .u64 a0_1, .int .u64 a0_2, .int .u64 a0_3, .int .u64 a0_4, .slice A0_5 l0_5.length c0_5, .bool a0_6]) (t := 25) ?hr ?_; (case hd => rfl); (case hg => rfl); (case hr => first | (go_simp; done) | (go_simp; rfl)); intro gb189 hg w4 hbox hb; have n0_ := Aside0.mk (below_step (belN HB) hb); have n1_ := Aside0.mk (hbox); have n2_ := Aside0.mk ((by rw [hg]; exact (below_size (belN HB)) : w.heap.size ≤ gb189)); have n3_ := Aside0.mk ((by rw [hg]; exact (below_size (belN HB)) : w.heap.size ≤ gb189)); clear HB; have HB := n0_; have BK189 := n1_; have GW189 := n2_; have GE189 := n3_; clear n0_ n1_ n2_ n3_; clear hb hbox hg) | ((with_reducible refine gate_dst (N := 4) rfl ?_); refine box_event ?hg (N := 4) ?hd (cs := #[.int .u64 0, .int .u64 0, .int .u64 0, .int .u64 0, .int .u64 0, .slice none 0 0, .bool false]) (t := 25) ?hr ?_; (case hd => rfl); (case hg => rfl); (case hr => first | (go_simp; done) | (go_simp; rfl)); intro gb190 hg w5 hbox hb; have n0_ := Aside0.mk (blk_below (g := gb189) (blkN BK189) hb); have n1_ := Aside0.mk (below_step (belN HB) hb); have n2_ := Aside0.mk (hbox); have n3_ := Aside0.mk ((by rw [hg]; exact (below_size (belN HB)) : w.heap.size ≤ gb190)); have n4_ := Aside0.mk ((by rw [hg]; exact (below_size (belN HB)) : w.heap.size ≤ gb190)); have n5_ := Aside0.mk ((by rw [hg]; exact Nat.ne_of_lt (blk_lt (g := gb189) (blkN BK189)) : gb189 ≠ gb190)); have n6_ := Aside0.mk ((by rw [hg]; exact Nat.ne_of_gt (blk_lt (g := gb189) (blkN BK189)) : gb190 ≠ gb189)); clear BK189; clear HB; have BK189 := n0_; have HB := n1_; have BK190 := n2_; have GW190 := n3_; have GE190 := n4_; have NB189_190 := n5_; have NB190_189 := n6_; clear n0_ n1_ n2_ n3_ n4_ n5_ n6_; clear hb hbox hg; have hnb6 := NB189_190.out; have hnc6 := NB190_189.out; obtain ⟨hcz7_0, hcz7_1, hcz7_2, hcz7_3, hcz7_4, hcz7_5, hcz7_6, hfz7_0, hfz7_1, hfz7_2, hfz7_3, hfz7_4, hfz7_5, hfz7_6⟩ := cz7_ (w := w5) BK189.out) | ((with_reducible refine gate_callee (f := 90) rfl ?_); refine goesL_ (some 9) rfl rfl Try.func90 (by kernel_rfl) rfl #[.agg #[.int .u64 a0_0, .int .u64 a0_1, .int .u64 a0_2, .int .u64 a0_3, .int .u64 a0_4, .slice A0_5 l0_5.length c0_5, .bool a0_6], .int .u64 a1, .func (.func 91) #[] #[]] rfl (by (try simp only [List.map_toArray, List.map_cons, List.map_nil]); first | done | rfl | (simp only [List.length_drop, List.length_take]; rfl)) ?_; (with_reducible refine (channel_end_at_channel_Fail_1.calls k a0_0 a0_1 a0_2 a0_3 a0_4 _ _ l0_5 a0_6 a1  t191 t192 t193 t194 t195 t196 t199 t200 t201 _ ?side1 ?side2 A3.out).mono ?_); (case side1 => repeat (first | exact (Kd.C_below HR0_5.out HB.out) | (with_reducible refine Kd.C_alloc ?_ _) | (with_reducible refine Kd.C_drewN ?_ _) | (with_reducible refine Kd.C_drew ?_))); (case side2 => exact HC0_5.out); rintro e w8 ⟨v197, rfl, ho0, hb⟩; refine ⟨_, rfl, ?_⟩; have n0_ := Aside0.mk (Kd.R_lower ho0 (below_size (belN HB))); have n1_ := Aside0.mk (blk_below (g := gb189) (blkN BK189) hb); have n2_ := Aside0.mk (blk_below (g := gb190) (blkN BK190) hb); have n3_ := Aside0.mk (below_step (belN HB) hb); clear BK189; clear BK190; clear HB; have HO198 := n0_; have BK189 := n1_; have BK190 := n2_; have HB := n3_; clear n0_ n1_ n2_ n3_; (try clear hb); (try clear hb2); (try clear hk); (try clear hi); (try clear ho0); obtain ⟨hcz9_0, hcz9_1, hcz9_2, hcz9_3, hcz9_4, hcz9_5, hcz9_6, hfz9_0, hfz9_1, hfz9_2, hfz9_3, hfz9_4, hfz9_5, hfz9_6⟩ := cz7_ (w := w8) BK190.out; obtain ⟨Ao10, co10, eo10⟩ := Kd.R_slice HO198.out; subst eo10))
  refine bodyPost_ret (results_ctt rfl _ _ gb190 25 #[.int .u64 t191, .int .u64 t192, .int .u64 t193, .int .u64 t194, .int .u64 t195, .slice Ao10 t196.length co10, .bool t199] (0, 0) _ rfl (by (with_reducible repeat (first | refine blk_drewN ?_ _ | refine blk_drew ?_ | refine blk_alloc ?_ _)); refine blk_put (cs := #[.int .u64 t191, .int .u64 t192, .int .u64 t193, .int .u64 t194, .int .u64 t195, .slice Ao10 t196.length co10, .bool false]) ?_ 6 _ rfl; refine blk_put (cs := #[.int .u64 t191, .int .u64 t192, .int .u64 t193, .int .u64 t194, .int .u64 t195, .slice none 0 0, .bool false]) ?_ 5 _ rfl; refine blk_put (cs := #[.int .u64 t191, .int .u64 t192, .int .u64 t193, .int .u64 t194, .int .u64 0, .slice none 0 0, .bool false]) ?_ 4 _ rfl; refine blk_put (cs := #[.int .u64 t191, .int .u64 t192, .int .u64 t193, .int .u64 0, .int .u64 0, .slice none 0 0, .bool false]) ?_ 3 _ rfl; refine blk_put (cs := #[.int .u64 t191, .int .u64 t192, .int .u64 0, .int .u64 0, .int .u64 0, .slice none 0 0, .bool false]) ?_ 2 _ rfl; refine blk_put (cs := #[.int .u64 t191, .int .u64 0, .int .u64 0, .int .u64 0, .int .u64 0, .slice none 0 0, .bool false]) ?_ 1 _ rfl; refine blk_put (cs := #[.int .u64 0, .int .u64 0, .int .u64 0, .int .u64 0, .int .u64 0, .slice none 0 0, .bool false]) ?_ 0 _ rfl; (with_reducible repeat (first | refine blk_drewN ?_ _ | refine blk_drew ?_ | refine blk_alloc ?_ _)); exact BK190.out) Try.underlying25 rfl (by kernel_rfl)) rfl ?_
  exact ⟨_, by first | rfl | (simp [errW_none, errW_some] <;> rfl) | (simp [*, errW_none, errW_some] <;> rfl), by (with_reducible repeat (first | apply Kd.R_alloc | apply Kd.R_drewN | apply Kd.R_drew)); exact Kd.R_mono (Kd.R_far (p := ⟨gb190, 6, none⟩) (Kd.R_far (p := ⟨gb190, 5, none⟩) (Kd.R_far (p := ⟨gb190, 4, none⟩) (Kd.R_far (p := ⟨gb190, 3, none⟩) (Kd.R_far (p := ⟨gb190, 2, none⟩) (Kd.R_far (p := ⟨gb190, 1, none⟩) (Kd.R_far (p := ⟨gb190, 0, none⟩) (Kd.R_types HO198.out BK190.out (by decide)) (fun _ hk => hk.2) (.int .u64 t191)) (fun _ hk => hk.2) (.int .u64 t192)) (fun _ hk => hk.2) (.int .u64 t193)) (fun _ hk => hk.2) (.int .u64 t194)) (fun _ hk => hk.2) (.int .u64 t195)) (fun _ hk => hk.2) (.slice Ao10 t196.length co10)) (fun _ hk => hk.2) (.bool t199)) (fun _ hk => trivial), by repeat (first | (with_reducible first | exact HB.out | apply below_alloc | apply pw_below_drewN | apply below_drew1 | refine below_set ?_ GE189.out | refine below_set ?_ GE190.out) | exact HB.out)⟩

/-! ### channel_Settle_1: function 92 (by hand) -/
def channel_Settle_1.f : Option (Unit) := some ()
theorem channel_Settle_1.calls {g : Nat} (w : World) (h : channel_Settle_1.f = some ()) :
    Calls Try.prog 92 #[.pointer (some ⟨g, 0, none⟩)] w fun e w' => e = .returned (.pointer (some ⟨g, 2, none⟩)) ∧ Drawn0 w w' := by
  go_enter Try.func92, Try.ntmps92
  go_wp2
  go_ret
  exact ⟨rfl, 0, rfl⟩

/-! ### channel_end_at_channel_Settle_1: function 166 -/
def channel_end_at_channel_Settle_1.f (k : Nat) (a0_0 : Int) (a0_1 : Int) (a0_2 : Int) (a0_3 : Int) (a0_4 : Int) (l0_5 : List (S44)) (a0_6 : Bool) (a1 : Int)  : Option (Int × Int × Int × Int × Int × (List (S44)) × Bool × Int × Int) := (channel_Check.f k a0_0 a0_1 a0_2 a0_3 a0_4 l0_5 a0_6).bind fun t204 => (if t204 = 0 then ((slices_BinarySearchFunc_uint64_at_channel_order.f k l0_5 a1).bind fun bt205 => (if bt205.2 = true then (if 0 ≤ bt205.1 then (if bt205.1 < (l0_5.length : Int) then ((slices_Clone_Hold.f l0_5).bind fun t208 => ((slices_Delete_Hold.f t208 bt205.1 (wrap64 (bt205.1 + 1))).bind fun t211 => ((channel_Settle_1.f).bind fun _ => (some (a0_0, a0_1, IntKind.u64.wrap (a0_2 + ((rd_T44 l0_5 bt205.1).f1)), a0_3, a0_4, t211, a0_6, (rd_T44 l0_5 bt205.1).f1, 0))))) else (none)) else (none)) else (some (0, 0, 0, 0, 0, ([] : List (S44)), false, 0, 5)))) else (some (0, 0, 0, 0, 0, ([] : List (S44)), false, 0, t204)))
theorem channel_end_at_channel_Settle_1.mono : ∀ a0 a1 a2 a3 a4 a5 a6 a7 k, LeO (channel_end_at_channel_Settle_1.f k a0 a1 a2 a3 a4 a5 a6 a7) (channel_end_at_channel_Settle_1.f (k + 1) a0 a1 a2 a3 a4 a5 a6 a7) := by
 intro a0 a1 a2 a3 a4 a5 a6 a7 k
 unfold channel_end_at_channel_Settle_1.f
 repeat' first
   | (with_reducible exact channel_Check.mono _ _ _ _ _ _ _ _)
   | (with_reducible exact slices_BinarySearchFunc_uint64_at_channel_order.mono _ _ _)
   | (with_reducible exact LeO.refl _)
   | (with_reducible exact LeO.none _)
   | (with_reducible refine LeO.ite ?_ ?_)
   | (with_reducible refine LeO.bind ?_ (fun _ => ?_))
   | exact channel_Check.mono _ _ _ _ _ _ _ _
   | exact slices_BinarySearchFunc_uint64_at_channel_order.mono _ _ _
   | exact LeO.none _
   | refine LeO.ite ?_ ?_
   | refine LeO.bind ?_ (fun _ => ?_)
set_option maxHeartbeats 8000000 in
set_option maxRecDepth 100000 in
theorem channel_end_at_channel_Settle_1.calls (k : Nat) (a0_0 : Int) (a0_1 : Int) (a0_2 : Int) (a0_3 : Int) (a0_4 : Int) (A0_5 : Option Addr) (c0_5 : Nat) (l0_5 : List (S44)) (a0_6 : Bool) (a1 : Int)  (r1 : Int) (r2 : Int) (r3 : Int) (r4 : Int) (r5 : Int) (r6 : List (S44)) (r7 : Bool) (r8 : Int) (r9 : Int) (w : World) (hr0_5 : Kd.C k44 w A0_5 l0_5.length l0_5) (hc0_5 : l0_5.length ≤ c0_5) (h : channel_end_at_channel_Settle_1.f k a0_0 a0_1 a0_2 a0_3 a0_4 l0_5 a0_6 a1 = some (r1, r2, r3, r4, r5, r6, r7, r8, r9)) :
  Calls Try.prog 90 #[.agg #[.int .u64 a0_0, .int .u64 a0_1, .int .u64 a0_2, .int .u64 a0_3, .int .u64 a0_4, .slice A0_5 l0_5.length c0_5, .bool a0_6], .int .u64 a1, .func (.func 92) #[] #[]] w fun e w' => ∃ v5_ : Value, e = .returned (.tuple #[.agg #[.int .u64 r1, .int .u64 r2, .int .u64 r3, .int .u64 r4, .int .u64 r5, v5_, .bool r7], .int .u64 r8, .int .i64 r9]) ∧ Kd.R k44 44 w' w.heap.size (fun _ => True) v5_ r6 ∧ Below w.heap.size w w' := by
 have hu25 := Try.underlying25
 have HR0_5 := Aside0.mk hr0_5
 have HC0_5 := Aside0.mk hc0_5
 clear hr0_5 hc0_5
 have HB := Aside0.mk (Below.refl w.heap.size w)
 have H : ((channel_Check.f k a0_0 a0_1 a0_2 a0_3 a0_4 l0_5 a0_6).bind fun t204 => (if t204 = 0 then ((slices_BinarySearchFunc_uint64_at_channel_order.f k l0_5 a1).bind fun bt205 => (if bt205.2 = true then (if 0 ≤ bt205.1 then (if bt205.1 < (l0_5.length : Int) then ((slices_Clone_Hold.f l0_5).bind fun t208 => ((slices_Delete_Hold.f t208 bt205.1 (wrap64 (bt205.1 + 1))).bind fun t211 => ((channel_Settle_1.f).bind fun _ => (some (a0_0, a0_1, IntKind.u64.wrap (a0_2 + ((rd_T44 l0_5 bt205.1).f1)), a0_3, a0_4, t211, a0_6, (rd_T44 l0_5 bt205.1).f1, 0))))) else (none)) else (none)) else (some (0, 0, 0, 0, 0, ([] : List (S44)), false, 0, 5)))) else (some (0, 0, 0, 0, 0, ([] : List (S44)), false, 0, t204)))) = some (r1, r2, r3, r4, r5, r6, r7, r8, r9) := h
 clear h
 replace H := Option.bind_eq_some_iff.mp H
 obtain ⟨t204, A40, H⟩ := H
 replace H : (if t204 = 0 then ((slices_BinarySearchFunc_uint64_at_channel_order.f k l0_5 a1).bind fun bt205 => (if bt205.2 = true then (if 0 ≤ bt205.1 then (if bt205.1 < (l0_5.length : Int) then ((slices_Clone_Hold.f l0_5).bind fun t208 => ((slices_Delete_Hold.f t208 bt205.1 (wrap64 (bt205.1 + 1))).bind fun t211 => ((channel_Settle_1.f).bind fun _ => (some (a0_0, a0_1, IntKind.u64.wrap (a0_2 + ((rd_T44 l0_5 bt205.1).f1)), a0_3, a0_4, t211, a0_6, (rd_T44 l0_5 bt205.1).f1, 0))))) else (none)) else (none)) else (some (0, 0, 0, 0, 0, ([] : List (S44)), false, 0, 5)))) else (some (0, 0, 0, 0, 0, ([] : List (S44)), false, 0, t204))) = some (r1, r2, r3, r4, r5, r6, r7, r8, r9) := H
 have A4 := Aside0.mk A40
 clear A40
 by_cases c5 : t204 = 0
 ·rw [if_pos c5] at H
  have c5b0 : (t204 == 0) = true := beq_iff_eq.mpr c5
  have c5b1 : (t204 != 0) = false := bne_eq_false_iff_eq.mpr c5
  clear c5
  replace H := Option.bind_eq_some_iff.mp H
  obtain ⟨⟨t205, t206⟩, A60, H⟩ := H
  replace H : (if t206 = true then (if 0 ≤ t205 then (if t205 < (l0_5.length : Int) then ((slices_Clone_Hold.f l0_5).bind fun t208 => ((slices_Delete_Hold.f t208 t205 (wrap64 (t205 + 1))).bind fun t211 => ((channel_Settle_1.f).bind fun _ => (some (a0_0, a0_1, IntKind.u64.wrap (a0_2 + ((rd_T44 l0_5 t205).f1)), a0_3, a0_4, t211, a0_6, (rd_T44 l0_5 t205).f1, 0))))) else (none)) else (none)) else (some (0, 0, 0, 0, 0, ([] : List (S44)), false, 0, 5))) = some (r1, r2, r3, r4, r5, r6, r7, r8, r9) := H
  have A6 := Aside0.mk A60
  clear A60
  by_cases c7 : t206 = true
  ·subst c7
   have H1 : (if 0 ≤ t205 then (if t205 < (l0_5.length : Int) then ((slices_Clone_Hold.f l0_5).bind fun t208 => ((slices_Delete_Hold.f t208 t205 (wrap64 (t205 + 1))).bind fun t211 => ((channel_Settle_1.f).bind fun _ => (some (a0_0, a0_1, IntKind.u64.wrap (a0_2 + ((rd_T44 l0_5 t205).f1)), a0_3, a0_4, t211, a0_6, (rd_T44 l0_5 t205).f1, 0))))) else (none)) else (none)) = some (r1, r2, r3, r4, r5, r6, r7, r8, r9) := by rw [if_pos rfl] at H; exact H
   clear H
   have H := H1
   clear H1
   by_cases c8 : 0 ≤ t205
   ·rw [if_pos c8] at H
    have c8b0 : decide (0 ≤ t205) = true := decide_eq_true c8
    clear c8
    by_cases c9 : t205 < (l0_5.length : Int)
    ·rw [if_pos c9] at H
     have c9b0 : decide (t205 < (l0_5.length : Int)) = true := decide_eq_true c9
     clear c9
     replace H := Option.bind_eq_some_iff.mp H
     obtain ⟨t208, A100, H⟩ := H
     replace H : ((slices_Delete_Hold.f t208 t205 (wrap64 (t205 + 1))).bind fun t211 => ((channel_Settle_1.f).bind fun _ => (some (a0_0, a0_1, IntKind.u64.wrap (a0_2 + ((rd_T44 l0_5 t205).f1)), a0_3, a0_4, t211, a0_6, (rd_T44 l0_5 t205).f1, 0)))) = some (r1, r2, r3, r4, r5, r6, r7, r8, r9) := H
     have A10 := Aside0.mk A100
     clear A100
     replace H := Option.bind_eq_some_iff.mp H
     obtain ⟨t211, A110, H⟩ := H
     replace H : ((channel_Settle_1.f).bind fun _ => (some (a0_0, a0_1, IntKind.u64.wrap (a0_2 + ((rd_T44 l0_5 t205).f1)), a0_3, a0_4, t211, a0_6, (rd_T44 l0_5 t205).f1, 0))) = some (r1, r2, r3, r4, r5, r6, r7, r8, r9) := H
     have A11 := Aside0.mk A110
     clear A110
     replace H := Option.bind_eq_some_iff.mp H
     obtain ⟨_, A120, H⟩ := H
     replace H : (some (a0_0, a0_1, IntKind.u64.wrap (a0_2 + ((rd_T44 l0_5 t205).f1)), a0_3, a0_4, t211, a0_6, (rd_T44 l0_5 t205).f1, 0)) = some (r1, r2, r3, r4, r5, r6, r7, r8, r9) := H
     have A12 := Aside0.mk A120
     clear A120
     simp only [Option.some.injEq, Prod.mk.injEq] at H
     obtain ⟨rfl, rfl, rfl, rfl, rfl, rfl, rfl, rfl, rfl⟩ := H
     go_enter Try.func90, Try.ntmps90
     go_wp2_with (first | ((with_reducible refine gate_dst (N := 3) rfl ?_); refine box_event ?hg (N := 3) ?hd (cs := #[.int .u64 a0_0, .int .u64 a0_1, .int .u64 a0_2, .int .u64 a0_3, .int .u64 a0_4, .slice A0_5 l0_5.length c0_5, .bool a0_6]) (t := 25) ?hr ?_; (case hd => rfl); (case hg => rfl); (case hr => first | (go_simp; done) | (go_simp; rfl)); intro gb202 hg w13 hbox hb; have n0_ := Aside0.mk (below_step (belN HB) hb); have n1_ := Aside0.mk (hbox); have n2_ := Aside0.mk ((by rw [hg]; exact (below_size (belN HB)) : w.heap.size ≤ gb202)); have n3_ := Aside0.mk ((by rw [hg]; exact (below_size (belN HB)) : w.heap.size ≤ gb202)); clear HB; have HB := n0_; have BK202 := n1_; have GW202 := n2_; have GE202 := n3_; clear n0_ n1_ n2_ n3_; clear hb hbox hg) | ((with_reducible refine gate_dst (N := 6) rfl ?_); refine box_event ?hg (N := 6) ?hd (cs := #[.int .u64 0, .int .u64 0, .int .u64 0, .int .u64 0, .int .u64 0, .slice none 0 0, .bool false]) (t := 25) ?hr ?_; (case hd => rfl); (case hg => rfl); (case hr => first | (go_simp; done) | (go_simp; rfl)); intro gb203 hg w14 hbox hb; have n0_ := Aside0.mk (blk_below (g := gb202) (blkN BK202) hb); have n1_ := Aside0.mk (below_step (belN HB) hb); have n2_ := Aside0.mk (hbox); have n3_ := Aside0.mk ((by rw [hg]; exact (below_size (belN HB)) : w.heap.size ≤ gb203)); have n4_ := Aside0.mk ((by rw [hg]; exact (below_size (belN HB)) : w.heap.size ≤ gb203)); have n5_ := Aside0.mk ((by rw [hg]; exact Nat.ne_of_lt (blk_lt (g := gb202) (blkN BK202)) : gb202 ≠ gb203)); have n6_ := Aside0.mk ((by rw [hg]; exact Nat.ne_of_gt (blk_lt (g := gb202) (blkN BK202)) : gb203 ≠ gb202)); clear BK202; clear HB; have BK202 := n0_; have HB := n1_; have BK203 := n2_; have GW203 := n3_; have GE203 := n4_; have NB202_203 := n5_; have NB203_202 := n6_; clear n0_ n1_ n2_ n3_ n4_ n5_ n6_; clear hb hbox hg; have hnb15 := NB202_203.out; have hnc15 := NB203_202.out; obtain ⟨hcz16_0, hcz16_1, hcz16_2, hcz16_3, hcz16_4, hcz16_5, hcz16_6, hfz16_0, hfz16_1, hfz16_2, hfz16_3, hfz16_4, hfz16_5, hfz16_6⟩ := cz7_ (w := w14) BK202.out) | ((with_reducible refine gate_callee (f := 33) rfl ?_); refine goesL_ (some 14) rfl rfl Try.func33 (by kernel_rfl) rfl #[.agg #[.int .u64 a0_0, .int .u64 a0_1, .int .u64 a0_2, .int .u64 a0_3, .int .u64 a0_4, .slice A0_5 l0_5.length c0_5, .bool a0_6]] rfl (by (try simp only [List.map_toArray, List.map_cons, List.map_nil]); first | done | rfl | (simp only [List.length_drop, List.length_take]; rfl)) ?_; (with_reducible refine (channel_Check.calls k a0_0 a0_1 a0_2 a0_3 a0_4 _ _ l0_5 a0_6 t204 _ ?side1 ?side2 A4.out).mono ?_); (case side1 => repeat (first | exact (Kd.C_below HR0_5.out HB.out) | (with_reducible refine Kd.C_alloc ?_ _) | (with_reducible refine Kd.C_drewN ?_ _) | (with_reducible refine Kd.C_drew ?_))); (case side2 => exact HC0_5.out); rintro e w17 ⟨rfl, hb⟩; refine ⟨_, rfl, ?_⟩; have n0_ := Aside0.mk (blk_below (g := gb202) (blkN BK202) hb); have n1_ := Aside0.mk (blk_below (g := gb203) (blkN BK203) hb); have n2_ := Aside0.mk (below_step (belN HB) hb); clear BK202; clear BK203; clear HB; have BK202 := n0_; have BK203 := n1_; have HB := n2_; clear n0_ n1_ n2_; (try clear hb); (try clear hb2); (try clear hk); (try clear hi); obtain ⟨hcz18_0, hcz18_1, hcz18_2, hcz18_3, hcz18_4, hcz18_5, hcz18_6, hfz18_0, hfz18_1, hfz18_2, hfz18_3, hfz18_4, hfz18_5, hfz18_6⟩ := cz7_ (w := w17) BK202.out) | ((with_reducible refine gate_callee (f := 85) rfl ?_); refine goesL_ (some 23) rfl rfl Try.func85 (by kernel_rfl) rfl #[.slice A0_5 l0_5.length c0_5, .int .u64 a1, .func (.func 86) #[] #[]] rfl (by (try simp only [List.map_toArray, List.map_cons, List.map_nil]); first | done | rfl | (simp only [List.length_drop, List.length_take]; rfl)) ?_; (with_reducible refine (slices_BinarySearchFunc_uint64_at_channel_order.calls k _ _ l0_5 a1  t205 true _ ?side1 ?side2 A6.out).mono ?_); (case side1 => repeat (first | exact (Kd.C_below HR0_5.out HB.out) | (with_reducible refine Kd.C_alloc ?_ _) | (with_reducible refine Kd.C_drewN ?_ _) | (with_reducible refine Kd.C_drew ?_))); (case side2 => exact HC0_5.out); rintro e w19 ⟨rfl, hb⟩; refine ⟨_, rfl, ?_⟩; have n0_ := Aside0.mk (blk_below (g := gb202) (blkN BK202) hb); have n1_ := Aside0.mk (blk_below (g := gb203) (blkN BK203) hb); have n2_ := Aside0.mk (below_step (belN HB) hb); clear BK202; clear BK203; clear HB; have BK202 := n0_; have BK203 := n1_; have HB := n2_; clear n0_ n1_ n2_; (try clear hb); (try clear hb2); (try clear hk); (try clear hi); obtain ⟨hcz20_0, hcz20_1, hcz20_2, hcz20_3, hcz20_4, hcz20_5, hcz20_6, hfz20_0, hfz20_1, hfz20_2, hfz20_3, hfz20_4, hfz20_5, hfz20_6⟩ := cz7_ (w := w19) BK202.out; have p207 : 0 ≤ (t205 : Int) := of_decide_eq_true (by first | (with_reducible assumption) | assumption); have q207 : t205 < (l0_5.length : Int) := of_decide_eq_true (by first | (with_reducible assumption) | assumption); obtain ⟨ad207, e207, hx207_0, hx207_1⟩ := at_T44 HR0_5.out t205 p207 q207; cases e207; replace hx207_0 := (HB.out.cell (World.block_lt_of_cell? w _ hx207_0)).trans hx207_0; replace hx207_1 := (HB.out.cell (World.block_lt_of_cell? w _ hx207_1)).trans hx207_1; replace p207 := eq_true p207; replace q207 := eq_true q207) | ((with_reducible refine gate_callee (f := 89) rfl ?_); refine goesL_ (some 37) rfl rfl Try.func89 (by kernel_rfl) rfl #[.slice (some ad207) l0_5.length c0_5] rfl (by (try simp only [List.map_toArray, List.map_cons, List.map_nil]); first | done | rfl | (simp only [List.length_drop, List.length_take]; rfl)) ?_; (with_reducible refine (slices_Clone_Hold.calls _ _ l0_5 t208 _ ?side1 ?side2 A10.out).mono ?_); (case side1 => repeat (first | exact (Kd.C_below HR0_5.out HB.out) | (with_reducible refine Kd.C_alloc ?_ _) | (with_reducible refine Kd.C_drewN ?_ _) | (with_reducible refine Kd.C_drew ?_))); (case side2 => exact HC0_5.out); rintro e w21 ⟨v209, rfl, ho0, hb⟩; refine ⟨_, rfl, ?_⟩; have n0_ := Aside0.mk (Kd.R_lower ho0 (below_size (belN HB))); have n1_ := Aside0.mk (blk_below (g := gb202) (blkN BK202) hb); have n2_ := Aside0.mk (blk_below (g := gb203) (blkN BK203) hb); have n3_ := Aside0.mk (below_step (belN HB) hb); clear BK202; clear BK203; clear HB; have HO210 := n0_; have BK202 := n1_; have BK203 := n2_; have HB := n3_; clear n0_ n1_ n2_ n3_; (try clear hb); (try clear hb2); (try clear hk); (try clear hi); (try clear ho0); obtain ⟨Ao22, co22, eo22⟩ := Kd.R_slice HO210.out; subst eo22) | ((with_reducible refine gate_callee (f := 133) rfl ?_); refine goesL_ (some 41) rfl rfl Try.func133 (by kernel_rfl) rfl #[.slice Ao22 t208.length co22, .int .i64 t205, .int .i64 (wrap64 (t205 + 1))] rfl (by (try simp only [List.map_toArray, List.map_cons, List.map_nil]); first | done | rfl | (simp only [List.length_drop, List.length_take]; rfl)) ?_; (with_reducible refine (slices_Delete_Hold.calls (fun k_ => some k_ = (.slice Ao22 t208.length co22 : Value).ownBlock) (.slice Ao22 t208.length co22) t208 t205 (wrap64 (t205 + 1)) t211 w _ ?side1 ?side2 A11.out).mono ?_); (case side1 => repeat (first | (with_reducible first | exact HB.out | apply below_alloc | apply pw_below_drewN | apply below_drew1 | refine below_set ?_ GE202.out | refine below_set ?_ GE203.out) | exact HB.out)); (case side2 => exact Kd.R_tight rfl HO210.out); rintro e w23 ⟨v212, rfl, ho0, hb, hkp⟩; refine ⟨_, rfl, ?_⟩; have n0_ := Aside0.mk (blk_kept (blkN BK202) hkp (fun hs_ => (fun e_ => (Kd.R_ne HO210.out BK202.out (by decide)) e_) hs_)); have n1_ := Aside0.mk (blk_kept (blkN BK203) hkp (fun hs_ => (fun e_ => (Kd.R_ne HO210.out BK203.out (by decide)) e_) hs_)); have n2_ := Aside0.mk (Kd.R_mono (ok' := fun k_ => True) ho0 (fun k_ hk_ => trivial)); have n3_ := Aside0.mk (hb); clear BK202; clear BK203; clear HB; clear HO210; have BK202 := n0_; have BK203 := n1_; have HO213 := n2_; have HB := n3_; clear n0_ n1_ n2_ n3_; (try clear hb); (try clear hkp); (try clear ho0); obtain ⟨Ao24, co24, eo24⟩ := Kd.R_slice HO213.out; subst eo24; obtain ⟨hcz25_0, hcz25_1, hcz25_2, hcz25_3, hcz25_4, hcz25_5, hcz25_6, hfz25_0, hfz25_1, hfz25_2, hfz25_3, hfz25_4, hfz25_5, hfz25_6⟩ := cz7_ (w := w23) BK202.out) | ((with_reducible refine gate_tmp (t_ := 43) rfl ?_); refine goesT_ (some 44) rfl rfl Try.func92 (by kernel_rfl) rfl #[.pointer (some ⟨gb202, 0, none⟩)] rfl rfl (by (try simp only [List.map_toArray, List.map_cons, List.map_nil]); first | done | rfl | (simp only [List.length_drop, List.length_take]; rfl)) ?_; (with_reducible refine (channel_Settle_1.calls   _ A12.out).mono ?_); rintro e w' ⟨rfl, ⟨nd, rfl⟩⟩; refine ⟨_, rfl, ?_⟩; obtain ⟨hcz26_0, hcz26_1, hcz26_2, hcz26_3, hcz26_4, hcz26_5, hcz26_6, hfz26_0, hfz26_1, hfz26_2, hfz26_3, hfz26_4, hfz26_5, hfz26_6⟩ := cz7_ (w := w23) BK203.out))
     refine bodyPost_ret (results_ctt rfl _ _ gb203 25 #[.int .u64 a0_0, .int .u64 a0_1, .int .u64 (IntKind.u64.wrap (a0_2 + ((rd_T44 l0_5 t205).f1))), .int .u64 a0_3, .int .u64 a0_4, .slice Ao24 t211.length co24, .bool a0_6] (0, 0) _ rfl (by (with_reducible repeat (first | refine blk_drewN ?_ _ | refine blk_drew ?_ | refine blk_alloc ?_ _)); refine blk_put (cs := #[.int .u64 a0_0, .int .u64 a0_1, .int .u64 (IntKind.u64.wrap (a0_2 + ((rd_T44 l0_5 t205).f1))), .int .u64 a0_3, .int .u64 a0_4, .slice Ao24 t211.length co24, .bool false]) ?_ 6 _ rfl; refine blk_put (cs := #[.int .u64 a0_0, .int .u64 a0_1, .int .u64 (IntKind.u64.wrap (a0_2 + ((rd_T44 l0_5 t205).f1))), .int .u64 a0_3, .int .u64 a0_4, .slice none 0 0, .bool false]) ?_ 5 _ rfl; refine blk_put (cs := #[.int .u64 a0_0, .int .u64 a0_1, .int .u64 (IntKind.u64.wrap (a0_2 + ((rd_T44 l0_5 t205).f1))), .int .u64 a0_3, .int .u64 0, .slice none 0 0, .bool false]) ?_ 4 _ rfl; refine blk_put (cs := #[.int .u64 a0_0, .int .u64 a0_1, .int .u64 (IntKind.u64.wrap (a0_2 + ((rd_T44 l0_5 t205).f1))), .int .u64 0, .int .u64 0, .slice none 0 0, .bool false]) ?_ 3 _ rfl; refine blk_put (cs := #[.int .u64 a0_0, .int .u64 a0_1, .int .u64 0, .int .u64 0, .int .u64 0, .slice none 0 0, .bool false]) ?_ 2 _ rfl; refine blk_put (cs := #[.int .u64 a0_0, .int .u64 0, .int .u64 0, .int .u64 0, .int .u64 0, .slice none 0 0, .bool false]) ?_ 1 _ rfl; refine blk_put (cs := #[.int .u64 0, .int .u64 0, .int .u64 0, .int .u64 0, .int .u64 0, .slice none 0 0, .bool false]) ?_ 0 _ rfl; (with_reducible repeat (first | refine blk_drewN ?_ _ | refine blk_drew ?_ | refine blk_alloc ?_ _)); refine blk_far ?_ NB203_202.out _; (with_reducible repeat (first | refine blk_drewN ?_ _ | refine blk_drew ?_ | refine blk_alloc ?_ _)); refine blk_far ?_ NB203_202.out _; (with_reducible repeat (first | refine blk_drewN ?_ _ | refine blk_drew ?_ | refine blk_alloc ?_ _)); exact BK203.out) Try.underlying25 rfl (by kernel_rfl)) rfl ?_
     exact ⟨_, by first | rfl | (simp [errW_none, errW_some] <;> rfl) | (simp [*, errW_none, errW_some] <;> rfl), by (with_reducible repeat (first | apply Kd.R_alloc | apply Kd.R_drewN | apply Kd.R_drew)); exact Kd.R_mono (Kd.R_far (p := ⟨gb203, 6, none⟩) (Kd.R_far (p := ⟨gb203, 5, none⟩) (Kd.R_far (p := ⟨gb203, 4, none⟩) (Kd.R_far (p := ⟨gb203, 3, none⟩) (Kd.R_far (p := ⟨gb203, 2, none⟩) (Kd.R_far (p := ⟨gb203, 1, none⟩) (Kd.R_far (p := ⟨gb203, 0, none⟩) (Kd.R_far (p := ⟨gb202, 2, none⟩) (Kd.R_far (p := ⟨gb202, 5, none⟩) (Kd.R_types (Kd.R_types HO213.out BK202.out (by decide)) BK203.out (by decide)) (fun _ hk => hk.1.2) (.slice Ao24 t211.length co24)) (fun _ hk => hk.1.2) (.int .u64 (IntKind.u64.wrap (a0_2 + ((rd_T44 l0_5 t205).f1))))) (fun _ hk => hk.2) (.int .u64 a0_0)) (fun _ hk => hk.2) (.int .u64 a0_1)) (fun _ hk => hk.2) (.int .u64 (IntKind.u64.wrap (a0_2 + ((rd_T44 l0_5 t205).f1))))) (fun _ hk => hk.2) (.int .u64 a0_3)) (fun _ hk => hk.2) (.int .u64 a0_4)) (fun _ hk => hk.2) (.slice Ao24 t211.length co24)) (fun _ hk => hk.2) (.bool a0_6)) (fun _ hk => trivial), by repeat (first | (with_reducible first | exact HB.out | apply below_alloc | apply pw_below_drewN | apply below_drew1 | refine below_set ?_ GE202.out | refine below_set ?_ GE203.out) | exact HB.out)⟩
    ·rw [if_neg c9] at H
     exact absurd H (by simp)
   ·rw [if_neg c8] at H
    exact absurd H (by simp)
  ·replace c7 := Bool.eq_false_iff.mpr c7
   subst c7
   have H1 : (some (0, 0, 0, 0, 0, ([] : List (S44)), false, 0, 5)) = some (r1, r2, r3, r4, r5, r6, r7, r8, r9) := by rw [if_neg (show ¬ (false = true) by decide)] at H; exact H
   clear H
   have H := H1
   clear H1
   simp only [Option.some.injEq, Prod.mk.injEq] at H
   obtain ⟨rfl, rfl, rfl, rfl, rfl, rfl, rfl, rfl, rfl⟩ := H
   go_enter Try.func90, Try.ntmps90
   go_wp2_with (first | ((with_reducible refine gate_dst (N := 3) rfl ?_); refine box_event ?hg (N := 3) ?hd (cs := #[.int .u64 a0_0, .int .u64 a0_1, .int .u64 a0_2, .int .u64 a0_3, .int .u64 a0_4, .slice A0_5 l0_5.length c0_5, .bool a0_6]) (t := 25) ?hr ?_; (case hd => rfl); (case hg => rfl); (case hr => first | (go_simp; done) | (go_simp; rfl)); intro gb202 hg w27 hbox hb; have n0_ := Aside0.mk (below_step (belN HB) hb); have n1_ := Aside0.mk (hbox); have n2_ := Aside0.mk ((by rw [hg]; exact (below_size (belN HB)) : w.heap.size ≤ gb202)); have n3_ := Aside0.mk ((by rw [hg]; exact (below_size (belN HB)) : w.heap.size ≤ gb202)); clear HB; have HB := n0_; have BK202 := n1_; have GW202 := n2_; have GE202 := n3_; clear n0_ n1_ n2_ n3_; clear hb hbox hg) | ((with_reducible refine gate_dst (N := 6) rfl ?_); refine box_event ?hg (N := 6) ?hd (cs := #[.int .u64 0, .int .u64 0, .int .u64 0, .int .u64 0, .int .u64 0, .slice none 0 0, .bool false]) (t := 25) ?hr ?_; (case hd => rfl); (case hg => rfl); (case hr => first | (go_simp; done) | (go_simp; rfl)); intro gb203 hg w28 hbox hb; have n0_ := Aside0.mk (blk_below (g := gb202) (blkN BK202) hb); have n1_ := Aside0.mk (below_step (belN HB) hb); have n2_ := Aside0.mk (hbox); have n3_ := Aside0.mk ((by rw [hg]; exact (below_size (belN HB)) : w.heap.size ≤ gb203)); have n4_ := Aside0.mk ((by rw [hg]; exact (below_size (belN HB)) : w.heap.size ≤ gb203)); have n5_ := Aside0.mk ((by rw [hg]; exact Nat.ne_of_lt (blk_lt (g := gb202) (blkN BK202)) : gb202 ≠ gb203)); have n6_ := Aside0.mk ((by rw [hg]; exact Nat.ne_of_gt (blk_lt (g := gb202) (blkN BK202)) : gb203 ≠ gb202)); clear BK202; clear HB; have BK202 := n0_; have HB := n1_; have BK203 := n2_; have GW203 := n3_; have GE203 := n4_; have NB202_203 := n5_; have NB203_202 := n6_; clear n0_ n1_ n2_ n3_ n4_ n5_ n6_; clear hb hbox hg; have hnb29 := NB202_203.out; have hnc29 := NB203_202.out; obtain ⟨hcz30_0, hcz30_1, hcz30_2, hcz30_3, hcz30_4, hcz30_5, hcz30_6, hfz30_0, hfz30_1, hfz30_2, hfz30_3, hfz30_4, hfz30_5, hfz30_6⟩ := cz7_ (w := w28) BK202.out) | ((with_reducible refine gate_callee (f := 33) rfl ?_); refine goesL_ (some 14) rfl rfl Try.func33 (by kernel_rfl) rfl #[.agg #[.int .u64 a0_0, .int .u64 a0_1, .int .u64 a0_2, .int .u64 a0_3, .int .u64 a0_4, .slice A0_5 l0_5.length c0_5, .bool a0_6]] rfl (by (try simp only [List.map_toArray, List.map_cons, List.map_nil]); first | done | rfl | (simp only [List.length_drop, List.length_take]; rfl)) ?_; (with_reducible refine (channel_Check.calls k a0_0 a0_1 a0_2 a0_3 a0_4 _ _ l0_5 a0_6 t204 _ ?side1 ?side2 A4.out).mono ?_); (case side1 => repeat (first | exact (Kd.C_below HR0_5.out HB.out) | (with_reducible refine Kd.C_alloc ?_ _) | (with_reducible refine Kd.C_drewN ?_ _) | (with_reducible refine Kd.C_drew ?_))); (case side2 => exact HC0_5.out); rintro e w31 ⟨rfl, hb⟩; refine ⟨_, rfl, ?_⟩; have n0_ := Aside0.mk (blk_below (g := gb202) (blkN BK202) hb); have n1_ := Aside0.mk (blk_below (g := gb203) (blkN BK203) hb); have n2_ := Aside0.mk (below_step (belN HB) hb); clear BK202; clear BK203; clear HB; have BK202 := n0_; have BK203 := n1_; have HB := n2_; clear n0_ n1_ n2_; (try clear hb); (try clear hb2); (try clear hk); (try clear hi); obtain ⟨hcz32_0, hcz32_1, hcz32_2, hcz32_3, hcz32_4, hcz32_5, hcz32_6, hfz32_0, hfz32_1, hfz32_2, hfz32_3, hfz32_4, hfz32_5, hfz32_6⟩ := cz7_ (w := w31) BK202.out) | ((with_reducible refine gate_callee (f := 85) rfl ?_); refine goesL_ (some 23) rfl rfl Try.func85 (by kernel_rfl) rfl #[.slice A0_5 l0_5.length c0_5, .int .u64 a1, .func (.func 86) #[] #[]] rfl (by (try simp only [List.map_toArray, List.map_cons, List.map_nil]); first | done | rfl | (simp only [List.length_drop, List.length_take]; rfl)) ?_; (with_reducible refine (slices_BinarySearchFunc_uint64_at_channel_order.calls k _ _ l0_5 a1  t205 false _ ?side1 ?side2 A6.out).mono ?_); (case side1 => repeat (first | exact (Kd.C_below HR0_5.out HB.out) | (with_reducible refine Kd.C_alloc ?_ _) | (with_reducible refine Kd.C_drewN ?_ _) | (with_reducible refine Kd.C_drew ?_))); (case side2 => exact HC0_5.out); rintro e w33 ⟨rfl, hb⟩; refine ⟨_, rfl, ?_⟩; have n0_ := Aside0.mk (blk_below (g := gb202) (blkN BK202) hb); have n1_ := Aside0.mk (blk_below (g := gb203) (blkN BK203) hb); have n2_ := Aside0.mk (below_step (belN HB) hb); clear BK202; clear BK203; clear HB; have BK202 := n0_; have BK203 := n1_; have HB := n2_; clear n0_ n1_ n2_; (try clear hb); (try clear hb2); (try clear hk); (try clear hi); obtain ⟨hcz34_0, hcz34_1, hcz34_2, hcz34_3, hcz34_4, hcz34_5, hcz34_6, hfz34_0, hfz34_1, hfz34_2, hfz34_3, hfz34_4, hfz34_5, hfz34_6⟩ := cz7_ (w := w33) BK203.out))
   refine bodyPost_ret (results_ctt rfl _ _ gb203 25 #[.int .u64 0, .int .u64 0, .int .u64 0, .int .u64 0, .int .u64 0, .slice none 0 0, .bool false] (0, 0) _ rfl (by (with_reducible repeat (first | refine blk_drewN ?_ _ | refine blk_drew ?_ | refine blk_alloc ?_ _)); refine blk_put (cs := #[.int .u64 0, .int .u64 0, .int .u64 0, .int .u64 0, .int .u64 0, .slice none 0 0, .bool false]) ?_ 6 _ rfl; refine blk_put (cs := #[.int .u64 0, .int .u64 0, .int .u64 0, .int .u64 0, .int .u64 0, .slice none 0 0, .bool false]) ?_ 5 _ rfl; refine blk_put (cs := #[.int .u64 0, .int .u64 0, .int .u64 0, .int .u64 0, .int .u64 0, .slice none 0 0, .bool false]) ?_ 4 _ rfl; refine blk_put (cs := #[.int .u64 0, .int .u64 0, .int .u64 0, .int .u64 0, .int .u64 0, .slice none 0 0, .bool false]) ?_ 3 _ rfl; refine blk_put (cs := #[.int .u64 0, .int .u64 0, .int .u64 0, .int .u64 0, .int .u64 0, .slice none 0 0, .bool false]) ?_ 2 _ rfl; refine blk_put (cs := #[.int .u64 0, .int .u64 0, .int .u64 0, .int .u64 0, .int .u64 0, .slice none 0 0, .bool false]) ?_ 1 _ rfl; refine blk_put (cs := #[.int .u64 0, .int .u64 0, .int .u64 0, .int .u64 0, .int .u64 0, .slice none 0 0, .bool false]) ?_ 0 _ rfl; (with_reducible repeat (first | refine blk_drewN ?_ _ | refine blk_drew ?_ | refine blk_alloc ?_ _)); exact BK203.out) Try.underlying25 rfl (by kernel_rfl)) rfl ?_
   exact ⟨_, by first | rfl | (simp [errW_none, errW_some] <;> rfl) | (simp [*, errW_none, errW_some] <;> rfl), by first | exact Kd.R_nil _ _ _ _ _ | exact Kd.N_nil _ _ _ _ _ | exact Kd.V_nil _ _ _ _ _ | exact Kd.Q_nil _ _ _ _ _ | exact Kd.S_nil _ _ _ _ _, by repeat (first | (with_reducible first | exact HB.out | apply below_alloc | apply pw_below_drewN | apply below_drew1 | refine below_set ?_ GE202.out | refine below_set ?_ GE203.out) | exact HB.out)⟩
 ·rw [if_neg c5] at H
  have c5b0 : (t204 == 0) = false := beq_eq_false_iff_ne.mpr c5
  have c5b1 : (t204 != 0) = true := bne_iff_ne.mpr c5
  simp only [Option.some.injEq, Prod.mk.injEq] at H
  obtain ⟨rfl, rfl, rfl, rfl, rfl, rfl, rfl, rfl, rfl⟩ := H
  go_enter Try.func90, Try.ntmps90
  go_wp2_with (first | ((with_reducible refine gate_dst (N := 3) rfl ?_); refine box_event ?hg (N := 3) ?hd (cs := #[.int .u64 a0_0, .int .u64 a0_1, .int .u64 a0_2, .int .u64 a0_3, .int .u64 a0_4, .slice A0_5 l0_5.length c0_5, .bool a0_6]) (t := 25) ?hr ?_; (case hd => rfl); (case hg => rfl); (case hr => first | (go_simp; done) | (go_simp; rfl)); intro gb202 hg w35 hbox hb; have n0_ := Aside0.mk (below_step (belN HB) hb); have n1_ := Aside0.mk (hbox); have n2_ := Aside0.mk ((by rw [hg]; exact (below_size (belN HB)) : w.heap.size ≤ gb202)); have n3_ := Aside0.mk ((by rw [hg]; exact (below_size (belN HB)) : w.heap.size ≤ gb202)); clear HB; have HB := n0_; have BK202 := n1_; have GW202 := n2_; have GE202 := n3_; clear n0_ n1_ n2_ n3_; clear hb hbox hg) | ((with_reducible refine gate_dst (N := 6) rfl ?_); refine box_event ?hg (N := 6) ?hd (cs := #[.int .u64 0, .int .u64 0, .int .u64 0, .int .u64 0, .int .u64 0, .slice none 0 0, .bool false]) (t := 25) ?hr ?_; (case hd => rfl); (case hg => rfl); (case hr => first | (go_simp; done) | (go_simp; rfl)); intro gb203 hg w36 hbox hb; have n0_ := Aside0.mk (blk_below (g := gb202) (blkN BK202) hb); have n1_ := Aside0.mk (below_step (belN HB) hb); have n2_ := Aside0.mk (hbox); have n3_ := Aside0.mk ((by rw [hg]; exact (below_size (belN HB)) : w.heap.size ≤ gb203)); have n4_ := Aside0.mk ((by rw [hg]; exact (below_size (belN HB)) : w.heap.size ≤ gb203)); have n5_ := Aside0.mk ((by rw [hg]; exact Nat.ne_of_lt (blk_lt (g := gb202) (blkN BK202)) : gb202 ≠ gb203)); have n6_ := Aside0.mk ((by rw [hg]; exact Nat.ne_of_gt (blk_lt (g := gb202) (blkN BK202)) : gb203 ≠ gb202)); clear BK202; clear HB; have BK202 := n0_; have HB := n1_; have BK203 := n2_; have GW203 := n3_; have GE203 := n4_; have NB202_203 := n5_; have NB203_202 := n6_; clear n0_ n1_ n2_ n3_ n4_ n5_ n6_; clear hb hbox hg; have hnb37 := NB202_203.out; have hnc37 := NB203_202.out; obtain ⟨hcz38_0, hcz38_1, hcz38_2, hcz38_3, hcz38_4, hcz38_5, hcz38_6, hfz38_0, hfz38_1, hfz38_2, hfz38_3, hfz38_4, hfz38_5, hfz38_6⟩ := cz7_ (w := w36) BK202.out) | ((with_reducible refine gate_callee (f := 33) rfl ?_); refine goesL_ (some 14) rfl rfl Try.func33 (by kernel_rfl) rfl #[.agg #[.int .u64 a0_0, .int .u64 a0_1, .int .u64 a0_2, .int .u64 a0_3, .int .u64 a0_4, .slice A0_5 l0_5.length c0_5, .bool a0_6]] rfl (by (try simp only [List.map_toArray, List.map_cons, List.map_nil]); first | done | rfl | (simp only [List.length_drop, List.length_take]; rfl)) ?_; (with_reducible refine (channel_Check.calls k a0_0 a0_1 a0_2 a0_3 a0_4 _ _ l0_5 a0_6 t204 _ ?side1 ?side2 A4.out).mono ?_); (case side1 => repeat (first | exact (Kd.C_below HR0_5.out HB.out) | (with_reducible refine Kd.C_alloc ?_ _) | (with_reducible refine Kd.C_drewN ?_ _) | (with_reducible refine Kd.C_drew ?_))); (case side2 => exact HC0_5.out); rintro e w39 ⟨rfl, hb⟩; refine ⟨_, rfl, ?_⟩; have n0_ := Aside0.mk (blk_below (g := gb202) (blkN BK202) hb); have n1_ := Aside0.mk (blk_below (g := gb203) (blkN BK203) hb); have n2_ := Aside0.mk (below_step (belN HB) hb); clear BK202; clear BK203; clear HB; have BK202 := n0_; have BK203 := n1_; have HB := n2_; clear n0_ n1_ n2_; (try clear hb); (try clear hb2); (try clear hk); (try clear hi); obtain ⟨hcz40_0, hcz40_1, hcz40_2, hcz40_3, hcz40_4, hcz40_5, hcz40_6, hfz40_0, hfz40_1, hfz40_2, hfz40_3, hfz40_4, hfz40_5, hfz40_6⟩ := cz7_ (w := w39) BK203.out))
  refine bodyPost_ret (results_ctt rfl _ _ gb203 25 #[.int .u64 0, .int .u64 0, .int .u64 0, .int .u64 0, .int .u64 0, .slice none 0 0, .bool false] (0, 0) _ rfl (by (with_reducible repeat (first | refine blk_drewN ?_ _ | refine blk_drew ?_ | refine blk_alloc ?_ _)); refine blk_put (cs := #[.int .u64 0, .int .u64 0, .int .u64 0, .int .u64 0, .int .u64 0, .slice none 0 0, .bool false]) ?_ 6 _ rfl; refine blk_put (cs := #[.int .u64 0, .int .u64 0, .int .u64 0, .int .u64 0, .int .u64 0, .slice none 0 0, .bool false]) ?_ 5 _ rfl; refine blk_put (cs := #[.int .u64 0, .int .u64 0, .int .u64 0, .int .u64 0, .int .u64 0, .slice none 0 0, .bool false]) ?_ 4 _ rfl; refine blk_put (cs := #[.int .u64 0, .int .u64 0, .int .u64 0, .int .u64 0, .int .u64 0, .slice none 0 0, .bool false]) ?_ 3 _ rfl; refine blk_put (cs := #[.int .u64 0, .int .u64 0, .int .u64 0, .int .u64 0, .int .u64 0, .slice none 0 0, .bool false]) ?_ 2 _ rfl; refine blk_put (cs := #[.int .u64 0, .int .u64 0, .int .u64 0, .int .u64 0, .int .u64 0, .slice none 0 0, .bool false]) ?_ 1 _ rfl; refine blk_put (cs := #[.int .u64 0, .int .u64 0, .int .u64 0, .int .u64 0, .int .u64 0, .slice none 0 0, .bool false]) ?_ 0 _ rfl; (with_reducible repeat (first | refine blk_drewN ?_ _ | refine blk_drew ?_ | refine blk_alloc ?_ _)); exact BK203.out) Try.underlying25 rfl (by kernel_rfl)) rfl ?_
  exact ⟨_, by first | rfl | (simp [errW_none, errW_some] <;> rfl) | (simp [*, errW_none, errW_some] <;> rfl), by first | exact Kd.R_nil _ _ _ _ _ | exact Kd.N_nil _ _ _ _ _ | exact Kd.V_nil _ _ _ _ _ | exact Kd.Q_nil _ _ _ _ _ | exact Kd.S_nil _ _ _ _ _, by repeat (first | (with_reducible first | exact HB.out | apply below_alloc | apply pw_below_drewN | apply below_drew1 | refine below_set ?_ GE202.out | refine below_set ?_ GE203.out) | exact HB.out)⟩

/-! ### channel_Settle: function 25 -/
def channel_Settle.f (k : Nat) (a0_0 : Int) (a0_1 : Int) (a0_2 : Int) (a0_3 : Int) (a0_4 : Int) (l0_5 : List (S44)) (a0_6 : Bool) (a1 : Int) : Option (Int × Int × Int × Int × Int × (List (S44)) × Bool × Int × Int) := (channel_end_at_channel_Settle_1.f k a0_0 a0_1 a0_2 a0_3 a0_4 l0_5 a0_6 a1).bind fun bt216 => (some (bt216.1, bt216.2.1, bt216.2.2.1, bt216.2.2.2.1, bt216.2.2.2.2.1, bt216.2.2.2.2.2.1, bt216.2.2.2.2.2.2.1, bt216.2.2.2.2.2.2.2.1, bt216.2.2.2.2.2.2.2.2))
theorem channel_Settle.mono : ∀ a0 a1 a2 a3 a4 a5 a6 a7 k, LeO (channel_Settle.f k a0 a1 a2 a3 a4 a5 a6 a7) (channel_Settle.f (k + 1) a0 a1 a2 a3 a4 a5 a6 a7) := by
  intro a0 a1 a2 a3 a4 a5 a6 a7 k
  unfold channel_Settle.f
  repeat' first
      | (with_reducible exact channel_end_at_channel_Settle_1.mono _ _ _ _ _ _ _ _ _)
      | (with_reducible exact LeO.refl _)
      | (with_reducible exact LeO.none _)
      | (with_reducible refine LeO.ite ?_ ?_)
      | (with_reducible refine LeO.bind ?_ (fun _ => ?_))
      | exact channel_end_at_channel_Settle_1.mono _ _ _ _ _ _ _ _ _
      | exact LeO.none _
      | refine LeO.ite ?_ ?_
      | refine LeO.bind ?_ (fun _ => ?_)
set_option maxHeartbeats 8000000 in
set_option maxRecDepth 100000 in
theorem channel_Settle.calls (k : Nat) (a0_0 : Int) (a0_1 : Int) (a0_2 : Int) (a0_3 : Int) (a0_4 : Int) (A0_5 : Option Addr) (c0_5 : Nat) (l0_5 : List (S44)) (a0_6 : Bool) (a1 : Int) (r1 : Int) (r2 : Int) (r3 : Int) (r4 : Int) (r5 : Int) (r6 : List (S44)) (r7 : Bool) (r8 : Int) (r9 : Int) (w : World) (hr0_5 : Kd.C k44 w A0_5 l0_5.length l0_5) (hc0_5 : l0_5.length ≤ c0_5) (h : channel_Settle.f k a0_0 a0_1 a0_2 a0_3 a0_4 l0_5 a0_6 a1 = some (r1, r2, r3, r4, r5, r6, r7, r8, r9)) :
    Calls Try.prog 25 #[.agg #[.int .u64 a0_0, .int .u64 a0_1, .int .u64 a0_2, .int .u64 a0_3, .int .u64 a0_4, .slice A0_5 l0_5.length c0_5, .bool a0_6], .int .u64 a1] w fun e w' => ∃ v5_ : Value, e = .returned (.tuple #[.agg #[.int .u64 r1, .int .u64 r2, .int .u64 r3, .int .u64 r4, .int .u64 r5, v5_, .bool r7], .int .u64 r8, .int .i64 r9]) ∧ Kd.R k44 44 w' w.heap.size (fun _ => True) v5_ r6 ∧ Below w.heap.size w w' := by
  have hu25 := Try.underlying25
  have HR0_5 := Aside0.mk hr0_5
  have HC0_5 := Aside0.mk hc0_5
  clear hr0_5 hc0_5
  have HB := Aside0.mk (Below.refl w.heap.size w)
  have H : ((channel_end_at_channel_Settle_1.f k a0_0 a0_1 a0_2 a0_3 a0_4 l0_5 a0_6 a1).bind fun bt216 => (some (bt216.1, bt216.2.1, bt216.2.2.1, bt216.2.2.2.1, bt216.2.2.2.2.1, bt216.2.2.2.2.2.1, bt216.2.2.2.2.2.2.1, bt216.2.2.2.2.2.2.2.1, bt216.2.2.2.2.2.2.2.2))) = some (r1, r2, r3, r4, r5, r6, r7, r8, r9) := h
  clear h
  replace H := Option.bind_eq_some_iff.mp H
  obtain ⟨⟨t216, t217, t218, t219, t220, t221, t224, t225, t226⟩, A30, H⟩ := H
  replace H : (some (t216, t217, t218, t219, t220, t221, t224, t225, t226)) = some (r1, r2, r3, r4, r5, r6, r7, r8, r9) := H
  have A3 := Aside0.mk A30
  clear A30
  simp only [Option.some.injEq, Prod.mk.injEq] at H
  obtain ⟨rfl, rfl, rfl, rfl, rfl, rfl, rfl, rfl, rfl⟩ := H
  go_enter Try.func25, Try.ntmps25
  go_wp2_with (first | ((with_reducible refine gate_dst (N := 2) rfl ?_); refine box_event ?hg (N := 2) ?hd (cs := #[.int .u64 a0_0, .int .u64 a0_1, .int .u64 a0_2, .int .u64 a0_3, .int .u64 a0_4, .slice A0_5 l0_5.length c0_5, .bool a0_6]) (t := 25) ?hr ?_; (case hd => rfl); (case hg => rfl); (case hr => first | (go_simp; done) | (go_simp; rfl)); intro gb214 hg w4 hbox hb; have n0_ := Aside0.mk (below_step (belN HB) hb); have n1_ := Aside0.mk (hbox); have n2_ := Aside0.mk ((by rw [hg]; exact (below_size (belN HB)) : w.heap.size ≤ gb214)); have n3_ := Aside0.mk ((by rw [hg]; exact (below_size (belN HB)) : w.heap.size ≤ gb214)); clear HB; have HB := n0_; have BK214 := n1_; have GW214 := n2_; have GE214 := n3_; clear n0_ n1_ n2_ n3_; clear hb hbox hg) | ((with_reducible refine gate_dst (N := 4) rfl ?_); refine box_event ?hg (N := 4) ?hd (cs := #[.int .u64 0, .int .u64 0, .int .u64 0, .int .u64 0, .int .u64 0, .slice none 0 0, .bool false]) (t := 25) ?hr ?_; (case hd => rfl); (case hg => rfl); (case hr => first | (go_simp; done) | (go_simp; rfl)); intro gb215 hg w5 hbox hb; have n0_ := Aside0.mk (blk_below (g := gb214) (blkN BK214) hb); have n1_ := Aside0.mk (below_step (belN HB) hb); have n2_ := Aside0.mk (hbox); have n3_ := Aside0.mk ((by rw [hg]; exact (below_size (belN HB)) : w.heap.size ≤ gb215)); have n4_ := Aside0.mk ((by rw [hg]; exact (below_size (belN HB)) : w.heap.size ≤ gb215)); have n5_ := Aside0.mk ((by rw [hg]; exact Nat.ne_of_lt (blk_lt (g := gb214) (blkN BK214)) : gb214 ≠ gb215)); have n6_ := Aside0.mk ((by rw [hg]; exact Nat.ne_of_gt (blk_lt (g := gb214) (blkN BK214)) : gb215 ≠ gb214)); clear BK214; clear HB; have BK214 := n0_; have HB := n1_; have BK215 := n2_; have GW215 := n3_; have GE215 := n4_; have NB214_215 := n5_; have NB215_214 := n6_; clear n0_ n1_ n2_ n3_ n4_ n5_ n6_; clear hb hbox hg; have hnb6 := NB214_215.out; have hnc6 := NB215_214.out; obtain ⟨hcz7_0, hcz7_1, hcz7_2, hcz7_3, hcz7_4, hcz7_5, hcz7_6, hfz7_0, hfz7_1, hfz7_2, hfz7_3, hfz7_4, hfz7_5, hfz7_6⟩ := cz7_ (w := w5) BK214.out) | ((with_reducible refine gate_callee (f := 90) rfl ?_); refine goesL_ (some 9) rfl rfl Try.func90 (by kernel_rfl) rfl #[.agg #[.int .u64 a0_0, .int .u64 a0_1, .int .u64 a0_2, .int .u64 a0_3, .int .u64 a0_4, .slice A0_5 l0_5.length c0_5, .bool a0_6], .int .u64 a1, .func (.func 92) #[] #[]] rfl (by (try simp only [List.map_toArray, List.map_cons, List.map_nil]); first | done | rfl | (simp only [List.length_drop, List.length_take]; rfl)) ?_; (with_reducible refine (channel_end_at_channel_Settle_1.calls k a0_0 a0_1 a0_2 a0_3 a0_4 _ _ l0_5 a0_6 a1  t216 t217 t218 t219 t220 t221 t224 t225 t226 _ ?side1 ?side2 A3.out).mono ?_); (case side1 => repeat (first | exact (Kd.C_below HR0_5.out HB.out) | (with_reducible refine Kd.C_alloc ?_ _) | (with_reducible refine Kd.C_drewN ?_ _) | (with_reducible refine Kd.C_drew ?_))); (case side2 => exact HC0_5.out); rintro e w8 ⟨v222, rfl, ho0, hb⟩; refine ⟨_, rfl, ?_⟩; have n0_ := Aside0.mk (Kd.R_lower ho0 (below_size (belN HB))); have n1_ := Aside0.mk (blk_below (g := gb214) (blkN BK214) hb); have n2_ := Aside0.mk (blk_below (g := gb215) (blkN BK215) hb); have n3_ := Aside0.mk (below_step (belN HB) hb); clear BK214; clear BK215; clear HB; have HO223 := n0_; have BK214 := n1_; have BK215 := n2_; have HB := n3_; clear n0_ n1_ n2_ n3_; (try clear hb); (try clear hb2); (try clear hk); (try clear hi); (try clear ho0); obtain ⟨hcz9_0, hcz9_1, hcz9_2, hcz9_3, hcz9_4, hcz9_5, hcz9_6, hfz9_0, hfz9_1, hfz9_2, hfz9_3, hfz9_4, hfz9_5, hfz9_6⟩ := cz7_ (w := w8) BK215.out; obtain ⟨Ao10, co10, eo10⟩ := Kd.R_slice HO223.out; subst eo10))
  refine bodyPost_ret (results_ctt rfl _ _ gb215 25 #[.int .u64 t216, .int .u64 t217, .int .u64 t218, .int .u64 t219, .int .u64 t220, .slice Ao10 t221.length co10, .bool t224] (0, 0) _ rfl (by (with_reducible repeat (first | refine blk_drewN ?_ _ | refine blk_drew ?_ | refine blk_alloc ?_ _)); refine blk_put (cs := #[.int .u64 t216, .int .u64 t217, .int .u64 t218, .int .u64 t219, .int .u64 t220, .slice Ao10 t221.length co10, .bool false]) ?_ 6 _ rfl; refine blk_put (cs := #[.int .u64 t216, .int .u64 t217, .int .u64 t218, .int .u64 t219, .int .u64 t220, .slice none 0 0, .bool false]) ?_ 5 _ rfl; refine blk_put (cs := #[.int .u64 t216, .int .u64 t217, .int .u64 t218, .int .u64 t219, .int .u64 0, .slice none 0 0, .bool false]) ?_ 4 _ rfl; refine blk_put (cs := #[.int .u64 t216, .int .u64 t217, .int .u64 t218, .int .u64 0, .int .u64 0, .slice none 0 0, .bool false]) ?_ 3 _ rfl; refine blk_put (cs := #[.int .u64 t216, .int .u64 t217, .int .u64 0, .int .u64 0, .int .u64 0, .slice none 0 0, .bool false]) ?_ 2 _ rfl; refine blk_put (cs := #[.int .u64 t216, .int .u64 0, .int .u64 0, .int .u64 0, .int .u64 0, .slice none 0 0, .bool false]) ?_ 1 _ rfl; refine blk_put (cs := #[.int .u64 0, .int .u64 0, .int .u64 0, .int .u64 0, .int .u64 0, .slice none 0 0, .bool false]) ?_ 0 _ rfl; (with_reducible repeat (first | refine blk_drewN ?_ _ | refine blk_drew ?_ | refine blk_alloc ?_ _)); exact BK215.out) Try.underlying25 rfl (by kernel_rfl)) rfl ?_
  exact ⟨_, by first | rfl | (simp [errW_none, errW_some] <;> rfl) | (simp [*, errW_none, errW_some] <;> rfl), by (with_reducible repeat (first | apply Kd.R_alloc | apply Kd.R_drewN | apply Kd.R_drew)); exact Kd.R_mono (Kd.R_far (p := ⟨gb215, 6, none⟩) (Kd.R_far (p := ⟨gb215, 5, none⟩) (Kd.R_far (p := ⟨gb215, 4, none⟩) (Kd.R_far (p := ⟨gb215, 3, none⟩) (Kd.R_far (p := ⟨gb215, 2, none⟩) (Kd.R_far (p := ⟨gb215, 1, none⟩) (Kd.R_far (p := ⟨gb215, 0, none⟩) (Kd.R_types HO223.out BK215.out (by decide)) (fun _ hk => hk.2) (.int .u64 t216)) (fun _ hk => hk.2) (.int .u64 t217)) (fun _ hk => hk.2) (.int .u64 t218)) (fun _ hk => hk.2) (.int .u64 t219)) (fun _ hk => hk.2) (.int .u64 t220)) (fun _ hk => hk.2) (.slice Ao10 t221.length co10)) (fun _ hk => hk.2) (.bool t224)) (fun _ hk => trivial), by repeat (first | (with_reducible first | exact HB.out | apply below_alloc | apply pw_below_drewN | apply below_drew1 | refine below_set ?_ GE214.out | refine below_set ?_ GE215.out) | exact HB.out)⟩

/-! ### ledger_End: function 58 (by hand) -/
def ledger_change.gN (k : Nat) (l : List S25) (id : Int) (how : S25 → Option (S25 × Int)) : Option (List S25 × Int) := (ledger_place.f k l id).bind fun p => if p.2 = 0 then (if 0 ≤ p.1 ∧ p.1 < (l.length : Int) then (how (rd_T25 l p.1)).bind fun q => (ledger_owns.f l).bind fun m => some (m.set p.1.toNat q.1, q.2) else none) else none
/-- The three boxes of End's closure. -/
structure Box3 (bp bh bn : Nat) (paid : Bool) (hold n : Int) (w : World) : Prop where
  p : w.heap[bp]? = some (.cells #[.bool paid] 4 (0, 0))
  h : w.heap[bh]? = some (.cells #[.int .u64 hold] 22 (0, 0))
  n : w.heap[bn]? = some (.cells #[.int .u64 n] 22 (0, 0))
theorem Box3.below {bp bh bn : Nat} {paid : Bool} {hold n : Int} {w w1 : World} (b : Box3 bp bh bn paid hold n w) (hb : Below w.heap.size w w1) : Box3 bp bh bn paid hold n w1 := ⟨blk_below b.p hb, blk_below b.h hb, blk_below b.n hb⟩
/-- What a function handed to change does at a channel, where it writes a number into a box. -/
def HowN (w0 : World) (bp bh bn : Nat) (paid : Bool) (hold : Int) (n : FuncId) (caps : List Value) (how : S25 → Option (S25 × Int)) : Prop := ∀ (c : S25) (A1 : Option Addr) (c1 : Nat) (c2 : S25) (m : Int) (w1 : World), Below w0.heap.size w0 w1 → Box3 bp bh bn paid hold 0 w1 → Kd.C k44 w1 A1 c.f5.length c.f5 → c.f5.length ≤ c1 → how c = some (c2, m) → Calls Try.prog n (#[.agg #[.int .u64 c.f0, .int .u64 c.f1, .int .u64 c.f2, .int .u64 c.f3, .int .u64 c.f4, .slice A1 c.f5.length c1, .bool c.f6]] ++ caps.toArray) w1 fun e w2 => ∃ A6 c6, e = .returned (.tuple #[.agg #[.int .u64 c2.f0, .int .u64 c2.f1, .int .u64 c2.f2, .int .u64 c2.f3, .int .u64 c2.f4, .slice A6 c2.f5.length c6, .bool c2.f6], .int .i64 0]) ∧ Ch w2 w0.heap.size c2 [.int .u64 c2.f0, .int .u64 c2.f1, .int .u64 c2.f2, .int .u64 c2.f3, .int .u64 c2.f4, .slice A6 c2.f5.length c6, .bool c2.f6] ∧ Below w0.heap.size w0 w2 ∧ w2.heap[bn]? = some (.cells #[.int .u64 m] 22 (0, 0))
set_option maxHeartbeats 16000000 in
set_option maxRecDepth 100000 in
theorem ledger_change.callsN (k : Nat) (A0 : Option Addr) (c0 : Nat) (l : List S25) (id : Int) (p1 p2 p3 : Value) (bp bh bn : Nat) (paid : Bool) (hold : Int) (how : S25 → Option (S25 × Int)) (r : List S25) (n : Int) (w0 w : World) (hB : Below w0.heap.size w0 w) (hr0 : Kd.C k25 w0 A0 l.length l) (hc0 : l.length ≤ c0) (hbox : Box3 bp bh bn paid hold 0 w) (hw : HowN w0 bp bh bn paid hold 112 [p1, p2, p3] how) (h : ledger_change.gN k l id how = some (r, n)) :
    Calls Try.prog 110 #[.slice A0 l.length c0, .int .u64 id, .func (.func 112) #[] #[p1, p2, p3]] w fun e w' => ∃ v : Value, e = .returned (.tuple #[v, .int .i64 0]) ∧ Own25 w' w0.heap.size v r ∧ Below w0.heap.size w0 w' ∧ w'.heap[bn]? = some (.cells #[.int .u64 n] 22 (0, 0)) := by
  have HR0 := Aside0.mk hr0
  have HC0 := Aside0.mk hc0
  have HW := Aside0.mk hw
  have HX3 := Aside0.mk hbox
  have HB := Aside0.mk hB
  clear hr0 hc0 hw hbox hB
  unfold ledger_change.gN at h
  obtain ⟨⟨pi, pe⟩, h1, h_⟩ := Option.bind_eq_some_iff.mp h
  replace h := h_
  clear h_
  have HF1 := Aside0.mk h1
  clear h1
  dsimp only at h
  by_cases hpe : pe = 0
  case neg => rw [if_neg hpe] at h; cases h
  subst hpe
  rw [if_pos rfl] at h
  by_cases hpi : 0 ≤ pi ∧ pi < (l.length : Int)
  case neg => rw [if_neg hpi] at h; cases h
  rw [if_pos hpi] at h
  obtain ⟨hp0, hp1⟩ := hpi
  obtain ⟨i, rfl⟩ := Int.eq_ofNat_of_zero_le hp0
  have hi : i < l.length := by omega
  obtain ⟨ad, A5, c5, ea, hx0, hx1, hx2, hx3, hx4, hx5, hx6, hl5, hi5⟩ := at_T25 (Kd.C_below HR0.out HB.out) (i : Int) (by omega) (by omega)
  subst ea
  obtain ⟨c, hc⟩ : ∃ c, c = rd_T25 l (i : Int) := ⟨_, rfl⟩
  rw [← hc] at h
  simp only [← hc, Int.toNat_natCast] at hx0 hx1 hx2 hx3 hx4 hx5 hx6 hl5 hi5
  have HL5 := Aside0.mk hl5
  have HI5 := Aside0.mk hi5
  clear hl5 hi5 hc
  obtain ⟨⟨c2, n2⟩, h1, h_⟩ := Option.bind_eq_some_iff.mp h
  replace h := h_
  clear h_
  have HF2 := Aside0.mk h1
  clear h1
  dsimp only at h
  obtain ⟨m, h1, h_⟩ := Option.bind_eq_some_iff.mp h
  replace h := h_
  clear h_
  have HF3 := Aside0.mk h1
  clear h1
  have hm : m = l := owns_eq HF3.out
  subst hm
  injection h with h
  injection h with hh1 hh2
  subst hh1 hh2
  rw [Int.toNat_natCast]
  obtain ⟨x, hx⟩ : ∃ x, m[i]? = some x := ⟨_, List.getElem?_eq_getElem hi⟩
  have HX := Aside0.mk hx
  have HI := Aside0.mk hi
  clear hx hi
  go_enter Try.func110, Try.ntmps110
  go_wp2_with (first | (go_at_call 104; refine (ledger_place.calls k (some ad) c0 m id (i : Int) 0 _ (Kd.C_below HR0.out HB.out) HC0.out HF1.out).mono ?_; rintro e w1 ⟨rfl, hb⟩; clear HF1; replace HB := Aside0.mk (below_step HB.out hb); replace HX3 := Aside0.mk (HX3.out.below hb); replace hx0 := (hb.cell (World.block_lt_of_cell? _ _ hx0)).trans hx0; replace hx1 := (hb.cell (World.block_lt_of_cell? _ _ hx1)).trans hx1; replace hx2 := (hb.cell (World.block_lt_of_cell? _ _ hx2)).trans hx2; replace hx3 := (hb.cell (World.block_lt_of_cell? _ _ hx3)).trans hx3; replace hx4 := (hb.cell (World.block_lt_of_cell? _ _ hx4)).trans hx4; replace hx5 := (hb.cell (World.block_lt_of_cell? _ _ hx5)).trans hx5; replace hx6 := (hb.cell (World.block_lt_of_cell? _ _ hx6)).trans hx6; replace HI5 := Aside0.mk (Kd.C_below HI5.out hb); clear hb) | (go_at_call 112; refine (HW.out c A5 c5 c2 n2 _ HB.out HX3.out HI5.out HL5.out HF2.out).mono ?_; rintro e w2 ⟨A6, c6, rfl, ho, hb, hn⟩; clear HF2; have HO := Aside0.mk ho; have HN := Aside0.mk hn; replace HB := Aside0.mk hb; clear ho hb hn hx0 hx1 hx2 hx3 hx4 hx5 hx6) | (go_at_call 102; go_loud (have hal := (Below.refl w2.heap.size w2).alloc (Nat.le_refl _) (.cells #[.int .u64 c2.f0, .int .u64 c2.f1, .int .u64 c2.f2, .int .u64 c2.f3, .int .u64 c2.f4, .slice A6 c2.f5.length c6, .bool c2.f6] 25); have HBL := Aside0.mk (HB.out.alloc HB.out.size (.cells #[.int .u64 c2.f0, .int .u64 c2.f1, .int .u64 c2.f2, .int .u64 c2.f3, .int .u64 c2.f4, .slice A6 c2.f5.length c6, .bool c2.f6] 25)); have HK := Aside0.mk (blk_new w2 (.cells #[.int .u64 c2.f0, .int .u64 c2.f1, .int .u64 c2.f2, .int .u64 c2.f3, .int .u64 c2.f4, .slice A6 c2.f5.length c6, .bool c2.f6] 25)); have HNL := Aside0.mk (blk_below HN.out hal); refine (ledger_owns.calls (some ad) c0 m m _ (Kd.C_below HR0.out HBL.out) HC0.out HF3.out).mono ?_; rintro e w3 ⟨v, rfl, ho, hb⟩; clear HF3; have HB3 := Aside0.mk (below_step HBL.out hb); replace HK := Aside0.mk (blk_below HK.out hb); replace HN := Aside0.mk (blk_below HNL.out hb); have HCH := Aside0.mk ((HO.out.below hal).below hb); obtain ⟨rows, hR, hrl, hrx⟩ := ho; have HR := Aside0.mk (Kd.R_lower hR HBL.out.size); have HRL := Aside0.mk hrl; have HRX : Aside0 (Rows25 w3 w0.heap.size m rows) := ⟨fun j x hj => by obtain ⟨cs, q1, q2⟩ := hrx j x hj; exact ⟨cs, q1, q2.mono HBL.out.size⟩⟩; obtain ⟨g, cap, hv, hbg, hgl, cur, hblk⟩ := Kd.R_form HR.out (by have := HRL.out; have := HI.out; omega); subst hv; obtain ⟨cs, q1, q2⟩ := HRX.out i x HX.out; obtain ⟨A7, c7, hcs, _⟩ := q2; have hCr := (Kd.R_reads' HR.out).2.2; obtain ⟨ad2, ea2, hcell⟩ := hCr.2.2 (by have := HRL.out; have := HI.out; omega); injection ea2 with ea2; subst ea2; obtain ⟨c', r1, r2, r3⟩ := hcell i cs q1; have e1 : c' = cs := r2.1; subst e1; have HCC : Aside0 (∀ j u, c'[j]? = some u → w3.cell? ⟨g, i * 7 + j, none⟩ = some u) := ⟨fun j u hj => by have := r3 j u hj; rw [add_plain] at this; exact this⟩; subst hcs; rw [HRL.out]; have HGL := Aside0.mk hgl; have HBK := Aside0.mk hblk; obtain ⟨hz0, hz1, hz2, hz3, hz4, hz5, hz6, hz7, hz8, hz9, hz10, hz11, hz12, hz13⟩ := cz7_ HK.out; clear hal HB HBL HNL hb hR hrl hrx hbg hgl hblk q1 hCr hcell r1 r2 r3 HO)) | ((with_reducible refine gate_ (.store 25 (.tmp 37) (.tmp 36)) rfl ?_); refine Kd.R_store (Kd.raw 7) (w0 := w0) w0.heap.size rfl rfl 25 (.tmp 37) (.tmp 36) rfl 25 (i : Int) 0 rows [.int .u64 c2.f0, .int .u64 c2.f1, .int .u64 c2.f2, .int .u64 c2.f3, .int .u64 c2.f4, .slice A6 c2.f5.length c6, .bool c2.f6] (.agg #[.int .u64 c2.f0, .int .u64 c2.f1, .int .u64 c2.f2, .int .u64 c2.f3, .int .u64 c2.f4, .slice A6 c2.f5.length c6, .bool c2.f6]) [.int .u64 c2.f0, .int .u64 c2.f1, .int .u64 c2.f2, .int .u64 c2.f3, .int .u64 c2.f4, .slice A6 c2.f5.length c6, .bool c2.f6] [.int .u64 x.f0, .int .u64 x.f1, .int .u64 x.f2, .int .u64 x.f3, .int .u64 x.f4, .slice A7 x.f5.length c7, .bool x.f6] (fun _ => True) (fun _ => False) rfl (by rw [Int.toNat_natCast]; rfl) rfl rfl (by kernel_rfl) (by intro q hq; simp at hq; rcases hq with rfl | rfl | rfl | rfl | rfl | rfl | rfl <;> rfl) HR.out (by omega) (by have := HRL.out; have := HI.out; omega) rfl (fun j u hj => by rw [Int.toNat_natCast]; exact HCC.out j u hj) (Nat.le_refl _) ⟨rfl, rfl, (by intro q hq; simp at hq; rcases hq with rfl | rfl | rfl | rfl | rfl | rfl | rfl <;> rfl)⟩ (fun _ hk => hk.elim) HB3.out ?_; intro w4 ho3 hb3 hg3; rw [Int.toNat_natCast, HRL.out] at ho3; have HR3 := Aside0.mk ho3; have HB4 := Aside0.mk hb3; have HH3 := Aside0.mk (Rows25.set (i := i) HRX.out HCH.out hg3 HBK.out); replace HN := Aside0.mk ((hg3.block _ (blk_lt HN.out) (by intro e; injection e with e; exact blk_ne HN.out HBK.out (by decide) e)).trans HN.out); clear ho3 hb3 hg3))
  go_ret2
  exact ⟨_, rfl, ⟨_, HR3.out, by rw [List.length_set, List.length_set]; exact HRL.out, HH3.out⟩, HB4.out, HN.out⟩
theorem ledger_change.mono_gN (l : List S25) (id : Int) (h1 h2 : S25 → Option (S25 × Int)) (hm : ∀ c, LeO (h1 c) (h2 c)) (k : Nat) : LeO (ledger_change.gN k l id h1) (ledger_change.gN (k + 1) l id h2) := by
  unfold ledger_change.gN
  repeat' first
    | (with_reducible exact LeO.refl _)
    | exact hm _
    | apply ledger_place.mono
    | (with_reducible refine LeO.ite ?_ ?_)
    | (with_reducible refine LeO.bind ?_ (fun _ => ?_))
def ledger_End.how (k : Nat) (hold : Int) (paid : Bool) (c : S25) : Option (S25 × Int) := (if paid = true then channel_Settle.f k c.f0 c.f1 c.f2 c.f3 c.f4 c.f5 c.f6 hold else channel_Fail.f k c.f0 c.f1 c.f2 c.f3 c.f4 c.f5 c.f6 hold).bind fun r => if r.2.2.2.2.2.2.2.2 = 0 then some (⟨r.1, r.2.1, r.2.2.1, r.2.2.2.1, r.2.2.2.2.1, r.2.2.2.2.2.1, r.2.2.2.2.2.2.1⟩, r.2.2.2.2.2.2.2.1) else none
set_option maxHeartbeats 16000000 in
set_option maxRecDepth 100000 in
theorem ledger_End.hows (k : Nat) (hold : Int) (paid : Bool) (bp bh bn : Nat) (w0 : World) (hbn : w0.heap.size ≤ bn) :
    HowN w0 bp bh bn paid hold 112 [.pointer (some ⟨bp, 0, none⟩), .pointer (some ⟨bh, 0, none⟩), .pointer (some ⟨bn, 0, none⟩)] (ledger_End.how k hold paid) := by
  intro c A1 c1 c2 m w1 hb hX hC hl h
  have HI5 := Aside0.mk hC
  have HL5 := Aside0.mk hl
  have HB := Aside0.mk hb
  have HX3 := Aside0.mk hX
  have HBN := Aside0.mk hbn
  have hb1 : w1.cell? ⟨bp, 0, none⟩ = some (.bool paid) := (blk_cell hX.p 0).trans rfl
  have hb2 : w1.cell? ⟨bh, 0, none⟩ = some (.int .u64 hold) := (blk_cell hX.h 0).trans rfl
  have HNL := Aside0.mk (blk_lt hX.n)
  have hlt1 : bp < w1.heap.size := blk_lt hX.p
  have hlt2 : bh < w1.heap.size := blk_lt hX.h
  clear hC hl hb hX hbn
  unfold ledger_End.how at h
  show Calls Try.prog 112 #[.agg #[.int .u64 c.f0, .int .u64 c.f1, .int .u64 c.f2, .int .u64 c.f3, .int .u64 c.f4, .slice A1 c.f5.length c1, .bool c.f6], .pointer (some ⟨bp, 0, none⟩), .pointer (some ⟨bh, 0, none⟩), .pointer (some ⟨bn, 0, none⟩)] w1 _
  cases paid with
  | false =>
    simp only [reduceIte, Bool.false_eq_true] at h
    obtain ⟨⟨r1, r2, r3, r4, r5, r6, r7, m_, re⟩, h1, h_⟩ := Option.bind_eq_some_iff.mp h
    replace h := h_
    clear h_
    have HF2 := Aside0.mk h1
    clear h1
    try dsimp only at h
    by_cases hre : re = 0
    case neg => rw [if_neg hre] at h; cases h
    subst hre
    rw [if_pos rfl] at h
    injection h with h
    injection h with hh1 hh2
    try dsimp only at hh1 hh2
    subst hh1 hh2
    go_enter Try.func112, Try.ntmps112
    go_upto_region 5 with (go_at_call 24; have hal := (Below.refl w1.heap.size w1).alloc (Nat.le_refl _) (.cells #[.int .u64 c.f0, .int .u64 c.f1, .int .u64 c.f2, .int .u64 c.f3, .int .u64 c.f4, .slice A1 c.f5.length c1, .bool c.f6] 25); have hal2 := hal.alloc hal.size (.cells #[.int .u64 0, .int .u64 0, .int .u64 0, .int .u64 0, .int .u64 0, .slice none 0 0, .bool false] 25); have HBa := Aside0.mk (below_step HB.out hal2); clear HB; have HB := HBa; clear HBa; have HK5 := Aside0.mk (blk_new2 w1 (.cells #[.int .u64 c.f0, .int .u64 c.f1, .int .u64 c.f2, .int .u64 c.f3, .int .u64 c.f4, .slice A1 c.f5.length c1, .bool c.f6] 25) (.cells #[.int .u64 0, .int .u64 0, .int .u64 0, .int .u64 0, .int .u64 0, .slice none 0 0, .bool false] 25)); replace HX3 := Aside0.mk (HX3.out.below hal2); refine (channel_Fail.calls k c.f0 c.f1 c.f2 c.f3 c.f4 A1 c1 c.f5 c.f6 hold r1 r2 r3 r4 r5 r6 r7 m_ 0 _ (Kd.C_below HI5.out hal2) HL5.out HF2.out).mono ?_; rintro e w3 ⟨v5, rfl, ho, hb⟩; clear HF2; obtain ⟨An, cn, hv⟩ := Kd.R_slice ho; subst hv; have HR := Aside0.mk (Kd.R_bound ho); have HS2 := Aside0.mk HB.out.size; have HS := Aside0.mk (blk_lt HK5.out); clear hb1 hb2 hlt1 hlt2; replace HB := Aside0.mk (below_step HB.out hb); replace HX3 := Aside0.mk (HX3.out.below hb); replace HK5 := Aside0.mk (blk_below HK5.out hb); obtain ⟨hy0, hy1, hy2, hy3, hy4, hy5, hy6, hy7, hy8, hy9, hy10, hy11, hy12, hy13⟩ := cz7_ HK5.out; have hn0 : w3.cell? ⟨bn, 0, none⟩ = some (.int .u64 0) := (blk_cell HX3.out.n 0).trans rfl; have hn1 := blk_frozen HX3.out.n 0; have hne1 : ¬ bn = w1.heap.size + 1 := (by have := HNL.out; omega); have hne2 : ¬ w1.heap.size + 1 = bn := (by have := HNL.out; omega); clear hal hal2 ho hb)
    have K6 : ((((((((w3.setCell ⟨w1.heap.size + 1, 0, none⟩ (.int .u64 r1)).setCell ⟨w1.heap.size + 1, 1, none⟩ (.int .u64 r2)).setCell ⟨w1.heap.size + 1, 2, none⟩ (.int .u64 r3)).setCell ⟨w1.heap.size + 1, 3, none⟩ (.int .u64 r4)).setCell ⟨w1.heap.size + 1, 4, none⟩ (.int .u64 r5)).setCell ⟨w1.heap.size + 1, 5, none⟩ (.slice An r6.length cn)).setCell ⟨w1.heap.size + 1, 6, none⟩ (.bool r7)).setCell ⟨bn, 0, none⟩ (.int .u64 m_)).heap[w1.heap.size + 1]? = some (.cells #[.int .u64 r1, .int .u64 r2, .int .u64 r3, .int .u64 r4, .int .u64 r5, .slice An r6.length cn, .bool r7] 25 (0, 0)) := blk_far (put7_self (w := w3) (c := (⟨r1, r2, r3, r4, r5, r6, r7⟩ : S25)) (v := .slice An r6.length cn) HK5.out) hne2 _
    have KN : ((((((((w3.setCell ⟨w1.heap.size + 1, 0, none⟩ (.int .u64 r1)).setCell ⟨w1.heap.size + 1, 1, none⟩ (.int .u64 r2)).setCell ⟨w1.heap.size + 1, 2, none⟩ (.int .u64 r3)).setCell ⟨w1.heap.size + 1, 3, none⟩ (.int .u64 r4)).setCell ⟨w1.heap.size + 1, 4, none⟩ (.int .u64 r5)).setCell ⟨w1.heap.size + 1, 5, none⟩ (.slice An r6.length cn)).setCell ⟨w1.heap.size + 1, 6, none⟩ (.bool r7)).setCell ⟨bn, 0, none⟩ (.int .u64 m_)).heap[bn]? = some (.cells #[.int .u64 m_] 22 (0, 0)) := blk_set (put7_far (w := w3) (c := (⟨r1, r2, r3, r4, r5, r6, r7⟩ : S25)) (v := .slice An r6.length cn) HX3.out.n hne1) 0 (.int .u64 m_)
    have HB4 : Below w0.heap.size w0 ((((((((w3.setCell ⟨w1.heap.size + 1, 0, none⟩ (.int .u64 r1)).setCell ⟨w1.heap.size + 1, 1, none⟩ (.int .u64 r2)).setCell ⟨w1.heap.size + 1, 2, none⟩ (.int .u64 r3)).setCell ⟨w1.heap.size + 1, 3, none⟩ (.int .u64 r4)).setCell ⟨w1.heap.size + 1, 4, none⟩ (.int .u64 r5)).setCell ⟨w1.heap.size + 1, 5, none⟩ (.slice An r6.length cn)).setCell ⟨w1.heap.size + 1, 6, none⟩ (.bool r7)).setCell ⟨bn, 0, none⟩ (.int .u64 m_)) := (put7_below (w := w3) (g := w1.heap.size + 1) (c := (⟨r1, r2, r3, r4, r5, r6, r7⟩ : S25)) (v := .slice An r6.length cn) HB.out (by have := HNL.out; have := HBN.out; omega)).setCell (p := ⟨bn, 0, none⟩) HBN.out (.int .u64 m_)
    have HR4 := Kd.R_far (p := ⟨bn, 0, none⟩) (put7_R (w := w3) (g := w1.heap.size + 1) (c := (⟨r1, r2, r3, r4, r5, r6, r7⟩ : S25)) (v := .slice An r6.length cn) HR.out (fun k_ hk => by have := HS.out; have := hk.2.1; omega)) (fun k_ hk => by have := HS.out; have := HNL.out; have := hk.2.1; show k_ ≠ bn; omega) (.int .u64 m_)
    unfold put7 at HR4
    clear hy0 hy1 hy2 hy3 hy4 hy5 hy6 hy7 hy8 hy9 hy10 hy11 hy12 hy13 hn0 hn1 HR HB HX3 HK5
    generalize ((((((((w3.setCell ⟨w1.heap.size + 1, 0, none⟩ (.int .u64 r1)).setCell ⟨w1.heap.size + 1, 1, none⟩ (.int .u64 r2)).setCell ⟨w1.heap.size + 1, 2, none⟩ (.int .u64 r3)).setCell ⟨w1.heap.size + 1, 3, none⟩ (.int .u64 r4)).setCell ⟨w1.heap.size + 1, 4, none⟩ (.int .u64 r5)).setCell ⟨w1.heap.size + 1, 5, none⟩ (.slice An r6.length cn)).setCell ⟨w1.heap.size + 1, 6, none⟩ (.bool r7)).setCell ⟨bn, 0, none⟩ (.int .u64 m_)) = w4 at K6 KN HB4 HR4 ⊢
    have HK6 := Aside0.mk K6
    have HKN := Aside0.mk KN
    have HBX := Aside0.mk HB4
    have HRX := Aside0.mk HR4
    obtain ⟨hy0, hy1, hy2, hy3, hy4, hy5, hy6, hy7, hy8, hy9, hy10, hy11, hy12, hy13⟩ := cz7_ K6
    clear K6 KN HB4 HR4
    go_wp2
    have hR7 := put7_R (w := w4) (g := w1.heap.size + 1) (c := (⟨r1, r2, r3, r4, r5, r6, r7⟩ : S25)) (v := .slice An r6.length cn) HRX.out (fun k_ hk => by have := HS.out; have := hk.2.1; omega)
    refine bodyPost_ret (results_ct rfl _ _ (w1.heap.size + 1) 25 #[.int .u64 r1, .int .u64 r2, .int .u64 r3, .int .u64 r4, .int .u64 r5, .slice An r6.length cn, .bool r7] (0, 0) _ rfl (put7_self (w := w4) (c := (⟨r1, r2, r3, r4, r5, r6, r7⟩ : S25)) (v := .slice An r6.length cn) HK6.out) Try.underlying25 rfl (by kernel_rfl)) rfl ?_
    exact ⟨An, cn, rfl, ⟨An, cn, rfl, (Kd.R_reads' hR7).2.1, (Kd.R_reads' hR7).2.2, row44_of_R hR7 HS2.out⟩, put7_below (c := (⟨r1, r2, r3, r4, r5, r6, r7⟩ : S25)) (v := .slice An r6.length cn) HBX.out (by have := HNL.out; have := HBN.out; omega), put7_far (c := (⟨r1, r2, r3, r4, r5, r6, r7⟩ : S25)) (v := .slice An r6.length cn) HKN.out hne1⟩
  | true =>
    simp only [reduceIte] at h
    obtain ⟨⟨r1, r2, r3, r4, r5, r6, r7, m_, re⟩, h1, h_⟩ := Option.bind_eq_some_iff.mp h
    replace h := h_
    clear h_
    have HF2 := Aside0.mk h1
    clear h1
    try dsimp only at h
    by_cases hre : re = 0
    case neg => rw [if_neg hre] at h; cases h
    subst hre
    rw [if_pos rfl] at h
    injection h with h
    injection h with hh1 hh2
    try dsimp only at hh1 hh2
    subst hh1 hh2
    go_enter Try.func112, Try.ntmps112
    go_upto_region 5 with (go_at_call 25; have hal := (Below.refl w1.heap.size w1).alloc (Nat.le_refl _) (.cells #[.int .u64 c.f0, .int .u64 c.f1, .int .u64 c.f2, .int .u64 c.f3, .int .u64 c.f4, .slice A1 c.f5.length c1, .bool c.f6] 25); have hal2 := hal.alloc hal.size (.cells #[.int .u64 0, .int .u64 0, .int .u64 0, .int .u64 0, .int .u64 0, .slice none 0 0, .bool false] 25); have HBa := Aside0.mk (below_step HB.out hal2); clear HB; have HB := HBa; clear HBa; have HK5 := Aside0.mk (blk_new2 w1 (.cells #[.int .u64 c.f0, .int .u64 c.f1, .int .u64 c.f2, .int .u64 c.f3, .int .u64 c.f4, .slice A1 c.f5.length c1, .bool c.f6] 25) (.cells #[.int .u64 0, .int .u64 0, .int .u64 0, .int .u64 0, .int .u64 0, .slice none 0 0, .bool false] 25)); replace HX3 := Aside0.mk (HX3.out.below hal2); refine (channel_Settle.calls k c.f0 c.f1 c.f2 c.f3 c.f4 A1 c1 c.f5 c.f6 hold r1 r2 r3 r4 r5 r6 r7 m_ 0 _ (Kd.C_below HI5.out hal2) HL5.out HF2.out).mono ?_; rintro e w3 ⟨v5, rfl, ho, hb⟩; clear HF2; obtain ⟨An, cn, hv⟩ := Kd.R_slice ho; subst hv; have HR := Aside0.mk (Kd.R_bound ho); have HS2 := Aside0.mk HB.out.size; have HS := Aside0.mk (blk_lt HK5.out); clear hb1 hb2 hlt1 hlt2; replace HB := Aside0.mk (below_step HB.out hb); replace HX3 := Aside0.mk (HX3.out.below hb); replace HK5 := Aside0.mk (blk_below HK5.out hb); obtain ⟨hy0, hy1, hy2, hy3, hy4, hy5, hy6, hy7, hy8, hy9, hy10, hy11, hy12, hy13⟩ := cz7_ HK5.out; have hn0 : w3.cell? ⟨bn, 0, none⟩ = some (.int .u64 0) := (blk_cell HX3.out.n 0).trans rfl; have hn1 := blk_frozen HX3.out.n 0; have hne1 : ¬ bn = w1.heap.size + 1 := (by have := HNL.out; omega); have hne2 : ¬ w1.heap.size + 1 = bn := (by have := HNL.out; omega); clear hal hal2 ho hb)
    have K6 : ((((((((w3.setCell ⟨w1.heap.size + 1, 0, none⟩ (.int .u64 r1)).setCell ⟨w1.heap.size + 1, 1, none⟩ (.int .u64 r2)).setCell ⟨w1.heap.size + 1, 2, none⟩ (.int .u64 r3)).setCell ⟨w1.heap.size + 1, 3, none⟩ (.int .u64 r4)).setCell ⟨w1.heap.size + 1, 4, none⟩ (.int .u64 r5)).setCell ⟨w1.heap.size + 1, 5, none⟩ (.slice An r6.length cn)).setCell ⟨w1.heap.size + 1, 6, none⟩ (.bool r7)).setCell ⟨bn, 0, none⟩ (.int .u64 m_)).heap[w1.heap.size + 1]? = some (.cells #[.int .u64 r1, .int .u64 r2, .int .u64 r3, .int .u64 r4, .int .u64 r5, .slice An r6.length cn, .bool r7] 25 (0, 0)) := blk_far (put7_self (w := w3) (c := (⟨r1, r2, r3, r4, r5, r6, r7⟩ : S25)) (v := .slice An r6.length cn) HK5.out) hne2 _
    have KN : ((((((((w3.setCell ⟨w1.heap.size + 1, 0, none⟩ (.int .u64 r1)).setCell ⟨w1.heap.size + 1, 1, none⟩ (.int .u64 r2)).setCell ⟨w1.heap.size + 1, 2, none⟩ (.int .u64 r3)).setCell ⟨w1.heap.size + 1, 3, none⟩ (.int .u64 r4)).setCell ⟨w1.heap.size + 1, 4, none⟩ (.int .u64 r5)).setCell ⟨w1.heap.size + 1, 5, none⟩ (.slice An r6.length cn)).setCell ⟨w1.heap.size + 1, 6, none⟩ (.bool r7)).setCell ⟨bn, 0, none⟩ (.int .u64 m_)).heap[bn]? = some (.cells #[.int .u64 m_] 22 (0, 0)) := blk_set (put7_far (w := w3) (c := (⟨r1, r2, r3, r4, r5, r6, r7⟩ : S25)) (v := .slice An r6.length cn) HX3.out.n hne1) 0 (.int .u64 m_)
    have HB4 : Below w0.heap.size w0 ((((((((w3.setCell ⟨w1.heap.size + 1, 0, none⟩ (.int .u64 r1)).setCell ⟨w1.heap.size + 1, 1, none⟩ (.int .u64 r2)).setCell ⟨w1.heap.size + 1, 2, none⟩ (.int .u64 r3)).setCell ⟨w1.heap.size + 1, 3, none⟩ (.int .u64 r4)).setCell ⟨w1.heap.size + 1, 4, none⟩ (.int .u64 r5)).setCell ⟨w1.heap.size + 1, 5, none⟩ (.slice An r6.length cn)).setCell ⟨w1.heap.size + 1, 6, none⟩ (.bool r7)).setCell ⟨bn, 0, none⟩ (.int .u64 m_)) := (put7_below (w := w3) (g := w1.heap.size + 1) (c := (⟨r1, r2, r3, r4, r5, r6, r7⟩ : S25)) (v := .slice An r6.length cn) HB.out (by have := HNL.out; have := HBN.out; omega)).setCell (p := ⟨bn, 0, none⟩) HBN.out (.int .u64 m_)
    have HR4 := Kd.R_far (p := ⟨bn, 0, none⟩) (put7_R (w := w3) (g := w1.heap.size + 1) (c := (⟨r1, r2, r3, r4, r5, r6, r7⟩ : S25)) (v := .slice An r6.length cn) HR.out (fun k_ hk => by have := HS.out; have := hk.2.1; omega)) (fun k_ hk => by have := HS.out; have := HNL.out; have := hk.2.1; show k_ ≠ bn; omega) (.int .u64 m_)
    unfold put7 at HR4
    clear hy0 hy1 hy2 hy3 hy4 hy5 hy6 hy7 hy8 hy9 hy10 hy11 hy12 hy13 hn0 hn1 HR HB HX3 HK5
    generalize ((((((((w3.setCell ⟨w1.heap.size + 1, 0, none⟩ (.int .u64 r1)).setCell ⟨w1.heap.size + 1, 1, none⟩ (.int .u64 r2)).setCell ⟨w1.heap.size + 1, 2, none⟩ (.int .u64 r3)).setCell ⟨w1.heap.size + 1, 3, none⟩ (.int .u64 r4)).setCell ⟨w1.heap.size + 1, 4, none⟩ (.int .u64 r5)).setCell ⟨w1.heap.size + 1, 5, none⟩ (.slice An r6.length cn)).setCell ⟨w1.heap.size + 1, 6, none⟩ (.bool r7)).setCell ⟨bn, 0, none⟩ (.int .u64 m_)) = w4 at K6 KN HB4 HR4 ⊢
    have HK6 := Aside0.mk K6
    have HKN := Aside0.mk KN
    have HBX := Aside0.mk HB4
    have HRX := Aside0.mk HR4
    obtain ⟨hy0, hy1, hy2, hy3, hy4, hy5, hy6, hy7, hy8, hy9, hy10, hy11, hy12, hy13⟩ := cz7_ K6
    clear K6 KN HB4 HR4
    go_wp2
    have hR7 := put7_R (w := w4) (g := w1.heap.size + 1) (c := (⟨r1, r2, r3, r4, r5, r6, r7⟩ : S25)) (v := .slice An r6.length cn) HRX.out (fun k_ hk => by have := HS.out; have := hk.2.1; omega)
    refine bodyPost_ret (results_ct rfl _ _ (w1.heap.size + 1) 25 #[.int .u64 r1, .int .u64 r2, .int .u64 r3, .int .u64 r4, .int .u64 r5, .slice An r6.length cn, .bool r7] (0, 0) _ rfl (put7_self (w := w4) (c := (⟨r1, r2, r3, r4, r5, r6, r7⟩ : S25)) (v := .slice An r6.length cn) HK6.out) Try.underlying25 rfl (by kernel_rfl)) rfl ?_
    exact ⟨An, cn, rfl, ⟨An, cn, rfl, (Kd.R_reads' hR7).2.1, (Kd.R_reads' hR7).2.2, row44_of_R hR7 HS2.out⟩, put7_below (c := (⟨r1, r2, r3, r4, r5, r6, r7⟩ : S25)) (v := .slice An r6.length cn) HBX.out (by have := HNL.out; have := HBN.out; omega), put7_far (c := (⟨r1, r2, r3, r4, r5, r6, r7⟩ : S25)) (v := .slice An r6.length cn) HKN.out hne1⟩
def ledger_End.g (k : Nat) (l : List S25) (hold : Int) (paid : Bool) : Option (List S25 × Int × Int) := (ledger_Where.f k l hold).bind fun q => if q.2 = 0 then (ledger_change.gN k l q.1 (ledger_End.how k hold paid)).bind fun z => some (z.1, z.2, 0) else some ([], 0, q.2)
theorem ledger_End.boxes (w : World) (hold : Int) (paid : Bool) : Below w.heap.size w (((w.alloc (.cells #[.int .u64 hold] 22)).alloc (.cells #[.bool paid] 4)).alloc (.cells #[.int .u64 0] 22)) ∧ Box3 (w.heap.size + 1) w.heap.size (w.heap.size + 2) paid hold 0 (((w.alloc (.cells #[.int .u64 hold] 22)).alloc (.cells #[.bool paid] 4)).alloc (.cells #[.int .u64 0] 22)) := by
  have b1 := (Below.refl w.heap.size w).alloc (Nat.le_refl _) (.cells #[.int .u64 hold] 22)
  have b2 := b1.alloc b1.size (.cells #[.bool paid] 4)
  have b3 := b2.alloc b2.size (.cells #[.int .u64 0] 22)
  have s1 : (w.alloc (.cells #[.int .u64 hold] 22)).heap.size = w.heap.size + 1 := by simp
  have s2 : ((w.alloc (.cells #[.int .u64 hold] 22)).alloc (.cells #[.bool paid] 4)).heap.size = w.heap.size + 2 := by simp
  have k1 := blk_below (blk_new w (.cells #[.int .u64 hold] 22)) ((Below.refl _ (w.alloc (.cells #[.int .u64 hold] 22))).alloc (Nat.le_refl _) (.cells #[.bool paid] 4))
  have c2 := (Below.refl _ ((w.alloc (.cells #[.int .u64 hold] 22)).alloc (.cells #[.bool paid] 4))).alloc (Nat.le_refl _) (.cells #[.int .u64 0] 22)
  have k3 := blk_new ((w.alloc (.cells #[.int .u64 hold] 22)).alloc (.cells #[.bool paid] 4)) (.cells #[.int .u64 0] 22)
  rw [s2] at k3
  exact ⟨b3, blk_below (blk_new2 w (.cells #[.int .u64 hold] 22) (.cells #[.bool paid] 4)) c2, blk_below k1 c2, k3⟩
theorem results_tct {fn : Func} {u p x : Tmp} (h : fn.results = #[.tmp u, .cell p 22, .tmp x]) (tmps : Array Value) (w : World) (g : Nat) (n : Int)
    (hp : tmps.getD p undef = .pointer (some ⟨g, 0, none⟩)) (hc : w.cell? ⟨g, 0, none⟩ = some (.int .u64 n)) : (results fn tmps).run Try.prog w = .ok (.tuple #[tmps.getD u undef, .int .u64 n, tmps.getD x undef]) w := by
  have hp' : tmps[p]?.getD undef = .pointer (some ⟨g, 0, none⟩) := by simpa using hp
  have hl : (loadVar 22 ⟨g, 0, none⟩).run Try.prog w = .ok (.int .u64 n) w := by
    have hagg : (isAgg 22).run Try.prog w = .ok false w := by
      unfold isAgg
      rw [Sem.run_bind, run_underlying Try.underlying22 w]
      simp
    simp [loadVar, Sem.run_bind, hagg, hc]
  simp [results, h, hp', asAddr, hl]
theorem Ch.set22 {w : World} {B g : Nat} {x : S25} {cs : List Value} {cs' : Array Value} (h : Ch w B x cs) (hg : w.heap[g]? = some (.cells cs' 22 (0, 0))) (i : Nat) (u : Value) : Ch (w.setCell ⟨g, i, none⟩ u) B x cs := by
  obtain ⟨A, c, h1, h2, h3, h4⟩ := h
  rcases h4 with h0 | ⟨g1, c1, cur1, e, hB, hblk, hz⟩
  · exact ⟨A, c, h1, h2, C44_nil h3 (List.length_eq_zero_iff.mp h0), .inl h0⟩
  · injection e with e1 e2 e3
    subst e1 e3
    have hs : (w.setCell ⟨g, i, none⟩ u).heap[g1]? = w.heap[g1]? := (blk_far hblk (blk_ne hblk hg (by decide)) u).trans hblk.symm
    exact ⟨_, _, h1, h2, C44_blk h3 hs, .inr ⟨g1, _, cur1, rfl, hB, hs.trans hblk, hz⟩⟩
theorem ledger_End.own_set {w : World} {B g : Nat} {v : Value} {xs : List S25} {cs : Array Value} (h : Own25 w B v xs) (hg : w.heap[g]? = some (.cells cs 22 (0, 0))) (i : Nat) (u : Value) : Own25 (w.setCell ⟨g, i, none⟩ u) B v xs := by
  obtain ⟨rows, hR, hl, hx⟩ := h
  refine ⟨rows, raw_any (Kd.R_far (p := ⟨g, i, none⟩) (raw_ok hR) (fun k hk => ?_) u), hl, fun j x hj => by obtain ⟨c0, q1, q2⟩ := hx j x hj; exact ⟨c0, q1, q2.set22 hg i u⟩⟩
  obtain ⟨cur, hc⟩ := Kd.R_typed (raw_ok hR) k hk
  exact blk_ne hc hg (by decide)
set_option maxHeartbeats 16000000 in
set_option maxRecDepth 100000 in
theorem ledger_End.callsS (k : Nat) (A0 : Option Addr) (c0 : Nat) (l : List S25) (hold : Int) (paid : Bool) (r : List S25) (n er : Int) (w : World) (hr0 : Kd.C k25 w A0 l.length l) (hc0 : l.length ≤ c0) (h : ledger_End.g k l hold paid = some (r, n, er)) :
    Calls Try.prog 58 #[.slice A0 l.length c0, .int .u64 hold, .bool paid] w fun e w' => ∃ v : Value, e = .returned (.tuple #[v, .int .u64 n, .int .i64 er]) ∧ Own25 w' w.heap.size v r ∧ Below w.heap.size w w' := by
  have HR0 := Aside0.mk hr0
  have HC0 := Aside0.mk hc0
  clear hr0 hc0
  have HX := Aside0.mk (ledger_End.boxes w hold paid)
  unfold ledger_End.g at h
  obtain ⟨⟨q1, q2⟩, h1, h_⟩ := Option.bind_eq_some_iff.mp h
  replace h := h_
  clear h_
  have HF1 := Aside0.mk h1
  clear h1
  try dsimp only at h
  by_cases hq : q2 = 0
  case neg =>
    rw [if_neg hq] at h
    have hqb : (q2 != 0) = true := bne_iff_ne.mpr hq
    clear hq
    injection h with h
    injection h with hh1 hh2
    injection hh2 with hh2 hh3
    subst hh1 hh2 hh3
    go_enter Try.func58, Try.ntmps58
    go_wp2_with (go_at_call 50; go_loud (refine (ledger_Where.calls k A0 c0 l hold q1 q2 _ (Kd.C_below HR0.out HX.out.1) HC0.out HF1.out).mono ?_; rintro e w1 ⟨rfl, hb⟩; clear HF1; have HB := Aside0.mk (below_step HX.out.1 hb); have HX3 := Aside0.mk (HX.out.2.below hb); obtain ⟨hn0, hn1⟩ := cz1_ HX3.out.n; clear hb))
    refine bodyPost_ret (results_tct rfl _ _ (w.heap.size + 2) 0 rfl ((blk_cell (blk_set HX3.out.n 0 (.int .u64 0)) 0).trans rfl)) rfl ?_
    exact ⟨_, rfl, Own25.nil _ _, HB.out.setCell (p := ⟨w.heap.size + 2, 0, none⟩) (Nat.le_add_right _ 2) _⟩
  subst hq
  rw [if_pos rfl] at h
  obtain ⟨⟨z1, z2⟩, h1, h_⟩ := Option.bind_eq_some_iff.mp h
  replace h := h_
  clear h_
  have HF2 := Aside0.mk h1
  clear h1
  try dsimp only at h
  injection h with h
  injection h with hh1 hh2
  injection hh2 with hh2 hh3
  subst hh1 hh2 hh3
  go_enter Try.func58, Try.ntmps58
  go_wp2_with (first | (go_at_call 50; go_loud (refine (ledger_Where.calls k A0 c0 l hold q1 0 _ (Kd.C_below HR0.out HX.out.1) HC0.out HF1.out).mono ?_; rintro e w1 ⟨rfl, hb⟩; clear HF1; have HB := Aside0.mk (below_step HX.out.1 hb); have HX3 := Aside0.mk (HX.out.2.below hb); obtain ⟨hn0, hn1⟩ := cz1_ HX3.out.n; clear hb)) | (go_at_call 110; go_loud (clear hn0 hn1; refine (ledger_change.callsN k A0 c0 l q1 (.pointer (some ⟨w.heap.size + 1, 0, none⟩)) (.pointer (some ⟨w.heap.size, 0, none⟩)) (.pointer (some ⟨w.heap.size + 2, 0, none⟩)) (w.heap.size + 1) w.heap.size (w.heap.size + 2) paid hold (ledger_End.how k hold paid) z1 z2 w _ HB.out HR0.out HC0.out HX3.out (ledger_End.hows k hold paid (w.heap.size + 1) w.heap.size (w.heap.size + 2) w (by omega)) HF2.out).mono ?_; rintro e w2 ⟨v, rfl, ho, hb, hn⟩; clear HF2 HB HX3; have HB := Aside0.mk hb; have HO := Aside0.mk ho; have HN := Aside0.mk hn; clear ho hb hn)))
  replace HB := Aside0.mk (below_drew1 HB.out)
  replace HN := Aside0.mk (blk_drew HN.out)
  replace HO := Aside0.mk (HO.out.below (below_drew1 (Below.refl w2.heap.size w2)))
  refine start_ (n := 6) (S := fun w' => w'.cell? ⟨w.heap.size + 2, 0, none⟩ = some (.int .u64 z2) ∧ w'.frozen? ⟨w.heap.size + 2, 0, none⟩ = false) (ds := []) #[false, false, false, false, false, false] (by kernel_rfl) rfl rfl ⟨(cz1_ HN.out).1, (cz1_ HN.out).2⟩ (fun hHeld => ?_)
  generalize w2.drew = wd at HB HO HN hHeld ⊢
  refine pure_ (i := 0) (N := some 26) (v := ?_) (a' := ?_) #[true, false, false, false, false, false] rfl rfl (by kernel_rfl) (fun _ _ _ h => h) (Or.inl ⟨by rfl, ?_⟩) ?_ ?_
  rotate_left
  · intro w'
    go_simp
    with_reducible rfl
  rotate_left
  · simp only [Act.put, List.setIfInBounds_toArray, List.set_cons_zero, List.set_cons_succ, i64_w, i32_w]
    rfl
  refine take_ (i := 1) (N := some 27) (v := ?_) (a' := ?_) #[true, true, false, false, false, false] rfl rfl (by kernel_rfl) (fun _ _ _ h => h) (Or.inl ⟨by rfl, ?_⟩) hHeld ?_ ?_
  rotate_left
  · rintro w' ⟨s0, s1⟩
    go_simp
    with_reducible rfl
  rotate_left
  · simp only [Act.put, List.setIfInBounds_toArray, List.set_cons_zero, List.set_cons_succ, i64_w, i32_w]
    rfl
  refine pure_ (i := 2) (N := some 28) (v := ?_) (a' := ?_) #[true, true, true, false, false, false] rfl rfl (by kernel_rfl) (fun _ _ _ h => h) (Or.inl ⟨by rfl, ?_⟩) ?_ ?_
  rotate_left
  · intro w'
    go_simp
    with_reducible rfl
  rotate_left
  · simp only [Act.put, List.setIfInBounds_toArray, List.set_cons_zero, List.set_cons_succ, i64_w, i32_w]
    rfl
  refine pure_ (i := 3) (N := some 6) (v := ?_) (a' := ?_) #[true, true, true, true, false, false] rfl rfl (by kernel_rfl) (fun _ _ _ h => h) (Or.inl ⟨by rfl, ?_⟩) ?_ ?_
  rotate_left
  · intro w'
    go_simp
    with_reducible rfl
  rotate_left
  · simp only [Act.put, List.setIfInBounds_toArray, List.set_cons_zero, List.set_cons_succ, i64_w, i32_w]
    rfl
  refine one_ (i := 4) (N := none) #[true, true, true, true, true, false] rfl rfl (by kernel_rfl) (by decide) (fun K hK => ?_)
  obtain ⟨hs0, hs1⟩ := cz1_ HN.out
  refine skip_ (w1 := (wd.setCell ⟨w.heap.size + 2, 0, none⟩ (.int .u64 z2))) (by rfl) rfl ?_ ?_
  · first | (go_simp; done) | (go_simp; rfl)
  clear hs0 hs1
  have hset := blk_set HN.out 0 (.int .u64 z2)
  have hne := HN.out
  replace HB := Aside0.mk (HB.out.setCell (p := ⟨w.heap.size + 2, 0, none⟩) (Nat.le_add_right _ 2) (.int .u64 z2))
  replace HO := Aside0.mk (ledger_End.own_set HO.out hne 0 (.int .u64 z2))
  replace HN := Aside0.mk hset
  clear hset hne
  generalize wd.setCell ⟨w.heap.size + 2, 0, none⟩ (.int .u64 z2) = we at HB HO HN ⊢
  refine hK.out _ _ ⟨(cz1_ HN.out).1, (cz1_ HN.out).2⟩ (fun hHeld => ?_)
  clear hK K
  refine pure_ (i := 5) (N := some 8) (v := ?_) (a' := ?_) #[true, true, true, true, true, true] rfl rfl (by kernel_rfl) (fun _ _ _ h => h) (Or.inl ⟨by rfl, ?_⟩) ?_ ?_
  rotate_left
  · intro w'
    go_simp
    with_reducible rfl
  rotate_left
  · simp only [Act.put, List.setIfInBounds_toArray, List.set_cons_zero, List.set_cons_succ, i64_w, i32_w]
    rfl
  refine done_ (by kernel_rfl) ?_
  go_wp2
  refine bodyPost_ret (results_tct rfl _ _ (w.heap.size + 2) z2 rfl (cz1_ HN.out).1) rfl ?_
  exact ⟨_, rfl, HO.out, HB.out⟩
theorem ledger_End.mono_how (hold : Int) (paid : Bool) (c : S25) (k : Nat) : LeO (ledger_End.how k hold paid c) (ledger_End.how (k + 1) hold paid c) := by
  unfold ledger_End.how
  repeat' first
    | (with_reducible exact LeO.refl _)
    | apply channel_Settle.mono
    | apply channel_Fail.mono
    | (with_reducible refine LeO.ite ?_ ?_)
    | (with_reducible refine LeO.bind ?_ (fun _ => ?_))
theorem ledger_End.mono_g (l : List S25) (hold : Int) (paid : Bool) (k : Nat) : LeO (ledger_End.g k l hold paid) (ledger_End.g (k + 1) l hold paid) := by
  unfold ledger_End.g
  repeat' first
    | (with_reducible exact LeO.refl _)
    | apply ledger_Where.mono
    | exact ledger_change.mono_gN l _ _ _ (fun c => ledger_End.mono_how hold paid c k) k
    | (with_reducible refine LeO.ite ?_ ?_)
    | (with_reducible refine LeO.bind ?_ (fun _ => ?_))

/-! ### payment_may: function 116 -/
def payment_may.f (k : Nat) (a0_0 : Int) (a0_1 : Int) (a0_2 : Int) (a0_3 : Int) (a0_4 : Int) : Option (Bool) := if a0_3 > 0 then ((money_Check.f k (([a0_3] : List Int))).bind fun t231 => (if t231 = 0 then (if a0_4 ≥ 1 then (some (decide (a0_4 ≤ 3))) else (some false)) else (some false))) else (some false)
theorem payment_may.mono : ∀ a0 a1 a2 a3 a4 k, LeO (payment_may.f k a0 a1 a2 a3 a4) (payment_may.f (k + 1) a0 a1 a2 a3 a4) := by
  intro a0 a1 a2 a3 a4 k
  unfold payment_may.f
  repeat' first
      | (with_reducible exact money_Check.mono _ _)
      | (with_reducible exact LeO.refl _)
      | (with_reducible exact LeO.none _)
      | (with_reducible refine LeO.ite ?_ ?_)
      | (with_reducible refine LeO.bind ?_ (fun _ => ?_))
      | exact money_Check.mono _ _
      | exact LeO.none _
      | refine LeO.ite ?_ ?_
      | refine LeO.bind ?_ (fun _ => ?_)
set_option maxHeartbeats 8000000 in
set_option maxRecDepth 100000 in
theorem payment_may.calls (k : Nat) (a0_0 : Int) (a0_1 : Int) (a0_2 : Int) (a0_3 : Int) (a0_4 : Int) (r : Bool) (w : World) (h : payment_may.f k a0_0 a0_1 a0_2 a0_3 a0_4 = some r) :
    Calls Try.prog 116 #[.agg #[.int .u64 a0_0, .int .u64 a0_1, .int .u64 a0_2, .int .u64 a0_3, .int .i64 a0_4]] w fun e w' => e = .returned (.bool r) ∧ Below w.heap.size w w' := by
  have hu74 := Try.underlying74
  have HB := Aside0.mk (Below.refl w.heap.size w)
  have H : (if a0_3 > 0 then ((money_Check.f k (([a0_3] : List Int))).bind fun t231 => (if t231 = 0 then (if a0_4 ≥ 1 then (some (decide (a0_4 ≤ 3))) else (some false)) else (some false))) else (some false)) = some r := h
  clear h
  by_cases c2 : a0_3 > 0
  · rw [if_pos c2] at H
    have c2b0 : decide (0 < a0_3) = true := decide_eq_true c2
    clear c2
    obtain ⟨y228, hy228⟩ : ∃ y_ : List Int, y_ = (([a0_3] : List Int)) := ⟨_, rfl⟩
    replace H : ((money_Check.f k y228).bind fun t231 => (if t231 = 0 then (if a0_4 ≥ 1 then (some (decide (a0_4 ≤ 3))) else (some false)) else (some false))) = some r := by first | (rw [hy228]; with_reducible exact H) | (have H2_ := (Option.bind_some _ _).symm.trans H; rw [hy228]; with_reducible exact H2_) | (have H2_ := (Option.bind_some _ _).symm.trans H; with_reducible exact H2_) | with_reducible exact H | (rw [hy228]; exact H) | exact H
    have Ny228 := Aside0.mk hy228
    clear hy228
    replace H := Option.bind_eq_some_iff.mp H
    obtain ⟨t231, A30, H⟩ := H
    replace H : (if t231 = 0 then (if a0_4 ≥ 1 then (some (decide (a0_4 ≤ 3))) else (some false)) else (some false)) = some r := H
    have A3 := Aside0.mk A30
    clear A30
    by_cases c4 : t231 = 0
    · rw [if_pos c4] at H
      have c4b0 : (t231 == 0) = true := beq_iff_eq.mpr c4
      have c4b1 : (t231 != 0) = false := bne_eq_false_iff_eq.mpr c4
      clear c4
      by_cases c5 : a0_4 ≥ 1
      · rw [if_pos c5] at H
        have c5b0 : decide (1 ≤ a0_4) = true := decide_eq_true c5
        clear c5
        obtain rfl := Option.some.inj H
        go_enter Try.func116, Try.ntmps116
        go_wp2_with (first | ((with_reducible refine gate_dst (N := 1) rfl ?_); (try (refine gate_guard (by rfl) ?_; dsimp only)); refine box_event ?hg (N := 1) ?hd (cs := #[.int .u64 a0_0, .int .u64 a0_1, .int .u64 a0_2, .int .u64 a0_3, .int .i64 a0_4]) (t := 74) ?hr ?_; (case hd => rfl); (case hg => rfl); (case hr => first | (go_simp; done) | (go_simp; rfl)); intro gb227 hg w6 hbox hb; have n0_ := Aside0.mk (below_step (belN HB) hb); have n1_ := Aside0.mk (hbox); have n2_ := Aside0.mk ((by rw [hg]; exact (below_size (belN HB)) : w.heap.size ≤ gb227)); have n3_ := Aside0.mk ((by rw [hg]; exact (below_size (belN HB)) : w.heap.size ≤ gb227)); clear HB; have HB := n0_; have BK227 := n1_; have GW227 := n2_; have GE227 := n3_; clear n0_ n1_ n2_ n3_; clear hb hbox hg; obtain ⟨hcz7_0, hcz7_1, hcz7_2, hcz7_3, hcz7_4, hfz7_0, hfz7_1, hfz7_2, hfz7_3, hfz7_4⟩ := cz5_ (w := w6) BK227.out) | ((with_reducible refine gate_dst (N := 9) rfl ?_); (try (refine gate_guard (by rfl) ?_; dsimp only)); refine Kd.R_lit (Kd.int .u64) _ 22 ?hg (N := 9) ?hd (xs := ([a0_3] : List Int)) (inner := [.int .u64 a0_3]) (ok := fun _ => True) (okp := fun _ => True) ?hr ?hp (fun _ hk => hk) trivial (Below.refl _ _) (Nat.le_refl _) (by simp) ?_; (case hd => rfl); (case hg => rfl); (case hr => first | (go_simp; done) | (go_simp; rfl)); (case hp => exact (Reps.one (show Kd.M (Kd.int .u64) _ _ _ a0_3 [.int .u64 a0_3] from rfl) (Reps.none _ _))); intro v229 w8 ho9 hb hg_ hnew_; clear hg_ hnew_; (first | rw [← Ny228.out] at ho9 | (simp only [Int.reduceToNat] at ho9; rw [← Ny228.out] at ho9)); have n0_ := Aside0.mk (Kd.R_lower ho9 (below_size (belN HB))); have n1_ := Aside0.mk (blk_below (g := gb227) (blkN BK227) hb); have n2_ := Aside0.mk (below_step (belN HB) hb); clear BK227; clear HB; have HO230 := n0_; have BK227 := n1_; have HB := n2_; clear n0_ n1_ n2_; clear hb ho9; obtain ⟨Ao10, co10, eo10⟩ := Kd.R_slice HO230.out; subst eo10) | (go_at_call 87; (with_reducible refine (money_Check.calls k _ _ y228 t231 _ ?side1 ?side2 A3.out).mono ?_); (case side1 => exact Kd.CN (Kd.R_reads' HO230.out).2.2); (case side2 => exact (Kd.R_reads' HO230.out).2.1); rintro e w11 ⟨rfl, hb⟩; have n0_ := Aside0.mk (Kd.R_below (Kd.RN HO230) hb); have n1_ := Aside0.mk (blk_below (g := gb227) (blkN BK227) hb); have n2_ := Aside0.mk (below_step (belN HB) hb); clear HO230; clear BK227; clear HB; have HO230 := n0_; have BK227 := n1_; have HB := n2_; clear n0_ n1_ n2_; (try clear hb); (try clear hb2); (try clear hk); (try clear hi); obtain ⟨hcz12_0, hcz12_1, hcz12_2, hcz12_3, hcz12_4, hfz12_0, hfz12_1, hfz12_2, hfz12_3, hfz12_4⟩ := cz5_ (w := w11) BK227.out))
        go_ret
        exact ⟨by first | rfl | (simp [errW_none, errW_some] <;> rfl) | (simp [*, errW_none, errW_some] <;> rfl), by repeat (first | (with_reducible first | exact HB.out | apply below_alloc | apply pw_below_drewN | apply below_drew1 | refine below_set ?_ GE227.out) | exact HB.out)⟩
      · rw [if_neg c5] at H
        have c5b0 : decide (1 ≤ a0_4) = false := decide_eq_false c5
        clear c5
        obtain rfl := Option.some.inj H
        go_enter Try.func116, Try.ntmps116
        go_wp2_with (first | ((with_reducible refine gate_dst (N := 1) rfl ?_); (try (refine gate_guard (by rfl) ?_; dsimp only)); refine box_event ?hg (N := 1) ?hd (cs := #[.int .u64 a0_0, .int .u64 a0_1, .int .u64 a0_2, .int .u64 a0_3, .int .i64 a0_4]) (t := 74) ?hr ?_; (case hd => rfl); (case hg => rfl); (case hr => first | (go_simp; done) | (go_simp; rfl)); intro gb227 hg w13 hbox hb; have n0_ := Aside0.mk (below_step (belN HB) hb); have n1_ := Aside0.mk (hbox); have n2_ := Aside0.mk ((by rw [hg]; exact (below_size (belN HB)) : w.heap.size ≤ gb227)); have n3_ := Aside0.mk ((by rw [hg]; exact (below_size (belN HB)) : w.heap.size ≤ gb227)); clear HB; have HB := n0_; have BK227 := n1_; have GW227 := n2_; have GE227 := n3_; clear n0_ n1_ n2_ n3_; clear hb hbox hg; obtain ⟨hcz14_0, hcz14_1, hcz14_2, hcz14_3, hcz14_4, hfz14_0, hfz14_1, hfz14_2, hfz14_3, hfz14_4⟩ := cz5_ (w := w13) BK227.out) | ((with_reducible refine gate_dst (N := 9) rfl ?_); (try (refine gate_guard (by rfl) ?_; dsimp only)); refine Kd.R_lit (Kd.int .u64) _ 22 ?hg (N := 9) ?hd (xs := ([a0_3] : List Int)) (inner := [.int .u64 a0_3]) (ok := fun _ => True) (okp := fun _ => True) ?hr ?hp (fun _ hk => hk) trivial (Below.refl _ _) (Nat.le_refl _) (by simp) ?_; (case hd => rfl); (case hg => rfl); (case hr => first | (go_simp; done) | (go_simp; rfl)); (case hp => exact (Reps.one (show Kd.M (Kd.int .u64) _ _ _ a0_3 [.int .u64 a0_3] from rfl) (Reps.none _ _))); intro v229 w15 ho16 hb hg_ hnew_; clear hg_ hnew_; (first | rw [← Ny228.out] at ho16 | (simp only [Int.reduceToNat] at ho16; rw [← Ny228.out] at ho16)); have n0_ := Aside0.mk (Kd.R_lower ho16 (below_size (belN HB))); have n1_ := Aside0.mk (blk_below (g := gb227) (blkN BK227) hb); have n2_ := Aside0.mk (below_step (belN HB) hb); clear BK227; clear HB; have HO230 := n0_; have BK227 := n1_; have HB := n2_; clear n0_ n1_ n2_; clear hb ho16; obtain ⟨Ao17, co17, eo17⟩ := Kd.R_slice HO230.out; subst eo17) | (go_at_call 87; (with_reducible refine (money_Check.calls k _ _ y228 t231 _ ?side1 ?side2 A3.out).mono ?_); (case side1 => exact Kd.CN (Kd.R_reads' HO230.out).2.2); (case side2 => exact (Kd.R_reads' HO230.out).2.1); rintro e w18 ⟨rfl, hb⟩; have n0_ := Aside0.mk (Kd.R_below (Kd.RN HO230) hb); have n1_ := Aside0.mk (blk_below (g := gb227) (blkN BK227) hb); have n2_ := Aside0.mk (below_step (belN HB) hb); clear HO230; clear BK227; clear HB; have HO230 := n0_; have BK227 := n1_; have HB := n2_; clear n0_ n1_ n2_; (try clear hb); (try clear hb2); (try clear hk); (try clear hi); obtain ⟨hcz19_0, hcz19_1, hcz19_2, hcz19_3, hcz19_4, hfz19_0, hfz19_1, hfz19_2, hfz19_3, hfz19_4⟩ := cz5_ (w := w18) BK227.out))
        go_ret
        exact ⟨by first | rfl | (simp [errW_none, errW_some] <;> rfl) | (simp [*, errW_none, errW_some] <;> rfl), by repeat (first | (with_reducible first | exact HB.out | apply below_alloc | apply pw_below_drewN | apply below_drew1 | refine below_set ?_ GE227.out) | exact HB.out)⟩
    · rw [if_neg c4] at H
      have c4b0 : (t231 == 0) = false := beq_eq_false_iff_ne.mpr c4
      have c4b1 : (t231 != 0) = true := bne_iff_ne.mpr c4
      obtain rfl := Option.some.inj H
      go_enter Try.func116, Try.ntmps116
      go_wp2_with (first | ((with_reducible refine gate_dst (N := 1) rfl ?_); (try (refine gate_guard (by rfl) ?_; dsimp only)); refine box_event ?hg (N := 1) ?hd (cs := #[.int .u64 a0_0, .int .u64 a0_1, .int .u64 a0_2, .int .u64 a0_3, .int .i64 a0_4]) (t := 74) ?hr ?_; (case hd => rfl); (case hg => rfl); (case hr => first | (go_simp; done) | (go_simp; rfl)); intro gb227 hg w20 hbox hb; have n0_ := Aside0.mk (below_step (belN HB) hb); have n1_ := Aside0.mk (hbox); have n2_ := Aside0.mk ((by rw [hg]; exact (below_size (belN HB)) : w.heap.size ≤ gb227)); have n3_ := Aside0.mk ((by rw [hg]; exact (below_size (belN HB)) : w.heap.size ≤ gb227)); clear HB; have HB := n0_; have BK227 := n1_; have GW227 := n2_; have GE227 := n3_; clear n0_ n1_ n2_ n3_; clear hb hbox hg; obtain ⟨hcz21_0, hcz21_1, hcz21_2, hcz21_3, hcz21_4, hfz21_0, hfz21_1, hfz21_2, hfz21_3, hfz21_4⟩ := cz5_ (w := w20) BK227.out) | ((with_reducible refine gate_dst (N := 9) rfl ?_); (try (refine gate_guard (by rfl) ?_; dsimp only)); refine Kd.R_lit (Kd.int .u64) _ 22 ?hg (N := 9) ?hd (xs := ([a0_3] : List Int)) (inner := [.int .u64 a0_3]) (ok := fun _ => True) (okp := fun _ => True) ?hr ?hp (fun _ hk => hk) trivial (Below.refl _ _) (Nat.le_refl _) (by simp) ?_; (case hd => rfl); (case hg => rfl); (case hr => first | (go_simp; done) | (go_simp; rfl)); (case hp => exact (Reps.one (show Kd.M (Kd.int .u64) _ _ _ a0_3 [.int .u64 a0_3] from rfl) (Reps.none _ _))); intro v229 w22 ho23 hb hg_ hnew_; clear hg_ hnew_; (first | rw [← Ny228.out] at ho23 | (simp only [Int.reduceToNat] at ho23; rw [← Ny228.out] at ho23)); have n0_ := Aside0.mk (Kd.R_lower ho23 (below_size (belN HB))); have n1_ := Aside0.mk (blk_below (g := gb227) (blkN BK227) hb); have n2_ := Aside0.mk (below_step (belN HB) hb); clear BK227; clear HB; have HO230 := n0_; have BK227 := n1_; have HB := n2_; clear n0_ n1_ n2_; clear hb ho23; obtain ⟨Ao24, co24, eo24⟩ := Kd.R_slice HO230.out; subst eo24) | (go_at_call 87; (with_reducible refine (money_Check.calls k _ _ y228 t231 _ ?side1 ?side2 A3.out).mono ?_); (case side1 => exact Kd.CN (Kd.R_reads' HO230.out).2.2); (case side2 => exact (Kd.R_reads' HO230.out).2.1); rintro e w25 ⟨rfl, hb⟩; have n0_ := Aside0.mk (Kd.R_below (Kd.RN HO230) hb); have n1_ := Aside0.mk (blk_below (g := gb227) (blkN BK227) hb); have n2_ := Aside0.mk (below_step (belN HB) hb); clear HO230; clear BK227; clear HB; have HO230 := n0_; have BK227 := n1_; have HB := n2_; clear n0_ n1_ n2_; (try clear hb); (try clear hb2); (try clear hk); (try clear hi)))
      go_ret
      exact ⟨by first | rfl | (simp [errW_none, errW_some] <;> rfl) | (simp [*, errW_none, errW_some] <;> rfl), by repeat (first | (with_reducible first | exact HB.out | apply below_alloc | apply pw_below_drewN | apply below_drew1 | refine below_set ?_ GE227.out) | exact HB.out)⟩
  · rw [if_neg c2] at H
    have c2b0 : decide (0 < a0_3) = false := decide_eq_false c2
    clear c2
    obtain rfl := Option.some.inj H
    go_enter Try.func116, Try.ntmps116
    go_wp2_with (first | ((with_reducible refine gate_dst (N := 1) rfl ?_); (try (refine gate_guard (by rfl) ?_; dsimp only)); refine box_event ?hg (N := 1) ?hd (cs := #[.int .u64 a0_0, .int .u64 a0_1, .int .u64 a0_2, .int .u64 a0_3, .int .i64 a0_4]) (t := 74) ?hr ?_; (case hd => rfl); (case hg => rfl); (case hr => first | (go_simp; done) | (go_simp; rfl)); intro gb227 hg w26 hbox hb; have n0_ := Aside0.mk (below_step (belN HB) hb); have n1_ := Aside0.mk (hbox); have n2_ := Aside0.mk ((by rw [hg]; exact (below_size (belN HB)) : w.heap.size ≤ gb227)); have n3_ := Aside0.mk ((by rw [hg]; exact (below_size (belN HB)) : w.heap.size ≤ gb227)); clear HB; have HB := n0_; have BK227 := n1_; have GW227 := n2_; have GE227 := n3_; clear n0_ n1_ n2_ n3_; clear hb hbox hg; obtain ⟨hcz27_0, hcz27_1, hcz27_2, hcz27_3, hcz27_4, hfz27_0, hfz27_1, hfz27_2, hfz27_3, hfz27_4⟩ := cz5_ (w := w26) BK227.out))
    go_ret
    exact ⟨by first | rfl | (simp [errW_none, errW_some] <;> rfl) | (simp [*, errW_none, errW_some] <;> rfl), by repeat (first | (with_reducible first | exact HB.out | apply below_alloc | apply pw_below_drewN | apply below_drew1 | refine below_set ?_ GE227.out) | exact HB.out)⟩

/-! ### payment_order: function 122 -/
def payment_order.f (a0_0 : Int) (a0_1 : Int) (a0_2 : Int) (a0_3 : Int) (a0_4 : Int) (a1 : Int) : Option (Int) := (cmp_Compare_uint64.f a0_0 a1).bind fun t233 => (some t233)
set_option maxHeartbeats 8000000 in
set_option maxRecDepth 100000 in
theorem payment_order.calls (a0_0 : Int) (a0_1 : Int) (a0_2 : Int) (a0_3 : Int) (a0_4 : Int) (a1 : Int) (r : Int) (w : World) (h : payment_order.f a0_0 a0_1 a0_2 a0_3 a0_4 a1 = some r) :
    Calls Try.prog 122 #[.agg #[.int .u64 a0_0, .int .u64 a0_1, .int .u64 a0_2, .int .u64 a0_3, .int .i64 a0_4], .int .u64 a1] w fun e w' => e = .returned (.int .i64 r) ∧ Below w.heap.size w w' := by
  have hu74 := Try.underlying74
  have HB := Aside0.mk (Below.refl w.heap.size w)
  have H : ((cmp_Compare_uint64.f a0_0 a1).bind fun t233 => (some t233)) = some r := h
  clear h
  replace H := Option.bind_eq_some_iff.mp H
  obtain ⟨t233, A30, H⟩ := H
  replace H : (some t233) = some r := H
  have A3 := Aside0.mk A30
  clear A30
  obtain rfl := Option.some.inj H
  go_enter Try.func122, Try.ntmps122
  go_wp2_with (first | ((with_reducible refine gate_dst (N := 2) rfl ?_); refine box_event ?hg (N := 2) ?hd (cs := #[.int .u64 a0_0, .int .u64 a0_1, .int .u64 a0_2, .int .u64 a0_3, .int .i64 a0_4]) (t := 74) ?hr ?_; (case hd => rfl); (case hg => rfl); (case hr => first | (go_simp; done) | (go_simp; rfl)); intro gb232 hg w4 hbox hb; have n0_ := Aside0.mk (below_step (belN HB) hb); have n1_ := Aside0.mk (hbox); have n2_ := Aside0.mk ((by rw [hg]; exact (below_size (belN HB)) : w.heap.size ≤ gb232)); have n3_ := Aside0.mk ((by rw [hg]; exact (below_size (belN HB)) : w.heap.size ≤ gb232)); clear HB; have HB := n0_; have BK232 := n1_; have GW232 := n2_; have GE232 := n3_; clear n0_ n1_ n2_ n3_; clear hb hbox hg; obtain ⟨hcz5_0, hcz5_1, hcz5_2, hcz5_3, hcz5_4, hfz5_0, hfz5_1, hfz5_2, hfz5_3, hfz5_4⟩ := cz5_ (w := w4) BK232.out) | ((with_reducible refine gate_callee (f := 129) rfl ?_); refine goesL_ (some 8) rfl rfl Try.func129 (by kernel_rfl) rfl #[.int .u64 a0_0, .int .u64 a1] rfl (by (try simp only [List.map_toArray, List.map_cons, List.map_nil]); first | done | rfl | (simp only [List.length_drop, List.length_take]; rfl)) ?_; (with_reducible refine (cmp_Compare_uint64.calls a0_0 a1 t233 _ A3.out).mono ?_); rintro e w' ⟨rfl, ⟨nd, rfl⟩⟩; refine ⟨_, rfl, ?_⟩))
  go_ret
  exact ⟨by first | rfl | (simp [errW_none, errW_some] <;> rfl) | (simp [*, errW_none, errW_some] <;> rfl), by repeat (first | (with_reducible first | exact HB.out | apply below_alloc | apply pw_below_drewN | apply below_drew1 | refine below_set ?_ GE232.out) | exact HB.out)⟩

end Go.Proofs.Ytcfbcoinbecdfaa.P
