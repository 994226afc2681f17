-- written by a program of this session (wip/print)
import Derived.Test.YtcfbcoinbecdfaaQPholdsx0
import Derived.Test.YtcfbcoinbecdfaaQPholdsx7
import Derived.Test.YtcfbcoinbecdfaaQPholdsx8
namespace Go.Proofs.Ytcfbcoinbecdfaa.P
open Go.RowKit Go.Proofs.YtcfbcoinbecdfaaW.PrintWords Go.Proofs.YtcfbcoinbecdfaaW.PrintLast Go.Proofs.YtcfbcoinbecdfaaW.PrintMore
attribute [local go_sem] max2_int min2_int max_two min_two max_three min_three max_four min_four run_sub64_   -- for this text's walks alone
set_option linter.unusedVariables false
set_option linter.unusedSimpArgs false

/-! ### slices_Delete_Payment: function 120 (by hand) -/
def slices_Delete_Payment.f (l0 : List (S74)) (a1 : Int) (a2 : Int) : Option (List (S74)) := if 0 ≤ a1 ∧ a1 < (l0.length : Int) ∧ a2 = wrap64 (a1 + 1) ∧ l0.length ≤ 140737488355328 then (some (l0.eraseIdx a1.toNat)) else (none)
set_option maxHeartbeats 8000000 in
set_option maxRecDepth 100000 in
theorem slices_Delete_Payment.calls (P0_ : Nat → Prop) (u9000_ : Value) (l0 : List (S74)) (a1 : Int) (a2 : Int) (r : List (S74)) (w0 w : World) (hB : Below w0.heap.size w0 w) (ho0 : Kd.R k74 74 w w0.heap.size P0_ u9000_ l0) (h : slices_Delete_Payment.f l0 a1 a2 = some r) :
    Calls Try.prog 120 #[u9000_, .int .i64 a1, .int .i64 a2] w fun e w' => ∃ v0_ : Value, e = .returned (v0_) ∧ Kd.R k74 74 w' w0.heap.size (fun k_ => (P0_ k_ ∨ w.heap.size ≤ k_)) v0_ r ∧ Below w0.heap.size w0 w' ∧ Kept w w' (fun k_ => P0_ k_) := by
  unfold slices_Delete_Payment.f at h
  by_cases hc : 0 ≤ a1 ∧ a1 < (l0.length : Int) ∧ a2 = wrap64 (a1 + 1) ∧ l0.length ≤ 140737488355328
  · rw [if_pos hc] at h
    obtain ⟨c1, c2, c3, c4⟩ := hc
    obtain rfl := Option.some.inj h
    clear h
    obtain ⟨i, rfl⟩ := Int.eq_ofNat_of_zero_le c1
    have hi : i < l0.length := by omega
    have c5 : a2 = (i : Int) + 1 := by rw [c3]; unfold wrap64; omega
    subst c5
    rw [Int.toNat_natCast]
    obtain ⟨i0, hi0, _, hsz0, _⟩ := info_parts info74
    have hsz : Kd.sz k74 = 5 := rfl
    have ho := ho0
    obtain ⟨hb0, in0, hown0, hr0⟩ := ho0
    obtain ⟨n, hn⟩ : ∃ n, n = l0.length := ⟨_, rfl⟩
    rcases hown0 with ⟨hl0, ⟨rfl, h0⟩ | ⟨g, cap, cur, rfl, hgb, hg, hnc, hcm, hcs, hct⟩⟩
    · omega
    · have hA : (if cap = i + 1 then some (⟨g, 0, none⟩ : Addr) else some ⟨g, (i + 1) * 5, none⟩) = if cap = i + 1 then some ⟨g, 0, none⟩ else (some (⟨g, 0, none⟩ : Addr)).map (·.add ((i + 1) * Kd.sz k74)) := by
        split
        · rfl
        · simp [hsz, Addr.add]
      obtain ⟨w1, hrun, hR1, hgr1⟩ := Kd.R_delete_run (P := Try.prog) k74 w0.heap.size 71 71 74 i0 Try.underlying71 hi0 (by rw [hsz0]; rfl) (W := w.drew) (Kd.R_drew ho) hi hA (cap - (i + 1))
      have hR1' := hR1
      obtain ⟨_, in1, hown1, _⟩ := hR1'
      rcases hown1 with ⟨hl1, ⟨e1, _⟩ | ⟨g1, cap1, cur1, e1, hgb1, hg1, hnc1, hcm1, hcs1, hct1⟩⟩
      · cases e1
      injection e1 with e1 _ e2
      injection e1 with e1
      injection e1 with e1
      subst e1; subst e2
      obtain ⟨zs, hzs⟩ : ∃ zs, zs = (Builtin.zeroCells ((.agg #[(.int .u64 0), (.int .u64 0), (.int .u64 0), (.int .u64 0), (.int .i64 0)]) : Value).cells 1).toList := ⟨_, rfl⟩
      have hzl : zs.length = 5 := by rw [hzs]; simp [Builtin.zeroCells, Value.cells]
      have hz1 : ∀ v ∈ zs, v.oneCell' = true := by
        have hall : (Builtin.zeroCells ((.agg #[(.int .u64 0), (.int .u64 0), (.int .u64 0), (.int .u64 0), (.int .i64 0)]) : Value).cells 1).toList.all (fun v => v.oneCell') = true := by simp [Builtin.zeroCells, Value.cells]; decide
        rw [hzs]; exact List.all_eq_true.1 hall
      have hzv : ∀ w, (zeroValue 74).run Try.prog w = .ok ((.agg #[(.int .u64 0), (.int .u64 0), (.int .u64 0), (.int .u64 0), (.int .i64 0)])) w := fun _ => by kernel_rfl
      obtain ⟨cur2, hcur2⟩ : ∃ cur2, cur2 = (cur1.toList.take ((l0.length - 1) * 5) ++ zs ++ cur1.toList.drop ((l0.length - 1) * 5 + zs.length)).toArray := ⟨_, rfl⟩
      rw [hsz] at hcs1
      have hclr : ∀ ty c, (Builtin.clear_ #[71] ty #[.slice (some ⟨g, (l0.length - 1) * 5, none⟩) 1 c]).run Try.prog w1 = .ok (.tuple #[]) (w1.setRow g cur2) := fun ty c => by
        rw [hcur2]
        exact run_clear_rowK w1 71 74 ty _ Try.underlying71 hzv g ((l0.length - 1) * 5) 1 c (by omega) cur1 74 hg1 zs hzs (by rw [hzl, hcs1]; omega) hz1
      have hc2s : cur2.size = cur1.size := by have hq := Array.length_toList (xs := cur1); rw [hcur2]; simp only [List.size_toArray, List.length_append, List.length_take, List.length_drop]; omega
      have hc2t : cur2.toList.take ((l0.length - 1) * Kd.sz k74) = cur1.toList.take ((l0.length - 1) * Kd.sz k74) := by
        rw [hsz, hcur2]
        show List.take _ (List.take _ cur1.toList ++ zs ++ _) = _
        rw [List.append_assoc, List.take_append_of_le_length (by rw [List.length_take, Array.length_toList (xs := cur1)]; omega), List.take_take, Nat.min_self]
      have hR2 := Kd_R_past hR1 hg1 hc2s hc2t
      have hgr : w.grownBy (w1.setRow g cur2) (some g) := grown_trans (show w.grownBy w1 (some g) from ⟨hgr1.os, hgr1.tape, hgr1.output, hgr1.size, hgr1.block⟩) (grown_setRow w1 g cur2)
      have hBf : Below w0.heap.size w0 (w1.setRow g cur2) := hB.grown hgr hB.size (fun k hk => by injection hk with hk; omega)
      have hKf : Kept w (w1.setRow g cur2) (fun k_ => P0_ k_) := Kept.of_grown (S := fun k_ => P0_ k_) hgr (Kept.refl w _) (fun k_ e_ => .inl (hb0 k_ e_))
      have hRf := Kd.R_mono (ok' := fun k_ => P0_ k_ ∨ w.heap.size ≤ k_) hR2 (fun k_ hk => .inl hk)
      rw [← hn] at hi hnc hrun hclr hRf ⊢
      unfold maxLen at hcm
      have q1 : (0 : Int) ≤ (i : Int) := by omega
      have q2 : (0 : Int) ≤ (i : Int) + 1 := by omega
      have q3 : (i : Int) + 1 ≤ (n : Int) := by omega
      have q4 : (i : Int) ≤ (i : Int) + 1 := by omega
      have q5 : (i : Int) ≤ (n : Int) := by omega
      have q6 : ((i : Int) + 1).toNat = i + 1 := by omega
      have q7 : ¬ ((i : Int) = (i : Int) + 1) := by omega
      have q8 : ¬ (cap = n - 1) := by omega
      have q9 : ¬ (n = i) := by omega
      have q10 : n - (n - 1) = 1 := by omega
      have q11 : (i : Int) ≤ (cap : Int) := by omega
      have q12 : ((n - 1 : Nat) : Int) ≤ (n : Int) := by omega
      have q13 : (n : Int) ≤ (cap : Int) := by omega
      have q14 : i ≤ n := by omega
      clear hcur2 hc2s hc2t hR2 hgr hR1 hgr1 hg1 hcs1 hct1 hl1 hzs hzl hz1 hg hcs hct hl0 hr0 ho hb0 c1 c2 c3 c4 hn hA
      by_cases q15 : cap = i + 1
      · subst q15
        have q16 : n - (i + 1) = 0 := by omega
        go_enter Try.func120, Try.ntmps120
        go_wp2
        go_region_law (refine step_append_run rfl _ _ 71 71 rfl _ _ (by simp [Act.eval, Act.put, q16]) (by simp [Act.eval, Act.put, q16]) (hrun) ?_)
        go_wp2_with (at_builtin; refine wpList_clear_run _ rfl _ 71 rfl _ rfl (hclr _ _) ?_)
        go_ret
        exact ⟨_, rfl, hRf, hBf, hKf⟩
      · skip
        go_enter Try.func120, Try.ntmps120
        go_wp2
        go_region_law (refine step_append_run rfl _ _ 71 71 rfl _ _ (by simp [Act.eval, Act.put, q15]) (by simp [Act.eval, Act.put, q15]) (hrun) ?_)
        go_wp2_with (at_builtin; refine wpList_clear_run _ rfl _ 71 rfl _ rfl (hclr _ _) ?_)
        go_ret
        exact ⟨_, rfl, hRf, hBf, hKf⟩
  · rw [if_neg hc] at h
    exact absurd h (by simp)

/-! ### slices_Insert_Payment: function 121 (by hand) -/
theorem slices_Insert_Payment.apart_ (g2 cap2 : Nat) (cur2 : Array Value) (w : World) (hg2 : w.heap[g2]? = some (.cells cur2 74 (0, 0))) (b o lb cb : Nat) (cur : Array Value) (hb : w.heap[b]? = some (.cells cur 74 (0, 0))) (hne : g2 ≠ b) (h0 : cur.size ≠ 0) :
    (callFunc 138 #[.slice (some ⟨g2, 0, none⟩) 1 cap2, .slice (some ⟨b, o, none⟩) lb cb]).run Try.prog w = .ok (.value (.bool false)) w := by
  rw [run_callFunc_extern Try.func138 (by kernel_rfl) (by kernel_rfl) (by kernel_rfl) (e := Extern.SlicesOverlaps.overlaps #[71, 71] #[4]) (by kernel_rfl),
    Lib.run_overlaps_apart w 71 4 74 Try.underlying71 5 Try.sizeOf74 ⟨g2, 0, none⟩ ⟨b, o, none⟩ 1 cap2 lb cb hne 74 74 cur2.size cur.size (by simp [World.shape?, hg2]) (by simp [World.shape?, hb]) h0 (blk_frozen hg2 0) (blk_frozen hg2 _)]
  rfl
set_option maxHeartbeats 4000000 in
set_option maxRecDepth 100000 in
theorem slices_Insert_Payment.shift (g n cap i g2 cap2 : Nat) (cur cur2 : Array Value) (w : World) (hi : i < n) (hroom : n + 1 ≤ cap) (hcap : cap ≤ 9223372036854775807) (hg : w.heap[g]? = some (.cells cur 74 (0, 0))) (hg2 : w.heap[g2]? = some (.cells cur2 74 (0, 0))) (hne : g2 ≠ g)
    (hcur : cur.size = cap * 5) (hcur2 : 5 ≤ cur2.size) (h1 : ∀ u ∈ cur.toList.take (n * 5), u.oneCell' = true) (h2 : ∀ u ∈ cur2.toList.take 5, u.oneCell' = true) :
    Calls Try.prog 121 #[.slice (some ⟨g, 0, none⟩) n cap, .int .i64 i, .slice (some ⟨g2, 0, none⟩) 1 cap2] w fun e w' => ∃ cur', e = .returned (.slice (some ⟨g, 0, none⟩) (n + 1) cap) ∧ w'.heap[g]? = some (.cells cur' 74 (0, 0)) ∧ w.grownBy w' (some g) ∧ cur'.size = cap * 5 ∧
      cur'.toList.take ((n + 1) * 5) = (cur.toList.take (n * 5)).take (i * 5) ++ cur2.toList.take 5 ++ (cur.toList.take (n * 5)).drop (i * 5) := by
  obtain ⟨cs, hcs⟩ : ∃ cs, cs = (cur.toList.drop (i * 5)).take ((n - i) * 5) := ⟨_, rfl⟩
  obtain ⟨vs, hvs⟩ : ∃ vs, vs = cur2.toList.take 5 := ⟨_, rfl⟩
  have hov : ∀ o lb cb, (callFunc 138 #[.slice (some ⟨g2, 0, none⟩) 1 cap2, .slice (some ⟨g, o, none⟩) lb cb]).run Try.prog w = .ok (.value (.bool false)) w := fun o lb cb => slices_Insert_Payment.apart_ g2 cap2 cur2 w hg2 g o lb cb cur hg hne (by omega)
  have hz2 : ¬ ((i : Int) = (n : Int)) := by omega
  have hb1 : (0 : Int) ≤ (i : Int) := by omega
  have hb3 : (i : Int) ≤ (n : Int) := by omega
  have hb4 : ¬ (cap = i) := by omega
  have hb5 : ¬ (cap = i + 1) := by omega
  have hw1 : IntKind.i64.wrap ((i : Int) + 1) = (i : Int) + 1 := by rw [IntKind.wrap_i64]; omega
  have hb6 : (0 : Int) ≤ (i : Int) + 1 := by omega
  have hb7 : (i : Int) + 1 ≤ (n : Int) + 1 := by omega
  have hb8 : ((i : Int) + 1).toNat = i + 1 := by omega
  have hb9 : (i : Int) ≤ (n : Int) + 1 := by omega
  have hb10 : n + 1 - (i + 1) = n - i := by omega
  have hsz : (Try.prog.info? 74).map (·.size) = some 5 := by kernel_rfl
  have hcl : cs.length = (n - i) * 5 := by rw [hcs, List.length_take, List.length_drop, Array.length_toList]; omega
  have hvl : vs.length = 1 * 5 := by rw [hvs, List.length_take, Array.length_toList]; omega
  obtain ⟨cur1, hcur1⟩ : ∃ cur1, cur1 = (cur.toList.take ((i + 1) * 5) ++ cs ++ cur.toList.drop ((i + 1) * 5 + cs.length)).toArray := ⟨_, rfl⟩
  have hcp1 : ∀ ty, (Builtin.copy_ #[71, 71] ty #[.slice (some ⟨g, (i + 1) * 5, none⟩) (n - i) (cap - (i + 1)), .slice (some ⟨g, i * 5, none⟩) (n + 1 - i) (cap - i)]).run Try.prog w.drew = .ok (goInt ((n - i : Nat) : Int)) (w.drew.setRow g cur1) := fun ty => by
    rw [hcur1]
    exact run_copy_rowK w.drew 71 71 ty 74 g ((i + 1) * 5) (n - i) (cap - (i + 1)) ⟨g, i * 5, none⟩ (n + 1 - i) (cap - i) 5 (n - i) cur 74 cs Try.underlying71 hsz hg (by simp only [Nat.min_def]; split <;> omega) hcl
      (blk_cells hg (i * 5) ((n - i) * 5) cs hcs.symm) (by omega) (fun v hv => h1 v (by
        rw [hcs] at hv
        rw [List.take_drop, show i * 5 + (n - i) * 5 = n * 5 by omega] at hv
        exact List.mem_of_mem_drop hv))
  obtain ⟨W1, hW1⟩ : ∃ W1, W1 = w.drew.setRow g cur1 := ⟨_, rfl⟩
  have hW1g : W1.heap[g]? = some (.cells cur1 74 (0, 0)) := by rw [hW1]; exact setRow_heap w.drew g cur _ 74 _ hg
  have hW1g2 : W1.heap[g2]? = some (.cells cur2 74 (0, 0)) := by rw [hW1, setRow_other w.drew g g2 _ hne]; exact hg2
  have hc1s : cur1.size = cap * 5 := by rw [hcur1]; simp only [List.size_toArray, List.length_append, List.length_take, List.length_drop, Array.length_toList]; omega
  obtain ⟨cur', hcur'⟩ : ∃ cur', cur' = (cur1.toList.take (i * 5) ++ vs ++ cur1.toList.drop (i * 5 + vs.length)).toArray := ⟨_, rfl⟩
  have hcp2 : ∀ ty, (Builtin.copy_ #[71, 71] ty #[.slice (some ⟨g, i * 5, none⟩) (n + 1 - i) (cap - i), .slice (some ⟨g2, 0, none⟩) 1 cap2]).run Try.prog W1 = .ok (goInt 1) (W1.setRow g cur') := fun ty => by
    rw [hcur']
    exact run_copy_rowK W1 71 71 ty 74 g (i * 5) (n + 1 - i) (cap - i) ⟨g2, 0, none⟩ 1 cap2 5 1 cur1 74 vs Try.underlying71 hsz hW1g (by simp only [Nat.min_def]; split <;> omega) hvl
      (blk_cells hW1g2 0 5 vs (by rw [hvs, List.drop_zero])) (by omega) (fun v hv => h2 v (by rw [hvs] at hv; exact hv))
  have fin : cur'.size = cap * 5 ∧ cur'.toList.take ((n + 1) * 5) = (cur.toList.take (n * 5)).take (i * 5) ++ cur2.toList.take 5 ++ (cur.toList.take (n * 5)).drop (i * 5) := by
    have hL : cur.toList.length = cap * 5 := by rw [Array.length_toList, hcur]
    have h := ins_cells cur.toList vs (i * 5) ((n - i) * 5) 5 0 (by omega) (by omega)
    simp only at h
    have ec : (i + 1) * 5 = i * 5 + 5 := by omega
    rw [hcur', hcur1, hcl, ec, hvl, Nat.one_mul]
    rw [hcs, hvs]
    rw [hvs] at h
    have en : i * 5 + (n - i) * 5 = n * 5 := by omega
    rw [en] at h
    rw [show (n + 1) * 5 = n * 5 + 5 by omega]
    exact ⟨h.1.trans hL, h.2⟩
  have fin2 : w.grownBy (W1.setRow g cur') (some g) := by
    rw [hW1]
    exact grown_trans (grown_trans (show w.grownBy w.drew (some g) from ⟨rfl, rfl, rfl, Nat.le_refl _, fun _ _ _ => rfl⟩) (grown_setRow w.drew g cur1)) (grown_setRow _ g cur')
  have fin3 : (W1.setRow g cur').heap[g]? = some (.cells cur' 74 (0, 0)) := setRow_heap W1 g cur1 _ 74 _ hW1g
  rw [← hW1] at hcp1
  clear hW1 hcur1 hcur' hcs hvs h1 h2 hcur hcur2 hg hg2
  go_enter Try.func121, Try.ntmps121
  go_wp2_with (simp only [hov])
  go_region_law (refine step_copy_run rfl _ _ 71 71 rfl _ _ (by simp [Act.eval, Act.put]) (by simp [Act.eval, Act.put]) (hcp1 _) ?_)
  go_wp2_with (at_builtin; refine wpList_copy_run _ rfl _ _ 71 71 rfl _ _ rfl rfl (hcp2 _) ?_)

  go_ret
  exact ⟨cur', rfl, fin3, fin2, fin⟩

set_option maxHeartbeats 4000000 in
set_option maxRecDepth 100000 in
theorem slices_Insert_Payment.grow (g n cap i g2 cap2 : Nat) (cur cur2 : Array Value) (w : World) (hi : i < n) (hnc : n ≤ cap) (hroom : cap < n + 1) (hbig : (n + 1) * 40 ≤ 140737488355328) (hg : w.heap[g]? = some (.cells cur 74 (0, 0))) (hg2 : w.heap[g2]? = some (.cells cur2 74 (0, 0)))
    (hcur : cur.size = cap * 5) (hcur2 : 5 ≤ cur2.size) (h1 : ∀ u ∈ cur.toList.take (n * 5), u.oneCell' = true) (h2 : ∀ u ∈ cur2.toList.take 5, u.oneCell' = true) :
    Calls Try.prog 121 #[.slice (some ⟨g, 0, none⟩) n cap, .int .i64 i, .slice (some ⟨g2, 0, none⟩) 1 cap2] w fun e w' => ∃ cur' G, e = .returned (.slice (some ⟨w.heap.size, 0, none⟩) (n + 1) G) ∧ w'.heap[w.heap.size]? = some (.cells cur' 74 (0, 0)) ∧ w.grownBy w' none ∧ n + 1 ≤ G ∧ G ≤ maxLen ∧ cur'.size = G * 5 ∧
      cur'.toList.take ((n + 1) * 5) = (cur.toList.take (n * 5)).take (i * 5) ++ cur2.toList.take 5 ++ (cur.toList.take (n * 5)).drop (i * 5) := by
  obtain ⟨i0, hi0, hz0, hzs, hzb⟩ := info_parts info74
  have hlg : g < w.heap.size := blk_lt hg
  have hlg2 : g2 < w.heap.size := blk_lt hg2
  obtain ⟨inn, hinn⟩ : ∃ inn, inn = cur.toList.take (n * 5) := ⟨_, rfl⟩
  have hinl : inn.length = n * 5 := by rw [hinn, List.length_take, Array.length_toList]; omega
  have hold : (Builtin.firstCells i0.size i (.slice (some ⟨g, 0, none⟩) i cap)).run Try.prog w.drew = .ok (inn.take (i * 5)).toArray w.drew := by
    rw [hzs]
    exact run_firstCells_some w.drew 5 i ⟨g, 0, none⟩ i cap (inn.take (i * 5)) (by rw [List.length_take]; omega) (blk_cells (w := w.drew) hg 0 (i * 5) _ (by rw [hinn, List.drop_zero, List.take_take, Nat.min_eq_left (by omega)]))
  obtain ⟨G, hG⟩ : ∃ G, G = grownCap w (n + 1) cap 74 := ⟨_, rfl⟩
  have hGn : n + 1 ≤ G := by rw [hG]; exact grownCap_ge w _ _ _
  have hGm : G ≤ maxLen := by rw [hG]; exact grownCap_le_maxLen w (n + 1) cap 74 (by unfold maxLen; omega)
  have hG63 : G ≤ 9223372036854775807 := by unfold maxLen at hGm; omega
  obtain ⟨ROW, hROW⟩ : ∃ ROW : Array Value, ROW = (inn.take (i * 5)).toArray ++ Builtin.zeroCells ((.agg #[(.int .u64 0), (.int .u64 0), (.int .u64 0), (.int .u64 0), (.int .i64 0)]) : Value).cells (n + 1 - i) ++ Builtin.zeroCells ((.agg #[(.int .u64 0), (.int .u64 0), (.int .u64 0), (.int .u64 0), (.int .i64 0)]) : Value).cells (G - (n + 1)) := ⟨_, rfl⟩
  have hRs : ROW.size = G * 5 := by
    rw [hROW]
    simp only [Array.size_append, List.size_toArray, List.length_take, hinl, size_zeroCells, show ((.agg #[(.int .u64 0), (.int .u64 0), (.int .u64 0), (.int .u64 0), (.int .i64 0)]) : Value).cells.size = 5 from rfl]
    omega
  have hRt : ROW.toList.take (i * 5) = inn.take (i * 5) := by
    rw [hROW, Array.toList_append, Array.toList_append, List.append_assoc, List.take_append_of_le_length (by simp only [List.length_take, hinl]; omega), List.take_of_length_le (by simp only [List.length_take, hinl]; omega)]
  have hrz : ∀ ty, (Builtin.append_ #[71, 3] ty #[.slice (some ⟨g, 0, none⟩) i cap, .int .i64 ((n : Int) + 1 - (i : Int))]).run Try.prog w =
      .ok (.slice (some ⟨w.heap.size, 0, none⟩) (n + 1) G) (w.drew.alloc (.cells ROW 74)) := fun ty => by
    have h := Lib.run_append_grow_zeros w 71 3 ty 74 i0 _ .i64 .i64 Try.underlying71 Try.underlying3 hi0 hz0 (some ⟨g, 0, none⟩) i cap (inn.take (i * 5)) hold (n + 1 - i) (by omega) (by omega) (by omega) (by omega) (by rw [hzb]; omega) (by rw [hzb, show i + (n + 1 - i) = n + 1 by omega]; exact growslice_fits hroom hbig)
    rw [show i + (n + 1 - i) = n + 1 by omega, ← hG, ← hROW] at h
    rw [show (n : Int) + 1 - (i : Int) = ((n + 1 - i : Nat) : Int) by omega]
    exact h
  have hsz : (Try.prog.info? 74).map (·.size) = some 5 := by kernel_rfl
  obtain ⟨N, hN⟩ : ∃ N, N = w.heap.size := ⟨_, rfl⟩
  obtain ⟨vs, hvs⟩ : ∃ vs, vs = cur2.toList.take 5 := ⟨_, rfl⟩
  have hvl : vs.length = 1 * 5 := by rw [hvs, List.length_take, Array.length_toList]; omega
  obtain ⟨cs, hcs⟩ : ∃ cs, cs = inn.drop (i * 5) := ⟨_, rfl⟩
  have hcl : cs.length = (n - i) * 5 := by rw [hcs, List.length_drop]; omega
  obtain ⟨cur1, hcur1⟩ : ∃ cur1, cur1 = (ROW.toList.take (i * 5) ++ vs ++ ROW.toList.drop (i * 5 + vs.length)).toArray := ⟨_, rfl⟩
  have hc1s : cur1.size = G * 5 := by rw [hcur1]; simp only [List.size_toArray, List.length_append, List.length_take, List.length_drop, Array.length_toList]; omega
  obtain ⟨cur', hcur'⟩ : ∃ cur', cur' = (cur1.toList.take ((i + 1) * 5) ++ cs ++ cur1.toList.drop ((i + 1) * 5 + cs.length)).toArray := ⟨_, rfl⟩
  have hcpA : ∀ (W : World), W.heap[N]? = some (.cells ROW 74 (0, 0)) → W.heap[g2]? = some (.cells cur2 74 (0, 0)) → ∀ ty, (Builtin.copy_ #[71, 71] ty #[.slice (some ⟨N, i * 5, none⟩) (n + 1 - i) (G - i), .slice (some ⟨g2, 0, none⟩) 1 cap2]).run Try.prog W = .ok (goInt 1) (W.setRow N cur1) := fun W hW hWv ty => by
    rw [hcur1]
    exact run_copy_rowK W 71 71 ty 74 N (i * 5) (n + 1 - i) (G - i) ⟨g2, 0, none⟩ 1 cap2 5 1 ROW 74 vs Try.underlying71 hsz hW (by simp only [Nat.min_def]; split <;> omega) hvl
      (blk_cells hWv 0 5 vs (by rw [hvs, List.drop_zero])) (by omega) (fun v hv => h2 v (by rw [hvs] at hv; exact hv))
  have hcpB : ∀ (W : World), W.heap[N]? = some (.cells cur1 74 (0, 0)) → W.heap[g]? = some (.cells cur 74 (0, 0)) → ∀ ty, (Builtin.copy_ #[71, 71] ty #[.slice (some ⟨N, (i + 1) * 5, none⟩) (n - i) (G - (i + 1)), .slice (some ⟨g, i * 5, none⟩) (n - i) (cap - i)]).run Try.prog W = .ok (goInt ((n - i : Nat) : Int)) (W.setRow N cur') := fun W hW hWv ty => by
    rw [hcur']
    exact run_copy_rowK W 71 71 ty 74 N ((i + 1) * 5) (n - i) (G - (i + 1)) ⟨g, i * 5, none⟩ (n - i) (cap - i) 5 (n - i) cur1 74 cs Try.underlying71 hsz hW (by simp only [Nat.min_def]; split <;> omega) hcl
      (blk_cells hWv (i * 5) ((n - i) * 5) cs (by rw [hcs, hinn, List.drop_take]; congr 1; omega)) (by omega) (fun v hv => h1 v (by rw [hcs, hinn] at hv; exact List.mem_of_mem_drop hv))
  have fin : cur'.size = G * 5 ∧ cur'.toList.take ((n + 1) * 5) = inn.take (i * 5) ++ cur2.toList.take 5 ++ inn.drop (i * 5) := by
    have e1 : cur1.toList.take ((i + 1) * 5) = inn.take (i * 5) ++ vs := by
      rw [hcur1]
      show List.take _ (List.take (i * 5) ROW.toList ++ vs ++ _) = _
      rw [hRt, List.take_append_of_le_length (by simp only [List.length_append, List.length_take, hinl]; omega), List.take_of_length_le (by simp only [List.length_append, List.length_take, hinl]; omega)]
    refine ⟨?_, ?_⟩
    · rw [hcur']; simp only [List.size_toArray, List.length_append, List.length_take, List.length_drop, Array.length_toList]; omega
    · rw [hcur', e1]
      show List.take _ (inn.take (i * 5) ++ vs ++ cs ++ _) = _
      rw [List.take_append_of_le_length (by simp only [List.length_append, List.length_take, hinl]; omega), List.take_of_length_le (by simp only [List.length_append, List.length_take, hinl]; omega), hcs, hvs]
  rw [← hN] at hlg hlg2 hrz ⊢
  rw [← hinn]
  have hz2 : ¬ ((i : Int) = (n : Int)) := by omega
  have hz3 : (cap : Int) < (n : Int) + 1 := by omega
  have hb1 : (0 : Int) ≤ (i : Int) := by omega
  have hb3 : (i : Int) ≤ (n : Int) := by omega
  have hb4 : ¬ (cap = i) := by omega
  have hb5 : ¬ (G = i) := by omega
  have hb6 : ¬ (G = i + 1) := by omega
  have hw1 : IntKind.i64.wrap ((i : Int) + 1) = (i : Int) + 1 := by rw [IntKind.wrap_i64]; omega
  have hb7 : (0 : Int) ≤ (i : Int) + 1 := by omega
  have hb8 : (i : Int) + 1 ≤ (n : Int) + 1 := by omega
  have hb9 : ((i : Int) + 1).toNat = i + 1 := by omega
  have hb10 : (i : Int) ≤ (n : Int) + 1 := by omega
  have hb11 : n + 1 - (i + 1) = n - i := by omega
  obtain ⟨W1, hW1⟩ : ∃ W1, W1 = w.drew.alloc (.cells ROW 74) := ⟨_, rfl⟩
  have hn1 : W1.heap[N]? = some (.cells ROW 74 (0, 0)) := by rw [hW1, hN]; exact heap_alloc_new w.drew _
  have hg1 : W1.heap[g]? = some (.cells cur 74 (0, 0)) := by rw [hW1]; exact blk_alloc (w := w.drew) hg _
  have hg21 : W1.heap[g2]? = some (.cells cur2 74 (0, 0)) := by rw [hW1]; exact blk_alloc (w := w.drew) hg2 _
  have hgr1 : w.grownBy W1 none := by rw [hW1]; exact ⟨rfl, rfl, rfl, by simp, fun k hk _ => heap_alloc_old w.drew _ hk⟩
  have hsN : w.heap.size ≤ N := by omega
  rw [← hW1] at hrz
  have hA := hcpA W1 hn1 hg21
  obtain ⟨W2, hW2⟩ : ∃ W2, W2 = W1.setRow N cur1 := ⟨_, rfl⟩
  have hn2 : W2.heap[N]? = some (.cells cur1 74 (0, 0)) := by rw [hW2]; exact setRow_heap W1 N ROW _ 74 _ hn1
  have hgg2 : W2.heap[g]? = some (.cells cur 74 (0, 0)) := by rw [hW2, setRow_other W1 N g _ (by omega)]; exact hg1
  have hgr2 : w.grownBy W2 none := by
    rw [hW2]
    exact ⟨hgr1.os, hgr1.tape, hgr1.output, Nat.le_trans hgr1.size (by simp [World.setRow]), fun k hk hr => (setRow_other W1 N k _ (by omega)).trans (hgr1.block k hk hr)⟩
  rw [← hW2] at hA
  have hB := hcpB W2.drew hn2 hgg2
  have fin3 : (W2.drew.setRow N cur').heap[N]? = some (.cells cur' 74 (0, 0)) := setRow_heap W2.drew N cur1 _ 74 _ hn2
  have fin2 : w.grownBy (W2.drew.setRow N cur') none := ⟨hgr2.os, hgr2.tape, hgr2.output, Nat.le_trans hgr2.size (by simp [World.setRow]), fun k hk hr => (setRow_other W2.drew N k _ (by omega)).trans (hgr2.block k hk hr)⟩
  clear hcpA hcpB hW1 hW2 hcur1 hcur' hcs hvs h1 h2 hcur hcur2 hg hg2 hROW hG hold hinn hN hn1 hg1 hg21 hgr1 hn2 hgg2 hgr2 hRt hRs
  go_enter Try.func121, Try.ntmps121
  go_wp2_with (first
    | (at_builtin; refine Lib.wpList_append_run _ rfl _ _ _ _ rfl _ _ rfl rfl _ _ (hrz _) ?_)
    | (at_builtin; refine wpList_copy_run _ rfl _ _ 71 71 rfl _ _ rfl rfl (hA _) ?_))
  go_region_law (refine step_copy_run rfl _ _ 71 71 rfl _ _ (by simp [Act.eval, Act.put]) (by simp [Act.eval, Act.put]) (hB _) ?_)
  go_wp2
  go_ret
  exact ⟨cur', G, rfl, fin3, fin2, hGn, hGm, fin⟩

def slices_Insert_Payment.f (l0 : List (S74)) (a1 : Int) (l2 : List (S74)) : Option (List (S74)) := if 0 ≤ a1 ∧ a1 ≤ (l0.length : Int) ∧ l2.length = 1 ∧ l0.length + 1 < 3518437208883 then (some (l0.take a1.toNat ++ l2 ++ l0.drop a1.toNat)) else (none)
set_option maxHeartbeats 8000000 in
set_option maxRecDepth 100000 in
theorem slices_Insert_Payment.last (P0_ : Nat → Prop) (u9000_ : Value) (l0 : List (S74)) (a1 : Int) (P2_ : Nat → Prop) (u9001_ : Value) (l2 : List (S74)) (w0 w : World) (hB : Below w0.heap.size w0 w) (ho0 : Kd.R k74 74 w w0.heap.size P0_ u9000_ l0) (ho2 : Kd.R k74 74 w w0.heap.size P2_ u9001_ l2) (h1 : a1 = (l0.length : Int)) (h2 : l2.length = 1) (h3 : l0.length + 1 < 3518437208883) :
    Calls Try.prog 121 #[u9000_, .int .i64 a1, u9001_] w fun e w' => ∃ v0_ : Value, e = .returned (v0_) ∧ Kd.R k74 74 w' w0.heap.size (fun k_ => ((P0_ k_ ∨ P2_ k_) ∨ w.heap.size ≤ k_)) v0_ (l0 ++ l2) ∧ Below w0.heap.size w0 w' ∧ Kept w w' (fun k_ => P0_ k_ ∨ P2_ k_) := by
  have HO0 := Aside0.mk (show Kd.R k74 74 w w0.heap.size (fun k_ => P0_ k_ ∨ w.heap.size ≤ k_) u9000_ l0 from Kd.R_mono ho0 (fun k_ hk => .inl hk))
  have HP := Aside0.mk ho0.1
  obtain ⟨Av, cv, ev⟩ := Kd.R_slice ho2
  subst ev
  have HR2 := Aside0.mk (Kd.R_reads' ho2).2.2
  have HB := Aside0.mk hB
  have HS := Aside0.mk hB.size
  have LM := Aside0.mk (show l0.length + l2.length < 3518437208883 by omega)
  obtain ⟨Ao12, co12, eo12⟩ := Kd.R_slice HO0.out
  subst eo12
  have q11 : (a1 : Int) ≤ ((l0.length : Int) : Int) := by omega
  obtain ⟨i011, hi011, _, hsz11, _⟩ := info_parts info74
  have hroom11 : l0.length ≤ co12 := (Kd.R_reads' HO0.out).2.1
  have q011 : (0 : Int) ≤ (a1 : Int) := by omega
  have hcut11 := cut_from (P := Try.prog) 71 74 .i64 Try.underlying71 hi011 5 hsz11 Ao12 l0.length co12 a1 q011 q11
  obtain ⟨A11, hA11⟩ : ∃ A1, A1 = (if co12 = (a1 : Int).toNat then Ao12 else (Ao12 : Option Addr).map (·.add ((a1 : Int).toNat * 5))) := ⟨_, rfl⟩
  obtain ⟨c11, hc11⟩ : ∃ c1, c1 = co12 - (a1 : Int).toNat := ⟨_, rfl⟩
  obtain ⟨y11, hy11⟩ : ∃ y1, y1 = l0.length - (a1 : Int).toNat := ⟨_, rfl⟩
  rw [← hy11, ← hA11, ← hc11] at hcut11
  have c6b0 : ((l2.length : Int) == 0) = false := by rw [h2]; rfl
  have c6b1 : ((l2.length : Int) != 0) = true := by rw [h2]; rfl
  have c6b2 : ¬ (l2 = []) := fun h_ => by rw [h_] at h2; cases h2
  have c9b0 : (a1 == (l0.length : Int)) = true := beq_iff_eq.mpr h1
  have c9b1 : (a1 != (l0.length : Int)) = false := bne_eq_false_iff_eq.mpr h1
  clear hi011 hsz11 hc11 hA11 hy11 h1 h2 h3 ho0 ho2 hB
  replace q11 := eq_true q11
  replace q011 := eq_true q011
  go_enter Try.func121, Try.ntmps121
  go_wp2_with (first | ((with_reducible refine gate_builtin (b := .append) (xs := #[.tmp 23, .tmp 24]) rfl ?_); at_builtin; refine Kd.R_append_rows k74 (w0 := w0) w0.heap.size rfl (.tmp 23) (.tmp 24) 71 74 (.agg #[(.int .u64 0), (.int .u64 0), (.int .u64 0), (.int .u64 0), (.int .i64 0)]) 40 rfl Try.underlying71 info74 rfl (by decide) (by omega) (.slice Ao12 l0.length co12) l0 l2 _ _ _ (fun k_ => (P0_ k_ ∨ w.heap.size ≤ k_)) (fun _ => False) rfl rfl ?aO ?aR (fun _ _ h => h) (fun _ h => h.elim) ?aF ?aB ?aS ?aL ?_; (case aR => exact HR2.out); (case aB => exact HB.out); (case aF => exact (fun k_ hk => .inr hk)); (case aO => exact HO0.out); (case aS => exact HS.out); (case aL => have := LM.out; omega); intro v138 w13 ho hb hg hat; have n0_ := Aside0.mk ho; have n1_ := Aside0.mk hb; have n2_ := Aside0.mk hg; clear ho hb hg hat))
  go_ret
  exact ⟨_, rfl, Kd.R_mono n0_.out (fun k_ hk => hk.elim (fun h_ => .inl (.inl h_)) .inr), n1_.out, Kept.of_grown (S := fun k_ => P0_ k_ ∨ P2_ k_) n2_.out (Kept.refl w _) (fun k_ e_ => .inl (.inl (HP.out k_ e_)))⟩
set_option maxHeartbeats 4000000 in
theorem slices_Insert_Payment.calls (P0_ : Nat → Prop) (u9000_ : Value) (l0 : List (S74)) (a1 : Int) (P2_ : Nat → Prop) (u9001_ : Value) (l2 : List (S74)) (r : List (S74)) (w0 w : World) (hB : Below w0.heap.size w0 w) (ho0 : Kd.R k74 74 w w0.heap.size P0_ u9000_ l0) (hp0_2 : ∀ k_, P0_ k_ → ¬ P2_ k_) (ho2 : Kd.R k74 74 w w0.heap.size P2_ u9001_ l2) (hp2_0 : ∀ k_, P2_ k_ → ¬ P0_ k_) (h : slices_Insert_Payment.f l0 a1 l2 = some r) :
    Calls Try.prog 121 #[u9000_, .int .i64 a1, u9001_] w fun e w' => ∃ v0_ : Value, e = .returned (v0_) ∧ Kd.R k74 74 w' w0.heap.size (fun k_ => ((P0_ k_ ∨ P2_ k_) ∨ w.heap.size ≤ k_)) v0_ r ∧ Below w0.heap.size w0 w' ∧ Kept w w' (fun k_ => P0_ k_ ∨ P2_ k_) := by
  unfold slices_Insert_Payment.f at h
  by_cases hc : 0 ≤ a1 ∧ a1 ≤ (l0.length : Int) ∧ l2.length = 1 ∧ l0.length + 1 < 3518437208883
  · rw [if_pos hc] at h
    obtain ⟨c1, c2, c3, c4⟩ := hc
    obtain rfl := Option.some.inj h
    by_cases hl : a1 = (l0.length : Int)
    · have he : l0.take a1.toNat ++ l2 ++ l0.drop a1.toNat = l0 ++ l2 := by
        rw [hl, Int.toNat_natCast, List.take_of_length_le (Nat.le_refl _), List.drop_of_length_le (Nat.le_refl _), List.append_nil]
      rw [he]
      exact slices_Insert_Payment.last P0_ u9000_ l0 a1 P2_ u9001_ l2 w0 w hB ho0 ho2 hl c3 c4
    · obtain ⟨i, rfl⟩ := Int.eq_ofNat_of_zero_le c1
      have hi : i < l0.length := by omega
      obtain ⟨hb0, in0, hown0, hr0⟩ := ho0
      obtain ⟨hb2, in2, hown2, hr2⟩ := ho2
      have one0 := Kd.reps_one hr0 (show 0 < Kd.sz k74 from by decide) (fun p c hp => Kd.K_one _ (Kd.K_of_M _ hp))
      have one2 := Kd.reps_one hr2 (show 0 < Kd.sz k74 from by decide) (fun p c hp => Kd.K_one _ (Kd.K_of_M _ hp))
      have hsz : Kd.sz k74 = 5 := rfl
      rcases hown0 with ⟨hl0, ⟨rfl, h0⟩ | ⟨g, cap, cur, rfl, hgb, hg, hnc, hcm, hcs, hct⟩⟩
      · omega
      · rcases hown2 with ⟨hl2, ⟨rfl, h0⟩ | ⟨g2, cap2, cur2, rfl, hgb2, hg2, hnc2, hcm2, hcs2, hct2⟩⟩
        · omega
        · have hne : g2 ≠ g := fun e => hp0_2 g (hb0 g rfl) (by rw [← e]; exact hb2 g2 rfl)
          rw [c3, Nat.one_mul] at hct2
          rw [c3] at hnc2 hl2
          rw [hsz] at hct hct2 hcs hcs2 hl0 hl2
          have hl1 : (Value.slice (some (⟨g2, 0, none⟩ : Addr)) l2.length cap2) = .slice (some ⟨g2, 0, none⟩) 1 cap2 := by rw [c3]
          rw [hl1]
          have fin : ∀ (v1 : Value) (w1 : World), w1.ownsRow w0.heap.size 74 5 v1 (l0.length + 1) (in0.take (i * 5) ++ in2 ++ in0.drop (i * 5)) → w.grownBy w1 (some g) → (v1.ownBlock = some g ∨ ∃ b, v1.ownBlock = some b ∧ w.heap.size ≤ b) →
              ∃ v0_ : Value, Ending.returned v1 = .returned (v0_) ∧ Kd.R k74 74 w1 w0.heap.size (fun k_ => ((P0_ k_ ∨ P2_ k_) ∨ w.heap.size ≤ k_)) v0_ (l0.take i ++ l2 ++ l0.drop i) ∧ Below w0.heap.size w0 w1 ∧ Kept w w1 (fun k_ => P0_ k_ ∨ P2_ k_) := by
            intro v1 w1 hown hgr hat
            refine ⟨v1, rfl, ?_, ?_, ?_⟩
            · exact Kd_R_inserted (d := k74) (u := .slice (some ⟨g, 0, none⟩) l0.length cap) (v := .slice (some ⟨g2, 0, none⟩) l2.length cap2) i (by omega) hb0 hr0 hr2 hp0_2 (by rw [c3]; exact hown) hgr hat
            · exact hB.grown hgr hB.size (fun k hk => by injection hk with hk; omega)
            · exact Kept.of_grown (S := fun k_ => P0_ k_ ∨ P2_ k_) hgr (Kept.refl w _) (fun k_ e_ => .inl (.inl (hb0 k_ e_)))
          rw [Int.toNat_natCast]
          rw [← hct] at one0 fin
          rw [← hct2] at one2 fin
          by_cases hroom : l0.length + 1 ≤ cap
          · refine (slices_Insert_Payment.shift g l0.length cap i g2 cap2 cur cur2 w hi hroom (by unfold maxLen at hcm; omega) hg hg2 hne hcs (by rw [hcs2]; omega) one0 one2).mono ?_
            rintro e w' ⟨cur', rfl, q1, q2, q3, q4⟩
            refine fin _ w' ⟨?_, .inr ⟨g, cap, cur', rfl, hgb, q1, hroom, hcm, q3, q4⟩⟩ q2 (.inl rfl)
            rw [← q4, List.length_take, show cur'.toList.length = cap * 5 from Array.length_toList.trans q3, Nat.min_eq_left (by omega)]
          · refine (slices_Insert_Payment.grow g l0.length cap i g2 cap2 cur cur2 w hi hnc (by omega) (by omega) hg hg2 hcs (by rw [hcs2]; omega) one0 one2).mono ?_
            rintro e w' ⟨cur', G, rfl, q1, q2, q3, q4, q5, q6⟩
            refine fin _ w' ⟨?_, .inr ⟨w.heap.size, G, cur', rfl, hB.size, q1, q3, q4, q5, q6⟩⟩ ⟨q2.os, q2.tape, q2.output, q2.size, fun k hk _ => q2.block k hk (by simp)⟩ (.inr ⟨w.heap.size, rfl, Nat.le_refl _⟩)
            rw [← q6, List.length_take, show cur'.toList.length = G * 5 from Array.length_toList.trans q5, Nat.min_eq_left (by omega)]
  · rw [if_neg hc] at h
    exact absurd h (by simp)

/-! ### payment_Start_1: function 119 -/
def payment_Start_1.f (a0_0 : Int) (a0_1 : Int) (a0_2 : Int) (a0_3 : Int) (a0_4 : Int) : Option (Bool) := some (a0_4 != 1)
set_option maxHeartbeats 8000000 in
set_option maxRecDepth 100000 in
theorem payment_Start_1.calls (a0_0 : Int) (a0_1 : Int) (a0_2 : Int) (a0_3 : Int) (a0_4 : Int) (r : Bool) (w : World) (h : payment_Start_1.f a0_0 a0_1 a0_2 a0_3 a0_4 = some r) :
    Calls Try.prog 119 #[.agg #[.int .u64 a0_0, .int .u64 a0_1, .int .u64 a0_2, .int .u64 a0_3, .int .i64 a0_4]] w fun e w' => e = .returned (.bool r) ∧ Below w.heap.size w w' := by
  have hu74 := Try.underlying74
  have HB := Aside0.mk (Below.refl w.heap.size w)
  have H : (some (a0_4 != 1)) = some r := h
  clear h
  obtain rfl := Option.some.inj H
  go_enter Try.func119, Try.ntmps119
  go_wp2_with (first | ((with_reducible refine gate_dst (N := 1) rfl ?_); refine box_event ?hg (N := 1) ?hd (cs := #[.int .u64 a0_0, .int .u64 a0_1, .int .u64 a0_2, .int .u64 a0_3, .int .i64 a0_4]) (t := 74) ?hr ?_; (case hd => rfl); (case hg => rfl); (case hr => first | (go_simp; done) | (go_simp; rfl)); intro gb246 hg w2 hbox hb; have n0_ := Aside0.mk (below_step (belN HB) hb); have n1_ := Aside0.mk (hbox); have n2_ := Aside0.mk ((by rw [hg]; exact (below_size (belN HB)) : w.heap.size ≤ gb246)); have n3_ := Aside0.mk ((by rw [hg]; exact (below_size (belN HB)) : w.heap.size ≤ gb246)); clear HB; have HB := n0_; have BK246 := n1_; have GW246 := n2_; have GE246 := n3_; clear n0_ n1_ n2_ n3_; clear hb hbox hg; obtain ⟨hcz3_0, hcz3_1, hcz3_2, hcz3_3, hcz3_4, hfz3_0, hfz3_1, hfz3_2, hfz3_3, hfz3_4⟩ := cz5_ (w := w2) BK246.out))
  go_ret
  exact ⟨by first | rfl | (simp [errW_none, errW_some] <;> rfl) | (simp [*, errW_none, errW_some] <;> rfl), by repeat (first | (with_reducible first | exact HB.out | apply below_alloc | apply pw_below_drewN | apply below_drew1 | refine below_set ?_ GE246.out) | exact HB.out)⟩

/-! ### slices_IndexFunc_Payment_at_payment_Start_1: function 168 -/
def slices_IndexFunc_Payment_at_payment_Start_1.l0 : Nat → List (S74) → Int → Int → Option (Int)
  | 0, _, _, _ => none
  | k + 1, x0, x7, x8 => if x8 < x7 then (if 0 ≤ x8 then (if x8 < (x0.length : Int) then ((payment_Start_1.f ((rd_T74 x0 x8).f0) ((rd_T74 x0 x8).f1) ((rd_T74 x0 x8).f2) ((rd_T74 x0 x8).f3) ((rd_T74 x0 x8).f4)).bind fun t248 => (if t248 = true then (some x8) else (slices_IndexFunc_Payment_at_payment_Start_1.l0 k x0 x7 (wrap64 (x8 + 1))))) else (none)) else (none)) else (some (-1))
def slices_IndexFunc_Payment_at_payment_Start_1.f (k : Nat) (l0 : List (S74))  : Option (Int) := slices_IndexFunc_Payment_at_payment_Start_1.l0 k l0 (l0.length : Int) 0
theorem slices_IndexFunc_Payment_at_payment_Start_1.mono_l : ∀ k, (∀ y0 y1 y2, LeO (slices_IndexFunc_Payment_at_payment_Start_1.l0 k y0 y1 y2) (slices_IndexFunc_Payment_at_payment_Start_1.l0 (k + 1) y0 y1 y2))
  | 0 => fun _ _ _ r h => by simp [slices_IndexFunc_Payment_at_payment_Start_1.l0] at h
  | k + 1 => by
    have ih0 := slices_IndexFunc_Payment_at_payment_Start_1.mono_l k
    · intro y0 y1 y2
      unfold slices_IndexFunc_Payment_at_payment_Start_1.l0
      repeat' first
      | (with_reducible exact ih0 _ _ _)
      | (with_reducible exact LeO.refl _)
      | (with_reducible exact LeO.none _)
      | (with_reducible refine LeO.ite ?_ ?_)
      | (with_reducible refine LeO.bind ?_ (fun _ => ?_))
      | exact ih0 _ _ _
      | exact LeO.none _
      | refine LeO.ite ?_ ?_
      | refine LeO.bind ?_ (fun _ => ?_)
theorem slices_IndexFunc_Payment_at_payment_Start_1.mono : ∀ a0 k, LeO (slices_IndexFunc_Payment_at_payment_Start_1.f k a0) (slices_IndexFunc_Payment_at_payment_Start_1.f (k + 1) a0) := by
  intro a0 k
  have ih0 := slices_IndexFunc_Payment_at_payment_Start_1.mono_l k
  unfold slices_IndexFunc_Payment_at_payment_Start_1.f
  repeat' first
      | (with_reducible exact ih0 _ _ _)
      | (with_reducible exact LeO.refl _)
      | (with_reducible exact LeO.none _)
      | (with_reducible refine LeO.ite ?_ ?_)
      | (with_reducible refine LeO.bind ?_ (fun _ => ?_))
      | exact ih0 _ _ _
      | exact LeO.none _
      | refine LeO.ite ?_ ?_
      | refine LeO.bind ?_ (fun _ => ?_)
set_option maxHeartbeats 8000000 in
set_option maxRecDepth 100000 in
theorem slices_IndexFunc_Payment_at_payment_Start_1.calls (k : Nat) (A0 : Option Addr) (c0 : Nat) (l0 : List (S74))  (r : Int) (w : World) (hr0 : Kd.C k74 w A0 l0.length l0) (hc0 : l0.length ≤ c0) (h : slices_IndexFunc_Payment_at_payment_Start_1.f k l0 = some r) :
    Calls Try.prog 118 #[.slice A0 l0.length c0, .func (.func 119) #[] #[]] w fun e w' => e = .returned (.int .i64 r) ∧ Below w.heap.size w w' := by
  have hu74 := Try.underlying74
  have HR0 := Aside0.mk hr0
  have HC0 := Aside0.mk hc0
  clear hr0 hc0
  have HB := Aside0.mk (Below.refl w.heap.size w)
  have H : (slices_IndexFunc_Payment_at_payment_Start_1.l0 k l0 (l0.length : Int) 0) = some r := h
  clear h
  have H' := Aside0.mk H
  clear H
  go_enter Try.func118, Try.ntmps118
  go_wp2
  go_loopg [8] k (fun kq v8 w' => ∃ (x8_1 : Int), v8 = .int .i64 x8_1 ∧ Aside0 (slices_IndexFunc_Payment_at_payment_Start_1.l0 kq l0 (l0.length : Int) x8_1 = some r) ∧ Aside0 (kq ≤ k) ∧ Aside0 (Below w.heap.size w w'))
  case atStart => exact ⟨(0), (by first | rfl | (simp; done) | (simp [*]; done)), H', ⟨Nat.le_refl _⟩, ⟨by repeat (first | (with_reducible first | exact HB.out | apply below_alloc | apply pw_below_drewN | apply below_drew1) | exact HB.out)⟩⟩
  case round =>
    clear H'
    try clear c1
    try clear p2
    obtain ⟨x8_1, rfl, HA, HK1, HB⟩ := hrel
    cases gk with
    | zero => exact absurd HA.out (by simp [slices_IndexFunc_Payment_at_payment_Start_1.l0])
    | succ k1 =>
      have H := HA.out
      clear HA
      simp only [slices_IndexFunc_Payment_at_payment_Start_1.l0] at H
      by_cases c3 : x8_1 < (l0.length : Int)
      · rw [if_pos c3] at H
        have c3b0 : decide (x8_1 < (l0.length : Int)) = true := decide_eq_true c3
        clear c3
        by_cases c4 : 0 ≤ x8_1
        · rw [if_pos c4] at H
          have c4b0 : decide (0 ≤ x8_1) = true := decide_eq_true c4
          clear c4
          by_cases c5 : x8_1 < (l0.length : Int)
          · rw [if_pos c5] at H
            have c5b0 : decide (x8_1 < (l0.length : Int)) = true := decide_eq_true c5
            clear c5
            replace H := Option.bind_eq_some_iff.mp H
            obtain ⟨t248, A60, H⟩ := H
            replace H : (if t248 = true then (some x8_1) else (slices_IndexFunc_Payment_at_payment_Start_1.l0 k1 l0 (l0.length : Int) (wrap64 (x8_1 + 1)))) = some r := H
            have A6 := Aside0.mk A60
            clear A60
            by_cases c7 : t248 = true
            · subst c7
              have H1 : (some x8_1) = some r := by rw [if_pos rfl] at H; exact H
              clear H
              have H := H1
              clear H1
              obtain rfl := Option.some.inj H
              have p247 : 0 ≤ (x8_1 : Int) := of_decide_eq_true (by first | (with_reducible assumption) | assumption)
              have q247 : x8_1 < (l0.length : Int) := of_decide_eq_true (by first | (with_reducible assumption) | assumption)
              obtain ⟨ad247, e247, hx247_0, hx247_1, hx247_2, hx247_3, hx247_4⟩ := at_T74 HR0.out x8_1 p247 q247
              cases e247
              replace hx247_0 := (HB.out.cell (World.block_lt_of_cell? w _ hx247_0)).trans hx247_0
              replace hx247_1 := (HB.out.cell (World.block_lt_of_cell? w _ hx247_1)).trans hx247_1
              replace hx247_2 := (HB.out.cell (World.block_lt_of_cell? w _ hx247_2)).trans hx247_2
              replace hx247_3 := (HB.out.cell (World.block_lt_of_cell? w _ hx247_3)).trans hx247_3
              replace hx247_4 := (HB.out.cell (World.block_lt_of_cell? w _ hx247_4)).trans hx247_4
              replace p247 := eq_true p247
              replace q247 := eq_true q247
              go_wp2_with (first | ((with_reducible refine gate_tmp (t_ := 11) rfl ?_); refine goesT_ (some 16) rfl rfl Try.func119 (by kernel_rfl) rfl #[.agg #[.int .u64 ((rd_T74 l0 x8_1).f0), .int .u64 ((rd_T74 l0 x8_1).f1), .int .u64 ((rd_T74 l0 x8_1).f2), .int .u64 ((rd_T74 l0 x8_1).f3), .int .i64 ((rd_T74 l0 x8_1).f4)]] rfl rfl (by (try simp only [List.map_toArray, List.map_cons, List.map_nil]); first | done | rfl | (simp only [List.length_drop, List.length_take]; rfl)) ?_; (with_reducible refine (payment_Start_1.calls ((rd_T74 l0 x8_1).f0) ((rd_T74 l0 x8_1).f1) ((rd_T74 l0 x8_1).f2) ((rd_T74 l0 x8_1).f3) ((rd_T74 l0 x8_1).f4) true _ A6.out).mono ?_); rintro e w8 ⟨rfl, hb⟩; refine ⟨_, rfl, ?_⟩; have n0_ := Aside0.mk (below_step (belN HB) hb); clear HB; have HB := n0_; clear n0_; (try clear hb); (try clear hb2); (try clear hk); (try clear hi)))
              go_ret
              exact ⟨by first | rfl | (simp [errW_none, errW_some] <;> rfl) | (simp [*, errW_none, errW_some] <;> rfl), by repeat (first | (with_reducible first | exact HB.out | apply below_alloc | apply pw_below_drewN | apply below_drew1) | exact HB.out)⟩
            · replace c7 := Bool.eq_false_iff.mpr c7
              subst c7
              have H1 : (slices_IndexFunc_Payment_at_payment_Start_1.l0 k1 l0 (l0.length : Int) (wrap64 (x8_1 + 1))) = some r := by rw [if_neg (show ¬ (false = true) by decide)] at H; exact H
              clear H
              have H := H1
              clear H1
              have H' := Aside0.mk H
              clear H
              have p247 : 0 ≤ (x8_1 : Int) := of_decide_eq_true (by first | (with_reducible assumption) | assumption)
              have q247 : x8_1 < (l0.length : Int) := of_decide_eq_true (by first | (with_reducible assumption) | assumption)
              obtain ⟨ad247, e247, hx247_0, hx247_1, hx247_2, hx247_3, hx247_4⟩ := at_T74 HR0.out x8_1 p247 q247
              cases e247
              replace hx247_0 := (HB.out.cell (World.block_lt_of_cell? w _ hx247_0)).trans hx247_0
              replace hx247_1 := (HB.out.cell (World.block_lt_of_cell? w _ hx247_1)).trans hx247_1
              replace hx247_2 := (HB.out.cell (World.block_lt_of_cell? w _ hx247_2)).trans hx247_2
              replace hx247_3 := (HB.out.cell (World.block_lt_of_cell? w _ hx247_3)).trans hx247_3
              replace hx247_4 := (HB.out.cell (World.block_lt_of_cell? w _ hx247_4)).trans hx247_4
              replace p247 := eq_true p247
              replace q247 := eq_true q247
              go_wp2_with (first | ((with_reducible refine gate_tmp (t_ := 11) rfl ?_); refine goesT_ (some 16) rfl rfl Try.func119 (by kernel_rfl) rfl #[.agg #[.int .u64 ((rd_T74 l0 x8_1).f0), .int .u64 ((rd_T74 l0 x8_1).f1), .int .u64 ((rd_T74 l0 x8_1).f2), .int .u64 ((rd_T74 l0 x8_1).f3), .int .i64 ((rd_T74 l0 x8_1).f4)]] rfl rfl (by (try simp only [List.map_toArray, List.map_cons, List.map_nil]); first | done | rfl | (simp only [List.length_drop, List.length_take]; rfl)) ?_; (with_reducible refine (payment_Start_1.calls ((rd_T74 l0 x8_1).f0) ((rd_T74 l0 x8_1).f1) ((rd_T74 l0 x8_1).f2) ((rd_T74 l0 x8_1).f3) ((rd_T74 l0 x8_1).f4) false _ A6.out).mono ?_); rintro e w9 ⟨rfl, hb⟩; refine ⟨_, rfl, ?_⟩; have n0_ := Aside0.mk (below_step (belN HB) hb); clear HB; have HB := n0_; clear n0_; (try clear hb); (try clear hb2); (try clear hk); (try clear hi)))
              go_roundg k1
              case measure => have := HK1.out; omega
              case rel => exact ⟨(wrap64 (x8_1 + 1)), (by first | rfl | (simp; done) | (simp [*]; done)), H', ⟨by have := HK1.out; omega⟩, ⟨by repeat (first | (with_reducible first | exact HB.out | apply below_alloc | apply pw_below_drewN | apply below_drew1) | exact HB.out)⟩⟩
          · rw [if_neg c5] at H
            exact absurd H (by simp)
        · rw [if_neg c4] at H
          exact absurd H (by simp)
      · rw [if_neg c3] at H
        have c3b0 : decide (x8_1 < (l0.length : Int)) = false := decide_eq_false c3
        clear c3
        obtain rfl := Option.some.inj H
        go_wp2
        go_ret
        exact ⟨by first | rfl | (simp [errW_none, errW_some] <;> rfl) | (simp [*, errW_none, errW_some] <;> rfl), by repeat (first | (with_reducible first | exact HB.out | apply below_alloc | apply pw_below_drewN | apply below_drew1) | exact HB.out)⟩

/-! ### payment_Start: function 71 -/
def payment_Start.j0 : Nat → List (S74) → Int → Int → Bool → Int → Int → Int → Int → Int → Option ((List (S74)) × Int)
 | 0, _, _, _, _, _, _, _, _, _ => none
 | k + 1, x0, x6, x7, x16, x250000, x250001, x250002, x250003, x250004 => if x16 = true then (some (([] : List (S74)), 1)) else (if x7 = 0 then (some (([] : List (S74)), 6)) else ((slices_Clone_Payment.f x0).bind fun t253 => (if (t253.length : Int) = 256 then ((slices_IndexFunc_Payment_at_payment_Start_1.f k t253).bind fun t256 => (if t256 < 0 then (some (([] : List (S74)), 7)) else ((slices_Delete_Payment.f t253 t256 (wrap64 (t256 + 1))).bind fun t257 => (if t256 < x6 then ((slices_Insert_Payment.f t257 (wrap64 (x6 - 1)) (([(⟨x250000, x250001, x250002, x250003, x250004⟩ : S74)] : List (S74)))).bind fun t263 => (some (t263, 0))) else ((slices_Insert_Payment.f t257 x6 (([(⟨x250000, x250001, x250002, x250003, x250004⟩ : S74)] : List (S74)))).bind fun t269 => (some (t269, 0))))))) else ((slices_Insert_Payment.f t253 x6 (([(⟨x250000, x250001, x250002, x250003, x250004⟩ : S74)] : List (S74)))).bind fun t275 => (some (t275, 0))))))
def payment_Start.f (k : Nat) (l0 : List (S74)) (a1_0 : Int) (a1_1 : Int) (a1_2 : Int) (a1_3 : Int) (a1_4 : Int) : Option ((List (S74)) × Int) := (payment_find.f k l0 a1_0).bind fun bt250 => (if bt250.2 = 1 then (payment_Start.j0 k l0 bt250.1 bt250.2 true a1_0 a1_1 a1_2 a1_3 a1_4) else ((payment_may.f k a1_0 a1_1 a1_2 a1_3 a1_4).bind fun t252 => (if t252 = true then (payment_Start.j0 k l0 bt250.1 bt250.2 (a1_4 != 1) a1_0 a1_1 a1_2 a1_3 a1_4) else (payment_Start.j0 k l0 bt250.1 bt250.2 true a1_0 a1_1 a1_2 a1_3 a1_4))))
theorem payment_Start.mono_l : ∀ k, (∀ y0 y1 y2 y3 y4 y5 y6 y7 y8, LeO (payment_Start.j0 k y0 y1 y2 y3 y4 y5 y6 y7 y8) (payment_Start.j0 (k + 1) y0 y1 y2 y3 y4 y5 y6 y7 y8))
 | 0 => fun _ _ _ _ _ _ _ _ _ r h => by simp [payment_Start.j0] at h
 | k + 1 => by
  have ih0 := payment_Start.mono_l k
  ·intro y0 y1 y2 y3 y4 y5 y6 y7 y8
   unfold payment_Start.j0
   repeat' first
   | (with_reducible exact ih0 _ _ _ _ _ _ _ _ _)
   | (with_reducible exact payment_find.mono _ _ _)
   | (with_reducible exact payment_may.mono _ _ _ _ _ _)
   | (with_reducible exact slices_IndexFunc_Payment_at_payment_Start_1.mono _ _)
   | (with_reducible exact LeO.refl _)
   | (with_reducible exact LeO.none _)
   | (with_reducible refine LeO.ite ?_ ?_)
   | (with_reducible refine LeO.bind ?_ (fun _ => ?_))
   | exact ih0 _ _ _ _ _ _ _ _ _
   | exact payment_find.mono _ _ _
   | exact payment_may.mono _ _ _ _ _ _
   | exact slices_IndexFunc_Payment_at_payment_Start_1.mono _ _
   | exact LeO.none _
   | refine LeO.ite ?_ ?_
   | refine LeO.bind ?_ (fun _ => ?_)
theorem payment_Start.mono : ∀ a0 a1 a2 a3 a4 a5 k, LeO (payment_Start.f k a0 a1 a2 a3 a4 a5) (payment_Start.f (k + 1) a0 a1 a2 a3 a4 a5) := by
 intro a0 a1 a2 a3 a4 a5 k
 have ih0 := payment_Start.mono_l k
 unfold payment_Start.f
 repeat' first
   | (with_reducible exact ih0 _ _ _ _ _ _ _ _ _)
   | (with_reducible exact payment_find.mono _ _ _)
   | (with_reducible exact payment_may.mono _ _ _ _ _ _)
   | (with_reducible exact slices_IndexFunc_Payment_at_payment_Start_1.mono _ _)
   | (with_reducible exact LeO.refl _)
   | (with_reducible exact LeO.none _)
   | (with_reducible refine LeO.ite ?_ ?_)
   | (with_reducible refine LeO.bind ?_ (fun _ => ?_))
   | exact ih0 _ _ _ _ _ _ _ _ _
   | exact payment_find.mono _ _ _
   | exact payment_may.mono _ _ _ _ _ _
   | exact slices_IndexFunc_Payment_at_payment_Start_1.mono _ _
   | exact LeO.none _
   | refine LeO.ite ?_ ?_
   | refine LeO.bind ?_ (fun _ => ?_)
set_option maxHeartbeats 8000000 in
set_option maxRecDepth 100000 in
theorem payment_Start.calls (k : Nat) (A0 : Option Addr) (c0 : Nat) (l0 : List (S74)) (a1_0 : Int) (a1_1 : Int) (a1_2 : Int) (a1_3 : Int) (a1_4 : Int) (r1 : List (S74)) (r2 : Int) (w : World) (hr0 : Kd.C k74 w A0 l0.length l0) (hc0 : l0.length ≤ c0) (h : payment_Start.f k l0 a1_0 a1_1 a1_2 a1_3 a1_4 = some (r1, r2)) :
  Calls Try.prog 71 #[.slice A0 l0.length c0, .agg #[.int .u64 a1_0, .int .u64 a1_1, .int .u64 a1_2, .int .u64 a1_3, .int .i64 a1_4]] w fun e w' => ∃ v0_ : Value, e = .returned (.tuple #[v0_, .int .i64 r2]) ∧ Kd.R k74 74 w' w.heap.size (fun _ => True) v0_ r1 ∧ Below w.heap.size w w' := by
 have hu74 := Try.underlying74
 have HR0 := Aside0.mk hr0
 have HC0 := Aside0.mk hc0
 clear hr0 hc0
 have HB := Aside0.mk (Below.refl w.heap.size w)
 have H : ((payment_find.f k l0 a1_0).bind fun bt250 => (if bt250.2 = 1 then (payment_Start.j0 k l0 bt250.1 bt250.2 true a1_0 a1_1 a1_2 a1_3 a1_4) else ((payment_may.f k a1_0 a1_1 a1_2 a1_3 a1_4).bind fun t252 => (if t252 = true then (payment_Start.j0 k l0 bt250.1 bt250.2 (a1_4 != 1) a1_0 a1_1 a1_2 a1_3 a1_4) else (payment_Start.j0 k l0 bt250.1 bt250.2 true a1_0 a1_1 a1_2 a1_3 a1_4))))) = some (r1, r2) := h
 clear h
 replace H := Option.bind_eq_some_iff.mp H
 obtain ⟨⟨t250, t251⟩, A30, H⟩ := H
 replace H : (if t251 = 1 then (payment_Start.j0 k l0 t250 t251 true a1_0 a1_1 a1_2 a1_3 a1_4) else ((payment_may.f k a1_0 a1_1 a1_2 a1_3 a1_4).bind fun t252 => (if t252 = true then (payment_Start.j0 k l0 t250 t251 (a1_4 != 1) a1_0 a1_1 a1_2 a1_3 a1_4) else (payment_Start.j0 k l0 t250 t251 true a1_0 a1_1 a1_2 a1_3 a1_4)))) = some (r1, r2) := H
 have A3 := Aside0.mk A30
 clear A30
 have HC4 := Aside0.mk H
 clear H
 go_enter Try.func71, Try.ntmps71
 go_upto_region 2 with (first | ((with_reducible refine gate_dst (N := 3) rfl ?_); refine box_event ?hg (N := 3) ?hd (cs := #[.int .u64 a1_0, .int .u64 a1_1, .int .u64 a1_2, .int .u64 a1_3, .int .i64 a1_4]) (t := 74) ?hr ?_; (case hd => rfl); (case hg => rfl); (case hr => first | (go_simp; done) | (go_simp; rfl)); intro gb249 hg w5 hbox hb; have n0_ := Aside0.mk (below_step (belN HB) hb); have n1_ := Aside0.mk (hbox); have n2_ := Aside0.mk ((by rw [hg]; exact (below_size (belN HB)) : w.heap.size ≤ gb249)); have n3_ := Aside0.mk ((by rw [hg]; exact (below_size (belN HB)) : w.heap.size ≤ gb249)); clear HB; have HB := n0_; have BK249 := n1_; have GW249 := n2_; have GE249 := n3_; clear n0_ n1_ n2_ n3_; clear hb hbox hg; obtain ⟨hcz6_0, hcz6_1, hcz6_2, hcz6_3, hcz6_4, hfz6_0, hfz6_1, hfz6_2, hfz6_3, hfz6_4⟩ := cz5_ (w := w5) BK249.out) | ((with_reducible refine gate_callee (f := 115) rfl ?_); refine goesL_ (some 13) rfl rfl Try.func115 (by kernel_rfl) rfl #[.slice A0 l0.length c0, .int .u64 a1_0] rfl (by (try simp only [List.map_toArray, List.map_cons, List.map_nil]); first | done | rfl | (simp only [List.length_drop, List.length_take]; rfl)) ?_; (with_reducible refine (payment_find.calls k _ _ l0 a1_0 t250 t251 _ ?side1 ?side2 A3.out).mono ?_); (case side1 => repeat (first | exact (Kd.C_below HR0.out HB.out) | (with_reducible refine Kd.C_alloc ?_ _) | (with_reducible refine Kd.C_drewN ?_ _) | (with_reducible refine Kd.C_drew ?_))); (case side2 => exact HC0.out); rintro e w7 ⟨rfl, hb⟩; refine ⟨_, rfl, ?_⟩; have n0_ := Aside0.mk (blk_below (g := gb249) (blkN BK249) hb); have n1_ := Aside0.mk (below_step (belN HB) hb); clear BK249; clear HB; have BK249 := n0_; have HB := n1_; clear n0_ n1_; (try clear hb); (try clear hb2); (try clear hk); (try clear hi)))
 (try simp only [Act.put, List.setIfInBounds_toArray, List.set_cons_zero, List.set_cons_succ])
 go_cut [16] (fun v16 wc => ∃ (kq : Nat) (x16_3 : Bool), v16 = .bool x16_3 ∧ Aside0 (payment_Start.j0 kq l0 t250 t251 x16_3 a1_0 a1_1 a1_2 a1_3 a1_4 = some (r1, r2)) ∧ Aside0 (kq ≤ k) ∧ Aside0 (wc.heap[gb249]? = some (.cells #[.int .u64 a1_0, .int .u64 a1_1, .int .u64 a1_2, .int .u64 a1_3, .int .i64 a1_4] 74 (0, 0))) ∧ Aside0 (Below w.heap.size w wc))
 case first =>
  have H := HC4.out
  clear HC4
  by_cases c8 : t251 = 1
  ·rw [if_pos c8] at H
   have c8b0 : (t251 == 1) = true := beq_iff_eq.mpr c8
   have c8b1 : (t251 != 1) = false := bne_eq_false_iff_eq.mpr c8
   clear c8
   (first | rw [c8b0] | (simp only [i64_w, i32_w]; rw [c8b0]) | skip)
   have H' := Aside0.mk H
   clear H
   go_wp2
   go_meet
   case rel => exact ⟨_, (true), (by first | rfl | (simp; done) | (simp [*]; done)), H', ⟨by first | omega | exact Nat.le_refl _⟩, ⟨by (with_reducible repeat (first | refine blk_drewN ?_ _ | refine blk_drew ?_ | refine blk_alloc ?_ _)); exact BK249.out⟩, ⟨by repeat (first | (with_reducible first | exact HB.out | apply below_alloc | apply pw_below_drewN | apply below_drew1 | refine below_set ?_ GE249.out) | exact HB.out)⟩⟩
  ·rw [if_neg c8] at H
   have c8b0 : (t251 == 1) = false := beq_eq_false_iff_ne.mpr c8
   have c8b1 : (t251 != 1) = true := bne_iff_ne.mpr c8
   (first | rw [c8b0] | (simp only [i64_w, i32_w]; rw [c8b0]) | skip)
   replace H := Option.bind_eq_some_iff.mp H
   obtain ⟨t252, A90, H⟩ := H
   replace H : (if t252 = true then (payment_Start.j0 k l0 t250 t251 (a1_4 != 1) a1_0 a1_1 a1_2 a1_3 a1_4) else (payment_Start.j0 k l0 t250 t251 true a1_0 a1_1 a1_2 a1_3 a1_4)) = some (r1, r2) := H
   have A9 := Aside0.mk A90
   clear A90
   by_cases c10 : t252 = true
   ·subst c10
    have H1 : (payment_Start.j0 k l0 t250 t251 (a1_4 != 1) a1_0 a1_1 a1_2 a1_3 a1_4) = some (r1, r2) := by rw [if_pos rfl] at H; exact H
    clear H
    have H := H1
    clear H1
    have H' := Aside0.mk H
    clear H
    obtain ⟨hcz11_0, hcz11_1, hcz11_2, hcz11_3, hcz11_4, hfz11_0, hfz11_1, hfz11_2, hfz11_3, hfz11_4⟩ := cz5_ (w := w7) BK249.out
    go_wp2_with (first | (go_at_call 116; (with_reducible refine (payment_may.calls k a1_0 a1_1 a1_2 a1_3 a1_4 true _ A9.out).mono ?_); rintro e w12 ⟨rfl, hb⟩; have n0_ := Aside0.mk (blk_below (g := gb249) (blkN BK249) hb); have n1_ := Aside0.mk (below_step (belN HB) hb); clear BK249; clear HB; have BK249 := n0_; have HB := n1_; clear n0_ n1_; (try clear hb); (try clear hb2); (try clear hk); (try clear hi); obtain ⟨hcz13_0, hcz13_1, hcz13_2, hcz13_3, hcz13_4, hfz13_0, hfz13_1, hfz13_2, hfz13_3, hfz13_4⟩ := cz5_ (w := w12) BK249.out))
    go_meet
    case rel => exact ⟨_, ((a1_4 != 1)), (by first | rfl | (simp; done) | (simp [*]; done)), H', ⟨by first | omega | exact Nat.le_refl _⟩, ⟨by (with_reducible repeat (first | refine blk_drewN ?_ _ | refine blk_drew ?_ | refine blk_alloc ?_ _)); exact BK249.out⟩, ⟨by repeat (first | (with_reducible first | exact HB.out | apply below_alloc | apply pw_below_drewN | apply below_drew1 | refine below_set ?_ GE249.out) | exact HB.out)⟩⟩
   ·replace c10 := Bool.eq_false_iff.mpr c10
    subst c10
    have H1 : (payment_Start.j0 k l0 t250 t251 true a1_0 a1_1 a1_2 a1_3 a1_4) = some (r1, r2) := by rw [if_neg (show ¬ (false = true) by decide)] at H; exact H
    clear H
    have H := H1
    clear H1
    have H' := Aside0.mk H
    clear H
    obtain ⟨hcz14_0, hcz14_1, hcz14_2, hcz14_3, hcz14_4, hfz14_0, hfz14_1, hfz14_2, hfz14_3, hfz14_4⟩ := cz5_ (w := w7) BK249.out
    go_wp2_with (first | (go_at_call 116; (with_reducible refine (payment_may.calls k a1_0 a1_1 a1_2 a1_3 a1_4 false _ A9.out).mono ?_); rintro e w15 ⟨rfl, hb⟩; have n0_ := Aside0.mk (blk_below (g := gb249) (blkN BK249) hb); have n1_ := Aside0.mk (below_step (belN HB) hb); clear BK249; clear HB; have BK249 := n0_; have HB := n1_; clear n0_ n1_; (try clear hb); (try clear hb2); (try clear hk); (try clear hi)))
    go_meet
    case rel => exact ⟨_, (true), (by first | rfl | (simp; done) | (simp [*]; done)), H', ⟨by first | omega | exact Nat.le_refl _⟩, ⟨by (with_reducible repeat (first | refine blk_drewN ?_ _ | refine blk_drew ?_ | refine blk_alloc ?_ _)); exact BK249.out⟩, ⟨by repeat (first | (with_reducible first | exact HB.out | apply below_alloc | apply pw_below_drewN | apply below_drew1 | refine below_set ?_ GE249.out) | exact HB.out)⟩⟩
 case rest =>
  clear HC4
  try clear c1
  try clear p2
  try clear c7
  try clear c8
  try clear c8b0
  try clear c8b1
  try clear c10
  try clear c11
  try clear hcz11_0
  try clear hcz11_1
  try clear hcz11_2
  try clear hcz11_3
  try clear hcz11_4
  try clear hcz13_0
  try clear hcz13_1
  try clear hcz13_2
  try clear hcz13_3
  try clear hcz13_4
  try clear hcz14_0
  try clear hcz14_1
  try clear hcz14_2
  try clear hcz14_3
  try clear hcz14_4
  try clear hcz6_0
  try clear hcz6_1
  try clear hcz6_2
  try clear hcz6_3
  try clear hcz6_4
  try clear hfz11_0
  try clear hfz11_1
  try clear hfz11_2
  try clear hfz11_3
  try clear hfz11_4
  try clear hfz13_0
  try clear hfz13_1
  try clear hfz13_2
  try clear hfz13_3
  try clear hfz13_4
  try clear hfz14_0
  try clear hfz14_1
  try clear hfz14_2
  try clear hfz14_3
  try clear hfz14_4
  try clear hfz6_0
  try clear hfz6_1
  try clear hfz6_2
  try clear hfz6_3
  try clear hfz6_4
  obtain ⟨kq, x16_3, rfl, HA, HJ3, BK249, HB⟩ := hcut
  cases kq with
  | zero => exact absurd HA.out (by simp [payment_Start.j0])
  | succ kj3 =>
   have H := HA.out
   clear HA
   simp only [payment_Start.j0] at H
   by_cases c16 : x16_3 = true
   ·subst c16
    have H1 : (some (([] : List (S74)), 1)) = some (r1, r2) := by rw [if_pos rfl] at H; exact H
    clear H
    have H := H1
    clear H1
    simp only [Option.some.injEq, Prod.mk.injEq] at H
    obtain ⟨rfl, rfl⟩ := H
    go_wp2
    go_ret2
    exact ⟨_, by first | rfl | (simp [errW_none, errW_some] <;> rfl) | (simp [*, errW_none, errW_some] <;> rfl), by first | exact Kd.R_nil _ _ _ _ _ | exact Kd.N_nil _ _ _ _ _ | exact Kd.V_nil _ _ _ _ _ | exact Kd.Q_nil _ _ _ _ _ | exact Kd.S_nil _ _ _ _ _, by repeat (first | (with_reducible first | exact HB.out | apply below_alloc | apply pw_below_drewN | apply below_drew1 | refine below_set ?_ GE249.out) | exact HB.out)⟩
   ·replace c16 := Bool.eq_false_iff.mpr c16
    subst c16
    have H1 : (if t251 = 0 then (some (([] : List (S74)), 6)) else ((slices_Clone_Payment.f l0).bind fun t253 => (if (t253.length : Int) = 256 then ((slices_IndexFunc_Payment_at_payment_Start_1.f kj3 t253).bind fun t256 => (if t256 < 0 then (some (([] : List (S74)), 7)) else ((slices_Delete_Payment.f t253 t256 (wrap64 (t256 + 1))).bind fun t257 => (if t256 < t250 then ((slices_Insert_Payment.f t257 (wrap64 (t250 - 1)) (([(⟨a1_0, a1_1, a1_2, a1_3, a1_4⟩ : S74)] : List (S74)))).bind fun t263 => (some (t263, 0))) else ((slices_Insert_Payment.f t257 t250 (([(⟨a1_0, a1_1, a1_2, a1_3, a1_4⟩ : S74)] : List (S74)))).bind fun t269 => (some (t269, 0))))))) else ((slices_Insert_Payment.f t253 t250 (([(⟨a1_0, a1_1, a1_2, a1_3, a1_4⟩ : S74)] : List (S74)))).bind fun t275 => (some (t275, 0)))))) = some (r1, r2) := by rw [if_neg (show ¬ (false = true) by decide)] at H; exact H
    clear H
    have H := H1
    clear H1
    by_cases c17 : t251 = 0
    ·rw [if_pos c17] at H
     have c17b0 : (t251 == 0) = true := beq_iff_eq.mpr c17
     have c17b1 : (t251 != 0) = false := bne_eq_false_iff_eq.mpr c17
     clear c17
     simp only [Option.some.injEq, Prod.mk.injEq] at H
     obtain ⟨rfl, rfl⟩ := H
     go_wp2
     go_ret2
     exact ⟨_, by first | rfl | (simp [errW_none, errW_some] <;> rfl) | (simp [*, errW_none, errW_some] <;> rfl), by first | exact Kd.R_nil _ _ _ _ _ | exact Kd.N_nil _ _ _ _ _ | exact Kd.V_nil _ _ _ _ _ | exact Kd.Q_nil _ _ _ _ _ | exact Kd.S_nil _ _ _ _ _, by repeat (first | (with_reducible first | exact HB.out | apply below_alloc | apply pw_below_drewN | apply below_drew1 | refine below_set ?_ GE249.out) | exact HB.out)⟩
    ·rw [if_neg c17] at H
     have c17b0 : (t251 == 0) = false := beq_eq_false_iff_ne.mpr c17
     have c17b1 : (t251 != 0) = true := bne_iff_ne.mpr c17
     replace H := Option.bind_eq_some_iff.mp H
     obtain ⟨t253, A180, H⟩ := H
     replace H : (if (t253.length : Int) = 256 then ((slices_IndexFunc_Payment_at_payment_Start_1.f kj3 t253).bind fun t256 => (if t256 < 0 then (some (([] : List (S74)), 7)) else ((slices_Delete_Payment.f t253 t256 (wrap64 (t256 + 1))).bind fun t257 => (if t256 < t250 then ((slices_Insert_Payment.f t257 (wrap64 (t250 - 1)) (([(⟨a1_0, a1_1, a1_2, a1_3, a1_4⟩ : S74)] : List (S74)))).bind fun t263 => (some (t263, 0))) else ((slices_Insert_Payment.f t257 t250 (([(⟨a1_0, a1_1, a1_2, a1_3, a1_4⟩ : S74)] : List (S74)))).bind fun t269 => (some (t269, 0))))))) else ((slices_Insert_Payment.f t253 t250 (([(⟨a1_0, a1_1, a1_2, a1_3, a1_4⟩ : S74)] : List (S74)))).bind fun t275 => (some (t275, 0)))) = some (r1, r2) := H
     have A18 := Aside0.mk A180
     clear A180
     by_cases c19 : (t253.length : Int) = 256
     ·rw [if_pos c19] at H
      have c19b0 : ((t253.length : Int) == 256) = true := beq_iff_eq.mpr c19
      have c19b1 : ((t253.length : Int) != 256) = false := bne_eq_false_iff_eq.mpr c19
      clear c19
      replace H := Option.bind_eq_some_iff.mp H
      obtain ⟨t256, A200, H⟩ := H
      replace H : (if t256 < 0 then (some (([] : List (S74)), 7)) else ((slices_Delete_Payment.f t253 t256 (wrap64 (t256 + 1))).bind fun t257 => (if t256 < t250 then ((slices_Insert_Payment.f t257 (wrap64 (t250 - 1)) (([(⟨a1_0, a1_1, a1_2, a1_3, a1_4⟩ : S74)] : List (S74)))).bind fun t263 => (some (t263, 0))) else ((slices_Insert_Payment.f t257 t250 (([(⟨a1_0, a1_1, a1_2, a1_3, a1_4⟩ : S74)] : List (S74)))).bind fun t269 => (some (t269, 0)))))) = some (r1, r2) := H
      have A20 := Aside0.mk A200
      clear A200
      by_cases c21 : t256 < 0
      ·rw [if_pos c21] at H
       have c21b0 : decide (t256 < 0) = true := decide_eq_true c21
       clear c21
       simp only [Option.some.injEq, Prod.mk.injEq] at H
       obtain ⟨rfl, rfl⟩ := H
       go_wp2_with (first | ((with_reducible refine gate_callee (f := 117) rfl ?_); refine goesL_ (some 33) rfl rfl Try.func117 (by kernel_rfl) rfl #[.slice A0 l0.length c0] rfl (by (try simp only [List.map_toArray, List.map_cons, List.map_nil]); first | done | rfl | (simp only [List.length_drop, List.length_take]; rfl)) ?_; (with_reducible refine (slices_Clone_Payment.calls _ _ l0 t253 _ ?side1 ?side2 A18.out).mono ?_); (case side1 => repeat (first | exact (Kd.C_below HR0.out HB.out) | (with_reducible refine Kd.C_alloc ?_ _) | (with_reducible refine Kd.C_drewN ?_ _) | (with_reducible refine Kd.C_drew ?_))); (case side2 => exact HC0.out); rintro e w22 ⟨v254, rfl, ho0, hb⟩; refine ⟨_, rfl, ?_⟩; have n0_ := Aside0.mk (Kd.R_lower (Kd.R_newB ho0 (g := gb249) (blkN BK249)) (below_size (belN HB))); have n1_ := Aside0.mk (blk_below (g := gb249) (blkN BK249) hb); have n2_ := Aside0.mk (below_step (belN HB) hb); clear BK249; clear HB; have HO255 := n0_; have BK249 := n1_; have HB := n2_; clear n0_ n1_ n2_; (try clear hb); (try clear hb2); (try clear hk); (try clear hi); (try clear ho0); obtain ⟨Ao23, co23, eo23⟩ := Kd.R_slice HO255.out; subst eo23) | ((with_reducible refine gate_callee (f := 118) rfl ?_); refine goesL_ (some 38) rfl rfl Try.func118 (by kernel_rfl) rfl #[.slice Ao23 t253.length co23, .func (.func 119) #[] #[]] rfl (by (try simp only [List.map_toArray, List.map_cons, List.map_nil]); first | done | rfl | (simp only [List.length_drop, List.length_take]; rfl)) ?_; (with_reducible refine (slices_IndexFunc_Payment_at_payment_Start_1.calls kj3 _ _ t253  t256 _ ?side1 ?side2 A20.out).mono ?_); (case side1 => exact Kd.CN (Kd.R_reads' HO255.out).2.2); (case side2 => exact (Kd.R_reads' HO255.out).2.1); rintro e w24 ⟨rfl, hb⟩; refine ⟨_, rfl, ?_⟩; have n0_ := Aside0.mk (Kd.R_below (Kd.RN HO255) hb); have n1_ := Aside0.mk (blk_below (g := gb249) (blkN BK249) hb); have n2_ := Aside0.mk (below_step (belN HB) hb); clear HO255; clear BK249; clear HB; have HO255 := n0_; have BK249 := n1_; have HB := n2_; clear n0_ n1_ n2_; (try clear hb); (try clear hb2); (try clear hk); (try clear hi)))
       go_ret2
       exact ⟨_, by first | rfl | (simp [errW_none, errW_some] <;> rfl) | (simp [*, errW_none, errW_some] <;> rfl), by first | exact Kd.R_nil _ _ _ _ _ | exact Kd.N_nil _ _ _ _ _ | exact Kd.V_nil _ _ _ _ _ | exact Kd.Q_nil _ _ _ _ _ | exact Kd.S_nil _ _ _ _ _, by repeat (first | (with_reducible first | exact HB.out | apply below_alloc | apply pw_below_drewN | apply below_drew1 | refine below_set ?_ GE249.out) | exact HB.out)⟩
      ·rw [if_neg c21] at H
       have c21b0 : decide (t256 < 0) = false := decide_eq_false c21
       clear c21
       replace H := Option.bind_eq_some_iff.mp H
       obtain ⟨t257, A250, H⟩ := H
       replace H : (if t256 < t250 then ((slices_Insert_Payment.f t257 (wrap64 (t250 - 1)) (([(⟨a1_0, a1_1, a1_2, a1_3, a1_4⟩ : S74)] : List (S74)))).bind fun t263 => (some (t263, 0))) else ((slices_Insert_Payment.f t257 t250 (([(⟨a1_0, a1_1, a1_2, a1_3, a1_4⟩ : S74)] : List (S74)))).bind fun t269 => (some (t269, 0)))) = some (r1, r2) := H
       have A25 := Aside0.mk A250
       clear A250
       by_cases c26 : t256 < t250
       ·rw [if_pos c26] at H
        have c26b0 : decide (t256 < t250) = true := decide_eq_true c26
        clear c26
        obtain ⟨y260, hy260⟩ : ∃ y_ : List (S74), y_ = (([(⟨a1_0, a1_1, a1_2, a1_3, a1_4⟩ : S74)] : List (S74))) := ⟨_, rfl⟩
        replace H : ((slices_Insert_Payment.f t257 (wrap64 (t250 - 1)) y260).bind fun t263 => (some (t263, 0))) = some (r1, r2) := by first | (rw [hy260]; with_reducible exact H) | (have H2_ := (Option.bind_some _ _).symm.trans H; rw [hy260]; with_reducible exact H2_) | (have H2_ := (Option.bind_some _ _).symm.trans H; with_reducible exact H2_) | with_reducible exact H | (rw [hy260]; exact H) | exact H
        have Ny260 := Aside0.mk hy260
        clear hy260
        replace H := Option.bind_eq_some_iff.mp H
        obtain ⟨t263, A270, H⟩ := H
        replace H : (some (t263, 0)) = some (r1, r2) := H
        have A27 := Aside0.mk A270
        clear A270
        simp only [Option.some.injEq, Prod.mk.injEq] at H
        obtain ⟨rfl, rfl⟩ := H
        go_wp2_with (first | ((with_reducible refine gate_callee (f := 117) rfl ?_); refine goesL_ (some 33) rfl rfl Try.func117 (by kernel_rfl) rfl #[.slice A0 l0.length c0] rfl (by (try simp only [List.map_toArray, List.map_cons, List.map_nil]); first | done | rfl | (simp only [List.length_drop, List.length_take]; rfl)) ?_; (with_reducible refine (slices_Clone_Payment.calls _ _ l0 t253 _ ?side1 ?side2 A18.out).mono ?_); (case side1 => repeat (first | exact (Kd.C_below HR0.out HB.out) | (with_reducible refine Kd.C_alloc ?_ _) | (with_reducible refine Kd.C_drewN ?_ _) | (with_reducible refine Kd.C_drew ?_))); (case side2 => exact HC0.out); rintro e w28 ⟨v254, rfl, ho0, hb⟩; refine ⟨_, rfl, ?_⟩; have n0_ := Aside0.mk (Kd.R_lower (Kd.R_newB ho0 (g := gb249) (blkN BK249)) (below_size (belN HB))); have n1_ := Aside0.mk (blk_below (g := gb249) (blkN BK249) hb); have n2_ := Aside0.mk (below_step (belN HB) hb); clear BK249; clear HB; have HO255 := n0_; have BK249 := n1_; have HB := n2_; clear n0_ n1_ n2_; (try clear hb); (try clear hb2); (try clear hk); (try clear hi); (try clear ho0); obtain ⟨Ao29, co29, eo29⟩ := Kd.R_slice HO255.out; subst eo29) | ((with_reducible refine gate_callee (f := 118) rfl ?_); refine goesL_ (some 38) rfl rfl Try.func118 (by kernel_rfl) rfl #[.slice Ao29 t253.length co29, .func (.func 119) #[] #[]] rfl (by (try simp only [List.map_toArray, List.map_cons, List.map_nil]); first | done | rfl | (simp only [List.length_drop, List.length_take]; rfl)) ?_; (with_reducible refine (slices_IndexFunc_Payment_at_payment_Start_1.calls kj3 _ _ t253  t256 _ ?side1 ?side2 A20.out).mono ?_); (case side1 => exact Kd.CN (Kd.R_reads' HO255.out).2.2); (case side2 => exact (Kd.R_reads' HO255.out).2.1); rintro e w30 ⟨rfl, hb⟩; refine ⟨_, rfl, ?_⟩; have n0_ := Aside0.mk (Kd.R_below (Kd.RN HO255) hb); have n1_ := Aside0.mk (blk_below (g := gb249) (blkN BK249) hb); have n2_ := Aside0.mk (below_step (belN HB) hb); clear HO255; clear BK249; clear HB; have HO255 := n0_; have BK249 := n1_; have HB := n2_; clear n0_ n1_ n2_; (try clear hb); (try clear hb2); (try clear hk); (try clear hi)) | ((with_reducible refine gate_callee (f := 120) rfl ?_); refine goesL_ (some 45) rfl rfl Try.func120 (by kernel_rfl) rfl #[.slice Ao29 t253.length co29, .int .i64 t256, .int .i64 (wrap64 (t256 + 1))] rfl (by (try simp only [List.map_toArray, List.map_cons, List.map_nil]); first | done | rfl | (simp only [List.length_drop, List.length_take]; rfl)) ?_; (with_reducible refine (slices_Delete_Payment.calls (fun k_ => some k_ = (.slice Ao29 t253.length co29 : Value).ownBlock) (.slice Ao29 t253.length co29) t253 t256 (wrap64 (t256 + 1)) t257 w _ ?side1 ?side2 A25.out).mono ?_); (case side1 => repeat (first | (with_reducible first | exact HB.out | apply below_alloc | apply pw_below_drewN | apply below_drew1 | refine below_set ?_ GE249.out) | exact HB.out)); (case side2 => exact Kd.R_tight rfl HO255.out); rintro e w31 ⟨v258, rfl, ho0, hb, hkp⟩; refine ⟨_, rfl, ?_⟩; have n0_ := Aside0.mk (blk_kept (blkN BK249) hkp (fun hs_ => (fun e_ => (Kd.R_away HO255.out (fun _ hk => hk.2)) e_) hs_)); have n1_ := Aside0.mk (Kd.R_mono (ok' := fun k_ => k_ ≠ gb249) ho0 (fun k_ hk_ => Or.elim hk_ (fun hs_ => fun e_ => (Kd.R_away HO255.out (fun _ hk => hk.2)) (by rw [← e_]; exact hs_)) (fun hn_ => (Kd.freshB (g := gb249) (blkN BK249) k_ hn_)))); have n2_ := Aside0.mk (hb); clear BK249; clear HB; clear HO255; have BK249 := n0_; have HO259 := n1_; have HB := n2_; clear n0_ n1_ n2_; (try clear hb); (try clear hkp); (try clear ho0); obtain ⟨hcz32_0, hcz32_1, hcz32_2, hcz32_3, hcz32_4, hfz32_0, hfz32_1, hfz32_2, hfz32_3, hfz32_4⟩ := cz5_ (w := w31) BK249.out) | ((with_reducible refine gate_dst (N := 54) rfl ?_); refine Kd.R_lit k74 _ 74 ?hg (N := 54) ?hd (xs := ([(⟨a1_0, a1_1, a1_2, a1_3, a1_4⟩ : S74)] : List (S74))) (inner := [.int .u64 a1_0, .int .u64 a1_1, .int .u64 a1_2, .int .u64 a1_3, .int .i64 a1_4]) (ok := fun _ => True) (okp := fun _ => True) ?hr ?hp (fun _ hk => hk) trivial (Below.refl _ _) (Nat.le_refl _) (by simp) ?_; (case hd => rfl); (case hg => rfl); (case hr => first | (go_simp; done) | (go_simp; rfl)); (case hp => exact (Reps.c5 (show Kd.M k74 _ _ _ (⟨a1_0, a1_1, a1_2, a1_3, a1_4⟩ : S74) [.int .u64 a1_0, .int .u64 a1_1, .int .u64 a1_2, .int .u64 a1_3, .int .i64 a1_4] from (k74_mkM _ _ _ (⟨a1_0, a1_1, a1_2, a1_3, a1_4⟩ : S74) )) (Reps.none _ _))); intro v261 w33 ho34 hb hg_ hnew_; clear hg_ hnew_; (first | rw [← Ny260.out] at ho34 | (simp only [Int.reduceToNat] at ho34; rw [← Ny260.out] at ho34)); have n0_ := Aside0.mk (Kd.R_elder' (Kd.RN HO259) (Kd.R_base ho34) hb); have n1_ := Aside0.mk (Kd.R_lower (Kd.R_newB (Kd.R_new' ho34 (Kd.R_lt (Kd.RN HO259))) (g := gb249) (blkN BK249)) (below_size (belN HB))); have n2_ := Aside0.mk (blk_below (g := gb249) (blkN BK249) hb); have n3_ := Aside0.mk (below_step (belN HB) hb); clear HO259; clear BK249; clear HB; have HO259 := n0_; have HO262 := n1_; have BK249 := n2_; have HB := n3_; clear n0_ n1_ n2_ n3_; clear hb ho34; obtain ⟨Ao35, co35, eo35⟩ := Kd.R_slice HO259.out; subst eo35; obtain ⟨Ao36, co36, eo36⟩ := Kd.R_slice HO262.out; subst eo36) | ((with_reducible refine gate_callee (f := 121) rfl ?_); refine goesL_ (some 55) rfl rfl Try.func121 (by kernel_rfl) rfl #[.slice Ao35 t257.length co35, .int .i64 (wrap64 (t250 - 1)), .slice Ao36 y260.length co36] rfl (by (try simp only [List.map_toArray, List.map_cons, List.map_nil]); first | done | rfl | (simp only [List.length_drop, List.length_take]; rfl)) ?_; (with_reducible refine (slices_Insert_Payment.calls (fun k_ => some k_ = (.slice Ao35 t257.length co35 : Value).ownBlock) (.slice Ao35 t257.length co35) t257 (wrap64 (t250 - 1)) (fun k_ => some k_ = (.slice Ao36 y260.length co36 : Value).ownBlock) (.slice Ao36 y260.length co36) y260 t263 w _ ?side1 ?side2 ?side3 ?side4 ?side5 A27.out).mono ?_); (case side1 => repeat (first | (with_reducible first | exact HB.out | apply below_alloc | apply pw_below_drewN | apply below_drew1 | refine below_set ?_ GE249.out) | exact HB.out)); (case side2 => exact Kd.R_tight rfl HO259.out); (case side3 => exact fun k_ e_ => (HO259.out.1 k_ e_.symm).2); (case side4 => exact Kd.R_tight rfl HO262.out); (case side5 => exact fun k_ e_ => (HO262.out.1 k_ e_.symm).1.2); rintro e w37 ⟨v264, rfl, ho0, hb, hkp⟩; refine ⟨_, rfl, ?_⟩; have n0_ := Aside0.mk (blk_kept (blkN BK249) hkp (fun hs_ => Or.elim hs_ (fun e_ => (fun e_ => (Kd.R_away HO259.out (fun _ hk => hk.1)) e_) e_) (fun e_ => (fun e_ => (Kd.R_away HO262.out (fun _ hk => hk.2)) e_) e_))); have n1_ := Aside0.mk (Kd.R_mono (ok' := fun k_ => k_ ≠ gb249) ho0 (fun k_ hk_ => Or.elim hk_ (fun hs_ => Or.elim hs_ (fun hs_ => fun e_ => (Kd.R_away HO259.out (fun _ hk => hk.1)) (by rw [← e_]; exact hs_)) (fun hs_ => fun e_ => (Kd.R_away HO262.out (fun _ hk => hk.2)) (by rw [← e_]; exact hs_))) (fun hn_ => (Kd.freshB (g := gb249) (blkN BK249) k_ hn_)))); have n2_ := Aside0.mk (hb); clear BK249; clear HB; clear HO259; clear HO262; have BK249 := n0_; have HO265 := n1_; have HB := n2_; clear n0_ n1_ n2_; (try clear hb); (try clear hkp); (try clear ho0)))
        go_ret2
        exact ⟨_, by first | rfl | (simp [errW_none, errW_some] <;> rfl) | (simp [*, errW_none, errW_some] <;> rfl), by (with_reducible repeat (first | apply Kd.R_alloc | apply Kd.R_drewN | apply Kd.R_drew)); exact Kd.R_mono HO265.out (fun _ hk => trivial), by repeat (first | (with_reducible first | exact HB.out | apply below_alloc | apply pw_below_drewN | apply below_drew1 | refine below_set ?_ GE249.out) | exact HB.out)⟩
       ·rw [if_neg c26] at H
        have c26b0 : decide (t256 < t250) = false := decide_eq_false c26
        clear c26
        obtain ⟨y266, hy266⟩ : ∃ y_ : List (S74), y_ = (([(⟨a1_0, a1_1, a1_2, a1_3, a1_4⟩ : S74)] : List (S74))) := ⟨_, rfl⟩
        replace H : ((slices_Insert_Payment.f t257 t250 y266).bind fun t269 => (some (t269, 0))) = some (r1, r2) := by first | (rw [hy266]; with_reducible exact H) | (have H2_ := (Option.bind_some _ _).symm.trans H; rw [hy266]; with_reducible exact H2_) | (have H2_ := (Option.bind_some _ _).symm.trans H; with_reducible exact H2_) | with_reducible exact H | (rw [hy266]; exact H) | exact H
        have Ny266 := Aside0.mk hy266
        clear hy266
        replace H := Option.bind_eq_some_iff.mp H
        obtain ⟨t269, A380, H⟩ := H
        replace H : (some (t269, 0)) = some (r1, r2) := H
        have A38 := Aside0.mk A380
        clear A380
        simp only [Option.some.injEq, Prod.mk.injEq] at H
        obtain ⟨rfl, rfl⟩ := H
        go_wp2_with (first | ((with_reducible refine gate_callee (f := 117) rfl ?_); refine goesL_ (some 33) rfl rfl Try.func117 (by kernel_rfl) rfl #[.slice A0 l0.length c0] rfl (by (try simp only [List.map_toArray, List.map_cons, List.map_nil]); first | done | rfl | (simp only [List.length_drop, List.length_take]; rfl)) ?_; (with_reducible refine (slices_Clone_Payment.calls _ _ l0 t253 _ ?side1 ?side2 A18.out).mono ?_); (case side1 => repeat (first | exact (Kd.C_below HR0.out HB.out) | (with_reducible refine Kd.C_alloc ?_ _) | (with_reducible refine Kd.C_drewN ?_ _) | (with_reducible refine Kd.C_drew ?_))); (case side2 => exact HC0.out); rintro e w39 ⟨v254, rfl, ho0, hb⟩; refine ⟨_, rfl, ?_⟩; have n0_ := Aside0.mk (Kd.R_lower (Kd.R_newB ho0 (g := gb249) (blkN BK249)) (below_size (belN HB))); have n1_ := Aside0.mk (blk_below (g := gb249) (blkN BK249) hb); have n2_ := Aside0.mk (below_step (belN HB) hb); clear BK249; clear HB; have HO255 := n0_; have BK249 := n1_; have HB := n2_; clear n0_ n1_ n2_; (try clear hb); (try clear hb2); (try clear hk); (try clear hi); (try clear ho0); obtain ⟨Ao40, co40, eo40⟩ := Kd.R_slice HO255.out; subst eo40) | ((with_reducible refine gate_callee (f := 118) rfl ?_); refine goesL_ (some 38) rfl rfl Try.func118 (by kernel_rfl) rfl #[.slice Ao40 t253.length co40, .func (.func 119) #[] #[]] rfl (by (try simp only [List.map_toArray, List.map_cons, List.map_nil]); first | done | rfl | (simp only [List.length_drop, List.length_take]; rfl)) ?_; (with_reducible refine (slices_IndexFunc_Payment_at_payment_Start_1.calls kj3 _ _ t253  t256 _ ?side1 ?side2 A20.out).mono ?_); (case side1 => exact Kd.CN (Kd.R_reads' HO255.out).2.2); (case side2 => exact (Kd.R_reads' HO255.out).2.1); rintro e w41 ⟨rfl, hb⟩; refine ⟨_, rfl, ?_⟩; have n0_ := Aside0.mk (Kd.R_below (Kd.RN HO255) hb); have n1_ := Aside0.mk (blk_below (g := gb249) (blkN BK249) hb); have n2_ := Aside0.mk (below_step (belN HB) hb); clear HO255; clear BK249; clear HB; have HO255 := n0_; have BK249 := n1_; have HB := n2_; clear n0_ n1_ n2_; (try clear hb); (try clear hb2); (try clear hk); (try clear hi)) | ((with_reducible refine gate_callee (f := 120) rfl ?_); refine goesL_ (some 45) rfl rfl Try.func120 (by kernel_rfl) rfl #[.slice Ao40 t253.length co40, .int .i64 t256, .int .i64 (wrap64 (t256 + 1))] rfl (by (try simp only [List.map_toArray, List.map_cons, List.map_nil]); first | done | rfl | (simp only [List.length_drop, List.length_take]; rfl)) ?_; (with_reducible refine (slices_Delete_Payment.calls (fun k_ => some k_ = (.slice Ao40 t253.length co40 : Value).ownBlock) (.slice Ao40 t253.length co40) t253 t256 (wrap64 (t256 + 1)) t257 w _ ?side1 ?side2 A25.out).mono ?_); (case side1 => repeat (first | (with_reducible first | exact HB.out | apply below_alloc | apply pw_below_drewN | apply below_drew1 | refine below_set ?_ GE249.out) | exact HB.out)); (case side2 => exact Kd.R_tight rfl HO255.out); rintro e w42 ⟨v258, rfl, ho0, hb, hkp⟩; refine ⟨_, rfl, ?_⟩; have n0_ := Aside0.mk (blk_kept (blkN BK249) hkp (fun hs_ => (fun e_ => (Kd.R_away HO255.out (fun _ hk => hk.2)) e_) hs_)); have n1_ := Aside0.mk (Kd.R_mono (ok' := fun k_ => k_ ≠ gb249) ho0 (fun k_ hk_ => Or.elim hk_ (fun hs_ => fun e_ => (Kd.R_away HO255.out (fun _ hk => hk.2)) (by rw [← e_]; exact hs_)) (fun hn_ => (Kd.freshB (g := gb249) (blkN BK249) k_ hn_)))); have n2_ := Aside0.mk (hb); clear BK249; clear HB; clear HO255; have BK249 := n0_; have HO259 := n1_; have HB := n2_; clear n0_ n1_ n2_; (try clear hb); (try clear hkp); (try clear ho0); obtain ⟨hcz43_0, hcz43_1, hcz43_2, hcz43_3, hcz43_4, hfz43_0, hfz43_1, hfz43_2, hfz43_3, hfz43_4⟩ := cz5_ (w := w42) BK249.out) | ((with_reducible refine gate_dst (N := 54) rfl ?_); refine Kd.R_lit k74 _ 74 ?hg (N := 54) ?hd (xs := ([(⟨a1_0, a1_1, a1_2, a1_3, a1_4⟩ : S74)] : List (S74))) (inner := [.int .u64 a1_0, .int .u64 a1_1, .int .u64 a1_2, .int .u64 a1_3, .int .i64 a1_4]) (ok := fun _ => True) (okp := fun _ => True) ?hr ?hp (fun _ hk => hk) trivial (Below.refl _ _) (Nat.le_refl _) (by simp) ?_; (case hd => rfl); (case hg => rfl); (case hr => first | (go_simp; done) | (go_simp; rfl)); (case hp => exact (Reps.c5 (show Kd.M k74 _ _ _ (⟨a1_0, a1_1, a1_2, a1_3, a1_4⟩ : S74) [.int .u64 a1_0, .int .u64 a1_1, .int .u64 a1_2, .int .u64 a1_3, .int .i64 a1_4] from (k74_mkM _ _ _ (⟨a1_0, a1_1, a1_2, a1_3, a1_4⟩ : S74) )) (Reps.none _ _))); intro v267 w44 ho45 hb hg_ hnew_; clear hg_ hnew_; (first | rw [← Ny266.out] at ho45 | (simp only [Int.reduceToNat] at ho45; rw [← Ny266.out] at ho45)); have n0_ := Aside0.mk (Kd.R_elder' (Kd.RN HO259) (Kd.R_base ho45) hb); have n1_ := Aside0.mk (Kd.R_lower (Kd.R_newB (Kd.R_new' ho45 (Kd.R_lt (Kd.RN HO259))) (g := gb249) (blkN BK249)) (below_size (belN HB))); have n2_ := Aside0.mk (blk_below (g := gb249) (blkN BK249) hb); have n3_ := Aside0.mk (below_step (belN HB) hb); clear HO259; clear BK249; clear HB; have HO259 := n0_; have HO268 := n1_; have BK249 := n2_; have HB := n3_; clear n0_ n1_ n2_ n3_; clear hb ho45; obtain ⟨Ao46, co46, eo46⟩ := Kd.R_slice HO259.out; subst eo46; obtain ⟨Ao47, co47, eo47⟩ := Kd.R_slice HO268.out; subst eo47) | ((with_reducible refine gate_callee (f := 121) rfl ?_); refine goesL_ (some 55) rfl rfl Try.func121 (by kernel_rfl) rfl #[.slice Ao46 t257.length co46, .int .i64 t250, .slice Ao47 y266.length co47] rfl (by (try simp only [List.map_toArray, List.map_cons, List.map_nil]); first | done | rfl | (simp only [List.length_drop, List.length_take]; rfl)) ?_; (with_reducible refine (slices_Insert_Payment.calls (fun k_ => some k_ = (.slice Ao46 t257.length co46 : Value).ownBlock) (.slice Ao46 t257.length co46) t257 t250 (fun k_ => some k_ = (.slice Ao47 y266.length co47 : Value).ownBlock) (.slice Ao47 y266.length co47) y266 t269 w _ ?side1 ?side2 ?side3 ?side4 ?side5 A38.out).mono ?_); (case side1 => repeat (first | (with_reducible first | exact HB.out | apply below_alloc | apply pw_below_drewN | apply below_drew1 | refine below_set ?_ GE249.out) | exact HB.out)); (case side2 => exact Kd.R_tight rfl HO259.out); (case side3 => exact fun k_ e_ => (HO259.out.1 k_ e_.symm).2); (case side4 => exact Kd.R_tight rfl HO268.out); (case side5 => exact fun k_ e_ => (HO268.out.1 k_ e_.symm).1.2); rintro e w48 ⟨v270, rfl, ho0, hb, hkp⟩; refine ⟨_, rfl, ?_⟩; have n0_ := Aside0.mk (blk_kept (blkN BK249) hkp (fun hs_ => Or.elim hs_ (fun e_ => (fun e_ => (Kd.R_away HO259.out (fun _ hk => hk.1)) e_) e_) (fun e_ => (fun e_ => (Kd.R_away HO268.out (fun _ hk => hk.2)) e_) e_))); have n1_ := Aside0.mk (Kd.R_mono (ok' := fun k_ => k_ ≠ gb249) ho0 (fun k_ hk_ => Or.elim hk_ (fun hs_ => Or.elim hs_ (fun hs_ => fun e_ => (Kd.R_away HO259.out (fun _ hk => hk.1)) (by rw [← e_]; exact hs_)) (fun hs_ => fun e_ => (Kd.R_away HO268.out (fun _ hk => hk.2)) (by rw [← e_]; exact hs_))) (fun hn_ => (Kd.freshB (g := gb249) (blkN BK249) k_ hn_)))); have n2_ := Aside0.mk (hb); clear BK249; clear HB; clear HO259; clear HO268; have BK249 := n0_; have HO271 := n1_; have HB := n2_; clear n0_ n1_ n2_; (try clear hb); (try clear hkp); (try clear ho0)))
        go_ret2
        exact ⟨_, by first | rfl | (simp [errW_none, errW_some] <;> rfl) | (simp [*, errW_none, errW_some] <;> rfl), by (with_reducible repeat (first | apply Kd.R_alloc | apply Kd.R_drewN | apply Kd.R_drew)); exact Kd.R_mono HO271.out (fun _ hk => trivial), by repeat (first | (with_reducible first | exact HB.out | apply below_alloc | apply pw_below_drewN | apply below_drew1 | refine below_set ?_ GE249.out) | exact HB.out)⟩
     ·rw [if_neg c19] at H
      have c19b0 : ((t253.length : Int) == 256) = false := beq_eq_false_iff_ne.mpr c19
      have c19b1 : ((t253.length : Int) != 256) = true := bne_iff_ne.mpr c19
      obtain ⟨y272, hy272⟩ : ∃ y_ : List (S74), y_ = (([(⟨a1_0, a1_1, a1_2, a1_3, a1_4⟩ : S74)] : List (S74))) := ⟨_, rfl⟩
      replace H : ((slices_Insert_Payment.f t253 t250 y272).bind fun t275 => (some (t275, 0))) = some (r1, r2) := by first | (rw [hy272]; with_reducible exact H) | (have H2_ := (Option.bind_some _ _).symm.trans H; rw [hy272]; with_reducible exact H2_) | (have H2_ := (Option.bind_some _ _).symm.trans H; with_reducible exact H2_) | with_reducible exact H | (rw [hy272]; exact H) | exact H
      have Ny272 := Aside0.mk hy272
      clear hy272
      replace H := Option.bind_eq_some_iff.mp H
      obtain ⟨t275, A490, H⟩ := H
      replace H : (some (t275, 0)) = some (r1, r2) := H
      have A49 := Aside0.mk A490
      clear A490
      simp only [Option.some.injEq, Prod.mk.injEq] at H
      obtain ⟨rfl, rfl⟩ := H
      go_wp2_with (first | ((with_reducible refine gate_callee (f := 117) rfl ?_); refine goesL_ (some 33) rfl rfl Try.func117 (by kernel_rfl) rfl #[.slice A0 l0.length c0] rfl (by (try simp only [List.map_toArray, List.map_cons, List.map_nil]); first | done | rfl | (simp only [List.length_drop, List.length_take]; rfl)) ?_; (with_reducible refine (slices_Clone_Payment.calls _ _ l0 t253 _ ?side1 ?side2 A18.out).mono ?_); (case side1 => repeat (first | exact (Kd.C_below HR0.out HB.out) | (with_reducible refine Kd.C_alloc ?_ _) | (with_reducible refine Kd.C_drewN ?_ _) | (with_reducible refine Kd.C_drew ?_))); (case side2 => exact HC0.out); rintro e w50 ⟨v254, rfl, ho0, hb⟩; refine ⟨_, rfl, ?_⟩; have n0_ := Aside0.mk (Kd.R_lower (Kd.R_newB ho0 (g := gb249) (blkN BK249)) (below_size (belN HB))); have n1_ := Aside0.mk (blk_below (g := gb249) (blkN BK249) hb); have n2_ := Aside0.mk (below_step (belN HB) hb); clear BK249; clear HB; have HO255 := n0_; have BK249 := n1_; have HB := n2_; clear n0_ n1_ n2_; (try clear hb); (try clear hb2); (try clear hk); (try clear hi); (try clear ho0); obtain ⟨Ao51, co51, eo51⟩ := Kd.R_slice HO255.out; subst eo51; obtain ⟨hcz52_0, hcz52_1, hcz52_2, hcz52_3, hcz52_4, hfz52_0, hfz52_1, hfz52_2, hfz52_3, hfz52_4⟩ := cz5_ (w := w50) BK249.out) | ((with_reducible refine gate_dst (N := 54) rfl ?_); refine Kd.R_lit k74 _ 74 ?hg (N := 54) ?hd (xs := ([(⟨a1_0, a1_1, a1_2, a1_3, a1_4⟩ : S74)] : List (S74))) (inner := [.int .u64 a1_0, .int .u64 a1_1, .int .u64 a1_2, .int .u64 a1_3, .int .i64 a1_4]) (ok := fun _ => True) (okp := fun _ => True) ?hr ?hp (fun _ hk => hk) trivial (Below.refl _ _) (Nat.le_refl _) (by simp) ?_; (case hd => rfl); (case hg => rfl); (case hr => first | (go_simp; done) | (go_simp; rfl)); (case hp => exact (Reps.c5 (show Kd.M k74 _ _ _ (⟨a1_0, a1_1, a1_2, a1_3, a1_4⟩ : S74) [.int .u64 a1_0, .int .u64 a1_1, .int .u64 a1_2, .int .u64 a1_3, .int .i64 a1_4] from (k74_mkM _ _ _ (⟨a1_0, a1_1, a1_2, a1_3, a1_4⟩ : S74) )) (Reps.none _ _))); intro v273 w53 ho54 hb hg_ hnew_; clear hg_ hnew_; (first | rw [← Ny272.out] at ho54 | (simp only [Int.reduceToNat] at ho54; rw [← Ny272.out] at ho54)); have n0_ := Aside0.mk (Kd.R_elder' (Kd.RN HO255) (Kd.R_base ho54) hb); have n1_ := Aside0.mk (Kd.R_lower (Kd.R_newB (Kd.R_new' ho54 (Kd.R_lt (Kd.RN HO255))) (g := gb249) (blkN BK249)) (below_size (belN HB))); have n2_ := Aside0.mk (blk_below (g := gb249) (blkN BK249) hb); have n3_ := Aside0.mk (below_step (belN HB) hb); clear HO255; clear BK249; clear HB; have HO255 := n0_; have HO274 := n1_; have BK249 := n2_; have HB := n3_; clear n0_ n1_ n2_ n3_; clear hb ho54; obtain ⟨Ao55, co55, eo55⟩ := Kd.R_slice HO274.out; subst eo55) | ((with_reducible refine gate_callee (f := 121) rfl ?_); refine goesL_ (some 55) rfl rfl Try.func121 (by kernel_rfl) rfl #[.slice Ao51 t253.length co51, .int .i64 t250, .slice Ao55 y272.length co55] rfl (by (try simp only [List.map_toArray, List.map_cons, List.map_nil]); first | done | rfl | (simp only [List.length_drop, List.length_take]; rfl)) ?_; (with_reducible refine (slices_Insert_Payment.calls (fun k_ => some k_ = (.slice Ao51 t253.length co51 : Value).ownBlock) (.slice Ao51 t253.length co51) t253 t250 (fun k_ => some k_ = (.slice Ao55 y272.length co55 : Value).ownBlock) (.slice Ao55 y272.length co55) y272 t275 w _ ?side1 ?side2 ?side3 ?side4 ?side5 A49.out).mono ?_); (case side1 => repeat (first | (with_reducible first | exact HB.out | apply below_alloc | apply pw_below_drewN | apply below_drew1 | refine below_set ?_ GE249.out) | exact HB.out)); (case side2 => exact Kd.R_tight rfl HO255.out); (case side3 => exact fun k_ e_ => (HO255.out.1 k_ e_.symm).2); (case side4 => exact Kd.R_tight rfl HO274.out); (case side5 => exact fun k_ e_ => (HO274.out.1 k_ e_.symm).1.2); rintro e w56 ⟨v276, rfl, ho0, hb, hkp⟩; refine ⟨_, rfl, ?_⟩; have n0_ := Aside0.mk (blk_kept (blkN BK249) hkp (fun hs_ => Or.elim hs_ (fun e_ => (fun e_ => (Kd.R_away HO255.out (fun _ hk => hk.1.2)) e_) e_) (fun e_ => (fun e_ => (Kd.R_away HO274.out (fun _ hk => hk.2)) e_) e_))); have n1_ := Aside0.mk (Kd.R_mono (ok' := fun k_ => k_ ≠ gb249) ho0 (fun k_ hk_ => Or.elim hk_ (fun hs_ => Or.elim hs_ (fun hs_ => fun e_ => (Kd.R_away HO255.out (fun _ hk => hk.1.2)) (by rw [← e_]; exact hs_)) (fun hs_ => fun e_ => (Kd.R_away HO274.out (fun _ hk => hk.2)) (by rw [← e_]; exact hs_))) (fun hn_ => (Kd.freshB (g := gb249) (blkN BK249) k_ hn_)))); have n2_ := Aside0.mk (hb); clear BK249; clear HB; clear HO255; clear HO274; have BK249 := n0_; have HO277 := n1_; have HB := n2_; clear n0_ n1_ n2_; (try clear hb); (try clear hkp); (try clear ho0)))
      go_ret2
      exact ⟨_, by first | rfl | (simp [errW_none, errW_some] <;> rfl) | (simp [*, errW_none, errW_some] <;> rfl), by (with_reducible repeat (first | apply Kd.R_alloc | apply Kd.R_drewN | apply Kd.R_drew)); exact Kd.R_mono HO277.out (fun _ hk => trivial), by repeat (first | (with_reducible first | exact HB.out | apply below_alloc | apply pw_below_drewN | apply below_drew1 | refine below_set ?_ GE249.out) | exact HB.out)⟩

end Go.Proofs.Ytcfbcoinbecdfaa.P
