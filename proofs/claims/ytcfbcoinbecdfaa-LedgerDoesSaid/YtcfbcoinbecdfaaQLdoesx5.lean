-- written by a program of this session (wip/print)
import Derived.Test.YtcfbcoinbecdfaaQLdoesx0
import Derived.Test.YtcfbcoinbecdfaaQLdoesx4
namespace Go.Proofs.Ytcfbcoinbecdfaa.P
open Go.RowKit Go.Proofs.YtcfbcoinbecdfaaW.PrintWords Go.Proofs.YtcfbcoinbecdfaaW.PrintLast Go.Proofs.YtcfbcoinbecdfaaW.PrintMore
attribute [local go_sem] max2_int min2_int max_two min_two max_three min_three max_four min_four run_sub64_   -- for this text's walks alone
set_option linter.unusedVariables false
set_option linter.unusedSimpArgs false

/-! ### slices_Insert_Channel_raw: function 101 (by hand) -/
theorem slices_Insert_Channel_raw.apart_ (g2 cap2 : Nat) (cur2 : Array Value) (w : World) (hg2 : w.heap[g2]? = some (.cells cur2 25 (0, 0))) (b o lb cb : Nat) (cur : Array Value) (hb : w.heap[b]? = some (.cells cur 25 (0, 0))) (hne : g2 ≠ b) (h0 : cur.size ≠ 0) :
    (callFunc 134 #[.slice (some ⟨g2, 0, none⟩) 1 cap2, .slice (some ⟨b, o, none⟩) lb cb]).run Try.prog w = .ok (.value (.bool false)) w := by
  rw [run_callFunc_extern Try.func134 (by kernel_rfl) (by kernel_rfl) (by kernel_rfl) (e := Extern.SlicesOverlaps.overlaps #[47, 47] #[4]) (by kernel_rfl),
    Lib.run_overlaps_apart w 47 4 25 Try.underlying47 7 Try.sizeOf25 ⟨g2, 0, none⟩ ⟨b, o, none⟩ 1 cap2 lb cb hne 25 25 cur2.size cur.size (by simp [World.shape?, hg2]) (by simp [World.shape?, hb]) h0 (blk_frozen hg2 0) (blk_frozen hg2 _)]
  rfl
set_option maxHeartbeats 4000000 in
set_option maxRecDepth 100000 in
theorem slices_Insert_Channel_raw.shift (g n cap i g2 cap2 : Nat) (cur cur2 : Array Value) (w : World) (hi : i < n) (hroom : n + 1 ≤ cap) (hcap : cap ≤ 9223372036854775807) (hg : w.heap[g]? = some (.cells cur 25 (0, 0))) (hg2 : w.heap[g2]? = some (.cells cur2 25 (0, 0))) (hne : g2 ≠ g)
    (hcur : cur.size = cap * 7) (hcur2 : 7 ≤ cur2.size) (h1 : ∀ u ∈ cur.toList.take (n * 7), u.oneCell' = true) (h2 : ∀ u ∈ cur2.toList.take 7, u.oneCell' = true) :
    Calls Try.prog 101 #[.slice (some ⟨g, 0, none⟩) n cap, .int .i64 i, .slice (some ⟨g2, 0, none⟩) 1 cap2] w fun e w' => ∃ cur', e = .returned (.slice (some ⟨g, 0, none⟩) (n + 1) cap) ∧ w'.heap[g]? = some (.cells cur' 25 (0, 0)) ∧ w.grownBy w' (some g) ∧ cur'.size = cap * 7 ∧
      cur'.toList.take ((n + 1) * 7) = (cur.toList.take (n * 7)).take (i * 7) ++ cur2.toList.take 7 ++ (cur.toList.take (n * 7)).drop (i * 7) := by
  obtain ⟨cs, hcs⟩ : ∃ cs, cs = (cur.toList.drop (i * 7)).take ((n - i) * 7) := ⟨_, rfl⟩
  obtain ⟨vs, hvs⟩ : ∃ vs, vs = cur2.toList.take 7 := ⟨_, rfl⟩
  have hov : ∀ o lb cb, (callFunc 134 #[.slice (some ⟨g2, 0, none⟩) 1 cap2, .slice (some ⟨g, o, none⟩) lb cb]).run Try.prog w = .ok (.value (.bool false)) w := fun o lb cb => slices_Insert_Channel_raw.apart_ g2 cap2 cur2 w hg2 g o lb cb cur hg hne (by omega)
  have hz2 : ¬ ((i : Int) = (n : Int)) := by omega
  have hb1 : (0 : Int) ≤ (i : Int) := by omega
  have hb3 : (i : Int) ≤ (n : Int) := by omega
  have hb4 : ¬ (cap = i) := by omega
  have hb5 : ¬ (cap = i + 1) := by omega
  have hw1 : IntKind.i64.wrap ((i : Int) + 1) = (i : Int) + 1 := by rw [IntKind.wrap_i64]; omega
  have hb6 : (0 : Int) ≤ (i : Int) + 1 := by omega
  have hb7 : (i : Int) + 1 ≤ (n : Int) + 1 := by omega
  have hb8 : ((i : Int) + 1).toNat = i + 1 := by omega
  have hb9 : (i : Int) ≤ (n : Int) + 1 := by omega
  have hb10 : n + 1 - (i + 1) = n - i := by omega
  have hsz : (Try.prog.info? 25).map (·.size) = some 7 := by kernel_rfl
  have hcl : cs.length = (n - i) * 7 := by rw [hcs, List.length_take, List.length_drop, Array.length_toList]; omega
  have hvl : vs.length = 1 * 7 := by rw [hvs, List.length_take, Array.length_toList]; omega
  obtain ⟨cur1, hcur1⟩ : ∃ cur1, cur1 = (cur.toList.take ((i + 1) * 7) ++ cs ++ cur.toList.drop ((i + 1) * 7 + cs.length)).toArray := ⟨_, rfl⟩
  have hcp1 : ∀ ty, (Builtin.copy_ #[47, 47] ty #[.slice (some ⟨g, (i + 1) * 7, none⟩) (n - i) (cap - (i + 1)), .slice (some ⟨g, i * 7, none⟩) (n + 1 - i) (cap - i)]).run Try.prog w.drew = .ok (goInt ((n - i : Nat) : Int)) (w.drew.setRow g cur1) := fun ty => by
    rw [hcur1]
    exact run_copy_rowK w.drew 47 47 ty 25 g ((i + 1) * 7) (n - i) (cap - (i + 1)) ⟨g, i * 7, none⟩ (n + 1 - i) (cap - i) 7 (n - i) cur 25 cs Try.underlying47 hsz hg (by simp only [Nat.min_def]; split <;> omega) hcl
      (blk_cells hg (i * 7) ((n - i) * 7) cs hcs.symm) (by omega) (fun v hv => h1 v (by
        rw [hcs] at hv
        rw [List.take_drop, show i * 7 + (n - i) * 7 = n * 7 by omega] at hv
        exact List.mem_of_mem_drop hv))
  obtain ⟨W1, hW1⟩ : ∃ W1, W1 = w.drew.setRow g cur1 := ⟨_, rfl⟩
  have hW1g : W1.heap[g]? = some (.cells cur1 25 (0, 0)) := by rw [hW1]; exact setRow_heap w.drew g cur _ 25 _ hg
  have hW1g2 : W1.heap[g2]? = some (.cells cur2 25 (0, 0)) := by rw [hW1, setRow_other w.drew g g2 _ hne]; exact hg2
  have hc1s : cur1.size = cap * 7 := by rw [hcur1]; simp only [List.size_toArray, List.length_append, List.length_take, List.length_drop, Array.length_toList]; omega
  obtain ⟨cur', hcur'⟩ : ∃ cur', cur' = (cur1.toList.take (i * 7) ++ vs ++ cur1.toList.drop (i * 7 + vs.length)).toArray := ⟨_, rfl⟩
  have hcp2 : ∀ ty, (Builtin.copy_ #[47, 47] ty #[.slice (some ⟨g, i * 7, none⟩) (n + 1 - i) (cap - i), .slice (some ⟨g2, 0, none⟩) 1 cap2]).run Try.prog W1 = .ok (goInt 1) (W1.setRow g cur') := fun ty => by
    rw [hcur']
    exact run_copy_rowK W1 47 47 ty 25 g (i * 7) (n + 1 - i) (cap - i) ⟨g2, 0, none⟩ 1 cap2 7 1 cur1 25 vs Try.underlying47 hsz hW1g (by simp only [Nat.min_def]; split <;> omega) hvl
      (blk_cells hW1g2 0 7 vs (by rw [hvs, List.drop_zero])) (by omega) (fun v hv => h2 v (by rw [hvs] at hv; exact hv))
  have fin : cur'.size = cap * 7 ∧ cur'.toList.take ((n + 1) * 7) = (cur.toList.take (n * 7)).take (i * 7) ++ cur2.toList.take 7 ++ (cur.toList.take (n * 7)).drop (i * 7) := by
    have hL : cur.toList.length = cap * 7 := by rw [Array.length_toList, hcur]
    have h := ins_cells cur.toList vs (i * 7) ((n - i) * 7) 7 0 (by omega) (by omega)
    simp only at h
    have ec : (i + 1) * 7 = i * 7 + 7 := by omega
    rw [hcur', hcur1, hcl, ec, hvl, Nat.one_mul]
    rw [hcs, hvs]
    rw [hvs] at h
    have en : i * 7 + (n - i) * 7 = n * 7 := by omega
    rw [en] at h
    rw [show (n + 1) * 7 = n * 7 + 7 by omega]
    exact ⟨h.1.trans hL, h.2⟩
  have fin2 : w.grownBy (W1.setRow g cur') (some g) := by
    rw [hW1]
    exact grown_trans (grown_trans (show w.grownBy w.drew (some g) from ⟨rfl, rfl, rfl, Nat.le_refl _, fun _ _ _ => rfl⟩) (grown_setRow w.drew g cur1)) (grown_setRow _ g cur')
  have fin3 : (W1.setRow g cur').heap[g]? = some (.cells cur' 25 (0, 0)) := setRow_heap W1 g cur1 _ 25 _ hW1g
  rw [← hW1] at hcp1
  clear hW1 hcur1 hcur' hcs hvs h1 h2 hcur hcur2 hg hg2
  go_enter Try.func101, Try.ntmps101
  go_wp2_with (simp only [hov])
  go_region_law (refine step_copy_run rfl _ _ 47 47 rfl _ _ (by simp [Act.eval, Act.put]) (by simp [Act.eval, Act.put]) (hcp1 _) ?_)
  go_wp2_with (at_builtin; refine wpList_copy_run _ rfl _ _ 47 47 rfl _ _ rfl rfl (hcp2 _) ?_)

  go_ret
  exact ⟨cur', rfl, fin3, fin2, fin⟩

set_option maxHeartbeats 4000000 in
set_option maxRecDepth 100000 in
theorem slices_Insert_Channel_raw.grow (g n cap i g2 cap2 : Nat) (cur cur2 : Array Value) (w : World) (hi : i < n) (hnc : n ≤ cap) (hroom : cap < n + 1) (hbig : (n + 1) * 72 ≤ 140737488355328) (hg : w.heap[g]? = some (.cells cur 25 (0, 0))) (hg2 : w.heap[g2]? = some (.cells cur2 25 (0, 0)))
    (hcur : cur.size = cap * 7) (hcur2 : 7 ≤ cur2.size) (h1 : ∀ u ∈ cur.toList.take (n * 7), u.oneCell' = true) (h2 : ∀ u ∈ cur2.toList.take 7, u.oneCell' = true) :
    Calls Try.prog 101 #[.slice (some ⟨g, 0, none⟩) n cap, .int .i64 i, .slice (some ⟨g2, 0, none⟩) 1 cap2] w fun e w' => ∃ cur' G, e = .returned (.slice (some ⟨w.heap.size, 0, none⟩) (n + 1) G) ∧ w'.heap[w.heap.size]? = some (.cells cur' 25 (0, 0)) ∧ w.grownBy w' none ∧ n + 1 ≤ G ∧ G ≤ maxLen ∧ cur'.size = G * 7 ∧
      cur'.toList.take ((n + 1) * 7) = (cur.toList.take (n * 7)).take (i * 7) ++ cur2.toList.take 7 ++ (cur.toList.take (n * 7)).drop (i * 7) := by
  obtain ⟨i0, hi0, hz0, hzs, hzb⟩ := info_parts info25
  have hlg : g < w.heap.size := blk_lt hg
  have hlg2 : g2 < w.heap.size := blk_lt hg2
  obtain ⟨inn, hinn⟩ : ∃ inn, inn = cur.toList.take (n * 7) := ⟨_, rfl⟩
  have hinl : inn.length = n * 7 := by rw [hinn, List.length_take, Array.length_toList]; omega
  have hold : (Builtin.firstCells i0.size i (.slice (some ⟨g, 0, none⟩) i cap)).run Try.prog w.drew = .ok (inn.take (i * 7)).toArray w.drew := by
    rw [hzs]
    exact run_firstCells_some w.drew 7 i ⟨g, 0, none⟩ i cap (inn.take (i * 7)) (by rw [List.length_take]; omega) (blk_cells (w := w.drew) hg 0 (i * 7) _ (by rw [hinn, List.drop_zero, List.take_take, Nat.min_eq_left (by omega)]))
  obtain ⟨G, hG⟩ : ∃ G, G = grownCap w (n + 1) cap 25 := ⟨_, rfl⟩
  have hGn : n + 1 ≤ G := by rw [hG]; exact grownCap_ge w _ _ _
  have hGm : G ≤ maxLen := by rw [hG]; exact grownCap_le_maxLen w (n + 1) cap 25 (by unfold maxLen; omega)
  have hG63 : G ≤ 9223372036854775807 := by unfold maxLen at hGm; omega
  obtain ⟨ROW, hROW⟩ : ∃ ROW : Array Value, ROW = (inn.take (i * 7)).toArray ++ Builtin.zeroCells ((.agg #[(.int .u64 0), (.int .u64 0), (.int .u64 0), (.int .u64 0), (.int .u64 0), (.slice none 0 0), (.bool false)]) : Value).cells (n + 1 - i) ++ Builtin.zeroCells ((.agg #[(.int .u64 0), (.int .u64 0), (.int .u64 0), (.int .u64 0), (.int .u64 0), (.slice none 0 0), (.bool false)]) : Value).cells (G - (n + 1)) := ⟨_, rfl⟩
  have hRs : ROW.size = G * 7 := by
    rw [hROW]
    simp only [Array.size_append, List.size_toArray, List.length_take, hinl, size_zeroCells, show ((.agg #[(.int .u64 0), (.int .u64 0), (.int .u64 0), (.int .u64 0), (.int .u64 0), (.slice none 0 0), (.bool false)]) : Value).cells.size = 7 from rfl]
    omega
  have hRt : ROW.toList.take (i * 7) = inn.take (i * 7) := by
    rw [hROW, Array.toList_append, Array.toList_append, List.append_assoc, List.take_append_of_le_length (by simp only [List.length_take, hinl]; omega), List.take_of_length_le (by simp only [List.length_take, hinl]; omega)]
  have hrz : ∀ ty, (Builtin.append_ #[47, 3] ty #[.slice (some ⟨g, 0, none⟩) i cap, .int .i64 ((n : Int) + 1 - (i : Int))]).run Try.prog w =
      .ok (.slice (some ⟨w.heap.size, 0, none⟩) (n + 1) G) (w.drew.alloc (.cells ROW 25)) := fun ty => by
    have h := Lib.run_append_grow_zeros w 47 3 ty 25 i0 _ .i64 .i64 Try.underlying47 Try.underlying3 hi0 hz0 (some ⟨g, 0, none⟩) i cap (inn.take (i * 7)) hold (n + 1 - i) (by omega) (by omega) (by omega) (by omega) (by rw [hzb]; omega) (by rw [hzb, show i + (n + 1 - i) = n + 1 by omega]; exact growslice_fits hroom hbig)
    rw [show i + (n + 1 - i) = n + 1 by omega, ← hG, ← hROW] at h
    rw [show (n : Int) + 1 - (i : Int) = ((n + 1 - i : Nat) : Int) by omega]
    exact h
  have hsz : (Try.prog.info? 25).map (·.size) = some 7 := by kernel_rfl
  obtain ⟨N, hN⟩ : ∃ N, N = w.heap.size := ⟨_, rfl⟩
  obtain ⟨vs, hvs⟩ : ∃ vs, vs = cur2.toList.take 7 := ⟨_, rfl⟩
  have hvl : vs.length = 1 * 7 := by rw [hvs, List.length_take, Array.length_toList]; omega
  obtain ⟨cs, hcs⟩ : ∃ cs, cs = inn.drop (i * 7) := ⟨_, rfl⟩
  have hcl : cs.length = (n - i) * 7 := by rw [hcs, List.length_drop]; omega
  obtain ⟨cur1, hcur1⟩ : ∃ cur1, cur1 = (ROW.toList.take (i * 7) ++ vs ++ ROW.toList.drop (i * 7 + vs.length)).toArray := ⟨_, rfl⟩
  have hc1s : cur1.size = G * 7 := by rw [hcur1]; simp only [List.size_toArray, List.length_append, List.length_take, List.length_drop, Array.length_toList]; omega
  obtain ⟨cur', hcur'⟩ : ∃ cur', cur' = (cur1.toList.take ((i + 1) * 7) ++ cs ++ cur1.toList.drop ((i + 1) * 7 + cs.length)).toArray := ⟨_, rfl⟩
  have hcpA : ∀ (W : World), W.heap[N]? = some (.cells ROW 25 (0, 0)) → W.heap[g2]? = some (.cells cur2 25 (0, 0)) → ∀ ty, (Builtin.copy_ #[47, 47] ty #[.slice (some ⟨N, i * 7, none⟩) (n + 1 - i) (G - i), .slice (some ⟨g2, 0, none⟩) 1 cap2]).run Try.prog W = .ok (goInt 1) (W.setRow N cur1) := fun W hW hWv ty => by
    rw [hcur1]
    exact run_copy_rowK W 47 47 ty 25 N (i * 7) (n + 1 - i) (G - i) ⟨g2, 0, none⟩ 1 cap2 7 1 ROW 25 vs Try.underlying47 hsz hW (by simp only [Nat.min_def]; split <;> omega) hvl
      (blk_cells hWv 0 7 vs (by rw [hvs, List.drop_zero])) (by omega) (fun v hv => h2 v (by rw [hvs] at hv; exact hv))
  have hcpB : ∀ (W : World), W.heap[N]? = some (.cells cur1 25 (0, 0)) → W.heap[g]? = some (.cells cur 25 (0, 0)) → ∀ ty, (Builtin.copy_ #[47, 47] ty #[.slice (some ⟨N, (i + 1) * 7, none⟩) (n - i) (G - (i + 1)), .slice (some ⟨g, i * 7, none⟩) (n - i) (cap - i)]).run Try.prog W = .ok (goInt ((n - i : Nat) : Int)) (W.setRow N cur') := fun W hW hWv ty => by
    rw [hcur']
    exact run_copy_rowK W 47 47 ty 25 N ((i + 1) * 7) (n - i) (G - (i + 1)) ⟨g, i * 7, none⟩ (n - i) (cap - i) 7 (n - i) cur1 25 cs Try.underlying47 hsz hW (by simp only [Nat.min_def]; split <;> omega) hcl
      (blk_cells hWv (i * 7) ((n - i) * 7) cs (by rw [hcs, hinn, List.drop_take]; congr 1; omega)) (by omega) (fun v hv => h1 v (by rw [hcs, hinn] at hv; exact List.mem_of_mem_drop hv))
  have fin : cur'.size = G * 7 ∧ cur'.toList.take ((n + 1) * 7) = inn.take (i * 7) ++ cur2.toList.take 7 ++ inn.drop (i * 7) := by
    have e1 : cur1.toList.take ((i + 1) * 7) = inn.take (i * 7) ++ vs := by
      rw [hcur1]
      show List.take _ (List.take (i * 7) ROW.toList ++ vs ++ _) = _
      rw [hRt, List.take_append_of_le_length (by simp only [List.length_append, List.length_take, hinl]; omega), List.take_of_length_le (by simp only [List.length_append, List.length_take, hinl]; omega)]
    refine ⟨?_, ?_⟩
    · rw [hcur']; simp only [List.size_toArray, List.length_append, List.length_take, List.length_drop, Array.length_toList]; omega
    · rw [hcur', e1]
      show List.take _ (inn.take (i * 7) ++ vs ++ cs ++ _) = _
      rw [List.take_append_of_le_length (by simp only [List.length_append, List.length_take, hinl]; omega), List.take_of_length_le (by simp only [List.length_append, List.length_take, hinl]; omega), hcs, hvs]
  rw [← hN] at hlg hlg2 hrz ⊢
  rw [← hinn]
  have hz2 : ¬ ((i : Int) = (n : Int)) := by omega
  have hz3 : (cap : Int) < (n : Int) + 1 := by omega
  have hb1 : (0 : Int) ≤ (i : Int) := by omega
  have hb3 : (i : Int) ≤ (n : Int) := by omega
  have hb4 : ¬ (cap = i) := by omega
  have hb5 : ¬ (G = i) := by omega
  have hb6 : ¬ (G = i + 1) := by omega
  have hw1 : IntKind.i64.wrap ((i : Int) + 1) = (i : Int) + 1 := by rw [IntKind.wrap_i64]; omega
  have hb7 : (0 : Int) ≤ (i : Int) + 1 := by omega
  have hb8 : (i : Int) + 1 ≤ (n : Int) + 1 := by omega
  have hb9 : ((i : Int) + 1).toNat = i + 1 := by omega
  have hb10 : (i : Int) ≤ (n : Int) + 1 := by omega
  have hb11 : n + 1 - (i + 1) = n - i := by omega
  obtain ⟨W1, hW1⟩ : ∃ W1, W1 = w.drew.alloc (.cells ROW 25) := ⟨_, rfl⟩
  have hn1 : W1.heap[N]? = some (.cells ROW 25 (0, 0)) := by rw [hW1, hN]; exact heap_alloc_new w.drew _
  have hg1 : W1.heap[g]? = some (.cells cur 25 (0, 0)) := by rw [hW1]; exact blk_alloc (w := w.drew) hg _
  have hg21 : W1.heap[g2]? = some (.cells cur2 25 (0, 0)) := by rw [hW1]; exact blk_alloc (w := w.drew) hg2 _
  have hgr1 : w.grownBy W1 none := by rw [hW1]; exact ⟨rfl, rfl, rfl, by simp, fun k hk _ => heap_alloc_old w.drew _ hk⟩
  have hsN : w.heap.size ≤ N := by omega
  rw [← hW1] at hrz
  have hA := hcpA W1 hn1 hg21
  obtain ⟨W2, hW2⟩ : ∃ W2, W2 = W1.setRow N cur1 := ⟨_, rfl⟩
  have hn2 : W2.heap[N]? = some (.cells cur1 25 (0, 0)) := by rw [hW2]; exact setRow_heap W1 N ROW _ 25 _ hn1
  have hgg2 : W2.heap[g]? = some (.cells cur 25 (0, 0)) := by rw [hW2, setRow_other W1 N g _ (by omega)]; exact hg1
  have hgr2 : w.grownBy W2 none := by
    rw [hW2]
    exact ⟨hgr1.os, hgr1.tape, hgr1.output, Nat.le_trans hgr1.size (by simp [World.setRow]), fun k hk hr => (setRow_other W1 N k _ (by omega)).trans (hgr1.block k hk hr)⟩
  rw [← hW2] at hA
  have hB := hcpB W2.drew hn2 hgg2
  have fin3 : (W2.drew.setRow N cur').heap[N]? = some (.cells cur' 25 (0, 0)) := setRow_heap W2.drew N cur1 _ 25 _ hn2
  have fin2 : w.grownBy (W2.drew.setRow N cur') none := ⟨hgr2.os, hgr2.tape, hgr2.output, Nat.le_trans hgr2.size (by simp [World.setRow]), fun k hk hr => (setRow_other W2.drew N k _ (by omega)).trans (hgr2.block k hk hr)⟩
  clear hcpA hcpB hW1 hW2 hcur1 hcur' hcs hvs h1 h2 hcur hcur2 hg hg2 hROW hG hold hinn hN hn1 hg1 hg21 hgr1 hn2 hgg2 hgr2 hRt hRs
  go_enter Try.func101, Try.ntmps101
  go_wp2_with (first
    | (at_builtin; refine Lib.wpList_append_run _ rfl _ _ _ _ rfl _ _ rfl rfl _ _ (hrz _) ?_)
    | (at_builtin; refine wpList_copy_run _ rfl _ _ 47 47 rfl _ _ rfl rfl (hA _) ?_))
  go_region_law (refine step_copy_run rfl _ _ 47 47 rfl _ _ (by simp [Act.eval, Act.put]) (by simp [Act.eval, Act.put]) (hB _) ?_)
  go_wp2
  go_ret
  exact ⟨cur', G, rfl, fin3, fin2, hGn, hGm, fin⟩

def slices_Insert_Channel_raw.f (l0 : List (List Value)) (a1 : Int) (l2 : List (List Value)) : Option (List (List Value)) := if 0 ≤ a1 ∧ a1 ≤ (l0.length : Int) ∧ l2.length = 1 ∧ l0.length + 1 < 1954687338268 then (some (l0.take a1.toNat ++ l2 ++ l0.drop a1.toNat)) else (none)
set_option maxHeartbeats 8000000 in
set_option maxRecDepth 100000 in
theorem slices_Insert_Channel_raw.last (P0_ : Nat → Prop) (u9000_ : Value) (l0 : List (List Value)) (a1 : Int) (P2_ : Nat → Prop) (u9001_ : Value) (l2 : List (List Value)) (w0 w : World) (hB : Below w0.heap.size w0 w) (ho0 : Kd.R (Kd.raw 7) 25 w w0.heap.size P0_ u9000_ l0) (ho2 : Kd.R (Kd.raw 7) 25 w w0.heap.size P2_ u9001_ l2) (h1 : a1 = (l0.length : Int)) (h2 : l2.length = 1) (h3 : l0.length + 1 < 1954687338268) :
    Calls Try.prog 101 #[u9000_, .int .i64 a1, u9001_] w fun e w' => ∃ v0_ : Value, e = .returned (v0_) ∧ Kd.R (Kd.raw 7) 25 w' w0.heap.size (fun k_ => ((P0_ k_ ∨ P2_ k_) ∨ w.heap.size ≤ k_)) v0_ (l0 ++ l2) ∧ Below w0.heap.size w0 w' ∧ Kept w w' (fun k_ => P0_ k_ ∨ P2_ k_) := by
  have HO0 := aM_ (show Kd.R (Kd.raw 7) 25 w w0.heap.size (fun k_ => P0_ k_ ∨ w.heap.size ≤ k_) u9000_ l0 from Kd.R_mono ho0 (fun k_ hk => .inl hk))
  have HP := aM_ ho0.1
  obtain ⟨Av, cv, ev⟩ := Kd.R_slice ho2
  subst ev
  have HR2 := aM_ (Kd.R_reads' ho2).2.2
  have HB := aM_ hB
  have HS := aM_ hB.size
  have LM := aM_ (show l0.length + l2.length < 1954687338268 by omega)
  obtain ⟨Ao12, co12, eo12⟩ := Kd.R_slice HO0.out
  subst eo12
  have q11 : (a1 : Int) ≤ ((l0.length : Int) : Int) := by omega
  obtain ⟨i011, hi011, _, hsz11, _⟩ := info_parts info25
  have hroom11 : l0.length ≤ co12 := (Kd.R_reads' HO0.out).2.1
  have q011 : (0 : Int) ≤ (a1 : Int) := by omega
  have hcut11 := cut_from (P := Try.prog) 47 25 .i64 Try.underlying47 hi011 7 hsz11 Ao12 l0.length co12 a1 q011 q11
  obtain ⟨A11, hA11⟩ : ∃ A1, A1 = (if co12 = (a1 : Int).toNat then Ao12 else (Ao12 : Option Addr).map (·.add ((a1 : Int).toNat * 7))) := ⟨_, rfl⟩
  obtain ⟨c11, hc11⟩ : ∃ c1, c1 = co12 - (a1 : Int).toNat := ⟨_, rfl⟩
  obtain ⟨y11, hy11⟩ : ∃ y1, y1 = l0.length - (a1 : Int).toNat := ⟨_, rfl⟩
  rw [← hy11, ← hA11, ← hc11] at hcut11
  have c6b0 : ((l2.length : Int) == 0) = false := by rw [h2]; rfl
  have c6b1 : ((l2.length : Int) != 0) = true := by rw [h2]; rfl
  have c6b2 : ¬ (l2 = []) := fun h_ => by rw [h_] at h2; cases h2
  have c9b0 : (a1 == (l0.length : Int)) = true := beq_iff_eq.mpr h1
  have c9b1 : (a1 != (l0.length : Int)) = false := bne_eq_false_iff_eq.mpr h1
  clear hi011 hsz11 hc11 hA11 hy11 h1 h2 h3 ho0 ho2 hB
  replace q11 := eq_true q11
  replace q011 := eq_true q011
  go_enter Try.func101, Try.ntmps101
  go_wp2_with ((((with_reducible refine gate_builtin (b := .append) (xs := #[.tmp 23, .tmp 24]) rfl ?_); at_builtin; refine Kd.R_append_rows (Kd.raw 7) (w0 := w0) w0.heap.size rfl (.tmp 23) (.tmp 24) 47 25 (.agg #[(.int .u64 0), (.int .u64 0), (.int .u64 0), (.int .u64 0), (.int .u64 0), (.slice none 0 0), (.bool false)]) 72 rfl Try.underlying47 info25 rfl (by decide) (by omega) (.slice Ao12 l0.length co12) l0 l2 _ _ _ (fun k_ => (P0_ k_ ∨ w.heap.size ≤ k_)) (fun _ => False) rfl rfl ?aO ?aR (fun _ _ h => h) (fun _ h => h.elim) ?aF ?aB ?aS ?aL ?_; (case aR => exact HR2.out); (case aB => exact HB.out); (case aF => exact (fun k_ hk => .inr hk)); (case aO => exact HO0.out); (case aS => exact HS.out); (case aL => have := LM.out; omega); intro v138 w13 ho hb hg hat; have n0_ := aM_ ho; have n1_ := aM_ hb; have n2_ := aM_ hg; clear ho hb hg hat)))
  go_ret
  exact ⟨_, rfl, Kd.R_mono n0_.out (fun k_ hk => hk.elim (fun h_ => .inl (.inl h_)) .inr), n1_.out, Kept.of_grown (S := fun k_ => P0_ k_ ∨ P2_ k_) n2_.out (Kept.refl w _) (fun k_ e_ => .inl (.inl (HP.out k_ e_)))⟩
set_option maxHeartbeats 4000000 in
theorem slices_Insert_Channel_raw.calls (P0_ : Nat → Prop) (u9000_ : Value) (l0 : List (List Value)) (a1 : Int) (P2_ : Nat → Prop) (u9001_ : Value) (l2 : List (List Value)) (r : List (List Value)) (w0 w : World) (hB : Below w0.heap.size w0 w) (ho0 : Kd.R (Kd.raw 7) 25 w w0.heap.size P0_ u9000_ l0) (hp0_2 : ∀ k_, P0_ k_ → ¬ P2_ k_) (ho2 : Kd.R (Kd.raw 7) 25 w w0.heap.size P2_ u9001_ l2) (hp2_0 : ∀ k_, P2_ k_ → ¬ P0_ k_) (h : slices_Insert_Channel_raw.f l0 a1 l2 = some r) :
    Calls Try.prog 101 #[u9000_, .int .i64 a1, u9001_] w fun e w' => ∃ v0_ : Value, e = .returned (v0_) ∧ Kd.R (Kd.raw 7) 25 w' w0.heap.size (fun k_ => ((P0_ k_ ∨ P2_ k_) ∨ w.heap.size ≤ k_)) v0_ r ∧ Below w0.heap.size w0 w' ∧ Kept w w' (fun k_ => P0_ k_ ∨ P2_ k_) := by
  unfold slices_Insert_Channel_raw.f at h
  by_cases hc : 0 ≤ a1 ∧ a1 ≤ (l0.length : Int) ∧ l2.length = 1 ∧ l0.length + 1 < 1954687338268
  · rw [if_pos hc] at h
    obtain ⟨c1, c2, c3, c4⟩ := hc
    obtain rfl := Option.some.inj h
    by_cases hl : a1 = (l0.length : Int)
    · have he : l0.take a1.toNat ++ l2 ++ l0.drop a1.toNat = l0 ++ l2 := by
        rw [hl, Int.toNat_natCast, List.take_of_length_le (Nat.le_refl _), List.drop_of_length_le (Nat.le_refl _), List.append_nil]
      rw [he]
      exact slices_Insert_Channel_raw.last P0_ u9000_ l0 a1 P2_ u9001_ l2 w0 w hB ho0 ho2 hl c3 c4
    · obtain ⟨i, rfl⟩ := Int.eq_ofNat_of_zero_le c1
      have hi : i < l0.length := by omega
      obtain ⟨hb0, in0, hown0, hr0⟩ := ho0
      obtain ⟨hb2, in2, hown2, hr2⟩ := ho2
      have one0 := Kd.reps_one hr0 (show 0 < Kd.sz (Kd.raw 7) from by decide) (fun p c hp => Kd.K_one _ (Kd.K_of_M _ hp))
      have one2 := Kd.reps_one hr2 (show 0 < Kd.sz (Kd.raw 7) from by decide) (fun p c hp => Kd.K_one _ (Kd.K_of_M _ hp))
      have hsz : Kd.sz (Kd.raw 7) = 7 := rfl
      rcases hown0 with ⟨hl0, ⟨rfl, h0⟩ | ⟨g, cap, cur, rfl, hgb, hg, hnc, hcm, hcs, hct⟩⟩
      · omega
      · rcases hown2 with ⟨hl2, ⟨rfl, h0⟩ | ⟨g2, cap2, cur2, rfl, hgb2, hg2, hnc2, hcm2, hcs2, hct2⟩⟩
        · omega
        · have hne : g2 ≠ g := fun e => hp0_2 g (hb0 g rfl) (by rw [← e]; exact hb2 g2 rfl)
          rw [c3, Nat.one_mul] at hct2
          rw [c3] at hnc2 hl2
          rw [hsz] at hct hct2 hcs hcs2 hl0 hl2
          have hl1 : (Value.slice (some (⟨g2, 0, none⟩ : Addr)) l2.length cap2) = .slice (some ⟨g2, 0, none⟩) 1 cap2 := by rw [c3]
          rw [hl1]
          have fin : ∀ (v1 : Value) (w1 : World), w1.ownsRow w0.heap.size 25 7 v1 (l0.length + 1) (in0.take (i * 7) ++ in2 ++ in0.drop (i * 7)) → w.grownBy w1 (some g) → (v1.ownBlock = some g ∨ ∃ b, v1.ownBlock = some b ∧ w.heap.size ≤ b) →
              ∃ v0_ : Value, Ending.returned v1 = .returned (v0_) ∧ Kd.R (Kd.raw 7) 25 w1 w0.heap.size (fun k_ => ((P0_ k_ ∨ P2_ k_) ∨ w.heap.size ≤ k_)) v0_ (l0.take i ++ l2 ++ l0.drop i) ∧ Below w0.heap.size w0 w1 ∧ Kept w w1 (fun k_ => P0_ k_ ∨ P2_ k_) := by
            intro v1 w1 hown hgr hat
            refine ⟨v1, rfl, ?_, ?_, ?_⟩
            · exact Kd_R_inserted (d := (Kd.raw 7)) (u := .slice (some ⟨g, 0, none⟩) l0.length cap) (v := .slice (some ⟨g2, 0, none⟩) l2.length cap2) i (by omega) hb0 hr0 hr2 hp0_2 (by rw [c3]; exact hown) hgr hat
            · exact hB.grown hgr hB.size (fun k hk => by injection hk with hk; omega)
            · exact Kept.of_grown (S := fun k_ => P0_ k_ ∨ P2_ k_) hgr (Kept.refl w _) (fun k_ e_ => .inl (.inl (hb0 k_ e_)))
          rw [Int.toNat_natCast]
          rw [← hct] at one0 fin
          rw [← hct2] at one2 fin
          by_cases hroom : l0.length + 1 ≤ cap
          · refine (slices_Insert_Channel_raw.shift g l0.length cap i g2 cap2 cur cur2 w hi hroom (by unfold maxLen at hcm; omega) hg hg2 hne hcs (by rw [hcs2]; omega) one0 one2).mono ?_
            rintro e w' ⟨cur', rfl, q1, q2, q3, q4⟩
            refine fin _ w' ⟨?_, .inr ⟨g, cap, cur', rfl, hgb, q1, hroom, hcm, q3, q4⟩⟩ q2 (.inl rfl)
            rw [← q4, List.length_take, show cur'.toList.length = cap * 7 from Array.length_toList.trans q3, Nat.min_eq_left (by omega)]
          · refine (slices_Insert_Channel_raw.grow g l0.length cap i g2 cap2 cur cur2 w hi hnc (by omega) (by omega) hg hg2 hcs (by rw [hcs2]; omega) one0 one2).mono ?_
            rintro e w' ⟨cur', G, rfl, q1, q2, q3, q4, q5, q6⟩
            refine fin _ w' ⟨?_, .inr ⟨w.heap.size, G, cur', rfl, hB.size, q1, q3, q4, q5, q6⟩⟩ ⟨q2.os, q2.tape, q2.output, q2.size, fun k hk _ => q2.block k hk (by simp)⟩ (.inr ⟨w.heap.size, rfl, Nat.le_refl _⟩)
            rw [← q6, List.length_take, show cur'.toList.length = G * 7 from Array.length_toList.trans q5, Nat.min_eq_left (by omega)]
  · rw [if_neg hc] at h
    exact absurd h (by simp)
theorem slices_Insert_Channel.split {w : World} {base : Nat} {ok : Nat → Prop} {v : Value} {xs : List (S25)} (h : Kd.S k25 25 w base ok v xs) : (∀ k, v.ownBlock = some k → ok k) ∧ ∃ (f : Nat → Nat) (rows : List (List Value)), rows.length = xs.length ∧ (Kd.raw 7).R 25 w base (fun k => some k = v.ownBlock) v rows ∧
    ∀ j x c, xs[j]? = some x → rows[j]? = some c → Kd.M k25 w base (fun k => (ok k ∧ some k ≠ v.ownBlock) ∧ f k = j) x c := by
  obtain ⟨f, h0, inner, ho, hr⟩ := h
  rw [List.length_zipIdx] at ho
  refine ⟨h0, f, Kd.chunks 7 xs.length inner, Kd.chunks_length _ _ _, ⟨fun k hk => hk.symm, inner, by rw [Kd.chunks_length]; exact ho, ?_⟩, fun j x c hx hc => ?_⟩
  · have hlen := hr.1
    rw [List.length_zipIdx] at hlen
    refine ⟨by rw [Kd.chunks_length]; exact hlen, fun j p hj => ?_⟩
    have hjl : j < xs.length := by have := (List.getElem?_eq_some_iff.1 hj).1; rwa [Kd.chunks_length] at this
    have hp := Kd.chunks_get hj
    have hM := hr.2 j (xs[j], j) (Kd.zip_at (List.getElem?_eq_getElem hjl))
    exact ⟨hp.symm, Kd.K_len _ (Kd.K_of_M k25 hM), Kd.K_one _ (Kd.K_of_M k25 hM)⟩
  · rw [Kd.chunks_get hc]
    exact hr.2 j (x, j) (Kd.zip_at hx)
theorem slices_Insert_Channel.join {w : World} {base : Nat} {ok : Nat → Prop} {v : Value} {xs : List (S25)} (h0 : ∀ k, v.ownBlock = some k → ok k) (f : Nat → Nat) (rows : List (List Value)) (hl : rows.length = xs.length) (hR : (Kd.raw 7).R 25 w base (fun _ => True) v rows)
    (he : ∀ j x c, xs[j]? = some x → rows[j]? = some c → Kd.M k25 w base (fun k => (ok k ∧ some k ≠ v.ownBlock) ∧ f k = j) x c) : Kd.S k25 25 w base ok v xs := by
  obtain ⟨_, inner, ho, hr⟩ := hR
  rw [hl] at ho
  refine ⟨f, h0, inner, by rw [List.length_zipIdx]; exact ho, by rw [List.length_zipIdx, ← hl]; exact hr.1, fun j p hj => ?_⟩
  obtain ⟨x, i⟩ := p
  rw [List.getElem?_zipIdx] at hj
  obtain ⟨y, hy, e⟩ := Option.map_eq_some_iff.1 hj
  simp only [Nat.zero_add, Prod.mk.injEq] at e
  obtain ⟨e1, e2⟩ := e
  subst e1; subst e2
  have hjl : j < rows.length := by rw [hl]; exact (List.getElem?_eq_some_iff.1 hy).1
  have hc := (hr.2 j _ (List.getElem?_eq_getElem hjl)).1
  have := he j y _ hy (List.getElem?_eq_getElem hjl)
  rw [← hc] at this
  exact this
def slices_Insert_Channel.f (l0 : List (S25)) (a1 : Int) (l2 : List (S25)) : Option (List (S25)) := if 0 ≤ a1 ∧ a1 ≤ (l0.length : Int) ∧ l2.length = 1 ∧ l0.length + 1 < 1954687338268 then (some (l0.take a1.toNat ++ l2 ++ l0.drop a1.toNat)) else (none)
theorem slices_Insert_Channel.at_ {β : Type} {l0 l2 : List β} {i : Nat} (hi : i ≤ l0.length) (h2 : l2.length = 1) (j : Nat) : (l0.take i ++ l2 ++ l0.drop i)[j]? = if j < i then l0[j]? else if j = i then l2[0]? else l0[j - 1]? := by
  by_cases h : j < i
  · rw [if_pos h, List.append_assoc, List.getElem?_append_left (by rw [List.length_take]; omega), List.getElem?_take, if_pos h]
  · rw [if_neg h, List.append_assoc, List.getElem?_append_right (by rw [List.length_take]; omega), List.length_take, Nat.min_eq_left hi]
    by_cases h3 : j = i
    · rw [if_pos h3, List.getElem?_append_left (by omega)]
      congr 1; omega
    · rw [if_neg h3, List.getElem?_append_right (by omega), List.getElem?_drop]
      congr 1; omega
open Classical in
set_option maxHeartbeats 1000000 in
theorem slices_Insert_Channel.calls (P0_ : Nat → Prop) (u9000_ : Value) (l0 : List (S25)) (a1 : Int) (P2_ : Nat → Prop) (u9001_ : Value) (l2 : List (S25)) (r : List (S25)) (w0 w : World) (hB : Below w0.heap.size w0 w) (ho0 : Kd.S k25 25 w w0.heap.size P0_ u9000_ l0) (hp0_2 : ∀ k_, P0_ k_ → ¬ P2_ k_) (ho2 : Kd.S k25 25 w w0.heap.size P2_ u9001_ l2) (hp2_0 : ∀ k_, P2_ k_ → ¬ P0_ k_) (h : slices_Insert_Channel.f l0 a1 l2 = some r) :
    Calls Try.prog 101 #[u9000_, .int .i64 a1, u9001_] w fun e w' => ∃ v0_ : Value, e = .returned (v0_) ∧ Kd.S k25 25 w' w0.heap.size (fun k_ => ((P0_ k_ ∨ P2_ k_) ∨ w.heap.size ≤ k_)) v0_ r ∧ Below w0.heap.size w0 w' ∧ Kept w w' (fun k_ => P0_ k_ ∨ P2_ k_) := by
  unfold slices_Insert_Channel.f at h
  by_cases hc : 0 ≤ a1 ∧ a1 ≤ (l0.length : Int) ∧ l2.length = 1 ∧ l0.length + 1 < 1954687338268
  · rw [if_pos hc] at h
    obtain ⟨c1, c2, c3, c4⟩ := hc
    obtain rfl := Option.some.inj h
    obtain ⟨q0, f0, rows0, l0r, R0, E0⟩ := slices_Insert_Channel.split ho0
    obtain ⟨q2, f2, rows2, l2r, R2, E2⟩ := slices_Insert_Channel.split ho2
    have hlt0 := Kd.S_lt ho0
    have hlt2 := Kd.S_lt ho2
    obtain ⟨i, rfl⟩ := Int.eq_ofNat_of_zero_le c1
    rw [Int.toNat_natCast]
    have hi : i ≤ l0.length := by omega
    have hraw : slices_Insert_Channel_raw.f rows0 (i : Int) rows2 = some (rows0.take i ++ rows2 ++ rows0.drop i) := by
      unfold slices_Insert_Channel_raw.f
      rw [if_pos ⟨by omega, by omega, by omega, by omega⟩, Int.toNat_natCast]
    refine (slices_Insert_Channel_raw.calls (fun k => some k = u9000_.ownBlock) u9000_ rows0 (i : Int) (fun k => some k = u9001_.ownBlock) u9001_ rows2 _ w0 w hB R0 (fun k e e2 => hp0_2 k (q0 k e.symm) (q2 k e2.symm)) R2 (fun k e e2 => hp2_0 k (q2 k e.symm) (q0 k e2.symm)) hraw).mono ?_
    rintro e w' ⟨v, rfl, RR, hB', hK⟩
    have hv : ∀ k, v.ownBlock = some k → (some k = u9000_.ownBlock ∨ some k = u9001_.ownBlock) ∨ w.heap.size ≤ k := RR.1
    have hK' : ∀ k, k < w.heap.size → some k ≠ u9000_.ownBlock → some k ≠ u9001_.ownBlock → w'.heap[k]? = w.heap[k]? := fun k hk h1 h2 => hK.2 k hk (fun e => e.elim h1 h2)
    refine ⟨v, rfl, slices_Insert_Channel.join (fun k hk => ?_) (fun k => if P2_ k then i else if f0 k < i then f0 k else f0 k + 1) _ ?_ (Kd.R_mono RR (fun _ _ => trivial)) (fun j x c hx hcj => ?_), hB', ?_⟩
    · rcases hv k hk with (h1 | h1) | h1
      · exact .inl (.inl (q0 k h1.symm))
      · exact .inl (.inr (q2 k h1.symm))
      · exact .inr h1
    · simp only [List.length_append, List.length_take, List.length_drop]; omega
    · rw [slices_Insert_Channel.at_ hi c3] at hx
      rw [slices_Insert_Channel.at_ (by omega) (by omega)] at hcj
      have move0 : ∀ (j' : Nat) (x : _) (c : List Value), l0[j']? = some x → rows0[j']? = some c → (∀ k, f0 k = j' → (if f0 k < i then f0 k else f0 k + 1) = j) → Kd.M k25 w' w0.heap.size (fun k => ((((P0_ k ∨ P2_ k) ∨ w.heap.size ≤ k)) ∧ some k ≠ v.ownBlock) ∧ (if P2_ k then i else if f0 k < i then f0 k else f0 k + 1) = j) x c := by
        intro j' x c hx hcj hf
        have hM := Kd.M_bound _ (E0 j' x c hx hcj)
        have hne2 : ∀ k, P0_ k → some k ≠ u9001_.ownBlock := fun k hk e => hp0_2 k hk (q2 k e.symm)
        have hM2 := Kd.M_move k25 (w1 := w') (fun k hk => hK' k hk.2.2.1 hk.1.1.2 (hne2 k hk.1.1.1)) hM
        refine Kd.M_mono _ (fun k hk => ⟨⟨.inl (.inl hk.1.1.1), fun e => ?_⟩, ?_⟩) hM2
        · rcases hv k e.symm with (h1 | h1) | h1
          · exact hk.1.1.2 h1
          · exact hne2 k hk.1.1.1 h1
          · have := hk.2.2.1; omega
        · rw [if_neg (hp0_2 k hk.1.1.1)]
          exact hf k hk.1.2
      by_cases h1 : j < i
      · rw [if_pos h1] at hx hcj
        exact move0 j x c hx hcj (fun k e => by rw [e, if_pos h1])
      · rw [if_neg h1] at hx hcj
        by_cases h2 : j = i
        · rw [if_pos h2] at hx hcj
          have hM := Kd.M_bound _ (E2 0 x c hx hcj)
          have hne0 : ∀ k, P2_ k → some k ≠ u9000_.ownBlock := fun k hk e => hp2_0 k hk (q0 k e.symm)
          have hM2 := Kd.M_move k25 (w1 := w') (fun k hk => hK' k hk.2.2.1 (hne0 k hk.1.1.1) hk.1.1.2) hM
          refine Kd.M_mono _ (fun k hk => ⟨⟨.inl (.inr hk.1.1.1), fun e => ?_⟩, ?_⟩) hM2
          · rcases hv k e.symm with (h3 | h3) | h3
            · exact hne0 k hk.1.1.1 h3
            · exact hk.1.1.2 h3
            · have := hk.2.2.1; omega
          · rw [if_pos hk.1.1.1]; exact h2.symm
        · rw [if_neg h2] at hx hcj
          refine move0 (j - 1) x c hx hcj (fun k e => ?_)
          rw [e, if_neg (by omega)]; omega
    · exact ⟨hK.1, fun k hk hn => hK.2 k hk (fun e => hn (e.elim (fun e => .inl (q0 k e.symm)) (fun e => .inr (q2 k e.symm))))⟩
  · rw [if_neg hc] at h
    exact absurd h (by simp)

/-! ### slices_Clone_Hold: function 89 (by hand) -/
def slices_Clone_Hold.f (l0 : List (S44)) : Option (List (S44)) := if l0.length < 8796093022208 then (some l0) else (none)
set_option maxHeartbeats 8000000 in
set_option maxRecDepth 100000 in
theorem slices_Clone_Hold.calls (A0 : Option Addr) (c0 : Nat) (l0 : List (S44)) (r : List (S44)) (w : World) (hr0 : Kd.C k44 w A0 l0.length l0) (hc0 : l0.length ≤ c0) (h : slices_Clone_Hold.f l0 = some r) :
    Calls Try.prog 89 #[.slice A0 l0.length c0] w fun e w' => ∃ v0_ : Value, e = .returned (v0_) ∧ Kd.R k44 44 w' w.heap.size (fun _ => True) v0_ r ∧ Below w.heap.size w w' := by
  have H : (if l0.length < 8796093022208 then (some l0) else (none)) = some r := h
  clear h
  cases A0 with
  | none =>
    have hl : l0 = [] := C_none_ hr0
    subst hl
    have hr : r = [] := by simpa using H.symm
    subst hr
    clear H hr0
    have hnil := fun W => Lib.run_eql_slice_nil (P := Try.prog) W 23 44 none 0 c0 0 0 Try.underlying23
    go_enter Try.func89, Try.ntmps89
    go_wp2
    go_ret
    exact ⟨_, rfl, Kd.R_nil _ _ _ _ _, Below.refl _ _⟩
  | some A0 =>
    have HR0 := aM_ hr0
    have HC0 := aM_ hc0
    clear hr0 hc0
    have HB := aM_ (Below.refl w.heap.size w)
    by_cases c2 : l0.length < 8796093022208
    · rw [if_pos c2] at H
      have LMc2 := aM_ c2
      clear c2
      obtain rfl := Option.some.inj H
      have hnil := fun W => Lib.run_eql_slice_nil (P := Try.prog) W 23 44 (some A0) l0.length c0 0 0 Try.underlying23
      go_enter Try.func89, Try.ntmps89
      go_wp2_with (first | ((with_reducible refine gate_dst (N := 5) rfl ?_); refine Kd.R_lit k44 _ 44 ?hg (N := 5) ?hd (xs := ([] : List (S44))) (inner := []) (ok := fun _ => True) (okp := fun _ => True) ?hr ?hp (fun _ hk => hk) trivial (Below.refl _ _) (Nat.le_refl _) (by simp) ?_; (case hd => rfl); (case hg => rfl); (case hr => ((go_simp; done))); (case hp => exact (Reps.none _ _)); intro v141 w3 ho4 hb hg_ hnew_; clear hg_ hnew_; have HO142 := aM_ (Kd.R_lower ho4 (below_size (by repeat (((with_reducible (exact HB.out))))))); replace HB := aM_ (below_step (by repeat (((with_reducible (exact HB.out))))) hb); clear hb ho4) | ((with_reducible refine gate_builtin (b := .append) (xs := #[.tmp 5, .tmp 6]) rfl ?_); at_builtin; refine Kd.R_append_rows k44 (w0 := w) w.heap.size rfl (.tmp 5) (.tmp 6) 23 44 (.agg #[(.int .u64 0), (.int .u64 0)]) 16 rfl Try.underlying23 info44 rfl (by decide) (by omega) v141 [] l0 _ _ _ (fun _ => True) (fun _ => False) rfl rfl ?aO ?aR (fun _ _ h => h) (fun _ h => h.elim) ?aF ?aB ?aS ?aL ?_; (case aR => repeat ((exact (Kd.C_below HR0.out HB.out)))); (case aB => exact (by repeat (((with_reducible (exact HB.out)))))); (case aF => exact (fun _ _ => trivial)); (case aO => exact (by exact HO142.out)); (case aS => exact (below_size (by repeat (((with_reducible (exact HB.out))))))); (case aL => have := LMc2.out; simp only [List.length_nil]; omega); intro v144 w5 ho hb hg hat; rw [List.nil_append] at ho; replace HB := aM_ (hb); have HO145 := aM_ (ho); clear HO142; clear ho hb hg hat))
      go_ret
      exact ⟨_, by (rfl), by exact HO145.out, by repeat (((with_reducible (exact HB.out))))⟩
    · rw [if_neg c2] at H
      exact absurd H (by simp)

/-! ### ledger_own: function 103 -/
def ledger_own.f (a0_0 : Int) (a0_1 : Int) (a0_2 : Int) (a0_3 : Int) (a0_4 : Int) (l0_5 : List (S44)) (a0_6 : Bool) : Option (Int × Int × Int × Int × Int × (List (S44)) × Bool) := (slices_Clone_Hold.f l0_5).bind fun t141 => (some (a0_0, a0_1, a0_2, a0_3, a0_4, t141, a0_6))
set_option maxHeartbeats 8000000 in
set_option maxRecDepth 100000 in
theorem ledger_own.calls (a0_0 : Int) (a0_1 : Int) (a0_2 : Int) (a0_3 : Int) (a0_4 : Int) (A0_5 : Option Addr) (c0_5 : Nat) (l0_5 : List (S44)) (a0_6 : Bool) (r1 : Int) (r2 : Int) (r3 : Int) (r4 : Int) (r5 : Int) (r6 : List (S44)) (r7 : Bool) (w : World) (hr0_5 : Kd.C k44 w A0_5 l0_5.length l0_5) (hc0_5 : l0_5.length ≤ c0_5) (h : ledger_own.f a0_0 a0_1 a0_2 a0_3 a0_4 l0_5 a0_6 = some (r1, r2, r3, r4, r5, r6, r7)) :
    Calls Try.prog 103 #[.agg #[.int .u64 a0_0, .int .u64 a0_1, .int .u64 a0_2, .int .u64 a0_3, .int .u64 a0_4, .slice A0_5 l0_5.length c0_5, .bool a0_6]] w fun e w' => ∃ v5_ : Value, e = .returned (.agg #[.int .u64 r1, .int .u64 r2, .int .u64 r3, .int .u64 r4, .int .u64 r5, v5_, .bool r7]) ∧ Kd.R k44 44 w' w.heap.size (fun _ => True) v5_ r6 ∧ Below w.heap.size w w' := by
  have hu25 := Try.underlying25
  have HR0_5 := aM_ hr0_5
  have HC0_5 := aM_ hc0_5
  clear hr0_5 hc0_5
  have HB := aM_ (Below.refl w.heap.size w)
  have H : ((slices_Clone_Hold.f l0_5).bind fun t141 => (some (a0_0, a0_1, a0_2, a0_3, a0_4, t141, a0_6))) = some (r1, r2, r3, r4, r5, r6, r7) := h
  clear h
  replace H := oB_ H
  obtain ⟨t141, A20, H⟩ := H
  replace H : (some (a0_0, a0_1, a0_2, a0_3, a0_4, t141, a0_6)) = some (r1, r2, r3, r4, r5, r6, r7) := H
  have A2 := aM_ A20
  clear A20
  simp only [Option.some.injEq, Prod.mk.injEq] at H
  obtain ⟨rfl, rfl, rfl, rfl, rfl, rfl, rfl⟩ := H
  go_enter Try.func103, Try.ntmps103
  go_wp2_with (first | ((with_reducible refine gate_dst (N := 1) rfl ?_); refine box_event ?hg (N := 1) ?hd (cs := #[.int .u64 a0_0, .int .u64 a0_1, .int .u64 a0_2, .int .u64 a0_3, .int .u64 a0_4, .slice A0_5 l0_5.length c0_5, .bool a0_6]) (t := 25) ?hr ?_; (case hd => rfl); (case hg => rfl); (case hr => ((go_simp; done))); intro gb139 hg w3 hbox hb; have BK139 := aM_ (hbox); have GW139 := aM_ (geN HB hg); have GE139 := aM_ (geN HB hg); replace HB := bsA_ HB hb; clear hb hbox hg) | ((with_reducible refine gate_dst (N := 2) rfl ?_); refine box_event ?hg (N := 2) ?hd (cs := #[.int .u64 0, .int .u64 0, .int .u64 0, .int .u64 0, .int .u64 0, .slice none 0 0, .bool false]) (t := 25) ?hr ?_; (case hd => rfl); (case hg => rfl); (case hr => ((go_simp; done))); intro gb140 hg w4 hbox hb; have BK140 := aM_ (hbox); have GW140 := aM_ (geN HB hg); have GE140 := aM_ (geN HB hg); replace HB := bsA_ HB hb; have NB139_140 := aM_ (neN BK139 hg); have NB140_139 := aM_ (neN' BK139 hg); replace BK139 := bbA_ BK139 hb; clear hb hbox hg; have hnb5 := NB139_140.out; have hnc5 := NB140_139.out; obtain ⟨hcz6_0, hcz6_1, hcz6_2, hcz6_3, hcz6_4, hcz6_5, hcz6_6, hfz6_0, hfz6_1, hfz6_2, hfz6_3, hfz6_4, hfz6_5, hfz6_6⟩ := cz7_ (w := w4) BK139.out) | ((with_reducible refine gate_callee (f := 89) rfl ?_); refine gL_ 5 Try.func89 #[.slice A0_5 l0_5.length c0_5] ?_; (with_reducible refine (slices_Clone_Hold.calls _ _ l0_5 t141 _ ?side1 ?side2 A2.out).mono ?_); (case side1 => repeat ((exact (Kd.C_below HR0_5.out HB.out)))); (case side2 => exact HC0_5.out); rintro e w7 ⟨v142, rfl, ho0, hb⟩; refine ⟨_, rfl, ?_⟩; have HO143 := aM_ (Kd.R_lower ho0 (below_size (belN HB))); replace BK139 := bbA_ BK139 hb; replace BK140 := bbA_ BK140 hb; replace HB := bsA_ HB hb; (try clear hb); (try clear ho0); obtain ⟨Ao8, co8, eo8⟩ := Kd.R_slice HO143.out; subst eo8; obtain ⟨hcz9_0, hcz9_1, hcz9_2, hcz9_3, hcz9_4, hcz9_5, hcz9_6, hfz9_0, hfz9_1, hfz9_2, hfz9_3, hfz9_4, hfz9_5, hfz9_6⟩ := cz7_ (w := w7) BK139.out; obtain ⟨hcz10_0, hcz10_1, hcz10_2, hcz10_3, hcz10_4, hcz10_5, hcz10_6, hfz10_0, hfz10_1, hfz10_2, hfz10_3, hfz10_4, hfz10_5, hfz10_6⟩ := cz7_ (w := w7) BK140.out))
  refine bodyPost_ret (results_cell_row rfl _ _ gb140 25 #[.int .u64 a0_0, .int .u64 a0_1, .int .u64 a0_2, .int .u64 a0_3, .int .u64 a0_4, .slice Ao8 t141.length co8, .bool a0_6] (0, 0) _ rfl (by apply bp7_; refine blk_far ?_ NB140_139.out _; exact BK140.out) Try.underlying25 rfl (by kernel_rfl)) rfl ?_
  exact ⟨_, by (rfl), by exact Kd.R_mono (Kd.R_far (p := ⟨gb140, 6, none⟩) (Kd.R_far (p := ⟨gb140, 5, none⟩) (Kd.R_far (p := ⟨gb140, 4, none⟩) (Kd.R_far (p := ⟨gb140, 3, none⟩) (Kd.R_far (p := ⟨gb140, 2, none⟩) (Kd.R_far (p := ⟨gb140, 1, none⟩) (Kd.R_far (p := ⟨gb140, 0, none⟩) (Kd.R_far (p := ⟨gb139, 5, none⟩) (Kd.R_types (Kd.R_types HO143.out BK139.out (by decide)) BK140.out (by decide)) (fun _ hk => hk.1.2) (.slice Ao8 t141.length co8)) (fun _ hk => hk.2) (.int .u64 a0_0)) (fun _ hk => hk.2) (.int .u64 a0_1)) (fun _ hk => hk.2) (.int .u64 a0_2)) (fun _ hk => hk.2) (.int .u64 a0_3)) (fun _ hk => hk.2) (.int .u64 a0_4)) (fun _ hk => hk.2) (.slice Ao8 t141.length co8)) (fun _ hk => hk.2) (.bool a0_6)) (fun _ hk => trivial), by repeat (((with_reducible first | exact HB.out | refine below_set ?_ GE139.out | refine below_set ?_ GE140.out)))⟩

-- NOT PRINTED: function 136 (slices_Clone_Channel)

/-! ### ledger_owns: function 102 (by hand) -/
def slices_Clone_Channel_raw.f (l0 : List (List Value)) : Option (List (List Value)) := if l0.length < 1954687338268 then (some l0) else (none)
set_option maxHeartbeats 8000000 in
set_option maxRecDepth 100000 in
theorem slices_Clone_Channel_raw.calls (A0 : Option Addr) (c0 : Nat) (l0 : List (List Value)) (r : List (List Value)) (w : World) (hr0 : Kd.C (Kd.raw 7) w A0 l0.length l0) (hc0 : l0.length ≤ c0) (h : slices_Clone_Channel_raw.f l0 = some r) :
    Calls Try.prog 136 #[.slice A0 l0.length c0] w fun e w' => ∃ v0_ : Value, e = .returned (v0_) ∧ Kd.R (Kd.raw 7) 25 w' w.heap.size (fun _ => True) v0_ r ∧ Below w.heap.size w w' := by
  have H : (if l0.length < 1954687338268 then (some l0) else (none)) = some r := h
  clear h
  cases A0 with
  | none =>
    have hl : l0 = [] := C_none_ hr0
    subst hl
    have hr : r = [] := by simpa using H.symm
    subst hr
    clear H hr0
    have hnil := fun W => Lib.run_eql_slice_nil (P := Try.prog) W 47 25 none 0 c0 0 0 Try.underlying47
    go_enter Try.func136, Try.ntmps136
    go_wp2
    go_ret
    exact ⟨_, rfl, Kd.R_nil _ _ _ _ _, Below.refl _ _⟩
  | some A0 =>
    have HR0 := aM_ hr0
    have HC0 := aM_ hc0
    clear hr0 hc0
    have HB := aM_ (Below.refl w.heap.size w)
    by_cases c2 : l0.length < 1954687338268
    · rw [if_pos c2] at H
      have LMc2 := aM_ c2
      clear c2
      obtain rfl := Option.some.inj H
      have hnil := fun W => Lib.run_eql_slice_nil (P := Try.prog) W 47 25 (some A0) l0.length c0 0 0 Try.underlying47
      go_enter Try.func136, Try.ntmps136
      go_wp2_with (first | ((with_reducible refine gate_dst (N := 5) rfl ?_); refine Kd.R_lit (Kd.raw 7) _ 25 ?hg (N := 5) ?hd (xs := ([] : List (List Value))) (inner := []) (ok := fun _ => True) (okp := fun _ => True) ?hr ?hp (fun _ hk => hk) trivial (Below.refl _ _) (Nat.le_refl _) (by simp) ?_; (case hd => rfl); (case hg => rfl); (case hr => ((go_simp; done))); (case hp => exact (Reps.none _ _)); intro v141 w3 ho4 hb hg_ hnew_; clear hg_ hnew_; have HO142 := aM_ (Kd.R_lower ho4 (below_size (by repeat (((with_reducible (exact HB.out))))))); replace HB := aM_ (below_step (by repeat (((with_reducible (exact HB.out))))) hb); clear hb ho4) | ((with_reducible refine gate_builtin (b := .append) (xs := #[.tmp 5, .tmp 6]) rfl ?_); at_builtin; refine Kd.R_append_rows (Kd.raw 7) (w0 := w) w.heap.size rfl (.tmp 5) (.tmp 6) 47 25 (.agg #[(.int .u64 0), (.int .u64 0), (.int .u64 0), (.int .u64 0), (.int .u64 0), (.slice none 0 0), (.bool false)]) 72 rfl Try.underlying47 info25 rfl (by decide) (by omega) v141 [] l0 _ _ _ (fun _ => True) (fun _ => False) rfl rfl ?aO ?aR (fun _ _ h => h) (fun _ h => h.elim) ?aF ?aB ?aS ?aL ?_; (case aR => repeat ((exact (Kd.C_below HR0.out HB.out)))); (case aB => exact (by repeat (((with_reducible (exact HB.out)))))); (case aF => exact (fun _ _ => trivial)); (case aO => exact (by exact HO142.out)); (case aS => exact (below_size (by repeat (((with_reducible (exact HB.out))))))); (case aL => have := LMc2.out; simp only [List.length_nil]; omega); intro v144 w5 ho hb hg hat; rw [List.nil_append] at ho; replace HB := aM_ (hb); have HO145 := aM_ (ho); clear HO142; clear ho hb hg hat))
      go_ret
      exact ⟨_, by (rfl), by exact HO145.out, by repeat (((with_reducible (exact HB.out))))⟩
    · rw [if_neg c2] at H
      exact absurd H (by simp)

def ledger_owns.f (l0 : List S25) : Option (List S25) := if l0.length ≤ 1000 ∧ l0.all (fun x => decide (x.f5.length ≤ 1000)) = true then some l0 else none
theorem owns_eq {l m : List S25} (h : ledger_owns.f l = some m) : m = l := by
  unfold ledger_owns.f at h
  by_cases q : l.length ≤ 1000 ∧ l.all (fun x => decide (x.f5.length ≤ 1000)) = true
  · rw [if_pos q] at h; injection h with h; exact h.symm
  · rw [if_neg q] at h; cases h
theorem own_eq (x : S25) (h : x.f5.length ≤ 1000) : ledger_own.f x.f0 x.f1 x.f2 x.f3 x.f4 x.f5 x.f6 = some (x.f0, x.f1, x.f2, x.f3, x.f4, x.f5, x.f6) := by
  unfold ledger_own.f slices_Clone_Hold.f
  rw [if_pos (by omega)]
  rfl
/-- How far the row's channels have been made. -/
def Half (w wr : World) (B i : Nat) (xs : List S25) (rows : List (List Value)) : Prop := ∀ (j : Nat) (x : S25), xs[j]? = some x → ∃ cs, rows[j]? = some cs ∧ (j < i → Ch wr B x cs) ∧ (i ≤ j → Ch0 w x cs)
theorem Half.step {w wr w2 w3 : World} {B i g : Nat} {xs : List S25} {rows : List (List Value)} {cur : Array Value} {x : S25} {cs : List Value} (h : Half w wr B i xs rows) (hb : Below wr.heap.size wr w2) (hg : w2.grownBy w3 (some g)) (hc : w2.heap[g]? = some (.cells cur 25 (0, 0))) (hx : xs[i]? = some x) (hn : Ch w2 B x cs) : Half w w3 B (i + 1) xs (rows.set i cs) := by
  intro j y hj
  obtain ⟨c0, q1, q2, q3⟩ := h j y hj
  have hjl : j < rows.length := (List.getElem?_eq_some_iff.1 q1).1
  by_cases e : j = i
  · subst e
    rw [hx] at hj
    injection hj with hj
    subst hj
    exact ⟨cs, List.getElem?_set_self hjl, fun _ => hn.grown hg hc, fun h => absurd h (by omega)⟩
  · exact ⟨c0, by rw [List.getElem?_set_ne (by omega)]; exact q1, fun h => ((q2 (by omega)).below hb).grown hg hc, fun h => q3 (by omega)⟩
set_option maxHeartbeats 8000000 in
set_option maxRecDepth 100000 in
theorem ledger_owns.calls (A0 : Option Addr) (c0 : Nat) (l0 : List S25) (r : List S25) (w : World) (hr0 : Kd.C k25 w A0 l0.length l0) (hc0 : l0.length ≤ c0) (h : ledger_owns.f l0 = some r) :
    Calls Try.prog 102 #[.slice A0 l0.length c0] w fun e w' => ∃ v : Value, e = .returned v ∧ Own25 w' w.heap.size v r ∧ Below w.heap.size w w' := by
  unfold ledger_owns.f at h
  by_cases hc : l0.length ≤ 1000 ∧ l0.all (fun x => decide (x.f5.length ≤ 1000)) = true
  case neg => rw [if_neg hc] at h; cases h
  rw [if_pos hc] at h
  injection h with h
  subst h
  obtain ⟨hlen, hall⟩ := hc
  obtain ⟨rows0, hC, hrl, hrow⟩ := raw_of_C hr0
  have CL := slices_Clone_Channel_raw.calls A0 c0 rows0 rows0 w (by rw [hrl]; exact hC) (by rw [hrl]; exact hc0) (by unfold slices_Clone_Channel_raw.f; rw [if_pos (by omega)])
  rw [hrl] at CL
  have HCL := aM_ CL
  have HRL := aM_ hrl
  have HH : Aside0 (Half w w w.heap.size 0 l0 rows0) := ⟨fun j x hj => by obtain ⟨cs, q1, q2⟩ := hrow j x hj; exact ⟨cs, q1, fun h => absurd h (by omega), fun _ => q2⟩⟩
  have HALL := aM_ hall
  have HR0 := aM_ hr0
  clear CL hC hrl hrow hall hr0 hc0
  go_enter Try.func102, Try.ntmps102
  go_wp2_with (go_at_call 136; refine HCL.out.mono ?_; rintro e w1 ⟨v, rfl, ho, hb⟩; clear HCL; obtain ⟨A1, c1, hv⟩ := Kd.R_slice ho; rw [HRL.out] at hv; subst hv; have HR := aM_ ho; have HB := aM_ hb; clear ho hb)
  have HH1 : Aside0 (Half w w1 w.heap.size 0 l0 rows0) := ⟨fun j x hj => by obtain ⟨cs, q1, q2, q3⟩ := HH.out j x hj; exact ⟨cs, q1, fun h => absurd h (by omega), q3⟩⟩
  clear HH
  go_loopw [9] (fun vi wr => ∃ (i : Nat) (rows : List (List Value)), i ≤ l0.length ∧ vi = .int .i64 i ∧ Aside0 (Kd.R (Kd.raw 7) 25 wr w.heap.size (fun _ => True) (.slice A1 l0.length c1) rows) ∧ Aside0 (rows.length = l0.length) ∧ Aside0 (Half w wr w.heap.size i l0 rows) ∧ Aside0 (Below w.heap.size w wr)) (fun vi _ => l0.length - (intOf vi).toNat)
  case atStart => exact ⟨0, rows0, Nat.zero_le _, rfl, HR, HRL, HH1, HB⟩
  case round =>
   clear HR HRL HH1 HB
   obtain ⟨i, rows, hi, rfl, HR, HRL, HH, HB⟩ := hrel
   by_cases hil : i < l0.length
   · obtain ⟨g, cap, hv, hbg, hgl, cur, hblk⟩ := Kd.R_form HR.out (by rw [HRL.out]; omega)
     injection hv with hv1 hv2 hv3
     subst hv1 hv3
     clear hv2
     obtain ⟨x, hx⟩ : ∃ x, l0[i]? = some x := ⟨_, List.getElem?_eq_getElem hil⟩
     obtain ⟨cs, q1, _, q3⟩ := HH.out i x hx
     obtain ⟨A5, c5, hcs, hl5, hi5⟩ := q3 (Nat.le_refl _)
     have hxl : x.f5.length ≤ 1000 := of_decide_eq_true (List.all_eq_true.1 HALL.out x (List.mem_of_getElem? hx))
     have hCr := (Kd.R_reads' HR.out).2.2
     obtain ⟨ad, ea, hcell⟩ := hCr.2.2 (by have := HRL.out; omega)
     injection ea with ea
     subst ea
     obtain ⟨c', r1, r2, r3⟩ := hcell i cs q1
     have e1 : c' = cs := r2.1
     subst e1
     have HCC : Aside0 (∀ j u, c'[j]? = some u → wr.cell? ⟨g, i * 7 + j, none⟩ = some u) := ⟨fun j u hj => by have := r3 j u hj; rw [add_plain] at this; exact this⟩
     subst hcs
     have hx0 : wr.cell? ⟨g, i * 7, none⟩ = some (.int .u64 x.f0) := HCC.out 0 _ rfl
     have hx1 := HCC.out 1 _ rfl
     have hx2 := HCC.out 2 _ rfl
     have hx3 := HCC.out 3 _ rfl
     have hx4 := HCC.out 4 _ rfl
     have hx5 := HCC.out 5 _ rfl
     have hx6 := HCC.out 6 _ rfl
     have HX := aM_ hx
     have HL5 := aM_ hl5
     have HI5 := aM_ hi5
     have HXL := aM_ hxl
     have HBG := aM_ hbg
     have HGL := aM_ hgl
     have HBLK := aM_ hblk
     clear hx q1 q3 hl5 hi5 hxl hCr hcell r1 r2 r3 hbg hgl hblk
     go_wp2_with (first | (go_at_call 103; have hal := (Below.refl wr.heap.size wr).alloc (Nat.le_refl _) (.cells #[.int .u64 x.f0, .int .u64 x.f1, .int .u64 x.f2, .int .u64 x.f3, .int .u64 x.f4, .slice A5 x.f5.length c5, .bool x.f6] 25); refine (ledger_own.calls x.f0 x.f1 x.f2 x.f3 x.f4 A5 c5 x.f5 x.f6 x.f0 x.f1 x.f2 x.f3 x.f4 x.f5 x.f6 _ (Kd.C_below HI5.out (below_then HB.out HB.out.size hal)) HL5.out (own_eq x HXL.out)).mono ?_; rintro e w2 ⟨v5, rfl, ho, hb⟩; obtain ⟨An, cn, hv⟩ := Kd.R_slice ho; subst hv; have hb2 := below_then hal hal.size hb; have HB2 := aM_ hb2; have HBW := aM_ (below_then HB.out HB.out.size hb2); have HCH : Aside0 (Ch w2 w.heap.size x [.int .u64 x.f0, .int .u64 x.f1, .int .u64 x.f2, .int .u64 x.f3, .int .u64 x.f4, .slice An x.f5.length cn, .bool x.f6]) := ⟨⟨An, cn, rfl, (Kd.R_reads' ho).2.1, (Kd.R_reads' ho).2.2, row44_of_R ho (Nat.le_trans HB.out.size hal.size)⟩⟩; have HRA := aM_ (Kd.R_below HR.out hb2); have HK2 := aM_ (blk_below HBLK.out hb2); clear hal ho hb hb2 hx0 hx1 hx2 hx3 hx4 hx5 hx6 HXL) | ((with_reducible refine gate_ (.store 25 (.tmp 18) (.tmp 17)) rfl ?_); refine Kd.R_store (Kd.raw 7) (w0 := w) w.heap.size rfl rfl 25 (.tmp 18) (.tmp 17) rfl 25 (i : Int) 0 rows [.int .u64 x.f0, .int .u64 x.f1, .int .u64 x.f2, .int .u64 x.f3, .int .u64 x.f4, .slice An x.f5.length cn, .bool x.f6] (.agg #[.int .u64 x.f0, .int .u64 x.f1, .int .u64 x.f2, .int .u64 x.f3, .int .u64 x.f4, .slice An x.f5.length cn, .bool x.f6]) [.int .u64 x.f0, .int .u64 x.f1, .int .u64 x.f2, .int .u64 x.f3, .int .u64 x.f4, .slice An x.f5.length cn, .bool x.f6] [.int .u64 x.f0, .int .u64 x.f1, .int .u64 x.f2, .int .u64 x.f3, .int .u64 x.f4, .slice A5 x.f5.length c5, .bool x.f6] (fun _ => True) (fun _ => False) rfl (by rw [Int.toNat_natCast]; rfl) rfl rfl (by kernel_rfl) (by intro q hq; simp at hq; rcases hq with rfl | rfl | rfl | rfl | rfl | rfl | rfl <;> rfl) HRA.out (by omega) (by omega) rfl (fun j u hj => by rw [Int.toNat_natCast]; exact (HB2.out.cell (p := ⟨g, i * 7 + j, none⟩) HGL.out).trans (HCC.out j u hj)) (Nat.le_refl _) ⟨rfl, rfl, by intro q hq; simp at hq; rcases hq with rfl | rfl | rfl | rfl | rfl | rfl | rfl <;> rfl⟩ (fun _ hk => hk.elim) HBW.out ?_; intro w3 ho3 hb3 hg3; rw [Int.toNat_natCast] at ho3; have HR3 := aM_ ho3; have HB3 := aM_ hb3; have HH3 := aM_ (Half.step HH.out HB2.out hg3 HK2.out HX.out HCH.out); have HRL3 : Aside0 ((rows.set i [.int .u64 x.f0, .int .u64 x.f1, .int .u64 x.f2, .int .u64 x.f3, .int .u64 x.f4, .slice An x.f5.length cn, .bool x.f6]).length = l0.length) := ⟨by rw [List.length_set]; exact HRL.out⟩; clear ho3 hb3 hg3 HRA HBW HCH))
     go_roundw
     case rel => exact ⟨i + 1, _, by omega, by go_num, HR3, HRL3, HH3, HB3⟩
     case measure => simp [intOf]; omega
   · obtain rfl : i = l0.length := by omega
     go_wp2
     go_ret
     refine ⟨_, rfl, ⟨rows, HR.out, HRL.out, fun j x hj => ?_⟩, HB.out⟩
     obtain ⟨cs, q1, q2, _⟩ := HH.out j x hj
     exact ⟨cs, q1, q2 (List.getElem?_eq_some_iff.1 hj).1⟩

/-! ### slices_BinarySearchFunc_uint64_at_ledger_order: function 163 -/
def slices_BinarySearchFunc_uint64_at_ledger_order.l0 : Nat → List (S25) → Int → Int → Int → Int → Option (Int × Bool)
  | 0, _, _, _, _, _ => none
  | k + 1, x0, x1, x8, x9, x10 => if x9 < x10 then (if 0 ≤ (wrap64 ((IntKind.u64.wrap (wrap64 (x9 + x10))) / 2)) then (if (wrap64 ((IntKind.u64.wrap (wrap64 (x9 + x10))) / 2)) < (x0.length : Int) then ((ledger_order.f ((rd_T25 x0 (wrap64 ((IntKind.u64.wrap (wrap64 (x9 + x10))) / 2))).f0) ((rd_T25 x0 (wrap64 ((IntKind.u64.wrap (wrap64 (x9 + x10))) / 2))).f1) ((rd_T25 x0 (wrap64 ((IntKind.u64.wrap (wrap64 (x9 + x10))) / 2))).f2) ((rd_T25 x0 (wrap64 ((IntKind.u64.wrap (wrap64 (x9 + x10))) / 2))).f3) ((rd_T25 x0 (wrap64 ((IntKind.u64.wrap (wrap64 (x9 + x10))) / 2))).f4) ((rd_T25 x0 (wrap64 ((IntKind.u64.wrap (wrap64 (x9 + x10))) / 2))).f5) ((rd_T25 x0 (wrap64 ((IntKind.u64.wrap (wrap64 (x9 + x10))) / 2))).f6) x1).bind fun t145 => (if t145 < 0 then (slices_BinarySearchFunc_uint64_at_ledger_order.l0 k x0 x1 x8 (wrap64 ((wrap64 ((IntKind.u64.wrap (wrap64 (x9 + x10))) / 2)) + 1)) x10) else (slices_BinarySearchFunc_uint64_at_ledger_order.l0 k x0 x1 x8 x9 (wrap64 ((IntKind.u64.wrap (wrap64 (x9 + x10))) / 2))))) else (none)) else (none)) else (if x9 < x8 then (if 0 ≤ x9 then (if x9 < (x0.length : Int) then ((ledger_order.f ((rd_T25 x0 x9).f0) ((rd_T25 x0 x9).f1) ((rd_T25 x0 x9).f2) ((rd_T25 x0 x9).f3) ((rd_T25 x0 x9).f4) ((rd_T25 x0 x9).f5) ((rd_T25 x0 x9).f6) x1).bind fun t147 => (some (x9, (t147 == 0)))) else (none)) else (none)) else (some (x9, false)))
def slices_BinarySearchFunc_uint64_at_ledger_order.f (k : Nat) (l0 : List (S25)) (a1 : Int)  : Option (Int × Bool) := slices_BinarySearchFunc_uint64_at_ledger_order.l0 k l0 a1 (l0.length : Int) 0 (l0.length : Int)
theorem slices_BinarySearchFunc_uint64_at_ledger_order.mono_l : ∀ k, (∀ y0 y1 y2 y3 y4, LeO (slices_BinarySearchFunc_uint64_at_ledger_order.l0 k y0 y1 y2 y3 y4) (slices_BinarySearchFunc_uint64_at_ledger_order.l0 (k + 1) y0 y1 y2 y3 y4))
  | 0 => fun _ _ _ _ _ r h => by simp [slices_BinarySearchFunc_uint64_at_ledger_order.l0] at h
  | k + 1 => by
    have ih0 := slices_BinarySearchFunc_uint64_at_ledger_order.mono_l k
    · intro y0 y1 y2 y3 y4
      unfold slices_BinarySearchFunc_uint64_at_ledger_order.l0
      repeat' first
      | (with_reducible exact ih0 _ _ _ _ _)
      | (with_reducible exact LeO.refl _)
      | (with_reducible refine LeO.ite ?_ ?_)
      | (with_reducible refine LeO.bind ?_ (fun _ => ?_))
      | exact ih0 _ _ _ _ _
      | exact LeO.none _
      | refine LeO.ite ?_ ?_
      | refine LeO.bind ?_ (fun _ => ?_)
theorem slices_BinarySearchFunc_uint64_at_ledger_order.mono : ∀ a0 a1 k, LeO (slices_BinarySearchFunc_uint64_at_ledger_order.f k a0 a1) (slices_BinarySearchFunc_uint64_at_ledger_order.f (k + 1) a0 a1) := by
  intro a0 a1 k
  have ih0 := slices_BinarySearchFunc_uint64_at_ledger_order.mono_l k
  unfold slices_BinarySearchFunc_uint64_at_ledger_order.f
  repeat' first
      | (with_reducible exact ih0 _ _ _ _ _)
      | exact ih0 _ _ _ _ _
      | exact LeO.none _
      | refine LeO.ite ?_ ?_
      | refine LeO.bind ?_ (fun _ => ?_)
set_option maxHeartbeats 8000000 in
set_option maxRecDepth 100000 in
theorem slices_BinarySearchFunc_uint64_at_ledger_order.calls (k : Nat) (A0 : Option Addr) (c0 : Nat) (l0 : List (S25)) (a1 : Int)  (r1 : Int) (r2 : Bool) (w : World) (hr0 : Kd.C k25 w A0 l0.length l0) (hc0 : l0.length ≤ c0) (h : slices_BinarySearchFunc_uint64_at_ledger_order.f k l0 a1 = some (r1, r2)) :
    Calls Try.prog 99 #[.slice A0 l0.length c0, .int .u64 a1, .func (.func 100) #[] #[]] w fun e w' => e = .returned (.tuple #[.int .i64 r1, .bool r2]) ∧ Below w.heap.size w w' := by
  have hu25 := Try.underlying25
  have HR0 := aM_ hr0
  have HC0 := aM_ hc0
  clear hr0 hc0
  have HB := aM_ (Below.refl w.heap.size w)
  have H : (slices_BinarySearchFunc_uint64_at_ledger_order.l0 k l0 a1 (l0.length : Int) 0 (l0.length : Int)) = some (r1, r2) := h
  clear h
  have H' := aM_ H
  clear H
  go_enter Try.func99, Try.ntmps99
  go_wp2
  go_loopg [9, 10] k (fun kq v9 v10 w' => ∃ (x9_1 : Int) (x10_1 : Int), v9 = .int .i64 x9_1 ∧ v10 = .int .i64 x10_1 ∧ Aside0 (slices_BinarySearchFunc_uint64_at_ledger_order.l0 kq l0 a1 (l0.length : Int) x9_1 x10_1 = some (r1, r2)) ∧ Aside0 (kq ≤ k) ∧ Aside0 (Below w.heap.size w w'))
  case atStart => exact ⟨(0), ((l0.length : Int)), (by (rfl)), (by (rfl)), H', ⟨Nat.le_refl _⟩, ⟨by repeat (((with_reducible (exact HB.out))))⟩⟩
  case round =>
    clear H'
    obtain ⟨x9_1, x10_1, rfl, rfl, HA, HK1, HB⟩ := hrel
    cases gk with
    | zero => exact absurd HA.out (by simp [slices_BinarySearchFunc_uint64_at_ledger_order.l0])
    | succ k1 =>
      have H := HA.out
      clear HA
      simp only [slices_BinarySearchFunc_uint64_at_ledger_order.l0] at H
      by_cases c4 : x9_1 < x10_1
      · rw [if_pos c4] at H
        have c4b0 := decide_eq_true c4
        clear c4
        obtain ⟨ji5, hji5⟩ : ∃ j_ : Int, (wrap64 ((IntKind.u64.wrap (wrap64 (x9_1 + x10_1))) / 2)) = j_ := ⟨_, rfl⟩
        replace H : (if 0 ≤ (ji5) then (if (ji5) < (l0.length : Int) then ((ledger_order.f ((rd_T25 l0 (ji5)).f0) ((rd_T25 l0 (ji5)).f1) ((rd_T25 l0 (ji5)).f2) ((rd_T25 l0 (ji5)).f3) ((rd_T25 l0 (ji5)).f4) ((rd_T25 l0 (ji5)).f5) ((rd_T25 l0 (ji5)).f6) a1).bind fun t145 => (if t145 < 0 then (slices_BinarySearchFunc_uint64_at_ledger_order.l0 k1 l0 a1 (l0.length : Int) (wrap64 ((ji5) + 1)) x10_1) else (slices_BinarySearchFunc_uint64_at_ledger_order.l0 k1 l0 a1 (l0.length : Int) x9_1 ji5))) else (none)) else (none)) = some (r1, r2) := by ((rw [hji5] at H; exact H))
        have hji5w : (IntKind.i64.wrap ((IntKind.u64.wrap (wrap64 (x9_1 + x10_1))) / 2)) = ji5 := (i64_w _).trans hji5
        by_cases c6 : 0 ≤ (ji5)
        · rw [if_pos c6] at H
          have c6b0 := decide_eq_true c6
          clear c6
          by_cases c7 : (ji5) < (l0.length : Int)
          · rw [if_pos c7] at H
            have c7b0 := decide_eq_true c7
            clear c7
            replace H := oB_ H
            obtain ⟨t145, A80, H⟩ := H
            replace H : (if t145 < 0 then (slices_BinarySearchFunc_uint64_at_ledger_order.l0 k1 l0 a1 (l0.length : Int) (wrap64 ((ji5) + 1)) x10_1) else (slices_BinarySearchFunc_uint64_at_ledger_order.l0 k1 l0 a1 (l0.length : Int) x9_1 ji5)) = some (r1, r2) := H
            have A8 := aM_ A80
            clear A80
            by_cases c9 : t145 < 0
            · rw [if_pos c9] at H
              have c9b0 := decide_eq_true c9
              clear c9
              have H' := aM_ H
              clear H
              have p144 : 0 ≤ ((ji5) : Int) := of_decide_eq_true (by ((with_reducible assumption)))
              have q144 : (ji5) < (l0.length : Int) := of_decide_eq_true (by ((with_reducible assumption)))
              obtain ⟨ad144, A144_5, c144_5, e144, hx144_0, hx144_1, hx144_2, hx144_3, hx144_4, hx144_5, hx144_6, hl144_5, hi144_5⟩ := at_T25 HR0.out (ji5) p144 q144
              cases e144
              replace hx144_0 := cN_ HB hx144_0
              replace hx144_1 := cN_ HB hx144_1
              replace hx144_2 := cN_ HB hx144_2
              replace hx144_3 := cN_ HB hx144_3
              replace hx144_4 := cN_ HB hx144_4
              replace hx144_5 := cN_ HB hx144_5
              replace hx144_6 := cN_ HB hx144_6
              have HR144_5 := aM_ hi144_5
              have HC144_5 := aM_ hl144_5
              clear hi144_5 hl144_5
              replace p144 := eq_true p144
              replace q144 := eq_true q144
              go_wp2_with ((((with_reducible refine gate_tmp (t_ := 24) rfl ?_); refine goesT_ (some 30) rfl rfl Try.func100 (by kernel_rfl) rfl #[.agg #[.int .u64 ((rd_T25 l0 (ji5)).f0), .int .u64 ((rd_T25 l0 (ji5)).f1), .int .u64 ((rd_T25 l0 (ji5)).f2), .int .u64 ((rd_T25 l0 (ji5)).f3), .int .u64 ((rd_T25 l0 (ji5)).f4), .slice A144_5 ((rd_T25 l0 (ji5)).f5).length c144_5, .bool ((rd_T25 l0 (ji5)).f6)], .int .u64 a1] rfl rfl (by (try simp only [List.map_toArray, List.map_cons, List.map_nil]); (rfl)) ?_; (with_reducible refine (ledger_order.calls ((rd_T25 l0 (ji5)).f0) ((rd_T25 l0 (ji5)).f1) ((rd_T25 l0 (ji5)).f2) ((rd_T25 l0 (ji5)).f3) ((rd_T25 l0 (ji5)).f4) _ _ ((rd_T25 l0 (ji5)).f5) ((rd_T25 l0 (ji5)).f6) a1 t145 _ ?side1 ?side2 A8.out).mono ?_); (case side1 => repeat ((exact (Kd.C_below HR144_5.out HB.out)))); (case side2 => exact HC144_5.out); rintro e w10 ⟨rfl, hb⟩; refine ⟨_, rfl, ?_⟩; replace HB := bsA_ HB hb; (try clear hb))))
              go_roundg k1
              case measure => have := HK1.out; omega
              case rel => exact ⟨(wrap64 ((ji5) + 1)), (x10_1), (by (rfl)), (by (rfl)), H', ⟨by have := HK1.out; omega⟩, ⟨by repeat (((with_reducible (exact HB.out))))⟩⟩
            · rw [if_neg c9] at H
              have c9b0 := decide_eq_false c9
              clear c9
              have H' := aM_ H
              clear H
              have p144 : 0 ≤ ((ji5) : Int) := of_decide_eq_true (by ((with_reducible assumption)))
              have q144 : (ji5) < (l0.length : Int) := of_decide_eq_true (by ((with_reducible assumption)))
              obtain ⟨ad144, A144_5, c144_5, e144, hx144_0, hx144_1, hx144_2, hx144_3, hx144_4, hx144_5, hx144_6, hl144_5, hi144_5⟩ := at_T25 HR0.out (ji5) p144 q144
              cases e144
              replace hx144_0 := cN_ HB hx144_0
              replace hx144_1 := cN_ HB hx144_1
              replace hx144_2 := cN_ HB hx144_2
              replace hx144_3 := cN_ HB hx144_3
              replace hx144_4 := cN_ HB hx144_4
              replace hx144_5 := cN_ HB hx144_5
              replace hx144_6 := cN_ HB hx144_6
              have HR144_5 := aM_ hi144_5
              have HC144_5 := aM_ hl144_5
              clear hi144_5 hl144_5
              replace p144 := eq_true p144
              replace q144 := eq_true q144
              go_wp2_with ((((with_reducible refine gate_tmp (t_ := 24) rfl ?_); refine goesT_ (some 30) rfl rfl Try.func100 (by kernel_rfl) rfl #[.agg #[.int .u64 ((rd_T25 l0 (ji5)).f0), .int .u64 ((rd_T25 l0 (ji5)).f1), .int .u64 ((rd_T25 l0 (ji5)).f2), .int .u64 ((rd_T25 l0 (ji5)).f3), .int .u64 ((rd_T25 l0 (ji5)).f4), .slice A144_5 ((rd_T25 l0 (ji5)).f5).length c144_5, .bool ((rd_T25 l0 (ji5)).f6)], .int .u64 a1] rfl rfl (by (try simp only [List.map_toArray, List.map_cons, List.map_nil]); (rfl)) ?_; (with_reducible refine (ledger_order.calls ((rd_T25 l0 (ji5)).f0) ((rd_T25 l0 (ji5)).f1) ((rd_T25 l0 (ji5)).f2) ((rd_T25 l0 (ji5)).f3) ((rd_T25 l0 (ji5)).f4) _ _ ((rd_T25 l0 (ji5)).f5) ((rd_T25 l0 (ji5)).f6) a1 t145 _ ?side1 ?side2 A8.out).mono ?_); (case side1 => repeat ((exact (Kd.C_below HR144_5.out HB.out)))); (case side2 => exact HC144_5.out); rintro e w11 ⟨rfl, hb⟩; refine ⟨_, rfl, ?_⟩; replace HB := bsA_ HB hb; (try clear hb))))
              go_roundg k1
              case measure => have := HK1.out; omega
              case rel => exact ⟨(x9_1), (ji5), (by (rfl)), (by (rfl)), H', ⟨by have := HK1.out; omega⟩, ⟨by repeat (((with_reducible (exact HB.out))))⟩⟩
          · rw [if_neg c7] at H
            exact absurd H (by simp)
        · rw [if_neg c6] at H
          exact absurd H (by simp)
      · rw [if_neg c4] at H
        have c4b0 := decide_eq_false c4
        clear c4
        by_cases c12 : x9_1 < (l0.length : Int)
        · rw [if_pos c12] at H
          have c12b0 := decide_eq_true c12
          clear c12
          by_cases c13 : 0 ≤ x9_1
          · rw [if_pos c13] at H
            have c13b0 := decide_eq_true c13
            clear c13
            by_cases c14 : x9_1 < (l0.length : Int)
            · rw [if_pos c14] at H
              have c14b0 := decide_eq_true c14
              clear c14
              replace H := oB_ H
              obtain ⟨t147, A150, H⟩ := H
              replace H : (some (x9_1, (t147 == 0))) = some (r1, r2) := H
              have A15 := aM_ A150
              clear A150
              simp only [Option.some.injEq, Prod.mk.injEq] at H
              obtain ⟨rfl, rfl⟩ := H
              have p146 : 0 ≤ (x9_1 : Int) := of_decide_eq_true (by ((with_reducible assumption)))
              have q146 : x9_1 < (l0.length : Int) := of_decide_eq_true (by ((with_reducible assumption)))
              obtain ⟨ad146, A146_5, c146_5, e146, hx146_0, hx146_1, hx146_2, hx146_3, hx146_4, hx146_5, hx146_6, hl146_5, hi146_5⟩ := at_T25 HR0.out x9_1 p146 q146
              cases e146
              replace hx146_0 := cN_ HB hx146_0
              replace hx146_1 := cN_ HB hx146_1
              replace hx146_2 := cN_ HB hx146_2
              replace hx146_3 := cN_ HB hx146_3
              replace hx146_4 := cN_ HB hx146_4
              replace hx146_5 := cN_ HB hx146_5
              replace hx146_6 := cN_ HB hx146_6
              have HR146_5 := aM_ hi146_5
              have HC146_5 := aM_ hl146_5
              clear hi146_5 hl146_5
              replace p146 := eq_true p146
              replace q146 := eq_true q146
              go_wp2_with (((go_at_call 100; (with_reducible refine (ledger_order.calls ((rd_T25 l0 x9_1).f0) ((rd_T25 l0 x9_1).f1) ((rd_T25 l0 x9_1).f2) ((rd_T25 l0 x9_1).f3) ((rd_T25 l0 x9_1).f4) _ _ ((rd_T25 l0 x9_1).f5) ((rd_T25 l0 x9_1).f6) a1 t147 _ ?side1 ?side2 A15.out).mono ?_); (case side1 => repeat ((exact (Kd.C_below HR146_5.out HB.out)))); (case side2 => exact HC146_5.out); rintro e w16 ⟨rfl, hb⟩; replace HB := bsA_ HB hb; (try clear hb))))
              go_ret2
              exact ⟨by (rfl), by repeat (((with_reducible (exact HB.out))))⟩
            · rw [if_neg c14] at H
              exact absurd H (by simp)
          · rw [if_neg c13] at H
            exact absurd H (by simp)
        · rw [if_neg c12] at H
          have c12b0 := decide_eq_false c12
          clear c12
          simp only [Option.some.injEq, Prod.mk.injEq] at H
          obtain ⟨rfl, rfl⟩ := H
          go_wp2
          go_ret2
          exact ⟨by (rfl), by repeat (((with_reducible (exact HB.out))))⟩

/-! ### ledger_place: function 104 -/
def ledger_place.f (k : Nat) (l0 : List (S25)) (a1 : Int) : Option (Int × Int) := (ledger_Check.f k l0).bind fun t148 => (if t148 = 0 then ((slices_BinarySearchFunc_uint64_at_ledger_order.f k l0 a1).bind fun bt149 => (if bt149.2 = true then (some (bt149.1, 0)) else (some (0, 5)))) else (some (0, t148)))
theorem ledger_place.mono : ∀ a0 a1 k, LeO (ledger_place.f k a0 a1) (ledger_place.f (k + 1) a0 a1) := by
  intro a0 a1 k
  unfold ledger_place.f
  repeat' first
      | (with_reducible exact ledger_Check.mono _ _)
      | (with_reducible exact slices_BinarySearchFunc_uint64_at_ledger_order.mono _ _ _)
      | (with_reducible exact LeO.refl _)
      | (with_reducible refine LeO.ite ?_ ?_)
      | (with_reducible refine LeO.bind ?_ (fun _ => ?_))
      | exact ledger_Check.mono _ _
      | exact slices_BinarySearchFunc_uint64_at_ledger_order.mono _ _ _
      | exact LeO.none _
      | refine LeO.ite ?_ ?_
      | refine LeO.bind ?_ (fun _ => ?_)
set_option maxHeartbeats 8000000 in
set_option maxRecDepth 100000 in
theorem ledger_place.calls (k : Nat) (A0 : Option Addr) (c0 : Nat) (l0 : List (S25)) (a1 : Int) (r1 : Int) (r2 : Int) (w : World) (hr0 : Kd.C k25 w A0 l0.length l0) (hc0 : l0.length ≤ c0) (h : ledger_place.f k l0 a1 = some (r1, r2)) :
    Calls Try.prog 104 #[.slice A0 l0.length c0, .int .u64 a1] w fun e w' => e = .returned (.tuple #[.int .i64 r1, .int .i64 r2]) ∧ Below w.heap.size w w' := by
  have HR0 := aM_ hr0
  have HC0 := aM_ hc0
  clear hr0 hc0
  have HB := aM_ (Below.refl w.heap.size w)
  have H : ((ledger_Check.f k l0).bind fun t148 => (if t148 = 0 then ((slices_BinarySearchFunc_uint64_at_ledger_order.f k l0 a1).bind fun bt149 => (if bt149.2 = true then (some (bt149.1, 0)) else (some (0, 5)))) else (some (0, t148)))) = some (r1, r2) := h
  clear h
  replace H := oB_ H
  obtain ⟨t148, A30, H⟩ := H
  replace H : (if t148 = 0 then ((slices_BinarySearchFunc_uint64_at_ledger_order.f k l0 a1).bind fun bt149 => (if bt149.2 = true then (some (bt149.1, 0)) else (some (0, 5)))) else (some (0, t148))) = some (r1, r2) := H
  have A3 := aM_ A30
  clear A30
  by_cases c4 : t148 = 0
  · rw [if_pos c4] at H
    have c4b0 : (t148 == 0) = true := beq_iff_eq.mpr c4
    have c4b1 : (t148 != 0) = false := bne_eq_false_iff_eq.mpr c4
    clear c4
    replace H := oB_ H
    obtain ⟨⟨t149, t150⟩, A50, H⟩ := H
    replace H : (if t150 = true then (some (t149, 0)) else (some (0, 5))) = some (r1, r2) := H
    have A5 := aM_ A50
    clear A50
    by_cases c6 : t150 = true
    · subst c6
      have H1 : (some (t149, 0)) = some (r1, r2) := by rw [if_pos rfl] at H; exact H
      clear H
      have H := H1
      clear H1
      simp only [Option.some.injEq, Prod.mk.injEq] at H
      obtain ⟨rfl, rfl⟩ := H
      go_enter Try.func104, Try.ntmps104
      go_wp2_with (first | ((with_reducible refine gate_callee (f := 54) rfl ?_); refine gL_ 10 Try.func54 #[.slice A0 l0.length c0] ?_; (with_reducible refine (ledger_Check.calls k _ _ l0 t148 _ ?side1 ?side2 A3.out).mono ?_); (case side1 => repeat ((exact HR0.out))); (case side2 => exact HC0.out); rintro e w7 ⟨rfl, hb⟩; refine ⟨_, rfl, ?_⟩; replace HB := bsA_ HB hb; (try clear hb)) | ((with_reducible refine gate_callee (f := 99) rfl ?_); refine gL_ 17 Try.func99 #[.slice A0 l0.length c0, .int .u64 a1, .func (.func 100) #[] #[]] ?_; (with_reducible refine (slices_BinarySearchFunc_uint64_at_ledger_order.calls k _ _ l0 a1  t149 true _ ?side1 ?side2 A5.out).mono ?_); (case side1 => repeat ((exact (Kd.C_below HR0.out HB.out)))); (case side2 => exact HC0.out); rintro e w8 ⟨rfl, hb⟩; refine ⟨_, rfl, ?_⟩; replace HB := bsA_ HB hb; (try clear hb)))
      go_ret2
      exact ⟨by (rfl), by repeat (((with_reducible (exact HB.out))))⟩
    · replace c6 := Bool.eq_false_iff.mpr c6
      subst c6
      have H1 : (some (0, 5)) = some (r1, r2) := by rw [if_neg (show ¬ (false = true) by decide)] at H; exact H
      clear H
      have H := H1
      clear H1
      simp only [Option.some.injEq, Prod.mk.injEq] at H
      obtain ⟨rfl, rfl⟩ := H
      go_enter Try.func104, Try.ntmps104
      go_wp2_with (first | ((with_reducible refine gate_callee (f := 54) rfl ?_); refine gL_ 10 Try.func54 #[.slice A0 l0.length c0] ?_; (with_reducible refine (ledger_Check.calls k _ _ l0 t148 _ ?side1 ?side2 A3.out).mono ?_); (case side1 => repeat ((exact HR0.out))); (case side2 => exact HC0.out); rintro e w9 ⟨rfl, hb⟩; refine ⟨_, rfl, ?_⟩; replace HB := bsA_ HB hb; (try clear hb)) | ((with_reducible refine gate_callee (f := 99) rfl ?_); refine gL_ 17 Try.func99 #[.slice A0 l0.length c0, .int .u64 a1, .func (.func 100) #[] #[]] ?_; (with_reducible refine (slices_BinarySearchFunc_uint64_at_ledger_order.calls k _ _ l0 a1  t149 false _ ?side1 ?side2 A5.out).mono ?_); (case side1 => repeat ((exact (Kd.C_below HR0.out HB.out)))); (case side2 => exact HC0.out); rintro e w10 ⟨rfl, hb⟩; refine ⟨_, rfl, ?_⟩; replace HB := bsA_ HB hb; (try clear hb)))
      go_ret2
      exact ⟨by (rfl), by repeat (((with_reducible (exact HB.out))))⟩
  · rw [if_neg c4] at H
    have c4b0 : (t148 == 0) = false := beq_eq_false_iff_ne.mpr c4
    have c4b1 : (t148 != 0) = true := bne_iff_ne.mpr c4
    simp only [Option.some.injEq, Prod.mk.injEq] at H
    obtain ⟨rfl, rfl⟩ := H
    go_enter Try.func104, Try.ntmps104
    go_wp2_with ((((with_reducible refine gate_callee (f := 54) rfl ?_); refine gL_ 10 Try.func54 #[.slice A0 l0.length c0] ?_; (with_reducible refine (ledger_Check.calls k _ _ l0 t148 _ ?side1 ?side2 A3.out).mono ?_); (case side1 => repeat ((exact HR0.out))); (case side2 => exact HC0.out); rintro e w11 ⟨rfl, hb⟩; refine ⟨_, rfl, ?_⟩; replace HB := bsA_ HB hb; (try clear hb))))
    go_ret2
    exact ⟨by (rfl), by repeat (((with_reducible (exact HB.out))))⟩

end Go.Proofs.Ytcfbcoinbecdfaa.P
