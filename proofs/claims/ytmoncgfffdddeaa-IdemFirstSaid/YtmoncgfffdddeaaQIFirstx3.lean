-- written by a program of this session (wip/print)
import Derived.Test.YtmoncgfffdddeaaQIFirstx0
import Derived.Test.YtmoncgfffdddeaaQIFirstx1
import Derived.Test.YtmoncgfffdddeaaQIFirstx2
namespace Go.Proofs.Ytmoncgfffdddeaa.P
open Go.RowKit Go.Proofs.YtmoncgfffdddeaaW.PrintWords Go.Proofs.YtmoncgfffdddeaaW.PrintLast Go.Proofs.YtmoncgfffdddeaaW.PrintMore
attribute [local go_sem] max2_int min2_int max_two min_two max_three min_three max_four min_four   -- for this text's walks alone
set_option linter.unusedVariables false
set_option linter.unusedSimpArgs false

/-! ### slices_Insert_Key_raw: function 25 (by hand) -/
theorem slices_Insert_Key_raw.apart_ (g2 cap2 : Nat) (cur2 : Array Value) (w : World) (hg2 : w.heap[g2]? = some (.cells cur2 26 (0, 0))) (b o lb cb : Nat) (cur : Array Value) (hb : w.heap[b]? = some (.cells cur 26 (0, 0))) (hne : g2 ≠ b) (h0 : cur.size ≠ 0) :
    (callFunc 34 #[.slice (some ⟨g2, 0, none⟩) 1 cap2, .slice (some ⟨b, o, none⟩) lb cb]).run Try.prog w = .ok (.value (.bool false)) w := by
  rw [run_callFunc_extern Try.func34 (by kernel_rfl) (by kernel_rfl) (by kernel_rfl) (e := Extern.SlicesOverlaps.overlaps #[22, 22] #[4]) (by kernel_rfl),
    Lib.run_overlaps_apart w 22 4 26 Try.underlying22 4 Try.sizeOf26 ⟨g2, 0, none⟩ ⟨b, o, none⟩ 1 cap2 lb cb hne 26 26 cur2.size cur.size (by simp [World.shape?, hg2]) (by simp [World.shape?, hb]) h0 (blk_frozen hg2 0) (blk_frozen hg2 _)]
  rfl
set_option maxHeartbeats 4000000 in
set_option maxRecDepth 100000 in
theorem slices_Insert_Key_raw.shift (g n cap i g2 cap2 : Nat) (cur cur2 : Array Value) (w : World) (hi : i < n) (hroom : n + 1 ≤ cap) (hcap : cap ≤ 9223372036854775807) (hg : w.heap[g]? = some (.cells cur 26 (0, 0))) (hg2 : w.heap[g2]? = some (.cells cur2 26 (0, 0))) (hne : g2 ≠ g)
    (hcur : cur.size = cap * 4) (hcur2 : 4 ≤ cur2.size) (h1 : ∀ u ∈ cur.toList.take (n * 4), u.oneCell' = true) (h2 : ∀ u ∈ cur2.toList.take 4, u.oneCell' = true) :
    Calls Try.prog 25 #[.slice (some ⟨g, 0, none⟩) n cap, .int .i64 i, .slice (some ⟨g2, 0, none⟩) 1 cap2] w fun e w' => ∃ cur', e = .returned (.slice (some ⟨g, 0, none⟩) (n + 1) cap) ∧ w'.heap[g]? = some (.cells cur' 26 (0, 0)) ∧ w.grownBy w' (some g) ∧ cur'.size = cap * 4 ∧
      cur'.toList.take ((n + 1) * 4) = (cur.toList.take (n * 4)).take (i * 4) ++ cur2.toList.take 4 ++ (cur.toList.take (n * 4)).drop (i * 4) := by
  obtain ⟨cs, hcs⟩ : ∃ cs, cs = (cur.toList.drop (i * 4)).take ((n - i) * 4) := ⟨_, rfl⟩
  obtain ⟨vs, hvs⟩ : ∃ vs, vs = cur2.toList.take 4 := ⟨_, rfl⟩
  have hov : ∀ o lb cb, (callFunc 34 #[.slice (some ⟨g2, 0, none⟩) 1 cap2, .slice (some ⟨g, o, none⟩) lb cb]).run Try.prog w = .ok (.value (.bool false)) w := fun o lb cb => slices_Insert_Key_raw.apart_ g2 cap2 cur2 w hg2 g o lb cb cur hg hne (by omega)
  have hz2 : ¬ ((i : Int) = (n : Int)) := by omega
  have hb1 : (0 : Int) ≤ (i : Int) := by omega
  have hb3 : (i : Int) ≤ (n : Int) := by omega
  have hb4 : ¬ (cap = i) := by omega
  have hb5 : ¬ (cap = i + 1) := by omega
  have hw1 : IntKind.i64.wrap ((i : Int) + 1) = (i : Int) + 1 := by rw [IntKind.wrap_i64]; omega
  have hb6 : (0 : Int) ≤ (i : Int) + 1 := by omega
  have hb7 : (i : Int) + 1 ≤ (n : Int) + 1 := by omega
  have hb8 : ((i : Int) + 1).toNat = i + 1 := by omega
  have hb9 : (i : Int) ≤ (n : Int) + 1 := by omega
  have hb10 : n + 1 - (i + 1) = n - i := by omega
  have hsz : (Try.prog.info? 26).map (·.size) = some 4 := by kernel_rfl
  have hcl : cs.length = (n - i) * 4 := by rw [hcs, List.length_take, List.length_drop, Array.length_toList]; omega
  have hvl : vs.length = 1 * 4 := by rw [hvs, List.length_take, Array.length_toList]; omega
  obtain ⟨cur1, hcur1⟩ : ∃ cur1, cur1 = (cur.toList.take ((i + 1) * 4) ++ cs ++ cur.toList.drop ((i + 1) * 4 + cs.length)).toArray := ⟨_, rfl⟩
  have hcp1 : ∀ ty, (Builtin.copy_ #[22, 22] ty #[.slice (some ⟨g, (i + 1) * 4, none⟩) (n - i) (cap - (i + 1)), .slice (some ⟨g, i * 4, none⟩) (n + 1 - i) (cap - i)]).run Try.prog w.drew = .ok (goInt ((n - i : Nat) : Int)) (w.drew.setRow g cur1) := fun ty => by
    rw [hcur1]
    exact run_copy_rowK w.drew 22 22 ty 26 g ((i + 1) * 4) (n - i) (cap - (i + 1)) ⟨g, i * 4, none⟩ (n + 1 - i) (cap - i) 4 (n - i) cur 26 cs Try.underlying22 hsz hg (by simp only [Nat.min_def]; split <;> omega) hcl
      (blk_cells hg (i * 4) ((n - i) * 4) cs hcs.symm) (by omega) (fun v hv => h1 v (by
        rw [hcs] at hv
        rw [List.take_drop, show i * 4 + (n - i) * 4 = n * 4 by omega] at hv
        exact List.mem_of_mem_drop hv))
  obtain ⟨W1, hW1⟩ : ∃ W1, W1 = w.drew.setRow g cur1 := ⟨_, rfl⟩
  have hW1g : W1.heap[g]? = some (.cells cur1 26 (0, 0)) := by rw [hW1]; exact setRow_heap w.drew g cur _ 26 _ hg
  have hW1g2 : W1.heap[g2]? = some (.cells cur2 26 (0, 0)) := by rw [hW1, setRow_other w.drew g g2 _ hne]; exact hg2
  have hc1s : cur1.size = cap * 4 := by rw [hcur1]; simp only [List.size_toArray, List.length_append, List.length_take, List.length_drop, Array.length_toList]; omega
  obtain ⟨cur', hcur'⟩ : ∃ cur', cur' = (cur1.toList.take (i * 4) ++ vs ++ cur1.toList.drop (i * 4 + vs.length)).toArray := ⟨_, rfl⟩
  have hcp2 : ∀ ty, (Builtin.copy_ #[22, 22] ty #[.slice (some ⟨g, i * 4, none⟩) (n + 1 - i) (cap - i), .slice (some ⟨g2, 0, none⟩) 1 cap2]).run Try.prog W1 = .ok (goInt 1) (W1.setRow g cur') := fun ty => by
    rw [hcur']
    exact run_copy_rowK W1 22 22 ty 26 g (i * 4) (n + 1 - i) (cap - i) ⟨g2, 0, none⟩ 1 cap2 4 1 cur1 26 vs Try.underlying22 hsz hW1g (by simp only [Nat.min_def]; split <;> omega) hvl
      (blk_cells hW1g2 0 4 vs (by rw [hvs, List.drop_zero])) (by omega) (fun v hv => h2 v (by rw [hvs] at hv; exact hv))
  have fin : cur'.size = cap * 4 ∧ cur'.toList.take ((n + 1) * 4) = (cur.toList.take (n * 4)).take (i * 4) ++ cur2.toList.take 4 ++ (cur.toList.take (n * 4)).drop (i * 4) := by
    have hL : cur.toList.length = cap * 4 := by rw [Array.length_toList, hcur]
    have h := ins_cells cur.toList vs (i * 4) ((n - i) * 4) 4 0 (by omega) (by omega)
    simp only at h
    have ec : (i + 1) * 4 = i * 4 + 4 := by omega
    rw [hcur', hcur1, hcl, ec, hvl, Nat.one_mul]
    rw [hcs, hvs]
    rw [hvs] at h
    have en : i * 4 + (n - i) * 4 = n * 4 := by omega
    rw [en] at h
    rw [show (n + 1) * 4 = n * 4 + 4 by omega]
    exact ⟨h.1.trans hL, h.2⟩
  have fin2 : w.grownBy (W1.setRow g cur') (some g) := by
    rw [hW1]
    exact grown_trans (grown_trans (show w.grownBy w.drew (some g) from ⟨rfl, rfl, rfl, Nat.le_refl _, fun _ _ _ => rfl⟩) (grown_setRow w.drew g cur1)) (grown_setRow _ g cur')
  have fin3 : (W1.setRow g cur').heap[g]? = some (.cells cur' 26 (0, 0)) := setRow_heap W1 g cur1 _ 26 _ hW1g
  rw [← hW1] at hcp1
  clear hW1 hcur1 hcur' hcs hvs h1 h2 hcur hcur2 hg hg2
  go_enter Try.func25, Try.ntmps25
  go_wp2_with (simp only [hov])
  go_region_law (refine step_copy_run rfl _ _ 22 22 rfl _ _ (by simp [Act.eval, Act.put]) (by simp [Act.eval, Act.put]) (hcp1 _) ?_)
  go_wp2_with (at_builtin; refine wpList_copy_run _ rfl _ _ 22 22 rfl _ _ rfl rfl (hcp2 _) ?_)

  go_ret
  exact ⟨cur', rfl, fin3, fin2, fin⟩

set_option maxHeartbeats 4000000 in
set_option maxRecDepth 100000 in
theorem slices_Insert_Key_raw.grow (g n cap i g2 cap2 : Nat) (cur cur2 : Array Value) (w : World) (hi : i < n) (hnc : n ≤ cap) (hroom : cap < n + 1) (hbig : (n + 1) * 64 ≤ 140737488355328) (hg : w.heap[g]? = some (.cells cur 26 (0, 0))) (hg2 : w.heap[g2]? = some (.cells cur2 26 (0, 0)))
    (hcur : cur.size = cap * 4) (hcur2 : 4 ≤ cur2.size) (h1 : ∀ u ∈ cur.toList.take (n * 4), u.oneCell' = true) (h2 : ∀ u ∈ cur2.toList.take 4, u.oneCell' = true) :
    Calls Try.prog 25 #[.slice (some ⟨g, 0, none⟩) n cap, .int .i64 i, .slice (some ⟨g2, 0, none⟩) 1 cap2] w fun e w' => ∃ cur' G, e = .returned (.slice (some ⟨w.heap.size, 0, none⟩) (n + 1) G) ∧ w'.heap[w.heap.size]? = some (.cells cur' 26 (0, 0)) ∧ w.grownBy w' none ∧ n + 1 ≤ G ∧ G ≤ maxLen ∧ cur'.size = G * 4 ∧
      cur'.toList.take ((n + 1) * 4) = (cur.toList.take (n * 4)).take (i * 4) ++ cur2.toList.take 4 ++ (cur.toList.take (n * 4)).drop (i * 4) := by
  obtain ⟨i0, hi0, hz0, hzs, hzb⟩ := info_parts info26
  have hlg : g < w.heap.size := blk_lt hg
  have hlg2 : g2 < w.heap.size := blk_lt hg2
  obtain ⟨inn, hinn⟩ : ∃ inn, inn = cur.toList.take (n * 4) := ⟨_, rfl⟩
  have hinl : inn.length = n * 4 := by rw [hinn, List.length_take, Array.length_toList]; omega
  have hold : (Builtin.firstCells i0.size i (.slice (some ⟨g, 0, none⟩) i cap)).run Try.prog w.drew = .ok (inn.take (i * 4)).toArray w.drew := by
    rw [hzs]
    exact run_firstCells_some w.drew 4 i ⟨g, 0, none⟩ i cap (inn.take (i * 4)) (by rw [List.length_take]; omega) (blk_cells (w := w.drew) hg 0 (i * 4) _ (by rw [hinn, List.drop_zero, List.take_take, Nat.min_eq_left (by omega)]))
  obtain ⟨G, hG⟩ : ∃ G, G = grownCap w (n + 1) cap 26 := ⟨_, rfl⟩
  have hGn : n + 1 ≤ G := by rw [hG]; exact grownCap_ge w _ _ _
  have hGm : G ≤ maxLen := by rw [hG]; exact grownCap_le_maxLen w (n + 1) cap 26 (by unfold maxLen; omega)
  have hG63 : G ≤ 9223372036854775807 := by unfold maxLen at hGm; omega
  obtain ⟨ROW, hROW⟩ : ∃ ROW : Array Value, ROW = (inn.take (i * 4)).toArray ++ Builtin.zeroCells ((.agg #[(.int .u64 0), (.slice none 0 0), (.slice none 0 0), (.int .u64 0)]) : Value).cells (n + 1 - i) ++ Builtin.zeroCells ((.agg #[(.int .u64 0), (.slice none 0 0), (.slice none 0 0), (.int .u64 0)]) : Value).cells (G - (n + 1)) := ⟨_, rfl⟩
  have hRs : ROW.size = G * 4 := by
    rw [hROW]
    simp only [Array.size_append, List.size_toArray, List.length_take, hinl, size_zeroCells, show ((.agg #[(.int .u64 0), (.slice none 0 0), (.slice none 0 0), (.int .u64 0)]) : Value).cells.size = 4 from rfl]
    omega
  have hRt : ROW.toList.take (i * 4) = inn.take (i * 4) := by
    rw [hROW, Array.toList_append, Array.toList_append, List.append_assoc, List.take_append_of_le_length (by simp only [List.length_take, hinl]; omega), List.take_of_length_le (by simp only [List.length_take, hinl]; omega)]
  have hrz : ∀ ty, (Builtin.append_ #[22, 3] ty #[.slice (some ⟨g, 0, none⟩) i cap, .int .i64 ((n : Int) + 1 - (i : Int))]).run Try.prog w =
      .ok (.slice (some ⟨w.heap.size, 0, none⟩) (n + 1) G) (w.drew.alloc (.cells ROW 26)) := fun ty => by
    have h := Lib.run_append_grow_zeros w 22 3 ty 26 i0 _ .i64 .i64 Try.underlying22 Try.underlying3 hi0 hz0 (some ⟨g, 0, none⟩) i cap (inn.take (i * 4)) hold (n + 1 - i) (by omega) (by omega) (by omega) (by omega) (by rw [hzb]; omega) (by rw [hzb, show i + (n + 1 - i) = n + 1 by omega]; exact growslice_fits hroom hbig)
    rw [show i + (n + 1 - i) = n + 1 by omega, ← hG, ← hROW] at h
    rw [show (n : Int) + 1 - (i : Int) = ((n + 1 - i : Nat) : Int) by omega]
    exact h
  have hsz : (Try.prog.info? 26).map (·.size) = some 4 := by kernel_rfl
  obtain ⟨N, hN⟩ : ∃ N, N = w.heap.size := ⟨_, rfl⟩
  obtain ⟨vs, hvs⟩ : ∃ vs, vs = cur2.toList.take 4 := ⟨_, rfl⟩
  have hvl : vs.length = 1 * 4 := by rw [hvs, List.length_take, Array.length_toList]; omega
  obtain ⟨cs, hcs⟩ : ∃ cs, cs = inn.drop (i * 4) := ⟨_, rfl⟩
  have hcl : cs.length = (n - i) * 4 := by rw [hcs, List.length_drop]; omega
  obtain ⟨cur1, hcur1⟩ : ∃ cur1, cur1 = (ROW.toList.take (i * 4) ++ vs ++ ROW.toList.drop (i * 4 + vs.length)).toArray := ⟨_, rfl⟩
  have hc1s : cur1.size = G * 4 := by rw [hcur1]; simp only [List.size_toArray, List.length_append, List.length_take, List.length_drop, Array.length_toList]; omega
  obtain ⟨cur', hcur'⟩ : ∃ cur', cur' = (cur1.toList.take ((i + 1) * 4) ++ cs ++ cur1.toList.drop ((i + 1) * 4 + cs.length)).toArray := ⟨_, rfl⟩
  have hcpA : ∀ (W : World), W.heap[N]? = some (.cells ROW 26 (0, 0)) → W.heap[g2]? = some (.cells cur2 26 (0, 0)) → ∀ ty, (Builtin.copy_ #[22, 22] ty #[.slice (some ⟨N, i * 4, none⟩) (n + 1 - i) (G - i), .slice (some ⟨g2, 0, none⟩) 1 cap2]).run Try.prog W = .ok (goInt 1) (W.setRow N cur1) := fun W hW hWv ty => by
    rw [hcur1]
    exact run_copy_rowK W 22 22 ty 26 N (i * 4) (n + 1 - i) (G - i) ⟨g2, 0, none⟩ 1 cap2 4 1 ROW 26 vs Try.underlying22 hsz hW (by simp only [Nat.min_def]; split <;> omega) hvl
      (blk_cells hWv 0 4 vs (by rw [hvs, List.drop_zero])) (by omega) (fun v hv => h2 v (by rw [hvs] at hv; exact hv))
  have hcpB : ∀ (W : World), W.heap[N]? = some (.cells cur1 26 (0, 0)) → W.heap[g]? = some (.cells cur 26 (0, 0)) → ∀ ty, (Builtin.copy_ #[22, 22] ty #[.slice (some ⟨N, (i + 1) * 4, none⟩) (n - i) (G - (i + 1)), .slice (some ⟨g, i * 4, none⟩) (n - i) (cap - i)]).run Try.prog W = .ok (goInt ((n - i : Nat) : Int)) (W.setRow N cur') := fun W hW hWv ty => by
    rw [hcur']
    exact run_copy_rowK W 22 22 ty 26 N ((i + 1) * 4) (n - i) (G - (i + 1)) ⟨g, i * 4, none⟩ (n - i) (cap - i) 4 (n - i) cur1 26 cs Try.underlying22 hsz hW (by simp only [Nat.min_def]; split <;> omega) hcl
      (blk_cells hWv (i * 4) ((n - i) * 4) cs (by rw [hcs, hinn, List.drop_take]; congr 1; omega)) (by omega) (fun v hv => h1 v (by rw [hcs, hinn] at hv; exact List.mem_of_mem_drop hv))
  have fin : cur'.size = G * 4 ∧ cur'.toList.take ((n + 1) * 4) = inn.take (i * 4) ++ cur2.toList.take 4 ++ inn.drop (i * 4) := by
    have e1 : cur1.toList.take ((i + 1) * 4) = inn.take (i * 4) ++ vs := by
      rw [hcur1]
      show List.take _ (List.take (i * 4) ROW.toList ++ vs ++ _) = _
      rw [hRt, List.take_append_of_le_length (by simp only [List.length_append, List.length_take, hinl]; omega), List.take_of_length_le (by simp only [List.length_append, List.length_take, hinl]; omega)]
    refine ⟨?_, ?_⟩
    · rw [hcur']; simp only [List.size_toArray, List.length_append, List.length_take, List.length_drop, Array.length_toList]; omega
    · rw [hcur', e1]
      show List.take _ (inn.take (i * 4) ++ vs ++ cs ++ _) = _
      rw [List.take_append_of_le_length (by simp only [List.length_append, List.length_take, hinl]; omega), List.take_of_length_le (by simp only [List.length_append, List.length_take, hinl]; omega), hcs, hvs]
  rw [← hN] at hlg hlg2 hrz ⊢
  rw [← hinn]
  have hz2 : ¬ ((i : Int) = (n : Int)) := by omega
  have hz3 : (cap : Int) < (n : Int) + 1 := by omega
  have hb1 : (0 : Int) ≤ (i : Int) := by omega
  have hb3 : (i : Int) ≤ (n : Int) := by omega
  have hb4 : ¬ (cap = i) := by omega
  have hb5 : ¬ (G = i) := by omega
  have hb6 : ¬ (G = i + 1) := by omega
  have hw1 : IntKind.i64.wrap ((i : Int) + 1) = (i : Int) + 1 := by rw [IntKind.wrap_i64]; omega
  have hb7 : (0 : Int) ≤ (i : Int) + 1 := by omega
  have hb8 : (i : Int) + 1 ≤ (n : Int) + 1 := by omega
  have hb9 : ((i : Int) + 1).toNat = i + 1 := by omega
  have hb10 : (i : Int) ≤ (n : Int) + 1 := by omega
  have hb11 : n + 1 - (i + 1) = n - i := by omega
  obtain ⟨W1, hW1⟩ : ∃ W1, W1 = w.drew.alloc (.cells ROW 26) := ⟨_, rfl⟩
  have hn1 : W1.heap[N]? = some (.cells ROW 26 (0, 0)) := by rw [hW1, hN]; exact heap_alloc_new w.drew _
  have hg1 : W1.heap[g]? = some (.cells cur 26 (0, 0)) := by rw [hW1]; exact blk_alloc (w := w.drew) hg _
  have hg21 : W1.heap[g2]? = some (.cells cur2 26 (0, 0)) := by rw [hW1]; exact blk_alloc (w := w.drew) hg2 _
  have hgr1 : w.grownBy W1 none := by rw [hW1]; exact ⟨rfl, rfl, rfl, by simp, fun k hk _ => heap_alloc_old w.drew _ hk⟩
  have hsN : w.heap.size ≤ N := by omega
  rw [← hW1] at hrz
  have hA := hcpA W1 hn1 hg21
  obtain ⟨W2, hW2⟩ : ∃ W2, W2 = W1.setRow N cur1 := ⟨_, rfl⟩
  have hn2 : W2.heap[N]? = some (.cells cur1 26 (0, 0)) := by rw [hW2]; exact setRow_heap W1 N ROW _ 26 _ hn1
  have hgg2 : W2.heap[g]? = some (.cells cur 26 (0, 0)) := by rw [hW2, setRow_other W1 N g _ (by omega)]; exact hg1
  have hgr2 : w.grownBy W2 none := by
    rw [hW2]
    exact ⟨hgr1.os, hgr1.tape, hgr1.output, Nat.le_trans hgr1.size (by simp [World.setRow]), fun k hk hr => (setRow_other W1 N k _ (by omega)).trans (hgr1.block k hk hr)⟩
  rw [← hW2] at hA
  have hB := hcpB W2.drew hn2 hgg2
  have fin3 : (W2.drew.setRow N cur').heap[N]? = some (.cells cur' 26 (0, 0)) := setRow_heap W2.drew N cur1 _ 26 _ hn2
  have fin2 : w.grownBy (W2.drew.setRow N cur') none := ⟨hgr2.os, hgr2.tape, hgr2.output, Nat.le_trans hgr2.size (by simp [World.setRow]), fun k hk hr => (setRow_other W2.drew N k _ (by omega)).trans (hgr2.block k hk hr)⟩
  clear hcpA hcpB hW1 hW2 hcur1 hcur' hcs hvs h1 h2 hcur hcur2 hg hg2 hROW hG hold hinn hN hn1 hg1 hg21 hgr1 hn2 hgg2 hgr2 hRt hRs
  go_enter Try.func25, Try.ntmps25
  go_wp2_with (first
    | (at_builtin; refine Lib.wpList_append_run _ rfl _ _ _ _ rfl _ _ rfl rfl _ _ (hrz _) ?_)
    | (at_builtin; refine wpList_copy_run _ rfl _ _ 22 22 rfl _ _ rfl rfl (hA _) ?_))
  go_region_law (refine step_copy_run rfl _ _ 22 22 rfl _ _ (by simp [Act.eval, Act.put]) (by simp [Act.eval, Act.put]) (hB _) ?_)
  go_wp2
  go_ret
  exact ⟨cur', G, rfl, fin3, fin2, hGn, hGm, fin⟩

def slices_Insert_Key_raw.f (l0 : List (List Value)) (a1 : Int) (l2 : List (List Value)) : Option (List (List Value)) := if 0 ≤ a1 ∧ a1 ≤ (l0.length : Int) ∧ l2.length = 1 ∧ l0.length + 1 < 2199023255552 then (some (l0.take a1.toNat ++ l2 ++ l0.drop a1.toNat)) else (none)
set_option maxHeartbeats 8000000 in
set_option maxRecDepth 100000 in
theorem slices_Insert_Key_raw.last (P0_ : Nat → Prop) (u9000_ : Value) (l0 : List (List Value)) (a1 : Int) (P2_ : Nat → Prop) (u9001_ : Value) (l2 : List (List Value)) (w0 w : World) (hB : Below w0.heap.size w0 w) (ho0 : Kd.R (Kd.raw 4) 26 w w0.heap.size P0_ u9000_ l0) (ho2 : Kd.R (Kd.raw 4) 26 w w0.heap.size P2_ u9001_ l2) (h1 : a1 = (l0.length : Int)) (h2 : l2.length = 1) (h3 : l0.length + 1 < 2199023255552) :
    Calls Try.prog 25 #[u9000_, .int .i64 a1, u9001_] w fun e w' => ∃ v0_ : Value, e = .returned (v0_) ∧ Kd.R (Kd.raw 4) 26 w' w0.heap.size (fun k_ => ((P0_ k_ ∨ P2_ k_) ∨ w.heap.size ≤ k_)) v0_ (l0 ++ l2) ∧ Below w0.heap.size w0 w' ∧ Kept w w' (fun k_ => P0_ k_ ∨ P2_ k_) := by
  have HO0 := Aside0.mk (show Kd.R (Kd.raw 4) 26 w w0.heap.size (fun k_ => P0_ k_ ∨ w.heap.size ≤ k_) u9000_ l0 from Kd.R_mono ho0 (fun k_ hk => .inl hk))
  have HP := Aside0.mk ho0.1
  obtain ⟨Av, cv, ev⟩ := Kd.R_slice ho2
  subst ev
  have HR2 := Aside0.mk (Kd.R_reads' ho2).2.2
  have HB := Aside0.mk hB
  have HS := Aside0.mk hB.size
  have LM := Aside0.mk (show l0.length + l2.length < 2199023255552 by omega)
  obtain ⟨Ao12, co12, eo12⟩ := Kd.R_slice HO0.out
  subst eo12
  have q11 : (a1 : Int) ≤ ((l0.length : Int) : Int) := by omega
  obtain ⟨i011, hi011, _, hsz11, _⟩ := info_parts info26
  have hroom11 : l0.length ≤ co12 := (Kd.R_reads' HO0.out).2.1
  have q011 : (0 : Int) ≤ (a1 : Int) := by omega
  have hcut11 := cut_from (P := Try.prog) 22 26 .i64 Try.underlying22 hi011 4 hsz11 Ao12 l0.length co12 a1 q011 q11
  obtain ⟨A11, hA11⟩ : ∃ A1, A1 = (if co12 = (a1 : Int).toNat then Ao12 else (Ao12 : Option Addr).map (·.add ((a1 : Int).toNat * 4))) := ⟨_, rfl⟩
  obtain ⟨c11, hc11⟩ : ∃ c1, c1 = co12 - (a1 : Int).toNat := ⟨_, rfl⟩
  obtain ⟨y11, hy11⟩ : ∃ y1, y1 = l0.length - (a1 : Int).toNat := ⟨_, rfl⟩
  rw [← hy11, ← hA11, ← hc11] at hcut11
  have c6b0 : ((l2.length : Int) == 0) = false := by rw [h2]; rfl
  have c6b1 : ((l2.length : Int) != 0) = true := by rw [h2]; rfl
  have c6b2 : ¬ (l2 = []) := fun h_ => by rw [h_] at h2; cases h2
  have c9b0 : (a1 == (l0.length : Int)) = true := beq_iff_eq.mpr h1
  have c9b1 : (a1 != (l0.length : Int)) = false := bne_eq_false_iff_eq.mpr h1
  clear hi011 hsz11 hc11 hA11 hy11 h1 h2 h3 ho0 ho2 hB
  replace q11 := eq_true q11
  replace q011 := eq_true q011
  go_enter Try.func25, Try.ntmps25
  go_wp2_with (first | ((with_reducible refine gate_builtin (b := .append) (xs := #[.tmp 23, .tmp 24]) rfl ?_); at_builtin; refine Kd.R_append_rows (Kd.raw 4) (w0 := w0) w0.heap.size rfl (.tmp 23) (.tmp 24) 22 26 (.agg #[(.int .u64 0), (.slice none 0 0), (.slice none 0 0), (.int .u64 0)]) 64 rfl Try.underlying22 info26 rfl (by decide) (by omega) (.slice Ao12 l0.length co12) l0 l2 _ _ _ (fun k_ => (P0_ k_ ∨ w.heap.size ≤ k_)) (fun _ => False) rfl rfl ?aO ?aR (fun _ _ h => h) (fun _ h => h.elim) ?aF ?aB ?aS ?aL ?_; (case aR => exact HR2.out); (case aB => exact HB.out); (case aF => exact (fun k_ hk => .inr hk)); (case aO => exact HO0.out); (case aS => exact HS.out); (case aL => have := LM.out; omega); intro v138 w13 ho hb hg hat; have n0_ := Aside0.mk ho; have n1_ := Aside0.mk hb; have n2_ := Aside0.mk hg; clear ho hb hg hat))
  go_ret
  exact ⟨_, rfl, Kd.R_mono n0_.out (fun k_ hk => hk.elim (fun h_ => .inl (.inl h_)) .inr), n1_.out, Kept.of_grown (S := fun k_ => P0_ k_ ∨ P2_ k_) n2_.out (Kept.refl w _) (fun k_ e_ => .inl (.inl (HP.out k_ e_)))⟩
set_option maxHeartbeats 4000000 in
theorem slices_Insert_Key_raw.calls (P0_ : Nat → Prop) (u9000_ : Value) (l0 : List (List Value)) (a1 : Int) (P2_ : Nat → Prop) (u9001_ : Value) (l2 : List (List Value)) (r : List (List Value)) (w0 w : World) (hB : Below w0.heap.size w0 w) (ho0 : Kd.R (Kd.raw 4) 26 w w0.heap.size P0_ u9000_ l0) (hp0_2 : ∀ k_, P0_ k_ → ¬ P2_ k_) (ho2 : Kd.R (Kd.raw 4) 26 w w0.heap.size P2_ u9001_ l2) (hp2_0 : ∀ k_, P2_ k_ → ¬ P0_ k_) (h : slices_Insert_Key_raw.f l0 a1 l2 = some r) :
    Calls Try.prog 25 #[u9000_, .int .i64 a1, u9001_] w fun e w' => ∃ v0_ : Value, e = .returned (v0_) ∧ Kd.R (Kd.raw 4) 26 w' w0.heap.size (fun k_ => ((P0_ k_ ∨ P2_ k_) ∨ w.heap.size ≤ k_)) v0_ r ∧ Below w0.heap.size w0 w' ∧ Kept w w' (fun k_ => P0_ k_ ∨ P2_ k_) := by
  unfold slices_Insert_Key_raw.f at h
  by_cases hc : 0 ≤ a1 ∧ a1 ≤ (l0.length : Int) ∧ l2.length = 1 ∧ l0.length + 1 < 2199023255552
  · rw [if_pos hc] at h
    obtain ⟨c1, c2, c3, c4⟩ := hc
    obtain rfl := Option.some.inj h
    by_cases hl : a1 = (l0.length : Int)
    · have he : l0.take a1.toNat ++ l2 ++ l0.drop a1.toNat = l0 ++ l2 := by
        rw [hl, Int.toNat_natCast, List.take_of_length_le (Nat.le_refl _), List.drop_of_length_le (Nat.le_refl _), List.append_nil]
      rw [he]
      exact slices_Insert_Key_raw.last P0_ u9000_ l0 a1 P2_ u9001_ l2 w0 w hB ho0 ho2 hl c3 c4
    · obtain ⟨i, rfl⟩ := Int.eq_ofNat_of_zero_le c1
      have hi : i < l0.length := by omega
      obtain ⟨hb0, in0, hown0, hr0⟩ := ho0
      obtain ⟨hb2, in2, hown2, hr2⟩ := ho2
      have one0 := Kd.reps_one hr0 (show 0 < Kd.sz (Kd.raw 4) from by decide) (fun p c hp => Kd.K_one _ (Kd.K_of_M _ hp))
      have one2 := Kd.reps_one hr2 (show 0 < Kd.sz (Kd.raw 4) from by decide) (fun p c hp => Kd.K_one _ (Kd.K_of_M _ hp))
      have hsz : Kd.sz (Kd.raw 4) = 4 := rfl
      rcases hown0 with ⟨hl0, ⟨rfl, h0⟩ | ⟨g, cap, cur, rfl, hgb, hg, hnc, hcm, hcs, hct⟩⟩
      · omega
      · rcases hown2 with ⟨hl2, ⟨rfl, h0⟩ | ⟨g2, cap2, cur2, rfl, hgb2, hg2, hnc2, hcm2, hcs2, hct2⟩⟩
        · omega
        · have hne : g2 ≠ g := fun e => hp0_2 g (hb0 g rfl) (by rw [← e]; exact hb2 g2 rfl)
          rw [c3, Nat.one_mul] at hct2
          rw [c3] at hnc2 hl2
          rw [hsz] at hct hct2 hcs hcs2 hl0 hl2
          have hl1 : (Value.slice (some (⟨g2, 0, none⟩ : Addr)) l2.length cap2) = .slice (some ⟨g2, 0, none⟩) 1 cap2 := by rw [c3]
          rw [hl1]
          have fin : ∀ (v1 : Value) (w1 : World), w1.ownsRow w0.heap.size 26 4 v1 (l0.length + 1) (in0.take (i * 4) ++ in2 ++ in0.drop (i * 4)) → w.grownBy w1 (some g) → (v1.ownBlock = some g ∨ ∃ b, v1.ownBlock = some b ∧ w.heap.size ≤ b) →
              ∃ v0_ : Value, Ending.returned v1 = .returned (v0_) ∧ Kd.R (Kd.raw 4) 26 w1 w0.heap.size (fun k_ => ((P0_ k_ ∨ P2_ k_) ∨ w.heap.size ≤ k_)) v0_ (l0.take i ++ l2 ++ l0.drop i) ∧ Below w0.heap.size w0 w1 ∧ Kept w w1 (fun k_ => P0_ k_ ∨ P2_ k_) := by
            intro v1 w1 hown hgr hat
            refine ⟨v1, rfl, ?_, ?_, ?_⟩
            · exact Kd_R_inserted (d := (Kd.raw 4)) (u := .slice (some ⟨g, 0, none⟩) l0.length cap) (v := .slice (some ⟨g2, 0, none⟩) l2.length cap2) i (by omega) hb0 hr0 hr2 hp0_2 (by rw [c3]; exact hown) hgr hat
            · exact hB.grown hgr hB.size (fun k hk => by injection hk with hk; omega)
            · exact Kept.of_grown (S := fun k_ => P0_ k_ ∨ P2_ k_) hgr (Kept.refl w _) (fun k_ e_ => .inl (.inl (hb0 k_ e_)))
          rw [Int.toNat_natCast]
          rw [← hct] at one0 fin
          rw [← hct2] at one2 fin
          by_cases hroom : l0.length + 1 ≤ cap
          · refine (slices_Insert_Key_raw.shift g l0.length cap i g2 cap2 cur cur2 w hi hroom (by unfold maxLen at hcm; omega) hg hg2 hne hcs (by rw [hcs2]; omega) one0 one2).mono ?_
            rintro e w' ⟨cur', rfl, q1, q2, q3, q4⟩
            refine fin _ w' ⟨?_, .inr ⟨g, cap, cur', rfl, hgb, q1, hroom, hcm, q3, q4⟩⟩ q2 (.inl rfl)
            rw [← q4, List.length_take, show cur'.toList.length = cap * 4 from Array.length_toList.trans q3, Nat.min_eq_left (by omega)]
          · refine (slices_Insert_Key_raw.grow g l0.length cap i g2 cap2 cur cur2 w hi hnc (by omega) (by omega) hg hg2 hcs (by rw [hcs2]; omega) one0 one2).mono ?_
            rintro e w' ⟨cur', G, rfl, q1, q2, q3, q4, q5, q6⟩
            refine fin _ w' ⟨?_, .inr ⟨w.heap.size, G, cur', rfl, hB.size, q1, q3, q4, q5, q6⟩⟩ ⟨q2.os, q2.tape, q2.output, q2.size, fun k hk _ => q2.block k hk (by simp)⟩ (.inr ⟨w.heap.size, rfl, Nat.le_refl _⟩)
            rw [← q6, List.length_take, show cur'.toList.length = G * 4 from Array.length_toList.trans q5, Nat.min_eq_left (by omega)]
  · rw [if_neg hc] at h
    exact absurd h (by simp)
theorem slices_Insert_Key.split {w : World} {base : Nat} {ok : Nat → Prop} {v : Value} {xs : List (S26)} (h : Kd.S k26 26 w base ok v xs) : (∀ k, v.ownBlock = some k → ok k) ∧ ∃ (f : Nat → Nat) (rows : List (List Value)), rows.length = xs.length ∧ (Kd.raw 4).R 26 w base (fun k => some k = v.ownBlock) v rows ∧
    ∀ j x c, xs[j]? = some x → rows[j]? = some c → Kd.M k26 w base (fun k => (ok k ∧ some k ≠ v.ownBlock) ∧ f k = j) x c := by
  obtain ⟨f, h0, inner, ho, hr⟩ := h
  rw [List.length_zipIdx] at ho
  refine ⟨h0, f, Kd.chunks 4 xs.length inner, Kd.chunks_length _ _ _, ⟨fun k hk => hk.symm, inner, by rw [Kd.chunks_length]; exact ho, ?_⟩, fun j x c hx hc => ?_⟩
  · have hlen := hr.1
    rw [List.length_zipIdx] at hlen
    refine ⟨by rw [Kd.chunks_length]; exact hlen, fun j p hj => ?_⟩
    have hjl : j < xs.length := by have := (List.getElem?_eq_some_iff.1 hj).1; rwa [Kd.chunks_length] at this
    have hp := Kd.chunks_get hj
    have hM := hr.2 j (xs[j], j) (Kd.zip_at (List.getElem?_eq_getElem hjl))
    exact ⟨hp.symm, Kd.K_len _ (Kd.K_of_M k26 hM), Kd.K_one _ (Kd.K_of_M k26 hM)⟩
  · rw [Kd.chunks_get hc]
    exact hr.2 j (x, j) (Kd.zip_at hx)
theorem slices_Insert_Key.join {w : World} {base : Nat} {ok : Nat → Prop} {v : Value} {xs : List (S26)} (h0 : ∀ k, v.ownBlock = some k → ok k) (f : Nat → Nat) (rows : List (List Value)) (hl : rows.length = xs.length) (hR : (Kd.raw 4).R 26 w base (fun _ => True) v rows)
    (he : ∀ j x c, xs[j]? = some x → rows[j]? = some c → Kd.M k26 w base (fun k => (ok k ∧ some k ≠ v.ownBlock) ∧ f k = j) x c) : Kd.S k26 26 w base ok v xs := by
  obtain ⟨_, inner, ho, hr⟩ := hR
  rw [hl] at ho
  refine ⟨f, h0, inner, by rw [List.length_zipIdx]; exact ho, by rw [List.length_zipIdx, ← hl]; exact hr.1, fun j p hj => ?_⟩
  obtain ⟨x, i⟩ := p
  rw [List.getElem?_zipIdx] at hj
  obtain ⟨y, hy, e⟩ := Option.map_eq_some_iff.1 hj
  simp only [Nat.zero_add, Prod.mk.injEq] at e
  obtain ⟨e1, e2⟩ := e
  subst e1; subst e2
  have hjl : j < rows.length := by rw [hl]; exact (List.getElem?_eq_some_iff.1 hy).1
  have hc := (hr.2 j _ (List.getElem?_eq_getElem hjl)).1
  have := he j y _ hy (List.getElem?_eq_getElem hjl)
  rw [← hc] at this
  exact this
def slices_Insert_Key.f (l0 : List (S26)) (a1 : Int) (l2 : List (S26)) : Option (List (S26)) := if 0 ≤ a1 ∧ a1 ≤ (l0.length : Int) ∧ l2.length = 1 ∧ l0.length + 1 < 2199023255552 then (some (l0.take a1.toNat ++ l2 ++ l0.drop a1.toNat)) else (none)
theorem slices_Insert_Key.at_ {β : Type} {l0 l2 : List β} {i : Nat} (hi : i ≤ l0.length) (h2 : l2.length = 1) (j : Nat) : (l0.take i ++ l2 ++ l0.drop i)[j]? = if j < i then l0[j]? else if j = i then l2[0]? else l0[j - 1]? := by
  by_cases h : j < i
  · rw [if_pos h, List.append_assoc, List.getElem?_append_left (by rw [List.length_take]; omega), List.getElem?_take, if_pos h]
  · rw [if_neg h, List.append_assoc, List.getElem?_append_right (by rw [List.length_take]; omega), List.length_take, Nat.min_eq_left hi]
    by_cases h3 : j = i
    · rw [if_pos h3, List.getElem?_append_left (by omega)]
      congr 1; omega
    · rw [if_neg h3, List.getElem?_append_right (by omega), List.getElem?_drop]
      congr 1; omega
open Classical in
set_option maxHeartbeats 1000000 in
theorem slices_Insert_Key.calls (P0_ : Nat → Prop) (u9000_ : Value) (l0 : List (S26)) (a1 : Int) (P2_ : Nat → Prop) (u9001_ : Value) (l2 : List (S26)) (r : List (S26)) (w0 w : World) (hB : Below w0.heap.size w0 w) (ho0 : Kd.S k26 26 w w0.heap.size P0_ u9000_ l0) (hp0_2 : ∀ k_, P0_ k_ → ¬ P2_ k_) (ho2 : Kd.S k26 26 w w0.heap.size P2_ u9001_ l2) (hp2_0 : ∀ k_, P2_ k_ → ¬ P0_ k_) (h : slices_Insert_Key.f l0 a1 l2 = some r) :
    Calls Try.prog 25 #[u9000_, .int .i64 a1, u9001_] w fun e w' => ∃ v0_ : Value, e = .returned (v0_) ∧ Kd.S k26 26 w' w0.heap.size (fun k_ => ((P0_ k_ ∨ P2_ k_) ∨ w.heap.size ≤ k_)) v0_ r ∧ Below w0.heap.size w0 w' ∧ Kept w w' (fun k_ => P0_ k_ ∨ P2_ k_) := by
  unfold slices_Insert_Key.f at h
  by_cases hc : 0 ≤ a1 ∧ a1 ≤ (l0.length : Int) ∧ l2.length = 1 ∧ l0.length + 1 < 2199023255552
  · rw [if_pos hc] at h
    obtain ⟨c1, c2, c3, c4⟩ := hc
    obtain rfl := Option.some.inj h
    obtain ⟨q0, f0, rows0, l0r, R0, E0⟩ := slices_Insert_Key.split ho0
    obtain ⟨q2, f2, rows2, l2r, R2, E2⟩ := slices_Insert_Key.split ho2
    have hlt0 := Kd.S_lt ho0
    have hlt2 := Kd.S_lt ho2
    obtain ⟨i, rfl⟩ := Int.eq_ofNat_of_zero_le c1
    rw [Int.toNat_natCast]
    have hi : i ≤ l0.length := by omega
    have hraw : slices_Insert_Key_raw.f rows0 (i : Int) rows2 = some (rows0.take i ++ rows2 ++ rows0.drop i) := by
      unfold slices_Insert_Key_raw.f
      rw [if_pos ⟨by omega, by omega, by omega, by omega⟩, Int.toNat_natCast]
    refine (slices_Insert_Key_raw.calls (fun k => some k = u9000_.ownBlock) u9000_ rows0 (i : Int) (fun k => some k = u9001_.ownBlock) u9001_ rows2 _ w0 w hB R0 (fun k e e2 => hp0_2 k (q0 k e.symm) (q2 k e2.symm)) R2 (fun k e e2 => hp2_0 k (q2 k e.symm) (q0 k e2.symm)) hraw).mono ?_
    rintro e w' ⟨v, rfl, RR, hB', hK⟩
    have hv : ∀ k, v.ownBlock = some k → (some k = u9000_.ownBlock ∨ some k = u9001_.ownBlock) ∨ w.heap.size ≤ k := RR.1
    have hK' : ∀ k, k < w.heap.size → some k ≠ u9000_.ownBlock → some k ≠ u9001_.ownBlock → w'.heap[k]? = w.heap[k]? := fun k hk h1 h2 => hK.2 k hk (fun e => e.elim h1 h2)
    refine ⟨v, rfl, slices_Insert_Key.join (fun k hk => ?_) (fun k => if P2_ k then i else if f0 k < i then f0 k else f0 k + 1) _ ?_ (Kd.R_mono RR (fun _ _ => trivial)) (fun j x c hx hcj => ?_), hB', ?_⟩
    · rcases hv k hk with (h1 | h1) | h1
      · exact .inl (.inl (q0 k h1.symm))
      · exact .inl (.inr (q2 k h1.symm))
      · exact .inr h1
    · simp only [List.length_append, List.length_take, List.length_drop]; omega
    · rw [slices_Insert_Key.at_ hi c3] at hx
      rw [slices_Insert_Key.at_ (by omega) (by omega)] at hcj
      have move0 : ∀ (j' : Nat) (x : _) (c : List Value), l0[j']? = some x → rows0[j']? = some c → (∀ k, f0 k = j' → (if f0 k < i then f0 k else f0 k + 1) = j) → Kd.M k26 w' w0.heap.size (fun k => ((((P0_ k ∨ P2_ k) ∨ w.heap.size ≤ k)) ∧ some k ≠ v.ownBlock) ∧ (if P2_ k then i else if f0 k < i then f0 k else f0 k + 1) = j) x c := by
        intro j' x c hx hcj hf
        have hM := Kd.M_bound _ (E0 j' x c hx hcj)
        have hne2 : ∀ k, P0_ k → some k ≠ u9001_.ownBlock := fun k hk e => hp0_2 k hk (q2 k e.symm)
        have hM2 := Kd.M_move k26 (w1 := w') (fun k hk => hK' k hk.2.2.1 hk.1.1.2 (hne2 k hk.1.1.1)) hM
        refine Kd.M_mono _ (fun k hk => ⟨⟨.inl (.inl hk.1.1.1), fun e => ?_⟩, ?_⟩) hM2
        · rcases hv k e.symm with (h1 | h1) | h1
          · exact hk.1.1.2 h1
          · exact hne2 k hk.1.1.1 h1
          · have := hk.2.2.1; omega
        · rw [if_neg (hp0_2 k hk.1.1.1)]
          exact hf k hk.1.2
      by_cases h1 : j < i
      · rw [if_pos h1] at hx hcj
        exact move0 j x c hx hcj (fun k e => by rw [e, if_pos h1])
      · rw [if_neg h1] at hx hcj
        by_cases h2 : j = i
        · rw [if_pos h2] at hx hcj
          have hM := Kd.M_bound _ (E2 0 x c hx hcj)
          have hne0 : ∀ k, P2_ k → some k ≠ u9000_.ownBlock := fun k hk e => hp2_0 k hk (q0 k e.symm)
          have hM2 := Kd.M_move k26 (w1 := w') (fun k hk => hK' k hk.2.2.1 (hne0 k hk.1.1.1) hk.1.1.2) hM
          refine Kd.M_mono _ (fun k hk => ⟨⟨.inl (.inr hk.1.1.1), fun e => ?_⟩, ?_⟩) hM2
          · rcases hv k e.symm with (h3 | h3) | h3
            · exact hne0 k hk.1.1.1 h3
            · exact hk.1.1.2 h3
            · have := hk.2.2.1; omega
          · rw [if_pos hk.1.1.1]; exact h2.symm
        · rw [if_neg h2] at hx hcj
          refine move0 (j - 1) x c hx hcj (fun k e => ?_)
          rw [e, if_neg (by omega)]; omega
    · exact ⟨hK.1, fun k hk hn => hK.2 k hk (fun e => hn (e.elim (fun e => .inl (q0 k e.symm)) (fun e => .inr (q2 k e.symm))))⟩
  · rw [if_neg hc] at h
    exact absurd h (by simp)

/-! ### idem_Put: function 11 (by hand) -/
def idem_Put.f (k : Nat) (l0 : List (S26)) (a1_0 : Int) (l1_1 : List Int) (l1_2 : List Int) (a1_3 : Int) (a2 : Int) : Option ((List (S26)) × Int) := (idem_find.f k l0 a1_0 a2).bind fun b => (if b.2.2.2 = 0 then (if (mx (l1_1.length : Int) (l1_2.length : Int)) ≤ 4096 then (if b.2.2.1 = true then (some (([] : List (S26)), 6)) else (if b.1.length = 128 then (some (([] : List (S26)), 7)) else ((slices_Insert_Key.f b.1 b.2.1 [(⟨a1_0, l1_1, l1_2, a1_3⟩ : S26)]).bind fun t => (some (t, 0))))) else (some (([] : List (S26)), 1))) else (some (([] : List (S26)), 1)))
theorem idem_Put.mono : ∀ a0 a1 a2 a3 a4 a5 k, LeO (idem_Put.f k a0 a1 a2 a3 a4 a5) (idem_Put.f (k + 1) a0 a1 a2 a3 a4 a5) := by
  intro a0 a1 a2 a3 a4 a5 k
  unfold idem_Put.f
  exact LeO.bind (idem_find.mono _ _ _ _) (fun _ => LeO.refl _)
theorem old_cells {W w1 : World} (hb : Below W.heap.size W w1) : (∀ b o, b < W.heap.size → w1.cell? ⟨b, o, none⟩ = W.cell? ⟨b, o, none⟩) ∧ (∀ b o, b < W.heap.size → w1.frozen? ⟨b, o, none⟩ = W.frozen? ⟨b, o, none⟩) :=
  ⟨fun b o h => hb.cell (p := ⟨b, o, none⟩) h, fun b o h => hb.frozen (p := ⟨b, o, none⟩) h⟩
theorem S_lit1 {w : World} {base : Nat} {okp ok : Nat → Prop} {x : S26} {c : List Value} (hM : k26.M w base okp x c) (hb : base ≤ w.heap.size) (hok : ∀ k, okp k → ok k) (hnew : ok w.heap.size) : Kd.S k26 26 (w.alloc (.cells c.toArray 26)) base ok (.slice (some ⟨w.heap.size, 0, none⟩) 1 1) [x] := by
  have hl : c.length = 4 := k26.K_len (k26.K_of_M hM)
  have ho := World.ownsRow_lit (base := base) (e := 26) (size := 4) w c.toArray 1 hb (by decide) (by simp [hl])
  refine slices_Insert_Key.join (fun k hk => ?_) (fun _ => 0) [c] rfl ⟨fun _ _ => trivial, c, (by have h2 := ho; rw [show c.toArray.toList = c from rfl] at h2; exact h2), (show c.length = 1 * 4 by omega), fun j p hj => ?_⟩ (fun j x' c' hx hc => ?_)
  · have : w.heap.size = k := by simpa [Value.ownBlock] using hk
    rw [← this]; exact hnew
  · cases j with
    | zero =>
      have : c = p := by simpa using hj
      subst this
      have e : (c.drop (0 * 4)).take 4 = c := by rw [Nat.zero_mul, List.drop_zero, List.take_of_length_le (by omega)]
      show List.take 4 (List.drop (0 * 4) c) = c ∧ (List.take 4 (List.drop (0 * 4) c)).length = 4 ∧ ∀ u ∈ List.take 4 (List.drop (0 * 4) c), u.oneCell' = true
      rw [e]
      exact ⟨rfl, hl, k26.K_one (k26.K_of_M hM)⟩
    | succ j => simp at hj
  · cases j with
    | zero =>
      have e1 : x = x' := by simpa using hx
      have e2 : c = c' := by simpa using hc
      subst e1; subst e2
      refine k26.M_mono (fun k hk => ⟨⟨hok k hk.1, fun e => ?_⟩, rfl⟩) (k26.M_move (w1 := w.alloc (.cells c.toArray 26)) (fun k hk => Below.heap_alloc _ _ _ hk.2.2.1) (k26.M_bound hM))
      have : w.heap.size = k := by simpa [Value.ownBlock] using e.symm
      have := hk.2.2.1
      omega
    | succ j => simp at hx
set_option maxHeartbeats 4000000 in
theorem idem_Put.calls (k : Nat) (A0 : Option Addr) (c0 : Nat) (l0 : List (S26)) (a1_0 : Int) (A1_1 : Option Addr) (c1_1 : Nat) (l1_1 : List Int) (A1_2 : Option Addr) (c1_2 : Nat) (l1_2 : List Int) (a1_3 : Int) (a2 : Int) (r1 : List (S26)) (r2 : Int) (w : World) (hr0 : Kd.C k26 w A0 l0.length l0) (hc0 : l0.length ≤ c0) (hr1_1 : Kd.C (Kd.int .u8) w A1_1 l1_1.length l1_1) (hc1_1 : l1_1.length ≤ c1_1) (hr1_2 : Kd.C (Kd.int .u8) w A1_2 l1_2.length l1_2) (hc1_2 : l1_2.length ≤ c1_2) (h : idem_Put.f k l0 a1_0 l1_1 l1_2 a1_3 a2 = some (r1, r2)) :
    Calls Try.prog 11 #[.slice A0 l0.length c0, .agg #[.int .u64 a1_0, .slice A1_1 l1_1.length c1_1, .slice A1_2 l1_2.length c1_2, .int .u64 a1_3], .int .u64 a2] w fun e w' => ∃ v0_ : Value, e = .returned (.tuple #[v0_, .int .i64 r2]) ∧ Kd.S k26 26 w' w.heap.size (fun _ => True) v0_ r1 ∧ Below w.heap.size w w' := by
  obtain ⟨⟨t1, t2, t3, t4⟩, hf, h1⟩ := Option.bind_eq_some_iff.1 h
  clear h
  simp only at h1
  have HB1 := Aside0.mk ((Below.refl w.heap.size w).alloc (Nat.le_refl _) (.cells #[.int .u64 a1_0, .slice A1_1 l1_1.length c1_1, .slice A1_2 l1_2.length c1_2, .int .u64 a1_3] 26))
  have HR1 := Aside0.mk (Kd.C_alloc hr0 (.cells #[.int .u64 a1_0, .slice A1_1 l1_1.length c1_1, .slice A1_2 l1_2.length c1_2, .int .u64 a1_3] 26))
  have HS1 := Aside0.mk (show w.heap.size ≤ (w.alloc (.cells #[.int .u64 a1_0, .slice A1_1 l1_1.length c1_1, .slice A1_2 l1_2.length c1_2, .int .u64 a1_3] 26)).heap.size by simp)
  have HK1 := Aside0.mk (heap_alloc_new w (.cells #[.int .u64 a1_0, .slice A1_1 l1_1.length c1_1, .slice A1_2 l1_2.length c1_2, .int .u64 a1_3] 26))
  have HC0 := Aside0.mk hc0
  have HF := Aside0.mk hf
  have HX1 := Aside0.mk hr1_1
  have HX2 := Aside0.mk hr1_2
  have HY1 := Aside0.mk hc1_1
  have HY2 := Aside0.mk hc1_2
  clear hf hc0 hr0 hr1_1 hr1_2 hc1_1 hc1_2
  by_cases c4 : t4 = 0
  · rw [if_pos c4] at h1
    subst c4
    have c4b : ((0 : Int) != 0) = false := by decide
    by_cases cs : (mx (l1_1.length : Int) (l1_2.length : Int)) ≤ 4096
    · rw [if_pos cs] at h1
      have HSH := Aside0.mk (show idem_short.f a1_0 l1_1 l1_2 a1_3 = some true by unfold idem_short.f; rw [decide_eq_true cs])
      cases t3 with
      | true =>
        rw [if_pos rfl] at h1
        injection h1 with h1
        injection h1 with e1 e2
        subst e1; subst e2
        clear cs
        go_enter Try.func11, Try.ntmps11
        go_wp2_with (first | (go_at_call 23; refine (idem_find.calls k A0 c0 l0 a1_0 a2 t1 t2 true 0 _ HR1.out HC0.out HF.out).mono ?_; rintro e w2 ⟨v2, rfl, hS2, hb2⟩; have HB2 := Aside0.mk hb2; obtain ⟨hq1, hq2⟩ := old_cells hb2; clear hS2 hb2) | (go_at_call 24; refine (idem_short.calls a1_0 A1_1 c1_1 l1_1 A1_2 c1_2 l1_2 a1_3 true _ (Kd.C_below HX1.out (below_then HB1.out HS1.out HB2.out)) HY1.out (Kd.C_below HX2.out (below_then HB1.out HS1.out HB2.out)) HY2.out HSH.out).mono ?_; rintro e w3 ⟨rfl, hb3⟩; have HB3 := Aside0.mk hb3; clear hb3))
        go_ret2
        exact ⟨_, rfl, Kd.S_nil _ _ _ _ _, below_then (below_then HB1.out HS1.out HB2.out) (Nat.le_trans HS1.out HB2.out.size) HB3.out⟩
      | false =>
        rw [if_neg (by decide)] at h1
        by_cases c5 : t1.length = 128
        · rw [if_pos c5] at h1
          injection h1 with h1
          injection h1 with e1 e2
          subst e1; subst e2
          have HL := Aside0.mk c5
          clear cs c5
          go_enter Try.func11, Try.ntmps11
          go_wp2_with (first | (go_at_call 23; refine (idem_find.calls k A0 c0 l0 a1_0 a2 t1 t2 false 0 _ HR1.out HC0.out HF.out).mono ?_; rintro e w2 ⟨v2, rfl, hS2, hb2⟩; have HB2 := Aside0.mk hb2; obtain ⟨hq1, hq2⟩ := old_cells hb2; obtain ⟨Av, cv, he⟩ := Kd.S_slice hS2; rw [HL.out] at he; subst he; clear hS2 hb2) | (go_at_call 24; refine (idem_short.calls a1_0 A1_1 c1_1 l1_1 A1_2 c1_2 l1_2 a1_3 true _ (Kd.C_below HX1.out (below_then HB1.out HS1.out HB2.out)) HY1.out (Kd.C_below HX2.out (below_then HB1.out HS1.out HB2.out)) HY2.out HSH.out).mono ?_; rintro e w3 ⟨rfl, hb3⟩; have HB3 := Aside0.mk hb3; clear hb3))
          go_ret2
          exact ⟨_, rfl, Kd.S_nil _ _ _ _ _, below_then (below_then HB1.out HS1.out HB2.out) (Nat.le_trans HS1.out HB2.out.size) HB3.out⟩
        · rw [if_neg c5] at h1
          obtain ⟨t, hins, h2⟩ := Option.bind_eq_some_iff.1 h1
          clear h1
          injection h2 with h2
          injection h2 with e1 e2
          subst e1; subst e2
          have c5b : ((t1.length : Int) == 128) = false := by rw [beq_eq_false_iff_ne]; omega
          have HINS := Aside0.mk hins
          have hl1 : l1_1.length < 140737488355328 ∧ l1_2.length < 140737488355328 := by unfold mx at cs; split at cs <;> omega
          have HOWN := Aside0.mk (show idem_own.f a1_0 l1_1 l1_2 a1_3 = some (a1_0, l1_1, l1_2, a1_3) by unfold idem_own.f slices_Clone_byte.f; rw [if_pos hl1.1, if_pos hl1.2]; rfl)
          clear cs c5 hins hl1
          go_enter Try.func11, Try.ntmps11
          go_wp2_with (first | (go_at_call 23; refine (idem_find.calls k A0 c0 l0 a1_0 a2 t1 t2 false 0 _ HR1.out HC0.out HF.out).mono ?_; rintro e w2 ⟨v2, rfl, hS2, hb2⟩; have HB2 := Aside0.mk hb2; obtain ⟨hq1, hq2⟩ := old_cells hb2; obtain ⟨Av, cv, he⟩ := Kd.S_slice hS2; subst he; have HS2 := Aside0.mk hS2; clear hS2 hb2) | (go_at_call 24; refine (idem_short.calls a1_0 A1_1 c1_1 l1_1 A1_2 c1_2 l1_2 a1_3 true _ (Kd.C_below HX1.out (below_then HB1.out HS1.out HB2.out)) HY1.out (Kd.C_below HX2.out (below_then HB1.out HS1.out HB2.out)) HY2.out HSH.out).mono ?_; rintro e w3 ⟨rfl, hb3⟩; have HB3 := Aside0.mk hb3; have HK3 := Aside0.mk ((hb3.block _ (blk_lt ((HB2.out.block _ (blk_lt HK1.out)).trans HK1.out))).trans ((HB2.out.block _ (blk_lt HK1.out)).trans HK1.out)); obtain ⟨z0, z1, z2, z3, zf0, zf1, zf2, zf3⟩ := cz4_ HK3.out; have HW3 := Aside0.mk (below_then (below_then HB1.out HS1.out HB2.out) (Nat.le_trans HS1.out HB2.out.size) hb3); have HS3 := Aside0.mk (Kd.S_lower (base' := w.heap.size) (Kd.S_below HS2.out hb3) HS1.out); clear hb3) | (go_at_call 26; refine (idem_own.calls _ _ _ _ _ _ _ _ _ _ _ _ _ (Kd.C_below HX1.out HW3.out) HY1.out (Kd.C_below HX2.out HW3.out) HY2.out HOWN.out).mono ?_; rintro e w4 ⟨v5, v6, rfl, ho5, ho6, hb4⟩; obtain ⟨A5, c5, e5⟩ := Kd.R_slice ho5; obtain ⟨A6, c6, e6⟩ := Kd.R_slice ho6; subst e5; subst e6; have HB4 := Aside0.mk hb4; have HW4 := Aside0.mk (below_then HW3.out HW3.out.size hb4); have HO5 := Aside0.mk ho5; have HO6 := Aside0.mk ho6; clear ho5 ho6 hb4))
          refine (slices_Insert_Key.calls (fun k => k < w3.heap.size) _ t1 t2 (fun k => w3.heap.size ≤ k) _ [(⟨a1_0, l1_1, l1_2, a1_3⟩ : S26)] t w _ ?hB ?ho0 ?h02 ?ho2 ?h20 HINS.out).mono ?_
          case hB => exact HW4.out.alloc HW4.out.size _
          case ho0 => exact Kd.S_alloc (Kd.S_mono (Kd.S_below (Kd.S_bound HS3.out) HB4.out) (fun k hk => hk.2.2.1)) _
          case h02 => exact fun k h1 h2 => by omega
          case ho2 => exact S_lit1 (okp := fun k => w3.heap.size ≤ k) (k26_mkM _ _ _ (⟨a1_0, l1_1, l1_2, a1_3⟩ : S26) (Kd.R_lower (Kd.R_mono (Kd.R_bound HO5.out) (fun k hk => hk.2.1)) HW3.out.size) (Kd.R_lower (Kd.R_mono (Kd.R_bound HO6.out) (fun k hk => hk.2.1)) HW3.out.size)) HW4.out.size (fun _ h => h) HB4.out.size
          case h20 => exact fun k h1 h2 => by omega
          rintro e w5 ⟨v7, rfl, hS5, hB5, hK5⟩
          have HS5 := Aside0.mk hS5
          have HB5 := Aside0.mk hB5
          clear hS5 hB5 hK5
          go_wp2
          go_ret2
          exact ⟨_, rfl, Kd.S_mono HS5.out (fun _ _ => trivial), HB5.out⟩
    · rw [if_neg cs] at h1
      injection h1 with h1
      injection h1 with e1 e2
      subst e1; subst e2
      have HSH := Aside0.mk (show idem_short.f a1_0 l1_1 l1_2 a1_3 = some false by unfold idem_short.f; rw [decide_eq_false cs])
      clear cs
      go_enter Try.func11, Try.ntmps11
      go_wp2_with (first | (go_at_call 23; refine (idem_find.calls k A0 c0 l0 a1_0 a2 t1 t2 t3 0 _ HR1.out HC0.out HF.out).mono ?_; rintro e w2 ⟨v2, rfl, hS2, hb2⟩; have HB2 := Aside0.mk hb2; obtain ⟨hq1, hq2⟩ := old_cells hb2; clear hS2 hb2) | (go_at_call 24; refine (idem_short.calls a1_0 A1_1 c1_1 l1_1 A1_2 c1_2 l1_2 a1_3 false _ (Kd.C_below HX1.out (below_then HB1.out HS1.out HB2.out)) HY1.out (Kd.C_below HX2.out (below_then HB1.out HS1.out HB2.out)) HY2.out HSH.out).mono ?_; rintro e w3 ⟨rfl, hb3⟩; have HB3 := Aside0.mk hb3; clear hb3))
      go_ret2
      exact ⟨_, rfl, Kd.S_nil _ _ _ _ _, below_then (below_then HB1.out HS1.out HB2.out) (Nat.le_trans HS1.out HB2.out.size) HB3.out⟩
  · rw [if_neg c4] at h1
    injection h1 with h1
    injection h1 with e1 e2
    subst e1; subst e2
    have c4b : (t4 != 0) = true := by simpa using c4
    clear c4
    go_enter Try.func11, Try.ntmps11
    go_wp2_with (go_at_call 23; refine (idem_find.calls k A0 c0 l0 a1_0 a2 t1 t2 t3 t4 _ HR1.out HC0.out HF.out).mono ?_; rintro e w2 ⟨v2, rfl, hS2, hb2⟩; have HB2 := Aside0.mk hb2; obtain ⟨hq1, hq2⟩ := old_cells hb2; clear hS2 hb2)
    go_ret2
    exact ⟨_, rfl, Kd.S_nil _ _ _ _ _, below_then HB1.out HS1.out HB2.out⟩

/-! ### bytes_Equal: function 28 -/
def bytes_Equal.f (l0 : List Int) (l1 : List Int) : Option (Bool) := some ((strOfNums l0).toList == (strOfNums l1).toList)
set_option maxHeartbeats 8000000 in
set_option maxRecDepth 100000 in
theorem bytes_Equal.calls (A0 : Option Addr) (c0 : Nat) (l0 : List Int) (A1 : Option Addr) (c1 : Nat) (l1 : List Int) (r : Bool) (w : World) (hr0 : Kd.C (Kd.int .u8) w A0 l0.length l0) (hc0 : l0.length ≤ c0) (hr1 : Kd.C (Kd.int .u8) w A1 l1.length l1) (hc1 : l1.length ≤ c1) (h : bytes_Equal.f l0 l1 = some r) :
    Calls Try.prog 28 #[.slice A0 l0.length c0, .slice A1 l1.length c1] w fun e w' => e = .returned (.bool r) ∧ Drawn0 w w' := by
  have HR0 := Aside0.mk hr0
  have HC0 := Aside0.mk hc0
  clear hr0 hc0
  have HR1 := Aside0.mk hr1
  have HC1 := Aside0.mk hc1
  clear hr1 hc1
  have H : (some ((strOfNums l0).toList == (strOfNums l1).toList)) = some r := h
  clear h
  obtain rfl := Option.some.inj H
  have hcv3 := Kd.C_string (P := Try.prog) (A := A0) (c := c0) Try.underlying24 Try.underlying5 Try.underlying9 HR0.out
  have hcv4 := Kd.C_string (P := Try.prog) (A := A1) (c := c1) Try.underlying24 Try.underlying5 Try.underlying9 HR1.out
  go_enter Try.func28, Try.ntmps28
  go_wp2
  go_ret
  exact ⟨by first | rfl | (simp; done) | (simp [*]; done), by repeat (first | exact Drawn0.refl _ | apply Drawn0.step)⟩

/-! ### idem_Look: function 13 -/
def idem_Look.f (k : Nat) (l0 : List (S26)) (a1 : Int) (l2 : List Int) (a3 : Int) : Option (List Int × Int) := (idem_find.f k l0 a1 a3).bind fun bt128 => (if bt128.2.2.2 = 0 then (if bt128.2.2.1 = true then (if 0 ≤ bt128.2.1 then (if bt128.2.1 < (bt128.1.length : Int) then ((bytes_Equal.f ((rd_T26 bt128.1 bt128.2.1).f1) l2).bind fun t135 => (if t135 = true then (some ((rd_T26 bt128.1 bt128.2.1).f2, 0)) else (some (([] : List Int), 12)))) else (none)) else (none)) else (some (([] : List Int), 5))) else (some (([] : List Int), bt128.2.2.2)))
theorem idem_Look.mono : ∀ a0 a1 a2 a3 k, LeO (idem_Look.f k a0 a1 a2 a3) (idem_Look.f (k + 1) a0 a1 a2 a3) := by
  intro a0 a1 a2 a3 k
  unfold idem_Look.f
  repeat' first
      | (with_reducible exact idem_find.mono _ _ _ _)
      | (with_reducible exact LeO.refl _)
      | (with_reducible exact LeO.none _)
      | (with_reducible refine LeO.ite ?_ ?_)
      | (with_reducible refine LeO.bind ?_ (fun _ => ?_))
      | exact idem_find.mono _ _ _ _
      | exact LeO.none _
      | refine LeO.ite ?_ ?_
      | refine LeO.bind ?_ (fun _ => ?_)
set_option maxHeartbeats 8000000 in
set_option maxRecDepth 100000 in
theorem idem_Look.calls (k : Nat) (A0 : Option Addr) (c0 : Nat) (l0 : List (S26)) (a1 : Int) (A2 : Option Addr) (c2 : Nat) (l2 : List Int) (a3 : Int) (r1 : List Int) (r2 : Int) (w : World) (hr0 : Kd.C k26 w A0 l0.length l0) (hc0 : l0.length ≤ c0) (hr2 : Kd.C (Kd.int .u8) w A2 l2.length l2) (hc2 : l2.length ≤ c2) (h : idem_Look.f k l0 a1 l2 a3 = some (r1, r2)) :
    Calls Try.prog 13 #[.slice A0 l0.length c0, .int .u64 a1, .slice A2 l2.length c2, .int .u64 a3] w fun e w' => ∃ v0_ : Value, e = .returned (.tuple #[v0_, .int .i64 r2]) ∧ Kd.R (Kd.int .u8) 5 w' w.heap.size (fun _ => True) v0_ r1 ∧ Below w.heap.size w w' := by
  have HR0 := Aside0.mk hr0
  have HC0 := Aside0.mk hc0
  clear hr0 hc0
  have HR2 := Aside0.mk hr2
  have HC2 := Aside0.mk hc2
  clear hr2 hc2
  have HB := Aside0.mk (Below.refl w.heap.size w)
  have H : ((idem_find.f k l0 a1 a3).bind fun bt128 => (if bt128.2.2.2 = 0 then (if bt128.2.2.1 = true then (if 0 ≤ bt128.2.1 then (if bt128.2.1 < (bt128.1.length : Int) then ((bytes_Equal.f ((rd_T26 bt128.1 bt128.2.1).f1) l2).bind fun t135 => (if t135 = true then (some ((rd_T26 bt128.1 bt128.2.1).f2, 0)) else (some (([] : List Int), 12)))) else (none)) else (none)) else (some (([] : List Int), 5))) else (some (([] : List Int), bt128.2.2.2)))) = some (r1, r2) := h
  clear h
  replace H := Option.bind_eq_some_iff.mp H
  obtain ⟨⟨t128, t129, t130, t131⟩, A50, H⟩ := H
  replace H : (if t131 = 0 then (if t130 = true then (if 0 ≤ t129 then (if t129 < (t128.length : Int) then ((bytes_Equal.f ((rd_T26 t128 t129).f1) l2).bind fun t135 => (if t135 = true then (some ((rd_T26 t128 t129).f2, 0)) else (some (([] : List Int), 12)))) else (none)) else (none)) else (some (([] : List Int), 5))) else (some (([] : List Int), t131))) = some (r1, r2) := H
  have A5 := Aside0.mk A50
  clear A50
  by_cases c6 : t131 = 0
  · rw [if_pos c6] at H
    have c6b0 : (t131 == 0) = true := beq_iff_eq.mpr c6
    have c6b1 : (t131 != 0) = false := bne_eq_false_iff_eq.mpr c6
    clear c6
    by_cases c7 : t130 = true
    · subst c7
      have H1 : (if 0 ≤ t129 then (if t129 < (t128.length : Int) then ((bytes_Equal.f ((rd_T26 t128 t129).f1) l2).bind fun t135 => (if t135 = true then (some ((rd_T26 t128 t129).f2, 0)) else (some (([] : List Int), 12)))) else (none)) else (none)) = some (r1, r2) := by rw [if_pos rfl] at H; exact H
      clear H
      have H := H1
      clear H1
      by_cases c8 : 0 ≤ t129
      · rw [if_pos c8] at H
        have c8b0 : decide (0 ≤ t129) = true := decide_eq_true c8
        clear c8
        by_cases c9 : t129 < (t128.length : Int)
        · rw [if_pos c9] at H
          have c9b0 : decide (t129 < (t128.length : Int)) = true := decide_eq_true c9
          clear c9
          replace H := Option.bind_eq_some_iff.mp H
          obtain ⟨t135, A100, H⟩ := H
          replace H : (if t135 = true then (some ((rd_T26 t128 t129).f2, 0)) else (some (([] : List Int), 12))) = some (r1, r2) := H
          have A10 := Aside0.mk A100
          clear A100
          by_cases c11 : t135 = true
          · subst c11
            have H1 : (some ((rd_T26 t128 t129).f2, 0)) = some (r1, r2) := by rw [if_pos rfl] at H; exact H
            clear H
            have H := H1
            clear H1
            simp only [Option.some.injEq, Prod.mk.injEq] at H
            obtain ⟨rfl, rfl⟩ := H
            go_enter Try.func13, Try.ntmps13
            go_wp2_with (first | ((with_reducible refine gate_callee (f := 23) rfl ?_); refine goesL_ (some 17) rfl rfl Try.func23 (by kernel_rfl) rfl #[.slice A0 l0.length c0, .int .u64 a1, .int .u64 a3] rfl (by (try simp only [List.map_toArray, List.map_cons, List.map_nil]); first | done | rfl | (simp only [List.length_drop, List.length_take]; rfl)) ?_; (with_reducible refine (idem_find.calls k _ _ l0 a1 a3 t128 t129 true t131 _ ?side1 ?side2 A5.out).mono ?_); (case side1 => repeat (first | exact HR0.out | (with_reducible refine Kd.C_alloc ?_ _) | (with_reducible refine Kd.C_drewN ?_ _) | (with_reducible refine Kd.C_drew ?_))); (case side2 => exact HC0.out); rintro e w12 ⟨v132, rfl, ho0, hb⟩; refine ⟨_, rfl, ?_⟩; have n0_ := Aside0.mk (Kd.S_lower ho0 (below_size (belN HB))); have n1_ := Aside0.mk (below_step (belN HB) hb); clear HB; have HO133 := n0_; have HB := n1_; clear n0_ n1_; (try clear hb); (try clear hb2); (try clear hk); (try clear hi); (try clear ho0); obtain ⟨Ao13, co13, eo13⟩ := Kd.S_slice HO133.out; subst eo13; have p134 : 0 ≤ (t129 : Int) := of_decide_eq_true (by first | (with_reducible assumption) | assumption); have q134 : t129 < (t128.length : Int) := of_decide_eq_true (by first | (with_reducible assumption) | assumption); obtain ⟨ad134, A134_1, c134_1, A134_2, c134_2, e134, hx134_0, hx134_1, hx134_2, hx134_3, hl134_1, hi134_1, hl134_2, hi134_2⟩ := at_T26 (Kd.S_reads' HO133.out).2.2 t129 p134 q134; cases e134; obtain ⟨ce134, hce134, hMe134, hcc134⟩ := Kd.S_get HO133.out z26 t129 p134 (by first | exact q134 | exact of_decide_eq_true (by first | (with_reducible assumption) | assumption) | (have e_ := (Kd.S_reads' HO133.out).1; omega)); obtain ⟨ve134_1, ve134_2, rfl, ge134_1, ge134_2⟩ := k26_openM hMe134; have hv134_1 := hcc134 1 _ rfl; rw [add_field _ _ 1 (by omega)] at hv134_1; replace hv134_1 := Option.some.inj (hv134_1.symm.trans hx134_1); rw [hv134_1] at ge134_1; have HL134_1 := Aside0.mk (show Kd.R (Kd.int .u8) 5 _ _ _ _ ((rd_T26 t128 t129).f1) from ge134_1); clear hv134_1 ge134_1; have hv134_2 := hcc134 2 _ rfl; rw [add_field _ _ 2 (by omega)] at hv134_2; replace hv134_2 := Option.some.inj (hv134_2.symm.trans hx134_2); rw [hv134_2] at ge134_2; have HL134_2 := Aside0.mk (show Kd.R (Kd.int .u8) 5 _ _ _ _ ((rd_T26 t128 t129).f2) from ge134_2); clear hv134_2 ge134_2; clear hcc134 hce134; have HR134_1 := Aside0.mk hi134_1; have HC134_1 := Aside0.mk hl134_1; clear hi134_1 hl134_1; have HR134_2 := Aside0.mk hi134_2; have HC134_2 := Aside0.mk hl134_2; clear hi134_2 hl134_2; replace p134 := eq_true p134; replace q134 := eq_true q134) | ((with_reducible refine gate_callee (f := 28) rfl ?_); refine goesL_ (some 36) rfl rfl Try.func28 (by kernel_rfl) rfl #[.slice A134_1 ((rd_T26 t128 t129).f1).length c134_1, .slice A2 l2.length c2] rfl (by (try simp only [List.map_toArray, List.map_cons, List.map_nil]); first | done | rfl | (simp only [List.length_drop, List.length_take]; rfl)) ?_; (with_reducible refine (bytes_Equal.calls _ _ ((rd_T26 t128 t129).f1) _ _ l2 true _ ?side1 ?side2 ?side3 ?side4 A10.out).mono ?_); (case side1 => repeat (first | exact (by repeat (first | (with_reducible exact HR134_1.out) | (with_reducible refine Kd.C_alloc ?_ _) | (with_reducible refine Kd.C_drewN ?_ _) | (with_reducible refine Kd.C_drew ?_) | exact HR134_1.out)) | (with_reducible refine Kd.C_alloc ?_ _) | (with_reducible refine Kd.C_drewN ?_ _) | (with_reducible refine Kd.C_drew ?_))); (case side2 => exact HC134_1.out); (case side3 => repeat (first | exact (Kd.C_below HR2.out HB.out) | (with_reducible refine Kd.C_alloc ?_ _) | (with_reducible refine Kd.C_drewN ?_ _) | (with_reducible refine Kd.C_drew ?_))); (case side4 => exact HC2.out); rintro e w' ⟨rfl, ⟨nd, rfl⟩⟩; refine ⟨_, rfl, ?_⟩; have p136 : 0 ≤ (t129 : Int) := of_decide_eq_true (by first | (with_reducible assumption) | assumption); have q136 : t129 < (t128.length : Int) := of_decide_eq_true (by first | (with_reducible assumption) | assumption); obtain ⟨ad136, A136_1, c136_1, A136_2, c136_2, e136, hx136_0, hx136_1, hx136_2, hx136_3, hl136_1, hi136_1, hl136_2, hi136_2⟩ := at_T26 (Kd.S_reads' HO133.out).2.2 t129 p136 q136; obtain rfl : ad134 = ad136 := (by injection e136); obtain ⟨ce136, hce136, hMe136, hcc136⟩ := Kd.S_get HO133.out z26 t129 p136 (by first | exact q136 | exact of_decide_eq_true (by first | (with_reducible assumption) | assumption) | (have e_ := (Kd.S_reads' HO133.out).1; omega)); obtain ⟨ve136_1, ve136_2, rfl, ge136_1, ge136_2⟩ := k26_openM hMe136; have hv136_1 := hcc136 1 _ rfl; rw [add_field _ _ 1 (by omega)] at hv136_1; replace hv136_1 := Option.some.inj (hv136_1.symm.trans hx136_1); rw [hv136_1] at ge136_1; have HL136_1 := Aside0.mk (show Kd.R (Kd.int .u8) 5 _ _ _ _ ((rd_T26 t128 t129).f1) from ge136_1); clear hv136_1 ge136_1; have hv136_2 := hcc136 2 _ rfl; rw [add_field _ _ 2 (by omega)] at hv136_2; replace hv136_2 := Option.some.inj (hv136_2.symm.trans hx136_2); rw [hv136_2] at ge136_2; have HL136_2 := Aside0.mk (show Kd.R (Kd.int .u8) 5 _ _ _ _ ((rd_T26 t128 t129).f2) from ge136_2); clear hv136_2 ge136_2; clear hcc136 hce136; have HR136_1 := Aside0.mk hi136_1; have HC136_1 := Aside0.mk hl136_1; clear hi136_1 hl136_1; have HR136_2 := Aside0.mk hi136_2; have HC136_2 := Aside0.mk hl136_2; clear hi136_2 hl136_2; replace p136 := eq_true p136; replace q136 := eq_true q136; have ea_ := Option.some.inj (hx134_1.symm.trans hx136_1); injection ea_ with ea_ en_ ec_; subst ea_; subst ec_; clear en_; have ea_ := Option.some.inj (hx134_2.symm.trans hx136_2); injection ea_ with ea_ en_ ec_; subst ea_; subst ec_; clear en_))
            go_ret2
            exact ⟨_, by first | rfl | (simp [errW_none, errW_some] <;> rfl) | (simp [*, errW_none, errW_some] <;> rfl), by (with_reducible repeat (first | apply Kd.R_alloc | apply Kd.R_drewN | apply Kd.R_drew)); exact Kd.R_mono HL136_2.out (fun _ hk => trivial), by repeat (first | (with_reducible first | exact HB.out | apply below_alloc | apply pw_below_drewN | apply below_drew1) | exact HB.out)⟩
          · replace c11 := Bool.eq_false_iff.mpr c11
            subst c11
            have H1 : (some (([] : List Int), 12)) = some (r1, r2) := by rw [if_neg (show ¬ (false = true) by decide)] at H; exact H
            clear H
            have H := H1
            clear H1
            simp only [Option.some.injEq, Prod.mk.injEq] at H
            obtain ⟨rfl, rfl⟩ := H
            go_enter Try.func13, Try.ntmps13
            go_wp2_with (first | ((with_reducible refine gate_callee (f := 23) rfl ?_); refine goesL_ (some 17) rfl rfl Try.func23 (by kernel_rfl) rfl #[.slice A0 l0.length c0, .int .u64 a1, .int .u64 a3] rfl (by (try simp only [List.map_toArray, List.map_cons, List.map_nil]); first | done | rfl | (simp only [List.length_drop, List.length_take]; rfl)) ?_; (with_reducible refine (idem_find.calls k _ _ l0 a1 a3 t128 t129 true t131 _ ?side1 ?side2 A5.out).mono ?_); (case side1 => repeat (first | exact HR0.out | (with_reducible refine Kd.C_alloc ?_ _) | (with_reducible refine Kd.C_drewN ?_ _) | (with_reducible refine Kd.C_drew ?_))); (case side2 => exact HC0.out); rintro e w14 ⟨v132, rfl, ho0, hb⟩; refine ⟨_, rfl, ?_⟩; have n0_ := Aside0.mk (Kd.S_lower ho0 (below_size (belN HB))); have n1_ := Aside0.mk (below_step (belN HB) hb); clear HB; have HO133 := n0_; have HB := n1_; clear n0_ n1_; (try clear hb); (try clear hb2); (try clear hk); (try clear hi); (try clear ho0); obtain ⟨Ao15, co15, eo15⟩ := Kd.S_slice HO133.out; subst eo15; have p134 : 0 ≤ (t129 : Int) := of_decide_eq_true (by first | (with_reducible assumption) | assumption); have q134 : t129 < (t128.length : Int) := of_decide_eq_true (by first | (with_reducible assumption) | assumption); obtain ⟨ad134, A134_1, c134_1, A134_2, c134_2, e134, hx134_0, hx134_1, hx134_2, hx134_3, hl134_1, hi134_1, hl134_2, hi134_2⟩ := at_T26 (Kd.S_reads' HO133.out).2.2 t129 p134 q134; cases e134; obtain ⟨ce134, hce134, hMe134, hcc134⟩ := Kd.S_get HO133.out z26 t129 p134 (by first | exact q134 | exact of_decide_eq_true (by first | (with_reducible assumption) | assumption) | (have e_ := (Kd.S_reads' HO133.out).1; omega)); obtain ⟨ve134_1, ve134_2, rfl, ge134_1, ge134_2⟩ := k26_openM hMe134; have hv134_1 := hcc134 1 _ rfl; rw [add_field _ _ 1 (by omega)] at hv134_1; replace hv134_1 := Option.some.inj (hv134_1.symm.trans hx134_1); rw [hv134_1] at ge134_1; have HL134_1 := Aside0.mk (show Kd.R (Kd.int .u8) 5 _ _ _ _ ((rd_T26 t128 t129).f1) from ge134_1); clear hv134_1 ge134_1; have hv134_2 := hcc134 2 _ rfl; rw [add_field _ _ 2 (by omega)] at hv134_2; replace hv134_2 := Option.some.inj (hv134_2.symm.trans hx134_2); rw [hv134_2] at ge134_2; have HL134_2 := Aside0.mk (show Kd.R (Kd.int .u8) 5 _ _ _ _ ((rd_T26 t128 t129).f2) from ge134_2); clear hv134_2 ge134_2; clear hcc134 hce134; have HR134_1 := Aside0.mk hi134_1; have HC134_1 := Aside0.mk hl134_1; clear hi134_1 hl134_1; have HR134_2 := Aside0.mk hi134_2; have HC134_2 := Aside0.mk hl134_2; clear hi134_2 hl134_2; replace p134 := eq_true p134; replace q134 := eq_true q134) | ((with_reducible refine gate_callee (f := 28) rfl ?_); refine goesL_ (some 36) rfl rfl Try.func28 (by kernel_rfl) rfl #[.slice A134_1 ((rd_T26 t128 t129).f1).length c134_1, .slice A2 l2.length c2] rfl (by (try simp only [List.map_toArray, List.map_cons, List.map_nil]); first | done | rfl | (simp only [List.length_drop, List.length_take]; rfl)) ?_; (with_reducible refine (bytes_Equal.calls _ _ ((rd_T26 t128 t129).f1) _ _ l2 false _ ?side1 ?side2 ?side3 ?side4 A10.out).mono ?_); (case side1 => repeat (first | exact (by repeat (first | (with_reducible exact HR134_1.out) | (with_reducible refine Kd.C_alloc ?_ _) | (with_reducible refine Kd.C_drewN ?_ _) | (with_reducible refine Kd.C_drew ?_) | exact HR134_1.out)) | (with_reducible refine Kd.C_alloc ?_ _) | (with_reducible refine Kd.C_drewN ?_ _) | (with_reducible refine Kd.C_drew ?_))); (case side2 => exact HC134_1.out); (case side3 => repeat (first | exact (Kd.C_below HR2.out HB.out) | (with_reducible refine Kd.C_alloc ?_ _) | (with_reducible refine Kd.C_drewN ?_ _) | (with_reducible refine Kd.C_drew ?_))); (case side4 => exact HC2.out); rintro e w' ⟨rfl, ⟨nd, rfl⟩⟩; refine ⟨_, rfl, ?_⟩))
            go_ret2
            exact ⟨_, by first | rfl | (simp [errW_none, errW_some] <;> rfl) | (simp [*, errW_none, errW_some] <;> rfl), by first | exact Kd.R_nil _ _ _ _ _ | exact Kd.N_nil _ _ _ _ _ | exact Kd.V_nil _ _ _ _ _ | exact Kd.Q_nil _ _ _ _ _ | exact Kd.S_nil _ _ _ _ _, by repeat (first | (with_reducible first | exact HB.out | apply below_alloc | apply pw_below_drewN | apply below_drew1) | exact HB.out)⟩
        · rw [if_neg c9] at H
          exact absurd H (by simp)
      · rw [if_neg c8] at H
        exact absurd H (by simp)
    · replace c7 := Bool.eq_false_iff.mpr c7
      subst c7
      have H1 : (some (([] : List Int), 5)) = some (r1, r2) := by rw [if_neg (show ¬ (false = true) by decide)] at H; exact H
      clear H
      have H := H1
      clear H1
      simp only [Option.some.injEq, Prod.mk.injEq] at H
      obtain ⟨rfl, rfl⟩ := H
      go_enter Try.func13, Try.ntmps13
      go_wp2_with (first | ((with_reducible refine gate_callee (f := 23) rfl ?_); refine goesL_ (some 17) rfl rfl Try.func23 (by kernel_rfl) rfl #[.slice A0 l0.length c0, .int .u64 a1, .int .u64 a3] rfl (by (try simp only [List.map_toArray, List.map_cons, List.map_nil]); first | done | rfl | (simp only [List.length_drop, List.length_take]; rfl)) ?_; (with_reducible refine (idem_find.calls k _ _ l0 a1 a3 t128 t129 false t131 _ ?side1 ?side2 A5.out).mono ?_); (case side1 => repeat (first | exact HR0.out | (with_reducible refine Kd.C_alloc ?_ _) | (with_reducible refine Kd.C_drewN ?_ _) | (with_reducible refine Kd.C_drew ?_))); (case side2 => exact HC0.out); rintro e w16 ⟨v132, rfl, ho0, hb⟩; refine ⟨_, rfl, ?_⟩; have n0_ := Aside0.mk (Kd.S_lower ho0 (below_size (belN HB))); have n1_ := Aside0.mk (below_step (belN HB) hb); clear HB; have HO133 := n0_; have HB := n1_; clear n0_ n1_; (try clear hb); (try clear hb2); (try clear hk); (try clear hi); (try clear ho0)))
      go_ret2
      exact ⟨_, by first | rfl | (simp [errW_none, errW_some] <;> rfl) | (simp [*, errW_none, errW_some] <;> rfl), by first | exact Kd.R_nil _ _ _ _ _ | exact Kd.N_nil _ _ _ _ _ | exact Kd.V_nil _ _ _ _ _ | exact Kd.Q_nil _ _ _ _ _ | exact Kd.S_nil _ _ _ _ _, by repeat (first | (with_reducible first | exact HB.out | apply below_alloc | apply pw_below_drewN | apply below_drew1) | exact HB.out)⟩
  · rw [if_neg c6] at H
    have c6b0 : (t131 == 0) = false := beq_eq_false_iff_ne.mpr c6
    have c6b1 : (t131 != 0) = true := bne_iff_ne.mpr c6
    simp only [Option.some.injEq, Prod.mk.injEq] at H
    obtain ⟨rfl, rfl⟩ := H
    go_enter Try.func13, Try.ntmps13
    go_wp2_with (first | ((with_reducible refine gate_callee (f := 23) rfl ?_); refine goesL_ (some 17) rfl rfl Try.func23 (by kernel_rfl) rfl #[.slice A0 l0.length c0, .int .u64 a1, .int .u64 a3] rfl (by (try simp only [List.map_toArray, List.map_cons, List.map_nil]); first | done | rfl | (simp only [List.length_drop, List.length_take]; rfl)) ?_; (with_reducible refine (idem_find.calls k _ _ l0 a1 a3 t128 t129 t130 t131 _ ?side1 ?side2 A5.out).mono ?_); (case side1 => repeat (first | exact HR0.out | (with_reducible refine Kd.C_alloc ?_ _) | (with_reducible refine Kd.C_drewN ?_ _) | (with_reducible refine Kd.C_drew ?_))); (case side2 => exact HC0.out); rintro e w17 ⟨v132, rfl, ho0, hb⟩; refine ⟨_, rfl, ?_⟩; have n0_ := Aside0.mk (Kd.S_lower ho0 (below_size (belN HB))); have n1_ := Aside0.mk (below_step (belN HB) hb); clear HB; have HO133 := n0_; have HB := n1_; clear n0_ n1_; (try clear hb); (try clear hb2); (try clear hk); (try clear hi); (try clear ho0)))
    go_ret2
    exact ⟨_, by first | rfl | (simp [errW_none, errW_some] <;> rfl) | (simp [*, errW_none, errW_some] <;> rfl), by first | exact Kd.R_nil _ _ _ _ _ | exact Kd.N_nil _ _ _ _ _ | exact Kd.V_nil _ _ _ _ _ | exact Kd.Q_nil _ _ _ _ _ | exact Kd.S_nil _ _ _ _ _, by repeat (first | (with_reducible first | exact HB.out | apply below_alloc | apply pw_below_drewN | apply below_drew1) | exact HB.out)⟩

/-! ### damsonlaw14_live: function 8 (by hand) -/
def damsonlaw14_live.f (k : Nat)  : Option (Bool) := (idem_Put.f k ([] : List (S26)) 1 (([97] : List Int)) (([98] : List Int)) 5 0).bind fun bt143 => ((idem_Look.f k bt143.1 1 (([97] : List Int)) 5).bind fun bt150 => ((idem_Look.f k bt143.1 1 (([120] : List Int)) 5).bind fun bt157 => (if bt143.2 = 0 then (if bt150.2 = 0 then (if (strOfNums bt150.1).toList = ([98] : List UInt8) then (some (bt157.2 == 12)) else (some false)) else (some false)) else (some false))))
theorem damsonlaw14_live.mono : ∀ k, LeO (damsonlaw14_live.f k ) (damsonlaw14_live.f (k + 1) ) := by
  intro  k
  unfold damsonlaw14_live.f
  exact LeO.bind (idem_Put.mono _ _ _ _ _ _ _) (fun _ => LeO.bind (idem_Look.mono _ _ _ _ _) (fun _ => LeO.bind (idem_Look.mono _ _ _ _ _) (fun _ => LeO.refl _)))
theorem mark_C (w : World) (x : Int) : Kd.C (Kd.int .u8) (w.alloc (.cells #[.int .u8 x] 5 (1, 2))) (some ⟨w.heap.size, 0, none⟩) 1 [x] := by
  refine ⟨rfl, by decide, fun _ => ⟨_, rfl, fun j p hj => ?_⟩⟩
  cases j with
  | zero =>
    have e : x = p := by simpa using hj
    subst e
    refine ⟨[.int .u8 x], rfl, rfl, fun i u hi => ?_⟩
    cases i with
    | zero =>
      have e : (Value.int .u8 x) = u := by simpa using hi
      subst e
      have ha : (⟨w.heap.size, 0, none⟩ : Addr).add (0 * (Kd.int .u8).sz + 0) = ⟨w.heap.size, 0, none⟩ := by simp [Addr.add]
      rw [ha, World.cell?_alloc_mark]; rfl
    | succ i => simp at hi
  | succ j => simp at hj
set_option maxHeartbeats 4000000 in
theorem damsonlaw14_live.calls (k : Nat)  (r : Bool) (w : World) (h : damsonlaw14_live.f k  = some r) :
    Calls Try.prog 8 #[] w fun e w' => e = .returned (.bool r) ∧ Below w.heap.size w w' := by
  have kc := fun (w : World) (C : Array Value) (n c : Nat) => Lib.run_convert_bytes_const (P := Try.prog) w 24 5 C n c Try.underlying24 Try.underlying5
  have kc2 : ∀ (w : World) (o : Obj) (C : Array Value) (n c : Nat), (convert 24 24 (.slice (some ⟨w.heap.size + 1, 0, none⟩) n c)).run Try.prog ((w.alloc o).alloc (.cells C 5)) = .ok (.slice (some ⟨w.heap.size + 1, 0, none⟩) n c) ((w.alloc o).alloc (.cells C 5 (C.size, C.size + 1))) := fun w o C n c => by
    have := kc (w.alloc o) C n c
    rwa [show (w.alloc o).heap.size = w.heap.size + 1 by simp] at this
  obtain ⟨⟨t1, e1⟩, h1, h⟩ := Option.bind_eq_some_iff.mp h
  obtain ⟨⟨t2, e2⟩, h2, h⟩ := Option.bind_eq_some_iff.mp h
  obtain ⟨⟨t3, e3⟩, h3, h⟩ := Option.bind_eq_some_iff.mp h
  have H1 := Aside0.mk h1
  have H2 := Aside0.mk h2
  have H3 := Aside0.mk h3
  clear h1 h2 h3
  simp only at h
  have HB0 := Aside0.mk (((Below.refl w.heap.size w).alloc (Nat.le_refl _) (.cells #[.int .u8 97] 5 (1, 2))).alloc (by simp) (.cells #[.int .u8 98] 5 (1, 2)))
  have HM := Aside0.mk (mark_C (w.alloc (.cells #[.int .u8 97] 5 (1, 2))) 98)
  rw [show (w.alloc (.cells #[.int .u8 97] 5 (1, 2))).heap.size = w.heap.size + 1 by simp] at HM
  have HS0 := Aside0.mk (show w.heap.size ≤ ((w.alloc (.cells #[.int .u8 97] 5 (1, 2))).alloc (.cells #[.int .u8 98] 5 (1, 2))).heap.size by simp; omega)
  by_cases c4 : e1 = 0
  · rw [if_pos c4] at h
    have b4 : (e1 == 0) = true := beq_iff_eq.mpr c4
    clear c4
    by_cases c5 : e2 = 0
    · rw [if_pos c5] at h
      have b5 : (e2 == 0) = true := beq_iff_eq.mpr c5
      clear c5
      by_cases c6 : (strOfNums t2).toList = ([98] : List UInt8)
      · rw [if_pos c6] at h
        have b6 : ((strOfNums t2).toList == ([98] : List UInt8)) = true := beq_iff_eq.mpr c6
        clear c6
        injection h with h
        subst h
        go_enter Try.func8, Try.ntmps8
        go_wp2_with (first | (go_at_call 11; refine (idem_Put.calls k none 0 [] 1 (some ⟨w.heap.size, 0, none⟩) 1 [97] (some ⟨w.heap.size + 1, 0, none⟩) 1 [98] 5 0 t1 e1 _ (Kd.C_nil _ _) (Nat.le_refl _) (Kd.C_alloc (mark_C w 97) _) (Nat.le_refl _) HM.out (Nat.le_refl _) H1.out).mono ?_; rintro e w2 ⟨v1, rfl, hS, hb⟩; obtain ⟨A1, c1, ev1⟩ := Kd.S_slice hS; subst ev1; have HS1 := Aside0.mk hS; have HB1 := Aside0.mk (below_then HB0.out HS0.out hb); have HL1 := Aside0.mk (Nat.le_trans HS0.out hb.size); clear hS hb) | (go_at_call 13; refine (idem_Look.calls k A1 c1 t1 1 (some ⟨w2.heap.size, 0, none⟩) 1 [97] 5 t2 e2 _ (Kd.S_reads' (Kd.S_alloc HS1.out (.cells #[.int .u8 97] 5 (1, 2)))).2.2 (Kd.S_reads' HS1.out).2.1 (mark_C w2 97) (Nat.le_refl _) H2.out).mono ?_; rintro e w4 ⟨v2, rfl, hR, hb⟩; have hb2 := ((Below.refl w2.heap.size w2).alloc (Nat.le_refl _) (.cells #[.int .u8 97] 5 (1, 2))).trans (hb.mono (by simp)); have HS2 := Aside0.mk (Kd.S_below HS1.out hb2); have HR2 := Aside0.mk hR; have HB2 := Aside0.mk (below_then HB1.out HL1.out hb2); have HL2 := Aside0.mk (Nat.le_trans HL1.out hb2.size); clear HS1 hR hb hb2) | (go_at_call 13; refine (idem_Look.calls k A1 c1 t1 1 (some ⟨w4.heap.size, 0, none⟩) 1 [120] 5 t3 e3 _ (Kd.S_reads' (Kd.S_alloc HS2.out (.cells #[.int .u8 120] 5 (1, 2)))).2.2 (Kd.S_reads' HS2.out).2.1 (mark_C w4 120) (Nat.le_refl _) H3.out).mono ?_; rintro e w6 ⟨v3, rfl, hR, hb⟩; have hb2 := ((Below.refl w4.heap.size w4).alloc (Nat.le_refl _) (.cells #[.int .u8 120] 5 (1, 2))).trans (hb.mono (by simp)); have hcv := own_string (P := Try.prog) Try.underlying24 Try.underlying5 Try.underlying9 (Kd.own_of_R (Kd.R_below HR2.out hb2)); have HB3 := Aside0.mk (below_then HB2.out HL2.out hb2); clear hR hb hb2))
        go_ret
        exact ⟨rfl, HB3.out⟩
      · rw [if_neg c6] at h
        have b6 : ((strOfNums t2).toList == ([98] : List UInt8)) = false := beq_eq_false_iff_ne.mpr c6
        clear c6
        injection h with h
        subst h
        go_enter Try.func8, Try.ntmps8
        go_wp2_with (first | (go_at_call 11; refine (idem_Put.calls k none 0 [] 1 (some ⟨w.heap.size, 0, none⟩) 1 [97] (some ⟨w.heap.size + 1, 0, none⟩) 1 [98] 5 0 t1 e1 _ (Kd.C_nil _ _) (Nat.le_refl _) (Kd.C_alloc (mark_C w 97) _) (Nat.le_refl _) HM.out (Nat.le_refl _) H1.out).mono ?_; rintro e w2 ⟨v1, rfl, hS, hb⟩; obtain ⟨A1, c1, ev1⟩ := Kd.S_slice hS; subst ev1; have HS1 := Aside0.mk hS; have HB1 := Aside0.mk (below_then HB0.out HS0.out hb); have HL1 := Aside0.mk (Nat.le_trans HS0.out hb.size); clear hS hb) | (go_at_call 13; refine (idem_Look.calls k A1 c1 t1 1 (some ⟨w2.heap.size, 0, none⟩) 1 [97] 5 t2 e2 _ (Kd.S_reads' (Kd.S_alloc HS1.out (.cells #[.int .u8 97] 5 (1, 2)))).2.2 (Kd.S_reads' HS1.out).2.1 (mark_C w2 97) (Nat.le_refl _) H2.out).mono ?_; rintro e w4 ⟨v2, rfl, hR, hb⟩; have hb2 := ((Below.refl w2.heap.size w2).alloc (Nat.le_refl _) (.cells #[.int .u8 97] 5 (1, 2))).trans (hb.mono (by simp)); have HS2 := Aside0.mk (Kd.S_below HS1.out hb2); have HR2 := Aside0.mk hR; have HB2 := Aside0.mk (below_then HB1.out HL1.out hb2); have HL2 := Aside0.mk (Nat.le_trans HL1.out hb2.size); clear HS1 hR hb hb2) | (go_at_call 13; refine (idem_Look.calls k A1 c1 t1 1 (some ⟨w4.heap.size, 0, none⟩) 1 [120] 5 t3 e3 _ (Kd.S_reads' (Kd.S_alloc HS2.out (.cells #[.int .u8 120] 5 (1, 2)))).2.2 (Kd.S_reads' HS2.out).2.1 (mark_C w4 120) (Nat.le_refl _) H3.out).mono ?_; rintro e w6 ⟨v3, rfl, hR, hb⟩; have hb2 := ((Below.refl w4.heap.size w4).alloc (Nat.le_refl _) (.cells #[.int .u8 120] 5 (1, 2))).trans (hb.mono (by simp)); have hcv := own_string (P := Try.prog) Try.underlying24 Try.underlying5 Try.underlying9 (Kd.own_of_R (Kd.R_below HR2.out hb2)); have HB3 := Aside0.mk (below_then HB2.out HL2.out hb2); clear hR hb hb2))
        go_ret
        exact ⟨rfl, HB3.out⟩
    · rw [if_neg c5] at h
      have b5 : (e2 == 0) = false := beq_eq_false_iff_ne.mpr c5
      clear c5
      injection h with h
      subst h
      go_enter Try.func8, Try.ntmps8
      go_wp2_with (first | (go_at_call 11; refine (idem_Put.calls k none 0 [] 1 (some ⟨w.heap.size, 0, none⟩) 1 [97] (some ⟨w.heap.size + 1, 0, none⟩) 1 [98] 5 0 t1 e1 _ (Kd.C_nil _ _) (Nat.le_refl _) (Kd.C_alloc (mark_C w 97) _) (Nat.le_refl _) HM.out (Nat.le_refl _) H1.out).mono ?_; rintro e w2 ⟨v1, rfl, hS, hb⟩; obtain ⟨A1, c1, ev1⟩ := Kd.S_slice hS; subst ev1; have HS1 := Aside0.mk hS; have HB1 := Aside0.mk (below_then HB0.out HS0.out hb); have HL1 := Aside0.mk (Nat.le_trans HS0.out hb.size); clear hS hb) | (go_at_call 13; refine (idem_Look.calls k A1 c1 t1 1 (some ⟨w2.heap.size, 0, none⟩) 1 [97] 5 t2 e2 _ (Kd.S_reads' (Kd.S_alloc HS1.out (.cells #[.int .u8 97] 5 (1, 2)))).2.2 (Kd.S_reads' HS1.out).2.1 (mark_C w2 97) (Nat.le_refl _) H2.out).mono ?_; rintro e w4 ⟨v2, rfl, hR, hb⟩; have hb2 := ((Below.refl w2.heap.size w2).alloc (Nat.le_refl _) (.cells #[.int .u8 97] 5 (1, 2))).trans (hb.mono (by simp)); have HS2 := Aside0.mk (Kd.S_below HS1.out hb2); have HR2 := Aside0.mk hR; have HB2 := Aside0.mk (below_then HB1.out HL1.out hb2); have HL2 := Aside0.mk (Nat.le_trans HL1.out hb2.size); clear HS1 hR hb hb2) | (go_at_call 13; refine (idem_Look.calls k A1 c1 t1 1 (some ⟨w4.heap.size, 0, none⟩) 1 [120] 5 t3 e3 _ (Kd.S_reads' (Kd.S_alloc HS2.out (.cells #[.int .u8 120] 5 (1, 2)))).2.2 (Kd.S_reads' HS2.out).2.1 (mark_C w4 120) (Nat.le_refl _) H3.out).mono ?_; rintro e w6 ⟨v3, rfl, hR, hb⟩; have hb2 := ((Below.refl w4.heap.size w4).alloc (Nat.le_refl _) (.cells #[.int .u8 120] 5 (1, 2))).trans (hb.mono (by simp)); have hcv := own_string (P := Try.prog) Try.underlying24 Try.underlying5 Try.underlying9 (Kd.own_of_R (Kd.R_below HR2.out hb2)); have HB3 := Aside0.mk (below_then HB2.out HL2.out hb2); clear hR hb hb2))
      go_ret
      exact ⟨rfl, HB3.out⟩
  · rw [if_neg c4] at h
    have b4 : (e1 == 0) = false := beq_eq_false_iff_ne.mpr c4
    clear c4
    injection h with h
    subst h
    go_enter Try.func8, Try.ntmps8
    go_wp2_with (first | (go_at_call 11; refine (idem_Put.calls k none 0 [] 1 (some ⟨w.heap.size, 0, none⟩) 1 [97] (some ⟨w.heap.size + 1, 0, none⟩) 1 [98] 5 0 t1 e1 _ (Kd.C_nil _ _) (Nat.le_refl _) (Kd.C_alloc (mark_C w 97) _) (Nat.le_refl _) HM.out (Nat.le_refl _) H1.out).mono ?_; rintro e w2 ⟨v1, rfl, hS, hb⟩; obtain ⟨A1, c1, ev1⟩ := Kd.S_slice hS; subst ev1; have HS1 := Aside0.mk hS; have HB1 := Aside0.mk (below_then HB0.out HS0.out hb); have HL1 := Aside0.mk (Nat.le_trans HS0.out hb.size); clear hS hb) | (go_at_call 13; refine (idem_Look.calls k A1 c1 t1 1 (some ⟨w2.heap.size, 0, none⟩) 1 [97] 5 t2 e2 _ (Kd.S_reads' (Kd.S_alloc HS1.out (.cells #[.int .u8 97] 5 (1, 2)))).2.2 (Kd.S_reads' HS1.out).2.1 (mark_C w2 97) (Nat.le_refl _) H2.out).mono ?_; rintro e w4 ⟨v2, rfl, hR, hb⟩; have hb2 := ((Below.refl w2.heap.size w2).alloc (Nat.le_refl _) (.cells #[.int .u8 97] 5 (1, 2))).trans (hb.mono (by simp)); have HS2 := Aside0.mk (Kd.S_below HS1.out hb2); have HR2 := Aside0.mk hR; have HB2 := Aside0.mk (below_then HB1.out HL1.out hb2); have HL2 := Aside0.mk (Nat.le_trans HL1.out hb2.size); clear HS1 hR hb hb2) | (go_at_call 13; refine (idem_Look.calls k A1 c1 t1 1 (some ⟨w4.heap.size, 0, none⟩) 1 [120] 5 t3 e3 _ (Kd.S_reads' (Kd.S_alloc HS2.out (.cells #[.int .u8 120] 5 (1, 2)))).2.2 (Kd.S_reads' HS2.out).2.1 (mark_C w4 120) (Nat.le_refl _) H3.out).mono ?_; rintro e w6 ⟨v3, rfl, hR, hb⟩; have hb2 := ((Below.refl w4.heap.size w4).alloc (Nat.le_refl _) (.cells #[.int .u8 120] 5 (1, 2))).trans (hb.mono (by simp)); have hcv := own_string (P := Try.prog) Try.underlying24 Try.underlying5 Try.underlying9 (Kd.own_of_R (Kd.R_below HR2.out hb2)); have HB3 := Aside0.mk (below_then HB2.out HL2.out hb2); clear hR hb hb2))
    go_ret
    exact ⟨rfl, HB3.out⟩

end Go.Proofs.Ytmoncgfffdddeaa.P
