/- Words of this session's own print: copy between rows of elements of several cells; what an insertion leaves. -/
import Derived.Test.YtcfbcoinbecdfaaZ
import Derived.Test.YtcfbcoinbecdfaaWN
import Derived.Lib.Overlaps
import Derived.Lib.SliceRun
import Derived.Lib.AppendZeros
import Derived.Lib.AppendZerosOnto
import Derived.Deep.RegionLaw
set_option linter.unusedVariables false
namespace Go.Proofs.YtcfbcoinbecdfaaW.PrintWords
open Go.RowKit
section
variable {P : Program}
/-- copy between two slices of elements of sz cells: the source's cells are read first. -/
theorem run_copy_rowK (w : World) (dT sT ty elem : TypeId) (g o dLen dCap : Nat) (a : Addr) (sLen sCap sz m : Nat) (cur : Array Value) (t : TypeId) (cs : List Value)
    (hu : P.underlying dT = some (.slice elem)) (hs : (P.info? elem).map (·.size) = some sz)
    (hg : w.heap[g]? = some (.cells cur t (0, 0))) (hm : m = Nat.min sLen dLen) (hn : cs.length = m * sz)
    (hsrc : ∀ j v, cs[j]? = some v → w.cell? (a.add j) = some v) (hfit : o + cs.length ≤ cur.size) (h1 : ∀ v ∈ cs, v.oneCell' = true) :
    (Builtin.copy_ #[dT, sT] ty #[.slice (some ⟨g, o, none⟩) dLen dCap, .slice (some a) sLen sCap]).run P w =
      .ok (goInt m) (w.setRow g (cur.toList.take o ++ cs ++ cur.toList.drop (o + cs.length)).toArray) := by
  have hl := run_loadCells_list (P := P) w a cs hsrc
  have hst := run_storeCells_at P g o t cs 0 cur w hg (by simpa using hfit) h1
  cases hq : P.info? elem with
  | none => simp [hq] at hs
  | some i =>
    have hi : i.size = sz := by simpa [hq] using hs
    rw [hn] at hl
    simp [Builtin.copy_, run_underlying hu, Builtin.lenOf, Builtin.firstCells, sizeOf, typeInfo, hq, hi, ← hm, hl, hst]
/-- The operation copy(d, s), where its run is known. -/
theorem wpList_copy_run {ops : Array Oper} {rest : List Oper} {o : Oper} {a : Act} {Q : Exit → Act → World → Prop} (w : World) (hgd : o.guard = none) (d s : Operand) (t t' : TypeId)
    (ho : o.op = .call { callee := .builtin .copy, args := #[d, s], argTypes := #[t, t'] }) (v u : Value) (hd : a.eval d = v) (hs : a.eval s = u) {v' : Value} {w' : World}
    (hr : (Builtin.copy_ #[t, t'] o.type #[v, u]).run P w = .ok v' w') (h : wpList P ops Q rest (a.put o.dst v') w') : wpList P ops Q (o :: rest) a w := by
  refine wpList_plain hgd fun K hK => ?_
  unfold Oper.wp execOp
  simp only [ho, resolve, invoke, builtin, Sem.run_bind, Sem.run_pure, Result.andThen_ok, List.map_toArray, List.map_cons, List.map_nil, hd, hs, hr]
  exact hK _ _ h
/-- The same as one step of a region that draws. -/
theorem step_copy_run {ops : Array Oper} {o : Oper} {a : Act} {w : World} {K : Act → World → Prop} {Q : Exit → Act → World → Prop} {E : Prop}
    (hg : o.guard = none) (d x : Operand) (dT sT : TypeId) (hop : o.op = Op.call { callee := Callee.builtin Builtin.copy, args := #[d, x], argTypes := #[dT, sT] })
    (v u : Value) (hd : a.eval d = v) (hx : a.eval x = u) {v' : Value} {w' : World} (hr : (Builtin.copy_ #[dT, sT] o.type #[v, u]).run P w = .ok v' w') (hK : K (a.put o.dst v') w') :
    if Region.wanted o (yielded ops a.tmps) = true then Oper.wp P o a w K Q else E := by
  have hw : Region.wanted o (yielded ops a.tmps) = true := by simp [Region.wanted, hg]
  rw [if_pos hw]
  unfold Oper.wp
  simp [execOp, hop, resolve, invoke, builtin, hd, hx, hr, Result.andThen]
  exact hK
end
section
variable {α : Type} {d : Kd α}
theorem C_none_ {w : World} {xs : List α} (h : d.C w none xs.length xs) : xs = [] := by
  rcases Nat.eq_zero_or_pos xs.length with h0 | h0
  · exact List.eq_nil_of_length_eq_zero h0
  · obtain ⟨ad, e, _⟩ := h.2.2 h0
    cases e
/-- What an insertion leaves. -/
theorem Kd_R_inserted {e base : Nat} {P0 P2 : Nat → Prop} {W w1 : World} {u v v1 : Value} {xs ys : List α} {in0 in2 : List Value} (i : Nat) (hi : i ≤ xs.length) (h0 : ∀ k, u.ownBlock = some k → P0 k)
    (hr0 : Reps (d.M W base (fun k => P0 k ∧ some k ≠ u.ownBlock)) d.sz xs in0) (hr2 : Reps (d.M W base (fun k => P2 k ∧ some k ≠ v.ownBlock)) d.sz ys in2) (hp : ∀ k, P0 k → ¬ P2 k)
    (hown : w1.ownsRow base e d.sz v1 (xs.length + ys.length) (in0.take (i * d.sz) ++ in2 ++ in0.drop (i * d.sz))) (hg : W.grownBy w1 u.ownBlock)
    (hat : v1.ownBlock = u.ownBlock ∨ ∃ b, v1.ownBlock = some b ∧ W.heap.size ≤ b) : d.R e w1 base (fun k => (P0 k ∨ P2 k) ∨ W.heap.size ≤ k) v1 (xs.take i ++ ys ++ xs.drop i) := by
  have hne : ∀ k, some k ≠ u.ownBlock → k < W.heap.size → some k ≠ v1.ownBlock := by
    intro k hk hlt
    rcases hat with hat | ⟨b, hb, hle⟩
    · rw [hat]; exact hk
    · rw [hb]
      intro he
      injection he with he
      omega
  have step : ∀ {q : α} {c : List Value} {o : Nat → Prop}, d.M W base o q c → (∀ k, o k → (P0 k ∨ P2 k) ∧ some k ≠ u.ownBlock) → d.M w1 base (fun k => ((P0 k ∨ P2 k) ∨ W.heap.size ≤ k) ∧ some k ≠ v1.ownBlock) q c := by
    intro q c o hq ho
    have h1 := d.M_move (w1 := w1) (fun k hk => hg.block k hk.2.2.1 (ho k hk.1).2) (d.M_bound hq)
    exact d.M_mono (fun k hk => ⟨.inl (ho k hk.1).1, hne k (ho k hk.1).2 hk.2.2.1⟩) h1
  have s0 := hr0.imp_ (fun _ _ hq => step hq (fun k hk => ⟨.inl hk.1, hk.2⟩))
  have s2 := hr2.imp_ (fun _ _ hq => step hq (fun k hk => ⟨.inr hk.1, fun he => hp k (h0 k he.symm) hk.1⟩))
  refine ⟨fun k hk => ?_, _, ?_, Kd.reps_append (Kd.reps_append (Kd.reps_take s0 hi) s2) (Kd.reps_drop s0)⟩
  · rcases hat with hat | ⟨b, hb, hle⟩
    · exact .inl (.inl (h0 k (hat ▸ hk)))
    · rw [hb] at hk
      injection hk with hk
      exact .inr (by omega)
  · have hl : (xs.take i ++ ys ++ xs.drop i).length = xs.length + ys.length := by simp only [List.length_append, List.length_take, List.length_drop]; omega
    rw [hl]; exact hown
end
theorem grown_setRow (w : World) (g : Nat) (cs : Array Value) : w.grownBy (w.setRow g cs) (some g) :=
  ⟨rfl, rfl, rfl, by simp [World.setRow], fun k _ hk => setRow_other w g k cs (fun e => hk (by rw [e]))⟩
theorem grown_trans {w w1 w2 : World} {row : Option Nat} (h : w.grownBy w1 row) (k : w1.grownBy w2 row) : w.grownBy w2 row :=
  ⟨k.os.trans h.os, k.tape.trans h.tape, k.output.trans h.output, Nat.le_trans h.size k.size, fun i hi hr => (k.block i (Nat.lt_of_lt_of_le hi h.size) hr).trans (h.block i hi hr)⟩
theorem grown_drewN {w w1 : World} {row : Option Nat} (h : w.grownBy w1 row) (n : Nat) : w.grownBy (w1.drewN n) row := ⟨h.os, h.tape, h.output, h.size, h.block⟩
/-- A block's cells, one by one. -/
theorem blk_cells {w : World} {g : Nat} {cur : Array Value} {t : TypeId} (h : w.heap[g]? = some (.cells cur t (0, 0))) (off n : Nat) (cs : List Value) (hc : (cur.toList.drop off).take n = cs) :
    ∀ j v, cs[j]? = some v → w.cell? ((⟨g, off, none⟩ : Addr).add j) = some v := by
  intro j v hj
  rw [Addr.add_lit, blk_cell h]
  subst hc
  rw [List.getElem?_take] at hj
  split at hj
  · rw [List.getElem?_drop] at hj
    simpa using hj
  · cases hj
/-- A row's cells behind the two copies of an insertion with room. -/
theorem ins_cells {β : Type} (L vs : List β) (a m z c : Nat) (hL : a + m + z ≤ L.length) (hv : vs.length = z) :
    let c1 := L.take (a + z) ++ (L.drop a).take m ++ L.drop (a + z + m)
    let c2 := c1.take a ++ vs ++ c1.drop (a + z)
    c2.length = L.length ∧ c2.take (a + m + z) = (L.take (a + m)).take a ++ vs ++ (L.take (a + m)).drop a := by
  have e1 : (L.take (a + z) ++ (L.drop a).take m ++ L.drop (a + z + m)).take a = L.take a := by
    rw [List.append_assoc, List.take_append_of_le_length (by rw [List.length_take]; omega), List.take_take, Nat.min_eq_left (by omega)]
  have e2 : (L.take (a + z) ++ (L.drop a).take m ++ L.drop (a + z + m)).drop (a + z) = (L.drop a).take m ++ L.drop (a + z + m) := by
    rw [List.append_assoc, List.drop_append_of_le_length (by rw [List.length_take]; omega), List.drop_of_length_le (by rw [List.length_take]; omega), List.nil_append]
  have e3 : (L.take (a + m)).take a = L.take a := by rw [List.take_take, Nat.min_eq_left (by omega)]
  have e4 : (L.take (a + m)).drop a = (L.drop a).take m := by rw [List.drop_take, Nat.add_sub_cancel_left]
  refine ⟨?_, ?_⟩
  · show (List.take a (L.take (a + z) ++ (L.drop a).take m ++ L.drop (a + z + m)) ++ vs ++ List.drop (a + z) (L.take (a + z) ++ (L.drop a).take m ++ L.drop (a + z + m))).length = L.length
    rw [e1, e2]
    simp only [List.length_append, List.length_take, List.length_drop]
    omega
  · show List.take (a + m + z) (List.take a (L.take (a + z) ++ (L.drop a).take m ++ L.drop (a + z + m)) ++ vs ++ List.drop (a + z) (L.take (a + z) ++ (L.drop a).take m ++ L.drop (a + z + m))) = _
    rw [e1, e2, e3, e4, ← List.append_assoc, List.take_append_of_le_length (by simp only [List.length_append, List.length_take, List.length_drop]; omega), List.take_of_length_le (by simp only [List.length_append, List.length_take, List.length_drop]; omega)]
section
variable {P : Program}
/-- clear(s) of a slice of elements of several cells. -/
theorem run_clear_rowK (w : World) (t e ty : TypeId) (z : Value) (ht : P.underlying t = some (.slice e)) (hv : ∀ w, (zeroValue e).run P w = .ok z w) (g o n c : Nat) (hn : 0 < n) (cur : Array Value) (tt : TypeId)
    (hg : w.heap[g]? = some (.cells cur tt (0, 0))) (zs : List Value) (hz : zs = (Builtin.zeroCells z.cells n).toList) (hfit : o + zs.length ≤ cur.size) (h1 : ∀ v ∈ zs, v.oneCell' = true) :
    (Builtin.clear_ #[t] ty #[.slice (some ⟨g, o, none⟩) n c]).run P w = .ok (.tuple #[]) (w.setRow g (cur.toList.take o ++ zs ++ cur.toList.drop (o + zs.length)).toArray) := by
  have hst := run_storeCells_at P g o tt zs 0 cur w hg (by simpa using hfit) h1
  obtain ⟨m, rfl⟩ : ∃ m, n = m + 1 := ⟨n - 1, by omega⟩
  rw [hz] at hst ⊢
  simp [Builtin.clear_, run_underlying ht, hv, hst]
theorem wpList_clear_run {ops : Array Oper} {rest : List Oper} {o : Oper} {a : Act} {Q : Exit → Act → World → Prop} (w : World) (hgd : o.guard = none) (s : Operand) (t : TypeId)
    (ho : o.op = .call { callee := .builtin .clear, args := #[s], argTypes := #[t] }) (v : Value) (hs : a.eval s = v) {v' : Value} {w' : World}
    (hr : (Builtin.clear_ #[t] o.type #[v]).run P w = .ok v' w') (h : wpList P ops Q rest (a.put o.dst v') w') : wpList P ops Q (o :: rest) a w := by
  refine wpList_plain hgd fun K hK => ?_
  unfold Oper.wp execOp
  simp only [ho, resolve, invoke, builtin, Sem.run_bind, Sem.run_pure, Result.andThen_ok, List.map_toArray, List.map_cons, List.map_nil, hs, hr]
  exact hK _ _ h
/-- An append whose run is known, as one step of a region that draws. -/
theorem step_append_run {ops : Array Oper} {o : Oper} {a : Act} {w : World} {K : Act → World → Prop} {Q : Exit → Act → World → Prop} {E : Prop}
    (hg : o.guard = none) (d x : Operand) (dT sT : TypeId) (hop : o.op = Op.call { callee := Callee.builtin Builtin.append, args := #[d, x], argTypes := #[dT, sT] })
    (v u : Value) (hd : a.eval d = v) (hx : a.eval x = u) {v' : Value} {w' : World} (hr : (Builtin.append_ #[dT, sT] o.type #[v, u]).run P w = .ok v' w') (hK : K (a.put o.dst v') w') :
    if Region.wanted o (yielded ops a.tmps) = true then Oper.wp P o a w K Q else E := by
  have hw : Region.wanted o (yielded ops a.tmps) = true := by simp [Region.wanted, hg]
  rw [if_pos hw]
  unfold Oper.wp
  simp [execOp, hop, resolve, invoke, builtin, hd, hx, hr, Result.andThen]
  exact hK
end
/-- What a row's block holds behind the row may change. -/
theorem Kd_R_past {α : Type} {d : Kd α} {e base : Nat} {ok : Nat → Prop} {w : World} {g n cap : Nat} {xs : List α} {cur cur' : Array Value} (h : d.R e w base ok (.slice (some ⟨g, 0, none⟩) n cap) xs) (hg : w.heap[g]? = some (.cells cur e (0, 0)))
    (hs : cur'.size = cur.size) (ht : cur'.toList.take (n * d.sz) = cur.toList.take (n * d.sz)) : d.R e (w.setRow g cur') base ok (.slice (some ⟨g, 0, none⟩) n cap) xs := by
  obtain ⟨hok, inner, hown, hr⟩ := h
  have hn : xs.length = n := by
    rcases hown.2 with ⟨h0, _⟩ | ⟨g', cap', cur0, hv, _⟩
    · cases h0
    · injection hv with _ h2 _; exact h2.symm
  refine ⟨hok, inner, ?_, hr.imp_ (fun _ _ hq => Kd.M_step hq (fun k hk _ => setRow_other w g k cur' (fun he => hk.2 (by rw [he]; rfl))))⟩
  rcases hown with ⟨hl, ⟨h0, _⟩ | ⟨g', cap', cur0, hv, hb, hh, h3, h4, h5, h6⟩⟩
  · cases h0
  · injection hv with ha h2 hc
    injection ha with ha
    injection ha with ha
    subst ha; subst hc
    rw [hg] at hh
    injection hh with hh
    injection hh with hh
    subst hh
    refine ⟨hl, .inr ⟨g, cap, cur', by rw [h2], hb, setRow_heap w g cur cur' e _ hg, h3, h4, hs.trans h5, ?_⟩⟩
    rw [hn] at h6 ⊢
    rw [ht]; exact h6
end Go.Proofs.YtcfbcoinbecdfaaW.PrintWords
