/- Plain laws of the package ledger: where a channel is, what one is, which one has a hold. -/
import Derived.Test.YtcfbcoinbecdfaaLdD
import Derived.Test.YtcfbcoinbecdfaaQLdoesx5
import Derived.Test.YtcfbcoinbecdfaaQLdoesx7
set_option linter.unusedVariables false
namespace Go.Proofs.Ytcfbcoinbecdfaa.B
open Go.RowKit Go.Proofs.Ytcfbcoinbecdfaa.P Go.Proofs.YtcfbcoinbecdfaaW.PrintWords
theorem rd25 (l : List S25) (n : Nat) : rd_T25 l (n : Int) = l.getD n z25 := by unfold rd_T25; rw [Int.toNat_natCast]
theorem drop_rd25 {xs ys : List S25} {i : Nat} {y : S25} (h : xs.drop i = y :: ys) : rd_T25 xs (i : Int) = y := by rw [rd25]; exact drop_get z25 h
theorem lorder_eq (a0 a1 a2 a3 a4 : Int) (a5 : List S44) (a6 : Bool) (h : Int) : ledger_order.f a0 a1 a2 a3 a4 a5 a6 h = some (if a0 < h then -1 else if a0 > h then 1 else 0) := by
  unfold ledger_order.f
  rw [cmp_eq]; rfl
theorem lsearch_hyps (l : List S25) (h : Int) (hl : l.length ≤ 1073741824) :
    (∀ (k i j m : Nat), i < j → j ≤ l.length → m = (i + j) / 2 → slices_BinarySearchFunc_uint64_at_ledger_order.l0 (k + 1) l h (l.length : Int) (i : Int) (j : Int) = if lk (l.getD m z25) < h then slices_BinarySearchFunc_uint64_at_ledger_order.l0 k l h (l.length : Int) ((m + 1 : Nat) : Int) (j : Int) else slices_BinarySearchFunc_uint64_at_ledger_order.l0 k l h (l.length : Int) (i : Int) (m : Int)) ∧
    (∀ (k i : Nat), i < l.length → slices_BinarySearchFunc_uint64_at_ledger_order.l0 (k + 1) l h (l.length : Int) (i : Int) (i : Int) = some ((i : Int), decide (lk (l.getD i z25) = h))) ∧
    (∀ (k : Nat), slices_BinarySearchFunc_uint64_at_ledger_order.l0 (k + 1) l h (l.length : Int) (l.length : Int) (l.length : Int) = some ((l.length : Int), false)) := by
  refine ⟨?_, ?_, ?_⟩
  · intro k i j m hij hj hm
    have e1 := mid_eq hm (by omega) hij
    have hml : m < l.length := by omega
    rw [slices_BinarySearchFunc_uint64_at_ledger_order.l0, if_pos (by omega), e1, if_pos (by omega), if_pos (by omega), lorder_eq, rd25]
    simp only [Option.bind_some]
    by_cases c : (l.getD m z25).f0 < h
    · rw [if_pos c, if_pos (by omega), if_pos c, w64 (by omega) (by omega)]; rfl
    · rw [if_neg c, if_neg (by split <;> omega), if_neg c]
  · intro k i hi
    rw [slices_BinarySearchFunc_uint64_at_ledger_order.l0, if_neg (by omega), if_pos (by omega), if_pos (by omega), if_pos (by omega), lorder_eq, rd25]
    simp only [Option.bind_some]
    congr 2
    by_cases c1 : (l.getD i z25).f0 < h
    · rw [if_pos c1, decide_eq_false (by show ¬ (l.getD i z25).f0 = h; omega)]; rfl
    · by_cases c2 : (l.getD i z25).f0 > h
      · rw [if_neg c1, if_pos c2, decide_eq_false (by show ¬ (l.getD i z25).f0 = h; omega)]; rfl
      · rw [if_neg c1, if_neg c2, decide_eq_true (by show (l.getD i z25).f0 = h; omega)]; rfl
  · intro k
    rw [slices_BinarySearchFunc_uint64_at_ledger_order.l0, if_neg (by omega), if_neg (by omega)]
theorem lsearch_ev (l : List S25) (h : Int) (hs : Srt lk l) (hl : l.length ≤ 1073741824) : Ev (fun k => slices_BinarySearchFunc_uint64_at_ledger_order.f k l h) ((pos lk h l : Int), (look lk h l).isSome) := by
  unfold slices_BinarySearchFunc_uint64_at_ledger_order.f
  obtain ⟨a, b, c⟩ := lsearch_hyps l h hl
  exact search_ev (z := z25) hs (by omega) (fun k i j => slices_BinarySearchFunc_uint64_at_ledger_order.l0 k l h (l.length : Int) i j) a b c
/-- Where a channel is. -/
def lplace (l : List S25) (id : Int) : Int × Int := if lok l = true then (if (look lk id l).isSome = true then ((pos lk id l : Nat), 0) else (0, 5)) else (0, 1)
theorem lplace_ev (l : List S25) (id : Int) (hg : LB l) : Ev (fun k => ledger_place.f k l id) (lplace l id) := by
  unfold ledger_place.f lplace
  refine Ev.bind (lcheck_ev l hg) ?_
  unfold lchk
  by_cases ok : lok l = true
  · rw [if_pos ok, if_pos ok]
    obtain ⟨h1, h2, h3, h4, h5⟩ := (lok_iff (lb_cb hg)).1 ok
    refine ev_pos rfl (Ev.bind (lsearch_ev l id h3 (by omega)) ?_)
    exact ev_ite (fun q => ev_some rfl) (fun q => ev_some rfl)
  · rw [if_neg ok, if_neg ok]
    exact ev_neg (by decide) (ev_some rfl)
theorem at_fold_no (h : Int) : ∀ (ps : List (Int × Int)) (o : Option Int), (∀ p ∈ ps, p.1 ≠ h) → ps.foldl (fun o p => if p.1 = h then some p.2 else o) o = o
  | [], o, _ => rfl
  | p :: ps, o, hp => by
    rw [List.foldl_cons, if_neg (hp p List.mem_cons_self)]
    exact at_fold_no h ps o (fun x hx => hp x (List.mem_cons_of_mem _ hx))
theorem at_fold_hit (h i : Int) : ∀ (hs : List S44) (o : Option Int), (h ∈ hs.map hk ∨ o = some i) → (hs.map (fun x => (x.f0, i))).foldl (fun o p => if p.1 = h then some p.2 else o) o = some i
  | [], o, hp => by
    rcases hp with hp | hp
    · simp at hp
    · exact hp
  | x :: hs, o, hp => by
    rw [List.map_cons, List.foldl_cons]
    refine at_fold_hit h i hs _ ?_
    by_cases q : x.f0 = h
    · rw [if_pos q]; exact .inr rfl
    · rw [if_neg q]
      rcases hp with hp | hp
      · rcases List.mem_cons.1 hp with e | hp
        · exact absurd e.symm q
        · exact .inl hp
      · exact .inr hp
theorem mem_lprs {p : Int × Int} : ∀ {l : List S25} {i : Nat}, p ∈ lprs i l → p.1 ∈ lids l
  | c :: cs, i, hp => by
    unfold lprs at hp
    unfold lids
    rcases List.mem_append.1 hp with q | q
    · obtain ⟨x, q1, q2⟩ := List.mem_map.1 q
      subst q2
      exact List.mem_append.2 (.inl (List.mem_map.2 ⟨x, q1, rfl⟩))
    · exact List.mem_append.2 (.inr (mem_lprs q))
theorem at_lprs (h : Int) : ∀ (l : List S25) (i : Nat) (o : Option Int), (lids l).Nodup → (lprs i l).foldl (fun o p => if p.1 = h then some p.2 else o) o = (lidx h l).elim o (fun j => some ((i + j : Nat) : Int))
  | [], i, o, _ => rfl
  | c :: cs, i, o, hn => by
    unfold lids at hn
    obtain ⟨n1, n2, n3⟩ := List.nodup_append.1 hn
    unfold lprs lidx
    rw [List.foldl_append]
    by_cases q : (look hk h c.f5).isSome = true
    · have q' := look_iff.1 q
      rw [if_pos q, at_fold_hit h i c.f5 o (.inl q'), at_fold_no]
      · rfl
      · intro p hp e
        exact n3 h q' p.1 (mem_lprs hp) e.symm
    · have q' : h ∉ c.f5.map hk := fun e => q (look_iff.2 e)
      rw [if_neg q, at_fold_no h _ o, at_lprs h cs (i + 1) o n2]
      · cases lidx h cs with
        | none => rfl
        | some j => show some _ = some _; rw [show i + 1 + j = i + (j + 1) by omega]
      · intro p hp e
        obtain ⟨x, q1, q2⟩ := List.mem_map.1 hp
        subst q2
        exact q' (List.mem_map.2 ⟨x, q1, e⟩)
/-- Which channel has a hold. -/
def lwhere (l : List S25) (h : Int) : Int × Int := if lok l = true then (match lidx h l with | none => (0, 5) | some j => ((l.getD j z25).f0, 0)) else (0, 1)
theorem lwhere_ev (l : List S25) (h : Int) (hg : LB l) (hh : 0 ≤ h ∧ h < 18446744073709551616) : Ev (fun k => ledger_Where.f k l h) (lwhere l h) := by
  unfold ledger_Where.f lwhere
  refine Ev.bind (read_ev l hg) ?_
  by_cases ok : lok l = true
  · rw [lread_ok (lb_cb hg) ok, if_pos ok]
    obtain ⟨h1, h2, h3, h4, h5⟩ := (lok_iff (lb_cb hg)).1 ok
    refine ev_pos rfl (ev_pos hh ?_)
    unfold ledger_Where.at_
    rw [at_lprs h l 0 none h5]
    cases e : lidx h l with
    | none => exact ev_some rfl
    | some j =>
      obtain ⟨p1, _⟩ := lidx_some (z := z25) e
      show Ev (fun k => if 0 ≤ ((0 + j : Nat) : Int) ∧ ((0 + j : Nat) : Int) < (l.length : Int) then some ((rd_T25 l ((0 + j : Nat) : Int)).f0, 0) else none) _
      rw [Nat.zero_add]
      refine ev_pos (by omega) (ev_some ?_)
      rw [rd25]
  · rw [lread_no (lb_cb hg) ok, if_neg ok]
    exact ev_neg (by decide) (ev_some rfl)
end Go.Proofs.Ytcfbcoinbecdfaa.B
