/- Plain laws of the package payment: whether payments may be, where one is, what starting and ending leave. -/
import Derived.Test.YtcfbcoinbecdfaaLpM
import Derived.Test.YtcfbcoinbecdfaaLpK
import Derived.Test.YtcfbcoinbecdfaaQPholdsx8
import Derived.Test.YtcfbcoinbecdfaaQPholdsx9
import Derived.Test.YtcfbcoinbecdfaaQPholdsx10
set_option linter.unusedVariables false
namespace Go.Proofs.Ytcfbcoinbecdfaa.B
open Go.RowKit Go.Proofs.Ytcfbcoinbecdfaa.P Go.Proofs.YtcfbcoinbecdfaaW.PrintWords
abbrev pk (x : S74) : Int := x.f0
def pgood (x : S74) : Bool := decide (0 < x.f3) && (decide (x.f3 ≤ 4611686018427387904) && (decide (1 ≤ x.f4) && decide (x.f4 ≤ 3)))
theorem pgood_iff {x : S74} : pgood x = true ↔ 0 < x.f3 ∧ x.f3 ≤ 4611686018427387904 ∧ 1 ≤ x.f4 ∧ x.f4 ≤ 3 := by
  unfold pgood
  simp only [Bool.and_eq_true, decide_eq_true_eq]
theorem pmay_ev (x : S74) : Ev (fun k => payment_may.f k x.f0 x.f1 x.f2 x.f3 x.f4) (pgood x) := by
  unfold payment_may.f pgood
  by_cases h : x.f3 > 0
  · refine ev_pos h (Ev.bind (check_ev [x.f3] (by simp)) ?_)
    rw [mchk_one, decide_eq_true (show 0 < x.f3 from h), Bool.true_and]
    by_cases h2 : x.f3 ≤ 4611686018427387904
    · rw [if_pos h2, decide_eq_true h2, Bool.true_and]
      refine ev_pos rfl ?_
      by_cases h3 : x.f4 ≥ 1
      · rw [decide_eq_true (show 1 ≤ x.f4 from h3), Bool.true_and]
        exact ev_pos h3 (ev_some rfl)
      · rw [decide_eq_false (show ¬ 1 ≤ x.f4 from h3), Bool.false_and]
        exact ev_neg h3 (ev_some rfl)
    · rw [if_neg h2, decide_eq_false h2, Bool.false_and]
      exact ev_neg (by decide) (ev_some rfl)
  · rw [decide_eq_false (show ¬ 0 < x.f3 from h), Bool.false_and]
    exact ev_neg h (ev_some rfl)
theorem porder_eq (a b c d e h : Int) : payment_order.f a b c d e h = some (if a < h then -1 else if a > h then 1 else 0) := by
  unfold payment_order.f
  rw [cmp_eq]; rfl
theorem rd74 (l : List S74) (n : Nat) : rd_T74 l (n : Int) = l.getD n z74 := by unfold rd_T74; rw [Int.toNat_natCast]
theorem drop_rd74 {xs ys : List S74} {i : Nat} {y : S74} (h : xs.drop i = y :: ys) : rd_T74 xs (i : Int) = y := by rw [rd74]; exact drop_get z74 h
/-- Whether payments may be. -/
def pok (l : List S74) : Bool := decide (l.length ≤ 256) && chk pk pgood none l
theorem pok_iff {l : List S74} : pok l = true ↔ l.length ≤ 256 ∧ Srt pk l ∧ ∀ x ∈ l, pgood x = true := by
  unfold pok
  rw [Bool.and_eq_true, decide_eq_true_eq, chk_none]
theorem pcheck_loop (l : List S74) (hl : l.length ≤ 256) : ∀ (ys : List S74) (i : Nat) (p : Option Int), l.drop i = ys → (i = 0 → p = none) → (0 < i → p = some (l.getD (i - 1) z74).f0) →
    Ev (fun k => payment_Check.l0 k l l (l.length : Int) (i : Int)) (if chk pk pgood p ys then 0 else 1)
  | [], i, p, h, h0, h1 => by
    have hi := drop_nil h
    refine Ev.step (f := fun _ => some 0) (fun k => by rw [payment_Check.l0, if_neg (by omega)]) (ev_some ?_)
    simp [chk]
  | y :: ys, i, p, h, h0, h1 => by
    have hi := drop_lt h
    have hy := drop_get z74 h
    have ih := pcheck_loop l hl ys (i + 1) (some y.f0) (drop_next h) (fun e => by omega) (fun _ => by rw [Nat.add_sub_cancel, hy])
    refine Ev.step (fun k => by rw [payment_Check.l0]) (ev_pos (by omega) (ev_pos (by omega) (ev_pos (by omega) ?_)))
    rw [drop_rd74 h, next_i hi (by omega)]
    refine Ev.bind (pmay_ev y) ?_
    by_cases g : pgood y = true
    · refine ev_pos g ?_
      by_cases hi0 : i = 0
      · have hp := h0 hi0
        subst hp
        refine ev_neg (by omega) ?_
        rw [show chk pk pgood none (y :: ys) = (true && (pgood y && chk pk pgood (some y.f0) ys)) from rfl, g, Bool.true_and, Bool.true_and]
        exact ih
      · have hp := h1 (by omega)
        subst hp
        have hw : wrap64 ((i : Int) - 1) = ((i - 1 : Nat) : Int) := by rw [w64 (by omega) (by omega)]; omega
        rw [hw]
        refine ev_pos (by omega) (ev_pos (by omega) (ev_pos (by omega) ?_))
        rw [porder_eq, rd74]
        simp only [Option.bind_some]
        rw [show chk pk pgood (some (l.getD (i - 1) z74).f0) (y :: ys) = (decide ((l.getD (i - 1) z74).f0 < y.f0) && (pgood y && chk pk pgood (some y.f0) ys)) from rfl, g, Bool.true_and]
        by_cases c : (l.getD (i - 1) z74).f0 < y.f0
        · rw [if_pos c, decide_eq_true c, Bool.true_and]
          exact ev_neg (by omega) ih
        · rw [if_neg c, decide_eq_false c, Bool.false_and]
          exact ev_pos (by split <;> omega) (ev_some rfl)
    · refine ev_neg g (ev_some ?_)
      rw [Bool.not_eq_true] at g
      have : chk pk pgood p (y :: ys) = false := by unfold chk; rw [g, Bool.false_and, Bool.and_false]
      rw [this]; rfl
theorem pcheck_ev (l : List S74) : Ev (fun k => payment_Check.f k l) (if pok l then 0 else 1) := by
  unfold payment_Check.f pok
  by_cases h : (l.length : Int) > 256
  · refine ev_pos h (ev_some ?_)
    rw [decide_eq_false (by omega)]; rfl
  · refine ev_neg h ?_
    rw [decide_eq_true (by omega : l.length ≤ 256), Bool.true_and]
    exact pcheck_loop l (by omega) l 0 none rfl (fun _ => rfl) (fun h => by omega)
theorem psearch_ev (l : List S74) (h : Int) (hs : Srt pk l) (hl : l.length ≤ 256) : Ev (fun k => slices_BinarySearchFunc_uint64_at_payment_order.f k l h) ((pos pk h l : Int), (look pk h l).isSome) := by
  unfold slices_BinarySearchFunc_uint64_at_payment_order.f
  refine search_ev (z := z74) hs (by omega) (fun k i j => slices_BinarySearchFunc_uint64_at_payment_order.l0 k l h (l.length : Int) i j) ?_ ?_ ?_
  · intro k i j m hij hj hm
    have e1 := mid_eq hm (by omega) hij
    have hml : m < l.length := by omega
    show slices_BinarySearchFunc_uint64_at_payment_order.l0 (k + 1) l h (l.length : Int) (i : Int) (j : Int) = _
    rw [slices_BinarySearchFunc_uint64_at_payment_order.l0, if_pos (by omega), e1, if_pos (by omega), if_pos (by omega), porder_eq, rd74]
    simp only [Option.bind_some]
    by_cases c : (l.getD m z74).f0 < h
    · rw [if_pos c, if_pos (by omega), if_pos c, w64 (by omega) (by omega)]; rfl
    · rw [if_neg c, if_neg (by split <;> omega), if_neg c]
  · intro k i hi
    show slices_BinarySearchFunc_uint64_at_payment_order.l0 (k + 1) l h (l.length : Int) (i : Int) (i : Int) = _
    rw [slices_BinarySearchFunc_uint64_at_payment_order.l0, if_neg (by omega), if_pos (by omega), if_pos (by omega), if_pos (by omega), porder_eq, rd74]
    simp only [Option.bind_some]
    congr 2
    by_cases c1 : (l.getD i z74).f0 < h
    · rw [if_pos c1, decide_eq_false (by show ¬ (l.getD i z74).f0 = h; omega)]; rfl
    · by_cases c2 : (l.getD i z74).f0 > h
      · rw [if_neg c1, if_pos c2, decide_eq_false (by show ¬ (l.getD i z74).f0 = h; omega)]; rfl
      · rw [if_neg c1, if_neg c2, decide_eq_true (by show (l.getD i z74).f0 = h; omega)]; rfl
  · intro k
    show slices_BinarySearchFunc_uint64_at_payment_order.l0 (k + 1) l h (l.length : Int) (l.length : Int) (l.length : Int) = _
    rw [slices_BinarySearchFunc_uint64_at_payment_order.l0, if_neg (by omega), if_neg (by omega)]
def pfind (l : List S74) (h : Int) : Int × Int := if pok l then ((pos pk h l : Int), if (look pk h l).isSome then 0 else 5) else (0, 1)
theorem pfind_ev (l : List S74) (h : Int) : Ev (fun k => payment_find.f k l h) (pfind l h) := by
  unfold payment_find.f pfind
  refine Ev.bind (pcheck_ev l) ?_
  by_cases c : pok l = true
  · obtain ⟨h1, h2, h3⟩ := pok_iff.1 c
    rw [if_pos c, if_pos c]
    refine ev_pos rfl (Ev.bind (psearch_ev l h h2 h1) ?_)
    by_cases c2 : (look pk h l).isSome = true
    · exact ev_pos c2 (ev_some (by rw [if_pos c2]))
    · exact ev_neg c2 (ev_some (by rw [if_neg c2]))
  · rw [if_neg c, if_neg c]
    exact ev_neg (by omega) (ev_some rfl)
/-- Which is the first that is not pending. -/
def pfree : List S74 → Option Nat
  | [] => none
  | y :: ys => if y.f4 = 1 then (pfree ys).map (· + 1) else some 0
theorem pfree_some : ∀ {l : List S74} {k : Nat}, pfree l = some k → k < l.length ∧ (l.getD k z74).f4 ≠ 1
  | [], k, h => by simp [pfree] at h
  | y :: ys, k, h => by
    unfold pfree at h
    by_cases c : y.f4 = 1
    · rw [if_pos c] at h
      cases hp : pfree ys with
      | none => rw [hp] at h; simp at h
      | some m =>
        rw [hp] at h
        simp only [Option.map_some, Option.some.injEq] at h
        subst h
        obtain ⟨a, b⟩ := pfree_some hp
        exact ⟨by simp only [List.length_cons]; omega, by simpa using b⟩
    · rw [if_neg c] at h
      injection h with h
      subst h
      exact ⟨by simp, by simpa using c⟩
theorem pfree_loop (l : List S74) (hl : l.length ≤ 256) : ∀ (ys : List S74) (i : Nat), l.drop i = ys →
    Ev (fun k => slices_IndexFunc_Payment_at_payment_Start_1.l0 k l (l.length : Int) (i : Int)) (match pfree ys with | none => -1 | some m => ((i + m : Nat) : Int))
  | [], i, h => by
    have hi := drop_nil h
    refine Ev.step (fun k => by rw [slices_IndexFunc_Payment_at_payment_Start_1.l0]) ?_
    exact ev_neg (by omega) (ev_some rfl)
  | y :: ys, i, h => by
    have hi := drop_lt h
    have ih := pfree_loop l hl ys (i + 1) (drop_next h)
    refine Ev.step (fun k => by rw [slices_IndexFunc_Payment_at_payment_Start_1.l0]) (ev_pos (by omega) (ev_pos (by omega) (ev_pos (by omega) ?_)))
    rw [drop_rd74 h, next_i hi (by omega)]
    unfold payment_Start_1.f
    simp only [Option.bind_some]
    unfold pfree
    by_cases c : y.f4 = 1
    · rw [if_pos c]
      refine ev_neg (by rw [c]; decide) (ev_eq ih ?_)
      cases pfree ys with
      | none => rfl
      | some m => show ((i + 1 + m : Nat) : Int) = ((i + (m + 1) : Nat) : Int); omega
    · rw [if_neg c]
      exact ev_pos (by simpa using c) (ev_some rfl)
theorem pos_zero {h : Int} : ∀ {l : List S74}, (∀ x ∈ l, h ≤ pk x) → pos pk h l = 0
  | [], _ => rfl
  | y :: ys, hl => by
    unfold pos
    rw [if_neg (by have := hl y List.mem_cons_self; omega)]
theorem pos_erase {h : Int} : ∀ {l : List S74} {k : Nat}, Srt pk l → k < l.length → pos pk h (l.eraseIdx k) = if k < pos pk h l then pos pk h l - 1 else pos pk h l
  | [], k, _, hk => by simp at hk
  | y :: ys, 0, hs, hk => by
    have h1 := (srt_cons.1 hs).1
    rw [List.eraseIdx_cons_zero]
    rw [show pos pk h (y :: ys) = if pk y < h then pos pk h ys + 1 else 0 from rfl]
    by_cases c : pk y < h
    · rw [if_pos c, if_pos (by omega)]; omega
    · rw [if_neg c, if_neg (by omega)]
      exact pos_zero (fun x hx => by have := h1 x hx; omega)
  | y :: ys, k + 1, hs, hk => by
    have ih := pos_erase (h := h) (k := k) (srt_cons.1 hs).2 (by simpa using hk)
    rw [List.eraseIdx_cons_succ]
    rw [show pos pk h (y :: ys) = if pk y < h then pos pk h ys + 1 else 0 from rfl, show pos pk h (y :: ys.eraseIdx k) = if pk y < h then pos pk h (ys.eraseIdx k) + 1 else 0 from rfl]
    by_cases c : pk y < h
    · rw [if_pos c, if_pos c, ih]
      by_cases q : k < pos pk h ys
      · rw [if_pos q, if_pos (by omega)]; omega
      · rw [if_neg q, if_neg (by omega)]
    · rw [if_neg c, if_neg c, if_neg (by omega)]
theorem erase_del : ∀ {l : List S74} {k : Nat}, Srt pk l → k < l.length → l.eraseIdx k = del pk (pk (l.getD k z74)) l
  | [], k, _, hk => by simp at hk
  | y :: ys, 0, hs, hk => by
    rw [List.eraseIdx_cons_zero]
    unfold del
    rw [if_pos (by simp)]
  | y :: ys, k + 1, hs, hk => by
    have hk' : k < ys.length := by simpa using hk
    have h1 := (srt_cons.1 hs).1
    have e : (y :: ys).getD (k + 1) z74 = ys.getD k z74 := by simp
    have hm : ys.getD k z74 ∈ ys := by
      rw [List.getD_eq_getElem?_getD, List.getElem?_eq_getElem hk']
      exact List.getElem_mem hk'
    rw [List.eraseIdx_cons_succ, e, erase_del (srt_cons.1 hs).2 hk']
    rw [show del pk (pk (ys.getD k z74)) (y :: ys) = if pk y = pk (ys.getD k z74) then ys else y :: del pk (pk (ys.getD k z74)) ys from rfl]
    rw [if_neg (by have := h1 _ hm; omega)]
def pstart (l : List S74) (p : S74) : List S74 × Int :=
  if pok l = true ∧ pgood p = true ∧ p.f4 = 1 then
    (if (look pk p.f0 l).isSome = true then ([], 6) else if l.length = 256 then (match pfree l with | none => ([], 7) | some k => (ins pk p (l.eraseIdx k), 0)) else (ins pk p l, 0))
  else ([], 1)
theorem pinsert_eq (l : List S74) (p : S74) (hl : l.length ≤ 256) {i : Int} (hi : i = (pos pk p.f0 l : Int)) : slices_Insert_Payment.f l i [⟨p.f0, p.f1, p.f2, p.f3, p.f4⟩] = some (ins pk p l) := by
  have hp := pos_le (key := pk) p.f0 l
  subst hi
  unfold slices_Insert_Payment.f
  rw [if_pos ⟨by omega, by omega, rfl, by omega⟩, Int.toNat_natCast]
  exact congrArg some (ins_eq (key := pk) p l)
theorem pstart_ev (l : List S74) (p : S74) : Ev (fun k => payment_Start.f k l p.f0 p.f1 p.f2 p.f3 p.f4) (pstart l p) := by
  unfold payment_Start.f
  have bad : ∀ a b, ¬ (pok l = true ∧ pgood p = true ∧ p.f4 = 1) → Ev (fun k => payment_Start.j0 k l a b true p.f0 p.f1 p.f2 p.f3 p.f4) (pstart l p) := by
    intro a b h
    unfold pstart
    rw [if_neg h]
    exact Ev.step (fun k => by rw [payment_Start.j0]) (ev_pos rfl (ev_some rfl))
  refine Ev.bind (pfind_ev l p.f0) ?_
  unfold pfind
  by_cases c : pok l = true
  · obtain ⟨h1, h2, h3⟩ := pok_iff.1 c
    rw [if_pos c]
    refine ev_neg (by show ¬ (if (look pk p.f0 l).isSome = true then (0 : Int) else 5) = 1; split <;> omega) (Ev.bind (pmay_ev p) (ev_if (fun g => ?_) (fun g => bad _ _ (fun h => g h.2.1))))
    by_cases s1 : p.f4 = 1
    · refine Ev.step (fun k => by rw [payment_Start.j0]) (ev_neg (by rw [s1]; decide) ?_)
      unfold pstart
      rw [show (if pok l = true ∧ pgood p = true ∧ p.f4 = 1 then (if (look pk p.f0 l).isSome = true then (([] : List S74), (6 : Int)) else if l.length = 256 then (match pfree l with | none => ([], 7) | some k => (ins pk p (l.eraseIdx k), 0)) else (ins pk p l, 0)) else ([], 1)) = _ from if_pos ⟨c, g, s1⟩]
      have e1 : slices_Clone_Payment.f l = some l := by unfold slices_Clone_Payment.f; rw [if_pos (by omega)]
      by_cases s : (look pk p.f0 l).isSome = true
      · rw [if_pos s, if_pos s]
        exact ev_pos rfl (ev_some rfl)
      · rw [if_neg s, if_neg s]
        refine ev_neg (by show ¬ (5 : Int) = 0; omega) ?_
        simp only [e1, Option.bind_some]
        by_cases f : l.length = 256
        · rw [if_pos f]
          refine ev_pos (by omega) (Ev.bind (show Ev (fun k => slices_IndexFunc_Payment_at_payment_Start_1.f k l) _ from pfree_loop l h1 l 0 rfl) ?_)
          cases hp : pfree l with
          | none => exact ev_pos (by decide) (ev_some rfl)
          | some k =>
            obtain ⟨k1, k2⟩ := pfree_some hp
            have hk : ((0 + k : Nat) : Int) = (k : Int) := by omega
            simp only [hk]
            have hwk : wrap64 ((k : Int) + 1) = (k : Int) + 1 := w64 (by omega) (by omega)
            have hpl := pos_le (key := pk) p.f0 l
            have e2 : slices_Delete_Payment.f l (k : Int) (wrap64 ((k : Int) + 1)) = some (l.eraseIdx k) := by
              unfold slices_Delete_Payment.f
              rw [if_pos ⟨by omega, by omega, rfl, by omega⟩, Int.toNat_natCast]
            have hpe := pos_erase (h := p.f0) h2 k1
            have hle : (l.eraseIdx k).length ≤ 256 := by rw [List.length_eraseIdx]; split <;> omega
            simp only [e2, Option.bind_some]
            refine ev_neg (by omega) ?_
            by_cases q : k < pos pk p.f0 l
            · rw [if_pos q] at hpe
              refine ev_pos (by omega) (ev_const ?_)
              rw [w64 (by omega) (by omega), pinsert_eq (l.eraseIdx k) p hle (by omega)]; rfl
            · rw [if_neg q] at hpe
              refine ev_neg (by omega) (ev_const ?_)
              rw [pinsert_eq (l.eraseIdx k) p hle (by omega)]; rfl
        · rw [if_neg f]
          refine ev_neg (by omega) (ev_const ?_)
          rw [pinsert_eq l p h1 rfl]; rfl
    · have hb : (p.f4 != 1) = true := by simpa using s1
      rw [hb]
      exact bad _ _ (fun h => s1 h.2.2)
  · rw [if_neg c]
    exact ev_pos rfl (bad _ _ (fun h => c h.1))
def pset (st : Int) (x : S74) : S74 := ⟨x.f0, x.f1, x.f2, x.f3, st⟩
def pend (l : List S74) (h : Int) (b : Bool) : List S74 × Int :=
  if pok l then (match look pk h l with | none => ([], 5) | some x => if x.f4 = 1 then (upd pk h (pset (if b then 2 else 3)) l, 0) else ([], 10)) else ([], 1)
theorem pend_ev (l : List S74) (h : Int) (b : Bool) : Ev (fun k => payment_End.f k l h b) (pend l h b) := by
  unfold payment_End.f pend
  refine Ev.bind (pfind_ev l h) ?_
  unfold pfind
  by_cases c : pok l = true
  · obtain ⟨h1, h2, h3⟩ := pok_iff.1 c
    rw [if_pos c, if_pos c]
    cases hk : look pk h l with
    | none => exact ev_neg (by simp) (ev_some rfl)
    | some x =>
      have hat := look_at h (z := z74) h2 hk
      have hrd : rd_T74 l (pos pk h l : Int) = x := by rw [rd74, hat.2]
      refine ev_pos rfl (ev_pos (by show (0 : Int) ≤ (pos pk h l : Int); omega) (ev_pos (by show (pos pk h l : Int) < _; omega) ?_))
      simp only [hrd]
      refine ev_ite (fun c1 => ?_) (fun _ => ev_some rfl)
      have e1 : slices_Clone_Payment.f l = some l := by unfold slices_Clone_Payment.f; rw [if_pos (by omega)]
      have hrd2 : rd_T74 (l.set (pos pk h l) ⟨x.f0, x.f1, x.f2, x.f3, 3⟩) (pos pk h l : Int) = ⟨x.f0, x.f1, x.f2, x.f3, 3⟩ := by
        rw [rd74, List.getD_eq_getElem?_getD, List.getElem?_set_self hat.1]; rfl
      simp only [e1, Option.bind_some, hrd, Int.toNat_natCast, hrd2, List.set_set]
      refine ev_pos (by show (pos pk h l : Int) < _; omega) ?_
      cases b with
      | true => exact ev_pos rfl (ev_some (congrArg (fun z => (z, (0 : Int))) (set_eq h (z := z74) (pset 2) h2 hk)))
      | false => exact ev_neg (by decide) (ev_some (congrArg (fun z => (z, (0 : Int))) (set_eq h (z := z74) (pset 3) h2 hk)))
  · rw [if_neg c, if_neg c]
    exact ev_neg (by simp) (ev_some rfl)
theorem live13 : Ev (fun k => damsonlaw13_live.f k) true := Ev.of damsonlaw13_live.mono (k := 30) (by decide +kernel)
def pfew (l : List S74) : Bool := decide (l.length ≤ 40 ∨ 256 ≤ l.length ∧ l.length ≤ 258)
theorem few_eq (l : List S74) : damsonlaw13_few.f l = some (pfew l) := by
  unfold damsonlaw13_few.f pfew
  by_cases h1 : (l.length : Int) ≤ 40
  · rw [if_pos h1, decide_eq_true (by omega)]
  · rw [if_neg h1]
    by_cases h2 : (l.length : Int) ≥ 256
    · rw [if_pos h2]
      congr 1
      by_cases h3 : (l.length : Int) ≤ 258
      · rw [decide_eq_true h3, decide_eq_true (by omega)]
      · rw [decide_eq_false h3, decide_eq_false (by omega)]
    · rw [if_neg h2, decide_eq_false (by omega)]
theorem pfew_le {l : List S74} (h : pfew l = true) : l.length ≤ 258 := by
  unfold pfew at h
  have := of_decide_eq_true h
  omega
theorem pok_ins {l : List S74} {x : S74} (h : pok l = true) (hn : look pk x.f0 l = none) (hx : pgood x = true) (hl : l.length < 256) : pok (ins pk x l) = true := by
  obtain ⟨h1, h2, h3⟩ := pok_iff.1 h
  refine pok_iff.2 ⟨by rw [ins_length]; omega, srt_ins h2 hn, fun y hy => ?_⟩
  rcases mem_ins.1 hy with rfl | hy
  · exact hx
  · exact h3 y hy
theorem pok_upd {l : List S74} {h st : Int} (hi : pok l = true) (h1 : 1 ≤ st) (h3 : st ≤ 3) : pok (upd pk h (pset st) l) = true := by
  obtain ⟨a1, a2, a3⟩ := pok_iff.1 hi
  refine pok_iff.2 ⟨by rw [upd_length]; exact a1, srt_upd (f := pset st) (fun _ => rfl) a2, fun y hy => ?_⟩
  rcases mem_upd hy with hy | ⟨z, hz, _, rfl⟩
  · exact a3 y hy
  · obtain ⟨b1, b2, _⟩ := pgood_iff.1 (a3 z hz)
    exact pgood_iff.2 ⟨b1, b2, h1, h3⟩
theorem plook_upd {l : List S74} {h st : Int} (q : Int) : look pk q (upd pk h (pset st) l) = if q = h then (look pk h l).map (pset st) else look pk q l := look_upd h (pset st) (fun _ => rfl) q l
/-- What a payment's end is, if it is one. -/
theorem pend_ok {l : List S74} {h : Int} {b : Bool} (e : (pend l h b).2 = 0) : pok l = true ∧ ∃ x, look pk h l = some x ∧ x.f4 = 1 ∧ (pend l h b).1 = upd pk h (pset (if b then 2 else 3)) l := by
  unfold pend at e ⊢
  by_cases c : pok l = true
  · rw [if_pos c] at e ⊢
    cases hk : look pk h l with
    | none => rw [hk] at e; exact absurd (show (5 : Int) = 0 from e) (by decide)
    | some x =>
      rw [hk] at e
      simp only at e ⊢
      by_cases c1 : x.f4 = 1
      · rw [if_pos c1]; exact ⟨c, x, rfl, c1, rfl⟩
      · rw [if_neg c1] at e; exact absurd e (by decide)
  · rw [if_neg c] at e; exact absurd e (by decide)
theorem pend_no {l : List S74} {h : Int} {b : Bool} (e : (pend l h b).2 ≠ 0) : (pend l h b).1 = [] := by
  unfold pend at e ⊢
  split
  · split
    · rfl
    · split
      · rename_i c _ x hx c1
        rw [if_pos c] at e
        rw [hx] at e
        simp only at e
        rw [if_pos c1] at e
        exact absurd rfl e
      · rfl
  · rfl
theorem pend_eq {l : List S74} {h : Int} {b : Bool} {x : S74} (c : pok l = true) (hx : look pk h l = some x) : pend l h b = if x.f4 = 1 then (upd pk h (pset (if b then 2 else 3)) l, 0) else ([], 10) := by
  unfold pend
  rw [if_pos c, hx]
theorem pend_none {l : List S74} {h : Int} {b : Bool} (c : pok l = true) (hx : look pk h l = none) : pend l h b = ([], 5) := by
  unfold pend
  rw [if_pos c, hx]
theorem pok_erase {l : List S74} {k : Nat} (h : pok l = true) (hk : k < l.length) : pok (l.eraseIdx k) = true := by
  obtain ⟨h1, h2, h3⟩ := pok_iff.1 h
  refine pok_iff.2 ⟨by rw [List.length_eraseIdx]; split <;> omega, ?_, fun x hx => h3 x (List.mem_of_mem_eraseIdx hx)⟩
  rw [erase_del h2 hk]
  exact srt_del h2
theorem plook_erase {l : List S74} {k : Nat} (h2 : Srt pk l) (hk : k < l.length) (q : Int) : look pk q (l.eraseIdx k) = if q = pk (l.getD k z74) then none else look pk q l := by
  rw [erase_del h2 hk]
  exact look_del _ q h2
/-- What a start leaves, if it is one: the row, or the row without one that is not pending, and the payment. -/
theorem pstart_ok {l : List S74} {p : S74} (e : (pstart l p).2 = 0) : pok l = true ∧ pgood p = true ∧ p.f4 = 1 ∧ look pk p.f0 l = none ∧ ∃ m, (pstart l p).1 = ins pk p m ∧ pok m = true ∧ look pk p.f0 m = none ∧ m.length < 256 ∧
    (m = l ∨ ∃ k, k < l.length ∧ (l.getD k z74).f4 ≠ 1 ∧ m = l.eraseIdx k) := by
  unfold pstart at e ⊢
  by_cases c : pok l = true ∧ pgood p = true ∧ p.f4 = 1
  · rw [if_pos c] at e ⊢
    by_cases s : (look pk p.f0 l).isSome = true
    · rw [if_pos s] at e; exact absurd e (by decide)
    · rw [if_neg s] at e ⊢
      have hlk : look pk p.f0 l = none := by cases hk : look pk p.f0 l with | none => rfl | some x => rw [hk] at s; exact absurd rfl s
      have h1 := (pok_iff.1 c.1).1
      by_cases f : l.length = 256
      · rw [if_pos f] at e ⊢
        cases hp : pfree l with
        | none => rw [hp] at e; exact absurd (show (7 : Int) = 0 from e) (by decide)
        | some k =>
          obtain ⟨k1, k2⟩ := pfree_some hp
          refine ⟨c.1, c.2.1, c.2.2, hlk, l.eraseIdx k, rfl, pok_erase c.1 k1, ?_, by rw [List.length_eraseIdx, if_pos k1]; omega, .inr ⟨k, k1, k2, rfl⟩⟩
          rw [plook_erase (pok_iff.1 c.1).2.1 k1]
          split
          · rfl
          · exact hlk
      · rw [if_neg f]
        exact ⟨c.1, c.2.1, c.2.2, hlk, l, rfl, c.1, hlk, by omega, .inl rfl⟩
  · rw [if_neg c] at e; exact absurd e (by decide)
theorem pstart_no {l : List S74} {p : S74} (e : (pstart l p).2 ≠ 0) : (pstart l p).1 = [] := by
  unfold pstart at e ⊢
  split
  · rename_i c
    rw [if_pos c] at e
    split
    · rfl
    · rename_i s
      rw [if_neg s] at e
      split
      · rename_i f
        rw [if_pos f] at e
        split
        · rfl
        · rename_i k hk
          rw [hk] at e
          exact absurd rfl e
      · rename_i f
        rw [if_neg f] at e
        exact absurd rfl e
  · rfl
end Go.Proofs.Ytcfbcoinbecdfaa.B
