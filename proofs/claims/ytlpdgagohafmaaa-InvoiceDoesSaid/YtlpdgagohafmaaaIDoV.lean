/- Plain laws of the package invoice: whether rows may be, where one is, what it is, what making and ending leave. -/
import Derived.Test.YtlpdgagohafmaaaIDoM
import Derived.Test.YtlpdgagohafmaaaIDoT
import Derived.Test.YtlpdgagohafmaaaQIDoesx4
import Derived.Test.YtlpdgagohafmaaaQIDoesx5
set_option linter.unusedVariables false
namespace Go.Proofs.Ytlpdgagohafmaaa.B
open Go.RowKit Go.Proofs.Ytlpdgagohafmaaa.P Go.Proofs.YtlpdgagohafmaaaW.PrintWords
abbrev ik (x : S34) : Int := x.f0
/-- Whether an amount may be asked for. -/
def ibill (n : Int) : Bool := decide (0 < n) && decide (n ≤ 4611686018427387904)
def igood (x : S34) : Bool := ibill x.f1 && (decide (1 ≤ x.f3) && decide (x.f3 ≤ 3))
theorem bill_ev (n : Int) : Ev (fun k => invoice_bill.f k n) (ibill n) := by
  unfold invoice_bill.f ibill
  by_cases h : n > 0
  · refine ev_pos h (Ev.bind (check_ev [n] (by simp)) (ev_some ?_))
    rw [mchk_one]
    by_cases h2 : n ≤ 4611686018427387904
    · rw [if_pos h2]; simp [h, h2]
    · rw [if_neg h2]; simp [h2]
  · refine ev_neg h (ev_some ?_)
    have : decide (0 < n) = false := decide_eq_false (by omega)
    rw [this]; rfl
theorem cmp_eq (a b : Int) : cmp_Compare_uint64.f a b = some (if a < b then -1 else if a > b then 1 else 0) := by
  unfold cmp_Compare_uint64.f cmp_isNaN_uint64.f
  simp only [Option.bind_some, bne_self_eq_false, if_neg (show ¬ (false = true) by decide)]
  split
  · rfl
  · split <;> rfl
theorem order_eq (a b c d h : Int) : invoice_order.f a b c d h = some (if a < h then -1 else if a > h then 1 else 0) := by
  unfold invoice_order.f
  rw [cmp_eq]; rfl
theorem rd34 (l : List S34) (n : Nat) : rd_T34 l (n : Int) = l.getD n z34 := by unfold rd_T34; rw [Int.toNat_natCast]
theorem drop_rd34 {xs ys : List S34} {i : Nat} {y : S34} (h : xs.drop i = y :: ys) : rd_T34 xs (i : Int) = y := by rw [rd34]; exact drop_get z34 h
/-- Whether invoices may be. -/
def iok (l : List S34) : Bool := decide (l.length ≤ 256) && chk ik igood none l
theorem iok_iff {l : List S34} : iok l = true ↔ l.length ≤ 256 ∧ Srt ik l ∧ ∀ x ∈ l, igood x = true := by
  unfold iok
  rw [Bool.and_eq_true, decide_eq_true_eq, chk_none]
theorem icheck_loop (l : List S34) (hl : l.length ≤ 256) : ∀ (ys : List S34) (i : Nat) (p : Option Int), l.drop i = ys → (i = 0 → p = none) → (0 < i → p = some (l.getD (i - 1) z34).f0) →
    Ev (fun k => invoice_Check.l0 k l l (l.length : Int) (i : Int)) (if chk ik igood p ys then 0 else 1)
  | [], i, p, h, h0, h1 => by
    have hi := drop_nil h
    refine Ev.step (f := fun _ => some 0) (fun k => by rw [invoice_Check.l0, if_neg (by omega)]) (ev_some ?_)
    simp [chk]
  | y :: ys, i, p, h, h0, h1 => by
    have hi := drop_lt h
    have hy := drop_get z34 h
    have ih := icheck_loop l hl ys (i + 1) (some y.f0) (drop_next h) (fun e => by omega) (fun _ => by rw [Nat.add_sub_cancel, hy])
    have tail : Ev (fun k => (invoice_bill.f k y.f1).bind fun t => (if t = true then (if y.f3 < 1 then (some 1) else (if y.f3 > 3 then (some 1) else (invoice_Check.l0 k l l (l.length : Int) ((i + 1 : Nat) : Int)))) else (some 1))) (if igood y && chk ik igood (some y.f0) ys then 0 else 1) := by
      refine Ev.bind (bill_ev y.f1) ?_
      unfold igood
      by_cases b : ibill y.f1 = true
      · refine ev_pos b ?_
        rw [b, Bool.true_and]
        by_cases c1 : y.f3 < 1
        · refine ev_pos c1 (ev_some ?_)
          rw [decide_eq_false (by omega : ¬ 1 ≤ y.f3)]; rfl
        · refine ev_neg c1 ?_
          by_cases c2 : y.f3 > 3
          · refine ev_pos c2 (ev_some ?_)
            rw [decide_eq_false (by omega : ¬ y.f3 ≤ 3), Bool.and_false]; rfl
          · refine ev_neg c2 ?_
            rw [decide_eq_true (by omega : 1 ≤ y.f3), decide_eq_true (by omega : y.f3 ≤ 3), Bool.true_and, Bool.true_and]
            exact ih
      · refine ev_neg b (ev_some ?_)
        rw [Bool.not_eq_true] at b
        rw [b]; rfl
    by_cases hi0 : i = 0
    · have hp := h0 hi0
      subst hp
      refine Ev.step (f := fun k => (invoice_bill.f k y.f1).bind fun t => (if t = true then (if y.f3 < 1 then (some 1) else (if y.f3 > 3 then (some 1) else (invoice_Check.l0 k l l (l.length : Int) ((i + 1 : Nat) : Int)))) else (some 1))) (fun k => ?_) ?_
      · rw [invoice_Check.l0, if_pos (by omega), if_pos (by omega), if_pos (by omega), if_neg (by omega), drop_rd34 h, next_i hi (by omega)]
      · rw [show chk ik igood none (y :: ys) = (true && (igood y && chk ik igood (some y.f0) ys)) from rfl, Bool.true_and]
        exact tail
    · have hp := h1 (by omega)
      subst hp
      have hw : wrap64 ((i : Int) - 1) = ((i - 1 : Nat) : Int) := by rw [w64 (by omega) (by omega)]; omega
      refine Ev.step (f := fun k => if (if (l.getD (i - 1) z34).f0 < y.f0 then (-1 : Int) else if (l.getD (i - 1) z34).f0 > y.f0 then 1 else 0) ≥ 0 then some 1 else (invoice_bill.f k y.f1).bind fun t => (if t = true then (if y.f3 < 1 then (some 1) else (if y.f3 > 3 then (some 1) else (invoice_Check.l0 k l l (l.length : Int) ((i + 1 : Nat) : Int)))) else (some 1))) (fun k => ?_) ?_
      · rw [invoice_Check.l0, if_pos (by omega), if_pos (by omega), if_pos (by omega), if_pos (by omega), hw, if_pos (by omega), if_pos (by omega), order_eq, drop_rd34 h, rd34, next_i hi (by omega)]
        simp only [Option.bind_some]
      · rw [show chk ik igood (some (l.getD (i - 1) z34).f0) (y :: ys) = (decide ((l.getD (i - 1) z34).f0 < y.f0) && (igood y && chk ik igood (some y.f0) ys)) from rfl]
        by_cases c : (l.getD (i - 1) z34).f0 < y.f0
        · rw [if_pos c, decide_eq_true c, Bool.true_and]
          exact ev_neg (by omega) tail
        · rw [if_neg c, decide_eq_false c, Bool.false_and]
          refine ev_pos (by split <;> omega) (ev_some rfl)
theorem icheck_ev (l : List S34) : Ev (fun k => invoice_Check.f k l) (if iok l then 0 else 1) := by
  unfold invoice_Check.f iok
  by_cases h : (l.length : Int) > 256
  · refine ev_pos h (ev_some ?_)
    rw [decide_eq_false (by omega)]; rfl
  · refine ev_neg h ?_
    rw [decide_eq_true (by omega : l.length ≤ 256), Bool.true_and]
    exact icheck_loop l (by omega) l 0 none rfl (fun _ => rfl) (fun h => by omega)
theorem isearch_ev (l : List S34) (h : Int) (hs : Srt ik l) (hl : l.length ≤ 256) : Ev (fun k => slices_BinarySearchFunc_uint64_at_invoice_order.f k l h) ((pos ik h l : Int), (look ik h l).isSome) := by
  unfold slices_BinarySearchFunc_uint64_at_invoice_order.f
  refine search_ev (z := z34) hs (by omega) (fun k i j => slices_BinarySearchFunc_uint64_at_invoice_order.l0 k l h (l.length : Int) i j) ?_ ?_ ?_
  · intro k i j m hij hj hm
    have e1 : wrap64 ((IntKind.u64.wrap (wrap64 ((i : Int) + (j : Int)))) / 2) = (m : Int) := by
      rw [w64 (n := (i : Int) + j) (by omega) (by omega), u64w (by omega) (by omega), w64 (by omega) (by omega)]
      omega
    have hml : m < l.length := by omega
    show slices_BinarySearchFunc_uint64_at_invoice_order.l0 (k + 1) l h (l.length : Int) (i : Int) (j : Int) = _
    rw [slices_BinarySearchFunc_uint64_at_invoice_order.l0, if_pos (by omega), e1, if_pos (by omega), if_pos (by omega), order_eq, rd34]
    simp only [Option.bind_some]
    by_cases c : (l.getD m z34).f0 < h
    · rw [if_pos c, if_pos (by omega), if_pos c, w64 (by omega) (by omega)]; rfl
    · rw [if_neg c, if_neg (by split <;> omega), if_neg c]
  · intro k i hi
    show slices_BinarySearchFunc_uint64_at_invoice_order.l0 (k + 1) l h (l.length : Int) (i : Int) (i : Int) = _
    rw [slices_BinarySearchFunc_uint64_at_invoice_order.l0, if_neg (by omega), if_pos (by omega), if_pos (by omega), if_pos (by omega), order_eq, rd34]
    simp only [Option.bind_some]
    congr 2
    by_cases c1 : (l.getD i z34).f0 < h
    · rw [if_pos c1, decide_eq_false (by show ¬ (l.getD i z34).f0 = h; omega)]; rfl
    · by_cases c2 : (l.getD i z34).f0 > h
      · rw [if_neg c1, if_pos c2, decide_eq_false (by show ¬ (l.getD i z34).f0 = h; omega)]; rfl
      · rw [if_neg c1, if_neg c2, decide_eq_true (by show (l.getD i z34).f0 = h; omega)]; rfl
  · intro k
    show slices_BinarySearchFunc_uint64_at_invoice_order.l0 (k + 1) l h (l.length : Int) (l.length : Int) (l.length : Int) = _
    rw [slices_BinarySearchFunc_uint64_at_invoice_order.l0, if_neg (by omega), if_neg (by omega)]
/-- Where one is, or is to be; or why not. -/
def ifind (l : List S34) (h : Int) : Int × Int := if iok l then ((pos ik h l : Int), if (look ik h l).isSome then 0 else 5) else (0, 1)
theorem ifind_ev (l : List S34) (h : Int) : Ev (fun k => invoice_find.f k l h) (ifind l h) := by
  unfold invoice_find.f ifind
  refine Ev.bind (icheck_ev l) ?_
  by_cases c : iok l = true
  · obtain ⟨h1, h2, h3⟩ := iok_iff.1 c
    rw [if_pos c, if_pos c]
    refine ev_pos rfl (Ev.bind (isearch_ev l h h2 h1) ?_)
    by_cases c2 : (look ik h l).isSome = true
    · exact ev_pos c2 (ev_some (by rw [if_pos c2]))
    · exact ev_neg c2 (ev_some (by rw [if_neg c2]))
  · rw [if_neg c, if_neg c]
    exact ev_neg (by omega) (ev_some rfl)
/-- What an invoice is at a tick. -/
def inow (x : S34) (tick : Int) : Int := if x.f3 = 1 ∧ tick > x.f2 then 4 else x.f3
theorem now_eq (a b c d tick : Int) : invoice_now.f a b c d tick = some (inow ⟨a, b, c, d⟩ tick) := by
  unfold invoice_now.f inow
  by_cases h1 : d = 1
  · by_cases h2 : tick > c
    · rw [if_pos h1, if_pos h2, if_pos ⟨h1, h2⟩]
    · rw [if_pos h1, if_neg h2, if_neg (fun h => h2 h.2)]
  · rw [if_neg h1, if_neg (fun h => h1 h.1)]
def istate (l : List S34) (h tick : Int) : Int × Int := if iok l then (match look ik h l with | none => (0, 5) | some x => (inow x tick, 0)) else (0, 1)
theorem istate_ev (l : List S34) (h tick : Int) : Ev (fun k => invoice_State.f k l h tick) (istate l h tick) := by
  unfold invoice_State.f istate
  refine Ev.bind (ifind_ev l h) ?_
  unfold ifind
  by_cases c : iok l = true
  · obtain ⟨h1, h2, h3⟩ := iok_iff.1 c
    rw [if_pos c, if_pos c]
    cases hk : look ik h l with
    | none => exact ev_neg (by simp) (ev_some rfl)
    | some x =>
      have := look_at h (z := z34) h2 hk
      refine ev_pos rfl (ev_pos (by show (0 : Int) ≤ (pos ik h l : Int); omega) (ev_pos (by show (pos ik h l : Int) < _; omega) ?_))
      rw [now_eq]
      simp only [Option.bind_some]
      refine ev_some ?_
      show (inow ⟨(rd_T34 l (pos ik h l : Int)).f0, (rd_T34 l (pos ik h l : Int)).f1, (rd_T34 l (pos ik h l : Int)).f2, (rd_T34 l (pos ik h l : Int)).f3⟩ tick, 0) = _
      rw [rd34, this.2]
  · rw [if_neg c, if_neg c]
    exact ev_neg (by simp) (ev_some rfl)
def icreate (l : List S34) (h n till : Int) : List S34 × Int := if iok l && ibill n then (if (look ik h l).isSome then ([], 6) else if l.length = 256 then ([], 7) else (ins ik ⟨h, n, till, 1⟩ l, 0)) else ([], 1)
theorem icreate_ev (l : List S34) (h n till : Int) : Ev (fun k => invoice_Create.f k l h n till) (icreate l h n till) := by
  unfold invoice_Create.f icreate
  refine Ev.bind (ifind_ev l h) ?_
  unfold ifind
  by_cases c : iok l = true
  · obtain ⟨h1, h2, h3⟩ := iok_iff.1 c
    rw [if_pos c, c, Bool.true_and]
    refine ev_neg (by show ¬ (if (look ik h l).isSome then (0 : Int) else 5) = 1; split <;> omega) (Ev.bind (bill_ev n) ?_)
    refine Ev.step (fun k => by rw [invoice_Create.j0]) ?_
    by_cases b : ibill n = true
    · rw [if_pos b, b]
      refine ev_neg (by simp) ?_
      by_cases s : (look ik h l).isSome = true
      · rw [if_pos s, if_pos s]
        exact ev_pos rfl (ev_some rfl)
      · rw [if_neg s, if_neg s]
        refine ev_neg (by show ¬ (5 : Int) = 0; omega) ?_
        by_cases f : l.length = 256
        · rw [if_pos f]; exact ev_pos (by omega) (ev_some rfl)
        · rw [if_neg f]
          refine ev_neg (by omega) ?_
          have hp := pos_le (key := ik) h l
          have e1 : slices_Clone_Invoice.f l = some l := by unfold slices_Clone_Invoice.f; rw [if_pos (by omega)]
          have e2 : slices_Insert_Invoice.f l (pos ik h l : Int) [⟨h, n, till, 1⟩] = some (ins ik ⟨h, n, till, 1⟩ l) := by
            unfold slices_Insert_Invoice.f
            rw [if_pos ⟨by omega, by omega, rfl, by omega⟩, Int.toNat_natCast]
            exact congrArg some (ins_eq (key := ik) ⟨h, n, till, 1⟩ l)
          simp only [e1, e2, Option.bind_some]
          exact Ev.now _
    · rw [if_neg b]
      rw [Bool.not_eq_true] at b
      rw [b]
      exact ev_pos rfl (ev_some rfl)
  · rw [if_neg c]
    rw [Bool.not_eq_true] at c
    rw [c, Bool.false_and, if_neg (by simp)]
    exact ev_pos rfl (Ev.step (fun k => by rw [invoice_Create.j0]) (ev_pos rfl (ev_some rfl)))
theorem live12 : Ev (fun k => damsonlaw12_live.f k) true := Ev.of damsonlaw12_live.mono (k := 30) (by decide +kernel)
/-- Whether invoices are few enough to be played. -/
def ifew (l : List S34) : Bool := decide (l.length ≤ 40 ∨ 256 ≤ l.length ∧ l.length ≤ 258)
theorem few_eq (l : List S34) : damsonlaw12_few.f l = some (ifew l) := by
  unfold damsonlaw12_few.f ifew
  by_cases h1 : (l.length : Int) ≤ 40
  · rw [if_pos h1, decide_eq_true (by omega)]
  · rw [if_neg h1]
    by_cases h2 : (l.length : Int) ≥ 256
    · rw [if_pos h2]
      congr 1
      by_cases h3 : (l.length : Int) ≤ 258
      · rw [decide_eq_true h3, decide_eq_true (by omega)]
      · rw [decide_eq_false h3, decide_eq_false (by omega)]
    · rw [if_neg h2, decide_eq_false (by omega)]
theorem ifew_le {l : List S34} (h : ifew l = true) : l.length ≤ 258 := by
  unfold ifew at h
  have := of_decide_eq_true h
  omega
theorem iok_ins {l : List S34} {x : S34} (h : iok l = true) (hn : look ik x.f0 l = none) (hx : igood x = true) (hl : l.length < 256) : iok (ins ik x l) = true := by
  obtain ⟨h1, h2, h3⟩ := iok_iff.1 h
  refine iok_iff.2 ⟨by rw [ins_length]; omega, srt_ins h2 hn, fun y hy => ?_⟩
  rcases mem_ins.1 hy with rfl | hy
  · exact hx
  · exact h3 y hy
theorem create_ok {l : List S34} {h n till : Int} (e : (icreate l h n till).2 = 0) : iok l = true ∧ ibill n = true ∧ look ik h l = none ∧ l.length < 256 ∧ (icreate l h n till).1 = ins ik ⟨h, n, till, 1⟩ l ∧ iok (ins ik ⟨h, n, till, 1⟩ l) = true := by
  unfold icreate at e ⊢
  by_cases c : (iok l && ibill n) = true
  · rw [if_pos c] at e ⊢
    by_cases s : (look ik h l).isSome = true
    · rw [if_pos s] at e; exact absurd e (by decide)
    · rw [if_neg s] at e ⊢
      by_cases f : l.length = 256
      · rw [if_pos f] at e; exact absurd e (by decide)
      · rw [if_neg f]
        rw [Bool.and_eq_true] at c
        have hlk : look ik h l = none := by cases hk : look ik h l with | none => rfl | some x => rw [hk] at s; exact absurd rfl s
        have hlen : l.length < 256 := by have := (iok_iff.1 c.1).1; omega
        exact ⟨c.1, c.2, hlk, hlen, rfl, iok_ins c.1 hlk (by unfold igood; rw [c.2]; rfl) hlen⟩
  · rw [if_neg c] at e; exact absurd e (by decide)
theorem create_no {l : List S34} {h n till : Int} (e : (icreate l h n till).2 ≠ 0) : (icreate l h n till).1 = [] := by
  unfold icreate at e ⊢
  split
  · split
    · rfl
    · split
      · rfl
      · rename_i h1 h2 h3
        rw [if_pos h1, if_neg h2, if_neg h3] at e
        exact absurd rfl e
  · rfl
theorem istate_ins {l : List S34} {x : S34} (hi : iok (ins ik x l) = true) (tick : Int) : istate (ins ik x l) x.f0 tick = (inow x tick, 0) := by
  unfold istate
  rw [if_pos hi, look_ins, if_pos rfl]
theorem istate_ins_ne {l : List S34} {x : S34} (h0 : iok l = true) (hi : iok (ins ik x l) = true) {q : Int} (hq : x.f0 ≠ q) (tick : Int) : istate (ins ik x l) q tick = istate l q tick := by
  unfold istate
  rw [if_pos hi, if_pos h0, look_ins, if_neg hq]
theorem icreate_there {l : List S34} {x : S34} (hi : iok (ins ik x l) = true) {n till : Int} (hn : ibill n = true) : icreate (ins ik x l) x.f0 n till = ([], 6) := by
  unfold icreate
  rw [hi, hn, look_ins, if_pos rfl]; rfl
end Go.Proofs.Ytlpdgagohafmaaa.B
