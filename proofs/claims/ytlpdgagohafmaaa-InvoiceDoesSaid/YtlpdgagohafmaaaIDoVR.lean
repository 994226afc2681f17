/- Plain laws of the document's answer for invoices. -/
import Derived.Test.YtlpdgagohafmaaaIDoVE
import Derived.Test.YtlpdgagohafmaaaIDoVW
import Derived.Test.YtlpdgagohafmaaaIDoM
import Derived.Test.YtlpdgagohafmaaaQIDoesx6
import Derived.Test.YtlpdgagohafmaaaQIDoesx7
import Derived.Test.YtlpdgagohafmaaaQIDoesx8
import Derived.Test.YtlpdgagohafmaaaQIDoesx9
import Derived.Test.YtlpdgagohafmaaaQIDoesx5
set_option linter.unusedVariables false
namespace Go.Proofs.Ytlpdgagohafmaaa.B
open Go.RowKit Go.Proofs.Ytlpdgagohafmaaa.P Go.Proofs.YtlpdgagohafmaaaW.PrintWords
theorem rcheck04_loop (l : List Int) (hl : l.length ≤ 140737488351232) : ∀ (ys : List Int) (i : Nat), l.drop i = ys → Ev (fun k => damsonref04_Check.l0 k l (l.length : Int) (i : Int)) (mchk ys)
  | [], i, h => by
    have hi := drop_nil h
    refine Ev.step (fun k => by rw [damsonref04_Check.l0]) ?_
    exact ev_neg (by omega) (ev_some rfl)
  | y :: ys, i, h => by
    have hi := drop_lt h
    have ih := rcheck04_loop l hl ys (i + 1) (drop_next h)
    refine Ev.step (fun k => by rw [damsonref04_Check.l0]) ?_
    rw [drop_rd h, next_i hi hl, mchk_cons]
    refine ev_pos (by omega) (ev_pos (by omega) (ev_pos (by omega) ?_))
    by_cases c : y ≤ 4611686018427387904
    · rw [if_pos c]; exact ev_neg (by omega) ih
    · rw [if_neg c]; exact ev_pos (by omega) (ev_some rfl)
theorem rcheck04_ev (l : List Int) (hl : l.length ≤ 140737488351232) : Ev (fun k => damsonref04_Check.f k l) (mchk l) := rcheck04_loop l hl l 0 rfl
theorem rtail_ev (y : S34) (h0 : 0 ≤ y.f1) {g : Nat → Option Int} {b : Bool} (ih : Ev g (if b then 0 else 1)) :
    Ev (fun k => if y.f1 = 0 then some 1 else (damsonref04_Check.f k [y.f1]).bind fun t => if t = 0 then (if y.f3 < 1 then some 1 else if y.f3 > 3 then some 1 else g k) else some 1) (if (igood y && b) = true then 0 else 1) := by
  unfold igood ibill
  by_cases e : y.f1 = 0
  · refine ev_pos e (ev_some ?_)
    rw [decide_eq_false (show ¬ 0 < y.f1 by omega)]; rfl
  · refine ev_neg e (Ev.bind (rcheck04_ev [y.f1] (by simp)) ?_)
    rw [mchk_one, decide_eq_true (show 0 < y.f1 by omega), Bool.true_and]
    by_cases h2 : y.f1 ≤ 4611686018427387904
    · rw [if_pos h2, decide_eq_true h2, Bool.true_and]
      refine ev_pos rfl ?_
      by_cases a : y.f3 < 1
      · rw [decide_eq_false (show ¬ 1 ≤ y.f3 by omega)]; exact ev_pos a (ev_some rfl)
      · refine ev_neg a ?_
        rw [decide_eq_true (show 1 ≤ y.f3 by omega), Bool.true_and]
        by_cases b2 : y.f3 > 3
        · rw [decide_eq_false (show ¬ y.f3 ≤ 3 by omega)]; exact ev_pos b2 (ev_some rfl)
        · rw [decide_eq_true (show y.f3 ≤ 3 by omega), Bool.true_and]; exact ev_neg b2 ih
    · rw [if_neg h2, decide_eq_false h2]
      exact ev_neg (by decide) (ev_some rfl)
theorem rcheck_loop (l : List S34) (hl : l.length ≤ 256) (hnn : ∀ x ∈ l, 0 ≤ x.f1) : ∀ (ys : List S34) (i : Nat) (p : Option Int), l.drop i = ys → (i = 0 → p = none) → (0 < i → p = some (l.getD (i - 1) z34).f0) →
    Ev (fun k => damsonref12_Check.l0 k l l (l.length : Int) (i : Int)) (if chk ik igood p ys then 0 else 1)
  | [], i, p, h, h0, h1 => by
    have hi := drop_nil h
    refine Ev.step (f := fun _ => some 0) (fun k => by rw [damsonref12_Check.l0, if_neg (by omega)]) (ev_some ?_)
    simp [chk]
  | y :: ys, i, p, h, h0, h1 => by
    have hi := drop_lt h
    have hy := drop_get z34 h
    have ih := rcheck_loop l hl hnn ys (i + 1) (some y.f0) (drop_next h) (fun e => by omega) (fun _ => by rw [Nat.add_sub_cancel, hy])
    have tail := rtail_ev y (hnn y (drop_mem h)) ih
    refine Ev.step (fun k => by rw [damsonref12_Check.l0]) (ev_pos (by omega) (ev_pos (by omega) (ev_pos (by omega) ?_)))
    rw [drop_rd34 h, next_i hi (by omega)]
    by_cases hi0 : i = 0
    · have hp := h0 hi0
      subst hp
      rw [show chk ik igood none (y :: ys) = (true && (igood y && chk ik igood (some y.f0) ys)) from rfl, Bool.true_and]
      exact ev_neg (by omega) tail
    · have hp := h1 (by omega)
      subst hp
      have hw : wrap64 ((i : Int) - 1) = ((i - 1 : Nat) : Int) := by rw [w64 (by omega) (by omega)]; omega
      rw [hw, rd34]
      rw [show chk ik igood (some (l.getD (i - 1) z34).f0) (y :: ys) = (decide ((l.getD (i - 1) z34).f0 < y.f0) && (igood y && chk ik igood (some y.f0) ys)) from rfl]
      refine ev_pos (by omega) (ev_pos (by omega) (ev_pos (by omega) ?_))
      by_cases c : (l.getD (i - 1) z34).f0 < y.f0
      · rw [decide_eq_true c, Bool.true_and]
        exact ev_neg (by omega) tail
      · rw [decide_eq_false c, Bool.false_and]
        exact ev_pos (by omega) (ev_some rfl)
theorem rcheck_ev (l : List S34) (hnn : ∀ x ∈ l, 0 ≤ x.f1) : Ev (fun k => damsonref12_Check.f k l) (if iok l then 0 else 1) := by
  unfold damsonref12_Check.f iok
  by_cases h : (l.length : Int) > 256
  · refine ev_pos h (ev_some ?_)
    rw [decide_eq_false (by omega)]; rfl
  · refine ev_neg h ?_
    rw [decide_eq_true (by omega : l.length ≤ 256), Bool.true_and]
    exact rcheck_loop l (by omega) hnn l 0 none rfl (fun _ => rfl) (fun h => by omega)
def rfound (o : Option S34) : Int × Int × Int × Int × Bool := match o with | none => (0, 0, 0, 0, false) | some x => (x.f0, x.f1, x.f2, x.f3, true)
theorem rfind_loop (l : List S34) (hl : l.length ≤ 256) (h : Int) : ∀ (ys : List S34) (i : Nat), l.drop i = ys → Ev (fun k => damsonref12_find.l0 k h l (l.length : Int) (i : Int)) (rfound (look ik h ys))
  | [], i, hd => by
    have hi := drop_nil hd
    refine Ev.step (fun k => by rw [damsonref12_find.l0]) ?_
    exact ev_neg (by omega) (ev_some rfl)
  | y :: ys, i, hd => by
    have hi := drop_lt hd
    have ih := rfind_loop l hl h ys (i + 1) (drop_next hd)
    refine Ev.step (fun k => by rw [damsonref12_find.l0]) ?_
    rw [drop_rd34 hd, next_i hi (by omega)]
    refine ev_pos (by omega) (ev_pos (by omega) (ev_pos (by omega) ?_))
    rw [show look ik h (y :: ys) = if ik y = h then some y else look ik h ys from rfl]
    by_cases c : y.f0 = h
    · rw [if_pos (show ik y = h from c)]; exact ev_pos c (ev_some rfl)
    · rw [if_neg (show ¬ ik y = h from c)]; exact ev_neg c ih
theorem rfind_ev (l : List S34) (hl : l.length ≤ 256) (h : Int) : Ev (fun k => damsonref12_find.f k l h) (rfound (look ik h l)) := by
  unfold damsonref12_find.f
  exact rfind_loop l hl h l 0 rfl
theorem late_eq (x : S34) (t : Int) : damsonref12_late.f x.f0 x.f1 x.f2 x.f3 t = some (decide (x.f3 = 1 ∧ t > x.f2)) := by
  unfold damsonref12_late.f
  by_cases c : x.f3 = 1
  · rw [if_pos c]; congr 1; rw [decide_eq_decide]; exact ⟨fun h => ⟨c, h⟩, fun h => h.2⟩
  · rw [if_neg c, decide_eq_false (fun h => c h.1)]
theorem rstate_ev (l : List S34) (hnn : ∀ x ∈ l, 0 ≤ x.f1) (h t : Int) : Ev (fun k => damsonref12_State.f k l h t) (istate l h t) := by
  unfold damsonref12_State.f istate
  refine Ev.bind (rcheck_ev l hnn) ?_
  by_cases c : iok l = true
  · rw [if_pos c, if_pos c]
    refine ev_pos rfl (Ev.bind (rfind_ev l (iok_iff.1 c).1 h) ?_)
    cases hk : look ik h l with
    | none => exact ev_neg (by decide) (ev_some rfl)
    | some x =>
      refine ev_pos rfl ?_
      show Ev (fun _ => (damsonref12_late.f x.f0 x.f1 x.f2 x.f3 t).bind fun t226 => if t226 = true then some (4, 0) else some (x.f3, 0)) (inow x t, 0)
      simp only [late_eq, Option.bind_some, decide_eq_true_eq]
      unfold inow
      by_cases q : x.f3 = 1 ∧ t > x.f2
      · exact ev_pos q (ev_some (by rw [if_pos q]))
      · exact ev_neg q (ev_some (by rw [if_neg q]))
  · rw [if_neg c, if_neg c]
    exact ev_neg (by decide) (ev_some rfl)
def iopen (l : List S34) (h t : Int) : Int × Int × Int × Int × Int :=
  if iok l then (match look ik h l with
    | none => (0, 0, 0, 0, 5)
    | some x => if inow x t = 4 then (0, 0, 0, 0, 13) else if inow x t = 1 then (x.f0, x.f1, x.f2, x.f3, 0) else (0, 0, 0, 0, 10)) else (0, 0, 0, 0, 1)
theorem ropen_ev (l : List S34) (hnn : ∀ x ∈ l, 0 ≤ x.f1) (h t : Int) : Ev (fun k => damsonref12_open.f k l h t) (iopen l h t) := by
  unfold damsonref12_open.f iopen
  refine Ev.bind (rstate_ev l hnn h t) ?_
  unfold istate
  by_cases c : iok l = true
  · rw [if_pos c, if_pos c]
    cases hk : look ik h l with
    | none => exact ev_neg (show ¬ ((5 : Int) = 0) by decide) (ev_some rfl)
    | some x =>
      refine ev_pos rfl (ev_ite (fun _ => ev_some rfl) (fun _ => ev_ite (fun _ => ?_) (fun _ => ev_some rfl)))
      have := rfind_ev l (iok_iff.1 c).1 h
      rw [hk] at this
      exact Ev.bind this (Ev.now _)
  · rw [if_neg c, if_neg c]
    exact ev_neg (by decide) (ev_some rfl)
/-- Invoices with one, in place of that of its hash. -/
def iwith (l : List S34) (p : S34) : List S34 := l.filter (fun x => decide (x.f0 < p.f0)) ++ [p] ++ l.filter (fun x => decide (x.f0 > p.f0))
theorem with_l1 (l : List S34) (hl : l.length ≤ 256) (p : S34) : ∀ (ys : List S34) (i : Nat) (acc : List S34), l.drop i = ys → acc.length ≤ 257 + i →
    Ev (fun k => damsonref12_with.l1 k acc l (l.length : Int) (i : Int) p.f0 p.f1 p.f2 p.f3) (acc ++ ys.filter (fun x => decide (x.f0 > p.f0)))
  | [], i, acc, hd, _ => by
    have hi := drop_nil hd
    refine Ev.step (fun k => by rw [damsonref12_with.l1]) ?_
    exact ev_neg (by omega) (ev_some (by simp))
  | y :: ys, i, acc, hd, ha => by
    have hi := drop_lt hd
    refine Ev.step (fun k => by rw [damsonref12_with.l1]) ?_
    rw [drop_rd34 hd, next_i hi (by omega)]
    refine ev_pos (by omega) (ev_pos (by omega) (ev_pos (by omega) ?_))
    by_cases c : y.f0 > p.f0
    · have ih := with_l1 l hl p ys (i + 1) (acc ++ [y]) (drop_next hd) (by simp; omega)
      refine ev_pos c (ev_pos (by omega) (ev_eq ih ?_))
      simp [c]
    · have ih := with_l1 l hl p ys (i + 1) acc (drop_next hd) (by omega)
      refine ev_neg c (ev_eq ih ?_)
      simp [c]
theorem with_l0 (l : List S34) (hl : l.length ≤ 256) (p : S34) : ∀ (ys : List S34) (i : Nat) (acc : List S34), l.drop i = ys → i ≤ l.length → acc.length ≤ i →
    Ev (fun k => damsonref12_with.l0 k l acc l (l.length : Int) (i : Int) p.f0 p.f1 p.f2 p.f3) (acc ++ ys.filter (fun x => decide (x.f0 < p.f0)) ++ [p] ++ l.filter (fun x => decide (x.f0 > p.f0)))
  | [], i, acc, hd, hi2, ha => by
    have hi := drop_nil hd
    refine Ev.step (fun k => by rw [damsonref12_with.l0]) (ev_neg (by omega) ?_)
    refine ev_pos (by omega) (ev_eq (with_l1 l hl p l 0 (acc ++ [p]) rfl (by simp; omega)) ?_)
    simp
  | y :: ys, i, acc, hd, hi2, ha => by
    have hi := drop_lt hd
    refine Ev.step (fun k => by rw [damsonref12_with.l0]) ?_
    rw [drop_rd34 hd, next_i hi (by omega)]
    refine ev_pos (by omega) (ev_pos (by omega) (ev_pos (by omega) ?_))
    by_cases c : y.f0 < p.f0
    · have ih := with_l0 l hl p ys (i + 1) (acc ++ [y]) (drop_next hd) (by omega) (by simp; omega)
      refine ev_pos c (ev_pos (by omega) (ev_eq ih ?_))
      simp [c]
    · have ih := with_l0 l hl p ys (i + 1) acc (drop_next hd) (by omega) (by omega)
      refine ev_neg c (ev_eq ih ?_)
      simp [c]
theorem with_ev (l : List S34) (hl : l.length ≤ 256) (p : S34) : Ev (fun k => damsonref12_with.f k l p.f0 p.f1 p.f2 p.f3) (iwith l p) := by
  unfold damsonref12_with.f iwith
  exact ev_eq (with_l0 l hl p l 0 [] rfl (by omega) (by simp)) (by simp)
theorem filter_none {l : List S34} {q : S34 → Bool} (h : ∀ x ∈ l, q x = false) : l.filter q = [] := List.filter_eq_nil_iff.2 (fun x hx => by rw [h x hx]; decide)
theorem filter_all {l : List S34} {q : S34 → Bool} (h : ∀ x ∈ l, q x = true) : l.filter q = l := List.filter_eq_self.2 h
theorem iwith_ins (p : S34) : ∀ {l : List S34}, Srt ik l → look ik p.f0 l = none → iwith l p = ins ik p l
  | [], _, _ => rfl
  | y :: ys, hs, hn => by
    obtain ⟨h1, h2⟩ := srt_cons.1 hs
    rw [show look ik p.f0 (y :: ys) = if ik y = p.f0 then some y else look ik p.f0 ys from rfl] at hn
    by_cases e : ik y = p.f0
    · rw [if_pos e] at hn; simp at hn
    · rw [if_neg e] at hn
      rw [show ins ik p (y :: ys) = if ik y < ik p then y :: ins ik p ys else p :: y :: ys from rfl]
      have ih := iwith_ins p h2 hn
      by_cases c : y.f0 < p.f0
      · rw [if_pos (show ik y < ik p from c), ← ih]
        unfold iwith
        rw [List.filter_cons, if_pos (decide_eq_true c), List.filter_cons, if_neg (by rw [decide_eq_false (by omega)]; decide)]; rfl
      · have c2 : p.f0 < y.f0 := by have : y.f0 ≠ p.f0 := e; omega
        rw [if_neg (show ¬ ik y < ik p from c)]
        unfold iwith
        rw [filter_none (q := fun x => decide (x.f0 < p.f0)) (fun x hx => decide_eq_false (by
          rcases List.mem_cons.1 hx with rfl | hx
          · omega
          · have := h1 x hx; simp only [ik] at this; omega)), filter_all (q := fun x => decide (x.f0 > p.f0)) (fun x hx => decide_eq_true (by
          rcases List.mem_cons.1 hx with rfl | hx
          · omega
          · have := h1 x hx; simp only [ik] at this; omega))]; rfl
theorem iwith_upd (st : Int) : ∀ {l : List S34} {x : S34} {h : Int}, Srt ik l → look ik h l = some x → iwith l (iset st x) = upd ik h (iset st) l
  | [], x, h, _, hn => by simp [look] at hn
  | y :: ys, x, h, hs, hn => by
    obtain ⟨h1, h2⟩ := srt_cons.1 hs
    have hk := (look_some hn).2
    rw [show look ik h (y :: ys) = if ik y = h then some y else look ik h ys from rfl] at hn
    rw [show upd ik h (iset st) (y :: ys) = if ik y = h then iset st y :: ys else y :: upd ik h (iset st) ys from rfl]
    by_cases e : ik y = h
    · rw [if_pos e] at hn ⊢
      obtain rfl := Option.some.inj hn
      unfold iwith
      rw [filter_none (q := fun x => decide (x.f0 < (iset st y).f0)) (fun x hx => decide_eq_false (by
        show ¬ x.f0 < y.f0
        rcases List.mem_cons.1 hx with rfl | hx
        · omega
        · have := h1 x hx; simp only [ik] at this; omega)), List.filter_cons, if_neg (by rw [decide_eq_false (show ¬ y.f0 > (iset st y).f0 from by show ¬ y.f0 > y.f0; omega)]; decide), filter_all (q := fun x => decide (x.f0 > (iset st y).f0)) (fun x hx => decide_eq_true (by
        show x.f0 > y.f0
        have := h1 x hx; simp only [ik] at this; omega))]; rfl
    · rw [if_neg e] at hn ⊢
      have ih := iwith_upd st h2 hn
      have hx := (look_some hn).1
      have c : y.f0 < x.f0 := h1 x hx
      rw [← ih]
      unfold iwith
      rw [List.filter_cons, if_pos (decide_eq_true (show y.f0 < (iset st x).f0 from c)), List.filter_cons, if_neg (by rw [decide_eq_false (show ¬ y.f0 > (iset st x).f0 from by show ¬ y.f0 > x.f0; omega)]; decide)]; rfl
theorem rcreate_ev (l : List S34) (hnn : ∀ x ∈ l, 0 ≤ x.f1) (h n till : Int) (hn : 0 ≤ n) : Ev (fun k => damsonref12_Create.f k l h n till) (icreate l h n till) := by
  unfold damsonref12_Create.f
  have bad : (iok l && ibill n) = false → Ev (fun k => damsonref12_Create.j0 k l h n till true) (icreate l h n till) := fun e => by
    unfold icreate
    rw [e, if_neg (show ¬ (false = true) by decide)]
    exact Ev.step (fun k => by rw [damsonref12_Create.j0]) (ev_pos rfl (ev_some rfl))
  refine Ev.bind (rcheck_ev l hnn) ?_
  by_cases c : iok l = true
  · obtain ⟨h1, h2, h3⟩ := iok_iff.1 c
    rw [if_pos c]
    refine ev_pos rfl ?_
    by_cases n0 : n = 0
    · exact ev_pos n0 (bad (by rw [n0, c]; rfl))
    · refine ev_neg n0 (Ev.bind (rcheck04_ev [n] (by simp)) ?_)
      rw [mchk_one]
      by_cases n1 : n ≤ 4611686018427387904
      · have hb : ibill n = true := by unfold ibill; rw [decide_eq_true n1, decide_eq_true (show 0 < n by omega)]; rfl
        rw [if_pos n1]
        refine Ev.step (fun k => by rw [damsonref12_Create.j0]) (ev_neg (by decide) (Ev.bind (rfind_ev l h1 h) ?_))
        unfold icreate
        rw [c, hb, if_pos (show (true && true) = true by rfl)]
        cases hk : look ik h l with
        | some x => exact ev_pos rfl (ev_some rfl)
        | none =>
          refine ev_neg (by decide) ?_
          rw [if_neg (show ¬ ((none : Option S34).isSome = true) by decide)]
          by_cases f : l.length = 256
          · rw [if_pos f]; exact ev_pos (by omega) (ev_some rfl)
          · rw [if_neg f]
            refine ev_neg (by omega) (ev_eq (Ev.bind (with_ev l h1 ⟨h, n, till, 1⟩) (Ev.now _)) ?_)
            rw [iwith_ins (⟨h, n, till, 1⟩ : S34) h2 hk]
      · rw [if_neg n1]
        exact bad (by unfold ibill; rw [decide_eq_false n1, Bool.and_false, Bool.and_false])
  · rw [if_neg c]
    refine ev_neg (by decide) (bad ?_)
    rw [Bool.not_eq_true] at c
    rw [c]; rfl
theorem rcancel_ev (l : List S34) (hnn : ∀ x ∈ l, 0 ≤ x.f1) (h t : Int) : Ev (fun k => damsonref12_Cancel.f k l h t) (iend l h t 4611686018427387904 3) := by
  unfold damsonref12_Cancel.f iend
  refine Ev.bind (ropen_ev l hnn h t) ?_
  unfold iopen
  by_cases c : iok l = true
  · obtain ⟨h1, h2, h3⟩ := iok_iff.1 c
    rw [if_pos c, if_pos c]
    cases hk : look ik h l with
    | none => exact ev_neg (show ¬ ((5 : Int) = 0) by decide) (ev_some rfl)
    | some x =>
      have hg : x.f1 ≤ 4611686018427387904 := by
        have := h3 x (look_some hk).1
        unfold igood ibill at this
        simp only [Bool.and_eq_true, decide_eq_true_eq] at this
        omega
      show Ev _ (if inow x t = 4 then ([], 13) else if inow x t = 1 then (if (4611686018427387904 : Int) < x.f1 then ([], 9) else (upd ik h (iset 3) l, 0)) else ([], 10))
      by_cases c4 : inow x t = 4
      · simp only [if_pos c4]
        exact ev_neg (by decide) (ev_some rfl)
      · simp only [if_neg c4]
        by_cases c1 : inow x t = 1
        · simp only [if_pos c1]
          rw [if_neg (by omega)]
          exact ev_pos trivial (ev_eq (Ev.bind (with_ev l h1 (iset 3 x)) (Ev.now _)) (by rw [iwith_upd 3 h2 hk]))
        · simp only [if_neg c1]
          exact ev_neg (by decide) (ev_some rfl)
  · rw [if_neg c, if_neg c]
    exact ev_neg (by decide) (ev_some rfl)
theorem rpay_ev (l : List S34) (hnn : ∀ x ∈ l, 0 ≤ x.f1) (h n t : Int) : Ev (fun k => damsonref12_Pay.f k l h n t) (iend l h t n 2) := by
  unfold damsonref12_Pay.f iend
  refine Ev.bind (ropen_ev l hnn h t) ?_
  unfold iopen
  by_cases c : iok l = true
  · obtain ⟨h1, h2, h3⟩ := iok_iff.1 c
    rw [if_pos c, if_pos c]
    cases hk : look ik h l with
    | none => exact ev_neg (show ¬ ((5 : Int) = 0) by decide) (ev_some rfl)
    | some x =>
      show Ev _ (if inow x t = 4 then ([], 13) else if inow x t = 1 then (if n < x.f1 then ([], 9) else (upd ik h (iset 2) l, 0)) else ([], 10))
      by_cases c4 : inow x t = 4
      · simp only [if_pos c4]
        exact ev_neg (by decide) (ev_some rfl)
      · simp only [if_neg c4]
        by_cases c1 : inow x t = 1
        · simp only [if_pos c1]
          refine ev_pos trivial (ev_ite (fun _ => ev_some rfl) (fun _ => ?_))
          exact ev_eq (Ev.bind (with_ev l h1 (iset 2 x)) (Ev.now _)) (by rw [iwith_upd 2 h2 hk])
        · simp only [if_neg c1]
          exact ev_neg (by decide) (ev_some rfl)
  · rw [if_neg c, if_neg c]
    exact ev_neg (by decide) (ev_some rfl)
theorem rsweep_loop (l : List S34) (hl : l.length ≤ 256) (hg : ∀ x ∈ l, igood x = true) (t : Int) : ∀ (ys : List S34) (i : Nat) (acc : List S34), l.drop i = ys → acc.length ≤ i →
    Ev (fun k => damsonref12_Sweep.l0 k t acc l (l.length : Int) (i : Int)) (acc ++ ys.filter (istay t), 0)
  | [], i, acc, hd, _ => by
    have hi := drop_nil hd
    refine Ev.step (fun k => by rw [damsonref12_Sweep.l0]) ?_
    exact ev_neg (by omega) (ev_some (by simp))
  | y :: ys, i, acc, hd, ha => by
    have hi := drop_lt hd
    have gy := hg y (drop_mem hd)
    unfold igood at gy
    simp only [Bool.and_eq_true, decide_eq_true_eq] at gy
    refine Ev.step (fun k => by rw [damsonref12_Sweep.l0]) ?_
    rw [drop_rd34 hd, next_i hi (by omega)]
    refine ev_pos (by omega) (ev_pos (by omega) (ev_pos (by omega) ?_))
    simp only [late_eq, Option.bind_some, decide_eq_true_eq]
    have ih0 := rsweep_loop l hl hg t ys (i + 1) acc (drop_next hd) (by omega)
    by_cases c : y.f3 = 1 ∧ t > y.f2
    · refine ev_pos c (ev_eq ih0 ?_)
      rw [List.filter_cons, if_neg (by unfold istay inow; rw [if_pos c]; simp)]
    · refine ev_neg c ?_
      by_cases c3 : y.f3 = 3
      · refine ev_pos c3 (ev_eq ih0 ?_)
        rw [List.filter_cons, if_neg (by unfold istay; rw [c3]; simp)]
      · have ih1 := rsweep_loop l hl hg t ys (i + 1) (acc ++ [y]) (drop_next hd) (by simp; omega)
        refine ev_neg c3 (ev_pos (by omega) (ev_eq ih1 ?_))
        rw [List.filter_cons, if_pos (by unfold istay inow; rw [if_neg c, beq_eq_false_iff_ne.2 (show y.f3 ≠ 4 by omega), beq_eq_false_iff_ne.2 c3]; rfl)]
        simp
theorem rsweep_ev (l : List S34) (hnn : ∀ x ∈ l, 0 ≤ x.f1) (t : Int) : Ev (fun k => damsonref12_Sweep.f k l t) (isweep l t) := by
  unfold damsonref12_Sweep.f isweep
  refine Ev.bind (rcheck_ev l hnn) ?_
  by_cases c : iok l = true
  · obtain ⟨h1, h2, h3⟩ := iok_iff.1 c
    rw [if_pos c, if_pos c]
    exact ev_pos rfl (ev_eq (rsweep_loop l h1 h3 t l 0 [] rfl (by simp)) (by simp))
  · rw [if_neg c, if_neg c]
    exact ev_neg (by decide) (ev_some rfl)
/-- Whether invoices are the same. -/
def ism : List S34 → List S34 → Bool
  | [], [] => true
  | x :: xs, y :: ys => (x.f0 == y.f0 && (x.f1 == y.f1 && (x.f2 == y.f2 && (x.f3 == y.f3)))) && ism xs ys
  | _, _ => false
theorem ism_len : ∀ {l m : List S34}, l.length ≠ m.length → ism l m = false
  | [], [], h => absurd rfl h
  | [], _ :: _, _ => rfl
  | _ :: _, [], _ => rfl
  | x :: xs, y :: ys, h => by
    show ((x.f0 == y.f0 && (x.f1 == y.f1 && (x.f2 == y.f2 && (x.f3 == y.f3)))) && ism xs ys) = false
    rw [ism_len (l := xs) (m := ys) (by simpa using h), Bool.and_false]
theorem ism_self : ∀ l : List S34, ism l l = true
  | [] => rfl
  | x :: xs => by
    show ((x.f0 == x.f0 && (x.f1 == x.f1 && (x.f2 == x.f2 && (x.f3 == x.f3)))) && ism xs xs) = true
    rw [ism_self xs]; simp
theorem idrop_two {l m xs : List S34} {i : Nat} {x : S34} (h : l.drop i = x :: xs) (e : l.length = m.length) : ∃ y ys, m.drop i = y :: ys := by
  have := drop_lt h
  exact ⟨m[i]'(by omega), m.drop (i + 1), List.drop_eq_getElem_cons (by omega)⟩
theorem not_and4 (a b c d : Bool) : (!a || (!b || (!c || (!d)))) = !(a && (b && (c && d))) := by
  cases a <;> cases b <;> cases c <;> cases d <;> rfl
theorem ism_loop (l m : List S34) (e : l.length = m.length) (hl : l.length ≤ 140737488351232) : ∀ (xs : List S34) (i : Nat), l.drop i = xs → Ev (fun k => slices_EqualFunc_Invoice_at_invoice_Same_1.l0 k m l (l.length : Int) (i : Int)) (ism xs (m.drop i))
  | [], i, h => by
    have hi := drop_nil h
    rw [List.drop_eq_nil_of_le (show m.length ≤ i by omega)]
    refine Ev.step (fun k => by rw [slices_EqualFunc_Invoice_at_invoice_Same_1.l0]) ?_
    exact ev_neg (by omega) (ev_some rfl)
  | x :: xs, i, h => by
    have hi := drop_lt h
    obtain ⟨y, ys, hy⟩ := idrop_two h e
    have ih := ism_loop l m e hl xs (i + 1) (drop_next h)
    rw [drop_next hy] at ih
    rw [hy]
    refine Ev.step (fun k => by rw [slices_EqualFunc_Invoice_at_invoice_Same_1.l0]) ?_
    rw [drop_rd34 h, drop_rd34 hy, next_i hi hl]
    refine ev_pos (by omega) (ev_pos (by omega) (ev_pos (by omega) (ev_pos (by omega) ?_)))
    show Ev _ ((x.f0 == y.f0 && (x.f1 == y.f1 && (x.f2 == y.f2 && (x.f3 == y.f3)))) && ism xs ys)
    simp only [invoice_Same_1.f, Option.bind_some]
    cases (x.f0 == y.f0 && (x.f1 == y.f1 && (x.f2 == y.f2 && (x.f3 == y.f3)))) with
    | true => exact ev_pos rfl ih
    | false => exact ev_neg (by decide) (ev_some rfl)
theorem ism_ev (l m : List S34) (hl : l.length ≤ 140737488351232) : Ev (fun k => invoice_Same.f k l m) (ism l m) := by
  unfold invoice_Same.f slices_EqualFunc_Invoice_at_invoice_Same_1.f
  refine Ev.bind (a := ism l m) ?_ (Ev.now _)
  by_cases e : l.length = m.length
  · exact ev_pos (by omega) (ism_loop l m e hl l 0 rfl)
  · rw [ism_len e]; exact ev_neg (by omega) (ev_some rfl)
theorem rsm_loop (l m : List S34) (e : l.length = m.length) (hl : l.length ≤ 140737488351232) : ∀ (xs : List S34) (i : Nat), l.drop i = xs → Ev (fun k => damsonref12_Same.l0 k l m (l.length : Int) (i : Int)) (ism xs (m.drop i))
  | [], i, h => by
    have hi := drop_nil h
    rw [List.drop_eq_nil_of_le (show m.length ≤ i by omega)]
    refine Ev.step (fun k => by rw [damsonref12_Same.l0]) ?_
    exact ev_neg (by omega) (ev_some rfl)
  | x :: xs, i, h => by
    have hi := drop_lt h
    obtain ⟨y, ys, hy⟩ := idrop_two h e
    have ih := rsm_loop l m e hl xs (i + 1) (drop_next h)
    rw [drop_next hy] at ih
    rw [hy]
    refine Ev.step (fun k => by rw [damsonref12_Same.l0]) ?_
    rw [drop_rd34 h, drop_rd34 hy, next_i hi hl, not_and4]
    refine ev_pos (by omega) (ev_pos (by omega) (ev_pos (by omega) (ev_pos (by omega) ?_)))
    show Ev _ ((x.f0 == y.f0 && (x.f1 == y.f1 && (x.f2 == y.f2 && (x.f3 == y.f3)))) && ism xs ys)
    cases (x.f0 == y.f0 && (x.f1 == y.f1 && (x.f2 == y.f2 && (x.f3 == y.f3)))) with
    | true => exact ev_neg (by decide) ih
    | false => exact ev_pos rfl (ev_some rfl)
theorem rsm_ev (l m : List S34) (hl : l.length ≤ 140737488351232) : Ev (fun k => damsonref12_Same.f k l m) (ism l m) := by
  unfold damsonref12_Same.f
  by_cases e : l.length = m.length
  · exact ev_pos (by omega) (rsm_loop l m e hl l 0 rfl)
  · rw [ism_len e]; exact ev_neg (by omega) (ev_some rfl)
end Go.Proofs.Ytlpdgagohafmaaa.B
