/- Plain laws of the document's answer for payments. -/
import Derived.Test.YtcfbcoinbecdfaaPdoesPYH
import Derived.Test.YtcfbcoinbecdfaaPdoesPYG
import Derived.Test.YtcfbcoinbecdfaaPdoesR
import Derived.Test.YtcfbcoinbecdfaaQPdoesx7
import Derived.Test.YtcfbcoinbecdfaaQPdoesx8
import Derived.Test.YtcfbcoinbecdfaaQPdoesx9
import Derived.Test.YtcfbcoinbecdfaaQPdoesx5
set_option linter.unusedVariables false
namespace Go.Proofs.Ytcfbcoinbecdfaa.B
open Go.RowKit Go.Proofs.Ytcfbcoinbecdfaa.P Go.Proofs.YtcfbcoinbecdfaaW.PrintWords
theorem rmay_ev (x : S74) : Ev (fun k => damsonref13_may.f k x.f0 x.f1 x.f2 x.f3 x.f4) (pgood x) := by
 unfold damsonref13_may.f pgood
 by_cases h : x.f3 > 0
 ·refine ev_pos h (Ev.bind (rcheck04_ev [x.f3] (by simp)) ?_)
  rw [mchk_one, decide_eq_true (show 0 < x.f3 from h), Bool.true_and]
  by_cases h2 : x.f3 ≤ 4611686018427387904
  ·rw [if_pos h2, decide_eq_true h2, Bool.true_and]
   refine ev_pos rfl ?_
   by_cases h3 : x.f4 ≥ 1
   ·rw [decide_eq_true (show 1 ≤ x.f4 from h3), Bool.true_and]
    exact ev_pos h3 (ev_some rfl)
   ·rw [decide_eq_false (show ¬ 1 ≤ x.f4 from h3), Bool.false_and]
    exact ev_neg h3 (ev_some rfl)
  ·rw [if_neg h2, decide_eq_false h2, Bool.false_and]
   exact ev_neg (by decide) (ev_some rfl)
 ·rw [decide_eq_false (show ¬ 0 < x.f3 from h), Bool.false_and]
  exact ev_neg h (ev_some rfl)
theorem rpcheck_loop (l : List S74) (hl : l.length ≤ 256) : ∀ (ys : List S74) (i : Nat) (p : Option Int), l.drop i = ys → (i = 0 → p = none) → (0 < i → p = some (l.getD (i - 1) z74).f0) →
  Ev (fun k => damsonref13_Check.l0 k l l (l.length : Int) (i : Int)) (if chk pk pgood p ys then 0 else 1)
 | [], i, p, h, h0, h1 => by
  have hi := drop_nil h
  refine Ev.step (f := fun _ => some 0) (fun k => by rw [damsonref13_Check.l0, if_neg (by omega)]) (ev_some ?_)
  simp [chk]
 | y :: ys, i, p, h, h0, h1 => by
  have hi := drop_lt h
  have hy := drop_get z74 h
  have ih := rpcheck_loop l hl ys (i + 1) (some y.f0) (drop_next h) (fun e => by omega) (fun _ => by rw [Nat.add_sub_cancel, hy])
  have tail : Ev (fun k => (damsonref13_may.f k y.f0 y.f1 y.f2 y.f3 y.f4).bind fun t => if t = true then damsonref13_Check.l0 k l l (l.length : Int) ((i + 1 : Nat) : Int) else some 1) (if (pgood y && chk pk pgood (some y.f0) ys) = true then 0 else 1) := by
   refine Ev.bind (rmay_ev y) ?_
   by_cases g : pgood y = true
   ·rw [g, Bool.true_and]; exact ev_pos rfl ih
   ·rw [Bool.not_eq_true] at g
    rw [g, Bool.false_and]; exact ev_neg (by decide) (ev_some rfl)
  refine Ev.step (fun k => by rw [damsonref13_Check.l0]) (ev_pos (by omega) (ev_pos (by omega) (ev_pos (by omega) ?_)))
  rw [drop_rd74 h, next_i hi (by omega)]
  by_cases hi0 : i = 0
  ·have hp := h0 hi0
   subst hp
   rw [show chk pk pgood none (y :: ys) = (true && (pgood y && chk pk pgood (some y.f0) ys)) from rfl, Bool.true_and]
   exact ev_neg (by omega) tail
  ·have hp := h1 (by omega)
   subst hp
   have hw : wrap64 ((i : Int) - 1) = ((i - 1 : Nat) : Int) := by rw [w64 (by omega) (by omega)]; omega
   rw [hw, rd74]
   rw [show chk pk pgood (some (l.getD (i - 1) z74).f0) (y :: ys) = (decide ((l.getD (i - 1) z74).f0 < y.f0) && (pgood y && chk pk pgood (some y.f0) ys)) from rfl]
   refine ev_pos (by omega) (ev_pos (by omega) (ev_pos (by omega) ?_))
   by_cases c : (l.getD (i - 1) z74).f0 < y.f0
   ·rw [decide_eq_true c, Bool.true_and]
    exact ev_neg (by omega) tail
   ·rw [decide_eq_false c, Bool.false_and]
    exact ev_pos (by omega) (ev_some rfl)
theorem rpcheck_ev (l : List S74) : Ev (fun k => damsonref13_Check.f k l) (if pok l then 0 else 1) := by
 unfold damsonref13_Check.f pok
 by_cases h : (l.length : Int) > 256
 ·refine ev_pos h (ev_some ?_)
  rw [decide_eq_false (by omega)]; rfl
 ·refine ev_neg h ?_
  rw [decide_eq_true (by omega : l.length ≤ 256), Bool.true_and]
  exact rpcheck_loop l (by omega) l 0 none rfl (fun _ => rfl) (fun h => by omega)
theorem rget_loop (l : List S74) (hl : l.length ≤ 256) (h : Int) : ∀ (ys : List S74) (i : Nat), l.drop i = ys →
  Ev (fun k => damsonref13_Get.l0 k h l (l.length : Int) (i : Int)) (match look pk h ys with | none => (0, 0, 0, 0, 0, 5) | some x => (x.f0, x.f1, x.f2, x.f3, x.f4, 0))
 | [], i, hd => by
  have hi := drop_nil hd
  refine Ev.step (fun k => by rw [damsonref13_Get.l0]) ?_
  exact ev_neg (by omega) (ev_some rfl)
 | y :: ys, i, hd => by
  have hi := drop_lt hd
  have ih := rget_loop l hl h ys (i + 1) (drop_next hd)
  refine Ev.step (fun k => by rw [damsonref13_Get.l0]) ?_
  rw [drop_rd74 hd, next_i hi (by omega)]
  refine ev_pos (by omega) (ev_pos (by omega) (ev_pos (by omega) ?_))
  rw [show look pk h (y :: ys) = if pk y = h then some y else look pk h ys from rfl]
  by_cases c : y.f0 = h
  ·rw [if_pos (show pk y = h from c)]; exact ev_pos c (ev_some rfl)
  ·rw [if_neg (show ¬ pk y = h from c)]; exact ev_neg c ih
theorem rget_ev (l : List S74) (h : Int) : Ev (fun k => damsonref13_Get.f k l h) ((pget l h).1.f0, (pget l h).1.f1, (pget l h).1.f2, (pget l h).1.f3, (pget l h).1.f4, (pget l h).2) := by
 unfold damsonref13_Get.f
 refine Ev.bind (rpcheck_ev l) ?_
 by_cases c : pok l = true
 ·rw [if_pos c]
  refine ev_pos rfl (ev_eq (rget_loop l (pok_iff.1 c).1 h l 0 rfl) ?_)
  unfold pget
  rw [if_pos c]
  cases look pk h l <;> rfl
 ·rw [if_neg c, pget_no c]
  exact ev_neg (by decide) (ev_some rfl)
/-- What is left when the first that is not pending is forgotten. -/
def pforget (l : List S74) : List S74 := match pfree l with | none => l | some k => l.eraseIdx k
theorem forget_loop (l : List S74) (hl : l.length ≤ 256) : ∀ (ys : List S74) (i : Nat), l.drop i = ys → Ev (fun k => damsonref13_forget.l0 k l l (l.length : Int) (i : Int)) (match pfree ys with | none => l | some m => l.eraseIdx (i + m))
 | [], i, hd => by
  have hi := drop_nil hd
  refine Ev.step (fun k => by rw [damsonref13_forget.l0]) ?_
  exact ev_neg (by omega) (ev_some rfl)
 | y :: ys, i, hd => by
  have hi := drop_lt hd
  have ih := forget_loop l hl ys (i + 1) (drop_next hd)
  refine Ev.step (fun k => by rw [damsonref13_forget.l0]) ?_
  rw [drop_rd74 hd, next_i hi (by omega)]
  refine ev_pos (by omega) (ev_pos (by omega) (ev_pos (by omega) ?_))
  unfold pfree
  by_cases c : y.f4 = 1
  ·rw [if_pos c]
   refine ev_pos c (ev_eq ih ?_)
   cases pfree ys with
   | none => rfl
   | some m => show l.eraseIdx (i + 1 + m) = l.eraseIdx (i + (m + 1)); congr 1; omega
  ·rw [if_neg c]
   have h1 : (l.take i).length ≤ 256 := by rw [List.length_take]; omega
   have h2 : (l.drop (i + 1)).length ≤ 256 := by rw [List.length_drop]; omega
   refine ev_neg c (ev_pos (by omega) (ev_const ?_))
   simp only [Option.bind_some, Int.toNat_natCast, List.nil_append, List.length_nil]
   rw [if_pos (by omega), if_pos (by omega), if_pos (by omega), if_pos (by omega), List.eraseIdx_eq_take_drop_succ]; rfl
theorem forget_ev (l : List S74) (hl : l.length ≤ 256) : Ev (fun k => damsonref13_forget.f k l) (pforget l) := by
 unfold damsonref13_forget.f pforget
 refine ev_eq (forget_loop l hl l 0 rfl) ?_
 cases pfree l with
 | none => rfl
 | some m => show l.eraseIdx (0 + m) = l.eraseIdx m; rw [Nat.zero_add]
/-- Payments with one, in place of that of its number. -/
def pwith (l : List S74) (p : S74) : List S74 := l.filter (fun x => decide (x.f0 < p.f0)) ++ [p] ++ l.filter (fun x => decide (x.f0 > p.f0))
theorem with_l1 (l : List S74) (hl : l.length ≤ 256) (p : S74) : ∀ (ys : List S74) (i : Nat) (acc : List S74), l.drop i = ys → acc.length ≤ 257 + i →
  Ev (fun k => damsonref13_with.l1 k acc l (l.length : Int) (i : Int) p.f0 p.f1 p.f2 p.f3 p.f4) (acc ++ ys.filter (fun x => decide (x.f0 > p.f0)))
 | [], i, acc, hd, _ => by
  have hi := drop_nil hd
  refine Ev.step (fun k => by rw [damsonref13_with.l1]) ?_
  exact ev_neg (by omega) (ev_some (by simp))
 | y :: ys, i, acc, hd, ha => by
  have hi := drop_lt hd
  refine Ev.step (fun k => by rw [damsonref13_with.l1]) ?_
  rw [drop_rd74 hd, next_i hi (by omega)]
  refine ev_pos (by omega) (ev_pos (by omega) (ev_pos (by omega) ?_))
  by_cases c : y.f0 > p.f0
  ·have ih := with_l1 l hl p ys (i + 1) (acc ++ [y]) (drop_next hd) (by simp; omega)
   refine ev_pos c (ev_pos (by omega) (ev_eq ih ?_))
   simp [c]
  ·have ih := with_l1 l hl p ys (i + 1) acc (drop_next hd) (by omega)
   refine ev_neg c (ev_eq ih ?_)
   simp [c]
theorem with_l0 (l : List S74) (hl : l.length ≤ 256) (p : S74) : ∀ (ys : List S74) (i : Nat) (acc : List S74), l.drop i = ys → i ≤ l.length → acc.length ≤ i →
  Ev (fun k => damsonref13_with.l0 k l acc l (l.length : Int) (i : Int) p.f0 p.f1 p.f2 p.f3 p.f4) (acc ++ ys.filter (fun x => decide (x.f0 < p.f0)) ++ [p] ++ l.filter (fun x => decide (x.f0 > p.f0)))
 | [], i, acc, hd, hi2, ha => by
  have hi := drop_nil hd
  refine Ev.step (fun k => by rw [damsonref13_with.l0]) (ev_neg (by omega) ?_)
  refine ev_pos (by omega) (ev_eq (with_l1 l hl p l 0 (acc ++ [p]) rfl (by simp; omega)) ?_)
  simp
 | y :: ys, i, acc, hd, hi2, ha => by
  have hi := drop_lt hd
  refine Ev.step (fun k => by rw [damsonref13_with.l0]) ?_
  rw [drop_rd74 hd, next_i hi (by omega)]
  refine ev_pos (by omega) (ev_pos (by omega) (ev_pos (by omega) ?_))
  by_cases c : y.f0 < p.f0
  ·have ih := with_l0 l hl p ys (i + 1) (acc ++ [y]) (drop_next hd) (by omega) (by simp; omega)
   refine ev_pos c (ev_pos (by omega) (ev_eq ih ?_))
   simp [c]
  ·have ih := with_l0 l hl p ys (i + 1) acc (drop_next hd) (by omega) (by omega)
   refine ev_neg c (ev_eq ih ?_)
   simp [c]
theorem with_ev (l : List S74) (hl : l.length ≤ 256) (p : S74) : Ev (fun k => damsonref13_with.f k l p.f0 p.f1 p.f2 p.f3 p.f4) (pwith l p) := by
 unfold damsonref13_with.f pwith
 exact ev_eq (with_l0 l hl p l 0 [] rfl (by omega) (by simp)) (by simp)
theorem filter_none {l : List S74} {q : S74 → Bool} (h : ∀ x ∈ l, q x = false) : l.filter q = [] := List.filter_eq_nil_iff.2 (fun x hx => by rw [h x hx]; decide)
theorem filter_all {l : List S74} {q : S74 → Bool} (h : ∀ x ∈ l, q x = true) : l.filter q = l := List.filter_eq_self.2 h
theorem pwith_ins (p : S74) : ∀ {l : List S74}, Srt pk l → look pk p.f0 l = none → pwith l p = ins pk p l
 | [], _, _ => rfl
 | y :: ys, hs, hn => by
  obtain ⟨h1, h2⟩ := srt_cons.1 hs
  rw [show look pk p.f0 (y :: ys) = if pk y = p.f0 then some y else look pk p.f0 ys from rfl] at hn
  by_cases e : pk y = p.f0
  ·rw [if_pos e] at hn; simp at hn
  ·rw [if_neg e] at hn
   rw [show ins pk p (y :: ys) = if pk y < pk p then y :: ins pk p ys else p :: y :: ys from rfl]
   have ih := pwith_ins p h2 hn
   by_cases c : y.f0 < p.f0
   ·rw [if_pos (show pk y < pk p from c), ← ih]
    unfold pwith
    rw [List.filter_cons, if_pos (decide_eq_true c), List.filter_cons, if_neg (by rw [decide_eq_false (by omega)]; decide)]; rfl
   ·have c2 : p.f0 < y.f0 := by have : y.f0 ≠ p.f0 := e; omega
    rw [if_neg (show ¬ pk y < pk p from c)]
    unfold pwith
    rw [filter_none (q := fun x => decide (x.f0 < p.f0)) (fun x hx => decide_eq_false (by
     rcases List.mem_cons.1 hx with rfl | hx
     ·omega
     ·have := h1 x hx; simp only [pk] at this; omega)), filter_all (q := fun x => decide (x.f0 > p.f0)) (fun x hx => decide_eq_true (by
     rcases List.mem_cons.1 hx with rfl | hx
     ·omega
     ·have := h1 x hx; simp only [pk] at this; omega))]; rfl
theorem pwith_upd (st : Int) : ∀ {l : List S74} {x : S74} {h : Int}, Srt pk l → look pk h l = some x → pwith l (pset st x) = upd pk h (pset st) l
 | [], x, h, _, hn => by simp [look] at hn
 | y :: ys, x, h, hs, hn => by
  obtain ⟨h1, h2⟩ := srt_cons.1 hs
  have hk := (look_some hn).2
  rw [show look pk h (y :: ys) = if pk y = h then some y else look pk h ys from rfl] at hn
  rw [show upd pk h (pset st) (y :: ys) = if pk y = h then pset st y :: ys else y :: upd pk h (pset st) ys from rfl]
  by_cases e : pk y = h
  ·rw [if_pos e] at hn ⊢
   obtain rfl := Option.some.inj hn
   unfold pwith
   rw [filter_none (q := fun x => decide (x.f0 < (pset st y).f0)) (fun x hx => decide_eq_false (by
    show ¬ x.f0 < y.f0
    rcases List.mem_cons.1 hx with rfl | hx
    ·omega
    ·have := h1 x hx; simp only [pk] at this; omega)), List.filter_cons, if_neg (by rw [decide_eq_false (show ¬ y.f0 > (pset st y).f0 from by show ¬ y.f0 > y.f0; omega)]; decide), filter_all (q := fun x => decide (x.f0 > (pset st y).f0)) (fun x hx => decide_eq_true (by
    show x.f0 > y.f0
    have := h1 x hx; simp only [pk] at this; omega))]; rfl
  ·rw [if_neg e] at hn ⊢
   have ih := pwith_upd st h2 hn
   have hx := (look_some hn).1
   have c : y.f0 < x.f0 := h1 x hx
   rw [← ih]
   unfold pwith
   rw [List.filter_cons, if_pos (decide_eq_true (show y.f0 < (pset st x).f0 from c)), List.filter_cons, if_neg (by rw [decide_eq_false (show ¬ y.f0 > (pset st x).f0 from by show ¬ y.f0 > x.f0; omega)]; decide)]; rfl
theorem rstart_ev (l : List S74) (p : S74) : Ev (fun k => damsonref13_Start.f k l p.f0 p.f1 p.f2 p.f3 p.f4) (pstart l p) := by
 unfold damsonref13_Start.f
 have bad : ¬ (pok l = true ∧ pgood p = true ∧ p.f4 = 1) → Ev (fun k => damsonref13_Start.j0 k l true p.f0 p.f1 p.f2 p.f3 p.f4) (pstart l p) := by
  intro h
  unfold pstart
  rw [if_neg h]
  refine Ev.step (fun k => by rw [damsonref13_Start.j0]) ?_
  exact ev_pos rfl (ev_some rfl)
 refine Ev.bind (rpcheck_ev l) ?_
 by_cases c : pok l = true
 ·obtain ⟨h1, h2, h3⟩ := pok_iff.1 c
  rw [if_pos c]
  refine ev_pos rfl (Ev.bind (rmay_ev p) (ev_if (fun g => ?_) (fun g => bad (fun h => g h.2.1))))
  by_cases s1 : p.f4 = 1
  ·rw [show (p.f4 != 1) = false by rw [s1]; rfl]
   refine Ev.step (fun k => by rw [damsonref13_Start.j0]) (ev_neg (by decide) (Ev.bind (rget_ev l p.f0) ?_))
   have hv : pstart l p = (if (look pk p.f0 l).isSome = true then (([] : List S74), (6 : Int)) else if l.length = 256 then (match pfree l with | none => ([], 7) | some k => (ins pk p (l.eraseIdx k), 0)) else (ins pk p l, 0)) := by unfold pstart; exact if_pos ⟨c, g, s1⟩
   rw [hv]
   cases hk : look pk p.f0 l with
   | some x => rw [pget_some c hk]; exact ev_pos rfl (ev_some rfl)
   | none =>
    rw [pget_none c hk]
    refine ev_neg (by decide) ?_
    by_cases f : l.length = 256
    ·refine ev_pos (by omega) (Ev.bind (forget_ev l h1) ?_)
     unfold pforget
     cases hp : pfree l with
     | none => exact ev_eq (ev_pos (by show (l.length : Int) = 256; omega) (Ev.now ([], 7))) (by rw [if_neg (by decide), if_pos f])
     | some k =>
      obtain ⟨k1, k2⟩ := pfree_some hp
      have hle : (l.eraseIdx k).length = 255 := by rw [List.length_eraseIdx, if_pos k1]; omega
      have hno : look pk p.f0 (l.eraseIdx k) = none := by
       rw [plook_erase h2 k1]
       split
       ·rfl
       ·exact hk
      refine ev_eq (ev_neg (by show ¬ ((l.eraseIdx k).length : Int) = 256; omega) (Ev.bind (with_ev (l.eraseIdx k) (by omega) p) (Ev.now _))) ?_
      rw [if_neg (by decide), if_pos f, pwith_ins p (pok_iff.1 (pok_erase c k1)).2.1 hno]
    ·refine ev_eq (ev_neg (by omega) (Ev.bind (with_ev l h1 p) (Ev.now _))) ?_
     rw [if_neg (by decide), if_neg f, pwith_ins p h2 hk]
  ·rw [show (p.f4 != 1) = true by simpa using s1]
   exact bad (fun h => s1 h.2.2)
 ·rw [if_neg c]
  exact ev_neg (by decide) (bad (fun h => c h.1))
theorem rend_ev (l : List S74) (h : Int) (b : Bool) : Ev (fun k => damsonref13_End.f k l h b) (pend l h b) := by
 unfold damsonref13_End.f
 refine Ev.bind (rget_ev l h) ?_
 by_cases c : pok l = true
 ·obtain ⟨h1, h2, h3⟩ := pok_iff.1 c
  cases hk : look pk h l with
  | none => rw [pget_none c hk, pend_none c hk]; exact ev_neg (by decide) (ev_some rfl)
  | some x =>
   rw [pget_some c hk, pend_eq c hk]
   refine ev_pos rfl ?_
   by_cases s : x.f4 = 1
   ·rw [if_pos s]
    refine ev_pos s ?_
    cases b with
    | true => exact ev_pos rfl (ev_eq (Ev.bind (with_ev l h1 (pset 2 x)) (Ev.now _)) (by rw [pwith_upd 2 h2 hk]; rfl))
    | false => exact ev_neg (by decide) (ev_eq (Ev.bind (with_ev l h1 (pset 3 x)) (Ev.now _)) (by rw [pwith_upd 3 h2 hk]; rfl))
   ·rw [if_neg s]; exact ev_neg s (ev_some rfl)
 ·rw [pget_no c, show pend l h b = ([], 1) by unfold pend; rw [if_neg c]]
  exact ev_neg (by decide) (ev_some rfl)
/-- The amounts that are pending by a channel. -/
def pons (h : Int) (l : List S74) : List Int := (l.filter (fun x => decide (x.f4 = 1 ∧ x.f2 = h))).map (·.f3)
theorem maddFrom_pons (h : Int) : ∀ {l : List S74} {s : Int}, (∀ x ∈ l, pgood x = true) → 0 ≤ s → s ≤ 4611686018427387904 → maddFrom s (pons h l) = if s + phs h l ≤ 4611686018427387904 then (s + phs h l, 0) else (0, 8)
 | [], s, _, h0, h1 => by
  show (s, (0 : Int)) = _
  unfold phs
  rw [Int.add_zero, if_pos h1]
 | y :: ys, s, hg, h0, h1 => by
  have gy := pgood_iff.1 (hg y List.mem_cons_self)
  have hys : ∀ z ∈ ys, pgood z = true := fun z hz => hg z (List.mem_cons_of_mem _ hz)
  have hn := phs_nonneg (h := h) hys
  have e : phs h (y :: ys) = pon h y + phs h ys := rfl
  unfold pons
  by_cases c : y.f4 = 1 ∧ y.f2 = h
  ·have hp : pon h y = y.f3 := by unfold pon; rw [if_pos c]
   rw [List.filter_cons, if_pos (decide_eq_true c)]
   show (if s + y.f3 > 4611686018427387904 then (0, 8) else maddFrom (s + y.f3) (pons h ys)) = _
   rw [e, hp]
   by_cases q : s + y.f3 > 4611686018427387904
   ·rw [if_pos q, if_neg (by omega)]
   ·rw [if_neg q, maddFrom_pons h hys (by omega) (by omega), show s + y.f3 + phs h ys = s + (y.f3 + phs h ys) by omega]
  ·have hp : pon h y = 0 := by unfold pon; rw [if_neg c]
   rw [List.filter_cons, if_neg (by rw [decide_eq_false c]; decide)]
   show maddFrom s (pons h ys) = _
   rw [e, hp, Int.zero_add]
   exact maddFrom_pons h hys h0 h1
theorem pons_mem {h : Int} {l : List S74} (hg : ∀ x ∈ l, pgood x = true) : ∀ n ∈ pons h l, 0 ≤ n ∧ n ≤ 4611686018427387904 := by
 intro n hn
 obtain ⟨x, hx, rfl⟩ := List.mem_map.1 hn
 have := pgood_iff.1 (hg x (List.mem_filter.1 hx).1)
 omega
theorem rheld_loop (h : Int) (l : List S74) (hl : l.length ≤ 256) (hg : ∀ x ∈ l, pgood x = true) : ∀ (ys : List S74) (i : Nat) (acc : List Int), l.drop i = ys → acc.length ≤ i → acc ++ pons h ys = pons h l →
  Ev (fun k => damsonref13_Held.l0 k h acc l (l.length : Int) (i : Int)) (if phs h l ≤ 4611686018427387904 then (phs h l, 0) else (0, 1))
 | [], i, acc, hd, ha, he => by
  have hi := drop_nil hd
  have hm := pons_mem (h := h) hg
  have e : acc = pons h l := by rw [← he]; show acc = acc ++ []; simp
  have hlen : (pons h l).length ≤ 256 := by
   unfold pons
   rw [List.length_map]
   exact Nat.le_trans (List.length_filter_le _ _) hl
  rw [e]
  refine Ev.step (fun k => by rw [damsonref13_Held.l0]) (ev_neg (by omega) (Ev.bind (radd_ev (pons h l) (by omega) (fun x hx => (hm x hx).1)) ?_))
  have hv : madd (pons h l) = if phs h l ≤ 4611686018427387904 then (phs h l, 0) else (0, 8) := by
   unfold madd
   rw [if_pos (mchk_zero.2 (fun x hx => (hm x hx).2)), maddFrom_pons h hg (by omega) (by omega), Int.zero_add]
  rw [hv]
  by_cases q : phs h l ≤ 4611686018427387904
  ·rw [if_pos q, if_pos q]; exact ev_pos rfl (ev_some rfl)
  ·rw [if_neg q, if_neg q]; exact ev_neg (by decide) (ev_some rfl)
 | y :: ys, i, acc, hd, ha, he => by
  have hi := drop_lt hd
  refine Ev.step (fun k => by rw [damsonref13_Held.l0]) ?_
  rw [drop_rd74 hd, next_i hi (by omega)]
  refine ev_pos (by omega) (ev_pos (by omega) (ev_pos (by omega) ?_))
  by_cases c1 : y.f4 = 1
  ·by_cases c2 : y.f2 = h
   ·have e : pons h (y :: ys) = y.f3 :: pons h ys := by unfold pons; rw [List.filter_cons, if_pos (decide_eq_true ⟨c1, c2⟩)]; rfl
    exact ev_pos c1 (ev_pos c2 (ev_pos (by omega) (rheld_loop h l hl hg ys (i + 1) (acc ++ [y.f3]) (drop_next hd) (by simp; omega) (by rw [← he, e]; simp))))
   ·have e : pons h (y :: ys) = pons h ys := by unfold pons; rw [List.filter_cons, if_neg (by rw [decide_eq_false (fun z => c2 z.2)]; decide)]
    exact ev_pos c1 (ev_neg c2 (rheld_loop h l hl hg ys (i + 1) acc (drop_next hd) (by omega) (by rw [← he, e])))
  ·have e : pons h (y :: ys) = pons h ys := by unfold pons; rw [List.filter_cons, if_neg (by rw [decide_eq_false (fun z => c1 z.1)]; decide)]
   exact ev_neg c1 (rheld_loop h l hl hg ys (i + 1) acc (drop_next hd) (by omega) (by rw [← he, e]))
theorem rpheld_ev (l : List S74) (h : Int) : Ev (fun k => damsonref13_Held.f k l h) (pheld l h) := by
 unfold damsonref13_Held.f
 refine Ev.bind (rpcheck_ev l) ?_
 by_cases c : pok l = true
 ·obtain ⟨h1, h2, h3⟩ := pok_iff.1 c
  rw [if_pos c]
  refine ev_pos rfl (ev_eq (rheld_loop h l h1 h3 l 0 [] rfl (by simp) rfl) ?_)
  unfold pheld
  by_cases q : phs h l ≤ 4611686018427387904
  ·rw [if_pos q, if_pos ⟨c, q⟩]
  ·rw [if_neg q, if_neg (fun z => q z.2)]
 ·rw [if_neg c]
  refine ev_neg (by decide) (ev_some ?_)
  unfold pheld
  rw [if_neg (fun z => c z.1)]
/-- Whether payments are the same. -/
def psm : List S74 → List S74 → Bool
 | [], [] => true
 | x :: xs, y :: ys => (x.f0 == y.f0 && (x.f1 == y.f1 && (x.f2 == y.f2 && (x.f3 == y.f3 && x.f4 == y.f4)))) && psm xs ys
 | _, _ => false
theorem psm_len : ∀ {l m : List S74}, l.length ≠ m.length → psm l m = false
 | [], [], h => absurd rfl h
 | [], _ :: _, _ => rfl
 | _ :: _, [], _ => rfl
 | x :: xs, y :: ys, h => by
  show ((x.f0 == y.f0 && (x.f1 == y.f1 && (x.f2 == y.f2 && (x.f3 == y.f3 && x.f4 == y.f4)))) && psm xs ys) = false
  rw [psm_len (l := xs) (m := ys) (by simpa using h), Bool.and_false]
theorem psm_self : ∀ l : List S74, psm l l = true
 | [] => rfl
 | x :: xs => by
  show ((x.f0 == x.f0 && (x.f1 == x.f1 && (x.f2 == x.f2 && (x.f3 == x.f3 && x.f4 == x.f4)))) && psm xs xs) = true
  rw [psm_self xs]; simp
theorem pdrop_two {l m xs : List S74} {i : Nat} {x : S74} (h : l.drop i = x :: xs) (e : l.length = m.length) : ∃ y ys, m.drop i = y :: ys := by
 have := drop_lt h
 exact ⟨m[i]'(by omega), m.drop (i + 1), List.drop_eq_getElem_cons (by omega)⟩
theorem not_and5 (a b c d e : Bool) : (!a || (!b || (!c || (!d || !e)))) = !(a && (b && (c && (d && e)))) := by
 cases a <;> cases b <;> cases c <;> cases d <;> cases e <;> rfl
theorem psm_loop (l m : List S74) (e : l.length = m.length) (hl : l.length ≤ 140737488351232) : ∀ (xs : List S74) (i : Nat), l.drop i = xs → Ev (fun k => slices_Equal_Payment.l0 k l m (l.length : Int) (i : Int)) (psm xs (m.drop i))
 | [], i, h => by
  have hi := drop_nil h
  rw [List.drop_eq_nil_of_le (show m.length ≤ i by omega)]
  refine Ev.step (fun k => by rw [slices_Equal_Payment.l0]) ?_
  exact ev_neg (by omega) (ev_some rfl)
 | x :: xs, i, h => by
  have hi := drop_lt h
  obtain ⟨y, ys, hy⟩ := pdrop_two h e
  have ih := psm_loop l m e hl xs (i + 1) (drop_next h)
  rw [drop_next hy] at ih
  rw [hy]
  refine Ev.step (fun k => by rw [slices_Equal_Payment.l0]) ?_
  rw [drop_rd74 h, drop_rd74 hy, next_i hi hl, not_and5]
  refine ev_pos (by omega) (ev_pos (by omega) (ev_pos (by omega) (ev_pos (by omega) ?_)))
  show Ev _ ((x.f0 == y.f0 && (x.f1 == y.f1 && (x.f2 == y.f2 && (x.f3 == y.f3 && x.f4 == y.f4)))) && psm xs ys)
  cases (x.f0 == y.f0 && (x.f1 == y.f1 && (x.f2 == y.f2 && (x.f3 == y.f3 && x.f4 == y.f4)))) with
  | true => exact ev_neg (by decide) ih
  | false => exact ev_pos rfl (ev_some rfl)
theorem psm_ev (l m : List S74) (hl : l.length ≤ 140737488351232) : Ev (fun k => payment_Same.f k l m) (psm l m) := by
 unfold payment_Same.f slices_Equal_Payment.f
 refine Ev.bind (a := psm l m) ?_ (Ev.now _)
 by_cases e : l.length = m.length
 ·exact ev_pos (by omega) (psm_loop l m e hl l 0 rfl)
 ·rw [psm_len e]; exact ev_neg (by omega) (ev_some rfl)
theorem rpsm_loop (l m : List S74) (e : l.length = m.length) (hl : l.length ≤ 140737488351232) : ∀ (xs : List S74) (i : Nat), l.drop i = xs → Ev (fun k => damsonref13_Same.l0 k l m (l.length : Int) (i : Int)) (psm xs (m.drop i))
 | [], i, h => by
  have hi := drop_nil h
  rw [List.drop_eq_nil_of_le (show m.length ≤ i by omega)]
  refine Ev.step (fun k => by rw [damsonref13_Same.l0]) ?_
  exact ev_neg (by omega) (ev_some rfl)
 | x :: xs, i, h => by
  have hi := drop_lt h
  obtain ⟨y, ys, hy⟩ := pdrop_two h e
  have ih := rpsm_loop l m e hl xs (i + 1) (drop_next h)
  rw [drop_next hy] at ih
  rw [hy]
  refine Ev.step (fun k => by rw [damsonref13_Same.l0]) ?_
  rw [drop_rd74 h, drop_rd74 hy, next_i hi hl, not_and5]
  refine ev_pos (by omega) (ev_pos (by omega) (ev_pos (by omega) (ev_pos (by omega) ?_)))
  show Ev _ ((x.f0 == y.f0 && (x.f1 == y.f1 && (x.f2 == y.f2 && (x.f3 == y.f3 && x.f4 == y.f4)))) && psm xs ys)
  cases (x.f0 == y.f0 && (x.f1 == y.f1 && (x.f2 == y.f2 && (x.f3 == y.f3 && x.f4 == y.f4)))) with
  | true => exact ev_neg (by decide) ih
  | false => exact ev_pos rfl (ev_some rfl)
theorem rpsm_ev (l m : List S74) (hl : l.length ≤ 140737488351232) : Ev (fun k => damsonref13_Same.f k l m) (psm l m) := by
 unfold damsonref13_Same.f
 by_cases e : l.length = m.length
 ·exact ev_pos (by omega) (rpsm_loop l m e hl l 0 rfl)
 ·rw [psm_len e]; exact ev_neg (by omega) (ev_some rfl)
end Go.Proofs.Ytcfbcoinbecdfaa.B
