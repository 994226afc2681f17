/- Plain laws of the package payment: what is pending by a channel. -/
import Derived.Test.YtcfbcoinbecdfaaPdoesPY
import Derived.Test.YtcfbcoinbecdfaaPdoesA
import Derived.Test.YtcfbcoinbecdfaaQPdoesx6
set_option linter.unusedVariables false
namespace Go.Proofs.Ytcfbcoinbecdfaa.B
open Go.RowKit Go.Proofs.Ytcfbcoinbecdfaa.P Go.Proofs.YtcfbcoinbecdfaaW.PrintWords
/-- What one payment keeps pending by a channel. -/
def pon (h : Int) (x : S74) : Int := if x.f4 = 1 ∧ x.f2 = h then x.f3 else 0
def phs (h : Int) : List S74 → Int
 | [] => 0
 | y :: ys => pon h y + phs h ys
theorem pon_nonneg {h : Int} {x : S74} (g : pgood x = true) : 0 ≤ pon h x := by
 have := pgood_iff.1 g
 unfold pon; split <;> omega
theorem phs_nonneg {h : Int} : ∀ {l : List S74}, (∀ x ∈ l, pgood x = true) → 0 ≤ phs h l
 | [], _ => Int.le_refl 0
 | y :: ys, hl => by
  have h1 := pon_nonneg (h := h) (hl y List.mem_cons_self)
  have h2 := phs_nonneg (h := h) (l := ys) (fun z hz => hl z (List.mem_cons_of_mem _ hz))
  unfold phs; omega
theorem phs_ins (h : Int) (x : S74) : ∀ l : List S74, phs h (ins pk x l) = pon h x + phs h l
 | [] => rfl
 | y :: ys => by
  have ih := phs_ins h x ys
  unfold ins
  split
  ·show pon h y + phs h (ins pk x ys) = pon h x + (pon h y + phs h ys); omega
  ·rfl
theorem phs_erase (h : Int) : ∀ {l : List S74} {k : Nat}, k < l.length → phs h (l.eraseIdx k) = phs h l - pon h (l.getD k z74)
 | [], k, hk => by simp at hk
 | y :: ys, 0, hk => by
  rw [List.eraseIdx_cons_zero]
  show phs h ys = pon h y + phs h ys - pon h y
  omega
 | y :: ys, k + 1, hk => by
  have ih := phs_erase h (l := ys) (k := k) (by simpa using hk)
  rw [List.eraseIdx_cons_succ]
  show pon h y + phs h (ys.eraseIdx k) = pon h y + phs h ys - pon h ((y :: ys).getD (k + 1) z74)
  rw [ih, show (y :: ys).getD (k + 1) z74 = ys.getD k z74 by simp]
  omega
theorem phs_upd (h : Int) {id st : Int} (hst : st ≠ 1) : ∀ {l : List S74} {x : S74}, look pk id l = some x → phs h (upd pk id (pset st) l) = phs h l - pon h x
 | [], x, hx => by simp [look] at hx
 | y :: ys, x, hx => by
  unfold look at hx
  unfold upd
  by_cases c : pk y = id
  ·rw [if_pos c] at hx ⊢
   obtain rfl := Option.some.inj hx
   have e : pon h (pset st y) = 0 := by unfold pon; rw [if_neg (fun q => hst q.1)]
   show pon h (pset st y) + phs h ys = pon h y + phs h ys - pon h y
   omega
  ·rw [if_neg c] at hx ⊢
   have ih := phs_upd h hst hx
   show pon h y + phs h (upd pk id (pset st) ys) = pon h y + phs h ys - pon h x
   omega
/-- How much is pending by a channel, or why not. -/
def pheld (l : List S74) (h : Int) : Int × Int := if pok l = true ∧ phs h l ≤ 4611686018427387904 then (phs h l, 0) else (0, 1)
theorem pheld_j1 (h s : Int) (l : List S74) (i : Nat) (y : S74) (ys : List S74) (w : Bool) (hi : i < l.length) (hl : l.length ≤ 256) (gy : pgood y = true) (gs : ∀ x ∈ ys, pgood x = true) (s0 : 0 ≤ s) (s1 : s ≤ 4611686018427387904) (hw : w = false ↔ y.f4 = 1 ∧ y.f2 = h)
  (ih : ∀ t, 0 ≤ t → t ≤ 4611686018427387904 → Ev (fun k => payment_Held.l0 k h t l (l.length : Int) ((i + 1 : Nat) : Int)) (if t + phs h ys ≤ 4611686018427387904 then (t + phs h ys, 0) else (0, 1))) :
  Ev (fun k => payment_Held.j1 k h s l (l.length : Int) (i : Int) w y.f0 y.f1 y.f2 y.f3 y.f4) (if s + phs h (y :: ys) ≤ 4611686018427387904 then (s + phs h (y :: ys), 0) else (0, 1)) := by
 have hy := pgood_iff.1 gy
 have hn := phs_nonneg (h := h) gs
 have e : phs h (y :: ys) = pon h y + phs h ys := rfl
 refine Ev.step (fun k => by rw [payment_Held.j1]) ?_
 rw [next_i hi (by omega)]
 by_cases w1 : w = true
 ·refine ev_pos w1 (ev_eq (ih s s0 s1) ?_)
  have : pon h y = 0 := by unfold pon; rw [if_neg (fun q => by rw [hw.2 q] at w1; simp at w1)]
  rw [e, this, Int.zero_add]
 ·refine ev_neg w1 (Ev.bind (add2_ev s y.f3 s0 (by omega)) ?_)
  have : pon h y = y.f3 := by unfold pon; rw [if_pos (hw.1 (by simpa using w1))]
  rw [e, this]
  unfold madd2
  rw [show (if s ≤ 4611686018427387904 ∧ y.f3 ≤ 4611686018427387904 then (if s + y.f3 > 4611686018427387904 then ((0 : Int), (8 : Int)) else (s + y.f3, 0)) else (0, 1)) = (if s + y.f3 > 4611686018427387904 then ((0 : Int), (8 : Int)) else (s + y.f3, 0)) from if_pos ⟨s1, by omega⟩]
  by_cases q : s + y.f3 > 4611686018427387904
  ·rw [if_pos q, show (if s + (y.f3 + phs h ys) ≤ 4611686018427387904 then (s + (y.f3 + phs h ys), (0 : Int)) else (0, 1)) = (0, 1) from if_neg (by omega)]
   exact ev_neg (by decide) (ev_some rfl)
  ·rw [if_neg q]
   refine ev_pos rfl (ev_eq (ih (s + y.f3) (by omega) (by omega)) ?_)
   rw [show s + y.f3 + phs h ys = s + (y.f3 + phs h ys) by omega]
theorem pheld_loop (h : Int) (l : List S74) (hl : l.length ≤ 256) (hg : ∀ x ∈ l, pgood x = true) : ∀ (ys : List S74) (i : Nat) (s : Int), l.drop i = ys → 0 ≤ s → s ≤ 4611686018427387904 →
  Ev (fun k => payment_Held.l0 k h s l (l.length : Int) (i : Int)) (if s + phs h ys ≤ 4611686018427387904 then (s + phs h ys, 0) else (0, 1))
 | [], i, s, hd, s0, s1 => by
  have hi := drop_nil hd
  refine Ev.step (fun k => by rw [payment_Held.l0]) (ev_neg (by omega) (ev_some ?_))
  unfold phs
  rw [if_pos (by omega), Int.add_zero]
 | y :: ys, i, s, hd, s0, s1 => by
  have hi := drop_lt hd
  have gy := hg y (drop_mem hd)
  have gs : ∀ x ∈ ys, pgood x = true := fun x hx => hg x (by
   have : x ∈ l.drop i := by rw [hd]; exact List.mem_cons_of_mem _ hx
   exact List.mem_of_mem_drop this)
  have ih := fun t a b => pheld_loop h l hl hg ys (i + 1) t (drop_next hd) a b
  refine Ev.step (fun k => by rw [payment_Held.l0]) (ev_pos (by omega) (ev_pos (by omega) (ev_pos (by omega) ?_)))
  rw [drop_rd74 hd]
  by_cases c : y.f4 = 1
  ·exact ev_pos c (pheld_j1 h s l i y ys _ hi hl gy gs s0 s1 ⟨fun q => ⟨c, by simpa using q⟩, fun q => by simpa using q.2⟩ ih)
  ·exact ev_neg c (pheld_j1 h s l i y ys true hi hl gy gs s0 s1 ⟨fun q => by simp at q, fun q => absurd q.1 c⟩ ih)
theorem pheld_ev (l : List S74) (h : Int) : Ev (fun k => payment_Held.f k l h) (pheld l h) := by
 unfold payment_Held.f
 refine Ev.bind (pcheck_ev l) ?_
 by_cases c : pok l = true
 ·obtain ⟨h1, h2, h3⟩ := pok_iff.1 c
  rw [if_pos c]
  refine ev_pos rfl (ev_eq (pheld_loop h l h1 h3 l 0 0 rfl (by omega) (by omega)) ?_)
  unfold pheld
  rw [Int.zero_add]
  by_cases q : phs h l ≤ 4611686018427387904
  ·rw [if_pos q, if_pos ⟨c, q⟩]
  ·rw [if_neg q, if_neg (fun z => q z.2)]
 ·rw [if_neg c]
  refine ev_neg (by decide) (ev_some ?_)
  unfold pheld
  rw [if_neg (fun z => c z.1)]
end Go.Proofs.Ytcfbcoinbecdfaa.B
