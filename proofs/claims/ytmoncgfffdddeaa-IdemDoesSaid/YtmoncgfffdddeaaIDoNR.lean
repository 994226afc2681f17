/- Plain laws of the document's answer for kept keys. -/
import Derived.Test.YtmoncgfffdddeaaIDoN
import Derived.Test.YtmoncgfffdddeaaQIDoesx4
import Derived.Test.YtmoncgfffdddeaaQIDoesx5
import Derived.Test.YtmoncgfffdddeaaQIDoesx6
import Derived.Test.YtmoncgfffdddeaaQIDoesx7
set_option linter.unusedVariables false
namespace Go.Proofs.Ytmoncgfffdddeaa.B
open Go.RowKit Go.Proofs.Ytmoncgfffdddeaa.P Go.Proofs.YtmoncgfffdddeaaW.PrintWords
theorem ex_if2 {c : Prop} [Decidable c] {f g : Nat → Option Bool} {P : Bool → Prop} (h1 : c → ∃ b, Ev f b ∧ P b) (h2 : ¬ c → ∃ b, Ev g b ∧ P b) : ∃ b, Ev (fun n => if c then f n else g n) b ∧ P b := by
  by_cases h : c
  · obtain ⟨b, e, p⟩ := h1 h; exact ⟨b, ev_pos h e, p⟩
  · obtain ⟨b, e, p⟩ := h2 h; exact ⟨b, ev_neg h e, p⟩
/-- Texts that are short. -/
def shr (l : List S26) : Prop := ∀ x ∈ l, x.f1.length ≤ 4100 ∧ x.f2.length ≤ 4100
theorem few2_loop (l : List S26) (hl : l.length ≤ 9223372036854775807) : ∀ (ys : List S26) (i : Nat), l.drop i = ys → ∃ b, Ev (fun k => damsonref14_Few.l0 k l l (l.length : Int) (i : Int)) b ∧ (b = true → l.length ≤ 130 ∧ shr ys)
  | [], i, h => by
    have hi := drop_nil h
    have hn : shr [] := fun x hx => by cases hx
    have : ∃ b, Ev (fun _ => (if (l.length : Int) ≤ 20 then (some true) else (if (l.length : Int) ≥ 128 then (some (decide ((l.length : Int) ≤ 130))) else (some false)))) b ∧ (b = true → l.length ≤ 130 ∧ shr []) := by
      by_cases c : (l.length : Int) ≤ 20
      · exact ⟨true, ev_pos c (Ev.now _), fun _ => ⟨by omega, hn⟩⟩
      · by_cases c2 : (l.length : Int) ≥ 128
        · exact ⟨_, ev_neg c (ev_pos c2 (Ev.now _)), fun h => ⟨by have := of_decide_eq_true h; omega, hn⟩⟩
        · exact ⟨false, ev_neg c (ev_neg c2 (Ev.now _)), fun h => by cases h⟩
    obtain ⟨b, e, p⟩ := this
    exact ⟨b, Ev.step (fun k => by rw [damsonref14_Few.l0, if_neg (by omega)]) e, p⟩
  | y :: ys, i, h => by
    have hi := drop_lt h
    have ih := few2_loop l hl ys (i + 1) (drop_next h)
    have hw : wrap64 ((i : Int) + 1) = ((i + 1 : Nat) : Int) := by rw [w64 (by omega) (by omega)]; omega
    have fa : ∃ b, Ev (fun _ => some false) b ∧ (b = true → l.length ≤ 130 ∧ shr (y :: ys)) := ex_false (fun h => by cases h)
    have ih2 : ¬ (y.f1.length : Int) > 4100 → ¬ (y.f2.length : Int) > 4100 → ∃ b, Ev (fun k => damsonref14_Few.l0 k l l (l.length : Int) ((i + 1 : Nat) : Int)) b ∧ (b = true → l.length ≤ 130 ∧ shr (y :: ys)) := fun q1 q2 => by
      obtain ⟨b, e, p⟩ := ih
      refine ⟨b, e, fun h => ⟨(p h).1, fun x hx => ?_⟩⟩
      rcases List.mem_cons.1 hx with rfl | hx
      · constructor <;> omega
      · exact (p h).2 x hx
    have := ex_if2 (c := (y.f1.length : Int) > 60) (fun _ => ex_if2 (c := (y.f1.length : Int) < 4096) (fun _ => fa) (fun _ => ex_if2 (c := (y.f1.length : Int) > 4100) (fun _ => fa) (fun q1 => ex_if2 (c := (y.f2.length : Int) > 60) (fun _ => ex_if2 (c := (y.f2.length : Int) < 4096) (fun _ => fa) (fun _ => ex_if2 (c := (y.f2.length : Int) > 4100) (fun _ => fa) (fun q2 => ih2 q1 q2))) (fun _ => ex_if2 (c := (y.f2.length : Int) > 4100) (fun _ => fa) (fun q2 => ih2 q1 q2)))))
      (fun _ => ex_if2 (c := (y.f1.length : Int) > 4100) (fun _ => fa) (fun q1 => ex_if2 (c := (y.f2.length : Int) > 60) (fun _ => ex_if2 (c := (y.f2.length : Int) < 4096) (fun _ => fa) (fun _ => ex_if2 (c := (y.f2.length : Int) > 4100) (fun _ => fa) (fun q2 => ih2 q1 q2))) (fun _ => ex_if2 (c := (y.f2.length : Int) > 4100) (fun _ => fa) (fun q2 => ih2 q1 q2))))
    obtain ⟨b, e, p⟩ := this
    exact ⟨b, Ev.step (fun k => by rw [damsonref14_Few.l0, if_pos (by omega), if_pos (by omega), if_pos (by omega), drop_rd26 h, hw]) e, p⟩
theorem few2_ev (l : List S26) (hl : l.length ≤ 9223372036854775807) : ∃ b, Ev (fun k => damsonref14_Few.f k l) b ∧ (b = true → l.length ≤ 130 ∧ shr l) := few2_loop l hl l 0 rfl
theorem shr_of_nok {l : List S26} (h : nok l = true) : shr l := fun x hx => by
  have := ngood_iff.1 ((nok_iff.1 h).2.2 x hx)
  omega
theorem copy_loop (l : List S26) (hl : l.length ≤ 1000) (hs : shr l) : ∀ (ys : List S26) (i : Nat) (acc : List S26), l.drop i = ys → acc.length ≤ i → Ev (fun k => damsonref14_Copy.l0 k acc l (l.length : Int) (i : Int)) (acc ++ ys)
  | [], i, acc, hd, _ => by
    have hi := drop_nil hd
    refine Ev.step (fun k => by rw [damsonref14_Copy.l0]) ?_
    exact ev_neg (by omega) (ev_some (by simp))
  | y :: ys, i, acc, hd, ha => by
    have hi := drop_lt hd
    have gy := hs y (drop_mem hd)
    have ih := copy_loop l hl hs ys (i + 1) (acc ++ [y]) (drop_next hd) (by simp; omega)
    refine Ev.step (fun k => by rw [damsonref14_Copy.l0]) ?_
    rw [drop_rd26 hd, next_i hi (by omega)]
    refine ev_pos (by omega) (ev_pos (by omega) (ev_pos (by omega) (ev_pos (by simp only [List.length_nil]; omega) (ev_pos (by simp only [List.length_nil]; omega) (ev_pos (by omega) (ev_eq ih (by simp)))))))
theorem copy_ev (l : List S26) (hl : l.length ≤ 1000) (hs : shr l) : Ev (fun k => damsonref14_Copy.f k l) l := by
  unfold damsonref14_Copy.f
  exact ev_eq (copy_loop l hl hs l 0 [] rfl (by simp)) (by simp)
theorem ngood_len (y : S26) : ngood y = (decide (y.f1.length ≤ 4096) && decide (y.f2.length ≤ 4096)) := by
  rw [Bool.eq_iff_iff, ngood_iff, Bool.and_eq_true, decide_eq_true_eq, decide_eq_true_eq]
theorem ntail_ev (y : S26) {g : Nat → Option Int} {b : Bool} (ih : Ev g (if b then 0 else 1)) :
    Ev (fun k => if (y.f1.length : Int) > 4096 then some 1 else if (y.f2.length : Int) > 4096 then some 1 else g k) (if (ngood y && b) = true then 0 else 1) := by
  rw [ngood_len]
  by_cases e1 : (y.f1.length : Int) > 4096
  · rw [decide_eq_false (show ¬ y.f1.length ≤ 4096 by omega)]; exact ev_pos e1 (ev_some rfl)
  · refine ev_neg e1 ?_
    rw [decide_eq_true (show y.f1.length ≤ 4096 by omega), Bool.true_and]
    by_cases e2 : (y.f2.length : Int) > 4096
    · rw [decide_eq_false (show ¬ y.f2.length ≤ 4096 by omega)]; exact ev_pos e2 (ev_some rfl)
    · rw [decide_eq_true (show y.f2.length ≤ 4096 by omega), Bool.true_and]; exact ev_neg e2 ih
theorem rncheck_loop (l : List S26) (hl : l.length ≤ 128) : ∀ (ys : List S26) (i : Nat) (p : Option Int), l.drop i = ys → (i = 0 → p = none) → (0 < i → p = some (l.getD (i - 1) z26).f0) →
    Ev (fun k => damsonref14_Check.l0 k l l (l.length : Int) (i : Int)) (if chk nk ngood p ys then 0 else 1)
  | [], i, p, h, h0, h1 => by
    have hi := drop_nil h
    refine Ev.step (f := fun _ => some 0) (fun k => by rw [damsonref14_Check.l0, if_neg (by omega)]) (ev_some ?_)
    simp [chk]
  | y :: ys, i, p, h, h0, h1 => by
    have hi := drop_lt h
    have hy := drop_get z26 h
    have ih := rncheck_loop l hl ys (i + 1) (some y.f0) (drop_next h) (fun e => by omega) (fun _ => by rw [Nat.add_sub_cancel, hy])
    have tail := ntail_ev y ih
    refine Ev.step (fun k => by rw [damsonref14_Check.l0]) (ev_pos (by omega) (ev_pos (by omega) (ev_pos (by omega) ?_)))
    rw [drop_rd26 h, next_i hi (by omega)]
    by_cases hi0 : i = 0
    · have hp := h0 hi0
      subst hp
      rw [show chk nk ngood none (y :: ys) = (true && (ngood y && chk nk ngood (some y.f0) ys)) from rfl, Bool.true_and]
      exact ev_neg (by omega) tail
    · have hp := h1 (by omega)
      subst hp
      have hw : wrap64 ((i : Int) - 1) = ((i - 1 : Nat) : Int) := by rw [w64 (by omega) (by omega)]; omega
      rw [hw, rd26]
      rw [show chk nk ngood (some (l.getD (i - 1) z26).f0) (y :: ys) = (decide ((l.getD (i - 1) z26).f0 < y.f0) && (ngood y && chk nk ngood (some y.f0) ys)) from rfl]
      refine ev_pos (by omega) (ev_pos (by omega) (ev_pos (by omega) ?_))
      by_cases c : (l.getD (i - 1) z26).f0 < y.f0
      · rw [decide_eq_true c, Bool.true_and]
        exact ev_neg (by omega) tail
      · rw [decide_eq_false c, Bool.false_and]
        exact ev_pos (by omega) (ev_some rfl)
theorem rncheck_ev (l : List S26) : Ev (fun k => damsonref14_Check.f k l) (if nok l then 0 else 1) := by
  unfold damsonref14_Check.f nok
  by_cases h : (l.length : Int) > 128
  · refine ev_pos h (ev_some ?_)
    rw [decide_eq_false (by omega)]; rfl
  · refine ev_neg h ?_
    rw [decide_eq_true (by omega : l.length ≤ 128), Bool.true_and]
    exact rncheck_loop l (by omega) l 0 none rfl (fun _ => rfl) (fun h => by omega)
theorem rnsweep_loop (l : List S26) (hl : l.length ≤ 128) (t : Int) : ∀ (ys : List S26) (i : Nat) (acc : List S26), l.drop i = ys → acc.length ≤ i → Ev (fun k => damsonref14_Sweep.l0 k t acc l (l.length : Int) (i : Int)) (acc ++ keep t ys, 0)
  | [], i, acc, hd, _ => by
    have hi := drop_nil hd
    refine Ev.step (fun k => by rw [damsonref14_Sweep.l0]) ?_
    exact ev_neg (by omega) (ev_some (by simp [keep]))
  | y :: ys, i, acc, hd, ha => by
    have hi := drop_lt hd
    refine Ev.step (fun k => by rw [damsonref14_Sweep.l0]) ?_
    rw [drop_rd26 hd, next_i hi (by omega)]
    refine ev_pos (by omega) (ev_pos (by omega) (ev_pos (by omega) ?_))
    by_cases c : t ≤ y.f3
    · have ih := rnsweep_loop l hl t ys (i + 1) (acc ++ [y]) (drop_next hd) (by simp; omega)
      refine ev_pos c (ev_pos (by omega) (ev_eq ih ?_))
      simp [keep, c]
    · have ih := rnsweep_loop l hl t ys (i + 1) acc (drop_next hd) (by omega)
      refine ev_neg c (ev_eq ih ?_)
      simp [keep, c]
theorem rnsweep_ev (l : List S26) (t : Int) : Ev (fun k => damsonref14_Sweep.f k l t) (nsweep l t) := by
  unfold damsonref14_Sweep.f nsweep
  refine Ev.bind (rncheck_ev l) ?_
  by_cases c : nok l = true
  · obtain ⟨h1, h2, h3⟩ := nok_iff.1 c
    rw [if_pos c, if_pos c]
    exact ev_pos rfl (Ev.bind (copy_ev l (by omega) (shr_of_nok c)) (ev_eq (rnsweep_loop l h1 t l 0 [] rfl (by simp)) (by simp)))
  · rw [if_neg c, if_neg c]
    exact ev_neg (by decide) (ev_some rfl)
theorem rfirst_eq (h : Int) (p : List Int) : ∀ m : List S26, rfirst h p m = match look nk h m with | none => ([], 5) | some x => if sb x.f1 p then (x.f2, 0) else ([], 12)
  | [] => rfl
  | y :: ys => by
    rw [rfirst, show look nk h (y :: ys) = if nk y = h then some y else look nk h ys from rfl]
    by_cases c : y.f0 = h
    · rw [if_pos c, if_pos (show nk y = h from c)]; rfl
    · rw [if_neg c, if_neg (show ¬ nk y = h from c)]; exact rfirst_eq h p ys
theorem rnlook_ev (l : List S26) (h : Int) (p : List Int) (t : Int) : Ev (fun k => damsonref14_Look.f k l h p t) (nlook l h p t) := by
  unfold damsonref14_Look.f nlook
  refine Ev.bind (rnsweep_ev l t) ?_
  unfold nsweep
  by_cases c : nok l = true
  · rw [if_pos c, if_pos c]
    exact ev_pos rfl (ev_some (rfirst_eq h p (keep t l)))
  · rw [if_neg c, if_neg c]
    exact ev_neg (show ¬ ((1 : Int) = 0) by decide) (ev_some rfl)
/-- Keys with one, in place of that of its number. -/
def nwith (l : List S26) (p : S26) : List S26 := l.filter (fun x => decide (x.f0 < p.f0)) ++ [p] ++ l.filter (fun x => decide (x.f0 > p.f0))
theorem filter_none {l : List S26} {q : S26 → Bool} (h : ∀ x ∈ l, q x = false) : l.filter q = [] := List.filter_eq_nil_iff.2 (fun x hx => by rw [h x hx]; decide)
theorem filter_all {l : List S26} {q : S26 → Bool} (h : ∀ x ∈ l, q x = true) : l.filter q = l := List.filter_eq_self.2 h
theorem nwith_ins (p : S26) : ∀ {l : List S26}, Srt nk l → look nk p.f0 l = none → nwith l p = ins nk p l
  | [], _, _ => rfl
  | y :: ys, hs, hn => by
    obtain ⟨h1, h2⟩ := srt_cons.1 hs
    rw [show look nk p.f0 (y :: ys) = if nk y = p.f0 then some y else look nk p.f0 ys from rfl] at hn
    by_cases e : nk y = p.f0
    · rw [if_pos e] at hn; simp at hn
    · rw [if_neg e] at hn
      rw [show ins nk p (y :: ys) = if nk y < nk p then y :: ins nk p ys else p :: y :: ys from rfl]
      have ih := nwith_ins p h2 hn
      by_cases c : y.f0 < p.f0
      · rw [if_pos (show nk y < nk p from c), ← ih]
        unfold nwith
        rw [List.filter_cons, if_pos (decide_eq_true c), List.filter_cons, if_neg (by rw [decide_eq_false (by omega)]; decide)]; rfl
      · have c2 : p.f0 < y.f0 := by have : y.f0 ≠ p.f0 := e; omega
        rw [if_neg (show ¬ nk y < nk p from c)]
        unfold nwith
        rw [filter_none (q := fun x => decide (x.f0 < p.f0)) (fun x hx => decide_eq_false (by
          rcases List.mem_cons.1 hx with rfl | hx
          · omega
          · have := h1 x hx; simp only [nk] at this; omega)), filter_all (q := fun x => decide (x.f0 > p.f0)) (fun x hx => decide_eq_true (by
          rcases List.mem_cons.1 hx with rfl | hx
          · omega
          · have := h1 x hx; simp only [nk] at this; omega))]; rfl
theorem rput_l1 (m : List S26) (hl : m.length ≤ 128) (hs : shr m) (x : S26) (hx : x.f1.length ≤ 4100 ∧ x.f2.length ≤ 4100) : ∀ (ys : List S26) (i : Nat) (acc : List S26), m.drop i = ys → i ≤ m.length → acc.length ≤ 129 + i → shr acc →
    Ev (fun k => damsonref14_Put.l1 k acc m (m.length : Int) (i : Int) x.f0 x.f1 x.f2 x.f3) (acc ++ ys.filter (fun y => decide (y.f0 > x.f0)), 0)
  | [], i, acc, hd, hi2, ha, hacc => by
    have hi := drop_nil hd
    refine Ev.step (fun k => by rw [damsonref14_Put.l1]) (ev_neg (by omega) ?_)
    exact ev_eq (Ev.bind (copy_ev acc (by omega) hacc) (Ev.now _)) (by simp)
  | y :: ys, i, acc, hd, hi2, ha, hacc => by
    have hi := drop_lt hd
    refine Ev.step (fun k => by rw [damsonref14_Put.l1]) ?_
    rw [drop_rd26 hd, next_i hi (by omega)]
    refine ev_pos (by omega) (ev_pos (by omega) (ev_pos (by omega) ?_))
    by_cases c : y.f0 > x.f0
    · have ih := rput_l1 m hl hs x hx ys (i + 1) (acc ++ [y]) (drop_next hd) (by omega) (by simp; omega) (fun z hz => by
        rcases List.mem_append.1 hz with hz | hz
        · exact hacc z hz
        · rw [List.mem_singleton.1 hz]; exact hs y (drop_mem hd))
      refine ev_pos c (ev_pos (by omega) (ev_eq ih ?_))
      simp [c]
    · have ih := rput_l1 m hl hs x hx ys (i + 1) acc (drop_next hd) (by omega) (by omega) hacc
      refine ev_neg c (ev_eq ih ?_)
      simp [c]
def rputv (m : List S26) (x : S26) (acc ys : List S26) : List S26 × Int := match look nk x.f0 ys with | some _ => ([], 6) | none => if m.length = 128 then ([], 7) else (acc ++ ys.filter (fun y => decide (y.f0 < x.f0)) ++ [x] ++ m.filter (fun y => decide (y.f0 > x.f0)), 0)
theorem rput_l0 (m : List S26) (hl : m.length ≤ 128) (hs : shr m) (x : S26) (hx : x.f1.length ≤ 4100 ∧ x.f2.length ≤ 4100) : ∀ (ys : List S26) (i : Nat) (acc : List S26), m.drop i = ys → i ≤ m.length → acc.length ≤ i → shr acc →
    Ev (fun k => damsonref14_Put.l0 k m acc m (m.length : Int) (i : Int) x.f0 x.f1 x.f2 x.f3) (rputv m x acc ys)
  | [], i, acc, hd, hi2, ha, hacc => by
    have hi := drop_nil hd
    refine Ev.step (fun k => by rw [damsonref14_Put.l0]) (ev_neg (by omega) ?_)
    show Ev _ (if m.length = 128 then ([], 7) else (acc ++ [] ++ [x] ++ m.filter (fun y => decide (y.f0 > x.f0)), 0))
    by_cases f : m.length = 128
    · rw [if_pos f]; exact ev_pos (by omega) (ev_some rfl)
    · rw [if_neg f]
      refine ev_neg (by omega) (ev_pos (by omega) (ev_eq (rput_l1 m hl hs x hx m 0 (acc ++ [x]) rfl (by omega) (by simp; omega) (fun z hz => ?_)) (by simp)))
      rcases List.mem_append.1 hz with hz | hz
      · exact hacc z hz
      · rw [List.mem_singleton.1 hz]; exact hx
  | y :: ys, i, acc, hd, hi2, ha, hacc => by
    have hi := drop_lt hd
    refine Ev.step (fun k => by rw [damsonref14_Put.l0]) ?_
    rw [drop_rd26 hd, next_i hi (by omega)]
    refine ev_pos (by omega) (ev_pos (by omega) (ev_pos (by omega) ?_))
    unfold rputv
    rw [show look nk x.f0 (y :: ys) = if nk y = x.f0 then some y else look nk x.f0 ys from rfl]
    by_cases e : y.f0 = x.f0
    · rw [if_pos (show nk y = x.f0 from e)]; exact ev_pos e (ev_some rfl)
    · rw [if_neg (show ¬ nk y = x.f0 from e)]
      refine ev_neg e ?_
      by_cases c : y.f0 < x.f0
      · have ih := rput_l0 m hl hs x hx ys (i + 1) (acc ++ [y]) (drop_next hd) (by omega) (by simp; omega) (fun z hz => by
          rcases List.mem_append.1 hz with hz | hz
          · exact hacc z hz
          · rw [List.mem_singleton.1 hz]; exact hs y (drop_mem hd))
        refine ev_pos c (ev_pos (by omega) (ev_eq ih ?_))
        unfold rputv
        cases look nk x.f0 ys <;> simp [c]
      · have ih := rput_l0 m hl hs x hx ys (i + 1) acc (drop_next hd) (by omega) (by omega) hacc
        refine ev_neg c (ev_eq ih ?_)
        unfold rputv
        cases look nk x.f0 ys <;> simp [c]
theorem rnput_ev (l : List S26) (x : S26) (t : Int) : Ev (fun k => damsonref14_Put.f k l x.f0 x.f1 x.f2 x.f3 t) (nput l x t) := by
  unfold damsonref14_Put.f
  have bad : ∀ m, (nok l && ngood x) = false → Ev (fun k => damsonref14_Put.j0 k m true x.f0 x.f1 x.f2 x.f3) (nput l x t) := fun m e => by
    unfold nput
    rw [e, if_neg (show ¬ (false = true) by decide)]
    exact Ev.step (fun k => by rw [damsonref14_Put.j0]) (ev_pos rfl (ev_some rfl))
  refine Ev.bind (rnsweep_ev l t) ?_
  unfold nsweep
  by_cases c : nok l = true
  · rw [if_pos c]
    refine ev_pos rfl ?_
    have hk := nok_keep c t
    obtain ⟨h1, h2, h3⟩ := nok_iff.1 hk
    by_cases e1 : (x.f1.length : Int) > 4096
    · exact ev_pos e1 (bad _ (by rw [ngood_len, decide_eq_false (show ¬ x.f1.length ≤ 4096 by omega), Bool.false_and, Bool.and_false]))
    · refine ev_neg e1 ?_
      by_cases e2 : (x.f2.length : Int) > 4096
      · rw [decide_eq_true e2]
        exact bad _ (by rw [ngood_len, decide_eq_false (show ¬ x.f2.length ≤ 4096 by omega), Bool.and_false, Bool.and_false])
      · rw [decide_eq_false e2]
        have g : ngood x = true := ngood_iff.2 ⟨by omega, by omega⟩
        refine Ev.step (f := fun k => damsonref14_Put.l0 k (keep t l) [] (keep t l) ((keep t l).length : Int) ((0 : Nat) : Int) x.f0 x.f1 x.f2 x.f3) (fun k => by rw [damsonref14_Put.j0, if_neg (by decide)]; rfl) (ev_eq (rput_l0 (keep t l) h1 (shr_of_nok hk) x ⟨by omega, by omega⟩ (keep t l) 0 [] rfl (by omega) (by simp) (fun z hz => by cases hz)) ?_)
        unfold nput rputv
        rw [c, g, if_pos (show (true && true) = true by rfl)]
        cases hx : look nk x.f0 (keep t l) with
        | some z => rfl
        | none =>
          rw [if_neg (show ¬ ((none : Option S26).isSome = true) by decide)]
          have := nwith_ins x h2 hx
          unfold nwith at this
          show (if (keep t l).length = 128 then _ else _) = _
          rw [← this]; simp
  · rw [if_neg c]
    refine ev_neg (show ¬ ((1 : Int) = 0) by decide) (bad _ ?_)
    rw [Bool.not_eq_true] at c
    rw [c]; rfl
/-- Whether keys are the same. -/
def n1 (x y : S26) : Bool := x.f0 == y.f0 && (x.f3 == y.f3 && (sb x.f1 y.f1 && sb x.f2 y.f2))
def nsm : List S26 → List S26 → Bool
  | [], [] => true
  | x :: xs, y :: ys => n1 x y && nsm xs ys
  | _, _ => false
theorem nsm_len : ∀ {l m : List S26}, l.length ≠ m.length → nsm l m = false
  | [], [], h => absurd rfl h
  | [], _ :: _, _ => rfl
  | _ :: _, [], _ => rfl
  | x :: xs, y :: ys, h => by
    show (n1 x y && nsm xs ys) = false
    rw [nsm_len (l := xs) (m := ys) (by simpa using h), Bool.and_false]
theorem nsm_self : ∀ l : List S26, nsm l l = true
  | [] => rfl
  | x :: xs => by
    show (n1 x x && nsm xs xs) = true
    rw [nsm_self xs]; simp [n1, sb_refl]
theorem ndrop_two {l m xs : List S26} {i : Nat} {x : S26} (h : l.drop i = x :: xs) (e : l.length = m.length) : ∃ y ys, m.drop i = y :: ys := by
  have := drop_lt h
  exact ⟨m[i]'(by omega), m.drop (i + 1), List.drop_eq_getElem_cons (by omega)⟩
theorem one_eq (x y : S26) : damsonref14_one.f x.f0 x.f1 x.f2 x.f3 y.f0 y.f1 y.f2 y.f3 = some (n1 x y) := by
  unfold damsonref14_one.f n1
  by_cases a : x.f0 = y.f0
  · rw [if_pos a, a, beq_self_eq_true, Bool.true_and]
    by_cases b : x.f3 = y.f3
    · rw [if_pos b, b, beq_self_eq_true, Bool.true_and]
      simp only [same_eq, Option.bind_some]
      cases sb x.f1 y.f1 <;> rfl
    · rw [if_neg b, beq_eq_false_iff_ne.2 b]; rfl
  · rw [if_neg a, beq_eq_false_iff_ne.2 a]; rfl
theorem ione_eq (x y : S26) : idem_one.f x.f0 x.f1 x.f2 x.f3 y.f0 y.f1 y.f2 y.f3 = some (n1 x y) := by
  unfold idem_one.f n1
  by_cases a : x.f0 = y.f0
  · rw [if_pos a, a, beq_self_eq_true, Bool.true_and]
    by_cases b : x.f3 = y.f3
    · rw [if_pos b, b, beq_self_eq_true, Bool.true_and]
      simp only [bytes_eq, Option.bind_some]
      cases sb x.f1 y.f1 <;> rfl
    · rw [if_neg b, beq_eq_false_iff_ne.2 b]; rfl
  · rw [if_neg a, beq_eq_false_iff_ne.2 a]; rfl
theorem rnsm_loop (l m : List S26) (e : l.length = m.length) (hl : l.length ≤ 140737488351232) : ∀ (xs : List S26) (i : Nat), l.drop i = xs → Ev (fun k => damsonref14_Same.l0 k l m (l.length : Int) (i : Int)) (nsm xs (m.drop i))
  | [], i, h => by
    have hi := drop_nil h
    rw [List.drop_eq_nil_of_le (show m.length ≤ i by omega)]
    refine Ev.step (fun k => by rw [damsonref14_Same.l0]) ?_
    exact ev_neg (by omega) (ev_some rfl)
  | x :: xs, i, h => by
    have hi := drop_lt h
    obtain ⟨y, ys, hy⟩ := ndrop_two h e
    have ih := rnsm_loop l m e hl xs (i + 1) (drop_next h)
    rw [drop_next hy] at ih
    rw [hy]
    refine Ev.step (fun k => by rw [damsonref14_Same.l0]) ?_
    rw [drop_rd26 h, drop_rd26 hy, next_i hi hl]
    refine ev_pos (by omega) (ev_pos (by omega) (ev_pos (by omega) (ev_pos (by omega) ?_)))
    show Ev _ (n1 x y && nsm xs ys)
    simp only [one_eq, Option.bind_some]
    cases n1 x y with
    | true => exact ev_pos rfl ih
    | false => exact ev_neg (by decide) (ev_some rfl)
theorem nsm_loop (l m : List S26) (e : l.length = m.length) (hl : l.length ≤ 140737488351232) : ∀ (xs : List S26) (i : Nat), l.drop i = xs → Ev (fun k => slices_EqualFunc_Key_at_idem_one.l0 k m l (l.length : Int) (i : Int)) (nsm xs (m.drop i))
  | [], i, h => by
    have hi := drop_nil h
    rw [List.drop_eq_nil_of_le (show m.length ≤ i by omega)]
    refine Ev.step (fun k => by rw [slices_EqualFunc_Key_at_idem_one.l0]) ?_
    exact ev_neg (by omega) (ev_some rfl)
  | x :: xs, i, h => by
    have hi := drop_lt h
    obtain ⟨y, ys, hy⟩ := ndrop_two h e
    have ih := nsm_loop l m e hl xs (i + 1) (drop_next h)
    rw [drop_next hy] at ih
    rw [hy]
    refine Ev.step (fun k => by rw [slices_EqualFunc_Key_at_idem_one.l0]) ?_
    rw [drop_rd26 h, drop_rd26 hy, next_i hi hl]
    refine ev_pos (by omega) (ev_pos (by omega) (ev_pos (by omega) (ev_pos (by omega) ?_)))
    show Ev _ (n1 x y && nsm xs ys)
    simp only [ione_eq, Option.bind_some]
    cases n1 x y with
    | true => exact ev_pos rfl ih
    | false => exact ev_neg (by decide) (ev_some rfl)
theorem rnsm_ev (l m : List S26) (hl : l.length ≤ 140737488351232) : Ev (fun k => damsonref14_Same.f k l m) (nsm l m) := by
  unfold damsonref14_Same.f
  by_cases e : l.length = m.length
  · exact ev_pos (by omega) (rnsm_loop l m e hl l 0 rfl)
  · rw [nsm_len e]; exact ev_neg (by omega) (ev_some rfl)
theorem nsm_ev (l m : List S26) (hl : l.length ≤ 140737488351232) : Ev (fun k => idem_Same.f k l m) (nsm l m) := by
  unfold idem_Same.f slices_EqualFunc_Key_at_idem_one.f
  refine Ev.bind (a := nsm l m) ?_ (Ev.now _)
  by_cases e : l.length = m.length
  · exact ev_pos (by omega) (nsm_loop l m e hl l 0 rfl)
  · rw [nsm_len e]; exact ev_neg (by omega) (ev_some rfl)
theorem rnsm_self (l : List S26) (hl : l.length ≤ 140737488351232) : Ev (fun k => damsonref14_Same.f k l l) true := by
  have := rnsm_ev l l hl
  rwa [nsm_self] at this
end Go.Proofs.Ytmoncgfffdddeaa.B
