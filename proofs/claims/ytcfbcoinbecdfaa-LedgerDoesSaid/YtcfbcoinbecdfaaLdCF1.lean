/- Plain laws of the document's answer for channels: amounts, what is held, and all, and how much can be held. -/
import Derived.Test.YtcfbcoinbecdfaaLdCB
import Derived.Test.YtcfbcoinbecdfaaLdR
import Derived.Test.YtcfbcoinbecdfaaQLdoesx12
import Derived.Test.YtcfbcoinbecdfaaQLdoesx13
import Derived.Test.YtcfbcoinbecdfaaQLdoesx11
set_option linter.unusedVariables false
namespace Go.Proofs.Ytcfbcoinbecdfaa.B
open Go.RowKit Go.Proofs.Ytcfbcoinbecdfaa.P Go.Proofs.YtcfbcoinbecdfaaW.PrintWords
theorem amounts_loop (l : List S44) (hl : l.length ≤ 100000) : ∀ (ys : List S44) (i : Nat) (acc : List Int), l.drop i = ys → acc.length = i → Ev (fun k => damsonref09_amounts.l0 k acc l (l.length : Int) (i : Int)) (acc ++ ys.map (·.f1))
  | [], i, acc, h, _ => by
    have hi := drop_nil h
    refine Ev.step (fun k => by rw [damsonref09_amounts.l0]) ?_
    exact ev_neg (by omega) (ev_some (by simp))
  | y :: ys, i, acc, h, ha => by
    have hi := drop_lt h
    have ih := amounts_loop l hl ys (i + 1) (acc ++ [y.f1]) (drop_next h) (by simp [ha])
    refine Ev.step (fun k => by rw [damsonref09_amounts.l0]) ?_
    rw [drop_rd44 h, next_i hi (by omega)]
    refine ev_pos (by omega) (ev_pos (by omega) (ev_pos (by omega) (ev_pos (by omega) (ev_eq ih ?_))))
    simp
theorem amounts_ev (l : List S44) (hl : l.length ≤ 100000) : Ev (fun k => damsonref09_amounts.f k l) (l.map (·.f1)) := ev_eq (amounts_loop l hl l 0 [] rfl rfl) (by simp)
theorem maddFrom_tot : ∀ {l : List S44} {s : Int}, (∀ y ∈ l, 0 ≤ y.f1) → 0 ≤ s → s ≤ 4611686018427387904 → maddFrom s (l.map (·.f1)) = if s + tot l ≤ 4611686018427387904 then (s + tot l, 0) else (0, 8)
  | [], s, _, h0, h1 => by
    show (s, (0 : Int)) = _
    unfold tot
    rw [Int.add_zero, if_pos h1]
  | y :: ys, s, hn, h0, h1 => by
    have hy := hn y List.mem_cons_self
    have hys : ∀ z ∈ ys, 0 ≤ z.f1 := fun z hz => hn z (List.mem_cons_of_mem _ hz)
    have ht := tot_nonneg hys
    have e : tot (y :: ys) = y.f1 + tot ys := rfl
    show (if s + y.f1 > 4611686018427387904 then (0, 8) else maddFrom (s + y.f1) (ys.map (·.f1))) = _
    rw [e]
    by_cases c : s + y.f1 > 4611686018427387904
    · rw [if_pos c, if_neg (by omega)]
    · rw [if_neg c, maddFrom_tot hys (by omega) (by omega), show s + y.f1 + tot ys = s + (y.f1 + tot ys) by omega]
/-- The amounts together, where they are no more than something that may be. -/
theorem madd_amounts {l : List S44} (hn : ∀ y ∈ l, 0 ≤ y.f1) : (tot l ≤ 4611686018427387904 → madd (l.map (·.f1)) = (tot l, 0)) ∧ (¬ tot l ≤ 4611686018427387904 → (madd (l.map (·.f1))).2 ≠ 0) := by
  constructor
  · intro h
    have hm : mchk (l.map (·.f1)) = 0 := mchk_zero.2 (fun x hx => by
      obtain ⟨y, hy, rfl⟩ := List.mem_map.1 hx
      have := le_tot hn hy
      omega)
    unfold madd
    rw [if_pos hm, maddFrom_tot hn (by omega) (by omega), Int.zero_add, if_pos h]
  · intro h
    unfold madd
    by_cases hm : mchk (l.map (·.f1)) = 0
    · rw [if_pos hm, maddFrom_tot hn (by omega) (by omega), Int.zero_add, if_neg h]; decide
    · rw [if_neg hm]; exact hm
theorem rc_j2 (c : S25) (g : CB c) (h : Int) (w : Bool) (h0 : 0 ≤ h) (h1 : h ≤ 4611686018427387904) : Ev (fun k => damsonref09_Check.j2 k h w c.f0 c.f1 c.f2 c.f3 c.f4 c.f5 c.f6) (if w = false ∧ (c.f1 ≤ 4611686018427387904 ∧ c.f2 ≤ 4611686018427387904 ∧ h + c.f1 + c.f2 ≤ 4611686018427387904) then 0 else 1) := by
  obtain ⟨g1, g2, g3, g4, gn⟩ := g
  refine Ev.step (fun k => by rw [damsonref09_Check.j2]) ?_
  by_cases w1 : w = true
  · exact ev_eq (ev_pos w1 (Ev.now 1)) (if_neg (fun q => by rw [w1] at q; exact absurd q.1 (by decide))).symm
  · refine ev_neg w1 (Ev.bind (radd_ev [c.f1, c.f2, h] (by simp) (by simp; omega)) ?_)
    have hw : w = false := by simpa using w1
    by_cases q : c.f1 ≤ 4611686018427387904 ∧ c.f2 ≤ 4611686018427387904 ∧ h + c.f1 + c.f2 ≤ 4611686018427387904
    · rw [(madd3 g1 q.1 g2 h0).1 ⟨q.2.1, h1, by omega⟩]
      exact ev_eq (ev_pos rfl (Ev.now 0)) (if_pos ⟨hw, q⟩).symm
    · refine ev_eq (ev_neg ?_ (Ev.now 1)) (if_neg (fun z => q z.2)).symm
      by_cases q1 : c.f1 ≤ 4611686018427387904
      · exact (madd3 g1 q1 g2 h0).2 (fun z => q ⟨q1, z.1, by omega⟩)
      · unfold madd
        rw [mchk_cons, if_neg q1, if_neg (show ¬ ((1 : Int) = 0) by decide)]
        show ¬ ((1 : Int) = 0)
        decide
theorem rc_loop (c : S25) (g : CB c) (hl : c.f5.length ≤ 64) (hm0 : c.f4 ≤ 4611686018427387904) : ∀ (ys : List S44) (i : Nat) (p : Option Int), c.f5.drop i = ys → (i = 0 → p = none) → (0 < i → p = some (c.f5.getD (i - 1) z44).f0) →
    Ev (fun k => damsonref09_Check.l0 k c.f5 (c.f5.length : Int) (i : Int) c.f0 c.f1 c.f2 c.f3 c.f4 c.f5 c.f6) (if (chk hk hgood p ys && decide (tot c.f5 ≤ c.f4 ∧ c.f1 ≤ 4611686018427387904 ∧ c.f2 ≤ 4611686018427387904 ∧ tot c.f5 + c.f1 + c.f2 ≤ 4611686018427387904)) = true then 0 else 1)
  | [], i, p, h, _, _ => by
    have hi := drop_nil h
    obtain ⟨m1, m2⟩ := madd_amounts g.2.2.2.2
    have ht := tot_nonneg g.2.2.2.2
    refine Ev.step (fun k => by rw [damsonref09_Check.l0]) (ev_neg (by omega) (Ev.bind (amounts_ev c.f5 (by omega)) (Ev.bind (radd_ev (c.f5.map (·.f1)) (by rw [List.length_map]; omega) (fun x hx => by
      obtain ⟨y, hy, rfl⟩ := List.mem_map.1 hx
      exact g.2.2.2.2 y hy)) ?_)))
    rw [show (chk hk hgood p [] : Bool) = true by cases p <;> rfl, Bool.true_and]
    by_cases q : tot c.f5 ≤ 4611686018427387904
    · rw [m1 q]
      refine ev_pos rfl (ev_eq (rc_j2 c g (tot c.f5) (decide (tot c.f5 > c.f4)) ht q) ?_)
      by_cases z : tot c.f5 ≤ c.f4 ∧ c.f1 ≤ 4611686018427387904 ∧ c.f2 ≤ 4611686018427387904 ∧ tot c.f5 + c.f1 + c.f2 ≤ 4611686018427387904
      · rw [if_pos ⟨decide_eq_false (by omega), z.2⟩, decide_eq_true z, if_pos rfl]
      · rw [decide_eq_false z, if_neg (fun y => z ⟨by have := of_decide_eq_false y.1; omega, y.2⟩)]; rfl
    · have hz : ¬ (tot c.f5 ≤ c.f4 ∧ c.f1 ≤ 4611686018427387904 ∧ c.f2 ≤ 4611686018427387904 ∧ tot c.f5 + c.f1 + c.f2 ≤ 4611686018427387904) := by omega
      rw [decide_eq_false hz]
      refine ev_neg (m2 q) (Ev.step (fun k => by rw [damsonref09_Check.j2]) ?_)
      exact ev_pos rfl (ev_some rfl)
  | y :: ys, i, p, h, h0, hp => by
    have hi := drop_lt h
    have hy := drop_get z44 h
    have hyn := g.2.2.2.2 y (drop_mem h)
    have ih := rc_loop c g hl hm0 ys (i + 1) (some y.f0) (drop_next h) (fun e => by omega) (fun _ => by rw [Nat.add_sub_cancel, hy])
    refine Ev.step (fun k => by rw [damsonref09_Check.l0]) (ev_pos (by omega) (ev_pos (by omega) (ev_pos (by omega) ?_)))
    rw [drop_rd44 h, next_i hi (by omega)]
    by_cases z0 : y.f1 = 0
    · refine ev_pos z0 (ev_some ?_)
      have : chk hk hgood p (y :: ys) = false := by
        have hg : hgood y = false := decide_eq_false (by omega)
        unfold chk; rw [hg, Bool.false_and, Bool.and_false]
      rw [this, Bool.false_and]; rfl
    · refine ev_neg z0 ?_
      have hg : hgood y = true := decide_eq_true (by omega)
      by_cases i0 : i = 0
      · have hp0 := h0 i0
        subst hp0
        rw [show chk hk hgood none (y :: ys) = (true && (hgood y && chk hk hgood (some y.f0) ys)) from rfl, hg, Bool.true_and, Bool.true_and]
        exact ev_neg (by omega) ih
      · have hp1 := hp (by omega)
        subst hp1
        have hw : wrap64 ((i : Int) - 1) = ((i - 1 : Nat) : Int) := by rw [w64 (by omega) (by omega)]; omega
        rw [hw, rd44]
        rw [show chk hk hgood (some (c.f5.getD (i - 1) z44).f0) (y :: ys) = (decide ((c.f5.getD (i - 1) z44).f0 < y.f0) && (hgood y && chk hk hgood (some y.f0) ys)) from rfl, hg, Bool.true_and]
        refine ev_pos (by omega) (ev_pos (by omega) (ev_pos (by omega) ?_))
        by_cases q : (c.f5.getD (i - 1) z44).f0 < y.f0
        · rw [decide_eq_true q, Bool.true_and]
          exact ev_neg (by omega) ih
        · rw [decide_eq_false q, Bool.false_and, Bool.false_and]
          exact ev_pos (by omega) (ev_some rfl)
theorem rcheck_ev (c : S25) (g : CB c) : Ev (fun k => damsonref09_Check.f k c.f0 c.f1 c.f2 c.f3 c.f4 c.f5 c.f6) (if cok c then 0 else 1) := by
  unfold damsonref09_Check.f
  refine Ev.bind (rcheck04_ev [c.f3, c.f4] (by simp)) ?_
  rw [mchk_cons, mchk_one]
  have bad : ¬ cok c = true → Ev (fun k => damsonref09_Check.j0 k true c.f0 c.f1 c.f2 c.f3 c.f4 c.f5 c.f6) (if cok c = true then 0 else 1) := by
    intro h
    rw [if_neg h]
    exact Ev.step (fun k => by rw [damsonref09_Check.j0]) (ev_pos rfl (ev_some rfl))
  by_cases q1 : c.f3 ≤ 4611686018427387904
  · by_cases q2 : c.f4 ≤ 4611686018427387904
    · rw [if_pos q1, if_pos q2]
      refine ev_pos rfl (ev_if (fun q3 => bad (fun h => ?_)) (fun q3 => ?_))
      · have := (cok_iff.1 h).1.2.2.1; omega
      · have core : ∀ w, (w = true ↔ (c.f6 = false ∧ 0 < c.f5.length)) → Ev (fun k => damsonref09_Check.j0 k w c.f0 c.f1 c.f2 c.f3 c.f4 c.f5 c.f6) (if cok c = true then 0 else 1) := by
          intro w hw
          by_cases w1 : w = true
          · rw [w1]
            refine bad (fun h => ?_)
            have a := (cok_iff.1 h).1.2.2.2 (hw.1 w1).1
            have b := (hw.1 w1).2
            omega
          · refine Ev.step (fun k => by rw [damsonref09_Check.j0]) (ev_neg w1 ?_)
            refine ev_eq (rc_loop c g (by omega) q2 c.f5 0 none rfl (fun _ => rfl) (fun h => by omega)) ?_
            unfold cok
            have d1 : decide (c.f3 ≤ 4611686018427387904 ∧ c.f4 ≤ 4611686018427387904 ∧ c.f5.length ≤ 64 ∧ (c.f6 = false → c.f5.length = 0)) = true := decide_eq_true ⟨q1, q2, by omega, fun e => by
              rcases Nat.eq_zero_or_pos c.f5.length with z | z
              · exact z
              · exact absurd (hw.2 ⟨e, z⟩) w1⟩
            rw [d1, Bool.true_and]
        refine ev_if (fun o => core false ⟨fun h => by simp at h, fun h => by rw [o] at h; simp at h⟩) (fun o => core _ ?_)
        rw [Bool.not_eq_true] at o
        rw [o, decide_eq_true_eq]
        constructor
        · intro h; exact ⟨rfl, by omega⟩
        · intro h; omega
    · rw [if_pos q1, if_neg q2]
      exact ev_neg (by decide) (bad (fun h => q2 (cok_iff.1 h).1.2.1))
  · rw [if_neg q1]
    exact ev_neg (by decide) (bad (fun h => q1 (cok_iff.1 h).1.1))
def cheld (c : S25) : Int × Int := if cok c = true then (tot c.f5, 0) else (0, 1)
theorem rheld_ev (c : S25) (g : CB c) : Ev (fun k => damsonref09_Held.f k c.f0 c.f1 c.f2 c.f3 c.f4 c.f5 c.f6) (cheld c) := by
  unfold damsonref09_Held.f cheld
  refine Ev.bind (rcheck_ev c g) ?_
  by_cases ok : cok c = true
  · obtain ⟨⟨a1, a2, a3, a4⟩, ⟨a5, a6⟩, a7, a8, a9, a10⟩ := cok_iff.1 ok
    rw [if_pos ok, if_pos ok]
    refine ev_pos rfl (Ev.bind (amounts_ev c.f5 (by omega)) (Ev.bind (radd_ev (c.f5.map (·.f1)) (by rw [List.length_map]; omega) (fun x hx => by
      obtain ⟨y, hy, rfl⟩ := List.mem_map.1 hx
      exact g.2.2.2.2 y hy)) ?_))
    rw [(madd_amounts g.2.2.2.2).1 (by omega)]
    exact ev_some rfl
  · rw [if_neg ok, if_neg ok]
    exact ev_neg (by decide) (ev_some rfl)
end Go.Proofs.Ytcfbcoinbecdfaa.B
