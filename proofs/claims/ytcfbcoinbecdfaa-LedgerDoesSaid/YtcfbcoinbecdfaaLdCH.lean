/- Plain laws of the package channel: what holding leaves. -/
import Derived.Test.YtcfbcoinbecdfaaLdC
import Derived.Test.YtcfbcoinbecdfaaQLdoesx7
set_option linter.unusedVariables false
namespace Go.Proofs.Ytcfbcoinbecdfaa.B
open Go.RowKit Go.Proofs.Ytcfbcoinbecdfaa.P Go.Proofs.YtcfbcoinbecdfaaW.PrintWords
def tup (p : S25 × Int) : Int × Int × Int × Int × Int × (List S44) × Bool × Int := (p.1.f0, p.1.f1, p.1.f2, p.1.f3, p.1.f4, p.1.f5, p.1.f6, p.2)
/-- Why some can't be held; 0: it can. -/
def choldE (c : S25) (id n : Int) : Int :=
  if cok c = true ∧ 0 < n ∧ n ≤ 4611686018427387904 then
    if c.f6 = false then 14 else if (look hk id c.f5).isSome = true then 6 else if c.f5.length = 64 then 7 else if c.f1 < c.f3 ∨ n > c.f1 - c.f3 then 9 else if n > c.f4 - tot c.f5 then 8 else 0
  else 1
def chold (c : S25) (id n : Int) : S25 × Int := if choldE c id n = 0 then (⟨c.f0, c.f1 - n, c.f2, c.f3, c.f4, ins hk ⟨id, n⟩ c.f5, c.f6⟩, 0) else (z25, choldE c id n)
theorem chold_no {c : S25} {id n e : Int} (h : choldE c id n = e) (he : e ≠ 0) : tup (chold c id n) = (0, 0, 0, 0, 0, [], false, e) := by
  unfold chold
  rw [h, if_neg he]; rfl
theorem hold_ev (c : S25) (id n : Int) (h1 : 0 ≤ c.f1) (h2 : 0 ≤ c.f2) (h3 : 0 ≤ c.f3) (h4 : 0 ≤ c.f4) (hn : ∀ y ∈ c.f5, 0 ≤ y.f1) (hl : c.f5.length ≤ 1073741824) (n0 : 0 ≤ n) :
    Ev (fun k => channel_Hold.f k c.f0 c.f1 c.f2 c.f3 c.f4 c.f5 c.f6 id n) (tup (chold c id n)) := by
  unfold channel_Hold.f
  have bad : ∀ (t p : Int) (b : Bool), ¬ (cok c = true ∧ 0 < n ∧ n ≤ 4611686018427387904) → Ev (fun k => channel_Hold.j0 k id n t p b true c.f0 c.f1 c.f2 c.f3 c.f4 c.f5 c.f6) (tup (chold c id n)) := by
    intro t p b h
    rw [chold_no (e := 1) (by unfold choldE; rw [if_neg h]) (by decide)]
    exact Ev.step (fun k => by rw [channel_Hold.j0]) (ev_pos rfl (ev_some rfl))
  by_cases ok : cok c = true
  · obtain ⟨⟨a1, a2, a3, a4⟩, ⟨a5, a6⟩, a7, a8, a9, a10⟩ := cok_iff.1 ok
    refine Ev.bind (sums_ev c h1 h2 h4 hn) (Ev.bind (csearch_ev c.f5 id a5 hl) ?_)
    unfold csums
    rw [if_pos ok]
    refine ev_pos rfl (ev_if (fun z => bad _ _ _ (fun h => by omega)) (fun z => Ev.bind (check_ev [n] (by simp)) ?_))
    rw [mchk_one]
    by_cases q : n ≤ 4611686018427387904
    · rw [if_pos q]
      have ht := tot_nonneg hn
      have hg : cok c = true ∧ 0 < n ∧ n ≤ 4611686018427387904 := ⟨ok, by omega, q⟩
      refine Ev.step (fun k => by rw [channel_Hold.j0]) (ev_neg (by decide) ?_)
      by_cases o : c.f6 = true
      · refine ev_pos o ?_
        have o' : ¬ c.f6 = false := by rw [o]; decide
        by_cases s : (look hk id c.f5).isSome = true
        · rw [chold_no (e := 6) (by unfold choldE; rw [if_pos hg, if_neg o', if_pos s]) (by decide)]
          exact ev_pos s (ev_some rfl)
        · refine ev_neg s ?_
          by_cases l : c.f5.length = 64
          · rw [chold_no (e := 7) (by unfold choldE; rw [if_pos hg, if_neg o', if_neg s, if_pos l]) (by decide)]
            exact ev_pos (by omega) (ev_some rfl)
          · refine ev_neg (by omega) ?_
            have j1 : ∀ w, (w = true ↔ (c.f1 < c.f3 ∨ n > c.f1 - c.f3)) → Ev (fun k => channel_Hold.j1 k id n (tot c.f5) ((pos hk id c.f5 : Int)) w c.f0 c.f1 c.f2 c.f3 c.f4 c.f5 c.f6) (tup (chold c id n)) := by
              intro w hw
              refine Ev.step (fun k => by rw [channel_Hold.j1]) ?_
              by_cases p : c.f1 < c.f3 ∨ n > c.f1 - c.f3
              · rw [chold_no (e := 9) (by unfold choldE; rw [if_pos hg, if_neg o', if_neg s, if_neg l, if_pos p]) (by decide)]
                exact ev_pos (hw.2 p) (ev_some rfl)
              · refine ev_neg (fun h => p (hw.1 h)) ?_
                rw [u64w (by omega) (by omega)]
                by_cases m : n > c.f4 - tot c.f5
                · rw [chold_no (e := 8) (by unfold choldE; rw [if_pos hg, if_neg o', if_neg s, if_neg l, if_neg p, if_pos m]) (by decide)]
                  exact ev_pos m (ev_some rfl)
                · refine ev_neg m ?_
                  have hv : chold c id n = (⟨c.f0, c.f1 - n, c.f2, c.f3, c.f4, ins hk ⟨id, n⟩ c.f5, c.f6⟩, 0) := by
                    unfold chold
                    rw [if_pos]
                    unfold choldE; rw [if_pos hg, if_neg o', if_neg s, if_neg l, if_neg p, if_neg m]
                  rw [hv]
                  have hp := pos_le (key := hk) id c.f5
                  have e1 : slices_Clone_Hold.f c.f5 = some c.f5 := by unfold slices_Clone_Hold.f; rw [if_pos (by omega)]
                  have e2 : slices_Insert_Hold.f c.f5 (pos hk id c.f5 : Int) [⟨id, n⟩] = some (ins hk ⟨id, n⟩ c.f5) := by
                    unfold slices_Insert_Hold.f
                    rw [if_pos ⟨by omega, by omega, rfl, by omega⟩, Int.toNat_natCast]
                    exact congrArg some (ins_eq (key := hk) ⟨id, n⟩ c.f5)
                  simp only [e1, e2, Option.bind_some]
                  refine ev_some ?_
                  rw [u64w (by omega) (by omega)]; rfl
            by_cases p : c.f1 < c.f3
            · exact ev_pos p (j1 true ⟨fun _ => .inl p, fun _ => rfl⟩)
            · refine ev_neg p (j1 _ ?_)
              rw [decide_eq_true_eq, u64w (by omega) (by omega)]
              exact ⟨fun h => .inr h, fun h => h.resolve_left p⟩
      · rw [chold_no (e := 14) (by unfold choldE; rw [if_pos hg, if_pos (by simpa using o)]) (by decide)]
        exact ev_neg o (ev_some rfl)
    · rw [if_neg q]
      exact bad _ _ _ (fun h => q h.2.2)
  · obtain ⟨r, hr⟩ := csearch_tot c.f5 id hl
    refine Ev.bind (sums_ev c h1 h2 h4 hn) (Ev.bind hr ?_)
    unfold csums
    rw [if_neg ok]
    exact ev_neg (by decide) (bad _ _ _ (fun h => ok h.1))
end Go.Proofs.Ytcfbcoinbecdfaa.B
