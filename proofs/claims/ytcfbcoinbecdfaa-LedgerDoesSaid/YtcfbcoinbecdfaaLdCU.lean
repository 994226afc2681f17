/- Plain laws of the package channel: what pushing leaves. -/
import Derived.Test.YtcfbcoinbecdfaaLdCB
import Derived.Test.YtcfbcoinbecdfaaLdS
import Derived.Test.YtcfbcoinbecdfaaQLdoesx16
set_option linter.unusedVariables false
namespace Go.Proofs.Ytcfbcoinbecdfaa.B
open Go.RowKit Go.Proofs.Ytcfbcoinbecdfaa.P Go.Proofs.YtcfbcoinbecdfaaW.PrintWords
def cpushE (c : S25) (n : Int) : Int := if cok c = true ∧ n ≤ 4611686018427387904 then (if c.f6 = true then (if c.f2 < n then 9 else 0) else 14) else 1
def cpush (c : S25) (n : Int) : S25 × Int := if cpushE c n = 0 then (cwith c (c.f1 + n) (c.f2 - n) c.f5, 0) else (z25, cpushE c n)
theorem cpush_no {c : S25} {n e : Int} (h : cpushE c n = e) (he : e ≠ 0) : tup (cpush c n) = (0, 0, 0, 0, 0, [], false, e) := by
  unfold cpush
  rw [h, if_neg he]; rfl
theorem push_ev (c : S25) (n : Int) (g : CB c) (n0 : 0 ≤ n) : Ev (fun k => channel_Push.f k c.f0 c.f1 c.f2 c.f3 c.f4 c.f5 c.f6 n) (tup (cpush c n)) := by
  unfold channel_Push.f
  have bad : ¬ (cok c = true ∧ n ≤ 4611686018427387904) → Ev (fun k => channel_Push.j0 k n true c.f0 c.f1 c.f2 c.f3 c.f4 c.f5 c.f6) (tup (cpush c n)) := by
    intro h
    rw [cpush_no (e := 1) (by unfold cpushE; rw [if_neg h]) (by decide)]
    exact Ev.step (fun k => by rw [channel_Push.j0]) (ev_pos rfl (ev_some rfl))
  refine Ev.bind (ccheck_ev c g) ?_
  obtain ⟨h1, h2, h3, h4, hn⟩ := g
  by_cases ok : cok c = true
  · obtain ⟨⟨a1, a2, a3, a4⟩, ⟨a5, a6⟩, a7, a8, a9, a10⟩ := cok_iff.1 ok
    rw [if_pos ok]
    refine ev_pos rfl (Ev.bind (check_ev [n] (by simp)) ?_)
    rw [mchk_one]
    by_cases q : n ≤ 4611686018427387904
    · rw [if_pos q]
      refine Ev.step (fun k => by rw [channel_Push.j0]) (ev_neg (by decide) (Ev.bind (sub_ev c.f2 n h2 n0) ?_))
      have hm : msub c.f2 n = if c.f2 < n then (0, 9) else (c.f2 - n, 0) := by unfold msub; rw [if_pos ⟨a9, q⟩]
      rw [hm]
      have hg : cok c = true ∧ n ≤ 4611686018427387904 := ⟨ok, q⟩
      have ht := tot_nonneg hn
      by_cases o : c.f6 = true
      · refine ev_pos o ?_
        by_cases p : c.f2 < n
        · rw [if_pos p, cpush_no (e := 9) (by unfold cpushE; rw [if_pos hg, if_pos o, if_pos p]) (by decide)]
          exact ev_neg (by decide) (ev_some rfl)
        · rw [if_neg p]
          have hv : cpush c n = (cwith c (c.f1 + n) (c.f2 - n) c.f5, 0) := by
            unfold cpush
            rw [if_pos]
            unfold cpushE; rw [if_pos hg, if_pos o, if_neg p]
          have e1 : slices_Clone_Hold.f c.f5 = some c.f5 := by unfold slices_Clone_Hold.f; rw [if_pos (by omega)]
          rw [hv]
          refine ev_pos rfl (ev_const ?_)
          rw [e1, Option.bind_some, u64w (by omega) (by omega)]; rfl
      · rw [cpush_no (e := 14) (by unfold cpushE; rw [if_pos hg, if_neg o]) (by decide)]
        exact ev_neg o (ev_some rfl)
    · rw [if_neg q]
      exact bad (fun h => q h.2)
  · rw [if_neg ok]
    exact ev_neg (by decide) (bad (fun h => ok h.1))
end Go.Proofs.Ytcfbcoinbecdfaa.B
