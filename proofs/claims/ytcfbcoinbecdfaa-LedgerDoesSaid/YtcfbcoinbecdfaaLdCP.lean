/- Plain laws of the package channel: what closing leaves. -/
import Derived.Test.YtcfbcoinbecdfaaLdCU
import Derived.Test.YtcfbcoinbecdfaaQLdoesx15
set_option linter.unusedVariables false
namespace Go.Proofs.Ytcfbcoinbecdfaa.B
open Go.RowKit Go.Proofs.Ytcfbcoinbecdfaa.P Go.Proofs.YtcfbcoinbecdfaaW.PrintWords
def ccloseE (c : S25) : Int := if cok c = true then (if c.f6 = true then (if 0 < c.f5.length then 10 else 0) else 14) else 1
def cclose (c : S25) : S25 × Int := if ccloseE c = 0 then (⟨c.f0, c.f1, c.f2, c.f3, c.f4, [], false⟩, 0) else (z25, ccloseE c)
theorem cclose_no {c : S25} {e : Int} (h : ccloseE c = e) (he : e ≠ 0) : tup (cclose c) = (0, 0, 0, 0, 0, [], false, e) := by
  unfold cclose
  rw [h, if_neg he]; rfl
theorem close_ev (c : S25) (g : CB c) : Ev (fun k => channel_Close.f k c.f0 c.f1 c.f2 c.f3 c.f4 c.f5 c.f6) (tup (cclose c)) := by
  unfold channel_Close.f
  refine Ev.bind (ccheck_ev c g) ?_
  by_cases ok : cok c = true
  · rw [if_pos ok]
    refine ev_pos rfl ?_
    by_cases o : c.f6 = true
    · refine ev_pos o ?_
      by_cases l : 0 < c.f5.length
      · rw [cclose_no (e := 10) (by unfold ccloseE; rw [if_pos ok, if_pos o, if_pos l]) (by decide)]
        exact ev_pos (by omega) (ev_some rfl)
      · have hv : cclose c = (⟨c.f0, c.f1, c.f2, c.f3, c.f4, [], false⟩, 0) := by
          unfold cclose
          rw [if_pos]
          unfold ccloseE; rw [if_pos ok, if_pos o, if_neg l]
        rw [hv]
        exact ev_neg (by omega) (ev_some rfl)
    · rw [cclose_no (e := 14) (by unfold ccloseE; rw [if_pos ok, if_neg o]) (by decide)]
      exact ev_neg o (ev_some rfl)
  · rw [if_neg ok, cclose_no (e := 1) (by unfold ccloseE; rw [if_neg ok]) (by decide)]
    exact ev_neg (by decide) (ev_some rfl)
end Go.Proofs.Ytcfbcoinbecdfaa.B
