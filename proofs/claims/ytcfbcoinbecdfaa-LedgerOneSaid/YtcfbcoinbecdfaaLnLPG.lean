/- Plain laws of the package ledger: one channel. -/
import Derived.Test.YtcfbcoinbecdfaaLnLP
import Derived.Test.YtcfbcoinbecdfaaQLonex8
import Derived.Test.YtcfbcoinbecdfaaQLonex5
set_option linter.unusedVariables false
namespace Go.Proofs.Ytcfbcoinbecdfaa.B
open Go.RowKit Go.Proofs.Ytcfbcoinbecdfaa.P Go.Proofs.YtcfbcoinbecdfaaW.PrintWords
/-- One channel. -/
def lget (l : List S25) (id : Int) : S25 × Int := if lok l = true then (match look lk id l with | none => (z25, 5) | some c => (c, 0)) else (z25, 1)
theorem lget_ev (l : List S25) (id : Int) (hg : LB l) : Ev (fun k => ledger_Get.f k l id) (tup (lget l id)) := by
  unfold ledger_Get.f
  refine Ev.bind (lplace_ev l id hg) ?_
  unfold lplace lget
  by_cases ok : lok l = true
  · rw [if_pos ok, if_pos ok]
    obtain ⟨h1, h2, h3, h4, h5⟩ := (lok_iff (lb_cb hg)).1 ok
    cases e : look lk id l with
    | none => exact ev_neg (show ¬ (5 : Int) = 0 by decide) (ev_some rfl)
    | some c =>
      have e0 : (if (some c).isSome = true then (((pos lk id l : Nat) : Int), (0 : Int)) else (0, 5)) = (((pos lk id l : Nat) : Int), 0) := rfl
      rw [e0]
      obtain ⟨p1, p2⟩ := look_at (z := z25) id h3 e
      refine ev_pos rfl (ev_pos (by omega) (ev_pos (by omega) ?_))
      rw [rd25, p2]
      have hc := (cok_iff.1 (h2 c (look_some e).1)).1.2.2.1
      rw [own_eq c (by omega)]
      exact ev_some rfl
  · rw [if_neg ok, if_neg ok]
    exact ev_neg (by decide) (ev_some rfl)
end Go.Proofs.Ytcfbcoinbecdfaa.B
