/- Plain laws of the package channel: a channel is the same as itself. -/
import Derived.Test.YtcfbcoinbecdfaaBackC
import Derived.Test.YtcfbcoinbecdfaaQBackx6
set_option linter.unusedVariables false
namespace Go.Proofs.Ytcfbcoinbecdfaa.B
open Go.RowKit Go.Proofs.Ytcfbcoinbecdfaa.P Go.Proofs.YtcfbcoinbecdfaaW.PrintWords
theorem heq_loop (l : List S44) (hl : l.length ≤ 140737488351232) : ∀ (ys : List S44) (i : Nat), l.drop i = ys → Ev (fun k => slices_Equal_Hold.l0 k l l (l.length : Int) (i : Int)) true
  | [], i, h => by
    have hi := drop_nil h
    exact Ev.step (f := fun _ => some true) (fun k => by rw [slices_Equal_Hold.l0, if_neg (by omega)]) (ev_some rfl)
  | y :: ys, i, h => by
    have hi := drop_lt h
    have ih := heq_loop l hl ys (i + 1) (drop_next h)
    refine Ev.step (f := fun k => slices_Equal_Hold.l0 k l l (l.length : Int) ((i + 1 : Nat) : Int)) (fun k => ?_) ih
    rw [slices_Equal_Hold.l0, if_pos (by omega), if_pos (by omega), if_pos (by omega), if_pos (by omega), next_i hi hl]
    simp
theorem csame_ev (c : S25) (hl : c.f5.length ≤ 140737488351232) : Ev (fun k => channel_Same.f k c.f0 c.f1 c.f2 c.f3 c.f4 c.f5 c.f6 c.f0 c.f1 c.f2 c.f3 c.f4 c.f5 c.f6) true := by
  unfold channel_Same.f slices_Equal_Hold.f
  refine Ev.bind (r := true) (ev_pos rfl (heq_loop c.f5 hl c.f5 0 rfl)) ?_
  exact ev_pos rfl (ev_pos rfl (ev_pos rfl (ev_pos rfl (ev_pos rfl (ev_pos rfl (ev_some (by simp)))))))
end Go.Proofs.Ytcfbcoinbecdfaa.B
