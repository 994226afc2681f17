/- Plain laws of the package idem: a row is the same as itself. -/
import Derived.Test.YtmoncgfffdddeaaIOtN
import Derived.Test.YtmoncgfffdddeaaQIOthersx5
set_option linter.unusedVariables false
namespace Go.Proofs.Ytmoncgfffdddeaa.B
open Go.RowKit Go.Proofs.Ytmoncgfffdddeaa.P Go.Proofs.YtmoncgfffdddeaaW.PrintWords
theorem nsame_loop (l : List S26) (hl : l.length ≤ 140737488351232) : ∀ (ys : List S26) (i : Nat), l.drop i = ys → Ev (fun k => slices_EqualFunc_Key_at_idem_one.l0 k l l (l.length : Int) (i : Int)) true
  | [], i, h => by
    have hi := drop_nil h
    exact Ev.step (f := fun _ => some true) (fun k => by rw [slices_EqualFunc_Key_at_idem_one.l0, if_neg (by omega)]) (ev_some rfl)
  | y :: ys, i, h => by
    have hi := drop_lt h
    have ih := nsame_loop l hl ys (i + 1) (drop_next h)
    refine Ev.step (f := fun k => slices_EqualFunc_Key_at_idem_one.l0 k l l (l.length : Int) ((i + 1 : Nat) : Int)) (fun k => ?_) ih
    rw [slices_EqualFunc_Key_at_idem_one.l0, if_pos (by omega), if_pos (by omega), if_pos (by omega), if_pos (by omega), next_i hi hl]
    simp [idem_one.f, bytes_eq, sb_refl]
theorem nsame_ev (l : List S26) (hl : l.length ≤ 140737488351232) : Ev (fun k => idem_Same.f k l l) true := by
  unfold idem_Same.f slices_EqualFunc_Key_at_idem_one.f
  exact Ev.bind (ev_pos rfl (nsame_loop l hl l 0 rfl)) (Ev.now _)
end Go.Proofs.Ytmoncgfffdddeaa.B
