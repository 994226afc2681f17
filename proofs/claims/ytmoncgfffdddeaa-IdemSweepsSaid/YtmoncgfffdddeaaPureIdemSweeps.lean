/- What is swept is old, and nothing else is: what is looked up later is as it was; swept again nothing more is. -/
import Derived.Test.YtmoncgfffdddeaaISwNS
import Derived.Test.YtmoncgfffdddeaaQISweepsx5
set_option linter.unusedVariables false
namespace Go.Proofs.Ytmoncgfffdddeaa.B
open Go.RowKit Go.Proofs.Ytmoncgfffdddeaa.P Go.Proofs.YtmoncgfffdddeaaW.PrintWords
theorem nsweeps_j0 (l : List S26) (h : Int) (p : List Int) (t t2 : Int) (b : Bool) (hb : b = false → t ≤ t2) : Ev (fun k => damsonlaw14_IdemSweeps.j0 k l h p t t2 b) true := by
  refine Ev.step (fun k => by rw [damsonlaw14_IdemSweeps.j0]) (ev_if (fun _ => Ev.now _) (fun hb2 => ?_))
  have hle : t ≤ t2 := hb (by simpa using hb2)
  refine Ev.bind (nsweep_ev l t) ?_
  by_cases c : nok l = true
  · have c2 := nok_keep c t
    have e1 : nsweep l t = (keep t l, 0) := by unfold nsweep; rw [if_pos c]
    have e2 : nsweep (keep t l) t = (keep t l, 0) := by unfold nsweep; rw [if_pos c2, keep_keep (Int.le_refl t)]
    have hlen := (nok_iff.1 c2).1
    have e3 : nlook (keep t l) h p t2 = nlook l h p t2 := by unfold nlook; rw [if_pos c, if_pos c2, keep_keep hle]
    rw [e1]
    refine ev_pos rfl ?_
    refine Ev.bind (nlook_ev l h p t2) (Ev.bind (e3 ▸ nlook_ev (keep t l) h p t2) (Ev.bind (e2 ▸ nsweep_ev (keep t l) t) (ev_pos rfl ?_)))
    simp only [same_eq, Option.bind_some, sb_refl]
    refine ev_pos trivial (ev_pos trivial (Ev.bind (nsame_ev (keep t l) (by omega)) (ev_pos rfl ?_)))
    refine Ev.bind (ncheck_ev (keep t l)) ?_
    rw [if_pos c2]
    refine ev_pos rfl (ev_some (decide_eq_true ?_))
    have : (keep t l).length ≤ l.length := List.length_filter_le _ _
    show ((keep t l).length : Int) ≤ (l.length : Int)
    omega
  · have e1 : nsweep l t = ([], 1) := by unfold nsweep; rw [if_neg c]
    rw [e1]
    exact ev_neg (by decide) (ev_some rfl)
theorem idemSweeps : damsonlaw14_IdemSweeps.Pure := by
  intro l h p t t2 w1 w2 w3 w4 w5
  apply Ev.rounds
  unfold damsonlaw14_IdemSweeps.f
  refine Ev.bind live14 (ev_pos rfl ?_)
  obtain ⟨b, hb, _⟩ := nfew_ev l w1.1
  obtain ⟨d, hd⟩ := nshorts_ev [p] (by simp)
  refine Ev.bind hb (ev_if (fun _ => Ev.bind hd (ev_if (fun _ => ?_) (fun _ => ?_))) (fun _ => ?_))
  · exact nsweeps_j0 l h p t t2 _ (fun e => by have := of_decide_eq_false e; omega)
  · exact nsweeps_j0 l h p t t2 true (fun e => by cases e)
  · exact nsweeps_j0 l h p t t2 true (fun e => by cases e)
end Go.Proofs.Ytmoncgfffdddeaa.B
theorem Go.Proofs.Ytmoncgfffdddeaa.Pure.IdemSweeps : Go.Proofs.Ytmoncgfffdddeaa.P.damsonlaw14_IdemSweeps.Pure := Go.Proofs.Ytmoncgfffdddeaa.B.idemSweeps
