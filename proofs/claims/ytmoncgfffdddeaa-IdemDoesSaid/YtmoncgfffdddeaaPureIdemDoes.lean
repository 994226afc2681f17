/- All that is done with kept keys is done as the document's answer does it. -/
import Derived.Test.YtmoncgfffdddeaaIDoNR
import Derived.Test.YtmoncgfffdddeaaQIDoesx8
set_option linter.unusedVariables false
namespace Go.Proofs.Ytmoncgfffdddeaa.B
open Go.RowKit Go.Proofs.Ytmoncgfffdddeaa.P Go.Proofs.YtmoncgfffdddeaaW.PrintWords
theorem idemDoes : damsonlaw14_IdemDoes.Pure := by
  intro l o x h p t w1 w2
  intros
  apply Ev.rounds
  unfold damsonlaw14_IdemDoes.f
  refine Ev.bind live14 (ev_pos rfl ?_)
  obtain ⟨b, hb, hb2⟩ := few2_ev l w1.1
  obtain ⟨b3, hb3, _⟩ := few2_ev o w2.1
  obtain ⟨d, hd⟩ := nshorts_ev [x.f1, x.f2, p] (by simp)
  refine Ev.bind hb (ev_if (fun hf => ?_) (fun _ => Ev.now _))
  refine Ev.bind hb3 (ev_if (fun _ => Ev.bind hd (ev_if (fun _ => ?_) (fun _ => Ev.now _))) (fun _ => Ev.now _))
  obtain ⟨hl, hs⟩ := hb2 hf
  have len0 : ∀ t, (keep t l).length ≤ 130 := fun t => Nat.le_trans (List.length_filter_le _ _) hl
  have len1 : (nput l x t).1.length ≤ 140737488351232 := by
    have := len0 t
    unfold nput
    split
    · split
      · simp
      · split
        · simp
        · show (ins nk _ _).length ≤ _
          rw [ins_length]; omega
    · simp
  have len3 : (nsweep l t).1.length ≤ 140737488351232 := by
    have := len0 t
    unfold nsweep
    split
    · show (keep t l).length ≤ _
      omega
    · simp
  unfold damsonlaw14_IdemDoes.b
  refine Ev.bind (copy_ev l (by omega) hs) (Ev.bind (nput_ev l x t) (Ev.bind (rnput_ev l x t) (Ev.bind (nlook_ev l h p t) (Ev.bind (rnlook_ev l h p t) (Ev.bind (nsweep_ev l t) (Ev.bind (rnsweep_ev l t) ?_))))))
  refine Ev.bind (rnsm_self _ len1) (Ev.bind (a := true) (ev_const (by rw [same_eq, sb_refl])) (Ev.bind (rnsm_self _ len3) ?_))
  refine Ev.bind (ncheck_ev l) (Ev.bind (rncheck_ev l) (Ev.bind (nsm_ev l o (by omega)) (Ev.bind (rnsm_ev l o (by omega)) (Ev.bind (rnsm_self l (by omega)) ?_))))
  exact ev_pos ⟨rfl, rfl, rfl, rfl, rfl, rfl, rfl, rfl⟩ (ev_some rfl)
end Go.Proofs.Ytmoncgfffdddeaa.B
theorem Go.Proofs.Ytmoncgfffdddeaa.Pure.IdemDoes : Go.Proofs.Ytmoncgfffdddeaa.P.damsonlaw14_IdemDoes.Pure := Go.Proofs.Ytmoncgfffdddeaa.B.idemDoes
