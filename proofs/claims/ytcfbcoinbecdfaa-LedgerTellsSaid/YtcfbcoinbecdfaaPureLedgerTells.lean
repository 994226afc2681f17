/- Any channel, which one has any hold, how much is ours, whether any may be, and whether two rows are the same, or why not. -/
import Derived.Test.YtcfbcoinbecdfaaLtLG
import Derived.Test.YtcfbcoinbecdfaaLtLGO
import Derived.Test.YtcfbcoinbecdfaaLtLSR
import Derived.Test.YtcfbcoinbecdfaaLtLF
import Derived.Test.YtcfbcoinbecdfaaLtLL
import Derived.Test.YtcfbcoinbecdfaaQLtellsx15
set_option linter.unusedVariables false
namespace Go.Proofs.Ytcfbcoinbecdfaa.B
open Go.RowKit Go.Proofs.Ytcfbcoinbecdfaa.P Go.Proofs.YtcfbcoinbecdfaaW.PrintWords
theorem lb_of {l : List S25} (g : ∀ y ∈ l, G25 y) : LB l := fun c hc => by
  obtain ⟨a0, a1, a2, a3, a4, ⟨_, a5⟩, _⟩ := g c hc
  exact ⟨cb_of (g c hc), wf_u64 a0, fun h hh => wf_u64 (a5 h hh).1⟩
theorem ledgerTells : damsonlaw10_LedgerTells.Pure := by
  intro l o id hold gl go gi gh
  have hg := lb_of gl.2
  have hi := wf_u64 gi
  have hh := wf_u64 gh
  apply Ev.rounds
  unfold damsonlaw10_LedgerTells.f
  obtain ⟨b1, f1, q1⟩ := few_ev l gl.1
  obtain ⟨b2, f2, q2⟩ := few_ev o go.1
  refine Ev.bind (Ev.of damsonlaw10_live.mono live10) (ev_pos rfl (Ev.bind f1 (ev_if (fun e1 => Ev.bind f2 (ev_if (fun e2 => ?_) (fun _ => ev_some rfl))) (fun _ => ev_some rfl))))
  obtain ⟨n1, n2⟩ := q1.1 e1
  refine Ev.bind (lget_ev l id hg) (Ev.bind (rget10_ev l id hg) (Ev.bind (lwhere_ev l hold hg hh) (Ev.bind (rwhere10_ev l hold hg) (Ev.bind (lours_ev l hg) (Ev.bind (rours_ev l hg) ?_)))))
  have hlen : (lget l id).1.f5.length ≤ 1000 := by
    unfold lget
    by_cases ok : lok l = true
    · rw [if_pos ok]
      cases e : look lk id l with
      | none => show ([] : List S44).length ≤ 1000; simp
      | some c => have := n2 c (look_some e).1; show c.f5.length ≤ 1000; omega
    · rw [if_neg ok]; show ([] : List S44).length ≤ 1000; simp
  refine Ev.bind (ev_eq (rsm_ev (lget l id).1 (lget l id).1 (by omega)) (csm_refl _)) ?_
  have h5 : ∀ c ∈ l, c.f5.length ≤ 1000 := fun c hc => by have := n2 c hc; omega
  refine Ev.bind (lcheck_ev l hg) (Ev.bind (rcheck10_ev l hg) (Ev.bind (lsame_ev l o (by omega) h5) (Ev.bind (rlsame_ev l o (by omega) h5) ?_)))
  exact ev_pos ⟨rfl, rfl, rfl, rfl, rfl, rfl, rfl, rfl, rfl⟩ (ev_some rfl)
end Go.Proofs.Ytcfbcoinbecdfaa.B
theorem Go.Proofs.Ytcfbcoinbecdfaa.Pure.LedgerTells : Go.Proofs.Ytcfbcoinbecdfaa.P.damsonlaw10_LedgerTells.Pure := Go.Proofs.Ytcfbcoinbecdfaa.B.ledgerTells
