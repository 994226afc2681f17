/- What is made is open, or late; no other one is changed. -/
import Derived.Test.YtlpdgagohafmaaaV
set_option linter.unusedVariables false
namespace Go.Proofs.Ytlpdgagohafmaaa.B
open Go.RowKit Go.Proofs.Ytlpdgagohafmaaa.P Go.Proofs.YtlpdgagohafmaaaW.PrintWords
theorem invoiceOthers : damsonlaw12_InvoiceOthers.Pure := by
  intro l h o n till tick hl w1 w2 w3 w4 w5
  apply Ev.rounds
  unfold damsonlaw12_InvoiceOthers.f
  simp only [few_eq, Option.bind_some]
  refine Ev.bind live12 (ev_pos rfl (ev_if (fun hf => ?_) (fun _ => ev_some rfl)))
  have hlen := ifew_le hf
  refine Ev.bind (icreate_ev l h n till) (ev_if (fun e => ?_) (fun e => ?_))
  · obtain ⟨h1, h2, h3, h4, h5, h6⟩ := create_ok e
    rw [h5]
    have hw : ((ins ik ⟨h, n, till, 1⟩ l).length : Int) = wrap64 ((l.length : Int) + 1) := by
      rw [ins_length, w64 (by omega) (by omega)]; rfl
    have i1 := istate_ins h6 tick
    have i3 := icreate_there (till := till) h6 h2
    refine Ev.bind (istate_ev _ h tick) (Ev.bind (istate_ev l o tick) (Ev.bind (istate_ev _ o tick) (Ev.bind (icreate_ev _ h n till) ?_)))
    have i2 : o = h ∨ istate (ins ik ⟨h, n, till, 1⟩ l) o tick = istate l o tick := by
      by_cases q : o = h
      · exact .inl q
      · exact .inr (istate_ins_ne h1 h6 (fun z => q z.symm) tick)
    have i1' : istate (ins ik ⟨h, n, till, 1⟩ l) h tick = (if tick > till then 4 else 1, 0) := by
      rw [show istate (ins ik ⟨h, n, till, 1⟩ l) h tick = _ from i1]
      unfold inow
      by_cases q : tick > till
      · rw [if_pos ⟨rfl, q⟩, if_pos q]
      · rw [if_neg (fun z => q z.2), if_neg q]
    have i3' : icreate (ins ik ⟨h, n, till, 1⟩ l) h n till = ([], 6) := i3
    rw [i1', i3', hw]
    refine ev_if (fun q => ev_pos rfl (ev_pos (if_pos q) ?_)) (fun q => ev_pos rfl (ev_pos (if_neg q) ?_)) <;>
      refine ev_if (fun _ => ev_pos rfl (ev_some (by simp))) (fun z => ?_) <;>
      (rcases i2 with i2 | i2
       · exact absurd i2 z
       · rw [i2]
         exact ev_pos rfl (ev_pos rfl (ev_pos rfl (ev_some (by simp)))))
  · rw [create_no e]
    exact ev_some rfl
end Go.Proofs.Ytlpdgagohafmaaa.B
theorem Go.Proofs.Ytlpdgagohafmaaa.Pure.InvoiceOthers : Go.Proofs.Ytlpdgagohafmaaa.P.damsonlaw12_InvoiceOthers.Pure := Go.Proofs.Ytlpdgagohafmaaa.B.invoiceOthers
