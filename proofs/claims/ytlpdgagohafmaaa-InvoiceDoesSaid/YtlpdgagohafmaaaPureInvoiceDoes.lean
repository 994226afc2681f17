/- All that is done with invoices is done as the document's answer does it. -/
import Derived.Test.YtlpdgagohafmaaaIDoVR
import Derived.Test.YtlpdgagohafmaaaQIDoesx9
set_option linter.unusedVariables false
namespace Go.Proofs.Ytlpdgagohafmaaa.B
open Go.RowKit Go.Proofs.Ytlpdgagohafmaaa.P Go.Proofs.YtlpdgagohafmaaaW.PrintWords
theorem rsm_self (l : List S34) (hl : l.length ≤ 140737488351232) : Ev (fun k => damsonref12_Same.f k l l) true := by
  have := rsm_ev l l hl
  rwa [ism_self] at this
theorem isame_len {l : List S34} (hl : l.length ≤ 256) (h : Int) (f : S34 → S34) (x : S34) (p : S34 → Bool) : (ins ik x l).length ≤ 140737488351232 ∧ (upd ik h f l).length ≤ 140737488351232 ∧ (l.filter p).length ≤ 140737488351232 := by
  rw [ins_length, upd_length]
  have := List.length_filter_le p l
  omega
theorem invoiceDoes : damsonlaw12_InvoiceDoes.Pure := by
  intro l o h n till t hl ho w1 w2 w3 w4
  apply Ev.rounds
  unfold damsonlaw12_InvoiceDoes.f
  simp only [few_eq, Option.bind_some]
  refine Ev.bind live12 (ev_pos rfl (ev_if (fun hf => ev_if (fun hf2 => ?_) (fun _ => ev_some rfl)) (fun _ => ev_some rfl)))
  have hll := ifew_le hf
  have hnn : ∀ x ∈ l, 0 ≤ x.f1 := fun x hx => (wf_u64 (hl.2 x hx).2.1).1
  have hn := (wf_u64 w2).1
  unfold damsonlaw12_InvoiceDoes.b
  have len1 : (icreate l h n till).1.length ≤ 140737488351232 := by
    unfold icreate
    split
    · split
      · simp
      · split
        · simp
        · show (ins ik _ l).length ≤ _
          rw [ins_length]; omega
    · simp
  have len2 : ∀ (m st : Int), (iend l h t m st).1.length ≤ 140737488351232 := by
    intro m st
    unfold iend
    split
    · split
      · simp
      · split
        · simp
        · split
          · split
            · simp
            · show (upd ik h _ l).length ≤ _
              rw [upd_length]; omega
          · simp
    · simp
  have len3 : (isweep l t).1.length ≤ 140737488351232 := by
    unfold isweep
    split
    · have := List.length_filter_le (istay t) l
      show (l.filter (istay t)).length ≤ _
      omega
    · simp
  refine Ev.bind (icreate_ev l h n till) (Ev.bind (rcreate_ev l hnn h n till hn) (Ev.bind (icancel_ev l h t) (Ev.bind (rcancel_ev l hnn h t) (Ev.bind (ipay_ev l h n t) (Ev.bind (rpay_ev l hnn h n t) (Ev.bind (isweep_ev l t) (Ev.bind (rsweep_ev l hnn t) (Ev.bind (istate_ev l h t) (Ev.bind (rstate_ev l hnn h t) ?_)))))))))
  refine Ev.bind (rsm_self _ len1) (Ev.bind (rsm_self _ (len2 _ _)) (Ev.bind (rsm_self _ (len2 _ _)) (Ev.bind (rsm_self _ len3) ?_)))
  refine Ev.bind (icheck_ev l) (Ev.bind (rcheck_ev l hnn) (Ev.bind (ism_ev l o (by omega)) (Ev.bind (rsm_ev l o (by omega)) (Ev.bind (rsm_self l (by omega)) ?_))))
  exact ev_pos ⟨by omega, rfl, rfl, rfl, rfl, rfl, rfl, rfl, rfl, rfl, rfl, rfl, rfl⟩ (ev_some rfl)
end Go.Proofs.Ytlpdgagohafmaaa.B
theorem Go.Proofs.Ytlpdgagohafmaaa.Pure.InvoiceDoes : Go.Proofs.Ytlpdgagohafmaaa.P.damsonlaw12_InvoiceDoes.Pure := Go.Proofs.Ytlpdgagohafmaaa.B.invoiceDoes
