/- In whatever order two are made, they are the same; as many as may be. -/
import Derived.Test.YtlpdgagohafmaaaVS
import Derived.Test.YtlpdgagohafmaaaPx6
set_option linter.unusedVariables false
namespace Go.Proofs.Ytlpdgagohafmaaa.B
open Go.RowKit Go.Proofs.Ytlpdgagohafmaaa.P Go.Proofs.YtlpdgagohafmaaaW.PrintWords
theorem create_on {l : List S34} {x : S34} {h n till : Int} (hi : iok (ins ik x l) = true) (hb : ibill n = true) (hn : look ik h l = none) (hne : x.f0 ≠ h) : icreate (ins ik x l) h n till = if l.length = 255 then ([], 7) else (ins ik ⟨h, n, till, 1⟩ (ins ik x l), 0) := by
  unfold icreate
  rw [hi, hb, look_ins, if_neg hne, hn, ins_length]
  simp only [Bool.and_self, if_true, Option.isSome_none, Bool.false_eq_true, if_false]
  by_cases q : l.length = 255
  · rw [if_pos q, if_pos (by omega)]
  · rw [if_neg q, if_neg (by omega)]
theorem invoiceOrder : damsonlaw12_InvoiceOrder.Pure := by
  intro l a b hl ga gb
  apply Ev.rounds
  unfold damsonlaw12_InvoiceOrder.f
  simp only [few_eq, Option.bind_some]
  have core : ∀ w, (w = false → a.f0 ≠ b.f0 ∧ l.length ≤ 258) → Ev (fun k => damsonlaw12_InvoiceOrder.j0 k l w a.f0 a.f1 a.f2 a.f3 b.f0 b.f1 b.f2 b.f3) true := by
    intro w hw
    refine Ev.step (fun k => by rw [damsonlaw12_InvoiceOrder.j0]) ?_
    refine ev_if (fun _ => ev_some rfl) (fun hw0 => ?_)
    obtain ⟨hne, hlen⟩ := hw (by simpa using hw0)
    have core2 : ∀ v, (v = false → (icreate l a.f0 a.f1 a.f2).2 = 0 ∧ (icreate l b.f0 b.f1 b.f2).2 = 0) → Ev (fun k => damsonlaw12_InvoiceOrder.j1 k l (icreate l a.f0 a.f1 a.f2).1 (icreate l b.f0 b.f1 b.f2).1 v a.f0 a.f1 a.f2 a.f3 b.f0 b.f1 b.f2 b.f3) true := by
      intro v hv
      refine Ev.step (fun k => by rw [damsonlaw12_InvoiceOrder.j1]) ?_
      refine ev_if (fun _ => ev_some rfl) (fun hv0 => ?_)
      obtain ⟨ea, eb⟩ := hv (by simpa using hv0)
      obtain ⟨a1, a2, a3, a4, a5, a6⟩ := create_ok ea
      obtain ⟨b1, b2, b3, b4, b5, b6⟩ := create_ok eb
      rw [a5, b5]
      refine Ev.bind (icreate_ev _ b.f0 b.f1 b.f2) (Ev.bind (icreate_ev _ a.f0 a.f1 a.f2) ?_)
      rw [create_on (till := b.f2) a6 b2 b3 hne, create_on (till := a.f2) b6 a2 a3 (fun h => hne h.symm)]
      have hwl : wrap64 ((l.length : Int) + 2) = (l.length : Int) + 2 := w64 (by omega) (by omega)
      rw [hwl]
      by_cases q : l.length = 255
      · rw [if_pos q, if_pos q]
        refine ev_pos rfl (Ev.bind (isame_ev [] (by simp)) (ev_pos rfl (ev_const ?_)))
        rw [if_pos (by rw [decide_eq_false (by omega)]; rfl), if_neg (by decide)]; rfl
      · rw [if_neg q, if_neg q]
        have hc : ins ik ⟨b.f0, b.f1, b.f2, 1⟩ (ins ik ⟨a.f0, a.f1, a.f2, 1⟩ l) = ins ik ⟨a.f0, a.f1, a.f2, 1⟩ (ins ik ⟨b.f0, b.f1, b.f2, 1⟩ l) := ins_comm (iok_iff.1 a1).2.1 a3 b3 hne
        rw [hc]
        refine ev_pos rfl (Ev.bind (isame_ev _ (by rw [ins_length, ins_length]; omega)) (ev_pos rfl (ev_const ?_)))
        rw [if_pos (by rw [decide_eq_true (by omega)]; rfl), if_pos rfl]
    refine Ev.bind (icreate_ev l a.f0 a.f1 a.f2) (Ev.bind (icreate_ev l b.f0 b.f1 b.f2) (ev_if (fun h => core2 _ (fun h2 => ⟨h, by simpa using h2⟩)) (fun h => core2 true (fun h2 => by simp at h2))))
  refine Ev.bind live12 (ev_pos rfl (ev_if (fun hf => core _ (fun hd => ⟨by simpa using hd, ifew_le hf⟩)) (fun _ => core true (fun hd => by simp at hd))))
end Go.Proofs.Ytlpdgagohafmaaa.B
theorem Go.Proofs.Ytlpdgagohafmaaa.Pure.InvoiceOrder : Go.Proofs.Ytlpdgagohafmaaa.P.damsonlaw12_InvoiceOrder.Pure := Go.Proofs.Ytlpdgagohafmaaa.B.invoiceOrder
