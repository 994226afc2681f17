/- What is held is ours no more, till it failed, and never again, when it was paid. -/
import Derived.Test.YtcfbcoinbecdfaaLuLHE
import Derived.Test.YtcfbcoinbecdfaaLuLO
import Derived.Test.YtcfbcoinbecdfaaLuLW
import Derived.Test.YtcfbcoinbecdfaaLuLF
import Derived.Test.YtcfbcoinbecdfaaLuLL
import Derived.Test.YtcfbcoinbecdfaaQLoursx8
set_option linter.unusedVariables false
namespace Go.Proofs.Ytcfbcoinbecdfaa.B
open Go.RowKit Go.Proofs.Ytcfbcoinbecdfaa.P Go.Proofs.YtcfbcoinbecdfaaW.PrintWords
theorem lloc_app : ∀ (a b : List S25), lloc (a ++ b) = lloc a + lloc b
  | [], b => by show lloc b = 0 + lloc b; omega
  | c :: cs, b => by
    show cloc c + lloc (cs ++ b) = cloc c + lloc cs + lloc b
    rw [lloc_app cs b]; omega
theorem lheld_app : ∀ (a b : List S25), lheld (a ++ b) = lheld a + lheld b
  | [], b => by show lheld b = 0 + lheld b; omega
  | c :: cs, b => by
    show tot c.f5 + lheld (cs ++ b) = tot c.f5 + lheld cs + lheld b
    rw [lheld_app cs b]; omega
theorem lours_le : ∀ {l : List S25}, (∀ c ∈ l, CB c) → 0 ≤ lloc l ∧ 0 ≤ lheld l ∧ lloc l + lheld l ≤ lsum l
  | [], _ => ⟨Int.le_refl 0, Int.le_refl 0, Int.le_refl 0⟩
  | c :: cs, h => by
    obtain ⟨i1, i2, i3⟩ := lours_le (l := cs) (fun z hz => h z (List.mem_cons_of_mem _ hz))
    obtain ⟨g1, g2, _, _, gn⟩ := h c List.mem_cons_self
    have ht := tot_nonneg gn
    have hc : 0 ≤ cloc c ∧ cloc c ≤ c.f1 := by unfold cloc; split <;> omega
    have e1 : lloc (c :: cs) = cloc c + lloc cs := rfl
    have e2 : lheld (c :: cs) = tot c.f5 + lheld cs := rfl
    have e3 : lsum (c :: cs) = tot c.f5 + c.f1 + c.f2 + lsum cs := rfl
    omega
theorem ledgerOurs : damsonlaw10_LedgerOurs.Pure := by
  intro l id hold n gl gi gh gn
  have hg := lb_of gl.2
  have hh := wf_u64 gh
  have hn := wf_u64 gn
  apply Ev.rounds
  unfold damsonlaw10_LedgerOurs.f
  obtain ⟨b1, f1, q1⟩ := few_ev l gl.1
  refine Ev.bind (Ev.of damsonlaw10_live.mono live10) (ev_pos rfl (Ev.bind f1 (ev_if (fun e1 => ?_) (fun _ => ev_some rfl))))
  refine Ev.bind (lours_ev l hg) (Ev.bind (lhold_ev l id hold n hg hh hn.1) ?_)
  by_cases ke : (lhold l id hold n).2 = 0
  case neg =>
    have h0 : (lhold l id hold n).1.length = 0 := by rw [lhold_err ke]; rfl
    exact ev_if (fun _ => ev_neg ke (ev_pos h0 (ev_some rfl))) (fun _ => ev_pos h0 (ev_some rfl))
  obtain ⟨c, d, a, b, m, H⟩ := lhold_held hg hh ke
  have ok := H.ok
  have ha : lours l = (lloc l, lheld l, 0) := by unfold lours; rw [if_pos ok]
  rw [ha, H.v]
  refine ev_pos rfl (ev_pos rfl ?_)
  unfold damsonlaw10_LedgerOurs.b
  have hp := H.paid hg
  have hf := H.fail hg
  have hdm : d ∈ m := by rw [H.m_]; simp
  obtain ⟨k1, k2, k3, k4, k5⟩ := lok_end (paid := true) H.lbm H.okm hdm H.look
  rw [hp] at k1 k2
  obtain ⟨s1, s2, s3, s4, s5⟩ := H.srt hg
  have hc : c ∈ l := by rw [H.l_]; simp
  obtain ⟨g1, g2, _, _, gn2⟩ := (hg c hc).1
  have el : lloc l = lloc a + (c.f1 + lloc b) := by
    rw [H.l_, lloc_app]
    show lloc a + (cloc c + lloc b) = _
    unfold cloc; rw [if_pos s4]
  have el2 : lheld l = lheld a + (tot c.f5 + lheld b) := by rw [H.l_, lheld_app]; rfl
  have em : lloc m = lloc l - n := by
    rw [H.m_, lloc_app, el]
    show lloc a + (cloc d + lloc b) = _
    have : cloc d = c.f1 - n := by
      rw [H.d_]
      show (if c.f6 = true then c.f1 - n else 0) = _
      rw [if_pos s4]
    omega
  have em2 : lheld m = lheld l + n := by
    rw [H.m_, lheld_app, el2]
    show lheld a + (tot d.f5 + lheld b) = _
    have : tot d.f5 = n + tot c.f5 := by rw [H.d_]; exact tot_ins ⟨hold, n⟩ c.f5
    omega
  have ep : lloc (a ++ cwith c (c.f1 - n) (c.f2 + n) c.f5 :: b) = lloc l - n := by
    rw [lloc_app, el]
    show lloc a + (cloc (cwith c (c.f1 - n) (c.f2 + n) c.f5) + lloc b) = _
    have : cloc (cwith c (c.f1 - n) (c.f2 + n) c.f5) = c.f1 - n := by
      show (if c.f6 = true then c.f1 - n else 0) = _
      rw [if_pos s4]
    omega
  have ep2 : lheld (a ++ cwith c (c.f1 - n) (c.f2 + n) c.f5 :: b) = lheld l := by rw [lheld_app, el2]; rfl
  obtain ⟨z1, z2, z3⟩ := lours_le (lb_cb hg)
  obtain ⟨y1, y2, y3⟩ := lours_le (lb_cb H.lbm)
  obtain ⟨_, _, _, h4, _⟩ := (lok_iff (lb_cb hg)).1 ok
  obtain ⟨_, _, _, h4m, _⟩ := (lok_iff (lb_cb H.lbm)).1 H.okm
  have w1 : IntKind.u64.wrap (lloc l - n) = lloc l - n := u64w (by omega) (by omega)
  have w2 : IntKind.u64.wrap (lheld l + n) = lheld l + n := u64w (by omega) (by omega)
  have vm : lours m = (lloc l - n, lheld l + n, 0) := by unfold lours; rw [if_pos H.okm, em, em2]
  have vp : lours (a ++ cwith c (c.f1 - n) (c.f2 + n) c.f5 :: b) = (lloc l - n, lheld l, 0) := by unfold lours; rw [if_pos k1, ep, ep2]
  have s1 := ev_eq (lours_ev m H.lbm) vm
  have s2 := ev_eq (lend_ev m hold false H.lbm hh) hf
  have s3 := ev_eq (lend_ev m hold true H.lbm hh) hp
  have s4 := ev_eq (lours_ev l hg) ha
  have s5 := ev_eq (lours_ev _ k2) vp
  refine Ev.bind s1 (Ev.bind s2 (Ev.bind s3 (Ev.bind s4 (Ev.bind s5 ?_))))
  exact ev_pos ⟨rfl, rfl, rfl, rfl, rfl, rfl, rfl, w1.symm, w2.symm, rfl, rfl, w1.symm, rfl⟩ (ev_some rfl)
end Go.Proofs.Ytcfbcoinbecdfaa.B
theorem Go.Proofs.Ytcfbcoinbecdfaa.Pure.LedgerOurs : Go.Proofs.Ytcfbcoinbecdfaa.P.damsonlaw10_LedgerOurs.Pure := Go.Proofs.Ytcfbcoinbecdfaa.B.ledgerOurs
