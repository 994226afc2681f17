/- One that was closed does nothing any more; what is pushed leaves all as it was. -/
import Derived.Test.YtcfbcoinbecdfaaShutCP
import Derived.Test.YtcfbcoinbecdfaaShutCR
import Derived.Test.YtcfbcoinbecdfaaShutCL
import Derived.Test.YtcfbcoinbecdfaaQShutx6
set_option linter.unusedVariables false
namespace Go.Proofs.Ytcfbcoinbecdfaa.B
open Go.RowKit Go.Proofs.Ytcfbcoinbecdfaa.P Go.Proofs.YtcfbcoinbecdfaaW.PrintWords
theorem channelShut : damsonlaw09_ChannelShut.Pure := by
  intro c id n g w1 w2
  have gb := cb_of g
  have n0 := (wf_u64 w2).1
  have gb' := gb
  obtain ⟨h1, h2, h3, h4, hn⟩ := gb'
  apply Ev.rounds
  unfold damsonlaw09_ChannelShut.f
  refine Ev.bind live09 (ev_pos rfl (ev_if (fun _ => ev_some rfl) (fun hl => ?_)))
  have core : Ev (fun k => damsonlaw09_ChannelShut.j0 k id false c.f0 c.f1 c.f2 c.f3 c.f4 c.f5 c.f6) true := by
    refine Ev.step (fun k => by rw [damsonlaw09_ChannelShut.j0]) (ev_neg (by decide) (Ev.bind (close_ev c gb) ?_))
    by_cases e : ccloseE c = 0
    · have hv : cclose c = (⟨c.f0, c.f1, c.f2, c.f3, c.f4, [], false⟩, 0) := by unfold cclose; rw [if_pos e]
      have ok : cok c = true := by
        unfold ccloseE at e
        by_cases ok : cok c = true
        · exact ok
        · rw [if_neg ok] at e; exact absurd e (by decide)
      obtain ⟨⟨a1, a2, a3, a4⟩, ⟨a5, a6⟩, a7, a8, a9, a10⟩ := cok_iff.1 ok
      have ht := tot_nonneg hn
      have okd : cok ⟨c.f0, c.f1, c.f2, c.f3, c.f4, [], false⟩ = true := cok_iff.2 ⟨⟨a1, a2, by simp, fun _ => rfl⟩, ⟨srt_nil, fun x hx => by simp at hx⟩, by show (0 : Int) ≤ c.f4; omega, a8, a9, by show (0 : Int) + c.f1 + c.f2 ≤ _; omega⟩
      have gd : CB ⟨c.f0, c.f1, c.f2, c.f3, c.f4, [], false⟩ := ⟨h1, h2, h3, h4, fun y hy => by simp at hy⟩
      rw [hv]
      have r1 : croom ⟨c.f0, c.f1, c.f2, c.f3, c.f4, [], false⟩ = (0, 0) := by rw [croom_ok okd, if_pos (.inl rfl)]
      have r2 : choldE ⟨c.f0, c.f1, c.f2, c.f3, c.f4, [], false⟩ id 1 = 14 := by unfold choldE; rw [if_pos ⟨okd, by decide, by decide⟩, if_pos rfl]
      have r3 : cpushE ⟨c.f0, c.f1, c.f2, c.f3, c.f4, [], false⟩ 0 = 14 := by unfold cpushE; rw [if_pos ⟨okd, by decide⟩, if_neg (show ¬ (false = true) by decide)]
      have r4 : ccloseE ⟨c.f0, c.f1, c.f2, c.f3, c.f4, [], false⟩ = 14 := by unfold ccloseE; rw [if_pos okd, if_neg (show ¬ (false = true) by decide)]
      refine ev_pos rfl (Ev.bind (room_ev ⟨c.f0, c.f1, c.f2, c.f3, c.f4, [], false⟩ h1 h2 h3 h4 gd.2.2.2.2) (Ev.bind (hold_ev ⟨c.f0, c.f1, c.f2, c.f3, c.f4, [], false⟩ id 1 h1 h2 h3 h4 gd.2.2.2.2 (by simp) (by decide)) (Ev.bind (push_ev ⟨c.f0, c.f1, c.f2, c.f3, c.f4, [], false⟩ 0 gd (by decide)) (Ev.bind (close_ev ⟨c.f0, c.f1, c.f2, c.f3, c.f4, [], false⟩ gd) ?_))))
      rw [r1, chold_no r2 (by decide), cpush_no r3 (by decide), cclose_no r4 (by decide)]
      refine ev_pos rfl (ev_pos rfl (ev_pos rfl (ev_pos rfl (ev_pos rfl (ev_pos rfl (ev_some ?_))))))
      show (c.f2 == c.f2) = true
      simp
    · rw [cclose_no rfl e]
      exact ev_neg e (ev_some rfl)
  refine Ev.bind (push_ev c n gb n0) ?_
  by_cases e : cpushE c n = 0
  · have hv : cpush c n = (cwith c (c.f1 + n) (c.f2 - n) c.f5, 0) := by unfold cpush; rw [if_pos e]
    have hh : cok c = true ∧ n ≤ 4611686018427387904 ∧ c.f6 = true ∧ ¬ c.f2 < n := by
      unfold cpushE at e
      by_cases q : cok c = true ∧ n ≤ 4611686018427387904
      · rw [if_pos q] at e
        by_cases o : c.f6 = true
        · rw [if_pos o] at e
          by_cases p : c.f2 < n
          · rw [if_pos p] at e; exact absurd e (by decide)
          · exact ⟨q.1, q.2, o, p⟩
        · rw [if_neg o] at e; exact absurd e (by decide)
      · rw [if_neg q] at e; exact absurd e (by decide)
    obtain ⟨ok, n1, o, p⟩ := hh
    obtain ⟨⟨a1, a2, a3, a4⟩, ⟨a5, a6⟩, a7, a8, a9, a10⟩ := cok_iff.1 ok
    rw [hv]
    have e1 : IntKind.u64.wrap (c.f2 - n) = c.f2 - n := u64w (by omega) (by omega)
    have e2 : IntKind.u64.wrap (c.f1 + n) = c.f1 + n := u64w (by omega) (by omega)
    rw [e1, e2]
    refine ev_pos rfl (ev_pos rfl (ev_pos rfl (ev_pos rfl ?_)))
    have hf : (!(tup (cwith c (c.f1 + n) (c.f2 - n) c.f5, (0 : Int))).2.2.2.2.2.2.1) = false := by show (!c.f6) = false; rw [o]; rfl
    rw [hf]
    exact core
  · rw [cpush_no rfl e]
    exact ev_neg e core
end Go.Proofs.Ytcfbcoinbecdfaa.B
theorem Go.Proofs.Ytcfbcoinbecdfaa.Pure.ChannelShut : Go.Proofs.Ytcfbcoinbecdfaa.P.damsonlaw09_ChannelShut.Pure := Go.Proofs.Ytcfbcoinbecdfaa.B.channelShut
