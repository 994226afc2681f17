/- What was held, and failed, is as it was. -/
import Derived.Test.YtcfbcoinbecdfaaBackCE
import Derived.Test.YtcfbcoinbecdfaaBackCS
import Derived.Test.YtcfbcoinbecdfaaBackCL
import Derived.Test.YtcfbcoinbecdfaaQBackx7
set_option linter.unusedVariables false
namespace Go.Proofs.Ytcfbcoinbecdfaa.B
open Go.RowKit Go.Proofs.Ytcfbcoinbecdfaa.P Go.Proofs.YtcfbcoinbecdfaaW.PrintWords
theorem del_ins {l : List S44} {id n : Int} (hs : Srt hk l) (hl : look hk id l = none) : del hk id (ins hk ⟨id, n⟩ l) = l := by
  have hsi : Srt hk (ins hk ⟨id, n⟩ l) := srt_ins hs hl
  refine srt_ext (srt_del hsi) hs (fun q => ?_)
  rw [look_del id q hsi, look_ins]
  by_cases c : q = id
  · rw [if_pos c, c, hl]
  · rw [if_neg c, if_neg (fun h => c h.symm)]
theorem channelBack : damsonlaw09_ChannelBack.Pure := by
  intro c id n g w1 w2
  have gb := cb_of g
  have n0 := (wf_u64 w2).1
  apply Ev.rounds
  unfold damsonlaw09_ChannelBack.f
  refine Ev.bind live09 (ev_pos rfl (ev_if (fun _ => ev_some rfl) (fun hl => ?_)))
  have gb' := gb
  obtain ⟨h1, h2, h3, h4, hn⟩ := gb'
  refine Ev.bind (hold_ev c id n h1 h2 h3 h4 hn (by omega) n0) ?_
  by_cases e : choldE c id n = 0
  · obtain ⟨ok, m0, m1, o, hno, hlen, b1, b2, b3, hv⟩ := chold_ok e
    obtain ⟨okd, gd⟩ := cok_hold gb e
    have a5 := (cok_iff.1 ok).2.1.1
    obtain ⟨⟨_, _, _, _⟩, ⟨_, _⟩, q7, q8, q9, q10⟩ := cok_iff.1 ok
    have htn := tot_nonneg hn
    rw [hv]
    have hld : look hk id (cwith c (c.f1 - n) c.f2 (ins hk ⟨id, n⟩ c.f5)).f5 = some ⟨id, n⟩ := by
      show look hk id (ins hk ⟨id, n⟩ c.f5) = _
      rw [look_ins, if_pos rfl]
    have hback : cend (cwith c (c.f1 - n) c.f2 (ins hk ⟨id, n⟩ c.f5)) id false = (c, n, 0) := by
      rw [cend_some okd hld]
      show (cwith (cwith c (c.f1 - n) c.f2 (ins hk ⟨id, n⟩ c.f5)) (c.f1 - n + n) c.f2 (del hk id (ins hk ⟨id, n⟩ c.f5)), n, (0 : Int)) = _
      rw [del_ins a5 hno, show c.f1 - n + n = c.f1 by omega]; rfl
    have hpaid : cend (cwith c (c.f1 - n) c.f2 (ins hk ⟨id, n⟩ c.f5)) id true = (cwith c (c.f1 - n) (c.f2 + n) c.f5, n, 0) := by
      rw [cend_some okd hld]
      show (cwith (cwith c (c.f1 - n) c.f2 (ins hk ⟨id, n⟩ c.f5)) (c.f1 - n) (c.f2 + n) (del hk id (ins hk ⟨id, n⟩ c.f5)), n, (0 : Int)) = _
      rw [del_ins a5 hno]; rfl
    have hcp := cok_end true gd okd hld
    rw [show (cwith (cwith c (c.f1 - n) c.f2 (ins hk ⟨id, n⟩ c.f5)) (if true = true then (cwith c (c.f1 - n) c.f2 (ins hk ⟨id, n⟩ c.f5)).f1 else (cwith c (c.f1 - n) c.f2 (ins hk ⟨id, n⟩ c.f5)).f1 + (⟨id, n⟩ : S44).f1) (if true = true then (cwith c (c.f1 - n) c.f2 (ins hk ⟨id, n⟩ c.f5)).f2 + (⟨id, n⟩ : S44).f1 else (cwith c (c.f1 - n) c.f2 (ins hk ⟨id, n⟩ c.f5)).f2) (del hk id (cwith c (c.f1 - n) c.f2 (ins hk ⟨id, n⟩ c.f5)).f5)) = cwith c (c.f1 - n) (c.f2 + n) c.f5 from by
      show cwith (cwith c (c.f1 - n) c.f2 (ins hk ⟨id, n⟩ c.f5)) (c.f1 - n) (c.f2 + n) (del hk id (ins hk ⟨id, n⟩ c.f5)) = _
      rw [del_ins a5 hno]; rfl] at hcp
    have hg2 := hcp.2
    have hEd : choldE (cwith c (c.f1 - n) c.f2 (ins hk ⟨id, n⟩ c.f5)) id n = 6 := by
      unfold choldE
      rw [if_pos ⟨okd, m0, m1⟩, if_neg (show ¬ (cwith c (c.f1 - n) c.f2 (ins hk ⟨id, n⟩ c.f5)).f6 = false from by show ¬ c.f6 = false; rw [o]; decide), hld, if_pos (show (some (⟨id, n⟩ : S44)).isSome = true from rfl)]
    refine ev_pos rfl (Ev.bind (fail_ev _ id gd) (Ev.bind (settle_ev _ id gd) ?_))
    rw [hback, hpaid]
    refine ev_pos rfl (ev_pos rfl (ev_pos rfl (ev_pos rfl (Ev.bind (csame_ev c (by omega)) (ev_pos rfl ?_)))))
    have hr : IntKind.u64.wrap (c.f2 + n) = c.f2 + n := u64w (by omega) (by omega)
    have hlo : IntKind.u64.wrap (c.f1 - n) = c.f1 - n := u64w (by omega) (by omega)
    rw [hr, hlo]
    refine ev_pos rfl ?_
    have hw : ((tup2 (cwith c (c.f1 - n) (c.f2 + n) c.f5, n, (0 : Int))).2.1 != c.f1 - n) = false := by show ((c.f1 - n) != (c.f1 - n)) = false; simp
    rw [hw]
    refine Ev.step (fun k => by rw [damsonlaw09_ChannelBack.j0]) (ev_neg (by decide) ?_)
    have gd' := gd
    obtain ⟨d1, d2, d3, d4, dn⟩ := gd'
    have dl : (cwith c (c.f1 - n) c.f2 (ins hk ⟨id, n⟩ c.f5)).f5.length ≤ 1073741824 := by
      show (ins hk ⟨id, n⟩ c.f5).length ≤ _
      rw [ins_length]; omega
    refine Ev.bind (fail_ev (cwith c (c.f1 - n) (c.f2 + n) c.f5) id hg2) (Ev.bind (settle_ev c id gb) (Ev.bind (hold_ev _ id n d1 d2 d3 d4 dn dl n0) ?_))
    rw [cend_none hcp.1 (show look hk id (cwith c (c.f1 - n) (c.f2 + n) c.f5).f5 = none from hno), cend_none ok hno, chold_no hEd (by decide)]
    exact ev_pos rfl (ev_pos rfl (ev_some rfl))
  · rw [chold_no rfl e]
    exact ev_neg e (ev_some rfl)
end Go.Proofs.Ytcfbcoinbecdfaa.B
theorem Go.Proofs.Ytcfbcoinbecdfaa.Pure.ChannelBack : Go.Proofs.Ytcfbcoinbecdfaa.P.damsonlaw09_ChannelBack.Pure := Go.Proofs.Ytcfbcoinbecdfaa.B.channelBack
