/- Two holds do not touch each other. -/
import Derived.Test.YtcfbcoinbecdfaaApartCE
import Derived.Test.YtcfbcoinbecdfaaApartCS
import Derived.Test.YtcfbcoinbecdfaaApartCL
import Derived.Test.YtcfbcoinbecdfaaQApartx7
import Derived.Test.YtcfbcoinbecdfaaQApartx6
set_option linter.unusedVariables false
namespace Go.Proofs.Ytcfbcoinbecdfaa.B
open Go.RowKit Go.Proofs.Ytcfbcoinbecdfaa.P Go.Proofs.YtcfbcoinbecdfaaW.PrintWords
theorem aend_ev (c : S25) (id : Int) (b : Bool) (g : CB c) : Ev (fun k => damsonlaw09_ChannelApart_1.f k c.f0 c.f1 c.f2 c.f3 c.f4 c.f5 c.f6 id b) (tup2 (cend c id b)) := by
  unfold damsonlaw09_ChannelApart_1.f
  cases b with
  | true => exact ev_pos rfl (Ev.bind (settle_ev c id g) (Ev.now _))
  | false => exact ev_neg (by decide) (Ev.bind (fail_ev c id g) (Ev.now _))
theorem del_comm {l : List S44} {a b : Int} (hs : Srt hk l) : del hk b (del hk a l) = del hk a (del hk b l) := by
  refine srt_ext (srt_del (srt_del hs)) (srt_del (srt_del hs)) (fun q => ?_)
  rw [look_del b q (srt_del hs), look_del a q hs, look_del a q (srt_del hs), look_del b q hs]
  by_cases h1 : q = a <;> by_cases h2 : q = b <;> simp [h1, h2]
theorem channelApart : damsonlaw09_ChannelApart.Pure := by
  intro c a b paid done g w1 w2
  have gb := cb_of g
  apply Ev.rounds
  unfold damsonlaw09_ChannelApart.f
  have core : ∀ w, (w = false → a ≠ b ∧ c.f5.length ≤ 70) → Ev (fun k => damsonlaw09_ChannelApart.j0 k a b paid done w c.f0 c.f1 c.f2 c.f3 c.f4 c.f5 c.f6) true := by
    intro w hw
    refine Ev.step (fun k => by rw [damsonlaw09_ChannelApart.j0]) (ev_if (fun _ => ev_some rfl) (fun hw0 => ?_))
    obtain ⟨hne, hlen⟩ := hw (by simpa using hw0)
    refine Ev.bind (aend_ev c a paid gb) (Ev.bind (aend_ev c b done gb) ?_)
    have core2 : ∀ v, (v = false → (cend c a paid).2.2 = 0 ∧ (cend c b done).2.2 = 0) → (v = true → (cend c a paid).2.2 = 0 ∨ (cend c a paid).2.1 = 0) → Ev (fun k => damsonlaw09_ChannelApart.j1 k a b paid done (cend c a paid).2.1 (cend c a paid).2.2 (cend c b done).2.1 v c.f0 c.f1 c.f2 c.f3 c.f4 c.f5 c.f6 (cend c a paid).1.f0 (cend c a paid).1.f1 (cend c a paid).1.f2 (cend c a paid).1.f3 (cend c a paid).1.f4 (cend c a paid).1.f5 (cend c a paid).1.f6 (cend c b done).1.f0 (cend c b done).1.f1 (cend c b done).1.f2 (cend c b done).1.f3 (cend c b done).1.f4 (cend c b done).1.f5 (cend c b done).1.f6) true := by
      intro v hv hv2
      refine Ev.step (fun k => by rw [damsonlaw09_ChannelApart.j1]) (ev_if (fun v1 => ev_if (fun _ => ev_some rfl) (fun q => ev_some ?_)) (fun v0 => ?_))
      · rcases hv2 v1 with h | h
        · exact absurd h q
        · rw [h]; rfl
      · obtain ⟨e1, e2⟩ := hv (by simpa using v0)
        obtain ⟨ok, x, hx, hX⟩ := cend_ok e1
        obtain ⟨_, y, hy, hY⟩ := cend_ok e2
        obtain ⟨okX, gX⟩ := cok_end paid gb ok hx
        obtain ⟨okY, gY⟩ := cok_end done gb ok hy
        have hs := (cok_iff.1 ok).2.1.1
        rw [hX, hY]
        have hyX : look hk b (cwith c (if paid then c.f1 else c.f1 + x.f1) (if paid then c.f2 + x.f1 else c.f2) (del hk a c.f5)).f5 = some y := by
          show look hk b (del hk a c.f5) = _
          rw [look_del a b hs, if_neg (fun h => hne h.symm), hy]
        have hxY : look hk a (cwith c (if done then c.f1 else c.f1 + y.f1) (if done then c.f2 + y.f1 else c.f2) (del hk b c.f5)).f5 = some x := by
          show look hk a (del hk b c.f5) = _
          rw [look_del b a hs, if_neg hne, hx]
        refine Ev.bind (aend_ev _ b done gX) (Ev.bind (aend_ev _ a paid gY) ?_)
        rw [cend_some okX hyX, cend_some okY hxY]
        refine ev_pos rfl (ev_pos rfl (ev_pos rfl (ev_pos rfl ?_)))
        have hq : cwith (cwith c (if done then c.f1 else c.f1 + y.f1) (if done then c.f2 + y.f1 else c.f2) (del hk b c.f5)) (if paid then (cwith c (if done then c.f1 else c.f1 + y.f1) (if done then c.f2 + y.f1 else c.f2) (del hk b c.f5)).f1 else (cwith c (if done then c.f1 else c.f1 + y.f1) (if done then c.f2 + y.f1 else c.f2) (del hk b c.f5)).f1 + x.f1) (if paid then (cwith c (if done then c.f1 else c.f1 + y.f1) (if done then c.f2 + y.f1 else c.f2) (del hk b c.f5)).f2 + x.f1 else (cwith c (if done then c.f1 else c.f1 + y.f1) (if done then c.f2 + y.f1 else c.f2) (del hk b c.f5)).f2) (del hk a (cwith c (if done then c.f1 else c.f1 + y.f1) (if done then c.f2 + y.f1 else c.f2) (del hk b c.f5)).f5)
            = cwith (cwith c (if paid then c.f1 else c.f1 + x.f1) (if paid then c.f2 + x.f1 else c.f2) (del hk a c.f5)) (if done then (cwith c (if paid then c.f1 else c.f1 + x.f1) (if paid then c.f2 + x.f1 else c.f2) (del hk a c.f5)).f1 else (cwith c (if paid then c.f1 else c.f1 + x.f1) (if paid then c.f2 + x.f1 else c.f2) (del hk a c.f5)).f1 + y.f1) (if done then (cwith c (if paid then c.f1 else c.f1 + x.f1) (if paid then c.f2 + x.f1 else c.f2) (del hk a c.f5)).f2 + y.f1 else (cwith c (if paid then c.f1 else c.f1 + x.f1) (if paid then c.f2 + x.f1 else c.f2) (del hk a c.f5)).f2) (del hk b (cwith c (if paid then c.f1 else c.f1 + x.f1) (if paid then c.f2 + x.f1 else c.f2) (del hk a c.f5)).f5) := by
          unfold cwith
          cases paid <;> cases done <;> simp [del_comm (a := a) (b := b) hs] <;> omega
        rw [hq]
        have l1 := del_length hx
        have l2 := del_length (show look hk b (del hk a c.f5) = some y from hyX)
        refine Ev.bind (csame_ev _ (by show (del hk b (del hk a c.f5)).length ≤ _; omega)) (ev_pos rfl (ev_some ?_))
        show (((del hk b (del hk a c.f5)).length : Int) == wrap64 ((c.f5.length : Int) - 2)) = true
        rw [w64 (by omega) (by omega)]
        simp only [beq_iff_eq]
        omega
    refine ev_if (fun e => core2 _ (fun h => ⟨e, by have h' : ((cend c b done).2.2 != 0) = false := h; simpa using h'⟩) (fun _ => .inl e)) (fun e => core2 true (fun h => by simp at h) (fun _ => .inr (cend_err e).2))
  refine Ev.bind live09 (ev_pos rfl (ev_if (fun _ => core true (fun hd => by simp at hd)) (fun hl => core _ (fun hd => ⟨by simpa using hd, by omega⟩))))
end Go.Proofs.Ytcfbcoinbecdfaa.B
theorem Go.Proofs.Ytcfbcoinbecdfaa.Pure.ChannelApart : Go.Proofs.Ytcfbcoinbecdfaa.P.damsonlaw09_ChannelApart.Pure := Go.Proofs.Ytcfbcoinbecdfaa.B.channelApart
