/- Whatever is held, settled, failed, pushed, and closed is as the document has it. -/
import Derived.Test.YtcfbcoinbecdfaaCdCD
import Derived.Test.YtcfbcoinbecdfaaCdCM
import Derived.Test.YtcfbcoinbecdfaaCdCL
import Derived.Test.YtcfbcoinbecdfaaQCdoesx11
set_option linter.unusedVariables false
namespace Go.Proofs.Ytcfbcoinbecdfaa.B
open Go.RowKit Go.Proofs.Ytcfbcoinbecdfaa.P Go.Proofs.YtcfbcoinbecdfaaW.PrintWords
theorem chold_len {c : S25} {id n : Int} (h : c.f5.length ≤ 70) : (chold c id n).1.f5.length ≤ 71 := by
  unfold chold
  split
  · show (ins hk ⟨id, n⟩ c.f5).length ≤ 71
    rw [ins_length]; omega
  · show ([] : List S44).length ≤ 71; decide
theorem cend_len {c : S25} {id : Int} {b : Bool} (h : c.f5.length ≤ 70) : (cend c id b).1.f5.length ≤ 71 := by
  unfold cend
  split
  · cases hl : look hk id c.f5 with
    | none => show ([] : List S44).length ≤ 71; decide
    | some x =>
      have := del_length hl
      show (del hk id c.f5).length ≤ 71; omega
  · show ([] : List S44).length ≤ 71; decide
theorem cpush_len {c : S25} {n : Int} (h : c.f5.length ≤ 70) : (cpush c n).1.f5.length ≤ 71 := by
  unfold cpush
  split
  · show c.f5.length ≤ 71; omega
  · show ([] : List S44).length ≤ 71; decide
theorem cclose_len {c : S25} : (cclose c).1.f5.length ≤ 71 := by
  unfold cclose
  split
  · show ([] : List S44).length ≤ 71; decide
  · show ([] : List S44).length ≤ 71; decide
theorem channelDoes : damsonlaw09_ChannelDoes.Pure := by
  intro c id n gc wi wn
  have g := cb_of gc
  have g' := g
  obtain ⟨g1, g2, g3, g4, gn⟩ := g'
  have n0 := (wf_u64 wn).1
  apply Ev.rounds
  unfold damsonlaw09_ChannelDoes.f damsonlaw09_ChannelDoes.g damsonlaw09_ChannelDoes.b
  refine Ev.bind live09 (ev_pos rfl (ev_if (fun _ => ev_some rfl) (fun hl70 => ?_)))
  have hl : c.f5.length ≤ 70 := by
    have : ¬ 70 < c.f5.length := hl70
    omega
  have e8 : ∀ {f : Nat → Option (Int × Int × Int × Int × Int × List S44 × Bool × Int)} {p : S25 × Int}, Ev f (tup p) → Ev (fun k => (f k).bind fun r => some (pk8 r)) p := fun h => Ev.bind h (ev_some rfl)
  have e9 : ∀ {f : Nat → Option (Int × Int × Int × Int × Int × List S44 × Bool × Int × Int)} {p : S25 × Int × Int}, Ev f (tup2 p) → Ev (fun k => (f k).bind fun r => some (pk9 r)) p := fun h => Ev.bind h (ev_some rfl)
  refine Ev.bind (a := c) (ev_const (by rw [rcopy_eq c (by omega)]; rfl)) ?_
  refine Ev.bind (e8 (hold_ev c id n g1 g2 g3 g4 gn (by omega) n0)) (Ev.bind (e8 (rhold_ev c id n g n0)) ?_)
  refine Ev.bind (e9 (settle_ev c id g)) (Ev.bind (e9 (rsettle_ev c id g)) ?_)
  refine Ev.bind (e9 (fail_ev c id g)) (Ev.bind (e9 (rfail_ev c id g)) ?_)
  refine Ev.bind (e8 (push_ev c n g n0)) (Ev.bind (e8 (rpush_ev c n g n0)) ?_)
  refine Ev.bind (e8 (close_ev c g)) (Ev.bind (e8 (rclose_ev c g)) ?_)
  have b : ∀ {m : Nat}, m ≤ 71 → m ≤ 140737488351232 := fun h => by omega
  refine Ev.bind (rsame_refl _ (b (chold_len hl))) (Ev.bind (rsame_refl _ (b (cend_len hl))) (Ev.bind (rsame_refl _ (b (cend_len hl))) (Ev.bind (rsame_refl _ (b (cpush_len hl))) (Ev.bind (rsame_refl _ (b cclose_len)) (Ev.bind (rsame_refl c (by omega)) ?_)))))
  exact ev_pos ⟨rfl, rfl, rfl, rfl, rfl, rfl, rfl, rfl, rfl, rfl⟩ (ev_some rfl)
end Go.Proofs.Ytcfbcoinbecdfaa.B
theorem Go.Proofs.Ytcfbcoinbecdfaa.Pure.ChannelDoes : Go.Proofs.Ytcfbcoinbecdfaa.P.damsonlaw09_ChannelDoes.Pure := Go.Proofs.Ytcfbcoinbecdfaa.B.channelDoes
