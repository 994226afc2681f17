/- Plain laws of the package channel: how much can be held. -/
import Derived.Test.YtcfbcoinbecdfaaTellsC
import Derived.Test.YtcfbcoinbecdfaaTellsS
import Derived.Test.YtcfbcoinbecdfaaQTellsx5
set_option linter.unusedVariables false
namespace Go.Proofs.Ytcfbcoinbecdfaa.B
open Go.RowKit Go.Proofs.Ytcfbcoinbecdfaa.P Go.Proofs.YtcfbcoinbecdfaaW.PrintWords
def croom (c : S25) : Int × Int := if cok c = true then (if c.f6 = false ∨ c.f5.length = 64 ∨ c.f1 < c.f3 then (0, 0) else (mn (c.f1 - c.f3) (c.f4 - tot c.f5), 0)) else (0, 1)
theorem room_ev (c : S25) (h1 : 0 ≤ c.f1) (h2 : 0 ≤ c.f2) (h3 : 0 ≤ c.f3) (h4 : 0 ≤ c.f4) (hn : ∀ y ∈ c.f5, 0 ≤ y.f1) : Ev (fun k => channel_Room.f k c.f0 c.f1 c.f2 c.f3 c.f4 c.f5 c.f6) (croom c) := by
  unfold channel_Room.f croom
  refine Ev.bind (sums_ev c h1 h2 h4 hn) ?_
  unfold csums
  by_cases ok : cok c = true
  · obtain ⟨⟨a1, a2, a3, a4⟩, ⟨a5, a6⟩, a7, a8, a9, a10⟩ := cok_iff.1 ok
    have ht := tot_nonneg hn
    rw [if_pos ok, if_pos ok]
    refine ev_pos rfl ?_
    by_cases o : c.f6 = true
    · refine ev_pos o (Ev.step (fun k => by rw [channel_Room.j0]) ?_)
      by_cases l : c.f5.length = 64
      · rw [if_pos (.inr (.inl l))]
        exact ev_pos (by rw [l]; rfl) (ev_some rfl)
      · refine ev_neg (by simp; omega) (Ev.bind (sub_ev c.f1 c.f3 h1 h3) ?_)
        have hm : msub c.f1 c.f3 = if c.f1 < c.f3 then (0, 9) else (c.f1 - c.f3, 0) := by unfold msub; rw [if_pos ⟨a8, a1⟩]
        by_cases p : c.f1 < c.f3
        · rw [show msub c.f1 c.f3 = (0, 9) from hm.trans (if_pos p), show (if c.f6 = false ∨ c.f5.length = 64 ∨ c.f1 < c.f3 then ((0 : Int), (0 : Int)) else (mn (c.f1 - c.f3) (c.f4 - tot c.f5), 0)) = (0, 0) from if_pos (.inr (.inr p))]
          exact ev_pos rfl (ev_some rfl)
        · rw [show msub c.f1 c.f3 = (c.f1 - c.f3, 0) from hm.trans (if_neg p), show (if c.f6 = false ∨ c.f5.length = 64 ∨ c.f1 < c.f3 then ((0 : Int), (0 : Int)) else (mn (c.f1 - c.f3) (c.f4 - tot c.f5), 0)) = (mn (c.f1 - c.f3) (c.f4 - tot c.f5), 0) from if_neg (by rw [o]; simp; omega), u64w (by omega) (by omega)]
          exact ev_neg (by show ¬ (0 : Int) = 9; decide) (ev_some rfl)
    · rw [if_pos (.inl (by simpa using o))]
      exact ev_neg o (Ev.step (fun k => by rw [channel_Room.j0]) (ev_pos rfl (ev_some rfl)))
  · rw [if_neg ok, if_neg ok]
    exact ev_neg (by decide) (Ev.step (fun k => by rw [channel_Room.j0]) (ev_pos rfl (ev_some rfl)))
theorem croom_ok {c : S25} (ok : cok c = true) : croom c = (if c.f6 = false ∨ c.f5.length = 64 ∨ c.f1 < c.f3 then 0 else mn (c.f1 - c.f3) (c.f4 - tot c.f5), 0) := by
  unfold croom
  rw [if_pos ok]
  split <;> rfl
theorem croom_no {c : S25} (ok : ¬ cok c = true) : croom c = (0, 1) := by
  unfold croom
  rw [if_neg ok]
end Go.Proofs.Ytcfbcoinbecdfaa.B
