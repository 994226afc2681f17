/- As much as there is room for can be held, and no more. -/
import Derived.Test.YtcfbcoinbecdfaaRoomCH
import Derived.Test.YtcfbcoinbecdfaaRoomS
import Derived.Test.YtcfbcoinbecdfaaQRoomx5
import Derived.Test.YtcfbcoinbecdfaaQRoomx4
set_option linter.unusedVariables false
namespace Go.Proofs.Ytcfbcoinbecdfaa.B
open Go.RowKit Go.Proofs.Ytcfbcoinbecdfaa.P Go.Proofs.YtcfbcoinbecdfaaW.PrintWords
theorem live09 : Ev (fun k => damsonlaw09_live.f k) true := Ev.of damsonlaw09_live.mono (k := 30) (by decide +kernel)
def croom (c : S25) : Int × Int := if cok c = true then (if c.f6 = false ∨ c.f5.length = 64 ∨ c.f1 < c.f3 then (0, 0) else (mn (c.f1 - c.f3) (c.f4 - tot c.f5), 0)) else (0, 1)
theorem room_ev (c : S25) (h1 : 0 ≤ c.f1) (h2 : 0 ≤ c.f2) (h3 : 0 ≤ c.f3) (h4 : 0 ≤ c.f4) (hn : ∀ y ∈ c.f5, 0 ≤ y.f1) : Ev (fun k => channel_Room.f k c.f0 c.f1 c.f2 c.f3 c.f4 c.f5 c.f6) (croom c) := by
  unfold channel_Room.f croom
  refine Ev.bind (sums_ev c h1 h2 h4 hn) ?_
  unfold csums
  by_cases ok : cok c = true
  · obtain ⟨⟨a1, a2, a3, a4⟩, ⟨a5, a6⟩, a7, a8, a9, a10⟩ := cok_iff.1 ok
    have ht := tot_nonneg hn
    rw [if_pos ok, if_pos ok]
    refine ev_pos rfl ?_
    by_cases o : c.f6 = true
    · refine ev_pos o (Ev.step (fun k => by rw [channel_Room.j0]) ?_)
      by_cases l : c.f5.length = 64
      · rw [if_pos (.inr (.inl l))]
        exact ev_pos (by rw [l]; rfl) (ev_some rfl)
      · refine ev_neg (by simp; omega) (Ev.bind (sub_ev c.f1 c.f3 h1 h3) ?_)
        have hm : msub c.f1 c.f3 = if c.f1 < c.f3 then (0, 9) else (c.f1 - c.f3, 0) := by unfold msub; rw [if_pos ⟨a8, a1⟩]
        by_cases p : c.f1 < c.f3
        · rw [show msub c.f1 c.f3 = (0, 9) from hm.trans (if_pos p), show (if c.f6 = false ∨ c.f5.length = 64 ∨ c.f1 < c.f3 then ((0 : Int), (0 : Int)) else (mn (c.f1 - c.f3) (c.f4 - tot c.f5), 0)) = (0, 0) from if_pos (.inr (.inr p))]
          exact ev_pos rfl (ev_some rfl)
        · rw [show msub c.f1 c.f3 = (c.f1 - c.f3, 0) from hm.trans (if_neg p), show (if c.f6 = false ∨ c.f5.length = 64 ∨ c.f1 < c.f3 then ((0 : Int), (0 : Int)) else (mn (c.f1 - c.f3) (c.f4 - tot c.f5), 0)) = (mn (c.f1 - c.f3) (c.f4 - tot c.f5), 0) from if_neg (by rw [o]; simp; omega), u64w (by omega) (by omega)]
          exact ev_neg (by show ¬ (0 : Int) = 9; decide) (ev_some rfl)
    · rw [if_pos (.inl (by simpa using o))]
      exact ev_neg o (Ev.step (fun k => by rw [channel_Room.j0]) (ev_pos rfl (ev_some rfl)))
  · rw [if_neg ok, if_neg ok]
    exact ev_neg (by decide) (Ev.step (fun k => by rw [channel_Room.j0]) (ev_pos rfl (ev_some rfl)))
theorem croom_ok {c : S25} (ok : cok c = true) : croom c = (if c.f6 = false ∨ c.f5.length = 64 ∨ c.f1 < c.f3 then 0 else mn (c.f1 - c.f3) (c.f4 - tot c.f5), 0) := by
  unfold croom
  rw [if_pos ok]
  split <;> rfl
theorem croom_no {c : S25} (ok : ¬ cok c = true) : croom c = (0, 1) := by
  unfold croom
  rw [if_neg ok]
theorem channelRoom : damsonlaw09_ChannelRoom.Pure := by
  intro c id n g w1 w2
  obtain ⟨h0, h1, h2, h3, h4, hn⟩ := cbounds g
  have n0 := (wf_u64 w2).1
  apply Ev.rounds
  unfold damsonlaw09_ChannelRoom.f
  refine Ev.bind live09 (ev_pos rfl (ev_if (fun _ => ev_some rfl) (fun hl => ?_)))
  refine Ev.bind (room_ev c h1 h2 h3 h4 hn) (Ev.bind (hold_ev c id n h1 h2 h3 h4 hn (by omega) n0) (ev_const ?_))
  have ev2 : (tup (chold c id n)).2.2.2.2.2.2.2 = choldE c id n := by
    show (chold c id n).2 = _
    unfold chold
    split
    · rename_i h; exact h.symm
    · rfl
  rw [ev2]
  have fin : ∀ e r : Int, choldE c id n = e → croom c = (r, 0) → (n = 0 ∨ n > 4611686018427387904 → e = 1) → (¬ (n = 0 ∨ n > 4611686018427387904) → e = 6 ∨ ((e == 0) == decide (n ≤ r)) = true) → (if (croom c).2 = 0 then (if n = 0 then (some (choldE c id n == 1)) else (if n > 4611686018427387904 then (some (choldE c id n == 1)) else (if choldE c id n = 6 then (some true) else (some ((choldE c id n == 0) == (decide (n ≤ (croom c).1))))))) else (some (choldE c id n == 1))) = some true := by
    intro e r hE hR h1 h2
    rw [hE, hR, if_pos rfl]
    by_cases z : n = 0
    · rw [if_pos z, h1 (.inl z)]; rfl
    · rw [if_neg z]
      by_cases m : n > 4611686018427387904
      · rw [if_pos m, h1 (.inr m)]; rfl
      · rw [if_neg m]
        rcases h2 (fun h => h.elim z m) with h | h
        · rw [if_pos h]
        · by_cases q : e = 6
          · rw [if_pos q]
          · rw [if_neg q]; exact congrArg some h
  by_cases ok : cok c = true
  · have hr := croom_ok ok
    by_cases z : 0 < n ∧ n ≤ 4611686018427387904
    · have hg : cok c = true ∧ 0 < n ∧ n ≤ 4611686018427387904 := ⟨ok, z⟩
      have hno : ¬ (n = 0 ∨ n > 4611686018427387904) := by omega
      by_cases o : c.f6 = false
      · exact fin 14 0 (by unfold choldE; rw [if_pos hg, if_pos o]) (hr.trans (by rw [if_pos (.inl o)])) (fun h => absurd h hno) (fun _ => .inr (by rw [decide_eq_false (by omega)]; rfl))
      · by_cases s : (look hk id c.f5).isSome = true
        · exact fin 6 _ (by unfold choldE; rw [if_pos hg, if_neg o, if_pos s]) hr (fun h => absurd h hno) (fun _ => .inl rfl)
        · by_cases l : c.f5.length = 64
          · exact fin 7 0 (by unfold choldE; rw [if_pos hg, if_neg o, if_neg s, if_pos l]) (hr.trans (by rw [if_pos (.inr (.inl l))])) (fun h => absurd h hno) (fun _ => .inr (by rw [decide_eq_false (by omega)]; rfl))
          · by_cases p : c.f1 < c.f3
            · exact fin 9 0 (by unfold choldE; rw [if_pos hg, if_neg o, if_neg s, if_neg l, if_pos (.inl p)]) (hr.trans (by rw [if_pos (.inr (.inr p))])) (fun h => absurd h hno) (fun _ => .inr (by rw [decide_eq_false (by omega)]; rfl))
            · have nr : ¬ (c.f6 = false ∨ c.f5.length = 64 ∨ c.f1 < c.f3) := by
                rintro (h | h | h)
                · exact o h
                · exact l h
                · exact p h
              have hr2 := hr.trans (by rw [if_neg nr])
              have hm : n ≤ mn (c.f1 - c.f3) (c.f4 - tot c.f5) ↔ n ≤ c.f1 - c.f3 ∧ n ≤ c.f4 - tot c.f5 := by unfold mn; split <;> omega
              by_cases p2 : n > c.f1 - c.f3
              · exact fin 9 _ (by unfold choldE; rw [if_pos hg, if_neg o, if_neg s, if_neg l, if_pos (.inr p2)]) hr2 (fun h => absurd h hno) (fun _ => .inr (by rw [decide_eq_false (fun h => by have := (hm.1 h).1; omega)]; rfl))
              · have np : ¬ (c.f1 < c.f3 ∨ n > c.f1 - c.f3) := fun h => h.elim p p2
                by_cases p3 : n > c.f4 - tot c.f5
                · exact fin 8 _ (by unfold choldE; rw [if_pos hg, if_neg o, if_neg s, if_neg l, if_neg np, if_pos p3]) hr2 (fun h => absurd h hno) (fun _ => .inr (by rw [decide_eq_false (fun h => by have := (hm.1 h).2; omega)]; rfl))
                · exact fin 0 _ (by unfold choldE; rw [if_pos hg, if_neg o, if_neg s, if_neg l, if_neg np, if_neg p3]) hr2 (fun h => absurd h hno) (fun _ => .inr (by rw [decide_eq_true (hm.2 ⟨by omega, by omega⟩)]; rfl))
    · exact fin 1 _ (by unfold choldE; rw [if_neg (fun h => z h.2)]) hr (fun _ => rfl) (fun h => by omega)
  · rw [croom_no ok, if_neg (by decide)]
    unfold choldE
    rw [if_neg (fun h => ok h.1)]; rfl
end Go.Proofs.Ytcfbcoinbecdfaa.B
theorem Go.Proofs.Ytcfbcoinbecdfaa.Pure.ChannelRoom : Go.Proofs.Ytcfbcoinbecdfaa.P.damsonlaw09_ChannelRoom.Pure := Go.Proofs.Ytcfbcoinbecdfaa.B.channelRoom
