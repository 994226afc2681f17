/- What is too old is not found, and a new one may stand in its place. -/
import Derived.Test.YtmoncgfffdddeaaIOlN
import Derived.Test.YtmoncgfffdddeaaQIOldx5
set_option linter.unusedVariables false
namespace Go.Proofs.Ytmoncgfffdddeaa.B
open Go.RowKit Go.Proofs.Ytmoncgfffdddeaa.P Go.Proofs.YtmoncgfffdddeaaW.PrintWords
theorem mn_le (a b : Int) : mn a b ≤ b := by unfold mn; split <;> omega
theorem nput_mid {l : List S26} {x : S26} {t : Int} (hl : nok l = true) (hn : look nk x.f0 (keep t l) = none) : (nput l x t).2 = 0 ∨ (nput l x t).2 = 1 ∨ (nput l x t).2 = 7 := by
  unfold nput
  rw [hn]
  split
  · rw [if_neg (by simp)]
    split
    · exact .inr (.inr rfl)
    · exact .inl rfl
  · exact .inr (.inl rfl)
theorem nold_j2 (m : List S26) (y : S26) (t2 : Int) (hm : nok m = true) : Ev (fun k => damsonlaw14_IdemOld.j2 k t2 (nput m y t2).1 (nput m y t2).2 false y.f0 y.f1 y.f2 y.f3) true := by
  refine Ev.step (fun k => by rw [damsonlaw14_IdemOld.j2]) (ev_neg (by decide) ?_)
  by_cases e : (nput m y t2).2 = 0
  · obtain ⟨p1, p2, p3, p4, p5, p6⟩ := put_ok e
    refine ev_pos e ?_
    rw [p5]
    have hk : look nk y.f0 (keep (mn t2 y.f3) (ins nk y (keep t2 m))) = some y := by
      rw [look_keep (nok_iff.1 p6).2.1, look_ins, if_pos rfl]
      simp [Option.filter, mn_le]
    have e2 : nlook (ins nk y (keep t2 m)) y.f0 y.f1 (mn t2 y.f3) = (y.f2, 0) := by
      unfold nlook
      rw [if_pos p6, hk]
      show (if sb y.f1 y.f1 = true then _ else _) = _
      rw [sb_refl]; rfl
    refine Ev.bind (e2 ▸ nlook_ev (ins nk y (keep t2 m)) y.f0 y.f1 (mn t2 y.f3)) (ev_pos rfl ?_)
    simp only [same_eq, Option.bind_some, sb_refl]
    exact Ev.now _
  · refine ev_neg e (ev_some ?_)
    rw [put_no e]; rfl
theorem nold_j1 (m : List S26) (x y : S26) (t2 : Int) (hm : nok m = true) (b : Bool) (hb : b = false → look nk x.f0 (keep t2 m) = none) : Ev (fun k => damsonlaw14_IdemOld.j1 k t2 m b x.f0 x.f1 x.f2 x.f3 y.f0 y.f1 y.f2 y.f3) true := by
  refine Ev.step (fun k => by rw [damsonlaw14_IdemOld.j1]) (ev_if (fun _ => Ev.now _) (fun hb2 => ?_))
  have hn := hb (by simpa using hb2)
  have e1 : nlook m x.f0 x.f1 t2 = ([], 5) := by unfold nlook; rw [if_pos hm, hn]
  refine Ev.bind (e1 ▸ nlook_ev m x.f0 x.f1 t2) ?_
  refine Ev.bind (nput_ev m ⟨x.f0, y.f1, y.f2, y.f3⟩ t2) (ev_pos rfl ?_)
  have hj := nold_j2 m ⟨x.f0, y.f1, y.f2, y.f3⟩ t2 hm
  rcases nput_mid (x := ⟨x.f0, y.f1, y.f2, y.f3⟩) hm hn with e | e | e
  · exact ev_pos e hj
  · exact ev_neg (by rw [e]; decide) (ev_pos e hj)
  · refine ev_neg (by rw [e]; decide) (ev_neg (by rw [e]; decide) ?_)
    have : ((nput m ⟨x.f0, y.f1, y.f2, y.f3⟩ t2).2 != 7) = false := by rw [e]; rfl
    rw [this]; exact hj
theorem nold_j0 (l : List S26) (x y : S26) (t t2 : Int) (b : Bool) : Ev (fun k => damsonlaw14_IdemOld.j0 k l t t2 b x.f0 x.f1 x.f2 x.f3 y.f0 y.f1 y.f2 y.f3) true := by
  refine Ev.step (fun k => by rw [damsonlaw14_IdemOld.j0]) (ev_if (fun _ => Ev.now _) (fun _ => ?_))
  refine Ev.bind (nput_ev l x t) ?_
  by_cases e : (nput l x t).2 = 0
  · obtain ⟨p1, p2, p3, p4, p5, p6⟩ := put_ok e
    refine ev_pos e ?_
    rw [p5]
    refine nold_j1 _ x y t2 p6 _ (fun h => ?_)
    have h2 := of_decide_eq_false h
    rw [look_keep (nok_iff.1 p6).2.1, look_ins, if_pos rfl]
    simp [Option.filter, h2]
  · refine ev_neg e ?_
    rw [put_no e]
    exact nold_j1 [] x y t2 (by decide) true (fun h => by cases h)
theorem idemOld : damsonlaw14_IdemOld.Pure := by
  intro l x y t t2 w1
  intros
  apply Ev.rounds
  unfold damsonlaw14_IdemOld.f
  refine Ev.bind live14 (ev_pos rfl ?_)
  obtain ⟨b, hb, _⟩ := nfew_ev l w1.1
  obtain ⟨d, hd⟩ := nshorts_ev [x.f1, x.f2, y.f1, y.f2] (by simp)
  refine Ev.bind hb (ev_if (fun _ => Ev.bind hd ?_) (fun _ => ?_))
  · exact nold_j0 l x y t t2 _
  · exact nold_j0 l x y t t2 _
end Go.Proofs.Ytmoncgfffdddeaa.B
theorem Go.Proofs.Ytmoncgfffdddeaa.Pure.IdemOld : Go.Proofs.Ytmoncgfffdddeaa.P.damsonlaw14_IdemOld.Pure := Go.Proofs.Ytmoncgfffdddeaa.B.idemOld
