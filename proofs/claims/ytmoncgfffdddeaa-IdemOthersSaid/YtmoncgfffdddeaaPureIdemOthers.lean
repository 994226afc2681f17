/- What is put in leaves the others alone, and the order in which two are put in does not matter. -/
import Derived.Test.YtmoncgfffdddeaaIOtNS
import Derived.Test.YtmoncgfffdddeaaQIOthersx6
set_option linter.unusedVariables false
namespace Go.Proofs.Ytmoncgfffdddeaa.B
open Go.RowKit Go.Proofs.Ytmoncgfffdddeaa.P Go.Proofs.YtmoncgfffdddeaaW.PrintWords
theorem keep_ins {l : List S26} {x : S26} {t : Int} (h : nok (ins nk x (keep t l)) = true) (hx : t ≤ x.f3) : keep t (ins nk x (keep t l)) = ins nk x (keep t l) := by
  unfold keep
  rw [List.filter_eq_self]
  intro y hy
  rw [decide_eq_true_eq]
  rcases mem_ins.1 hy with rfl | hy
  · exact hx
  · exact (mem_keep.1 hy).2
theorem nothers_j1 (l : List S26) (x y : S26) (t : Int) (hx : (nput l x t).2 = 0) (hne : x.f0 ≠ y.f0) (tx : t ≤ x.f3) (ty : t ≤ y.f3) : Ev (fun k => damsonlaw14_IdemOthers.j1 k l t (ins nk x (keep t l)) false x.f0 x.f1 x.f2 x.f3 y.f0 y.f1 y.f2 y.f3) true := by
  refine Ev.step (fun k => by rw [damsonlaw14_IdemOthers.j1]) (ev_neg (by decide) ?_)
  obtain ⟨p1, p2, p3, p4, p5, p6⟩ := put_ok hx
  refine Ev.bind (nput_ev l y t) ?_
  by_cases e : (nput l y t).2 = 0
  · obtain ⟨q1, q2, q3, q4, q5, q6⟩ := put_ok e
    refine ev_pos e ?_
    rw [q5]
    have hs := (nok_iff.1 (nok_keep p1 t)).2.1
    have kx := keep_ins p6 tx
    have ky := keep_ins q6 ty
    have a1 : nput (ins nk x (keep t l)) y t = if (keep t l).length = 127 then ([], 7) else (ins nk y (ins nk x (keep t l)), 0) := by
      unfold nput
      rw [p6, q2, kx, look_ins, if_neg hne, q3, ins_length]
      by_cases c : (keep t l).length = 127
      · rw [if_pos c, c]; rfl
      · rw [if_neg c]
        rw [if_pos (by rfl), if_neg (by decide), if_neg (by omega)]
    have a2 : nput (ins nk y (keep t l)) x t = if (keep t l).length = 127 then ([], 7) else (ins nk y (ins nk x (keep t l)), 0) := by
      unfold nput
      rw [q6, p2, ky, look_ins, if_neg (show ¬ (nk y = x.f0) from fun h => hne h.symm), p3, ins_length, ins_comm hs p3 q3 hne]
      by_cases c : (keep t l).length = 127
      · rw [if_pos c, c]; rfl
      · rw [if_neg c]
        rw [if_pos (by rfl), if_neg (by decide), if_neg (by omega)]
    refine Ev.bind (a1 ▸ nput_ev (ins nk x (keep t l)) y t) (Ev.bind (a2 ▸ nput_ev (ins nk y (keep t l)) x t) (ev_pos rfl ?_))
    by_cases c : (keep t l).length = 127
    · rw [if_pos c]
      exact Ev.bind (nsame_ev [] (by simp)) (ev_pos rfl (ev_neg (by decide) (ev_some rfl)))
    · rw [if_neg c]
      exact Ev.bind (nsame_ev _ (by rw [ins_length, ins_length]; omega)) (ev_pos rfl (ev_pos rfl (ev_some rfl)))
  · refine ev_neg e (ev_some ?_)
    rw [put_no e]; rfl
theorem nothers_j0 (l : List S26) (x y : S26) (t : Int) (p : List Int) (b : Bool) (hb : b = false → x.f0 ≠ y.f0 ∧ t ≤ x.f3 ∧ t ≤ y.f3) : Ev (fun k => damsonlaw14_IdemOthers.j0 k l t p b x.f0 x.f1 x.f2 x.f3 y.f0 y.f1 y.f2 y.f3) true := by
  refine Ev.step (fun k => by rw [damsonlaw14_IdemOthers.j0]) (ev_if (fun _ => Ev.now _) (fun hb2 => ?_))
  obtain ⟨hne, tx, ty⟩ := hb (by simpa using hb2)
  refine Ev.bind (nput_ev l x t) ?_
  by_cases e : (nput l x t).2 = 0
  · obtain ⟨p1, p2, p3, p4, p5, p6⟩ := put_ok e
    refine ev_pos e ?_
    rw [p5]
    have e1 : nlook (ins nk x (keep t l)) y.f0 p t = nlook l y.f0 p t := by
      unfold nlook
      rw [if_pos p6, if_pos p1, keep_ins p6 tx, look_ins, if_neg hne]
    refine Ev.bind (nlook_ev l y.f0 p t) (Ev.bind (e1 ▸ nlook_ev (ins nk x (keep t l)) y.f0 p t) (ev_pos rfl ?_))
    simp only [same_eq, Option.bind_some, sb_refl]
    exact nothers_j1 l x y t e hne tx ty
  · refine ev_neg e (ev_some ?_)
    rw [put_no e]; rfl
theorem idemOthers : damsonlaw14_IdemOthers.Pure := by
  intro l x y t p w1
  intros
  apply Ev.rounds
  unfold damsonlaw14_IdemOthers.f
  refine Ev.bind live14 (ev_pos rfl ?_)
  obtain ⟨b, hb, _⟩ := nfew_ev l w1.1
  obtain ⟨d, hd⟩ := nshorts_ev [x.f1, x.f2, y.f1, y.f2, p] (by simp)
  have j := nothers_j0 l x y t p
  have jt := j true (fun h => by cases h)
  refine Ev.bind hb (ev_if (fun _ => Ev.bind hd (ev_if (fun _ => ev_if (fun _ => jt) (fun c1 => ev_if (fun _ => jt) (fun c2 => j _ (fun h => ?_)))) (fun _ => jt))) (fun _ => jt))
  have h2 := of_decide_eq_false h
  exact ⟨c1, by omega, by omega⟩
end Go.Proofs.Ytmoncgfffdddeaa.B
theorem Go.Proofs.Ytmoncgfffdddeaa.Pure.IdemOthers : Go.Proofs.Ytmoncgfffdddeaa.P.damsonlaw14_IdemOthers.Pure := Go.Proofs.Ytmoncgfffdddeaa.B.idemOthers
