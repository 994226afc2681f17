/- Plain laws of the package idem: what came first is told as long as it is kept. -/
import Derived.Test.YtmoncgfffdddeaaIFiN
import Derived.Test.YtmoncgfffdddeaaQIFirstx5
set_option linter.unusedVariables false
namespace Go.Proofs.Ytmoncgfffdddeaa.B
open Go.RowKit Go.Proofs.Ytmoncgfffdddeaa.P Go.Proofs.YtmoncgfffdddeaaW.PrintWords
theorem keep_has {m : List S26} {x : S26} {t : Int} (hm : nok m = true) (hx : look nk x.f0 m = some x) (ht : t ≤ x.f3) : look nk x.f0 (keep t m) = some x := by
  rw [look_keep (nok_iff.1 hm).2.1, hx]
  simp [Option.filter, ht]
theorem nlook_has {m : List S26} {x : S26} {t : Int} (hm : nok m = true) (hx : look nk x.f0 m = some x) (ht : t ≤ x.f3) (p : List Int) : nlook m x.f0 p t = if sb x.f1 p then (x.f2, 0) else ([], 12) := by
  unfold nlook
  rw [if_pos hm, keep_has hm hx ht]
theorem nfirst_rounds (x : S26) (p : List Int) : ∀ (zs : List (S26 × Int)) (m : List S26), nok m = true → look nk x.f0 m = some x → Ev (fun k => damsonlaw14_IdemFirst.rounds k x.f0 x.f1 x.f2 x.f3 p zs m) true
  | [], m, hm, hx => Ev.now _
  | (y, t) :: zs, m, hm, hx => by
    have ih := nfirst_rounds x p zs
    show Ev (fun k => if t > x.f3 then some true else (idem_Put.f k m y.f0 y.f1 y.f2 y.f3 t).bind fun a => if y.f0 = x.f0 ∧ a.2 ≠ (if damsonlaw14_IdemFirst.long y = true then 1 else 6) then none else (damsonlaw14_IdemFirst.sw k m t a).bind fun m' => (damsonlaw14_IdemFirst.lk k m' x.f0 x.f1 x.f2 p t).bind fun m2 => damsonlaw14_IdemFirst.rounds k x.f0 x.f1 x.f2 x.f3 p zs m2) true
    refine ev_if (fun _ => Ev.now _) (fun hgt => ?_)
    have ht : t ≤ x.f3 := by omega
    have hk := nok_keep hm t
    have hkx := keep_has hm hx ht
    have LK : ∀ m', nok m' = true → look nk x.f0 m' = some x → Ev (fun k => damsonlaw14_IdemFirst.lk k m' x.f0 x.f1 x.f2 p t) m' := by
      intro m' h1 h2
      unfold damsonlaw14_IdemFirst.lk
      have e1 : nlook m' x.f0 x.f1 t = (x.f2, 0) := by rw [nlook_has h1 h2 ht, sb_refl]; rfl
      have b1 := nlook_ev m' x.f0 x.f1 t
      rw [e1] at b1
      have b2 := nlook_ev m' x.f0 p t
      rw [nlook_has h1 h2 ht] at b2
      refine Ev.bind b1 ?_
      cases hs : sb x.f1 p with
      | true =>
        rw [hs, if_pos rfl] at b2
        exact Ev.bind b2 (Ev.bind (a := true) (ev_const (by rw [same_eq, sb_refl])) (Ev.bind (a := true) (ev_const (by rw [same_eq, sb_symm, hs])) (ev_pos ⟨rfl, rfl, rfl, Or.inl rfl⟩ (Ev.now _))))
      | false =>
        rw [hs, if_neg (by decide)] at b2
        exact Ev.bind b2 (Ev.bind (a := true) (ev_const (by rw [same_eq, sb_refl])) (Ev.bind (a := false) (ev_const (by rw [same_eq, sb_symm, hs])) (ev_pos ⟨rfl, rfl, rfl, Or.inr ⟨rfl, rfl⟩⟩ (Ev.now _))))
    have SW : ∀ a : List S26 × Int, a.2 ≠ 0 → Ev (fun k => damsonlaw14_IdemFirst.sw k m t a) (keep t m) := by
      intro a h0
      unfold damsonlaw14_IdemFirst.sw
      have e1 : nsweep m t = (keep t m, 0) := by unfold nsweep; rw [if_pos hm]
      have b1 := nsweep_ev m t
      rw [e1] at b1
      exact ev_neg h0 (Ev.bind b1 (ev_pos rfl (Ev.now _)))
    refine Ev.bind (nput_ev m y t) ?_
    by_cases e : y.f0 = x.f0
    · cases g : damsonlaw14_IdemFirst.long y with
      | true =>
        have ng : ngood y = false := by
          rw [Bool.eq_false_iff]
          intro h
          have h3 := ngood_iff.1 h
          unfold damsonlaw14_IdemFirst.long at g
          rw [Bool.or_eq_true, decide_eq_true_eq, decide_eq_true_eq] at g
          omega
        have e1 : nput m y t = ([], 1) := by unfold nput; rw [ng, Bool.and_false, if_neg (show ¬ (false = true) by decide)]
        rw [e1]
        exact ev_neg (by intro h; exact h.2 (by rfl)) (Ev.bind (SW ([], 1) (by decide)) (Ev.bind (LK _ hk hkx) (ih _ hk hkx)))
      | false =>
        have ng : ngood y = true := by
          refine ngood_iff.2 ?_
          unfold damsonlaw14_IdemFirst.long at g
          rw [Bool.or_eq_false_iff, decide_eq_false_iff_not, decide_eq_false_iff_not] at g
          omega
        have e1 : nput m y t = ([], 6) := by unfold nput; rw [hm, ng, if_pos (by rfl), e, hkx]; rfl
        rw [e1]
        exact ev_neg (by intro h; exact h.2 (by rfl)) (Ev.bind (SW ([], 6) (by decide)) (Ev.bind (LK _ hk hkx) (ih _ hk hkx)))
    · refine ev_neg (fun h => e h.1) ?_
      by_cases h0 : (nput m y t).2 = 0
      · obtain ⟨p1, p2, p3, p4, p5, p6⟩ := put_ok h0
        have hl : look nk x.f0 (ins nk y (keep t m)) = some x := by rw [look_ins, if_neg e, hkx]
        have s1 : Ev (fun k => damsonlaw14_IdemFirst.sw k m t (nput m y t)) (ins nk y (keep t m)) := by
          unfold damsonlaw14_IdemFirst.sw
          rw [p5]
          exact ev_pos rfl (Ev.now _)
        exact Ev.bind s1 (Ev.bind (LK _ p6 hl) (ih _ p6 hl))
      · exact Ev.bind (SW _ h0) (Ev.bind (LK _ hk hkx) (ih _ hk hkx))
theorem nfirst (l : List S26) (hl : l.length ≤ 9223372036854775807) (x : S26) (t : Int) (more : List S26) (hm : more.length ≤ 9223372036854775807) (l4 p : List Int) : ∃ k, damsonlaw14_IdemFirst.f k l x.f0 x.f1 x.f2 x.f3 t more l4 p = some true := by
  apply Ev.rounds
  unfold damsonlaw14_IdemFirst.f damsonlaw14_IdemFirst.b
  refine Ev.bind live14 (ev_pos rfl ?_)
  obtain ⟨b, hb, _⟩ := nfew_ev l hl
  obtain ⟨d, hd⟩ := nshorts_ev [x.f1, x.f2, p] (by simp)
  obtain ⟨f, hf, hf2⟩ := nfew_ev more hm
  refine Ev.bind hb (ev_if (fun _ => Ev.bind hd (ev_if (fun _ => Ev.bind hf (ev_if (fun _ => ev_if (fun _ => Ev.now _) (fun _ => ?_)) (fun _ => Ev.now _))) (fun _ => Ev.now _))) (fun _ => Ev.now _))
  refine Ev.bind (nput_ev l x t) ?_
  by_cases e : (nput l x t).2 = 0
  · obtain ⟨p1, p2, p3, p4, p5, p6⟩ := put_ok e
    refine ev_pos e ?_
    rw [p5]
    exact nfirst_rounds x p _ _ p6 (by rw [look_ins, if_pos rfl])
  · exact ev_neg e (ev_pos (by rw [put_no e]; rfl) (Ev.now _))
end Go.Proofs.Ytmoncgfffdddeaa.B
