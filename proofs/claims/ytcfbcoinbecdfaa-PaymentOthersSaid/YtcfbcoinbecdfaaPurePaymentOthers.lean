/- The end of one payment changes no other one; two ends, in whatever order, leave the same. -/
import Derived.Test.YtcfbcoinbecdfaaOthPYG
import Derived.Test.YtcfbcoinbecdfaaQOthx5
import Derived.Test.YtcfbcoinbecdfaaQOthx6
set_option linter.unusedVariables false
namespace Go.Proofs.Ytcfbcoinbecdfaa.B
open Go.RowKit Go.Proofs.Ytcfbcoinbecdfaa.P Go.Proofs.YtcfbcoinbecdfaaW.PrintWords
theorem psame_loop (l : List S74) (hl : l.length ≤ 140737488351232) : ∀ (ys : List S74) (i : Nat), l.drop i = ys → Ev (fun k => slices_Equal_Payment.l0 k l l (l.length : Int) (i : Int)) true
  | [], i, h => by
    have hi := drop_nil h
    exact Ev.step (f := fun _ => some true) (fun k => by rw [slices_Equal_Payment.l0, if_neg (by omega)]) (ev_some rfl)
  | y :: ys, i, h => by
    have hi := drop_lt h
    have ih := psame_loop l hl ys (i + 1) (drop_next h)
    refine Ev.step (f := fun k => slices_Equal_Payment.l0 k l l (l.length : Int) ((i + 1 : Nat) : Int)) (fun k => ?_) ih
    rw [slices_Equal_Payment.l0, if_pos (by omega), if_pos (by omega), if_pos (by omega), if_pos (by omega), next_i hi hl]
    simp
theorem psame_ev (l : List S74) (hl : l.length ≤ 140737488351232) : Ev (fun k => payment_Same.f k l l) true := by
  unfold payment_Same.f slices_Equal_Payment.f
  exact Ev.bind (ev_pos rfl (psame_loop l hl l 0 rfl)) (Ev.now _)
theorem pupd_comm {l : List S74} {a b s t : Int} (hs : Srt pk l) (hne : a ≠ b) : upd pk b (pset t) (upd pk a (pset s) l) = upd pk a (pset s) (upd pk b (pset t) l) := by
  refine srt_ext (srt_upd (f := pset t) (fun _ => rfl) (srt_upd (f := pset s) (fun _ => rfl) hs)) (srt_upd (f := pset s) (fun _ => rfl) (srt_upd (f := pset t) (fun _ => rfl) hs)) (fun q => ?_)
  rw [plook_upd, plook_upd, plook_upd, plook_upd, plook_upd, plook_upd]
  by_cases h1 : q = a
  · subst h1
    rw [if_neg hne, if_pos rfl, if_pos rfl, if_neg hne]
  · by_cases h2 : q = b
    · subst h2
      rw [if_pos rfl, if_neg h1, if_neg h1, if_pos rfl]
    · rw [if_neg h1, if_neg h2, if_neg h1, if_neg h2]
theorem paymentOthers : damsonlaw13_PaymentOthers.Pure := by
  intro l id o paid done hl w1 w2
  apply Ev.rounds
  unfold damsonlaw13_PaymentOthers.f
  simp only [few_eq, Option.bind_some]
  have core : ∀ w, (w = false → id ≠ o ∧ l.length ≤ 258) → Ev (fun k => damsonlaw13_PaymentOthers.j0 k l id o paid done w) true := by
    intro w hw
    refine Ev.step (fun k => by rw [damsonlaw13_PaymentOthers.j0]) (ev_if (fun _ => ev_some rfl) (fun hw0 => ?_))
    obtain ⟨hne, hlen⟩ := hw (by simpa using hw0)
    refine Ev.bind (pend_ev l id paid) (ev_if (fun e => ?_) (fun e => ?_))
    · obtain ⟨hi, x, hx, hx1, hm⟩ := pend_ok e
      obtain ⟨a1, a2, a3⟩ := pok_iff.1 hi
      rw [hm]
      have hp : ∀ b : Bool, (1 : Int) ≤ (if b then 2 else 3) ∧ (if b then (2 : Int) else 3) ≤ 3 := by intro b; cases b <;> decide
      have him := pok_upd (h := id) hi (hp paid).1 (hp paid).2
      have hg : pget (upd pk id (pset (if paid then 2 else 3)) l) o = pget l o := pget_same hi him (by rw [plook_upd, if_neg (fun h => hne h.symm)])
      refine Ev.bind (pget_ev l o) (Ev.bind (pget_ev _ o) ?_)
      rw [hg]
      have hj : Ev (fun k => damsonlaw13_PaymentOthers.j1 k l id o paid done (upd pk id (pset (if paid then 2 else 3)) l) false) true := by
        refine Ev.step (fun k => by rw [damsonlaw13_PaymentOthers.j1]) (ev_neg (by decide) ?_)
        refine Ev.bind (pend_ev _ o done) (Ev.bind (pend_ev l o done) ?_)
        have hlo : look pk o (upd pk id (pset (if paid then 2 else 3)) l) = look pk o l := by rw [plook_upd, if_neg (fun h => hne h.symm)]
        cases ho : look pk o l with
        | none =>
          rw [pend_none him (by rw [hlo]; exact ho), pend_none hi ho]
          exact ev_neg (by decide) (ev_some rfl)
        | some y =>
          rw [pend_eq him (by rw [hlo]; exact ho), pend_eq hi ho]
          by_cases y1 : y.f4 = 1
          · rw [if_pos y1, if_pos y1]
            have hio := pok_upd (h := o) hi (hp done).1 (hp done).2
            refine ev_pos rfl (Ev.bind (pend_ev _ id paid) ?_)
            rw [pend_eq hio (x := x) (by rw [plook_upd, if_neg hne]; exact hx), if_pos hx1]
            refine ev_pos rfl (ev_pos rfl ?_)
            rw [pupd_comm a2 hne]
            exact Ev.bind (psame_ev _ (by rw [upd_length, upd_length]; omega)) (Ev.now _)
          · rw [if_neg y1, if_neg y1]
            exact ev_neg (by decide) (ev_some rfl)
      refine ev_pos rfl (ev_neg (by simp) ?_)
      rw [upd_length, bne_self_eq_false]
      exact hj
    · rw [pend_no e]
      exact ev_some rfl
  refine Ev.bind live13 (ev_pos rfl (ev_if (fun hf => core _ (fun hd => ⟨by simpa using hd, pfew_le hf⟩)) (fun _ => core true (fun hd => by simp at hd))))
end Go.Proofs.Ytcfbcoinbecdfaa.B
theorem Go.Proofs.Ytcfbcoinbecdfaa.Pure.PaymentOthers : Go.Proofs.Ytcfbcoinbecdfaa.P.damsonlaw13_PaymentOthers.Pure := Go.Proofs.Ytcfbcoinbecdfaa.B.paymentOthers
