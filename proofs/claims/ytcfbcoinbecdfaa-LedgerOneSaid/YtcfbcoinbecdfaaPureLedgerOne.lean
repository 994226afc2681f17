/- What is done with one channel changes no other one. -/
import Derived.Test.YtcfbcoinbecdfaaLnLHE
import Derived.Test.YtcfbcoinbecdfaaLnLPG
import Derived.Test.YtcfbcoinbecdfaaLnLS
import Derived.Test.YtcfbcoinbecdfaaLnLW
import Derived.Test.YtcfbcoinbecdfaaLnLF
import Derived.Test.YtcfbcoinbecdfaaLnLL
import Derived.Test.YtcfbcoinbecdfaaQLonex9
set_option linter.unusedVariables false
namespace Go.Proofs.Ytcfbcoinbecdfaa.B
open Go.RowKit Go.Proofs.Ytcfbcoinbecdfaa.P Go.Proofs.YtcfbcoinbecdfaaW.PrintWords
theorem lget_len {l : List S25} {id : Int} (h : ∀ c ∈ l, c.f5.length ≤ 1000) : (lget l id).1.f5.length ≤ 1000 := by
  unfold lget
  by_cases ok : lok l = true
  · rw [if_pos ok]
    cases e : look lk id l with
    | none => show ([] : List S44).length ≤ 1000; simp
    | some c => exact h c (look_some e).1
  · rw [if_neg ok]; show ([] : List S44).length ≤ 1000; simp
theorem ledgerOne : damsonlaw10_LedgerOne.Pure := by
  intro l id other hold n gl gi go gh gn
  have hg := lb_of gl.2
  have hh := wf_u64 gh
  have hn := wf_u64 gn
  apply Ev.rounds
  unfold damsonlaw10_LedgerOne.f
  obtain ⟨b1, f1, q1⟩ := few_ev l gl.1
  refine Ev.bind (Ev.of damsonlaw10_live.mono live10) (ev_pos rfl (Ev.bind f1 (ev_if (fun e1 => ?_) (fun _ => ev_some rfl))))
  refine Ev.bind (lget_ev l other hg) (Ev.bind (lhold_ev l id hold n hg hh hn.1) ?_)
  by_cases ke : (lhold l id hold n).2 = 0
  case neg =>
    have h0 : (lhold l id hold n).1.length = 0 := by rw [lhold_err ke]; rfl
    exact ev_neg ke (ev_pos h0 (ev_some rfl))
  obtain ⟨c, d, a, b, m, H⟩ := lhold_held hg hh ke
  have ok := H.ok
  rw [H.v]
  refine ev_pos rfl ?_
  unfold damsonlaw10_LedgerOne.b
  have hf := H.fail hg
  have hd0 : d.f0 = c.f0 := by rw [H.d_]; rfl
  have hid := H.id_
  obtain ⟨z1, z2⟩ := lok_small hg ok
  have hdm : d ∈ m := by rw [H.m_]; simp
  have hlm : ∀ q, q ≠ id → look lk q m = look lk q l := fun q hq => by rw [H.m_, H.l_]; exact look_mid hd0 (by rw [hid]; exact hq)
  have hmid : look lk id m = some d := by
    have := look_at_mid (a := a) (b := b) (d := d) (fun x hx => by rw [hd0, hid]; exact H.ne x hx)
    rw [hd0, hid, ← H.m_] at this
    exact this
  have hlid : look lk id l = some c := by
    have := look_at_mid (a := a) (b := b) (d := c) (fun x hx => by rw [hid]; exact H.ne x hx)
    rw [hid, ← H.l_] at this
    exact this
  have hgm : lget m id = (d, 0) := by unfold lget; rw [if_pos H.okm, hmid]
  have hsame : other ≠ id → lget m other = lget l other := fun q => by unfold lget; rw [if_pos H.okm, if_pos ok, hlm other q]
  have herr : (lget l other).2 = (lget m other).2 := by
    by_cases q : other = id
    · rw [q, hgm]; unfold lget; rw [if_pos ok, hlid]
    · rw [hsame q]
  have hS : Ev (fun k => if other = id then some true else channel_Same.f k (tup (lget l other)).1 (tup (lget l other)).2.1 (tup (lget l other)).2.2.1 (tup (lget l other)).2.2.2.1 (tup (lget l other)).2.2.2.2.1 (tup (lget l other)).2.2.2.2.2.1 (tup (lget l other)).2.2.2.2.2.2.1 (tup (lget m other)).1 (tup (lget m other)).2.1 (tup (lget m other)).2.2.1 (tup (lget m other)).2.2.2.1 (tup (lget m other)).2.2.2.2.1 (tup (lget m other)).2.2.2.2.2.1 (tup (lget m other)).2.2.2.2.2.2.1) true := by
    refine ev_if (fun _ => ev_some rfl) (fun q => ?_)
    rw [hsame q]
    have := lget_len (id := other) z2
    exact ev_eq (csm_ev (lget l other).1 (lget l other).1 (by omega)) (csm_refl _)
  have hY : (lhold m other hold n).2 = 6 ∨ (lhold m other hold n).2 = 5 ∧ (lget l other).2 = 5 := by
    have hw : (lwhere m hold).2 = 0 := by rw [lwhere_of (lb_cb H.lbm) H.okm hdm (look_iff.1 (by rw [H.look]; rfl))]
    unfold lhold lchange
    rw [if_pos H.okm]
    cases e : look lk other m with
    | none =>
      refine .inr ⟨rfl, ?_⟩
      rw [herr]
      unfold lget; rw [if_pos H.okm, e]
    | some x =>
      refine .inl ?_
      dsimp only
      have e2 : (lholdc m hold n x).2 = 6 := by unfold lholdc; rw [if_pos hw]
      rw [if_neg (by omega)]; exact e2
  refine Ev.bind (lget_ev m other H.lbm) (Ev.bind hS (Ev.bind (ev_eq (lget_ev m id H.lbm) (by rw [hgm])) (Ev.bind (ev_eq (lend_ev m hold false H.lbm hh) hf) (Ev.bind (lhold_ev m other hold n H.lbm hh hn.1) (Ev.bind (ev_eq (lsame_ev l l z1 z2) (lsame_refl l)) ?_)))))
  exact ev_pos ⟨herr, rfl, rfl, by show d.f0 = id; rw [hd0, hid], rfl, rfl, rfl, hY⟩ (ev_some rfl)
end Go.Proofs.Ytcfbcoinbecdfaa.B
theorem Go.Proofs.Ytcfbcoinbecdfaa.Pure.LedgerOne : Go.Proofs.Ytcfbcoinbecdfaa.P.damsonlaw10_LedgerOne.Pure := Go.Proofs.Ytcfbcoinbecdfaa.B.ledgerOne
