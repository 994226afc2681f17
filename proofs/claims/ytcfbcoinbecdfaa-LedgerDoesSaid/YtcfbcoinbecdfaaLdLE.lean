/- Plain laws of the package ledger: what an end leaves. -/
import Derived.Test.YtcfbcoinbecdfaaLdLU
import Derived.Test.YtcfbcoinbecdfaaLdCE
import Derived.Test.YtcfbcoinbecdfaaQLdoesx11
import Derived.Test.YtcfbcoinbecdfaaQLdoesx5
set_option linter.unusedVariables false
namespace Go.Proofs.Ytcfbcoinbecdfaa.B
open Go.RowKit Go.Proofs.Ytcfbcoinbecdfaa.P Go.Proofs.YtcfbcoinbecdfaaW.PrintWords
/-- What an end leaves. -/
def lend (l : List S25) (hold : Int) (paid : Bool) : List S25 × Int × Int := if lok l = true then (match lidx hold l with | none => ([], 0, 5) | some j => (upd lk (l.getD j z25).f0 (fun _ => (cend (l.getD j z25) hold paid).1) l, (cend (l.getD j z25) hold paid).2.1, 0)) else ([], 0, 1)
theorem okE_owns {l : List S25} (hg : ∀ c ∈ l, CB c) (ok : lok l = true) : ledger_owns.f l = some l := by
  obtain ⟨h1, h2, _⟩ := (lok_iff hg).1 ok
  unfold ledger_owns.f
  rw [if_pos ⟨by omega, List.all_eq_true.2 (fun c hc => decide_eq_true (by have := cok_len c (h2 c hc); omega))⟩]
theorem lend_ev (l : List S25) (hold : Int) (paid : Bool) (hg : LB l) (hh : 0 ≤ hold ∧ hold < 18446744073709551616) : Ev (fun k => ledger_End.g k l hold paid) (lend l hold paid) := by
  unfold ledger_End.g lend
  refine Ev.bind (lwhere_ev l hold hg hh) ?_
  unfold lwhere
  by_cases ok : lok l = true
  case neg => rw [if_neg ok, if_neg ok]; exact ev_neg (by decide) (ev_some rfl)
  rw [if_pos ok, if_pos ok]
  obtain ⟨h1, h2, h3, h4, h5⟩ := (lok_iff (lb_cb hg)).1 ok
  cases e : lidx hold l with
  | none => exact ev_neg (show ¬ (5 : Int) = 0 by decide) (ev_some rfl)
  | some j =>
    obtain ⟨j1, j2, j3⟩ := lidx_some (z := z25) e
    obtain ⟨c, hc⟩ : ∃ c, c = l.getD j z25 := ⟨_, rfl⟩
    dsimp only
    rw [← hc] at j2 j3 ⊢
    have hl : look lk c.f0 l = some c := look_mem h3 j2
    obtain ⟨p1, p2⟩ := look_at (z := z25) c.f0 h3 hl
    obtain ⟨x, hx⟩ := Option.isSome_iff_exists.1 j3
    have hcok := h2 c j2
    have he : (cend c hold paid).2.2 = 0 := by rw [cend_some hcok hx]
    have hev : Ev (fun k => ledger_End.how k hold paid c) ((cend c hold paid).1, (cend c hold paid).2.1) := by
      unfold ledger_End.how
      cases paid with
      | false => exact Ev.bind (fail_ev c hold (hg c j2).1) (ev_pos he (ev_some rfl))
      | true => exact Ev.bind (settle_ev c hold (hg c j2).1) (ev_pos he (ev_some rfl))
    have hz : Ev (fun k => ledger_change.gN k l c.f0 (ledger_End.how k hold paid)) (upd lk c.f0 (fun _ => (cend c hold paid).1) l, (cend c hold paid).2.1) := by
      unfold ledger_change.gN
      refine Ev.bind (lplace_ev l c.f0 hg) ?_
      unfold lplace
      rw [if_pos ok, hl]
      have e0 : (if (some c).isSome = true then (((pos lk c.f0 l : Nat) : Int), (0 : Int)) else (0, 5)) = (((pos lk c.f0 l : Nat) : Int), 0) := rfl
      rw [e0]
      refine ev_pos rfl (ev_pos ⟨by omega, by omega⟩ ?_)
      rw [rd25, p2]
      refine Ev.bind hev ?_
      rw [okE_owns (lb_cb hg) ok]
      refine Ev.bind (ev_some rfl) (ev_some ?_)
      rw [Int.toNat_natCast, ← set_eq (key := lk) c.f0 (z := z25) (fun _ => (cend c hold paid).1) h3 hl]
    refine ev_pos rfl (Ev.bind hz ?_)
    exact ev_some rfl
end Go.Proofs.Ytcfbcoinbecdfaa.B
