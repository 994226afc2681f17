/- Plain laws of the package ledger: what a change of one of many leaves; what a hold leaves. -/
import Derived.Test.YtcfbcoinbecdfaaLdLU
import Derived.Test.YtcfbcoinbecdfaaLdCH
import Derived.Test.YtcfbcoinbecdfaaQLdoesx8
import Derived.Test.YtcfbcoinbecdfaaQLdoesx5
set_option linter.unusedVariables false
namespace Go.Proofs.Ytcfbcoinbecdfaa.B
open Go.RowKit Go.Proofs.Ytcfbcoinbecdfaa.P Go.Proofs.YtcfbcoinbecdfaaW.PrintWords
theorem ok_owns {l : List S25} (hg : ∀ c ∈ l, CB c) (ok : lok l = true) : ledger_owns.f l = some l := by
  obtain ⟨h1, h2, _⟩ := (lok_iff hg).1 ok
  unfold ledger_owns.f
  rw [if_pos ⟨by omega, List.all_eq_true.2 (fun c hc => decide_eq_true (by have := cok_len c (h2 c hc); omega))⟩]
theorem lchange_ev (l : List S25) (id : Int) (how : Nat → S25 → Option (S25 × Int)) (hw : S25 → S25 × Int) (hg : LB l) (hh : lok l = true → ∀ c ∈ l, Ev (fun k => how k c) (hw c)) : Ev (fun k => ledger_change.g k l id (how k)) (lchange l id hw) := by
  unfold ledger_change.g lchange
  refine Ev.bind (lplace_ev l id hg) ?_
  unfold lplace
  by_cases ok : lok l = true
  case neg => rw [if_neg ok, if_neg ok]; exact ev_neg (by decide) (ev_some rfl)
  rw [if_pos ok, if_pos ok]
  obtain ⟨h1, h2, h3, h4, h5⟩ := (lok_iff (lb_cb hg)).1 ok
  cases e : look lk id l with
  | none => exact ev_neg (show ¬ (5 : Int) = 0 by decide) (ev_some rfl)
  | some c =>
    have e0 : (if (some c).isSome = true then (((pos lk id l : Nat) : Int), (0 : Int)) else (0, 5)) = (((pos lk id l : Nat) : Int), 0) := rfl
    rw [e0]
    obtain ⟨p1, p2⟩ := look_at (z := z25) id h3 e
    refine ev_pos rfl (ev_pos ⟨by omega, by omega⟩ ?_)
    rw [rd25, p2]
    refine Ev.bind (hh ok c (look_some e).1) ?_
    show Ev (fun k => if (hw c).2 = 0 then (ledger_owns.f l).bind fun m => some (m.set ((pos lk id l : Nat) : Int).toNat (hw c).1, (0 : Int)) else some (([] : List S25), (hw c).2)) (if (hw c).2 = 0 then (upd lk id (fun _ => (hw c).1) l, 0) else ([], (hw c).2))
    refine ev_ite (fun _ => ?_) (fun _ => ev_some rfl)
    rw [ok_owns (lb_cb hg) ok]
    refine Ev.bind (ev_some rfl) (ev_some ?_)
    rw [Int.toNat_natCast, ← set_eq (key := lk) id (z := z25) (fun _ => (hw c).1) h3 e]
/-- What a hold does at a channel, and leaves. -/
def lholdc (l : List S25) (hold n : Int) (c : S25) : S25 × Int := if (lwhere l hold).2 = 0 then (c, 6) else chold c hold n
def lhold (l : List S25) (id hold n : Int) : List S25 × Int := lchange l id (lholdc l hold n)
theorem lhold_ev (l : List S25) (id hold n : Int) (hg : LB l) (hh : 0 ≤ hold ∧ hold < 18446744073709551616) (n0 : 0 ≤ n) : Ev (fun k => ledger_Hold.g k l id hold n) (lhold l id hold n) := by
  unfold ledger_Hold.g lhold
  refine lchange_ev l id (fun k => ledger_Hold.how k l hold n) _ hg (fun ok c hc => ?_)
  unfold ledger_Hold.how lholdc
  refine Ev.bind (lwhere_ev l hold hg hh) (ev_ite (fun _ => ev_some rfl) (fun _ => ?_))
  obtain ⟨⟨g1, g2, g3, g4, gn⟩, _⟩ := hg c hc
  have h2 := ((lok_iff (lb_cb hg)).1 ok).2.1 c hc
  exact Ev.bind (hold_ev c hold n g1 g2 g3 g4 gn (by have := cok_len c h2; omega) n0) (ev_some rfl)
end Go.Proofs.Ytcfbcoinbecdfaa.B
