/- Plain words of the package ledger: how much is ours of a row in parts; what is found in a row where one was changed. -/
import Derived.Test.YtcfbcoinbecdfaaLpLU
set_option linter.unusedVariables false
namespace Go.Proofs.Ytcfbcoinbecdfaa.B
open Go.RowKit Go.Proofs.Ytcfbcoinbecdfaa.P Go.Proofs.YtcfbcoinbecdfaaW.PrintWords
theorem lb_of {l : List S25} (g : ∀ y ∈ l, G25 y) : LB l := fun c hc => by
  obtain ⟨a0, a1, a2, a3, a4, ⟨_, a5⟩, _⟩ := g c hc
  exact ⟨cb_of (g c hc), wf_u64 a0, fun h hh => wf_u64 (a5 h hh).1⟩
theorem lok_small {l : List S25} (hg : LB l) (ok : lok l = true) : l.length ≤ 1000 ∧ ∀ c ∈ l, c.f5.length ≤ 1000 := by
  obtain ⟨h1, h2, _⟩ := (lok_iff (lb_cb hg)).1 ok
  exact ⟨by omega, fun c hc => by have := cok_len c (h2 c hc); omega⟩
theorem look_mid {a b : List S25} {c d : S25} {q : Int} (hd : d.f0 = c.f0) (hq : q ≠ c.f0) : look lk q (a ++ d :: b) = look lk q (a ++ c :: b) := by
  induction a with
  | nil =>
    show (if lk d = q then some d else look lk q b) = (if lk c = q then some c else look lk q b)
    rw [if_neg (show ¬ d.f0 = q by omega), if_neg (show ¬ c.f0 = q by omega)]
  | cons x xs ih =>
    show (if lk x = q then some x else look lk q (xs ++ d :: b)) = (if lk x = q then some x else look lk q (xs ++ c :: b))
    rw [ih]
theorem look_at_mid {a b : List S25} {d : S25} (ha : ∀ x ∈ a, x.f0 ≠ d.f0) : look lk d.f0 (a ++ d :: b) = some d := by
  induction a with
  | nil =>
    show (if lk d = d.f0 then some d else look lk d.f0 b) = some d
    rw [if_pos rfl]
  | cons x xs ih =>
    show (if lk x = d.f0 then some x else look lk d.f0 (xs ++ d :: b)) = some d
    rw [if_neg (ha x (by simp)), ih (fun y hy => ha y (by simp [hy]))]
end Go.Proofs.Ytcfbcoinbecdfaa.B
