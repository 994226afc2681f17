/- Plain words of the package ledger: rows of channels, what they are together, whose holds they have, and when they may be. -/
import Derived.Test.YtcfbcoinbecdfaaLdCB
set_option linter.unusedVariables false
namespace Go.Proofs.Ytcfbcoinbecdfaa.B
open Go.RowKit Go.Proofs.Ytcfbcoinbecdfaa.P Go.Proofs.YtcfbcoinbecdfaaW.PrintWords
abbrev lk (c : S25) : Int := c.f0
/-- All of one. -/
def ctot (c : S25) : Int := tot c.f5 + c.f1 + c.f2
/-- All of all. -/
def lsum : List S25 → Int
  | [] => 0
  | c :: cs => ctot c + lsum cs
/-- The holds' numbers, in order. -/
def lids : List S25 → List Int
  | [] => []
  | c :: cs => c.f5.map hk ++ lids cs
/-- Every number is what it may be. -/
def LB (l : List S25) : Prop := ∀ c ∈ l, CB c ∧ (0 ≤ c.f0 ∧ c.f0 < 18446744073709551616) ∧ ∀ h ∈ c.f5, 0 ≤ h.f0 ∧ h.f0 < 18446744073709551616
/-- Rows of channels that may be. -/
def LOK (l : List S25) : Prop := l.length ≤ 32 ∧ (∀ c ∈ l, cok c = true) ∧ Srt lk l ∧ lsum l ≤ 4611686018427387904 ∧ (lids l).Nodup
/-- Which one has a hold. -/
def lidx (h : Int) : List S25 → Option Nat
  | [] => none
  | c :: cs => if (look hk h c.f5).isSome = true then some 0 else (lidx h cs).map (· + 1)
theorem ctot_nonneg {c : S25} (g : CB c) : 0 ≤ ctot c := by
  obtain ⟨g1, g2, _, _, gn⟩ := g
  have := tot_nonneg gn
  unfold ctot; omega
theorem lsum_nonneg : ∀ {l : List S25}, (∀ c ∈ l, CB c) → 0 ≤ lsum l
  | [], _ => Int.le_refl 0
  | c :: cs, h => by
    have h1 := ctot_nonneg (h c List.mem_cons_self)
    have h2 := lsum_nonneg (l := cs) (fun z hz => h z (List.mem_cons_of_mem _ hz))
    unfold lsum; omega
theorem lb_cb {l : List S25} (g : LB l) : ∀ c ∈ l, CB c := fun c hc => (g c hc).1
theorem look_iff {h : Int} {hs : List S44} : (look hk h hs).isSome = true ↔ h ∈ hs.map hk := by
  cases e : look hk h hs with
  | none =>
    constructor
    · intro q; simp at q
    · intro q
      obtain ⟨x, q1, q2⟩ := List.mem_map.1 q
      exact absurd q2 (look_none e x q1)
  | some x =>
    obtain ⟨q1, q2⟩ := look_some e
    exact ⟨fun _ => List.mem_map.2 ⟨x, q1, q2⟩, fun _ => rfl⟩
theorem lidx_none {h : Int} : ∀ {l : List S25}, lidx h l = none ↔ h ∉ lids l
  | [] => by simp [lidx, lids]
  | c :: cs => by
    unfold lidx lids
    rw [List.mem_append, ← look_iff]
    by_cases q : (look hk h c.f5).isSome = true
    · rw [if_pos q]; simp [q]
    · rw [if_neg q, Option.map_eq_none_iff, lidx_none (l := cs)]; simp [q]
theorem lidx_some {h : Int} {z : S25} : ∀ {l : List S25} {j : Nat}, lidx h l = some j → j < l.length ∧ l.getD j z ∈ l ∧ (look hk h (l.getD j z).f5).isSome = true
  | c :: cs, j, e => by
    unfold lidx at e
    by_cases q : (look hk h c.f5).isSome = true
    · rw [if_pos q] at e
      injection e with e
      subst e
      exact ⟨by simp, by simp, q⟩
    · rw [if_neg q] at e
      obtain ⟨i, q1, q2⟩ := Option.map_eq_some_iff.1 e
      subst q2
      obtain ⟨p1, p2, p3⟩ := lidx_some (z := z) q1
      have e1 : (c :: cs).getD (i + 1) z = cs.getD i z := rfl
      rw [e1]
      exact ⟨by simp; omega, List.mem_cons_of_mem _ p2, p3⟩
end Go.Proofs.Ytcfbcoinbecdfaa.B
