/- Plain laws of the document's answer for ledgers: whether channels are few. -/
import Derived.Test.YtcfbcoinbecdfaaLdLP
import Derived.Test.YtcfbcoinbecdfaaQLdoesx8
set_option linter.unusedVariables false
namespace Go.Proofs.Ytcfbcoinbecdfaa.B
open Go.RowKit Go.Proofs.Ytcfbcoinbecdfaa.P Go.Proofs.YtcfbcoinbecdfaaW.PrintWords
/-- Whether channels are few. -/
def Few10 (l : List S25) : Prop := l.length ≤ 34 ∧ ∀ c ∈ l, c.f5.length ≤ 20
theorem few_loop (l : List S25) (hl : l.length ≤ 9223372036854775807) : ∀ (xs : List S25) (i : Nat), l.drop i = xs → (∀ c ∈ xs, c.f5.length ≤ 20) → Ev (fun k => damsonref10_Few.l0 k l l (l.length : Int) (i : Int)) (decide ((l.length : Int) ≤ 34))
  | [], i, h, _ => by
    have hi := drop_nil h
    refine Ev.step (fun k => by rw [damsonref10_Few.l0]) ?_
    exact ev_neg (by omega) (ev_some rfl)
  | x :: xs, i, h, hx => by
    have hi := drop_lt h
    have ih := few_loop l hl xs (i + 1) (drop_next h) (fun c hc => hx c (List.mem_cons_of_mem _ hc))
    refine Ev.step (fun k => by rw [damsonref10_Few.l0]) ?_
    have e : wrap64 ((i : Int) + 1) = ((i + 1 : Nat) : Int) := by rw [w64 (by omega) (by omega)]; rfl
    have h20 := hx x List.mem_cons_self
    rw [drop_rd25 h, e]
    exact ev_pos (by omega) (ev_pos (by omega) (ev_pos (by omega) (ev_neg (by omega) ih)))
theorem few_loop_no (l : List S25) (hl : l.length ≤ 9223372036854775807) : ∀ (xs : List S25) (i : Nat), l.drop i = xs → ¬ (∀ c ∈ xs, c.f5.length ≤ 20) → Ev (fun k => damsonref10_Few.l0 k l l (l.length : Int) (i : Int)) false
  | [], i, h, hn => absurd (fun c hc => by simp at hc) hn
  | x :: xs, i, h, hn => by
    have hi := drop_lt h
    refine Ev.step (fun k => by rw [damsonref10_Few.l0]) ?_
    have e : wrap64 ((i : Int) + 1) = ((i + 1 : Nat) : Int) := by rw [w64 (by omega) (by omega)]; rfl
    rw [drop_rd25 h, e]
    refine ev_pos (by omega) (ev_pos (by omega) (ev_pos (by omega) ?_))
    by_cases q : x.f5.length ≤ 20
    · refine ev_neg (by omega) (few_loop_no l hl xs (i + 1) (drop_next h) (fun hx => hn (fun c hc => ?_)))
      rcases List.mem_cons.1 hc with rfl | hc
      · exact q
      · exact hx c hc
    · exact ev_pos (by omega) (ev_some rfl)
theorem few_ev (l : List S25) (hl : l.length ≤ 9223372036854775807) : ∃ b, Ev (fun k => damsonref10_Few.f k l) b ∧ (b = true ↔ Few10 l) := by
  unfold damsonref10_Few.f Few10
  by_cases q : ∀ c ∈ l, c.f5.length ≤ 20
  · refine ⟨_, few_loop l hl l 0 rfl q, ?_⟩
    rw [decide_eq_true_eq]
    exact ⟨fun h => ⟨by omega, q⟩, fun h => by have := h.1; omega⟩
  · exact ⟨_, few_loop_no l hl l 0 rfl q, fun h => by simp at h, fun h => absurd h.2 q⟩
end Go.Proofs.Ytcfbcoinbecdfaa.B
