/- Plain laws of the package channel: what holding leaves is a channel. -/
import Derived.Test.YtcfbcoinbecdfaaLdCH
import Derived.Test.YtcfbcoinbecdfaaQLdoesx4
set_option linter.unusedVariables false
namespace Go.Proofs.Ytcfbcoinbecdfaa.B
open Go.RowKit Go.Proofs.Ytcfbcoinbecdfaa.P Go.Proofs.YtcfbcoinbecdfaaW.PrintWords
/-- No number of a channel is less than nothing. -/
def CB (c : S25) : Prop := 0 ≤ c.f1 ∧ 0 ≤ c.f2 ∧ 0 ≤ c.f3 ∧ 0 ≤ c.f4 ∧ ∀ y ∈ c.f5, 0 ≤ y.f1
theorem cb_of {c : S25} (g : G25 c) : CB c := by
  obtain ⟨_, h1, h2, h3, h4, hn⟩ := cbounds g
  exact ⟨h1, h2, h3, h4, hn⟩
theorem ccheck_ev (c : S25) (g : CB c) : Ev (fun k => channel_Check.f k c.f0 c.f1 c.f2 c.f3 c.f4 c.f5 c.f6) (if cok c then 0 else 1) := by
  obtain ⟨h1, h2, h3, h4, hn⟩ := g
  unfold channel_Check.f
  refine Ev.bind (sums_ev c h1 h2 h4 hn) (ev_some ?_)
  unfold csums
  split <;> rfl
theorem le_tot : ∀ {l : List S44} {x : S44}, (∀ y ∈ l, 0 ≤ y.f1) → x ∈ l → x.f1 ≤ tot l
  | y :: ys, x, hn, hx => by
    have h0 := hn y List.mem_cons_self
    have h1 := tot_nonneg (l := ys) (fun z hz => hn z (List.mem_cons_of_mem _ hz))
    show x.f1 ≤ y.f1 + tot ys
    rcases List.mem_cons.1 hx with rfl | hx
    · omega
    · have := le_tot (l := ys) (fun z hz => hn z (List.mem_cons_of_mem _ hz)) hx
      omega
/-- A channel with other amounts and holds. -/
def cwith (c : S25) (loc rem : Int) (l : List S44) : S25 := ⟨c.f0, loc, rem, c.f3, c.f4, l, c.f6⟩
end Go.Proofs.Ytcfbcoinbecdfaa.B
