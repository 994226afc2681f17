/- Plain laws of the package money: what one amount is without another. -/
import Derived.Test.YtcfbcoinbecdfaaLdM
import Derived.Test.YtcfbcoinbecdfaaQLdoesx16
set_option linter.unusedVariables false
namespace Go.Proofs.Ytcfbcoinbecdfaa.B
open Go.RowKit Go.Proofs.Ytcfbcoinbecdfaa.P Go.Proofs.YtcfbcoinbecdfaaW.PrintWords
/-- One amount without another. -/
def msub (a b : Int) : Int × Int := if a ≤ 4611686018427387904 ∧ b ≤ 4611686018427387904 then (if a < b then (0, 9) else (a - b, 0)) else (0, 1)
theorem sub64_ge {a b : Int} (ha : 0 ≤ a) (hb : 0 ≤ b) (ha1 : a < 18446744073709551616) (h : b ≤ a) : sub64d a b = a - b ∧ sub64b a b = 0 := by
  unfold sub64d sub64b
  constructor
  · omega
  · rw [if_neg (by omega)]
theorem sub64_lt {a b : Int} (ha : 0 ≤ a) (h : a < b) : sub64b a b = 1 := by
  unfold sub64b
  rw [if_pos (by omega)]
theorem sub_ev (a b : Int) (ha : 0 ≤ a) (hb : 0 ≤ b) : Ev (fun k => money_Sub.f k a b) (msub a b) := by
  unfold money_Sub.f msub
  refine Ev.bind (check_ev [a, b] (by simp)) ?_
  rw [mchk_cons, mchk_one]
  by_cases h12 : a ≤ 4611686018427387904 ∧ b ≤ 4611686018427387904
  · rw [if_pos h12.1, if_pos h12.2, if_pos h12]
    refine ev_pos rfl ?_
    by_cases h3 : a < b
    · rw [if_pos h3]; exact ev_pos (by rw [sub64_lt ha h3]; omega) (Ev.now _)
    · obtain ⟨e1, e2⟩ := sub64_ge ha hb (by omega) (Int.not_lt.mp h3)
      rw [if_neg h3]; exact ev_neg (by rw [e2]; omega) (ev_some (by rw [e1]))
  · rw [if_neg h12]
    refine ev_neg ?_ (Ev.now _)
    by_cases h1 : a ≤ 4611686018427387904
    · rw [if_pos h1, if_neg (fun h => h12 ⟨h1, h⟩)]; omega
    · rw [if_neg h1]; omega
end Go.Proofs.Ytcfbcoinbecdfaa.B
