/- Plain words: two numbers held against each other; a search by halves of the shape that the library has. -/
import Derived.Test.YtcfbcoinbecdfaaLdT
import Derived.Test.YtcfbcoinbecdfaaQLdoesx2
set_option linter.unusedVariables false
namespace Go.Proofs.Ytcfbcoinbecdfaa.B
open Go.RowKit Go.Proofs.Ytcfbcoinbecdfaa.P Go.Proofs.YtcfbcoinbecdfaaW.PrintWords
theorem cmp_eq (a b : Int) : cmp_Compare_uint64.f a b = some (if a < b then -1 else if a > b then 1 else 0) := by
  unfold cmp_Compare_uint64.f cmp_isNaN_uint64.f
  simp only [Option.bind_some, bne_self_eq_false, if_neg (show ¬ (false = true) by decide)]
  split
  · rfl
  · split <;> rfl
theorem mid_eq {i j m : Nat} (hm : m = (i + j) / 2) (hj : j ≤ 4611686018427387904) (hij : i < j) : wrap64 ((IntKind.u64.wrap (wrap64 ((i : Int) + (j : Int)))) / 2) = (m : Int) := by
  rw [w64 (n := (i : Int) + j) (by omega) (by omega), u64w (by omega) (by omega), w64 (by omega) (by omega)]
  omega
end Go.Proofs.Ytcfbcoinbecdfaa.B
