/- The sentence's example of a channel. -/
import Derived.Test.YtcfbcoinbecdfaaCdC
import Derived.Test.YtcfbcoinbecdfaaQCdoesx5
set_option linter.unusedVariables false
namespace Go.Proofs.Ytcfbcoinbecdfaa.B
open Go.RowKit Go.Proofs.Ytcfbcoinbecdfaa.P Go.Proofs.YtcfbcoinbecdfaaW.PrintWords
theorem live09 : Ev (fun k => damsonlaw09_live.f k) true := Ev.of damsonlaw09_live.mono (k := 30) (by decide +kernel)
end Go.Proofs.Ytcfbcoinbecdfaa.B
