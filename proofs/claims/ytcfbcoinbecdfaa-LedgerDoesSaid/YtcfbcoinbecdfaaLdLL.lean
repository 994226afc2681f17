/- The first examples of a ledger (built behind QLtellsx9). -/
import Derived.Test.YtcfbcoinbecdfaaQLdoesx8
namespace Go.Proofs.Ytcfbcoinbecdfaa.B
open Go.RowKit Go.Proofs.Ytcfbcoinbecdfaa.P
theorem live10 : damsonlaw10_live.f 30 = some true := by kernel_rfl
end Go.Proofs.Ytcfbcoinbecdfaa.B
