/- Plain laws of the package ledger: pushing, and closing, in one of many; all of all. -/
import Derived.Test.YtcfbcoinbecdfaaLdLC
import Derived.Test.YtcfbcoinbecdfaaLdCP
import Derived.Test.YtcfbcoinbecdfaaQLdoesx16
import Derived.Test.YtcfbcoinbecdfaaQLdoesx15
set_option linter.unusedVariables false
namespace Go.Proofs.Ytcfbcoinbecdfaa.B
open Go.RowKit Go.Proofs.Ytcfbcoinbecdfaa.P Go.Proofs.YtcfbcoinbecdfaaW.PrintWords
def lpush (l : List S25) (id n : Int) : List S25 × Int := lchange l id (fun c => cpush c n)
theorem lpush_ev (l : List S25) (id n : Int) (hg : LB l) (n0 : 0 ≤ n) : Ev (fun k => ledger_Push.g k l id n) (lpush l id n) := by
  unfold ledger_Push.g lpush
  refine lchange_ev l id (fun k => ledger_Push.how k n) _ hg (fun ok c hc => ?_)
  unfold ledger_Push.how
  exact Ev.bind (push_ev c n (hg c hc).1 n0) (ev_some rfl)
def lclose (l : List S25) (id : Int) : List S25 × Int := lchange l id cclose
theorem lclose_ev (l : List S25) (id : Int) (hg : LB l) : Ev (fun k => ledger_Close.g k l id) (lclose l id) := by
  unfold ledger_Close.g lclose
  refine lchange_ev l id (fun k => ledger_Close.how k) _ hg (fun ok c hc => ?_)
  unfold ledger_Close.how
  exact Ev.bind (close_ev c (hg c hc).1) (ev_some rfl)
end Go.Proofs.Ytcfbcoinbecdfaa.B
