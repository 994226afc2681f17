-- written by a program of this session (wip/print)
import Derived.Test.YtcolmgbmpmmeaaaProg
import Derived.Below
import Derived.Deep.Draws
import Derived.Deep.AppendLies
import Derived.Maps.AppendAt
import Derived.OwnWalk
import Derived.Laws.BytesArg
import Derived.Laws.MakeOwn
import Derived.Laws.OwnMore
import Derived.Deep.OwnRows
import Derived.Tactics
import Derived.Lib.ConvBytes
import Derived.Laws.Slices
import Derived.WalkKit
import Derived.KernelRfl
import Derived.RowKit3
import Derived.Deep.LoopGhost
import Derived.Deep.QuietTactic
import Derived.BigQuiet
import Derived.WideLaws
import Derived.Deep.DeepCutAuto
import Derived.Deep.CutBlock
import Derived.Deep.RegionHeld3
import Derived.Laws.Rows
import Derived.Lib.AppendStr
import Derived.ArgAppend
import Derived.Laws.IdiomCopy
import Derived.OrdersHeld
import Derived.Laws.BitsLemmas
import Derived.RowKit
import Derived.Test.YtcolmgbmpmmeaaaZ
import Derived.Test.YtcolmgbmpmmeaaaWWords
import Derived.Test.YtcolmgbmpmmeaaaWLast
import Derived.Test.YtcolmgbmpmmeaaaWTab
import Derived.Test.YtcolmgbmpmmeaaaWFour
import Derived.Test.YtcolmgbmpmmeaaaWQPut
import Derived.Test.YtcolmgbmpmmeaaaWApart
import Derived.Test.YtcolmgbmpmmeaaaWArr
import Derived.Test.YtcolmgbmpmmeaaaWZeros
import Derived.Test.YtcolmgbmpmmeaaaWFoot
import Derived.Test.YtcolmgbmpmmeaaaWKept
import Derived.Test.YtcolmgbmpmmeaaaWShare
import Derived.Test.YtcolmgbmpmmeaaaWN
import Derived.Test.YtcolmgbmpmmeaaaWFootNe
import Derived.Test.YtcolmgbmpmmeaaaWAt
import Derived.Test.YtcolmgbmpmmeaaaWEqStruct
import Derived.Test.YtcolmgbmpmmeaaaWRepsOne
import Derived.Test.YtcolmgbmpmmeaaaWInv
import Derived.Test.YtcolmgbmpmmeaaaWInvWords
import Derived.Test.YtcolmgbmpmmeaaaWGuard
import Derived.Test.YtcolmgbmpmmeaaaWNEv
import Derived.Test.YtcolmgbmpmmeaaaWMore
namespace Go.Proofs.Ytcolmgbmpmmeaaa.P
open Go.RowKit Go.Proofs.YtcolmgbmpmmeaaaW.PrintWords Go.Proofs.YtcolmgbmpmmeaaaW.PrintLast Go.Proofs.YtcolmgbmpmmeaaaW.PrintMore
attribute [local go_sem] max2_int min2_int max_two min_two max_three min_three max_four min_four run_sub64_   -- for this text's walks alone
set_option linter.unusedVariables false
set_option linter.unusedSimpArgs false



def errW : Option Int → Value
  | none => .nilIface
  | some c => .iface 0 (.int .i64 c)
theorem errW_none : errW none = .nilIface := rfl
theorem errW_some (c : Int) : errW (some c) = .iface 0 (.int .i64 c) := rfl

theorem info22 : (Try.prog.info? 22).map (fun i => (i.zero, i.size, i.bytes)) = some (some (.int .u64 0), 1, 8) := by kernel_rfl
-- the values' own types

end Go.Proofs.Ytcolmgbmpmmeaaa.P
