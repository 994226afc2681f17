-- written by a program of this session (wip/print)
import Derived.Test.YtcolmgbmpmmeaaaPx0
import Derived.Test.YtcolmgbmpmmeaaaPx1
import Derived.Test.YtcolmgbmpmmeaaaPx2
import Derived.Test.YtcolmgbmpmmeaaaPx3
import Derived.Test.YtcolmgbmpmmeaaaPx4
import Derived.Test.YtcolmgbmpmmeaaaPx5
import Derived.Test.YtcolmgbmpmmeaaaPx6
import Derived.Test.YtcolmgbmpmmeaaaPx7
import Derived.Test.YtcolmgbmpmmeaaaPx8
import Derived.Test.YtcolmgbmpmmeaaaPx9
namespace Go.Proofs.Ytcolmgbmpmmeaaa.P
open Go.RowKit Go.Proofs.YtcolmgbmpmmeaaaW.PrintWords Go.Proofs.YtcolmgbmpmmeaaaW.PrintLast Go.Proofs.YtcolmgbmpmmeaaaW.PrintMore
attribute [local go_sem] max2_int min2_int max_two min_two max_three min_three max_four min_four run_sub64_   -- for this text's walks alone
set_option linter.unusedVariables false
set_option linter.unusedSimpArgs false

end Go.Proofs.Ytcolmgbmpmmeaaa.P
