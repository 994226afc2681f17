/- What came first is told as long as it is kept. -/
import Derived.Test.YtmoncgfffdddeaaIFiNF
import Derived.Test.YtmoncgfffdddeaaQIFirstx5
set_option linter.unusedVariables false
theorem Go.Proofs.Ytmoncgfffdddeaa.Pure.IdemFirst : Go.Proofs.Ytmoncgfffdddeaa.P.damsonlaw14_IdemFirst.Pure := by
  intro l x t more l4 p w1 w2 w3 w4 w5 w6
  exact Go.Proofs.Ytmoncgfffdddeaa.B.nfirst l w1.1 x t more w4.1 l4 p
