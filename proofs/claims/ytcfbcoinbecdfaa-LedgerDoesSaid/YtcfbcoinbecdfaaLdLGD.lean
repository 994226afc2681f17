/- One of many channels. -/
import Derived.Test.YtcfbcoinbecdfaaLdLP
namespace Go.Proofs.Ytcfbcoinbecdfaa.B
open Go.RowKit Go.Proofs.Ytcfbcoinbecdfaa.P Go.Proofs.YtcfbcoinbecdfaaW.PrintWords
/-- One channel. -/
def lget (l : List S25) (id : Int) : S25 × Int := if lok l = true then (match look lk id l with | none => (z25, 5) | some c => (c, 0)) else (z25, 1)
end Go.Proofs.Ytcfbcoinbecdfaa.B
