-- Of the printed words those that this claim names: the others were left out by a program of this session.
import Derived.Test.YtjmpaeckpbpclaaWInv
import Derived.Test.YtjmpaeckpbpclaaWFootNe
namespace Go.Proofs.YtjmpaeckpbpclaaW.PrintWords
open Go.RowKit
end Go.Proofs.YtjmpaeckpbpclaaW.PrintWords
namespace Go.Proofs.YtjmpaeckpbpclaaW.PrintLast
section
variable {ops : Array Oper} {a : Act} {o og : Oper} {g : Nat} {t : Tmp} {u : Bool}
end
end Go.Proofs.YtjmpaeckpbpclaaW.PrintLast
