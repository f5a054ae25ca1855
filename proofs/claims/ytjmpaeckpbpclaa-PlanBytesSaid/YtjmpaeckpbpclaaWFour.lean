-- Of the printed words those that this claim names: the others were left out by a program of this session.
import Derived.Test.YtjmpaeckpbpclaaWTab
/-! ### 56. Four, five, six operations that may come up next, in any order -/
namespace Go.Proofs.YtjmpaeckpbpclaaW.PrintLast
section
variable {P : Program} {ops : Array Oper} {Q : Exit → Act → World → Prop} {md : Region.Mode} {S : World → Prop} {ds : List Nat} {T : Bool × List (List Nat × List Nat)}
end
end Go.Proofs.YtjmpaeckpbpclaaW.PrintLast
