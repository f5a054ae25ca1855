/- PlanNames, the plain law: reckoned. -/
import Derived.Test.YtjmpaeckpbpclaaPPlNx12
namespace Go.Proofs.Ytjmpaeckpbpclaa.Pure
open Go.RowKit Go.Proofs.Ytjmpaeckpbpclaa.PPlN Go.Proofs.YtjmpaeckpbpclaaW.PrintWords Go.Proofs.YtjmpaeckpbpclaaW.PrintLast

theorem PlanNames : handofflaw10_PlanNames.Pure := ⟨40, by decide +kernel⟩
end Go.Proofs.Ytjmpaeckpbpclaa.Pure
