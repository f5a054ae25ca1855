/- PlanChecks: walked. -/
import Derived.Test.YtjmpaeckpbpclaaPurePlanChecks
namespace Go.Proofs.Ytjmpaeckpbpclaa.WalkPlanChecks
open Go.RowKit Go.Proofs.YtjmpaeckpbpclaaW.PrintWords Go.Proofs.Ytjmpaeckpbpclaa.PPlC

theorem walk {G0 G1 : Prop} (W : World) (cs0 : Array Value) (x0 : S39) (K0 : k39.K W x0 (Value.agg cs0).cells.toList) (_g0 : G0) (cs1 : Array Value) (x1 : S39) (K1 : k39.K W x1 (Value.agg cs1).cells.toList) (_g1 : G1) :
    Calls Try.prog 4 #[.agg cs0, .agg cs1] W fun e w' => e = .returned (.bool true) ∧ Below W.heap.size W w' := by
  obtain ⟨A0, c0, e0, l0, h0⟩ := k39_open K0
  obtain ⟨A1, c1, e1, l1, h1⟩ := k39_open K1
  obtain rfl : cs0 = #[.int .i64 x0.f0, .int .i64 x0.f1, .int .i64 x0.f2, .int .i64 x0.f3, .slice A0 x0.f4.length c0, .bool x0.f5] := Array.toList_inj.1 e0
  obtain rfl : cs1 = #[.int .i64 x1.f0, .int .i64 x1.f1, .int .i64 x1.f2, .int .i64 x1.f3, .slice A1 x1.f4.length c1, .bool x1.f5] := Array.toList_inj.1 e1
  exact handofflaw10_PlanChecks.calls 202 x0.f0 x0.f1 x0.f2 x0.f3 A0 c0 x0.f4 x0.f5 x1.f0 x1.f1 x1.f2 x1.f3 A1 c1 x1.f4 x1.f5 true W h0 l0 h1 l1 (PlanChecksPure.checks _ _ _ _ _ _ _ _ _ _ _ _)
end Go.Proofs.Ytjmpaeckpbpclaa.WalkPlanChecks
