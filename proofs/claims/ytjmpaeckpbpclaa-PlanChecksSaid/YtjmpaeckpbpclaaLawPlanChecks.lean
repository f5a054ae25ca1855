/- Row: the law PlanChecks returns true for every input and leaves its arguments as they were. No conditions beside the form's own. -/
import Derived.Test.YtjmpaeckpbpclaaRows
import Derived.Test.YtjmpaeckpbpclaaOpen
import Derived.Test.YtjmpaeckpbpclaaWalkPlanChecks
import Derived.WalkKit
import Derived.ProofKit
import Derived.OpenShut
import Derived.ShutString
import Derived.ChangeOld
import Derived.Below
import Derived.SizedLaws
namespace Go.Proofs.Ytjmpaeckpbpclaa.planChecks
open Go.ChangeShapes Go.WideShapes Go.ChangeAt Go.RowKit
open Go.ChangeMaps (open_string shut_string)
open Go.Proofs.Ytjmpaeckpbpclaa.Open Go.Proofs.YtjmpaeckpbpclaaW.PrintWords
open Go.Proofs.Ytjmpaeckpbpclaa.PPlC
set_option linter.unusedVariables false
theorem own : ownKnob Try.prog.godebug = none := by kernel_rfl
theorem laidOut : laidOutB Try.prog = true := by kernel_rfl
set_option maxRecDepth 100000 in
theorem lifted (os : Os) (started : os.Started) (H : Type) (enc : TypeId × Value → H) :
    ReturnsInHanded {} Try.checked os 4 .any (Rows.planChecksSpec.pre6 enc Try.prog Try.f4 Rows.planChecksRow.domain false) (Rows.planChecksSpec.post enc Try.prog Try.f4 false true false false) := by
  refine returnsInHanded_of_change_sized (C := Try.checked) own started (by kernel_rfl) Try.func4
    (ChangeSpec.witness6 (enc := enc) (C := Try.checked) false ⟨#[], #[.agg #[.int .i64 0, .int .i64 0, .int .i64 0, .int .i64 0, .slice none 0 0, .bool false], .agg #[.int .i64 0, .int .i64 0, .int .i64 0, .int .i64 0, .slice none 0 0, .bool false]], []⟩ 8 (by kernel_rfl) (by kernel_rfl) (by kernel_rfl) (by kernel_rfl)) ?_
  intro W base args ds gs before hval0 hW hcnd hsz0 _
  have hsz : (DataW.weightsEach Try.prog (Try.f4.params.toList ++ Rows.planChecksSpec.plain.varTypes Try.prog) (ds ++ gs)).all (· ≤ reachBytes) = true := hsz0
  have hval : ∀ (j : Nat) t v, Try.f4.params[j]? = some t → args[j]? = some v → Value.okWide Try.prog W .any base t v := hval0
  have hW' := hW
  obtain ⟨p, q, hA0, hV, rfl, hfz, hnd⟩ := hW
  have hA : DataW.TrodAll enc Try.prog W 0 (fun _ => true) true Try.f4.params.toList args.toList ds p := hA0
  rw [Try.params4] at hA hval hsz
  obtain ⟨v0, vs0, d0, ds0, p0, q0, hargs, rfl, rfl, h0, r0⟩ := trodAll_cons hA
  obtain ⟨v1, vs1, d1, ds1, p1, q1, rfl, rfl, rfl, h1, r1⟩ := trodAll_cons r0
  obtain ⟨rfl, rfl, rfl⟩ := trodAll_nil r1
  obtain rfl : args = #[v0, v1] := by cases args; simp_all
  obtain ⟨rfl, rfl⟩ := trodVars_none hV
  have k0 := h0
  have lt0 : ∀ x ∈ p0, x.block < W.heap.size := by obtain ⟨m, hm⟩ := k0; exact DataW.trod_lt m _ _ _ hm
  obtain ⟨cs0, rfl, sz0⟩ := okWide_struct Try.underlying39 (hval 0 39 v0 rfl rfl)
  obtain ⟨fuel0, hf0⟩ := h0
  obtain ⟨x0, K0, g0⟩ := (opens_struct (fun (x : S39) => (x.f0, x.f1, x.f2, x.f3, x.f4, x.f5)) (fun x => (⟨x.1, x.2.1, x.2.2.1, x.2.2.2.1, x.2.2.2.2.1, x.2.2.2.2.2⟩ : S39)) (fun _ => rfl) Try.underlying39 (by kernel_rfl) (opensF_cons rfl (by kernel_rfl) (opens_int Try.underlying3) (by intro g_ hg_; simp at hg_; rcases hg_ with rfl | rfl | rfl | rfl | rfl <;> decide) (opensF_cons rfl (by kernel_rfl) (opens_int Try.underlying3) (by intro g_ hg_; simp at hg_; rcases hg_ with rfl | rfl | rfl | rfl <;> decide) (opensF_cons rfl (by kernel_rfl) (opens_int Try.underlying3) (by intro g_ hg_; simp at hg_; rcases hg_ with rfl | rfl | rfl <;> decide) (opensF_cons rfl (by kernel_rfl) (opens_int Try.underlying2) (by intro g_ hg_; simp at hg_; rcases hg_ with rfl | rfl <;> decide) (opensF_cons rfl (by kernel_rfl) (opens_slice Try.underlying37 (by kernel_rfl) (opens_struct (fun (x : S116) => (x.f0, x.f1, x.f2)) (fun x => (⟨x.1, x.2.1, x.2.2⟩ : S116)) (fun _ => rfl) Try.underlying116 (by kernel_rfl) (opensF_cons rfl (by kernel_rfl) (opens_bool Try.underlying4) (by intro g_ hg_; simp at hg_; rcases hg_ with rfl | rfl <;> decide) (opensF_cons rfl (by kernel_rfl) (opens_int Try.underlying3) (by intro g_ hg_; simp at hg_; rcases hg_ with rfl <;> decide) (opensF_one rfl (by kernel_rfl) (opens_int Try.underlying2)))))) (by intro g_ hg_; simp at hg_; rcases hg_ with rfl <;> decide) (opensF_one rfl (by kernel_rfl) (opens_bool Try.underlying4)))))))) enc W 0 (fun _ => true) true fuel0 _ _ hf0
  have k1 := h1
  have lt1 : ∀ x ∈ p1, x.block < W.heap.size := by obtain ⟨m, hm⟩ := k1; exact DataW.trod_lt m _ _ _ hm
  obtain ⟨cs1, rfl, sz1⟩ := okWide_struct Try.underlying39 (hval 1 39 v1 rfl rfl)
  obtain ⟨fuel1, hf1⟩ := h1
  obtain ⟨x1, K1, g1⟩ := (opens_struct (fun (x : S39) => (x.f0, x.f1, x.f2, x.f3, x.f4, x.f5)) (fun x => (⟨x.1, x.2.1, x.2.2.1, x.2.2.2.1, x.2.2.2.2.1, x.2.2.2.2.2⟩ : S39)) (fun _ => rfl) Try.underlying39 (by kernel_rfl) (opensF_cons rfl (by kernel_rfl) (opens_int Try.underlying3) (by intro g_ hg_; simp at hg_; rcases hg_ with rfl | rfl | rfl | rfl | rfl <;> decide) (opensF_cons rfl (by kernel_rfl) (opens_int Try.underlying3) (by intro g_ hg_; simp at hg_; rcases hg_ with rfl | rfl | rfl | rfl <;> decide) (opensF_cons rfl (by kernel_rfl) (opens_int Try.underlying3) (by intro g_ hg_; simp at hg_; rcases hg_ with rfl | rfl | rfl <;> decide) (opensF_cons rfl (by kernel_rfl) (opens_int Try.underlying2) (by intro g_ hg_; simp at hg_; rcases hg_ with rfl | rfl <;> decide) (opensF_cons rfl (by kernel_rfl) (opens_slice Try.underlying37 (by kernel_rfl) (opens_struct (fun (x : S116) => (x.f0, x.f1, x.f2)) (fun x => (⟨x.1, x.2.1, x.2.2⟩ : S116)) (fun _ => rfl) Try.underlying116 (by kernel_rfl) (opensF_cons rfl (by kernel_rfl) (opens_bool Try.underlying4) (by intro g_ hg_; simp at hg_; rcases hg_ with rfl | rfl <;> decide) (opensF_cons rfl (by kernel_rfl) (opens_int Try.underlying3) (by intro g_ hg_; simp at hg_; rcases hg_ with rfl <;> decide) (opensF_one rfl (by kernel_rfl) (opens_int Try.underlying2)))))) (by intro g_ hg_; simp at hg_; rcases hg_ with rfl <;> decide) (opensF_one rfl (by kernel_rfl) (opens_bool Try.underlying4)))))))) enc W 0 (fun _ => true) true fuel1 _ _ hf1
  clear hA0 hval0 hsz0 hsz
  refine (WalkPlanChecks.walk W cs0 x0 K0 g0 cs1 x1 K1 g1).mono fun e W' ⟨he, bel⟩ => ?_
  subst he
  exact ⟨_, rfl, _, _, _, [], _, [], hW', trodAll_mk1 (shut_bool Try.underlying4 _), (trodAll_cons_mk (Below.trod laidOut (by kernel_rfl) (of_decide_eq_true (by kernel_rfl)) k0 bel lt0) (trodAll_cons_mk (Below.trod laidOut (by kernel_rfl) (of_decide_eq_true (by kernel_rfl)) k1 bel lt1) trodAll_mk0)), rfl, bel.frame _, fun h => by cases h⟩
theorem over : Rows.planChecksRow.holds Try.pinned (OpenSpec.ofChange Rows.planChecksSpec) :=
  OpenClaim.holds_of_wide 4 Try.f4 rfl rfl rfl rfl rfl rfl rfl ⟨rfl, rfl, rfl, rfl, rfl⟩ rfl rfl rfl rfl rfl (by kernel_rfl) Try.func4 (by kernel_rfl)
    (of_decide_eq_true (by kernel_rfl)) (by unfold Func.isWrapper; first | (rw [if_pos (by decide +kernel)]; kernel_rfl) | (rw [if_neg (by decide +kernel)]; exact ⟨rfl, rfl⟩))
    (fun os started H enc _ => lifted os started H enc)
theorem proved : Rows.PlanChecksSaid := over
end Go.Proofs.Ytjmpaeckpbpclaa.planChecks
namespace Go.Proofs.Ytjmpaeckpbpclaa
theorem planChecks_holds : Rows.PlanChecksSaid := planChecks.proved
#print axioms planChecks_holds
end Go.Proofs.Ytjmpaeckpbpclaa
