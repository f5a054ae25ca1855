/- Row: the law PlanBytes returns true for every input and leaves its arguments as they were. No conditions beside the form's own. -/
import Derived.Test.YtjmpaeckpbpclaaRows
import Derived.Test.YtjmpaeckpbpclaaOpen
import Derived.Test.YtjmpaeckpbpclaaWalkPlanBytes
import Derived.WalkKit
import Derived.ProofKit
import Derived.OpenShut
import Derived.ShutString
import Derived.ChangeOld
import Derived.Below
import Derived.SizedLaws
namespace Go.Proofs.Ytjmpaeckpbpclaa.planBytes
open Go.ChangeShapes Go.WideShapes Go.ChangeAt Go.RowKit
open Go.ChangeMaps (open_string shut_string)
open Go.Proofs.Ytjmpaeckpbpclaa.Open Go.Proofs.YtjmpaeckpbpclaaW.PrintWords
open Go.Proofs.Ytjmpaeckpbpclaa.PPlB
set_option linter.unusedVariables false
theorem own : ownKnob Try.prog.godebug = none := by kernel_rfl
theorem laidOut : laidOutB Try.prog = true := by kernel_rfl
set_option maxRecDepth 100000 in
theorem lifted (os : Os) (started : os.Started) (H : Type) (enc : TypeId × Value → H) :
    ReturnsInHanded {} Try.checked os 6 .any (Rows.planBytesSpec.pre6 enc Try.prog Try.f6 Rows.planBytesRow.domain false) (Rows.planBytesSpec.post enc Try.prog Try.f6 false true false false) := by
  refine returnsInHanded_of_change_sized (C := Try.checked) own started (by kernel_rfl) Try.func6
    (ChangeSpec.witness6 (enc := enc) (C := Try.checked) false ⟨#[], #[.slice none 0 0, .slice none 0 0], []⟩ 8 (by kernel_rfl) (by kernel_rfl) (by kernel_rfl) (by kernel_rfl)) ?_
  intro W base args ds gs before hval0 hW hcnd hsz0 _
  have hsz : (DataW.weightsEach Try.prog (Try.f6.params.toList ++ Rows.planBytesSpec.plain.varTypes Try.prog) (ds ++ gs)).all (· ≤ reachBytes) = true := hsz0
  have hval : ∀ (j : Nat) t v, Try.f6.params[j]? = some t → args[j]? = some v → Value.okWide Try.prog W .any base t v := hval0
  have hW' := hW
  obtain ⟨p, q, hA0, hV, rfl, hfz, hnd⟩ := hW
  have hA : DataW.TrodAll enc Try.prog W 0 (fun _ => true) true Try.f6.params.toList args.toList ds p := hA0
  rw [Try.params6] at hA hval hsz
  obtain ⟨v0, vs0, d0, ds0, p0, q0, hargs, rfl, rfl, h0, r0⟩ := trodAll_cons hA
  obtain ⟨v1, vs1, d1, ds1, p1, q1, rfl, rfl, rfl, h1, r1⟩ := trodAll_cons r0
  obtain ⟨rfl, rfl, rfl⟩ := trodAll_nil r1
  obtain rfl : args = #[v0, v1] := by cases args; simp_all
  obtain ⟨rfl, rfl⟩ := trodVars_none hV
  have k0 := h0
  have lt0 : ∀ x ∈ p0, x.block < W.heap.size := by obtain ⟨m, hm⟩ := k0; exact DataW.trod_lt m _ _ _ hm
  obtain ⟨a0, len0, cap0, rfl⟩ := okWide_slice Try.underlying45 (hval 0 45 v0 rfl rfl)
  have y0 := sized_any hsz (j := 0) (t := 45) rfl rfl Try.underlying45 (B := 24) (by kernel_rfl) h0
  obtain ⟨xs0, rfl, l0, c0, g0⟩ := open_arg (opens_slice Try.underlying45 (by kernel_rfl) (opens_slice Try.underlying111 (by kernel_rfl) (opens_struct (fun (x : S39) => (x.f0, x.f1, x.f2, x.f3, x.f4, x.f5)) (fun x => (⟨x.1, x.2.1, x.2.2.1, x.2.2.2.1, x.2.2.2.2.1, x.2.2.2.2.2⟩ : S39)) (fun _ => rfl) Try.underlying39 (by kernel_rfl) (opensF_cons rfl (by kernel_rfl) (opens_int Try.underlying3) (by intro g_ hg_; simp at hg_; rcases hg_ with rfl | rfl | rfl | rfl | rfl <;> decide) (opensF_cons rfl (by kernel_rfl) (opens_int Try.underlying3) (by intro g_ hg_; simp at hg_; rcases hg_ with rfl | rfl | rfl | rfl <;> decide) (opensF_cons rfl (by kernel_rfl) (opens_int Try.underlying3) (by intro g_ hg_; simp at hg_; rcases hg_ with rfl | rfl | rfl <;> decide) (opensF_cons rfl (by kernel_rfl) (opens_int Try.underlying2) (by intro g_ hg_; simp at hg_; rcases hg_ with rfl | rfl <;> decide) (opensF_cons rfl (by kernel_rfl) (opens_slice Try.underlying37 (by kernel_rfl) (opens_struct (fun (x : S116) => (x.f0, x.f1, x.f2)) (fun x => (⟨x.1, x.2.1, x.2.2⟩ : S116)) (fun _ => rfl) Try.underlying116 (by kernel_rfl) (opensF_cons rfl (by kernel_rfl) (opens_bool Try.underlying4) (by intro g_ hg_; simp at hg_; rcases hg_ with rfl | rfl <;> decide) (opensF_cons rfl (by kernel_rfl) (opens_int Try.underlying3) (by intro g_ hg_; simp at hg_; rcases hg_ with rfl <;> decide) (opensF_one rfl (by kernel_rfl) (opens_int Try.underlying2)))))) (by intro g_ hg_; simp at hg_; rcases hg_ with rfl <;> decide) (opensF_one rfl (by kernel_rfl) (opens_bool Try.underlying4)))))))))) h0
  have k1 := h1
  have lt1 : ∀ x ∈ p1, x.block < W.heap.size := by obtain ⟨m, hm⟩ := k1; exact DataW.trod_lt m _ _ _ hm
  obtain ⟨a1, len1, cap1, rfl⟩ := okWide_slice Try.underlying42 (hval 1 42 v1 rfl rfl)
  have y1 := sized_any hsz (j := 1) (t := 42) rfl rfl Try.underlying42 (B := 1) (by kernel_rfl) h1
  obtain ⟨xs1, rfl, l1, c1, g1⟩ := open_arg (opens_slice Try.underlying42 (by kernel_rfl) (opens_int Try.underlying5)) h1
  clear hA0 hval0 hsz0 hsz
  refine (WalkPlanBytes.walk W a0 cap0 xs0 c0 l0 g0 y0 a1 cap1 xs1 c1 l1 g1 y1).mono fun e W' ⟨he, bel⟩ => ?_
  subst he
  exact ⟨_, rfl, _, _, _, [], _, [], hW', trodAll_mk1 (shut_bool Try.underlying4 _), (trodAll_cons_mk (Below.trod laidOut (by kernel_rfl) (of_decide_eq_true (by kernel_rfl)) k0 bel lt0) (trodAll_cons_mk (Below.trod laidOut (by kernel_rfl) (of_decide_eq_true (by kernel_rfl)) k1 bel lt1) trodAll_mk0)), rfl, bel.frame _, fun h => by cases h⟩
theorem over : Rows.planBytesRow.holds Try.pinned (OpenSpec.ofChange Rows.planBytesSpec) :=
  OpenClaim.holds_of_wide 6 Try.f6 rfl rfl rfl rfl rfl rfl rfl ⟨rfl, rfl, rfl, rfl, rfl⟩ rfl rfl rfl rfl rfl (by kernel_rfl) Try.func6 (by kernel_rfl)
    (of_decide_eq_true (by kernel_rfl)) (by unfold Func.isWrapper; first | (rw [if_pos (by decide +kernel)]; kernel_rfl) | (rw [if_neg (by decide +kernel)]; exact ⟨rfl, rfl⟩))
    (fun os started H enc _ => lifted os started H enc)
theorem proved : Rows.PlanBytesSaid := over
end Go.Proofs.Ytjmpaeckpbpclaa.planBytes
namespace Go.Proofs.Ytjmpaeckpbpclaa
theorem planBytes_holds : Rows.PlanBytesSaid := planBytes.proved
#print axioms planBytes_holds
end Go.Proofs.Ytjmpaeckpbpclaa
