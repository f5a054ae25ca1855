/- Row: the law FairTells returns true for every input and leaves its arguments as they were. No conditions beside the form's own. -/
import Derived.Test.YthgepdaociipmaaRows
import Derived.Test.YthgepdaociipmaaOpen
import Derived.Test.YthgepdaociipmaaWalkFairTells
import Derived.WalkKit
import Derived.ProofKit
import Derived.OpenShut
import Derived.ShutString
import Derived.ChangeOld
import Derived.Below
import Derived.SizedLaws
namespace Go.Proofs.Ythgepdaociipmaa.fairTells
open Go.ChangeShapes Go.WideShapes Go.ChangeAt Go.RowKit
open Go.ChangeMaps (open_string shut_string)
open Go.Proofs.Ythgepdaociipmaa.Open Go.Proofs.YthgepdaociipmaaW.PrintWords
open Go.Proofs.Ythgepdaociipmaa.PFa
set_option linter.unusedVariables false
theorem own : ownKnob Try.prog.godebug = none := by kernel_rfl
theorem laidOut : laidOutB Try.prog = true := by kernel_rfl
set_option maxRecDepth 100000 in
theorem lifted (os : Os) (started : os.Started) (H : Type) (enc : TypeId × Value → H) :
    ReturnsInHanded {} Try.checked os 3 .any (Rows.fairTellsSpec.pre6 enc Try.prog Try.f3 Rows.fairTellsRow.domain false) (Rows.fairTellsSpec.post enc Try.prog Try.f3 false true false false) := by
  refine returnsInHanded_of_change_sized (C := Try.checked) own started (by kernel_rfl) Try.func3
    (ChangeSpec.witness6 (enc := enc) (C := Try.checked) false ⟨#[], #[.slice none 0 0, .slice none 0 0, .int .i64 0], []⟩ 8 (by kernel_rfl) (by kernel_rfl) (by kernel_rfl) (by kernel_rfl)) ?_
  intro W base args ds gs before hval0 hW hcnd hsz0 _
  have hsz : (DataW.weightsEach Try.prog (Try.f3.params.toList ++ Rows.fairTellsSpec.plain.varTypes Try.prog) (ds ++ gs)).all (· ≤ reachBytes) = true := hsz0
  have hval : ∀ (j : Nat) t v, Try.f3.params[j]? = some t → args[j]? = some v → Value.okWide Try.prog W .any base t v := hval0
  have hW' := hW
  obtain ⟨p, q, hA0, hV, rfl, hfz, hnd⟩ := hW
  have hA : DataW.TrodAll enc Try.prog W 0 (fun _ => true) true Try.f3.params.toList args.toList ds p := hA0
  rw [Try.params3] at hA hval hsz
  obtain ⟨v0, vs0, d0, ds0, p0, q0, hargs, rfl, rfl, h0, r0⟩ := trodAll_cons hA
  obtain ⟨v1, vs1, d1, ds1, p1, q1, rfl, rfl, rfl, h1, r1⟩ := trodAll_cons r0
  obtain ⟨v2, vs2, d2, ds2, p2, q2, rfl, rfl, rfl, h2, r2⟩ := trodAll_cons r1
  obtain ⟨rfl, rfl, rfl⟩ := trodAll_nil r2
  obtain rfl : args = #[v0, v1, v2] := by cases args; simp_all
  obtain ⟨rfl, rfl⟩ := trodVars_none hV
  have k0 := h0
  have lt0 : ∀ x ∈ p0, x.block < W.heap.size := by obtain ⟨m, hm⟩ := k0; exact DataW.trod_lt m _ _ _ hm
  obtain ⟨a0, len0, cap0, rfl⟩ := okWide_slice Try.underlying22 (hval 0 22 v0 rfl rfl)
  have y0 := sized_any hsz (j := 0) (t := 22) rfl rfl Try.underlying22 (B := 24) (by kernel_rfl) h0
  obtain ⟨xs0, rfl, l0, c0, g0⟩ := open_arg (opens_slice Try.underlying22 (by kernel_rfl) (opens_slice Try.underlying69 (by kernel_rfl) (opens_struct (fun (x : S46) => (x.f0, x.f1, x.f2, x.f3, x.f4, x.f5)) (fun x => (⟨x.1, x.2.1, x.2.2.1, x.2.2.2.1, x.2.2.2.2.1, x.2.2.2.2.2⟩ : S46)) (fun _ => rfl) Try.underlying46 (by kernel_rfl) (opensF_cons rfl (by kernel_rfl) (opens_int Try.underlying3) (by intro g_ hg_; simp at hg_; rcases hg_ with rfl | rfl | rfl | rfl | rfl <;> decide) (opensF_cons rfl (by kernel_rfl) (opens_int Try.underlying3) (by intro g_ hg_; simp at hg_; rcases hg_ with rfl | rfl | rfl | rfl <;> decide) (opensF_cons rfl (by kernel_rfl) (opens_int Try.underlying3) (by intro g_ hg_; simp at hg_; rcases hg_ with rfl | rfl | rfl <;> decide) (opensF_cons rfl (by kernel_rfl) (opens_int Try.underlying2) (by intro g_ hg_; simp at hg_; rcases hg_ with rfl | rfl <;> decide) (opensF_cons rfl (by kernel_rfl) (opens_slice Try.underlying44 (by kernel_rfl) (opens_struct (fun (x : S79) => (x.f0, x.f1, x.f2)) (fun x => (⟨x.1, x.2.1, x.2.2⟩ : S79)) (fun _ => rfl) Try.underlying79 (by kernel_rfl) (opensF_cons rfl (by kernel_rfl) (opens_bool Try.underlying4) (by intro g_ hg_; simp at hg_; rcases hg_ with rfl | rfl <;> decide) (opensF_cons rfl (by kernel_rfl) (opens_int Try.underlying3) (by intro g_ hg_; simp at hg_; rcases hg_ with rfl <;> decide) (opensF_one rfl (by kernel_rfl) (opens_int Try.underlying2)))))) (by intro g_ hg_; simp at hg_; rcases hg_ with rfl <;> decide) (opensF_one rfl (by kernel_rfl) (opens_bool Try.underlying4)))))))))) h0
  have k1 := h1
  have lt1 : ∀ x ∈ p1, x.block < W.heap.size := by obtain ⟨m, hm⟩ := k1; exact DataW.trod_lt m _ _ _ hm
  obtain ⟨a1, len1, cap1, rfl⟩ := okWide_slice Try.underlying23 (hval 1 23 v1 rfl rfl)
  have y1 := sized_any hsz (j := 1) (t := 23) rfl rfl Try.underlying23 (B := 32) (by kernel_rfl) h1
  obtain ⟨xs1, rfl, l1, c1, g1⟩ := open_arg (opens_slice Try.underlying23 (by kernel_rfl) (opens_struct (fun (x : S29) => (x.f0, x.f1)) (fun x => (⟨x.1, x.2⟩ : S29)) (fun _ => rfl) Try.underlying29 (by kernel_rfl) (opensF_cons rfl (by kernel_rfl) (opens_int Try.underlying3) (by intro g_ hg_; simp at hg_; rcases hg_ with rfl <;> decide) (opensF_one rfl (by kernel_rfl) (opens_slice Try.underlying27 (by kernel_rfl) (opens_int Try.underlying3)))))) h1
  have k2 := h2
  have lt2 : ∀ x ∈ p2, x.block < W.heap.size := by obtain ⟨m, hm⟩ := k2; exact DataW.trod_lt m _ _ _ hm
  obtain ⟨a2, rfl, rfl, rfl, w2⟩ := open_int Try.underlying3 (hval 2 3 v2 rfl rfl) h2
  clear hA0 hval0 hsz0 hsz
  refine (WalkFairTells.walk W a0 cap0 xs0 c0 l0 g0 y0 a1 cap1 xs1 c1 l1 g1 y1 a2 w2).mono fun e W' ⟨he, bel⟩ => ?_
  subst he
  exact ⟨_, rfl, _, _, _, [], _, [], hW', trodAll_mk1 (shut_bool Try.underlying4 _), (trodAll_cons_mk (Below.trod laidOut (by kernel_rfl) (of_decide_eq_true (by kernel_rfl)) k0 bel lt0) (trodAll_cons_mk (Below.trod laidOut (by kernel_rfl) (of_decide_eq_true (by kernel_rfl)) k1 bel lt1) (trodAll_cons_mk (Below.trod laidOut (by kernel_rfl) (of_decide_eq_true (by kernel_rfl)) k2 bel lt2) trodAll_mk0))), rfl, bel.frame _, fun h => by cases h⟩
theorem over : Rows.fairTellsRow.holds Try.pinned (OpenSpec.ofChange Rows.fairTellsSpec) :=
  OpenClaim.holds_of_wide 3 Try.f3 rfl rfl rfl rfl rfl rfl rfl ⟨rfl, rfl, rfl, rfl, rfl⟩ rfl rfl rfl rfl rfl (by kernel_rfl) Try.func3 (by kernel_rfl)
    (of_decide_eq_true (by kernel_rfl)) (by unfold Func.isWrapper; first | (rw [if_pos (by decide +kernel)]; kernel_rfl) | (rw [if_neg (by decide +kernel)]; exact ⟨rfl, rfl⟩))
    (fun os started H enc _ => lifted os started H enc)
theorem proved : Rows.FairTellsSaid := over
end Go.Proofs.Ythgepdaociipmaa.fairTells
namespace Go.Proofs.Ythgepdaociipmaa
theorem fairTells_holds : Rows.FairTellsSaid := fairTells.proved
#print axioms fairTells_holds
end Go.Proofs.Ythgepdaociipmaa
