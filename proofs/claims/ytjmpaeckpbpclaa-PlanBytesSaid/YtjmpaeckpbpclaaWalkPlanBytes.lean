/- PlanBytes: walked. -/
import Derived.Test.YtjmpaeckpbpclaaPurePlanBytes
namespace Go.Proofs.Ytjmpaeckpbpclaa.WalkPlanBytes
open Go.RowKit Go.Proofs.YtjmpaeckpbpclaaW.PrintWords Go.Proofs.Ytjmpaeckpbpclaa.PPlB

theorem u8 {a : Int} (h : (Lit.int .u8 a).wf = true) : 0 ≤ a ∧ a < 256 := by
  have e1 : IntKind.u8.min = 0 := rfl
  have e2 : IntKind.u8.max = 255 := rfl
  simp [Lit.wf] at h
  omega

theorem rows_max {w : World} {A : Option Addr} {n : Nat} {xs : List (List S39)} (h : Kd.C (Kd.slice 39 k39) w A n xs) (hn : n = xs.length) : ∀ l ∈ xs, l.length ≤ 9223372036854775807 := by
  intro l hl
  obtain ⟨i, hi, rfl⟩ := List.mem_iff_getElem.1 hl
  obtain ⟨ad, A0, c0, _, _, _, hc⟩ := at_L7 h (i : Int) (by omega) (by omega)
  have := Kd.C_max hc
  unfold rd_L7 at this
  simpa [List.getD_eq_getElem?_getD, hi] using this

theorem walk {G0 Y1 : Prop} (W : World) (A0 : Option Addr) (c0 : Nat) (l0 : List (List S39)) (hr0 : Kd.C (Kd.slice 39 k39) W A0 l0.length l0) (hc0 : l0.length ≤ c0) (_g0 : G0) (y0 : c0 * 24 ≤ 140737488351232)
    (A1 : Option Addr) (c1 : Nat) (l1 : List Int) (hr1 : Kd.C (Kd.int .u8) W A1 l1.length l1) (hc1 : l1.length ≤ c1) (g1 : ∀ x ∈ l1, (Lit.int .u8 x).wf = true) (_y1 : Y1) :
    Calls Try.prog 6 #[.slice A0 l0.length c0, .slice A1 l1.length c1] W fun e w' => e = .returned (.bool true) ∧ Below W.heap.size W w' :=
  handofflaw10_PlanBytes.calls _ A0 c0 l0 A1 c1 l1 true W hr0 hc0 hr1 hc1 (PlanBytesPure.bytes l0 l1 (fun x hx => u8 (g1 x hx)) (by omega) (rows_max hr0 rfl))
end Go.Proofs.Ytjmpaeckpbpclaa.WalkPlanBytes
