/- PlanBytes, the plain law. -/
import Derived.Test.YtjmpaeckpbpclaaPlanRight
namespace Go.Proofs.Ytjmpaeckpbpclaa.PlanBytesPure
open Go.RowKit Go.Proofs.YtjmpaeckpbpclaaW.PrintWords Go.Proofs.Ytjmpaeckpbpclaa.PPlK Go.Proofs.Ytjmpaeckpbpclaa.PlanRead Go.Proofs.Ytjmpaeckpbpclaa.PlanPut Go.Proofs.Ytjmpaeckpbpclaa.PlanEnc Go.Proofs.Ytjmpaeckpbpclaa.PlanRight
set_option linter.unusedSimpArgs false

theorem great_l1 (x0 x7 : List (List S39)) (x8 x9 : Int) (l : List S39) (hl : l.length ≤ 9223372036854775807) : ∀ (d i k : Nat), i + d = l.length →
    handofflaw10_great.l1 (d + 1 + k) x0 l x7 x8 x9 l (l.length : Int) (i : Int) = some true ∨
    (handofflaw10_great.l1 (d + 1 + k) x0 l x7 x8 x9 l (l.length : Int) (i : Int) = handofflaw10_great.l0 k x0 x7 x8 (wrap64 (x9 + 1)) ∧ l.length ≤ 40 ∧ ∀ o ∈ l.drop i, o.f4.length ≤ 20) := by
  intro d
  induction d with
  | zero =>
    intro i k hi
    rw [show 0 + 1 + k = k + 1 by omega, handofflaw10_great.l1, if_neg (by omega), List.drop_of_length_le (by omega)]
    by_cases c : l.length > 40
    · left; rw [if_pos (by omega)]
    · right; rw [if_neg (by omega)]; exact ⟨rfl, by omega, by simp⟩
  | succ d ih =>
    intro i k hi
    have hw : wrap64 ((i : Int) + 1) = ((i + 1 : Nat) : Int) := by unfold wrap64; omega
    rw [show d + 1 + 1 + k = (d + 1 + k) + 1 by omega, handofflaw10_great.l1, if_pos (by omega), if_pos (by omega), if_pos (by omega), hw, row_drop l i (by omega)]
    by_cases c : (rd_T39 l (i : Int)).f4.length > 20
    · left; rw [if_pos (by omega)]
    · rw [if_neg (by omega)]
      rcases ih (i + 1) k (by omega) with h | ⟨h1, h2, h3⟩
      · left; exact h
      · right
        refine ⟨h1, h2, fun o ho => ?_⟩
        rcases List.mem_cons.1 ho with rfl | ho
        · omega
        · exact h3 o ho

/-- How many rounds a plan takes. -/
def sizeOf (p : List (List S39)) : Nat := (p.map (fun l => l.length + 2)).sum

theorem great_l0 (p : List (List S39)) (hp : p.length ≤ 9223372036854775807) (hl : ∀ l ∈ p, l.length ≤ 9223372036854775807) : ∀ (d i k : Nat), i + d = p.length →
    handofflaw10_great.l0 (sizeOf (p.drop i) + 1 + k) p p (p.length : Int) (i : Int) = some true ∨
    (handofflaw10_great.l0 (sizeOf (p.drop i) + 1 + k) p p (p.length : Int) (i : Int) = some false ∧ p.length ≤ 20 ∧ ∀ l ∈ p.drop i, l.length ≤ 40 ∧ ∀ o ∈ l, o.f4.length ≤ 20) := by
  intro d
  induction d with
  | zero =>
    intro i k hi
    rw [List.drop_of_length_le (by omega), show sizeOf [] + 1 + k = k + 1 by simp [sizeOf]; omega, handofflaw10_great.l0, if_neg (by omega)]
    by_cases c : p.length > 20
    · left; rw [decide_eq_true (by omega)]
    · right; rw [decide_eq_false (by omega)]; exact ⟨rfl, by omega, by simp⟩
  | succ d ih =>
    intro i k hi
    have hw : wrap64 ((i : Int) + 1) = ((i + 1 : Nat) : Int) := by unfold wrap64; omega
    have hm : rd_L7 p (i : Int) ∈ p := by
      have := rows_drop p i (by omega)
      exact List.mem_of_mem_drop (i := i) (by rw [this]; simp)
    have h1 := great_l1 p p (p.length : Int) (i : Int) (rd_L7 p (i : Int)) (hl _ hm) (rd_L7 p (i : Int)).length 0 (sizeOf (p.drop (i + 1)) + 1 + k) (by omega)
    rw [Int.natCast_zero, List.drop_zero, hw] at h1
    rw [rows_drop p i (by omega), show sizeOf (rd_L7 p (i : Int) :: p.drop (i + 1)) + 1 + k = ((rd_L7 p (i : Int)).length + 1 + (sizeOf (p.drop (i + 1)) + 1 + k)) + 1 by simp [sizeOf]; omega, handofflaw10_great.l0, if_pos (by omega), if_pos (by omega), if_pos (by omega)]
    rcases h1 with h1 | ⟨h1, h2, h3⟩
    · left; exact h1
    · rw [h1]
      rcases ih (i + 1) k (by omega) with h | ⟨h4, h5, h6⟩
      · left; exact h
      · right
        refine ⟨h4, h5, fun l hl => ?_⟩
        rcases List.mem_cons.1 hl with rfl | hl
        · exact ⟨h2, h3⟩
        · exact h6 l hl

theorem same_ops (l : List S39) (hl : l.length ≤ 1000) (h : ∀ o ∈ l, o.f4.length ≤ 6) : ∀ (d i k : Nat), i + d = l.length → d + 300 ≤ k → handoffref10_SameOps.l0 k l l (l.length : Int) (i : Int) = some true := by
  intro d
  induction d with
  | zero =>
    intro i k hi hk
    obtain ⟨k, rfl⟩ : ∃ m, k = m + 1 := ⟨k - 1, by omega⟩
    rw [handoffref10_SameOps.l0, if_neg (by omega)]
  | succ d ih =>
    intro i k hi hk
    obtain ⟨k, rfl⟩ : ∃ m, k = m + 1 := ⟨k - 1, by omega⟩
    have hm : rd_T39 l (i : Int) ∈ l := by
      have := row_drop l i (by omega)
      exact List.mem_of_mem_drop (i := i) (by rw [this]; simp)
    have h1 := h _ hm
    have hs : PlanOps.sameR (rd_T39 l (i : Int)).f0 (rd_T39 l (i : Int)).f1 (rd_T39 l (i : Int)).f2 (rd_T39 l (i : Int)).f3 (rd_T39 l (i : Int)).f4 (rd_T39 l (i : Int)).f5 (rd_T39 l (i : Int)).f0 (rd_T39 l (i : Int)).f1 (rd_T39 l (i : Int)).f2 (rd_T39 l (i : Int)).f3 (rd_T39 l (i : Int)).f4 (rd_T39 l (i : Int)).f5 = true := by
      simp [PlanOps.sameR, PlanOps.same_self]
    rw [handoffref10_SameOps.l0, if_pos (by omega), if_pos (by omega), if_pos (by omega), if_pos (by omega), PlanOps.ref_same _ _ _ _ _ _ _ _ _ _ _ _ (by omega) k (by omega), hs]
    simp only [Option.bind_some, if_true]
    rw [wrap_in ((i : Int) + 1) (by omega) (by omega), show (i : Int) + 1 = ((i + 1 : Nat) : Int) by omega]
    exact ih (i + 1) k (by omega) (by omega)

theorem same_is (p : List (List S39)) (hp : p.length ≤ 1000) (h : ∀ l ∈ p, l.length ≤ 1000 ∧ ∀ o ∈ l, o.f4.length ≤ 6) (k : Nat) (hk : 3000 ≤ k) : handoffref10_Same.f k p p = some true := by
  have hs : ∀ (d i k : Nat), i + d = p.length → d + 1500 ≤ k → handoffref10_Same.l0 k p p (p.length : Int) (i : Int) = some true := by
    intro d
    induction d with
    | zero =>
      intro i k hi hk
      obtain ⟨k, rfl⟩ : ∃ m, k = m + 1 := ⟨k - 1, by omega⟩
      rw [handoffref10_Same.l0, if_neg (by omega)]
    | succ d ih =>
      intro i k hi hk
      obtain ⟨k, rfl⟩ : ∃ m, k = m + 1 := ⟨k - 1, by omega⟩
      have hm : rd_L7 p (i : Int) ∈ p := by
        have := rows_drop p i (by omega)
        exact List.mem_of_mem_drop (i := i) (by rw [this]; simp)
      obtain ⟨h1, h2⟩ := h _ hm
      have h3 : handoffref10_SameOps.f k (rd_L7 p (i : Int)) (rd_L7 p (i : Int)) = some true := by
        unfold handoffref10_SameOps.f
        rw [if_pos rfl]
        exact same_ops _ h1 h2 (rd_L7 p (i : Int)).length 0 k (by omega) (by omega)
      rw [handoffref10_Same.l0, if_pos (by omega), if_pos (by omega), if_pos (by omega), if_pos (by omega), h3]
      simp only [Option.bind_some, if_true]
      rw [wrap_in ((i : Int) + 1) (by omega) (by omega), show (i : Int) + 1 = ((i + 1 : Nat) : Int) by omega]
      exact ih (i + 1) k (by omega) (by omega)
  unfold handoffref10_Same.f
  rw [if_pos rfl]
  exact hs p.length 0 k (by omega) (by omega)

theorem rdGs_ok {b : List Int} (hb : ∀ x ∈ b, 0 ≤ x ∧ x < 256) : ∀ (m i : Nat) (p : List (List S39)), (∀ l ∈ p, l.length ≤ 1000 ∧ ∀ o ∈ l, o.f4.length ≤ 6) → (rdGs b m i p).1.length = p.length + m ∧ ∀ l ∈ (rdGs b m i p).1, l.length ≤ 1000 ∧ ∀ o ∈ l, o.f4.length ≤ 6 := by
  intro m
  induction m with
  | zero => intro i p h; exact ⟨rfl, h⟩
  | succ m ih =>
    intro i p h
    obtain ⟨_, h2, h3⟩ := rdOps_bound hb (opsAt b i) (i + 1) []
    have h4 := (opsAt_is hb i).2
    unfold rdGs
    have h5 := ih (rdOps b (opsAt b i) (i + 1) []).2 (p ++ [(rdOps b (opsAt b i) (i + 1) []).1]) (fun l hl => by
      rcases List.mem_append.1 hl with hl | hl
      · exact h l hl
      · rw [List.mem_singleton.1 hl]
        exact ⟨by rw [h2]; simp; omega, h3 (by simp)⟩)
    refine ⟨by rw [h5.1, List.length_append]; simp; omega, h5.2⟩

theorem alive (k : Nat) (hk : 200 ≤ k) : handofflaw10_planAlive.f k = some true := PlanOps.alive k hk

theorem bytes (p : List (List S39)) (b : List Int) (hb : ∀ x ∈ b, 0 ≤ x ∧ x < 256) (hp : p.length ≤ 9223372036854775807) (hl : ∀ l ∈ p, l.length ≤ 9223372036854775807) : handofflaw10_PlanBytes.f (sizeOf p + 1 + 5000) p b = some true := by
  unfold handofflaw10_PlanBytes.f
  rw [alive _ (by omega)]
  simp only [Option.bind_some, if_true]
  have hg := great_l0 p hp hl p.length 0 5000 (by omega)
  rw [Int.natCast_zero, List.drop_zero] at hg
  have he : handofflaw10_great.f (sizeOf p + 1 + 5000) p = handofflaw10_great.l0 (sizeOf p + 1 + 5000) p p (p.length : Int) 0 := rfl
  rw [he]
  rcases hg with hg | ⟨hg, h20, hs⟩
  · rw [hg]
    simp only [Option.bind_some, if_true]
    rw [show sizeOf p + 1 + 5000 = (sizeOf p + 5000) + 1 by omega, handofflaw10_PlanBytes.j0, if_pos rfl]
  · rw [hg]
    simp only [Option.bind_some]
    rw [if_neg (by simp), show sizeOf p + 1 + 5000 = (sizeOf p + 5000) + 1 by omega, handofflaw10_PlanBytes.j0]
    by_cases c : (b.length : Int) > 2000
    · rw [decide_eq_true c, if_pos rfl]
    · rw [decide_eq_false c, if_neg (by simp)]
      have hsm : small p := ⟨h20, hs⟩
      have r1 := plan_right_is p hsm (sizeOf p + 5000) (by omega)
      have r2 := ref_right_is p hsm (sizeOf p + 5000) (by omega)
      have d1 := plan_decode hb (by omega) (sizeOf p + 5000) (by omega)
      have d2 := ref_decode hb (sizeOf p + 5000) (by omega)
      have ho := rdGs_ok hb (gsAt b + 1) 1 [] (by simp)
      have hq := (gsAt_is hb).2
      have hsame := same_is (rdPlan b).1 (by unfold rdPlan; rw [ho.1]; simp; omega) ho.2 (sizeOf p + 5000) (by omega)
      obtain ⟨x, y, e1, e2⟩ : ∃ x y, plan_Encode.f (sizeOf p + 5000) p = some (x, y) ∧ handoffref10_Encode.f (sizeOf p + 5000) p = some (x, y) := by
        cases hk : okPlan p with
        | true =>
          rw [hk] at r1 r2
          obtain ⟨h1, x, h2⟩ := encode_same p (fine_of p hk) (sizeOf p + 5000) (by omega) r1 r2
          exact ⟨x, 0, h2, h1 ▸ h2⟩
        | false =>
          rw [hk] at r1 r2
          exact ⟨[], 3, by unfold plan_Encode.f; rw [r1]; rfl, by unfold handoffref10_Encode.f; rw [r2]; rfl⟩
      rw [e1, e2, d1, d2]
      simp only [Option.bind_some, if_true]
      rw [r1, r2]
      simp only [Option.bind_some]
      rw [if_pos (by simp), hsame]
      simp
end Go.Proofs.Ytjmpaeckpbpclaa.PlanBytesPure
