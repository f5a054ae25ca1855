/- A plan's bytes, by the program and by the document: the same. -/
import Derived.Test.YtjmpaeckpbpclaaPlanPut
namespace Go.Proofs.Ytjmpaeckpbpclaa.PlanEnc
open Go.RowKit Go.Proofs.YtjmpaeckpbpclaaW.PrintWords Go.Proofs.Ytjmpaeckpbpclaa.PPlK Go.Proofs.Ytjmpaeckpbpclaa.PlanRead Go.Proofs.Ytjmpaeckpbpclaa.PlanPut
set_option linter.unusedSimpArgs false

/-- The bytes of d ops from a place on. -/
def rowBytes (row : List S39) : Nat → Nat → List Int
  | _, 0 => []
  | i, d + 1 => putBytes (rd_T39 row (i : Int)) ++ rowBytes row (i + 1) d

theorem rowBytes_succ (row : List S39) (i d : Nat) : rowBytes row i (d + 1) = putBytes (rd_T39 row (i : Int)) ++ rowBytes row (i + 1) d := rfl

def allFine (row : List S39) : Prop := ∀ j : Nat, j < row.length → fine (rd_T39 row (j : Int))

theorem rowBytes_length (row : List S39) (hf : allFine row) : ∀ d i, i + d = row.length → (rowBytes row i d).length ≤ 30 * d := by
  intro d
  induction d with
  | zero => intro i _; simp [rowBytes]
  | succ d ih =>
    intro i hi
    have h1 := ih (i + 1) (by omega)
    have h2 := putBytes_length (rd_T39 row (i : Int)) (hf i (by omega)).2.2.1
    unfold rowBytes
    rw [List.length_append]
    omega

theorem plan_l1 (x17 : List (List S39)) (x18 x19 : Int) (row : List S39) (hr : row.length ≤ 16) (hf : allFine row) : ∀ (d i k : Nat) (acc : List Int), i + d = row.length → 20 ≤ k → acc.length + 30 * d ≤ 50000 →
    plan_Encode.l1 (d + 1 + k) acc x17 x18 x19 row (row.length : Int) (i : Int) = plan_Encode.l0 k (acc ++ rowBytes row i d) x17 x18 (wrap64 (x19 + 1)) := by
  intro d
  induction d with
  | zero =>
    intro i k acc hi hk ha
    rw [show 0 + 1 + k = k + 1 by omega, plan_Encode.l1, if_neg (by omega)]
    simp [rowBytes]
  | succ d ih =>
    intro i k acc hi hk ha
    have h := hf i (by omega)
    have h2 := putBytes_length (rd_T39 row (i : Int)) h.2.2.1
    rw [show d + 1 + 1 + k = (d + 1 + k) + 1 by omega, plan_Encode.l1, if_pos (by omega), if_pos (by omega), if_pos (by omega), plan_put_is _ h.1 h.2.1 h.2.2.1 acc (by omega) _ (by omega), wrap_in ((i : Int) + 1) (by omega) (by omega), show (i : Int) + 1 = ((i + 1 : Nat) : Int) by omega]
    simp only [Option.bind_some]
    rw [ih (i + 1) k _ (by omega) hk (by rw [List.length_append]; omega)]
    rw [rowBytes_succ, List.append_assoc]

/-- The rounds that the document's loop takes. -/
def rowFuel (row : List S39) : Nat → Nat → Nat
  | _, 0 => 0
  | i, d + 1 => (rd_T39 row (i : Int)).f4.length + 6 + rowFuel row (i + 1) d

theorem rowFuel_succ (row : List S39) (i d : Nat) : rowFuel row i (d + 1) = (rd_T39 row (i : Int)).f4.length + 6 + rowFuel row (i + 1) d := rfl

theorem rowFuel_le (row : List S39) (hf : allFine row) : ∀ d i, i + d = row.length → rowFuel row i d ≤ 12 * d := by
  intro d
  induction d with
  | zero => intro i _; exact Nat.le_refl _
  | succ d ih =>
    intro i hi
    have h1 := ih (i + 1) (by omega)
    have h2 := (hf i (by omega)).2.2.1
    unfold rowFuel
    omega

theorem ref_l1 (x19 : List (List S39)) (x20 x21 : Int) (row : List S39) (hr : row.length ≤ 16) (hf : allFine row) : ∀ (d i k : Nat) (acc : List Int), i + d = row.length → acc.length + 30 * d ≤ 50000 →
    handoffref10_Encode.l1 (rowFuel row i d + 1 + k) acc x19 x20 x21 row (row.length : Int) (i : Int) = handoffref10_Encode.l0 k (acc ++ rowBytes row i d) x19 x20 (wrap64 (x21 + 1)) := by
  intro d
  induction d with
  | zero =>
    intro i k acc hi ha
    rw [show rowFuel row i 0 + 1 + k = k + 1 by simp [rowFuel]; omega, handoffref10_Encode.l1, if_neg (by omega)]
    simp [rowBytes]
  | succ d ih =>
    intro i k acc hi ha
    have h := hf i (by omega)
    have h2 := putBytes_length (rd_T39 row (i : Int)) h.2.2.1
    rw [rowFuel_succ, rowBytes_succ, show (rd_T39 row (i : Int)).f4.length + 6 + rowFuel row (i + 1) d + 1 + k = (rd_T39 row (i : Int)).f4.length + 6 + (rowFuel row (i + 1) d + 1 + k) by omega, ref_put_is x19 x20 x21 row i (by omega) (by omega) h acc (by omega), ih (i + 1) k _ (by omega) (by rw [List.length_append]; omega), List.append_assoc]

/-- The bytes of d goroutines from a place on. -/
def gsBytes (p : List (List S39)) : Nat → Nat → List Int
  | _, 0 => []
  | i, d + 1 => [((rd_L7 p (i : Int)).length : Int) % 256] ++ rowBytes (rd_L7 p (i : Int)) 0 (rd_L7 p (i : Int)).length ++ gsBytes p (i + 1) d

theorem gsBytes_succ (p : List (List S39)) (i d : Nat) : gsBytes p i (d + 1) = [((rd_L7 p (i : Int)).length : Int) % 256] ++ rowBytes (rd_L7 p (i : Int)) 0 (rd_L7 p (i : Int)).length ++ gsBytes p (i + 1) d := rfl

def planFine (p : List (List S39)) : Prop := p.length ≤ 8 ∧ ∀ j : Nat, j < p.length → (rd_L7 p (j : Int)).length ≤ 16 ∧ allFine (rd_L7 p (j : Int))

theorem plan_l0 (p : List (List S39)) (hp : planFine p) : ∀ (d i k : Nat) (acc : List Int), i + d = p.length → 20 * d + 40 ≤ k → acc.length + 500 * d ≤ 40000 →
    plan_Encode.l0 k acc p (p.length : Int) (i : Int) = some (acc ++ gsBytes p i d, 0) := by
  have h8 := hp.1
  intro d
  induction d with
  | zero =>
    intro i k acc hi hk ha
    obtain ⟨k, rfl⟩ : ∃ m, k = m + 1 := ⟨k - 1, by omega⟩
    rw [plan_Encode.l0, if_neg (by omega)]
    simp [gsBytes]
  | succ d ih =>
    intro i k acc hi hk ha
    obtain ⟨h1, h2⟩ := hp.2 i (by omega)
    have h3 := rowBytes_length (rd_L7 p (i : Int)) h2 (rd_L7 p (i : Int)).length 0 (by omega)
    obtain ⟨k, rfl⟩ : ∃ m, k = ((rd_L7 p (i : Int)).length + 1 + m) + 1 := ⟨k - ((rd_L7 p (i : Int)).length + 2), by clear ih; omega⟩
    have h4 := plan_l1 p (p.length : Int) (i : Int) (rd_L7 p (i : Int)) h1 h2 (rd_L7 p (i : Int)).length 0 k (acc ++ [((rd_L7 p (i : Int)).length : Int) % 256]) (by omega) (by omega) (by rw [List.length_append, List.length_singleton]; omega)
    rw [Int.natCast_zero] at h4
    rw [plan_Encode.l0, if_pos (by omega), if_pos (by omega), if_pos (by omega), if_pos (by omega), h4, wrap_in ((i : Int) + 1) (by omega) (by omega), show (i : Int) + 1 = ((i + 1 : Nat) : Int) by omega, ih (i + 1) k _ (by omega) (by omega) (by simp only [List.length_append, List.length_singleton]; omega)]
    rw [gsBytes_succ]
    simp only [List.append_assoc]

theorem ref_l0 (p : List (List S39)) (hp : planFine p) : ∀ (d i k : Nat) (acc : List Int), i + d = p.length → 300 * d + 40 ≤ k → acc.length + 500 * d ≤ 40000 →
    handoffref10_Encode.l0 k acc p (p.length : Int) (i : Int) = some (acc ++ gsBytes p i d, 0) := by
  have h8 := hp.1
  intro d
  induction d with
  | zero =>
    intro i k acc hi hk ha
    obtain ⟨k, rfl⟩ : ∃ m, k = m + 1 := ⟨k - 1, by omega⟩
    rw [handoffref10_Encode.l0, if_neg (by omega)]
    simp [gsBytes]
  | succ d ih =>
    intro i k acc hi hk ha
    obtain ⟨h1, h2⟩ := hp.2 i (by omega)
    have h3 := rowBytes_length (rd_L7 p (i : Int)) h2 (rd_L7 p (i : Int)).length 0 (by omega)
    have h5 := rowFuel_le (rd_L7 p (i : Int)) h2 (rd_L7 p (i : Int)).length 0 (by omega)
    obtain ⟨k, rfl⟩ : ∃ m, k = (rowFuel (rd_L7 p (i : Int)) 0 (rd_L7 p (i : Int)).length + 1 + m) + 1 := ⟨k - (rowFuel (rd_L7 p (i : Int)) 0 (rd_L7 p (i : Int)).length + 2), by clear ih; omega⟩
    have h4 := ref_l1 p (p.length : Int) (i : Int) (rd_L7 p (i : Int)) h1 h2 (rd_L7 p (i : Int)).length 0 k (acc ++ [((rd_L7 p (i : Int)).length : Int) % 256]) (by omega) (by rw [List.length_append, List.length_singleton]; omega)
    rw [Int.natCast_zero] at h4
    rw [handoffref10_Encode.l0, if_pos (by omega), if_pos (by omega), if_pos (by omega), if_pos (by omega), h4, wrap_in ((i : Int) + 1) (by omega) (by omega), show (i : Int) + 1 = ((i + 1 : Nat) : Int) by omega, ih (i + 1) k _ (by omega) (by omega) (by simp only [List.length_append, List.length_singleton]; omega)]
    rw [gsBytes_succ]
    simp only [List.append_assoc]

/-- A plan that can be has the same bytes by both. -/
theorem encode_same (p : List (List S39)) (hp : planFine p) (k : Nat) (hk : 3000 ≤ k) (h1 : plan_Right.f k p = some true) (h2 : handoffref10_Right.f k p = some true) :
    plan_Encode.f k p = handoffref10_Encode.f k p ∧ ∃ x, plan_Encode.f k p = some (x, 0) := by
  have h8 := hp.1
  have e1 := plan_l0 p hp p.length 0 k [(wrap64 ((p.length : Int) - 1)) % 256] (by omega) (by omega) (by rw [List.length_singleton]; omega)
  have e2 := ref_l0 p hp p.length 0 k [(wrap64 ((p.length : Int) - 1)) % 256] (by omega) (by omega) (by rw [List.length_singleton]; omega)
  rw [Int.natCast_zero] at e1 e2
  have f1 : plan_Encode.f k p = some ([wrap64 ((p.length : Int) - 1) % 256] ++ gsBytes p 0 p.length, 0) := by
    unfold plan_Encode.f
    rw [h1]
    simp only [Option.bind_some, if_true]
    exact e1
  have f2 : handoffref10_Encode.f k p = some ([wrap64 ((p.length : Int) - 1) % 256] ++ gsBytes p 0 p.length, 0) := by
    unfold handoffref10_Encode.f
    rw [h2]
    simp only [Option.bind_some, if_true]
    exact e2
  exact ⟨f1.trans f2.symm, _, f1⟩
end Go.Proofs.Ytjmpaeckpbpclaa.PlanEnc
