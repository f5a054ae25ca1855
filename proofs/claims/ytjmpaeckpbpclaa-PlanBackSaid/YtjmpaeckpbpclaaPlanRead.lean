/- What bytes are read as, by the program and by the document: the same. -/
import Derived.Test.YtjmpaeckpbpclaaPPlKx17
namespace Go.Proofs.Ytjmpaeckpbpclaa.PlanRead
open Go.RowKit Go.Proofs.YtjmpaeckpbpclaaW.PrintWords Go.Proofs.Ytjmpaeckpbpclaa.PPlK
set_option linter.unusedSimpArgs false

/-- The byte at a place, 0 behind the last. -/
def atv (b : List Int) (i : Nat) : Int := if i < b.length then rd b (i : Int) else 0
def upto (b : List Int) (i : Nat) : Int := ((min i b.length : Nat) : Int)

variable {b : List Int} (hb : ∀ x ∈ b, 0 ≤ x ∧ x < 256) (hl : b.length ≤ 5000)

include hb in
theorem atv_in (i : Nat) : 0 ≤ atv b i ∧ atv b i < 256 := by
  unfold atv
  split
  · rename_i h
    have : rd b (i : Int) ∈ b := by
      unfold rd
      rw [Int.toNat_natCast, List.getD_eq_getElem?_getD, List.getElem?_eq_getElem h]
      exact List.getElem_mem h
    exact hb _ this
  · omega

theorem wrap_in (x : Int) (h0 : -1000000 ≤ x) (h1 : x ≤ 1000000) : wrap64 x = x := by unfold wrap64; omega

include hb hl in
theorem next_is (i : Nat) (n : Int) (hn : n ≠ 0) : plan_reader_next.f b (upto b i) n = some (Int.tmod (atv b i) n, upto b (i + 1)) := by
  have ha := atv_in hb i
  unfold plan_reader_next.f upto
  by_cases h : i < b.length
  · have e1 : min i b.length = i := by omega
    have e2 : min (i + 1) b.length = i + 1 := by omega
    have e3 : atv b i = rd b (i : Int) := by unfold atv; rw [if_pos h]
    rw [e1, e2, if_neg (by omega), wrap_in ((i : Int) + 1) (by omega) (by omega), wrap_in ((i : Int) + 1 - 1) (by omega) (by omega), if_pos (by omega), if_pos (by omega), if_neg hn]
    rw [show (i : Int) + 1 - 1 = (i : Int) by omega, ← e3, wrap_in _ (by omega) (by omega)]
    rfl
  · have e1 : min i b.length = b.length := by omega
    have e2 : min (i + 1) b.length = b.length := by omega
    have e3 : atv b i = 0 := by unfold atv; rw [if_neg h]
    rw [e1, e2, if_pos rfl, e3, Int.zero_tmod]

include hb in
theorem at_is (i : Nat) : handoffref10_at.f b (i : Int) = some (atv b i) := by
  have ha := atv_in hb i
  unfold handoffref10_at.f
  by_cases h : i < b.length
  · have e3 : atv b i = rd b (i : Int) := by unfold atv; rw [if_pos h]
    rw [if_neg (by omega), if_pos (by omega), if_pos (by omega), ← e3, wrap_in _ (by omega) (by omega)]
  · have e3 : atv b i = 0 := by unfold atv; rw [if_neg h]
    rw [if_pos (by omega), e3]

/-- The cases that stand at a place. -/
def rdCases (b : List Int) : Nat → Nat → List S116 → List S116 × Nat
  | 0, i, acc => (acc, i)
  | m + 1, i, acc => if Int.tmod (atv b i) 2 = 1 then rdCases b m (i + 3) (acc ++ [⟨Int.tmod (atv b i) 2 == 1, Int.tmod (atv b (i + 1)) 9, atv b (i + 2)⟩]) else rdCases b m (i + 2) (acc ++ [⟨Int.tmod (atv b i) 2 == 1, Int.tmod (atv b (i + 1)) 9, 0⟩])

theorem rdCases_bound : ∀ (m i : Nat) (acc : List S116), (rdCases b m i acc).1.length = acc.length + m ∧ i ≤ (rdCases b m i acc).2 ∧ (rdCases b m i acc).2 ≤ i + 3 * m := by
  intro m
  induction m with
  | zero => intro i acc; exact ⟨rfl, Nat.le_refl _, Nat.le_refl _⟩
  | succ m ih =>
    intro i acc
    unfold rdCases
    split
    · obtain ⟨h1, h2, h3⟩ := ih (i + 3) (acc ++ [⟨Int.tmod (atv b i) 2 == 1, Int.tmod (atv b (i + 1)) 9, atv b (i + 2)⟩])
      rw [List.length_append] at h1
      refine ⟨by rw [h1]; simp; omega, by omega, by omega⟩
    · obtain ⟨h1, h2, h3⟩ := ih (i + 2) (acc ++ [⟨Int.tmod (atv b i) 2 == 1, Int.tmod (atv b (i + 1)) 9, 0⟩])
      rw [List.length_append] at h1
      refine ⟨by rw [h1]; simp; omega, by omega, by omega⟩

include hb in
theorem mod_is (i : Nat) : Int.tmod (atv b i) 256 = atv b i := Int.tmod_eq_of_lt (atv_in hb i).1 (atv_in hb i).2

include hb hl in
theorem plan_cases (x0 x1 x2 x3 : Int) (x5 : Bool) (M : Nat) (hM : M ≤ 100) : ∀ (d j k i : Nat) (acc : List S116), j + d = M → d < k → acc.length ≤ 1000 → acc.length + d ≤ 1000 →
    plan_reader_one.l0 k (M : Int) (j : Int) b (upto b i) x0 x1 x2 x3 acc x5 = some (x0, x1, x2, x3, (rdCases b d i acc).1, x5, upto b (rdCases b d i acc).2) := by
  intro d
  induction d with
  | zero =>
    intro j k i acc hj hk ha hd
    obtain ⟨k, rfl⟩ : ∃ m, k = m + 1 := ⟨k - 1, by omega⟩
    rw [plan_reader_one.l0, if_neg (by omega)]
    rfl
  | succ d ih =>
    intro j k i acc hj hk ha hd
    obtain ⟨k, rfl⟩ : ∃ m, k = m + 1 := ⟨k - 1, by omega⟩
    rw [plan_reader_one.l0, if_pos (by omega), next_is hb hl i 2 (by omega)]
    simp only [Option.bind_some]
    rw [next_is hb hl (i + 1) 9 (by omega)]
    simp only [Option.bind_some]
    rw [wrap_in ((j : Int) + 1) (by omega) (by omega), show (j : Int) + 1 = ((j + 1 : Nat) : Int) by omega]
    unfold rdCases
    by_cases c : Int.tmod (atv b i) 2 = 1
    · rw [if_pos c, if_pos c, next_is hb hl (i + 1 + 1) 256 (by omega), mod_is hb]
      simp only [Option.bind_some]
      rw [if_pos (by omega)]
      exact ih (j + 1) k (i + 3) _ (by omega) (by omega) (by rw [List.length_append]; simp; omega) (by rw [List.length_append]; simp; omega)
    · rw [if_neg c, if_neg c, if_pos (by omega)]
      exact ih (j + 1) k (i + 2) _ (by omega) (by omega) (by rw [List.length_append]; simp; omega) (by rw [List.length_append]; simp; omega)

include hb in
theorem ref_cases (x0 x1 x2 x3 : Int) (x5 : Bool) (M : Nat) (hM : M ≤ 100) : ∀ (d j k i : Nat) (acc : List S116), j + d = M → d < k → i + 3 * d ≤ 100000 → acc.length + d ≤ 1000 →
    handoffref10_one.l0 k b (i : Int) (M : Int) (j : Int) x0 x1 x2 x3 acc x5 = some (x0, x1, x2, x3, (rdCases b d i acc).1, x5, ((rdCases b d i acc).2 : Int)) := by
  intro d
  induction d with
  | zero =>
    intro j k i acc hj hk ha hd
    obtain ⟨k, rfl⟩ : ∃ m, k = m + 1 := ⟨k - 1, by omega⟩
    rw [handoffref10_one.l0, if_neg (by omega)]
    rfl
  | succ d ih =>
    intro j k i acc hj hk ha hd
    obtain ⟨k, rfl⟩ : ∃ m, k = m + 1 := ⟨k - 1, by omega⟩
    have e1 : wrap64 ((i : Int) + 1) = ((i + 1 : Nat) : Int) := by rw [wrap_in _ (by omega) (by omega)]; omega
    have e2 : wrap64 ((i : Int) + 2) = ((i + 2 : Nat) : Int) := by rw [wrap_in _ (by omega) (by omega)]; omega
    have e3 : wrap64 (((i + 2 : Nat) : Int) + 1) = ((i + 3 : Nat) : Int) := by rw [wrap_in _ (by omega) (by omega)]; omega
    have e4 : wrap64 ((j : Int) + 1) = ((j + 1 : Nat) : Int) := by rw [wrap_in _ (by omega) (by omega)]; omega
    rw [handoffref10_one.l0, if_pos (by omega), at_is hb, e1, e2, e3, e4]
    simp only [Option.bind_some]
    rw [at_is hb]
    simp only [Option.bind_some]
    unfold rdCases
    by_cases c : Int.tmod (atv b i) 2 = 1
    · rw [if_pos c, if_pos c, at_is hb]
      simp only [Option.bind_some]
      rw [if_pos (by omega)]
      exact ih (j + 1) k (i + 3) _ (by omega) (by omega) (by omega) (by rw [List.length_append]; simp; omega)
    · rw [if_neg c, if_neg c, if_pos (by omega)]
      exact ih (j + 1) k (i + 2) _ (by omega) (by omega) (by omega) (by rw [List.length_append]; simp; omega)

/-- How many cases stand at a place. -/
def many (b : List Int) (i : Nat) : Nat := (Int.tmod (atv b i) 7).toNat

include hb in
theorem many_is (i : Nat) : Int.tmod (atv b i) 7 = (many b i : Int) ∧ many b i ≤ 6 := by
  have h1 := atv_in hb i
  have h2 : 0 ≤ Int.tmod (atv b i) 7 := Int.tmod_nonneg _ h1.1
  have h3 : Int.tmod (atv b i) 7 < 7 := Int.tmod_lt_of_pos _ (by decide)
  unfold many
  omega

/-- The op that stands at a place, and the place behind it. -/
def rdOne (b : List Int) (i : Nat) : S39 × Nat :=
  if Int.tmod (atv b i) 9 = 8 then (⟨9, 0, 0, 0, (rdCases b (many b (i + 1)) (i + 3) []).1, Int.tmod (atv b (i + 2)) 2 == 1⟩, (rdCases b (many b (i + 1)) (i + 3) []).2)
  else if Int.tmod (atv b i) 9 = 0 then (⟨1, 0, Int.tmod (atv b (i + 1)) 5, 0, [], false⟩, i + 2)
  else if Int.tmod (atv b i) 9 = 1 ∨ Int.tmod (atv b i) 9 = 3 then (⟨Int.tmod (atv b i) 9 + 1, Int.tmod (atv b (i + 1)) 9, 0, atv b (i + 2), [], false⟩, i + 3)
  else (⟨Int.tmod (atv b i) 9 + 1, Int.tmod (atv b (i + 1)) 9, 0, 0, [], false⟩, i + 2)

include hb in
theorem rdOne_bound (i : Nat) : (rdOne b i).1.f4.length ≤ 6 ∧ (rdOne b i).2 ≤ i + 21 := by
  have hm := (many_is hb (i + 1)).2
  have hc := rdCases_bound (b := b) (many b (i + 1)) (i + 3) []
  unfold rdOne
  split
  · refine ⟨?_, ?_⟩
    · show (rdCases b (many b (i + 1)) (i + 3) []).1.length ≤ 6
      rw [hc.1]
      simpa using hm
    · show (rdCases b (many b (i + 1)) (i + 3) []).2 ≤ _
      omega
  · split
    · exact ⟨by simp, by simp⟩
    · split
      · exact ⟨by simp, by simp⟩
      · exact ⟨by simp, by simp⟩

include hb hl in
theorem plan_one (i k : Nat) (hk : 20 ≤ k) : plan_reader_one.f k b (upto b i) = some ((rdOne b i).1.f0, (rdOne b i).1.f1, (rdOne b i).1.f2, (rdOne b i).1.f3, (rdOne b i).1.f4, (rdOne b i).1.f5, upto b (rdOne b i).2) := by
  have n9 := fun i => next_is hb hl i 9 (by decide)
  have n5 := fun i => next_is hb hl i 5 (by decide)
  have n256 := fun i => next_is hb hl i 256 (by decide)
  have n7 := fun i => next_is hb hl i 7 (by decide)
  have n2 := fun i => next_is hb hl i 2 (by decide)
  have h1 : 0 ≤ Int.tmod (atv b i) 9 := Int.tmod_nonneg _ (atv_in hb i).1
  have h2 : Int.tmod (atv b i) 9 < 9 := Int.tmod_lt_of_pos _ (by decide)
  obtain ⟨k, rfl⟩ : ∃ m, k = m + 1 + 1 + 1 := ⟨k - 3, by omega⟩
  obtain ⟨hm1, hm2⟩ := many_is hb (i + 1)
  have hc := fun x5 => plan_cases hb hl 9 0 0 0 x5 (many b (i + 1)) (by omega) (many b (i + 1)) 0 k (i + 3) [] (by omega) (by omega) (by simp) (by simp; omega)
  unfold plan_reader_one.f rdOne
  rw [n9 i]
  simp only [Option.bind_some]
  generalize Int.tmod (atv b i) 9 = t at h1 h2 ⊢
  have ht : t = 0 ∨ t = 1 ∨ t = 2 ∨ t = 3 ∨ t = 4 ∨ t = 5 ∨ t = 6 ∨ t = 7 ∨ t = 8 := by omega
  rcases ht with rfl | rfl | rfl | rfl | rfl | rfl | rfl | rfl | rfl
  · simp [wrap64, plan_fields.f, plan_reader_one.j0, plan_reader_one.j1, plan_reader_one.j2, n5]
  · simp [wrap64, plan_fields.f, plan_reader_one.j0, plan_reader_one.j1, plan_reader_one.j2, n9, n256, mod_is hb]
  · simp [wrap64, plan_fields.f, plan_reader_one.j0, plan_reader_one.j1, plan_reader_one.j2, n9]
  · simp [wrap64, plan_fields.f, plan_reader_one.j0, plan_reader_one.j1, plan_reader_one.j2, n9, n256, mod_is hb]
  · simp [wrap64, plan_fields.f, plan_reader_one.j0, plan_reader_one.j1, plan_reader_one.j2, n9]
  · simp [wrap64, plan_fields.f, plan_reader_one.j0, plan_reader_one.j1, plan_reader_one.j2, n9]
  · simp [wrap64, plan_fields.f, plan_reader_one.j0, plan_reader_one.j1, plan_reader_one.j2, n9]
  · simp [wrap64, plan_fields.f, plan_reader_one.j0, plan_reader_one.j1, plan_reader_one.j2, n9]
  · simp [wrap64, plan_fields.f, plan_reader_one.j0, plan_reader_one.j1, plan_reader_one.j2, n7, n2, hm1]
    simpa using hc _

include hb in
theorem ref_one (i k : Nat) (hi : i ≤ 90000) (hk : 20 ≤ k) : handoffref10_one.f k b (i : Int) = some ((rdOne b i).1.f0, (rdOne b i).1.f1, (rdOne b i).1.f2, (rdOne b i).1.f3, (rdOne b i).1.f4, (rdOne b i).1.f5, ((rdOne b i).2 : Int)) := by
  have h1 : 0 ≤ Int.tmod (atv b i) 9 := Int.tmod_nonneg _ (atv_in hb i).1
  have h2 : Int.tmod (atv b i) 9 < 9 := Int.tmod_lt_of_pos _ (by decide)
  obtain ⟨k, rfl⟩ : ∃ m, k = m + 1 + 1 + 1 := ⟨k - 3, by omega⟩
  obtain ⟨hm1, hm2⟩ := many_is hb (i + 1)
  have hc := fun x5 => ref_cases hb 9 0 0 0 x5 (many b (i + 1)) (by omega) (many b (i + 1)) 0 k (i + 3) [] (by omega) (by omega) (by omega) (by simp; omega)
  obtain ⟨I1, hI1⟩ : ∃ x : Int, x = (i : Int) + 1 := ⟨_, rfl⟩
  obtain ⟨I2, hI2⟩ : ∃ x : Int, x = (i : Int) + 2 := ⟨_, rfl⟩
  obtain ⟨I3, hI3⟩ : ∃ x : Int, x = (i : Int) + 3 := ⟨_, rfl⟩
  have e1 : wrap64 ((i : Int) + 1) = I1 := by rw [wrap_in _ (by omega) (by omega)]; omega
  have e2 : wrap64 (I1 + 1) = I2 := by rw [wrap_in _ (by omega) (by omega)]; omega
  have e3 : wrap64 (I2 + 1) = I3 := by rw [wrap_in _ (by omega) (by omega)]; omega
  have e4 : wrap64 (I1 + 2) = I3 := by rw [wrap_in _ (by omega) (by omega)]; omega
  have w1 : wrap64 1 = 1 := wrap_in 1 (by omega) (by omega)
  have w2 : wrap64 2 = 2 := wrap_in 2 (by omega) (by omega)
  have w3 : wrap64 3 = 3 := wrap_in 3 (by omega) (by omega)
  have w4 : wrap64 4 = 4 := wrap_in 4 (by omega) (by omega)
  have w5 : wrap64 5 = 5 := wrap_in 5 (by omega) (by omega)
  have w6 : wrap64 6 = 6 := wrap_in 6 (by omega) (by omega)
  have w7 : wrap64 7 = 7 := wrap_in 7 (by omega) (by omega)
  have w8 : wrap64 8 = 8 := wrap_in 8 (by omega) (by omega)
  have w9 : wrap64 9 = 9 := wrap_in 9 (by omega) (by omega)
  have a0 := at_is hb i
  have a1 : handoffref10_at.f b I1 = some (atv b (i + 1)) := by rw [hI1]; exact at_is hb (i + 1)
  have a2 : handoffref10_at.f b I2 = some (atv b (i + 2)) := by rw [hI2]; exact at_is hb (i + 2)
  unfold handoffref10_one.f rdOne
  rw [a0]
  simp only [Option.bind_some]
  generalize Int.tmod (atv b i) 9 = t at h1 h2 ⊢
  have ht : t = 0 ∨ t = 1 ∨ t = 2 ∨ t = 3 ∨ t = 4 ∨ t = 5 ∨ t = 6 ∨ t = 7 ∨ t = 8 := by omega
  rcases ht with rfl | rfl | rfl | rfl | rfl | rfl | rfl | rfl | rfl
  · simp [w1, e1, e2, e3, handoffref10_HasCh.f, handoffref10_HasV.f, handoffref10_one.j0, handoffref10_one.j1, handoffref10_one.j2, a1, a2]
    omega
  · simp [w2, e1, e2, e3, handoffref10_HasCh.f, handoffref10_HasV.f, handoffref10_one.j0, handoffref10_one.j1, handoffref10_one.j2, a1, a2]
    omega
  · simp [w3, e1, e2, e3, handoffref10_HasCh.f, handoffref10_HasV.f, handoffref10_one.j0, handoffref10_one.j1, handoffref10_one.j2, a1, a2]
    omega
  · simp [w4, e1, e2, e3, handoffref10_HasCh.f, handoffref10_HasV.f, handoffref10_one.j0, handoffref10_one.j1, handoffref10_one.j2, a1, a2]
    omega
  · simp [w5, e1, e2, e3, handoffref10_HasCh.f, handoffref10_HasV.f, handoffref10_one.j0, handoffref10_one.j1, handoffref10_one.j2, a1, a2]
    omega
  · simp [w6, e1, e2, e3, handoffref10_HasCh.f, handoffref10_HasV.f, handoffref10_one.j0, handoffref10_one.j1, handoffref10_one.j2, a1, a2]
    omega
  · simp [w7, e1, e2, e3, handoffref10_HasCh.f, handoffref10_HasV.f, handoffref10_one.j0, handoffref10_one.j1, handoffref10_one.j2, a1, a2]
    omega
  · simp [w8, e1, e2, e3, handoffref10_HasCh.f, handoffref10_HasV.f, handoffref10_one.j0, handoffref10_one.j1, handoffref10_one.j2, a1, a2]
    omega
  · simp [w9, e1, e2, e3, e4, handoffref10_HasCh.f, handoffref10_HasV.f, handoffref10_one.j0, handoffref10_one.j1, handoffref10_one.j2, a1, a2, hm1]
    rw [hI3]
    simpa using hc _

/-- The ops from a place on. -/
def rdOps (b : List Int) : Nat → Nat → List S39 → List S39 × Nat
  | 0, i, acc => (acc, i)
  | m + 1, i, acc => rdOps b m (rdOne b i).2 (acc ++ [(rdOne b i).1])

def opsAt (b : List Int) (i : Nat) : Nat := (Int.tmod (atv b i) 17).toNat

include hb in
theorem opsAt_is (i : Nat) : Int.tmod (atv b i) 17 = (opsAt b i : Int) ∧ opsAt b i ≤ 16 := by
  have h1 := atv_in hb i
  have h2 : 0 ≤ Int.tmod (atv b i) 17 := Int.tmod_nonneg _ h1.1
  have h3 : Int.tmod (atv b i) 17 < 17 := Int.tmod_lt_of_pos _ (by decide)
  unfold opsAt
  omega

/-- The goroutines from a place on. -/
def rdGs (b : List Int) : Nat → Nat → List (List S39) → List (List S39) × Nat
  | 0, i, p => (p, i)
  | m + 1, i, p => rdGs b m (rdOps b (opsAt b i) (i + 1) []).2 (p ++ [(rdOps b (opsAt b i) (i + 1) []).1])

include hb in
theorem rdOps_bound : ∀ (m i : Nat) (acc : List S39), (rdOps b m i acc).2 ≤ i + 21 * m ∧ (rdOps b m i acc).1.length = acc.length + m ∧ ((∀ o ∈ acc, o.f4.length ≤ 6) → ∀ o ∈ (rdOps b m i acc).1, o.f4.length ≤ 6) := by
  intro m
  induction m with
  | zero => intro i acc; exact ⟨Nat.le_refl _, rfl, fun h => h⟩
  | succ m ih =>
    intro i acc
    obtain ⟨h1, h2⟩ := rdOne_bound hb i
    obtain ⟨h3, h4, h5⟩ := ih (rdOne b i).2 (acc ++ [(rdOne b i).1])
    unfold rdOps
    refine ⟨by omega, by rw [h4, List.length_append]; simp; omega, fun h => h5 (fun o ho => ?_)⟩
    rcases List.mem_append.1 ho with ho | ho
    · exact h o ho
    · rw [List.mem_singleton.1 ho]
      exact h1

include hb hl in
theorem plan_ops (k : Nat) (hk : 20 ≤ k) : ∀ (m i : Nat) (acc : List S39), acc.length + m ≤ 1000 → plan_Decode.ops k b m (upto b i) acc = some ((rdOps b m i acc).1, upto b (rdOps b m i acc).2) := by
  intro m
  induction m with
  | zero => intro i acc _; rfl
  | succ m ih =>
    intro i acc ha
    unfold plan_Decode.ops rdOps
    rw [plan_one hb hl i k hk]
    simp only [Option.bind_some]
    rw [if_pos (by omega)]
    exact ih _ _ (by rw [List.length_append]; simp; omega)

include hb hl in
theorem plan_gs (k : Nat) (hk : 20 ≤ k) : ∀ (m i : Nat) (p : List (List S39)), plan_Decode.gs k b m (upto b i) p = some ((rdGs b m i p).1, upto b (rdGs b m i p).2) := by
  intro m
  induction m with
  | zero => intro i p; rfl
  | succ m ih =>
    intro i p
    obtain ⟨h1, h2⟩ := opsAt_is hb i
    unfold plan_Decode.gs rdGs
    rw [next_is hb hl i 17 (by decide)]
    simp only [Option.bind_some]
    rw [h1, if_pos (by omega), Int.toNat_natCast, plan_ops hb hl k hk _ _ _ (by simp; omega)]
    simp only [Option.bind_some]
    exact ih _ _

def gsAt (b : List Int) : Nat := (Int.tmod (atv b 0) 8).toNat

include hb in
theorem gsAt_is : Int.tmod (atv b 0) 8 = (gsAt b : Int) ∧ gsAt b ≤ 7 := by
  have h1 := atv_in hb 0
  have h2 : 0 ≤ Int.tmod (atv b 0) 8 := Int.tmod_nonneg _ h1.1
  have h3 : Int.tmod (atv b 0) 8 < 8 := Int.tmod_lt_of_pos _ (by decide)
  unfold gsAt
  omega

/-- The plan that bytes are. -/
def rdPlan (b : List Int) : List (List S39) × Nat := rdGs b (gsAt b + 1) 1 []

include hb hl in
theorem plan_decode (k : Nat) (hk : 20 ≤ k) : plan_Decode.f k b = some ((rdPlan b).1, upto b (rdPlan b).2) := by
  obtain ⟨h1, h2⟩ := gsAt_is hb
  have h0 : (0 : Int) = upto b 0 := by unfold upto; simp
  unfold plan_Decode.f
  rw [h0, next_is hb hl 0 8 (by decide)]
  simp only [Option.bind_some]
  rw [h1, ← h0, if_pos (by omega), Int.toNat_natCast]
  exact plan_gs hb hl k hk _ 1 []

include hb in
theorem ref_l1 (M : Nat) (hM : M ≤ 100) (p : List (List S39)) (hp : p.length ≤ 1000) (x6 : Int) : ∀ (d j i k : Nat) (acc : List S39), j + d = M → 20 ≤ k → i + 21 * d ≤ 90000 → acc.length + d ≤ 1000 →
    handoffref10_Decode.l1 (d + 1 + k) b p (i : Int) x6 acc (M : Int) (j : Int) = handoffref10_Decode.l0 k b (p ++ [(rdOps b d i acc).1]) ((rdOps b d i acc).2 : Int) (wrap64 (x6 + 1)) := by
  intro d
  induction d with
  | zero =>
    intro j i k acc hj hk hi ha
    rw [show 0 + 1 + k = k + 1 by omega, handoffref10_Decode.l1, if_neg (by omega), if_pos (by omega)]
    rfl
  | succ d ih =>
    intro j i k acc hj hk hi ha
    obtain ⟨h1, h2⟩ := rdOne_bound hb i
    rw [show d + 1 + 1 + k = (d + 1 + k) + 1 by omega, handoffref10_Decode.l1, if_pos (by omega), ref_one hb i _ (by omega) (by omega)]
    simp only [Option.bind_some]
    rw [if_pos (by omega), wrap_in ((j : Int) + 1) (by omega) (by omega), show (j : Int) + 1 = ((j + 1 : Nat) : Int) by omega]
    exact ih (j + 1) _ k _ (by omega) hk (by omega) (by rw [List.length_append]; simp; omega)

include hb in
theorem ref_l0 : ∀ (d g i k : Nat) (p : List (List S39)), g + d = gsAt b + 1 → 20 * d + 20 ≤ k → 400 * d + i ≤ 90000 → p.length + d ≤ 1000 →
    handoffref10_Decode.l0 k b p (i : Int) (g : Int) = some ((rdGs b d i p).1, upto b (rdGs b d i p).2) := by
  obtain ⟨h1, h2⟩ := gsAt_is hb
  have h0 : handoffref10_at.f b 0 = some (atv b 0) := at_is hb 0
  have hw : wrap64 ((gsAt b : Int) + 1) = ((gsAt b + 1 : Nat) : Int) := by rw [wrap_in _ (by omega) (by omega)]; omega
  intro d
  induction d with
  | zero =>
    intro g i k p hg hk hi hp
    obtain ⟨k, rfl⟩ : ∃ m, k = m + 1 := ⟨k - 1, by omega⟩
    rw [handoffref10_Decode.l0, h0]
    simp only [Option.bind_some]
    rw [h1, hw, if_neg (by omega)]
    have hm : mn (i : Int) (b.length : Int) = upto b i := by unfold mn upto; first | (split <;> omega) | omega
    rw [hm]
    rfl
  | succ d ih =>
    intro g i k p hg hk hi hp
    obtain ⟨h3, h4⟩ := opsAt_is hb i
    have h5 := (rdOps_bound hb (opsAt b i) (i + 1) []).1
    obtain ⟨k, rfl⟩ : ∃ m, k = (opsAt b i + 1 + m) + 1 := ⟨k - (opsAt b i + 2), by clear ih h5; omega⟩
    rw [handoffref10_Decode.l0, h0]
    simp only [Option.bind_some]
    rw [h1, hw, if_pos (by omega), at_is hb]
    simp only [Option.bind_some]
    rw [h3, wrap_in ((i : Int) + 1) (by omega) (by omega), show (i : Int) + 1 = ((i + 1 : Nat) : Int) by omega]
    have := ref_l1 hb (opsAt b i) (by omega) p (by omega) (g : Int) (opsAt b i) 0 (i + 1) k [] (by omega) (by omega) (by omega) (by simp; omega)
    rw [Int.natCast_zero] at this
    rw [this, wrap_in ((g : Int) + 1) (by omega) (by omega), show (g : Int) + 1 = ((g + 1 : Nat) : Int) by omega]
    unfold rdGs
    exact ih (g + 1) _ k _ (by omega) (by omega) (by omega) (by rw [List.length_append]; simp; omega)

include hb in
theorem ref_decode (k : Nat) (hk : 300 ≤ k) : handoffref10_Decode.f k b = some ((rdPlan b).1, upto b (rdPlan b).2) := by
  obtain ⟨h1, h2⟩ := gsAt_is hb
  unfold handoffref10_Decode.f rdPlan
  have := ref_l0 hb (gsAt b + 1) 0 1 k [] (by omega) (by omega) (by omega) (by simp; omega)
  simpa using this
end Go.Proofs.Ytjmpaeckpbpclaa.PlanRead
