/- What an op's bytes are, by the program and by the document: the same. -/
import Derived.Test.YtjmpaeckpbpclaaPlanOps
import Derived.Test.YtjmpaeckpbpclaaPlanRead
namespace Go.Proofs.Ytjmpaeckpbpclaa.PlanPut
open Go.RowKit Go.Proofs.YtjmpaeckpbpclaaW.PrintWords Go.Proofs.Ytjmpaeckpbpclaa.PPlK Go.Proofs.Ytjmpaeckpbpclaa.PlanRead
set_option linter.unusedSimpArgs false

def bitv (b : Bool) : Int := if b = true then 1 else 0

theorem bit_is (b : Bool) : plan_bit.f b = some (bitv b) := by cases b <;> rfl
theorem flag_is (b : Bool) : handoffref10_flag.f b = some (bitv b) := by cases b <;> rfl

def caseBytes (c : S116) : List Int := [bitv c.f0, c.f1 % 256] ++ (if c.f0 = true then [c.f2 % 256] else [])

theorem caseBytes_length (c : S116) : (caseBytes c).length ≤ 3 := by
  unfold caseBytes
  split <;> simp

/-- The bytes of d cases from a place on. -/
def cb (x : List S116) : Nat → Nat → List Int
  | _, 0 => []
  | i, d + 1 => caseBytes (rd_T116 x (i : Int)) ++ cb x (i + 1) d

theorem cb_length (x : List S116) : ∀ d i, (cb x i d).length ≤ 3 * d := by
  intro d
  induction d with
  | zero => intro i; simp [cb]
  | succ d ih =>
    intro i
    have h1 := ih (i + 1)
    have h2 := caseBytes_length (rd_T116 x (i : Int))
    unfold cb
    rw [List.length_append]
    omega

theorem plan_put_l0 (x : List S116) (hx : x.length ≤ 100) : ∀ (d i k : Nat) (acc : List Int), i + d = x.length → d < k → acc.length + 3 * d ≤ 100000 → plan_put.l0 k acc x (x.length : Int) (i : Int) = some (acc ++ cb x i d) := by
  intro d
  induction d with
  | zero =>
    intro i k acc hi hk ha
    obtain ⟨k, rfl⟩ : ∃ m, k = m + 1 := ⟨k - 1, by omega⟩
    rw [plan_put.l0, if_neg (by omega)]
    simp [cb]
  | succ d ih =>
    intro i k acc hi hk ha
    obtain ⟨k, rfl⟩ : ∃ m, k = m + 1 := ⟨k - 1, by omega⟩
    rw [plan_put.l0, if_pos (by omega), if_pos (by omega), if_pos (by omega), bit_is, wrap_in ((i : Int) + 1) (by omega) (by omega), show (i : Int) + 1 = ((i + 1 : Nat) : Int) by omega]
    simp only [Option.bind_some]
    unfold cb caseBytes
    generalize rd_T116 x (i : Int) = c
    rw [if_pos (by simp; omega)]
    by_cases hc : c.f0 = true
    · rw [if_pos hc, if_pos hc, if_pos (by simp; omega), ih (i + 1) k _ (by omega) (by omega) (by simp; omega)]
      simp
    · rw [if_neg hc, if_neg hc, ih (i + 1) k _ (by omega) (by omega) (by simp; omega)]
      simp

theorem ref_l2 (x19 : List (List S39)) (x20 x21 : Int) (x31 : List S39) (x32 x33 : Int) (x : List S116) (hx : x.length ≤ 100) : ∀ (d i k : Nat) (acc : List Int), i + d = x.length → acc.length + 3 * d ≤ 100000 →
    handoffref10_Encode.l2 (d + 1 + k) acc x19 x20 x21 x31 x32 x33 x (x.length : Int) (i : Int) = handoffref10_Encode.l1 k (acc ++ cb x i d) x19 x20 x21 x31 x32 (wrap64 (x33 + 1)) := by
  intro d
  induction d with
  | zero =>
    intro i k acc hi ha
    rw [show 0 + 1 + k = k + 1 by omega, handoffref10_Encode.l2, if_neg (by omega)]
    simp [cb]
  | succ d ih =>
    intro i k acc hi ha
    rw [show d + 1 + 1 + k = (d + 1 + k) + 1 by omega, handoffref10_Encode.l2, if_pos (by omega), if_pos (by omega), if_pos (by omega), flag_is, wrap_in ((i : Int) + 1) (by omega) (by omega), show (i : Int) + 1 = ((i + 1 : Nat) : Int) by omega]
    simp only [Option.bind_some]
    unfold cb caseBytes
    generalize rd_T116 x (i : Int) = c
    rw [if_pos (by simp; omega)]
    by_cases hc : c.f0 = true
    · rw [if_pos hc, if_pos hc, if_pos (by simp; omega), ih (i + 1) k _ (by omega) (by simp; omega)]
      simp
    · rw [if_neg hc, if_neg hc, ih (i + 1) k _ (by omega) (by simp; omega)]
      simp

/-- An op's bytes. -/
def putBytes (o : S39) : List Int :=
  [wrap64 (o.f0 - 1) % 256] ++ (if 2 ≤ o.f0 ∧ o.f0 ≤ 8 then [o.f1 % 256] else []) ++ (if o.f0 = 1 then [o.f2 % 256] else []) ++ (if o.f0 = 2 ∨ o.f0 = 4 then [o.f3 % 256] else []) ++
  (if o.f0 = 9 then [(o.f4.length : Int) % 256, bitv o.f5] ++ cb o.f4 0 o.f4.length else [])

theorem putBytes_length (o : S39) (h : o.f4.length ≤ 6) : (putBytes o).length ≤ 30 := by
  have h1 := cb_length o.f4 o.f4.length 0
  unfold putBytes
  simp only [List.length_append, List.length_singleton]
  repeat' split
  all_goals (simp; try omega)

theorem plan_put_is (o : S39) (h1 : 1 ≤ o.f0) (h9 : o.f0 ≤ 9) (hx : o.f4.length ≤ 6) (l : List Int) (hl : l.length ≤ 50000) (k : Nat) (hk : 20 ≤ k) : plan_put.f k l o.f0 o.f1 o.f2 o.f3 o.f4 o.f5 = some (l ++ putBytes o) := by
  obtain ⟨a, b, c, d, x, e⟩ := o
  simp only at h1 h9 hx ⊢
  obtain ⟨k, rfl⟩ : ∃ m, k = m + 1 + 1 + 1 := ⟨k - 3, by omega⟩
  have hc := fun acc ha => plan_put_l0 x (by omega) x.length 0 k acc (by omega) (by omega) ha
  have hf := PlanOps.fields_is a h1 h9
  unfold plan_put.f putBytes
  simp only
  rw [if_pos (by omega), hf]
  simp only [Option.bind_some]
  have ha : a = 1 ∨ a = 2 ∨ a = 3 ∨ a = 4 ∨ a = 5 ∨ a = 6 ∨ a = 7 ∨ a = 8 ∨ a = 9 := by omega
  have L1 : ∀ m : Nat, m ≤ 10 → l.length + m < 140737488355328 := by omega
  have L2 : l.length < 140737488355328 := by omega
  generalize hw : wrap64 (a - 1) % 256 = w0
  clear hw
  rcases ha with rfl | rfl | rfl | rfl | rfl | rfl | rfl | rfl | rfl
  all_goals (try (simp [plan_put.j0, plan_put.j1, plan_put.j2, L1, L2]; done))
  simp [plan_put.j0, plan_put.j1, plan_put.j2, L1, L2, bit_is]
  have := hc (l ++ w0 :: [(x.length : Int) % 256, bitv e]) (by simp; omega)
  exact ⟨by omega, by simpa using this⟩

/-- An op of the document's that can be. -/
def fine (o : S39) : Prop := 1 ≤ o.f0 ∧ o.f0 ≤ 9 ∧ o.f4.length ≤ 6 ∧ (o.f0 = 9 ∨ o.f4 = [])

theorem ref_put_is (x19 : List (List S39)) (x20 x21 : Int) (row : List S39) (i : Nat) (hi : i < row.length) (hr : row.length ≤ 100) (ho : fine (rd_T39 row (i : Int))) (l : List Int) (hl : l.length ≤ 50000) (k : Nat) :
    handoffref10_Encode.l1 ((rd_T39 row (i : Int)).f4.length + 6 + k) l x19 x20 x21 row (row.length : Int) (i : Int) = handoffref10_Encode.l1 k (l ++ putBytes (rd_T39 row (i : Int))) x19 x20 x21 row (row.length : Int) ((i + 1 : Nat) : Int) := by
  have hw : wrap64 ((i : Int) + 1) = ((i + 1 : Nat) : Int) := by rw [wrap_in _ (by omega) (by omega)]; omega
  rw [show (rd_T39 row (i : Int)).f4.length + 6 + k = ((rd_T39 row (i : Int)).f4.length + 1 + k) + 1 + 1 + 1 + 1 + 1 by omega, handoffref10_Encode.l1, if_pos (by omega), if_pos (by omega), if_pos (by omega)]
  generalize rd_T39 row (i : Int) = o at ho ⊢
  obtain ⟨a, b, c, d, x, e⟩ := o
  obtain ⟨h1, h9, hx, h0⟩ := ho
  simp only at h1 h9 hx h0 ⊢
  have hc := fun acc ha => ref_l2 x19 x20 x21 row (row.length : Int) (i : Int) x (by omega) x.length 0 k acc (by omega) ha
  rw [hw] at hc
  unfold putBytes
  simp only
  have L1 : ∀ m : Nat, m ≤ 10 → l.length + m < 140737488355328 := by omega
  have L2 : l.length < 140737488355328 := by omega
  rw [if_pos (by omega)]
  simp only [Option.bind_some]
  have ha : a = 1 ∨ a = 2 ∨ a = 3 ∨ a = 4 ∨ a = 5 ∨ a = 6 ∨ a = 7 ∨ a = 8 ∨ a = 9 := by omega
  generalize hw0 : wrap64 (a - 1) % 256 = w0
  clear hw0
  rcases h0 with rfl | rfl
  · simp [handoffref10_HasCh.f, handoffref10_HasV.f, handoffref10_Encode.j2, handoffref10_Encode.j3, handoffref10_Encode.j4, handoffref10_Encode.j5, L1, L2, flag_is]
    have := hc (l ++ w0 :: [(x.length : Int) % 256, bitv e]) (by simp; omega)
    rw [if_pos (by omega)]
    simpa using this
  · rcases ha with rfl | rfl | rfl | rfl | rfl | rfl | rfl | rfl | rfl
    · have := hc (l ++ [w0, c % 256]) (by simp; omega)
      simp [handoffref10_HasCh.f, handoffref10_HasV.f, handoffref10_Encode.j2, handoffref10_Encode.j3, handoffref10_Encode.j4, handoffref10_Encode.j5, L1, L2, flag_is, cb] at this ⊢
      exact this
    · have := hc (l ++ [w0, b % 256, d % 256]) (by simp; omega)
      simp [handoffref10_HasCh.f, handoffref10_HasV.f, handoffref10_Encode.j2, handoffref10_Encode.j3, handoffref10_Encode.j4, handoffref10_Encode.j5, L1, L2, flag_is, cb] at this ⊢
      first | exact this | exact ⟨by omega, this⟩ | (rw [if_pos (by omega)]; exact this)
    · have := hc (l ++ [w0, b % 256]) (by simp; omega)
      simp [handoffref10_HasCh.f, handoffref10_HasV.f, handoffref10_Encode.j2, handoffref10_Encode.j3, handoffref10_Encode.j4, handoffref10_Encode.j5, L1, L2, flag_is, cb] at this ⊢
      exact this
    · have := hc (l ++ [w0, b % 256, d % 256]) (by simp; omega)
      simp [handoffref10_HasCh.f, handoffref10_HasV.f, handoffref10_Encode.j2, handoffref10_Encode.j3, handoffref10_Encode.j4, handoffref10_Encode.j5, L1, L2, flag_is, cb] at this ⊢
      first | exact this | exact ⟨by omega, this⟩ | (rw [if_pos (by omega)]; exact this)
    · have := hc (l ++ [w0, b % 256]) (by simp; omega)
      simp [handoffref10_HasCh.f, handoffref10_HasV.f, handoffref10_Encode.j2, handoffref10_Encode.j3, handoffref10_Encode.j4, handoffref10_Encode.j5, L1, L2, flag_is, cb] at this ⊢
      exact this
    · have := hc (l ++ [w0, b % 256]) (by simp; omega)
      simp [handoffref10_HasCh.f, handoffref10_HasV.f, handoffref10_Encode.j2, handoffref10_Encode.j3, handoffref10_Encode.j4, handoffref10_Encode.j5, L1, L2, flag_is, cb] at this ⊢
      exact this
    · have := hc (l ++ [w0, b % 256]) (by simp; omega)
      simp [handoffref10_HasCh.f, handoffref10_HasV.f, handoffref10_Encode.j2, handoffref10_Encode.j3, handoffref10_Encode.j4, handoffref10_Encode.j5, L1, L2, flag_is, cb] at this ⊢
      exact this
    · have := hc (l ++ [w0, b % 256]) (by simp; omega)
      simp [handoffref10_HasCh.f, handoffref10_HasV.f, handoffref10_Encode.j2, handoffref10_Encode.j3, handoffref10_Encode.j4, handoffref10_Encode.j5, L1, L2, flag_is, cb] at this ⊢
      exact this
    · have := hc (l ++ [w0, 0, bitv e]) (by simp; omega)
      simp [handoffref10_HasCh.f, handoffref10_HasV.f, handoffref10_Encode.j2, handoffref10_Encode.j3, handoffref10_Encode.j4, handoffref10_Encode.j5, L1, L2, flag_is, cb] at this ⊢
      first | exact this | exact ⟨by omega, this⟩ | (rw [if_pos (by omega)]; exact this)
end Go.Proofs.Ytjmpaeckpbpclaa.PlanPut
