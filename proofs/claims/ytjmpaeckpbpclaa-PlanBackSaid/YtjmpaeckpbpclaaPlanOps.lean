/- Plan: what is right, and what is the same, as the document has it. -/
import Derived.Test.YtjmpaeckpbpclaaPPlKx17
namespace Go.Proofs.Ytjmpaeckpbpclaa.PlanOps
open Go.RowKit Go.Proofs.YtjmpaeckpbpclaaW.PrintWords Go.Proofs.Ytjmpaeckpbpclaa.PPlK
set_option linter.unusedSimpArgs false

def neqAt (x y : List S116) (i : Nat) : Bool := (!(((rd_T116 x (i : Int)).f0) == ((rd_T116 y (i : Int)).f0)) || (!(((rd_T116 x (i : Int)).f1) == ((rd_T116 y (i : Int)).f1)) || (!(((rd_T116 x (i : Int)).f2) == ((rd_T116 y (i : Int)).f2)))))

/-- From a place on all are the same. -/
def sameFrom (x y : List S116) : Nat → Nat → Bool
  | _, 0 => true
  | i, d + 1 => if neqAt x y i = true then false else sameFrom x y (i + 1) d

theorem neq_self (x : List S116) (i : Nat) : neqAt x x i = false := by simp [neqAt]

theorem same_self (x : List S116) : ∀ d i, sameFrom x x i d = true := by
  intro d
  induction d with
  | zero => intro i; rfl
  | succ d ih => intro i; rw [sameFrom, neq_self]; exact ih _

theorem wrap_next (i : Nat) (h : i < 1000) : wrap64 ((i : Int) + 1) = ((i + 1 : Nat) : Int) := by unfold wrap64; omega

theorem case_l0 (x y : List S116) (hx : x.length ≤ 100) (hy : y.length = x.length) : ∀ d k i, i + d = x.length → d < k → api_Case_67.l0 k x y (x.length : Int) (i : Int) = some (sameFrom x y i d) := by
  intro d
  induction d with
  | zero =>
    intro k i hi hk
    obtain ⟨k, rfl⟩ : ∃ m, k = m + 1 := ⟨k - 1, by omega⟩
    rw [api_Case_67.l0, if_neg (by omega)]
    rfl
  | succ d ih =>
    intro k i hi hk
    obtain ⟨k, rfl⟩ : ∃ m, k = m + 1 := ⟨k - 1, by omega⟩
    rw [api_Case_67.l0, if_pos (by omega), if_pos (by omega), if_pos (by omega), if_pos (by omega), sameFrom, wrap_next i (by omega)]
    show (if neqAt x y i = true then some false else _) = _
    by_cases c : neqAt x y i = true
    · rw [if_pos c, if_pos c]
    · rw [if_neg c, if_neg c]
      exact ih k (i + 1) (by omega) (by omega)

theorem ref_same_l0 (a b c d' : Int) (e : Bool) (a' b' c' d'' : Int) (e' : Bool) (x y : List S116) (hx : x.length ≤ 100) (hy : y.length = x.length) : ∀ d k i, i + d = x.length → d < k → handoffref10_SameOp.l0 k (x.length : Int) (i : Int) a b c d' x e a' b' c' d'' y e' = some (sameFrom x y i d) := by
  intro d
  induction d with
  | zero =>
    intro k i hi hk
    obtain ⟨k, rfl⟩ : ∃ m, k = m + 1 := ⟨k - 1, by omega⟩
    rw [handoffref10_SameOp.l0, if_neg (by omega)]
    rfl
  | succ d ih =>
    intro k i hi hk
    obtain ⟨k, rfl⟩ : ∃ m, k = m + 1 := ⟨k - 1, by omega⟩
    rw [handoffref10_SameOp.l0, if_pos (by omega), if_pos (by omega), if_pos (by omega), if_pos (by omega), sameFrom, wrap_next i (by omega)]
    show (if neqAt x y i = true then some false else _) = _
    by_cases c1 : neqAt x y i = true
    · rw [if_pos c1, if_pos c1]
    · rw [if_neg c1, if_neg c1]
      exact ih k (i + 1) (by omega) (by omega)

def sameR (a b c d : Int) (x : List S116) (e : Bool) (a' b' c' d' : Int) (y : List S116) (e' : Bool) : Bool :=
  if a = a' then if b = b' then if c = c' then if d = d' then if (e == e') = true then if y.length = x.length then sameFrom x y 0 x.length else false else false else false else false else false else false

theorem plan_same (a b c d : Int) (x : List S116) (e : Bool) (a' b' c' d' : Int) (y : List S116) (e' : Bool) (hx : x.length ≤ 100) (k : Nat) (hk : 200 ≤ k) : plan_SameOp.f k a b c d x e a' b' c' d' y e' = some (sameR a b c d x e a' b' c' d' y e') := by
  have hc : api_Case_67.f k x y = some (if y.length = x.length then sameFrom x y 0 x.length else false) := by
    unfold api_Case_67.f
    by_cases hy : y.length = x.length
    · rw [if_pos (by omega), if_pos hy]
      exact case_l0 x y hx hy x.length k 0 (by omega) (by omega)
    · rw [if_neg (by omega), if_neg hy]
  unfold plan_SameOp.f sameR
  rw [hc]
  repeat' split
  all_goals first | rfl | simp_all

theorem ref_same (a b c d : Int) (x : List S116) (e : Bool) (a' b' c' d' : Int) (y : List S116) (e' : Bool) (hx : x.length ≤ 100) (k : Nat) (hk : 200 ≤ k) : handoffref10_SameOp.f k a b c d x e a' b' c' d' y e' = some (sameR a b c d x e a' b' c' d' y e') := by
  obtain ⟨k, rfl⟩ : ∃ m, k = m + 1 := ⟨k - 1, by omega⟩
  unfold handoffref10_SameOp.f sameR
  simp only [handoffref10_SameOp.j0, if_true]
  by_cases h1 : a = a'
  · rw [if_pos h1, if_pos h1]
    by_cases h2 : b = b'
    · rw [if_pos h2, if_pos h2]
      by_cases h3 : c = c'
      · rw [if_pos h3, if_pos h3]
        by_cases h4 : d = d'
        · rw [if_pos h4, if_pos h4]
          by_cases h5 : (e == e') = true
          · rw [if_neg (by simpa using h5), if_pos h5]
            by_cases hy : y.length = x.length
            · rw [if_neg (by simp [hy]), if_pos hy]
              exact ref_same_l0 a b c d e a' b' c' d' e' x y hx hy x.length k 0 (by omega) (by omega)
            · rw [if_pos (by simp; omega), if_neg hy]
          · rw [if_pos (by simpa using h5), if_neg h5]
        · rw [if_neg h4, if_neg h4]
      · rw [if_neg h3, if_neg h3]
    · rw [if_neg h2, if_neg h2]
  · rw [if_neg h1, if_neg h1]

/-- A case that can be. -/
def caseOk (c : S116) : Bool := decide (0 ≤ c.f1) && decide (c.f1 ≤ 8) && decide (0 ≤ c.f2) && decide (c.f2 ≤ 255) && (c.f0 || c.f2 == 0)

def okFrom (x : List S116) : Nat → Nat → Bool
  | _, 0 => true
  | i, d + 1 => if caseOk (rd_T116 x (i : Int)) = true then okFrom x (i + 1) d else false

theorem ref_right_l0 (x : List S116) (hx : x.length ≤ 100) : ∀ d k i, i + d = x.length → d < k → handoffref10_RightOp.l0 k x (x.length : Int) (i : Int) = some (okFrom x i d) := by
  intro d
  induction d with
  | zero =>
    intro k i hi hk
    obtain ⟨k, rfl⟩ : ∃ m, k = m + 1 := ⟨k - 1, by omega⟩
    rw [handoffref10_RightOp.l0, if_neg (by omega)]
    rfl
  | succ d ih =>
    intro k i hi hk
    obtain ⟨k, rfl⟩ : ∃ m, k = m + 1 := ⟨k - 1, by omega⟩
    rw [handoffref10_RightOp.l0, if_pos (by omega), if_pos (by omega), if_pos (by omega), okFrom, wrap_next i (by omega), ih k (i + 1) (by omega) (by omega)]
    generalize rd_T116 x (i : Int) = c
    generalize okFrom x (i + 1) d = q
    cases c with
    | mk f0 f1 f2 =>
      simp only [caseOk]
      cases f0 <;> (repeat' split) <;> (first | rfl | (simp_all; done) | (simp_all; omega))

theorem plan_right_l0 (a b c d' : Int) (e : Bool) (p1 p2 p3 p4 : Bool) (l : List S116) (x : List S116) (hx : x.length ≤ 100) (t : Bool) (ht : ((plan_within.f p1 b 8).bind fun t157 => (if t157 = true then ((plan_within.f p2 c 4).bind fun t158 => (if t158 = true then ((plan_value.f p3 d').bind fun t159 => (some t159)) else (some false))) else (some false))) = some t) :
    ∀ d k i, i + d = x.length → d < k → plan_RightOp.l0 k x (x.length : Int) (i : Int) a b c d' l e p1 p2 p3 p4 = some (okFrom x i d && t) := by
  intro d
  induction d with
  | zero =>
    intro k i hi hk
    obtain ⟨k, rfl⟩ : ∃ m, k = m + 1 := ⟨k - 1, by omega⟩
    rw [plan_RightOp.l0, if_neg (by omega), ht]
    rfl
  | succ d ih =>
    intro k i hi hk
    obtain ⟨k, rfl⟩ : ∃ m, k = m + 1 := ⟨k - 1, by omega⟩
    rw [plan_RightOp.l0, if_pos (by omega), if_pos (by omega), if_pos (by omega), okFrom, wrap_next i (by omega), ih k (i + 1) (by omega) (by omega)]
    clear ih ht
    generalize rd_T116 x (i : Int) = c
    generalize okFrom x (i + 1) d = q
    cases c with
    | mk f0 f1 f2 =>
      simp only [caseOk, plan_within.f, plan_value.f]
      by_cases h1 : 0 ≤ f1
      · by_cases h2 : f1 ≤ 8
        · by_cases h3 : 0 ≤ f2
          · by_cases h4 : f2 ≤ 255
            · cases f0 <;> (by_cases h5 : f2 = 0) <;> simp [h1, h2, h3, h4, h5]
            · simp [h1, h2, h3, h4]
          · simp [h1, h2, h3]
        · simp [h1, h2]
      · simp [h1]

/-- An op that can be. -/
def opOk (a b c d : Int) (l : List S116) (e : Bool) : Bool :=
  decide (1 ≤ a ∧ a ≤ 9 ∧ 0 ≤ b ∧ b ≤ 8 ∧ 0 ≤ c ∧ c ≤ 4 ∧ 0 ≤ d ∧ d ≤ 255 ∧ l.length ≤ 6 ∧ (b = 0 ∨ (2 ≤ a ∧ a ≤ 8)) ∧ (d = 0 ∨ a = 2 ∨ a = 4) ∧ (c = 0 ∨ a = 1) ∧ (a = 9 ∨ (e = false ∧ l.length = 0))) && okFrom l 0 l.length

theorem ref_j1 (a b c d : Int) (l : List S116) (e : Bool) (hl : l.length ≤ 100) (v : Bool) (k : Nat) (hk : 102 ≤ k) : handoffref10_RightOp.j1 k v a b c d l e = some (!v && okFrom l 0 l.length) := by
  obtain ⟨k, rfl⟩ : ∃ m, k = m + 1 := ⟨k - 1, by omega⟩
  rw [handoffref10_RightOp.j1]
  cases v
  · rw [if_neg (by simp)]
    exact ref_right_l0 l hl l.length k 0 (by omega) (by omega)
  · rfl

theorem ref_right (a b c d : Int) (l : List S116) (e : Bool) (hl : l.length ≤ 100) (k : Nat) (hk : 200 ≤ k) : handoffref10_RightOp.f k a b c d l e = some (opOk a b c d l e) := by
  obtain ⟨k, rfl⟩ : ∃ m, k = m + 1 := ⟨k - 1, by omega⟩
  have hj := fun v => ref_j1 a b c d l e hl v k (by omega)
  have ht : handoffref10_RightOp.j0 (k + 1) true a b c d l e = some false := by rw [handoffref10_RightOp.j0, if_pos rfl]
  unfold handoffref10_RightOp.f opOk
  rw [ht]
  generalize okFrom l 0 l.length = q at hj
  by_cases h1 : 1 ≤ a ∧ a ≤ 9 ∧ 0 ≤ b ∧ b ≤ 8 ∧ 0 ≤ c ∧ c ≤ 4 ∧ 0 ≤ d ∧ d ≤ 255
  · obtain ⟨g1, g2, g3, g4, g5, g6, g7, g8⟩ := h1
    rw [if_neg (by omega), if_neg (by omega), if_neg (by omega), if_neg (by omega), if_neg (by omega), if_neg (by omega), if_neg (by omega), if_neg (by omega)]
    rw [handoffref10_RightOp.j0]
    simp only [handoffref10_HasCh.f, handoffref10_HasV.f, hj]
    generalize l.length = n
    have ha : a = 1 ∨ a = 2 ∨ a = 3 ∨ a = 4 ∨ a = 5 ∨ a = 6 ∨ a = 7 ∨ a = 8 ∨ a = 9 := by omega
    by_cases hn : n ≤ 6
    · have hn' : ¬ (6 < (n : Int)) := by omega
      by_cases hb : b = 0 <;> by_cases hc : c = 0 <;> by_cases hd : d = 0 <;> by_cases h0 : n = 0 <;> cases e <;> rcases ha with rfl | rfl | rfl | rfl | rfl | rfl | rfl | rfl | rfl <;> first | (simp_all; done) | (simp_all; intro h_; omega)
    · have hn' : 6 < (n : Int) := by omega
      simp [hn', hn]
  · have hF : decide (1 ≤ a ∧ a ≤ 9 ∧ 0 ≤ b ∧ b ≤ 8 ∧ 0 ≤ c ∧ c ≤ 4 ∧ 0 ≤ d ∧ d ≤ 255 ∧ l.length ≤ 6 ∧ (b = 0 ∨ (2 ≤ a ∧ a ≤ 8)) ∧ (d = 0 ∨ a = 2 ∨ a = 4) ∧ (c = 0 ∨ a = 1) ∧ (a = 9 ∨ (e = false ∧ l.length = 0))) = false := decide_eq_false (fun hh => h1 ⟨hh.1, hh.2.1, hh.2.2.1, hh.2.2.2.1, hh.2.2.2.2.1, hh.2.2.2.2.2.1, hh.2.2.2.2.2.2.1, hh.2.2.2.2.2.2.2.1⟩)
    rw [hF]
    show _ = some false
    repeat' split
    all_goals first | rfl | (exfalso; omega)

theorem fields_is (a : Int) (h1 : 1 ≤ a) (h9 : a ≤ 9) : plan_fields.f a = some (decide (2 ≤ a ∧ a ≤ 8), a == 1, decide (a = 2 ∨ a = 4), a == 9) := by
  have ha : a = 1 ∨ a = 2 ∨ a = 3 ∨ a = 4 ∨ a = 5 ∨ a = 6 ∨ a = 7 ∨ a = 8 ∨ a = 9 := by omega
  rcases ha with rfl | rfl | rfl | rfl | rfl | rfl | rfl | rfl | rfl <;> rfl

def tailOk (a b c d : Int) : Bool := decide (0 ≤ b ∧ b ≤ 8 ∧ 0 ≤ c ∧ c ≤ 4 ∧ 0 ≤ d ∧ d ≤ 255 ∧ (b = 0 ∨ (2 ≤ a ∧ a ≤ 8)) ∧ (d = 0 ∨ a = 2 ∨ a = 4) ∧ (c = 0 ∨ a = 1))

theorem tail_is (a b c d : Int) : ((plan_within.f (decide (2 ≤ a ∧ a ≤ 8)) b 8).bind fun t157 => (if t157 = true then ((plan_within.f (a == 1) c 4).bind fun t158 => (if t158 = true then ((plan_value.f (decide (a = 2 ∨ a = 4)) d).bind fun t159 => (some t159)) else (some false))) else (some false))) = some (tailOk a b c d) := by
  unfold tailOk plan_within.f plan_value.f
  by_cases h1 : (2 ≤ a ∧ a ≤ 8)
  · by_cases h2 : a = 1
    · omega
    · by_cases b1 : 0 ≤ b <;> by_cases b2 : b ≤ 8 <;> by_cases c1 : 0 ≤ c <;> by_cases c2 : c ≤ 0 <;> by_cases d1 : 0 ≤ d <;> by_cases d2 : d ≤ 255 <;> by_cases d3 : d = 0 <;> by_cases v : (a = 2 ∨ a = 4) <;> simp [h1, h2, b1, b2, c1, c2, d1, d2, d3, v] <;> omega
  · by_cases h2 : a = 1
    · have v : ¬ (a = 2 ∨ a = 4) := by omega
      by_cases b1 : 0 ≤ b <;> by_cases b2 : b ≤ 0 <;> by_cases c1 : 0 ≤ c <;> by_cases c2 : c ≤ 4 <;> by_cases d1 : 0 ≤ d <;> by_cases d2 : d ≤ 255 <;> by_cases d3 : d = 0 <;> simp [h1, h2, b1, b2, c1, c2, d1, d2, d3, v] <;> omega
    · have v : ¬ (a = 2 ∨ a = 4) := by omega
      by_cases b1 : 0 ≤ b <;> by_cases b2 : b ≤ 0 <;> by_cases c1 : 0 ≤ c <;> by_cases c2 : c ≤ 0 <;> by_cases d1 : 0 ≤ d <;> by_cases d2 : d ≤ 255 <;> by_cases d3 : d = 0 <;> simp [h1, h2, b1, b2, c1, c2, d1, d2, d3, v] <;> omega

theorem plan_j1 (a b c d : Int) (l : List S116) (e : Bool) (hl : l.length ≤ 100) (v : Bool) (k : Nat) (hk : 102 ≤ k) : plan_RightOp.j1 k v a b c d l e (decide (2 ≤ a ∧ a ≤ 8)) (a == 1) (decide (a = 2 ∨ a = 4)) (a == 9) = some (!v && (okFrom l 0 l.length && tailOk a b c d)) := by
  obtain ⟨k, rfl⟩ : ∃ m, k = m + 1 := ⟨k - 1, by omega⟩
  rw [plan_RightOp.j1]
  cases v
  · rw [if_neg (by simp)]
    exact plan_right_l0 a b c d e _ _ _ _ l l hl _ (tail_is a b c d) l.length k 0 (by omega) (by omega)
  · rfl

theorem plan_right (a b c d : Int) (l : List S116) (e : Bool) (hl : l.length ≤ 100) (k : Nat) (hk : 200 ≤ k) : plan_RightOp.f k a b c d l e = some (opOk a b c d l e) := by
  obtain ⟨k, rfl⟩ : ∃ m, k = m + 1 := ⟨k - 1, by omega⟩
  have hj := fun v => plan_j1 a b c d l e hl v k (by omega)
  have ht : plan_RightOp.j0 (k + 1) true a b c d l e = some false := by rw [plan_RightOp.j0, if_pos rfl]
  unfold plan_RightOp.f opOk
  by_cases h1 : 1 ≤ a
  · rw [if_neg (by omega)]
    by_cases h9 : a ≤ 9
    · rw [decide_eq_false (show ¬ a > 9 by omega), plan_RightOp.j0, if_neg (by simp), fields_is a h1 h9]
      simp only [Option.bind_some, hj]
      generalize okFrom l 0 l.length = q
      generalize l.length = n
      unfold tailOk
      by_cases hn : n ≤ 6
      · have hn' : ¬ (6 < (n : Int)) := by omega
        by_cases h99 : a = 9 <;> by_cases h0 : n = 0 <;> cases e <;> cases q <;> simp [h99, h0, hn, hn', h1, h9] <;> omega
      · have hn' : 6 < (n : Int) := by omega
        have h0 : ¬ n = 0 := by omega
        by_cases h99 : a = 9 <;> cases e <;> simp [h99, hn, hn', h0] <;> omega
    · rw [decide_eq_true (show a > 9 by omega), ht]
      simp
      omega
  · rw [if_pos (by omega), ht]
    simp
    omega

theorem alive (k : Nat) (hk : 200 ≤ k) : handofflaw10_planAlive.f k = some true := by
  have h : ∀ n, handofflaw10_planAlive.f (200 + n) = some true := by
    intro n
    induction n with
    | zero => decide +kernel
    | succ n ih => exact handofflaw10_planAlive.mono (200 + n) _ ih
  have := h (k - 200)
  rwa [show 200 + (k - 200) = k by omega] at this

end Go.Proofs.Ytjmpaeckpbpclaa.PlanOps
