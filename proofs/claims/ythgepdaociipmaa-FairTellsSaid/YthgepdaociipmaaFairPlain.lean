/- FairTells, the plain laws: the sum, the bound, and turns that are fair. -/
import Derived.Test.YthgepdaociipmaaPFax1
import Derived.Test.YthgepdaociipmaaPFax2
import Derived.Test.YthgepdaociipmaaPFax3
import Derived.Test.YthgepdaociipmaaFairWalk
namespace Go.Proofs.Ythgepdaociipmaa.FairPlain
open Go.RowKit Go.Proofs.YthgepdaociipmaaW.PrintWords Go.Proofs.Ythgepdaociipmaa.PFa Go.Proofs.Ythgepdaociipmaa.FairWalk
set_option linter.unusedSimpArgs false

theorem row_drop (l : List S46) (i : Nat) (h : i < l.length) : l.drop i = rd_T46 l (i : Int) :: l.drop (i + 1) := by
  rw [List.drop_eq_getElem_cons h]
  congr 1
  unfold rd_T46
  simp [List.getD_eq_getElem?_getD, h]
theorem rows_drop (p : List (List S46)) (i : Nat) (h : i < p.length) : p.drop i = rd_L5 p (i : Int) :: p.drop (i + 1) := by
  rw [List.drop_eq_getElem_cons h]
  congr 1
  unfold rd_L5
  simp [List.getD_eq_getElem?_getD, h]
theorem wrap_in (x : Int) (h0 : -1000000000 ≤ x) (h1 : x ≤ 1000000000) : wrap64 x = x := by unfold wrap64; omega

theorem great_l1 (x0 x7 : List (List S46)) (x8 x9 : Int) (l : List S46) (hl : l.length ≤ 9223372036854775807) : ∀ (d i k : Nat), i + d = l.length →
    handofflaw23_great.l1 (d + 1 + k) x0 l x7 x8 x9 l (l.length : Int) (i : Int) = some true ∨
    (handofflaw23_great.l1 (d + 1 + k) x0 l x7 x8 x9 l (l.length : Int) (i : Int) = handofflaw23_great.l0 k x0 x7 x8 (wrap64 (x9 + 1)) ∧ l.length ≤ 100 ∧ ∀ o ∈ l.drop i, o.f4.length ≤ 100) := by
  intro d
  induction d with
  | zero =>
    intro i k hi
    rw [show 0 + 1 + k = k + 1 by omega, handofflaw23_great.l1, if_neg (by omega), List.drop_of_length_le (by omega)]
    by_cases c : l.length > 100
    · left; rw [if_pos (by omega)]
    · right; rw [if_neg (by omega)]; exact ⟨rfl, by omega, by simp⟩
  | succ d ih =>
    intro i k hi
    have hw : wrap64 ((i : Int) + 1) = ((i + 1 : Nat) : Int) := by unfold wrap64; omega
    rw [show d + 1 + 1 + k = (d + 1 + k) + 1 by omega, handofflaw23_great.l1, if_pos (by omega), if_pos (by omega), if_pos (by omega), hw, row_drop l i (by omega)]
    by_cases c : (rd_T46 l (i : Int)).f4.length > 100
    · left; rw [if_pos (by omega)]
    · rw [if_neg (by omega)]
      rcases ih (i + 1) k (by omega) with h | ⟨h1, h2, h3⟩
      · left; exact h
      · right
        refine ⟨h1, h2, fun o ho => ?_⟩
        rcases List.mem_cons.1 ho with rfl | ho
        · omega
        · exact h3 o ho

/-- How many rounds a plan takes. -/
def sizeOf (p : List (List S46)) : Nat := (p.map (fun l => l.length + 2)).sum

theorem great_l0 (p : List (List S46)) (hp : p.length ≤ 9223372036854775807) (hl : ∀ l ∈ p, l.length ≤ 9223372036854775807) : ∀ (d i k : Nat), i + d = p.length →
    handofflaw23_great.l0 (sizeOf (p.drop i) + 1 + k) p p (p.length : Int) (i : Int) = some true ∨
    (handofflaw23_great.l0 (sizeOf (p.drop i) + 1 + k) p p (p.length : Int) (i : Int) = some false ∧ p.length ≤ 100 ∧ ∀ l ∈ p.drop i, l.length ≤ 100 ∧ ∀ o ∈ l, o.f4.length ≤ 100) := by
  intro d
  induction d with
  | zero =>
    intro i k hi
    rw [List.drop_of_length_le (by omega), show sizeOf [] + 1 + k = k + 1 by simp [sizeOf]; omega, handofflaw23_great.l0, if_neg (by omega)]
    by_cases c : p.length > 100
    · left; rw [decide_eq_true (by omega)]
    · right; rw [decide_eq_false (by omega)]; exact ⟨rfl, by omega, by simp⟩
  | succ d ih =>
    intro i k hi
    have hw : wrap64 ((i : Int) + 1) = ((i + 1 : Nat) : Int) := by unfold wrap64; omega
    have hm : rd_L5 p (i : Int) ∈ p := by
      have := rows_drop p i (by omega)
      exact List.mem_of_mem_drop (i := i) (by rw [this]; simp)
    have h1 := great_l1 p p (p.length : Int) (i : Int) (rd_L5 p (i : Int)) (hl _ hm) (rd_L5 p (i : Int)).length 0 (sizeOf (p.drop (i + 1)) + 1 + k) (by omega)
    rw [Int.natCast_zero, List.drop_zero, hw] at h1
    rw [rows_drop p i (by omega), show sizeOf (rd_L5 p (i : Int) :: p.drop (i + 1)) + 1 + k = ((rd_L5 p (i : Int)).length + 1 + (sizeOf (p.drop (i + 1)) + 1 + k)) + 1 by simp [sizeOf]; omega, handofflaw23_great.l0, if_pos (by omega), if_pos (by omega), if_pos (by omega)]
    rcases h1 with h1 | ⟨h1, h2, h3⟩
    · left; exact h1
    · rw [h1]
      rcases ih (i + 1) k (by omega) with h | ⟨h4, h5, h6⟩
      · left; exact h
      · right
        refine ⟨h4, h5, fun l hl => ?_⟩
        rcases List.mem_cons.1 hl with rfl | hl
        · exact ⟨h2, h3⟩
        · exact h6 l hl


def small (p : List (List S46)) : Prop := p.length ≤ 100 ∧ ∀ l ∈ p, l.length ≤ 100 ∧ ∀ o ∈ l, o.f4.length ≤ 100
def cost (l : List S46) : Nat := (l.map (fun o => 24 + 16 * o.f4.length)).sum
def costs (p : List (List S46)) : Nat := (p.map cost).sum
theorem cost_le (l : List S46) (h : ∀ o ∈ l, o.f4.length ≤ 100) : cost l ≤ 1624 * l.length := by
  induction l with
  | nil => simp [cost]
  | cons o l ih =>
    have h1 := h o (by simp)
    have h2 := ih (fun x hx => h x (by simp [hx]))
    simp only [cost, List.map_cons, List.sum_cons, List.length_cons] at h2 ⊢
    omega
theorem costs_le (p : List (List S46)) (h : ∀ l ∈ p, l.length ≤ 100 ∧ ∀ o ∈ l, o.f4.length ≤ 100) : costs p ≤ 162400 * p.length := by
  induction p with
  | nil => simp [costs]
  | cons l p ih =>
    have h1 := h l (by simp)
    have h2 := ih (fun x hx => h x (by simp [hx]))
    have h3 := cost_le l h1.2
    simp only [costs, List.map_cons, List.sum_cons, List.length_cons] at h2 ⊢
    omega

theorem work_l1 (x10 : List (List S46)) (x11 x12 : Int) (l : List S46) (hl : l.length ≤ 100) (ho : ∀ o ∈ l, o.f4.length ≤ 100) : ∀ (d i k n : Nat), i + d = l.length → n + 1624 * d ≤ 100000000 →
    fair_Work.l1 (d + 1 + k) (n : Int) x10 x11 x12 l (l.length : Int) (i : Int) = fair_Work.l0 k ((n + cost (l.drop i) : Nat) : Int) x10 x11 (wrap64 (x12 + 1)) := by
  intro d
  induction d with
  | zero =>
    intro i k n hi hn
    rw [show 0 + 1 + k = k + 1 by omega, fair_Work.l1, if_neg (by omega), List.drop_of_length_le (by omega)]
    rfl
  | succ d ih =>
    intro i k n hi hn
    have hw : wrap64 ((i : Int) + 1) = ((i + 1 : Nat) : Int) := by unfold wrap64; omega
    have hm : rd_T46 l (i : Int) ∈ l := List.mem_of_mem_drop (i := i) (by rw [row_drop l i (by omega)]; simp)
    have h1 := ho _ hm
    rw [show d + 1 + 1 + k = (d + 1 + k) + 1 by omega, fair_Work.l1, if_pos (by omega), if_pos (by omega), if_pos (by omega), hw,
      wrap_in (16 * ((rd_T46 l (i : Int)).f4.length : Int)) (by omega) (by omega), wrap_in (24 + _) (by omega) (by omega), wrap_in ((n : Int) + _) (by omega) (by omega),
      show (n : Int) + (24 + 16 * ((rd_T46 l (i : Int)).f4.length : Int)) = ((n + (24 + 16 * (rd_T46 l (i : Int)).f4.length) : Nat) : Int) by omega, ih (i + 1) k _ (by omega) (by omega), row_drop l i (by omega)]
    simp only [cost, List.map_cons, List.sum_cons]
    congr 2
    omega
theorem work_l0 (p : List (List S46)) (hp : small p) : ∀ (d i k n : Nat), i + d = p.length → 102 * d < k → n + 162400 * d ≤ 100000000 → fair_Work.l0 k (n : Int) p (p.length : Int) (i : Int) = some ((n + costs (p.drop i) : Nat) : Int) := by
  intro d
  have h100 := hp.1
  induction d with
  | zero =>
    intro i k n hi hk hn
    obtain ⟨k, rfl⟩ : ∃ m, k = m + 1 := ⟨k - 1, by omega⟩
    rw [fair_Work.l0, if_neg (by omega), List.drop_of_length_le (by omega)]
    rfl
  | succ d ih =>
    intro i k n hi hk hn
    have hw : wrap64 ((i : Int) + 1) = ((i + 1 : Nat) : Int) := by unfold wrap64; omega
    have hm : rd_L5 p (i : Int) ∈ p := List.mem_of_mem_drop (i := i) (by rw [rows_drop p i (by omega)]; simp)
    obtain ⟨h1, h2⟩ := hp.2 _ hm
    have hc := cost_le _ h2
    obtain ⟨k, rfl⟩ : ∃ m, k = ((rd_L5 p (i : Int)).length + 1 + m) + 1 := ⟨k - 2 - (rd_L5 p (i : Int)).length, by omega⟩
    have e := work_l1 p (p.length : Int) (i : Int) (rd_L5 p (i : Int)) h1 h2 (rd_L5 p (i : Int)).length 0 k n (by omega) (by omega)
    rw [Int.natCast_zero, List.drop_zero] at e
    rw [fair_Work.l0, if_pos (by omega), if_pos (by omega), if_pos (by omega), e, hw, ih (i + 1) k _ (by omega) (by omega) (by omega), rows_drop p i (by omega)]
    simp only [costs, List.map_cons, List.sum_cons]
    congr 2
    omega
theorem work_is (p : List (List S46)) (hp : small p) (k : Nat) (hk : 10300 ≤ k) : fair_Work.f k p = some ((p.length + costs p : Nat) : Int) := by
  have h100 := hp.1
  have := work_l0 p hp p.length 0 k p.length (by omega) (by omega) (by omega)
  rw [Int.natCast_zero, List.drop_zero] at this
  exact this
theorem rwork_l1 (x10 : List (List S46)) (x11 x12 : Int) (l : List S46) (hl : l.length ≤ 100) (ho : ∀ o ∈ l, o.f4.length ≤ 100) : ∀ (d i k n : Nat), i + d = l.length → n + 1624 * d ≤ 100000000 →
    handoffref23_Work.l1 (d + 1 + k) (n : Int) x10 x11 x12 l (l.length : Int) (i : Int) = handoffref23_Work.l0 k ((n + cost (l.drop i) : Nat) : Int) x10 x11 (wrap64 (x12 + 1)) := by
  intro d
  induction d with
  | zero =>
    intro i k n hi hn
    rw [show 0 + 1 + k = k + 1 by omega, handoffref23_Work.l1, if_neg (by omega), List.drop_of_length_le (by omega)]
    rfl
  | succ d ih =>
    intro i k n hi hn
    have hw : wrap64 ((i : Int) + 1) = ((i + 1 : Nat) : Int) := by unfold wrap64; omega
    have hm : rd_T46 l (i : Int) ∈ l := List.mem_of_mem_drop (i := i) (by rw [row_drop l i (by omega)]; simp)
    have h1 := ho _ hm
    rw [show d + 1 + 1 + k = (d + 1 + k) + 1 by omega, handoffref23_Work.l1, if_pos (by omega), if_pos (by omega), if_pos (by omega), hw,
      wrap_in (16 * ((rd_T46 l (i : Int)).f4.length : Int)) (by omega) (by omega), wrap_in (24 + _) (by omega) (by omega), wrap_in ((n : Int) + _) (by omega) (by omega),
      show (n : Int) + (24 + 16 * ((rd_T46 l (i : Int)).f4.length : Int)) = ((n + (24 + 16 * (rd_T46 l (i : Int)).f4.length) : Nat) : Int) by omega, ih (i + 1) k _ (by omega) (by omega), row_drop l i (by omega)]
    simp only [cost, List.map_cons, List.sum_cons]
    congr 2
    omega
theorem rwork_l0 (p : List (List S46)) (hp : small p) : ∀ (d i k n : Nat), i + d = p.length → 102 * d < k → n + 162401 * d ≤ 100000000 → handoffref23_Work.l0 k (n : Int) p (p.length : Int) (i : Int) = some ((n + d + costs (p.drop i) : Nat) : Int) := by
  intro d
  have h100 := hp.1
  induction d with
  | zero =>
    intro i k n hi hk hn
    obtain ⟨k, rfl⟩ : ∃ m, k = m + 1 := ⟨k - 1, by omega⟩
    rw [handoffref23_Work.l0, if_neg (by omega), List.drop_of_length_le (by omega)]
    rfl
  | succ d ih =>
    intro i k n hi hk hn
    have hw : wrap64 ((i : Int) + 1) = ((i + 1 : Nat) : Int) := by unfold wrap64; omega
    have hm : rd_L5 p (i : Int) ∈ p := List.mem_of_mem_drop (i := i) (by rw [rows_drop p i (by omega)]; simp)
    obtain ⟨h1, h2⟩ := hp.2 _ hm
    have hc := cost_le _ h2
    obtain ⟨k, rfl⟩ : ∃ m, k = ((rd_L5 p (i : Int)).length + 1 + m) + 1 := ⟨k - 2 - (rd_L5 p (i : Int)).length, by omega⟩
    have e := rwork_l1 p (p.length : Int) (i : Int) (rd_L5 p (i : Int)) h1 h2 (rd_L5 p (i : Int)).length 0 k (n + 1) (by omega) (by omega)
    rw [Int.natCast_zero, List.drop_zero] at e
    rw [handoffref23_Work.l0, if_pos (by omega), if_pos (by omega), if_pos (by omega), wrap_in ((n : Int) + 1) (by omega) (by omega), show (n : Int) + 1 = ((n + 1 : Nat) : Int) by omega, e, hw, ih (i + 1) k _ (by omega) (by omega) (by omega), rows_drop p i (by omega)]
    simp only [costs, List.map_cons, List.sum_cons]
    congr 2
    omega

theorem rwork_is (p : List (List S46)) (hp : small p) (k : Nat) (hk : 10300 ≤ k) : handoffref23_Work.f k p = some ((p.length + costs p : Nat) : Int) := by
  have h100 := hp.1
  have := rwork_l0 p hp p.length 0 k 0 (by omega) (by omega) (by omega)
  rw [Int.natCast_zero, List.drop_zero] at this
  have e : (0 : Nat) + p.length + costs p = p.length + costs p := by omega
  rw [e] at this
  exact this

theorem bound_l1 (p : List (List S46)) (a : Int) (x20 : List (List S46)) (x21 x22 : Int) (l : List S46) (hl : l.length ≤ 100) : ∀ (d i k : Nat), i + d = l.length →
    handoffref23_Bound.l1 (d + 1 + k) p a x20 x21 x22 l (l.length : Int) (i : Int) = if (l.drop i).any fair_great.op = true then some 0 else handoffref23_Bound.l0 k p a x20 x21 (wrap64 (x22 + 1)) := by
  intro d
  induction d with
  | zero =>
    intro i k hi
    rw [show 0 + 1 + k = k + 1 by omega, handoffref23_Bound.l1, if_neg (by omega), List.drop_of_length_le (by omega)]
    rfl
  | succ d ih =>
    intro i k hi
    have hw : wrap64 ((i : Int) + 1) = ((i + 1 : Nat) : Int) := by unfold wrap64; omega
    rw [show d + 1 + 1 + k = (d + 1 + k) + 1 by omega, handoffref23_Bound.l1, if_pos (by omega), if_pos (by omega), if_pos (by omega), hw, ih (i + 1) k (by omega), row_drop l i (by omega), List.any_cons]
    by_cases c : 6 < (rd_T46 l (i : Int)).f4.length
    · rw [if_pos (by omega)]
      have e : fair_great.op (rd_T46 l (i : Int)) = true := decide_eq_true c
      rw [e]
      simp
    · rw [if_neg (by omega)]
      have e : fair_great.op (rd_T46 l (i : Int)) = false := decide_eq_false c
      rw [e, Bool.false_or]
theorem bound_l0 (p : List (List S46)) (hp : small p) (a : Int) : ∀ (d i k : Nat), i + d = p.length → 102 * d + 10400 < k →
    handoffref23_Bound.l0 k p a p (p.length : Int) (i : Int) = if (p.drop i).any fair_great.row = true then some 0 else some (wrap64 (a + wrap64 (a * ((p.length + costs p : Nat) : Int)))) := by
  intro d
  have h100 := hp.1
  induction d with
  | zero =>
    intro i k hi hk
    obtain ⟨k, rfl⟩ : ∃ m, k = m + 1 := ⟨k - 1, by omega⟩
    rw [handoffref23_Bound.l0, if_neg (by omega), List.drop_of_length_le (by omega), rwork_is p hp k (by omega)]
    rfl
  | succ d ih =>
    intro i k hi hk
    have hw : wrap64 ((i : Int) + 1) = ((i + 1 : Nat) : Int) := by unfold wrap64; omega
    have hm : rd_L5 p (i : Int) ∈ p := List.mem_of_mem_drop (i := i) (by rw [rows_drop p i (by omega)]; simp)
    obtain ⟨h1, h2⟩ := hp.2 _ hm
    obtain ⟨k, rfl⟩ : ∃ m, k = ((rd_L5 p (i : Int)).length + 1 + m) + 1 := ⟨k - 2 - (rd_L5 p (i : Int)).length, by omega⟩
    have e := bound_l1 p a p (p.length : Int) (i : Int) (rd_L5 p (i : Int)) h1 (rd_L5 p (i : Int)).length 0 k (by omega)
    rw [Int.natCast_zero, List.drop_zero] at e
    rw [handoffref23_Bound.l0, if_pos (by omega), if_pos (by omega), if_pos (by omega), rows_drop p i (by omega), List.any_cons]
    by_cases c : 16 < (rd_L5 p (i : Int)).length
    · rw [if_pos (by omega)]
      have e2 : fair_great.row (rd_L5 p (i : Int)) = true := by unfold fair_great.row; rw [decide_eq_true c]; rfl
      rw [e2]
      simp
    · rw [if_neg (by omega), e, hw, ih (i + 1) k (by omega) (by omega)]
      have e2 : fair_great.row (rd_L5 p (i : Int)) = (rd_L5 p (i : Int)).any fair_great.op := by unfold fair_great.row; rw [decide_eq_false c]; rfl
      rw [e2]
      cases (rd_L5 p (i : Int)).any fair_great.op <;> simp
theorem bound_is (p : List (List S46)) (hp : small p) (a : Int) (k : Nat) (hk : 21000 ≤ k) : ∃ x, fair_Bound.f k p a = some x ∧ handoffref23_Bound.f k p a = some x := by
  have h100 := hp.1
  have hc := costs_le p hp.2
  obtain ⟨k, rfl⟩ : ∃ m, k = m + 1 := ⟨k - 1, by omega⟩
  have hb := bound_l0 p hp a p.length 0 k (by omega) (by omega)
  rw [Int.natCast_zero, List.drop_zero] at hb
  unfold fair_Bound.f handoffref23_Bound.f
  by_cases c1 : a < 1
  · rw [if_pos c1, if_pos c1, handoffref23_Bound.j0, if_pos rfl]
    exact ⟨0, rfl, rfl⟩
  · rw [if_neg c1, if_neg c1]
    by_cases c2 : a > 1048576
    · rw [if_pos c2, if_pos c2, handoffref23_Bound.j0, if_pos rfl]
      exact ⟨0, rfl, rfl⟩
    · rw [if_neg c2, if_neg c2, handoffref23_Bound.j0]
      unfold fair_great.f
      simp only [Option.bind_some]
      by_cases c3 : 8 < p.length
      · rw [decide_eq_true c3, decide_eq_true (show (p.length : Int) > 8 by omega), if_pos rfl]
        exact ⟨0, by simp, rfl⟩
      · rw [decide_eq_false c3, decide_eq_false (show ¬ (p.length : Int) > 8 by omega), if_neg (show ¬ false = true by simp), hb, work_is p hp (k + 1) (by omega)]
        simp only [Bool.false_or, Option.bind_some]
        by_cases hg : p.any fair_great.row = true
        · exact ⟨0, by rw [if_pos hg], by rw [if_pos hg]⟩
        · rw [if_neg hg, if_neg hg]
          refine ⟨_, rfl, ?_⟩
          obtain ⟨n, hn⟩ : ∃ n, p.length + costs p = n := ⟨_, rfl⟩
          rw [hn]
          have hn2 : n ≤ 20000000 := by omega
          have e1 : wrap64 ((n : Int) + 1) = (n : Int) + 1 := by unfold wrap64; omega
          have e2 : a * ((n : Int) + 1) = a * (n : Int) + a := by rw [Int.mul_add, Int.mul_one]
          have h1 : 0 ≤ a * (n : Int) := Int.mul_nonneg (by omega) (by omega)
          have h2 : a * (n : Int) ≤ 1048576 * 20000000 := Int.mul_le_mul (by omega) (by omega) (by omega) (by omega)
          rw [e1, e2]
          generalize a * (n : Int) = q at h1 h2 ⊢
          congr 1
          unfold wrap64
          omega

theorem alive (k : Nat) (hk : 30000 ≤ k) : handofflaw23_fairAlive.f k = some true := by
  have hs : small [[]] := ⟨by simp, fun l hl => by rw [List.mem_singleton] at hl; subst hl; simp⟩
  have hw := work_is [[]] hs k (by omega)
  have hc : costs [[]] = 0 := rfl
  unfold handofflaw23_fairAlive.f
  simp only [Option.bind_some]
  rw [hw, hc]
  simp only [Option.bind_some, List.length_singleton]
  rw [if_pos (by decide)]
  unfold fair_Bound.f fair_great.f
  rw [if_neg (by decide), if_neg (by decide), hw, hc]
  decide +kernel

/-! Turns -/
def starve (g : Int) (t : S29) : Bool := t.f1.contains g && (t.f0 != g)

theorem run_drop (l : List Int) (i : Nat) (h : i < l.length) : l.drop i = rd l (i : Int) :: l.drop (i + 1) := by
  rw [List.drop_eq_getElem_cons h]
  congr 1
  unfold rd
  simp [List.getD_eq_getElem?_getD, h]
theorem turn_drop (l : List S29) (i : Nat) (h : i < l.length) : l.drop i = rd_T29 l (i : Int) :: l.drop (i + 1) := by
  rw [List.drop_eq_getElem_cons h]
  congr 1
  unfold rd_T29
  simp [List.getD_eq_getElem?_getD, h]
theorem has_l0 (g : Int) (l : List Int) (hl : l.length ≤ 1000) : ∀ (d i k : Nat), i + d = l.length → d < k → handoffref23_has.l0 k g l (l.length : Int) (i : Int) = some ((l.drop i).contains g) := by
  intro d
  induction d with
  | zero =>
    intro i k hi hk
    obtain ⟨k, rfl⟩ : ∃ m, k = m + 1 := ⟨k - 1, by omega⟩
    rw [handoffref23_has.l0, if_neg (by omega), List.drop_of_length_le (by omega)]
    rfl
  | succ d ih =>
    intro i k hi hk
    obtain ⟨k, rfl⟩ : ∃ m, k = m + 1 := ⟨k - 1, by omega⟩
    have hw : wrap64 ((i : Int) + 1) = ((i + 1 : Nat) : Int) := by unfold wrap64; omega
    rw [handoffref23_has.l0, if_pos (by omega), if_pos (by omega), if_pos (by omega), hw, ih (i + 1) k (by omega) (by omega), run_drop l i (by omega), List.contains_cons]
    by_cases c : rd l (i : Int) = g
    · rw [if_pos c, c]; simp
    · rw [if_neg c]
      have : (g == rd l (i : Int)) = false := by simp; exact fun h => c h.symm
      rw [this, Bool.false_or]
theorem starves_l0 (g : Int) (l : List S29) (hl : l.length ≤ 1000) (hr : ∀ t ∈ l, t.f1.length ≤ 20) : ∀ (d i k : Nat), i + d = l.length → d + 30 < k → handoffref23_starves.l0 k g l (l.length : Int) (i : Int) = some ((l.drop i).all (starve g)) := by
  intro d
  induction d with
  | zero =>
    intro i k hi hk
    obtain ⟨k, rfl⟩ : ∃ m, k = m + 1 := ⟨k - 1, by omega⟩
    rw [handoffref23_starves.l0, if_neg (by omega), List.drop_of_length_le (by omega)]
    rfl
  | succ d ih =>
    intro i k hi hk
    obtain ⟨k, rfl⟩ : ∃ m, k = m + 1 := ⟨k - 1, by omega⟩
    have hw : wrap64 ((i : Int) + 1) = ((i + 1 : Nat) : Int) := by unfold wrap64; omega
    have hm : rd_T29 l (i : Int) ∈ l := List.mem_of_mem_drop (i := i) (by rw [turn_drop l i (by omega)]; simp)
    have h20 := hr _ hm
    have hh := has_l0 g (rd_T29 l (i : Int)).f1 (by omega) (rd_T29 l (i : Int)).f1.length 0 k (by omega) (by omega)
    rw [Int.natCast_zero, List.drop_zero] at hh
    rw [handoffref23_starves.l0, if_pos (by omega), if_pos (by omega), if_pos (by omega), hw, ih (i + 1) k (by omega) (by omega), turn_drop l i (by omega), List.all_cons]
    unfold handoffref23_has.f
    rw [hh]
    simp only [Option.bind_some, starve]
    cases (rd_T29 l (i : Int)).f1.contains g with
    | false => simp
    | true =>
      rw [if_pos rfl]
      by_cases c : (rd_T29 l (i : Int)).f0 = g
      · rw [if_pos c]; simp [c]
      · rw [if_neg c]; simp [c]
theorem starves_is (g : Int) (l : List S29) (hl : l.length ≤ 1000) (hr : ∀ t ∈ l, t.f1.length ≤ 20) (k : Nat) (hk : 1100 ≤ k) : handoffref23_starves.f k l g = some (l.all (starve g)) := by
  have := starves_l0 g l hl hr l.length 0 k (by omega) (by omega)
  rw [Int.natCast_zero, List.drop_zero] at this
  exact this
/-- Is one in all of some turns, and Who of none? -/
def win (l : List S29) (a i : Nat) (g : Int) : Bool := ((l.take (i + a)).drop i).all (starve g)
theorem fair_l1 (l : List S29) (hl : l.length ≤ 100) (hr : ∀ t ∈ l, t.f1.length ≤ 20) (a i : Nat) (hia : i + a ≤ l.length) (run : List Int) (hrun : run.length ≤ 20) : ∀ (d j k : Nat), j + d = run.length → 1100 ≤ k →
    handoffref23_Fair.l1 (d + 1 + k) l (a : Int) (i : Int) run (run.length : Int) (j : Int) = if (run.drop j).any (win l a i) = true then some false else handoffref23_Fair.l0 k l (a : Int) (wrap64 ((i : Int) + 1)) := by
  intro d
  induction d with
  | zero =>
    intro j k hj hk
    rw [show 0 + 1 + k = k + 1 by omega, handoffref23_Fair.l1, if_neg (by omega), List.drop_of_length_le (by omega)]
    rfl
  | succ d ih =>
    intro j k hj hk
    have hw : wrap64 ((j : Int) + 1) = ((j + 1 : Nat) : Int) := by unfold wrap64; omega
    have hw2 : wrap64 ((i : Int) + (a : Int)) = ((i + a : Nat) : Int) := by unfold wrap64; omega
    have hs := starves_is (rd run (j : Int)) ((l.take (i + a)).drop i) (by rw [List.length_drop, List.length_take]; omega) (fun t ht => hr t (List.mem_of_mem_take (List.mem_of_mem_drop ht))) (d + 1 + k) (by omega)
    rw [show d + 1 + 1 + k = (d + 1 + k) + 1 by omega, handoffref23_Fair.l1, if_pos (by omega), if_pos (by omega), if_pos (by omega), if_pos (by omega), hw2, if_pos (by omega), if_pos (by omega), Int.toNat_natCast, Int.toNat_natCast, hs, hw, ih (j + 1) k (by omega) hk, run_drop run j (by omega), List.any_cons]
    simp only [Option.bind_some]
    show (if win l a i (rd run (j : Int)) = true then _ else _) = _
    cases win l a i (rd run (j : Int)) <;> simp
theorem win_mem (l : List S29) (a i : Nat) (ha : 1 ≤ a) (hi : i + a ≤ l.length) (g : Int) (h : win l a i g = true) : g ∈ (rd_T29 l (i : Int)).f1 := by
  unfold win at h
  rw [List.all_eq_true] at h
  have hm : rd_T29 l (i : Int) ∈ (l.take (i + a)).drop i := by
    rw [List.drop_take, turn_drop l i (by omega), show i + a - i = (a - 1) + 1 by omega, List.take_succ_cons]
    simp
  have := h _ hm
  unfold starve at this
  rw [Bool.and_eq_true] at this
  simpa using this.1
theorem fair_l0 (l : List S29) (hl : l.length ≤ 100) (hr : ∀ t ∈ l, t.f1.length ≤ 20) (a : Nat) (ha : 1 ≤ a) (ha2 : a ≤ 9223372036854775807) : ∀ (d i k : Nat), i + d = l.length + 1 → (i = 0 ∨ a ≤ l.length) → 30 * d + 1200 < k →
    ∃ b, handoffref23_Fair.l0 k l (a : Int) (i : Int) = some b ∧ (b = false ↔ ∃ j g, i ≤ j ∧ j + a ≤ l.length ∧ win l a j g = true) := by
  intro d
  induction d with
  | zero =>
    intro i k hi h0 hk
    obtain ⟨k, rfl⟩ : ∃ m, k = m + 1 := ⟨k - 1, by omega⟩
    have hw2 : wrap64 ((i : Int) + (a : Int)) = ((i + a : Nat) : Int) := by unfold wrap64; omega
    rw [handoffref23_Fair.l0, hw2, if_neg (by omega)]
    exact ⟨true, rfl, fun h => (by cases h), fun ⟨j, g, h1, h2, _⟩ => absurd h2 (by omega)⟩
  | succ d ih =>
    intro i k hi h0 hk
    obtain ⟨k, rfl⟩ : ∃ m, k = m + 1 := ⟨k - 1, by omega⟩
    have hw2 : wrap64 ((i : Int) + (a : Int)) = ((i + a : Nat) : Int) := by unfold wrap64; omega
    have hw : wrap64 ((i : Int) + 1) = ((i + 1 : Nat) : Int) := by unfold wrap64; omega
    rw [handoffref23_Fair.l0, hw2]
    by_cases c : i + a ≤ l.length
    · have hm : rd_T29 l (i : Int) ∈ l := List.mem_of_mem_drop (i := i) (by rw [turn_drop l i (by omega)]; simp)
      have h20 := hr _ hm
      obtain ⟨k, rfl⟩ : ∃ m, k = (rd_T29 l (i : Int)).f1.length + 1 + m := ⟨k - 1 - (rd_T29 l (i : Int)).f1.length, by omega⟩
      have e := fair_l1 l hl hr a i c (rd_T29 l (i : Int)).f1 h20 (rd_T29 l (i : Int)).f1.length 0 k (by omega) (by omega)
      rw [Int.natCast_zero, List.drop_zero] at e
      rw [if_pos (by omega), if_pos (by omega), if_pos (by omega), e, hw]
      by_cases c2 : (rd_T29 l (i : Int)).f1.any (win l a i) = true
      · rw [if_pos c2]
        refine ⟨false, rfl, fun _ => ?_, fun _ => rfl⟩
        obtain ⟨g, _, hg⟩ := List.any_eq_true.1 c2
        exact ⟨i, g, Nat.le_refl _, c, hg⟩
      · rw [if_neg c2]
        obtain ⟨b, hb, hiff⟩ := ih (i + 1) k (by omega) (by omega) (by omega)
        refine ⟨b, hb, hiff.trans ⟨fun ⟨j, g, h1, h2, h3⟩ => ⟨j, g, by omega, h2, h3⟩, fun ⟨j, g, h1, h2, h3⟩ => ?_⟩⟩
        rcases Nat.eq_or_lt_of_le h1 with rfl | h1
        · exact absurd (List.any_eq_true.2 ⟨g, win_mem l a i ha c g h3, h3⟩) c2
        · exact ⟨j, g, h1, h2, h3⟩
    · rw [if_neg (by omega)]
      exact ⟨true, rfl, fun h => (by cases h), fun ⟨j, g, h1, h2, _⟩ => absurd h2 (by omega)⟩

/-- One turn's map. -/
theorem row_is (k who : Int) (W : Int → Int) : ∀ (run : List Int) (nx : Int → Int), nx who < k →
    fair_Fair.row k who W nx run = if run.any (fun g => g != who && decide (k ≤ wrap64 (W g + 1))) = true then none else some (fun x => if x ∈ run ∧ x ≠ who then wrap64 (W x + 1) else nx x) := by
  intro run
  induction run with
  | nil => intro nx h; simp [fair_Fair.row]
  | cons g run ih =>
    intro nx h
    rw [fair_Fair.row, List.any_cons]
    by_cases c : g = who
    · subst c
      rw [if_pos rfl, if_neg (by omega), ih nx h]
      simp only [bne_self_eq_false, Bool.false_and, Bool.false_or]
      split
      · rfl
      · congr 1
        funext x
        by_cases e : x = g
        · subst e; simp
        · simp [e]
    · rw [if_neg c]
      by_cases c2 : k ≤ wrap64 (W g + 1)
      · rw [if_pos c2]
        have : (g != who && decide (k ≤ wrap64 (W g + 1))) = true := by simp [c, c2]
        rw [this, Bool.true_or, if_pos rfl]
      · rw [if_neg c2, ih _ (by unfold fair_Fair.upd; rw [if_neg (fun e => c e.symm)]; exact h)]
        have : (g != who && decide (k ≤ wrap64 (W g + 1))) = false := by simp [c2]
        rw [this, Bool.false_or]
        split
        · rfl
        · congr 1
          funext x
          unfold fair_Fair.upd
          by_cases e : x = g
          · subst e; simp [c]
          · simp [e]

theorem go_is (a : Nat) (ha : 1 ≤ a) : ∀ (l : List S29) (W : Int → Int) (c : Nat), (∀ g, 0 ≤ W g ∧ W g ≤ c) → c + l.length ≤ 1000 →
    (fair_Fair.go (a : Int) W l = false ↔ (∃ g n, 1 ≤ n ∧ n ≤ l.length ∧ (l.take n).all (starve g) = true ∧ (a : Int) ≤ W g + n) ∨ (∃ j g, j + a ≤ l.length ∧ win l a j g = true)) := by
  intro l
  induction l with
  | nil =>
    intro W c hW hc
    refine ⟨fun h => (by cases h), ?_⟩
    rintro (⟨g, n, h1, h2, _⟩ | ⟨j, g, h1, _⟩)
    · exact absurd h2 (by simp; omega)
    · exact absurd h1 (by simp; omega)
  | cons t ts ih =>
    intro W c hW hc
    have hlen : (t :: ts).length = ts.length + 1 := rfl
    have hwr : ∀ g, wrap64 (W g + 1) = W g + 1 := fun g => wrap_in _ (by have := hW g; omega) (by have := hW g; omega)
    rw [fair_Fair.go, row_is (a : Int) t.f0 W t.f1 (fun _ => 0) (by omega)]
    by_cases hb : t.f1.any (fun g => g != t.f0 && decide ((a : Int) ≤ wrap64 (W g + 1))) = true
    · rw [if_pos hb]
      refine ⟨fun _ => .inl ?_, fun _ => rfl⟩
      obtain ⟨g, hg, h2⟩ := List.any_eq_true.1 hb
      rw [Bool.and_eq_true, decide_eq_true_eq, hwr] at h2
      refine ⟨g, 1, Nat.le_refl _, by omega, ?_, by have := h2.2; omega⟩
      simp only [List.take_succ_cons, List.take_zero, List.all_cons, List.all_nil, Bool.and_true, starve, Bool.and_eq_true]
      refine ⟨by simpa using hg, ?_⟩
      have := h2.1
      rw [bne_iff_ne] at this ⊢
      exact fun e => this e.symm
    · rw [if_neg hb]
      simp only [hwr]
      have hst : ∀ g, (g ∈ t.f1 ∧ g ≠ t.f0) ↔ starve g t = true := by
        intro g
        unfold starve
        rw [Bool.and_eq_true, bne_iff_ne]
        simp only [List.contains_iff_mem]
        exact ⟨fun h => ⟨h.1, fun e => h.2 e.symm⟩, fun h => ⟨h.1, fun e => h.2 e.symm⟩⟩
      have hnb : ∀ g, starve g t = true → W g + 1 < (a : Int) := by
        intro g hg
        rcases Int.lt_or_le (W g + 1) (a : Int) with h | h
        · exact h
        · obtain ⟨h1, h2⟩ := (hst g).2 hg
          exact absurd (List.any_eq_true.2 ⟨g, h1, by rw [hwr]; simp [h2, h]⟩) hb
      rw [ih (fun x => if x ∈ t.f1 ∧ x ≠ t.f0 then W x + 1 else 0) (c + 1) (fun g => by obtain ⟨q1, q2⟩ := hW g; by_cases hh : g ∈ t.f1 ∧ g ≠ t.f0 <;> simp only [hh, if_true, if_false, and_self, not_false_eq_true] <;> omega) (by omega)]
      constructor
      · rintro (⟨g, n, h1, h2, h3, h4⟩ | ⟨j, g, h1, h2⟩)
        · by_cases cg : g ∈ t.f1 ∧ g ≠ t.f0
          · simp only [if_pos cg] at h4
            refine .inl ⟨g, n + 1, by omega, by omega, ?_, by omega⟩
            rw [List.take_succ_cons, List.all_cons, (hst g).1 cg, h3]
            rfl
          · simp only [if_neg cg] at h4
            refine .inr ⟨1, g, by omega, ?_⟩
            unfold win
            rw [List.all_eq_true] at h3 ⊢
            intro x hx
            refine h3 x ?_
            rw [show 1 + a = a + 1 by omega, List.take_succ_cons, List.drop_succ_cons, List.drop_zero] at hx
            exact (List.take_sublist_take_left (by omega)).subset hx
        · refine .inr ⟨j + 1, g, by omega, ?_⟩
          unfold win at h2 ⊢
          rw [show j + 1 + a = (j + a) + 1 by omega, List.take_succ_cons, List.drop_succ_cons]
          exact h2
      · rintro (⟨g, n, h1, h2, h3, h4⟩ | ⟨j, g, h1, h2⟩)
        · obtain ⟨n, rfl⟩ : ∃ m, n = m + 1 := ⟨n - 1, by omega⟩
          rw [List.take_succ_cons, List.all_cons, Bool.and_eq_true] at h3
          have h5 := hnb g h3.1
          refine .inl ⟨g, n, by omega, by omega, h3.2, ?_⟩
          simp only [if_pos ((hst g).2 h3.1)]
          omega
        · rcases Nat.eq_zero_or_pos j with rfl | hj
          · unfold win at h2
            obtain ⟨b, rfl⟩ : ∃ m, a = m + 1 := ⟨a - 1, by omega⟩
            rw [show 0 + (b + 1) = b + 1 by omega, List.take_succ_cons, List.drop_zero, List.all_cons, Bool.and_eq_true] at h2
            have h5 := hnb g h2.1
            have h6 := hW g
            refine .inl ⟨g, b, by omega, by omega, h2.2, ?_⟩
            simp only [if_pos ((hst g).2 h2.1)]
            omega
          · obtain ⟨j, rfl⟩ : ∃ m, j = m + 1 := ⟨j - 1, by omega⟩
            refine .inr ⟨j, g, by omega, ?_⟩
            unfold win at h2 ⊢
            rw [show j + 1 + a = (j + a) + 1 by omega, List.take_succ_cons, List.drop_succ_cons] at h2
            exact h2

theorem fair_same (l : List S29) (hl : l.length ≤ 100) (hr : ∀ t ∈ l, t.f1.length ≤ 20) (a : Int) (ha2 : a ≤ 9223372036854775807) (k : Nat) (hk : 5000 ≤ k) : handoffref23_Fair.f k l a = some (fair_Fair.f l a) := by
  unfold handoffref23_Fair.f fair_Fair.f
  by_cases c : a < 1
  · rw [if_pos c, if_pos c]
    congr 1
    rw [Bool.eq_iff_iff]
    simp
  · rw [if_neg c, if_neg c]
    obtain ⟨n, rfl⟩ := Int.eq_ofNat_of_zero_le (show 0 ≤ a by omega)
    obtain ⟨b, hb, hiff⟩ := fair_l0 l hl hr n (by omega) (by omega) (l.length + 1) 0 k (by omega) (.inl rfl) (by omega)
    rw [Int.natCast_zero] at hb
    rw [hb]
    congr 1
    have h2 := go_is n (by omega) l (fun _ => 0) 0 (fun _ => by omega) (by omega)
    have h3 : b = false ↔ fair_Fair.go (n : Int) (fun _ => 0) l = false := by
      rw [hiff, h2]
      constructor
      · rintro ⟨j, g, _, h1, h2⟩
        exact .inr ⟨j, g, h1, h2⟩
      · rintro (⟨g, m, h1, h2, h3, h4⟩ | ⟨j, g, h1, h2⟩)
        · refine ⟨0, g, Nat.le_refl _, by omega, ?_⟩
          unfold win
          rw [List.all_eq_true] at h3 ⊢
          intro x hx
          rw [List.drop_zero] at hx
          exact h3 x ((List.take_sublist_take_left (by omega)).subset hx)
        · exact ⟨j, g, Nat.zero_le _, h1, h2⟩
    cases b with
    | false => exact (h3.1 rfl).symm
    | true =>
      cases hq : fair_Fair.go (n : Int) (fun _ => 0) l with
      | true => rfl
      | false => exact h3.2 hq
end Go.Proofs.Ythgepdaociipmaa.FairPlain
