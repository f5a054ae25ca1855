/- Whether a plan can be, and whether it is too great, by loops: told over lists. -/
import Derived.Test.YtjmpaeckpbpclaaPlanEnc
namespace Go.Proofs.Ytjmpaeckpbpclaa.PlanRight
open Go.RowKit Go.Proofs.YtjmpaeckpbpclaaW.PrintWords Go.Proofs.Ytjmpaeckpbpclaa.PPlK Go.Proofs.Ytjmpaeckpbpclaa.PlanRead Go.Proofs.Ytjmpaeckpbpclaa.PlanPut Go.Proofs.Ytjmpaeckpbpclaa.PlanEnc
set_option linter.unusedSimpArgs false

def okOp (o : S39) : Bool := PlanOps.opOk o.f0 o.f1 o.f2 o.f3 o.f4 o.f5

/-- No list is too long to be walked in the rounds that there are. -/
def small (p : List (List S39)) : Prop := p.length ≤ 20 ∧ ∀ l ∈ p, l.length ≤ 40 ∧ ∀ o ∈ l, o.f4.length ≤ 20

theorem row_drop (l : List S39) (i : Nat) (h : i < l.length) : l.drop i = rd_T39 l (i : Int) :: l.drop (i + 1) := by
  rw [List.drop_eq_getElem_cons h]
  congr 1
  unfold rd_T39
  simp [List.getD_eq_getElem?_getD, h]

theorem rows_drop (p : List (List S39)) (i : Nat) (h : i < p.length) : p.drop i = rd_L7 p (i : Int) :: p.drop (i + 1) := by
  rw [List.drop_eq_getElem_cons h]
  congr 1
  unfold rd_L7
  simp [List.getD_eq_getElem?_getD, h]

theorem any_is (k : Nat) (hk : 200 ≤ k) : ∀ l : List S39, (∀ o ∈ l, o.f4.length ≤ 20) → plan_Right.any k l = some (!(l.all okOp)) := by
  intro l
  induction l with
  | nil => intro _; rfl
  | cons o l ih =>
    intro h
    have h1 := h o (by simp)
    unfold plan_Right.any
    rw [PlanOps.plan_right o.f0 o.f1 o.f2 o.f3 o.f4 o.f5 (by omega) k hk, ih (fun x hx => h x (by simp [hx]))]
    simp only [Option.bind_some, List.all_cons, okOp]
    by_cases c : PlanOps.opOk o.f0 o.f1 o.f2 o.f3 o.f4 o.f5 = true <;> simp [c]

def okRow (l : List S39) : Bool := decide (l.length ≤ 16) && l.all okOp

theorem rows_is (k : Nat) (hk : 200 ≤ k) : ∀ p : List (List S39), (∀ l ∈ p, ∀ o ∈ l, o.f4.length ≤ 20) → plan_Right.rows k p = some (p.all okRow) := by
  intro p
  induction p with
  | nil => intro _; rfl
  | cons l p ih =>
    intro h
    unfold plan_Right.rows
    rw [any_is k hk l (fun o ho => h l (by simp) o ho), ih (fun x hx => h x (by simp [hx]))]
    simp only [Option.bind_some, List.all_cons, okRow]
    by_cases c : l.length ≤ 16
    · rw [if_neg (by omega), decide_eq_true c]
      cases l.all okOp <;> simp
    · rw [if_pos (by omega), decide_eq_false c]
      rfl

def okPlan (p : List (List S39)) : Bool := decide (1 ≤ p.length ∧ p.length ≤ 8) && p.all okRow

theorem plan_right_is (p : List (List S39)) (hp : small p) (k : Nat) (hk : 200 ≤ k) : plan_Right.f k p = some (okPlan p) := by
  unfold plan_Right.f okPlan
  rw [rows_is k hk p (fun l hl => (hp.2 l hl).2)]
  by_cases c1 : p.length < 1
  · rw [if_pos (by omega), decide_eq_false (by omega)]
    rfl
  · rw [if_neg (by omega)]
    by_cases c2 : p.length > 8
    · rw [if_pos (by omega), decide_eq_false (by omega)]
      rfl
    · rw [if_neg (by omega), decide_eq_true (by omega)]
      rfl

theorem ref_right_l1 (x0 x7 : List (List S39)) (x8 x9 : Int) (l : List S39) (hl : l.length ≤ 40) (h : ∀ o ∈ l, o.f4.length ≤ 20) : ∀ (d i k : Nat), i + d = l.length → 200 ≤ k →
    handoffref10_Right.l1 (d + 1 + k) x0 l x7 x8 x9 l (l.length : Int) (i : Int) = if ((l.drop i).all okOp && decide (l.length ≤ 16)) = true then handoffref10_Right.l0 k x0 x7 x8 (wrap64 (x9 + 1)) else some false := by
  intro d
  induction d with
  | zero =>
    intro i k hi hk
    rw [show 0 + 1 + k = k + 1 by omega, handoffref10_Right.l1, if_neg (by omega), List.drop_of_length_le (by omega)]
    by_cases c : l.length ≤ 16
    · rw [if_neg (by omega), decide_eq_true c]; rfl
    · rw [if_pos (by omega), decide_eq_false c]; rfl
  | succ d ih =>
    intro i k hi hk
    have hm : rd_T39 l (i : Int) ∈ l := by
      have := row_drop l i (by omega)
      exact List.mem_of_mem_drop (i := i) (by rw [this]; simp)
    have h1 := h _ hm
    rw [show d + 1 + 1 + k = (d + 1 + k) + 1 by omega, handoffref10_Right.l1, if_pos (by omega), if_pos (by omega), if_pos (by omega), PlanOps.ref_right _ _ _ _ _ _ (by omega) _ (by omega), wrap_in ((i : Int) + 1) (by omega) (by omega), show (i : Int) + 1 = ((i + 1 : Nat) : Int) by omega, ih (i + 1) k (by omega) hk, row_drop l i (by omega)]
    simp only [Option.bind_some, List.all_cons, okOp]
    by_cases c : PlanOps.opOk (rd_T39 l (i : Int)).f0 (rd_T39 l (i : Int)).f1 (rd_T39 l (i : Int)).f2 (rd_T39 l (i : Int)).f3 (rd_T39 l (i : Int)).f4 (rd_T39 l (i : Int)).f5 = true
    · simp [c]
    · simp [c]

theorem ref_right_l0 (p : List (List S39)) (hp : small p) : ∀ (d i k : Nat), i + d = p.length → 50 * d + 300 ≤ k →
    handoffref10_Right.l0 k p p (p.length : Int) (i : Int) = some ((p.drop i).all okRow && decide (1 ≤ p.length ∧ p.length ≤ 8)) := by
  have h20 := hp.1
  intro d
  induction d with
  | zero =>
    intro i k hi hk
    obtain ⟨k, rfl⟩ : ∃ m, k = m + 1 := ⟨k - 1, by omega⟩
    rw [handoffref10_Right.l0, if_neg (by omega), List.drop_of_length_le (by omega)]
    by_cases c1 : 1 ≤ p.length
    · rw [if_pos (by omega)]
      by_cases c2 : p.length ≤ 8
      · rw [decide_eq_true (show (p.length : Int) ≤ 8 by omega), decide_eq_true (show 1 ≤ p.length ∧ p.length ≤ 8 from ⟨c1, c2⟩)]; rfl
      · rw [decide_eq_false (show ¬ (p.length : Int) ≤ 8 by omega), decide_eq_false (show ¬ (1 ≤ p.length ∧ p.length ≤ 8) by omega)]; rfl
    · rw [if_neg (by omega), decide_eq_false (show ¬ (1 ≤ p.length ∧ p.length ≤ 8) by omega)]; rfl
  | succ d ih =>
    intro i k hi hk
    have hm : rd_L7 p (i : Int) ∈ p := by
      have := rows_drop p i (by omega)
      exact List.mem_of_mem_drop (i := i) (by rw [this]; simp)
    obtain ⟨h1, h2⟩ := hp.2 _ hm
    obtain ⟨k, rfl⟩ : ∃ m, k = ((rd_L7 p (i : Int)).length + 1 + m) + 1 := ⟨k - ((rd_L7 p (i : Int)).length + 2), by clear ih h2; omega⟩
    have h4 := ref_right_l1 p p (p.length : Int) (i : Int) (rd_L7 p (i : Int)) h1 h2 (rd_L7 p (i : Int)).length 0 k (by omega) (by omega)
    rw [Int.natCast_zero, List.drop_zero] at h4
    rw [handoffref10_Right.l0, if_pos (by omega), if_pos (by omega), if_pos (by omega), h4, wrap_in ((i : Int) + 1) (by omega) (by omega), show (i : Int) + 1 = ((i + 1 : Nat) : Int) by omega, ih (i + 1) k (by omega) (by omega), rows_drop p i (by omega)]
    simp only [List.all_cons, okRow]
    generalize List.all (rd_L7 p (i : Int)) okOp = q
    by_cases c : (rd_L7 p (i : Int)).length ≤ 16
    · cases q <;> simp [c]
    · cases q <;> simp [c]

theorem ref_right_is (p : List (List S39)) (hp : small p) (k : Nat) (hk : 1300 ≤ k) : handoffref10_Right.f k p = some (okPlan p) := by
  have h20 := hp.1
  have := ref_right_l0 p hp p.length 0 k (by omega) (by omega)
  rw [Int.natCast_zero, List.drop_zero, Bool.and_comm] at this
  exact this

/-- A plan that can be is fine. -/
theorem fine_of (p : List (List S39)) (h : okPlan p = true) : planFine p := by
  unfold okPlan at h
  simp only [Bool.and_eq_true, decide_eq_true_eq, List.all_eq_true] at h
  obtain ⟨⟨_, h8⟩, hr⟩ := h
  refine ⟨h8, fun j hj => ?_⟩
  have hm : rd_L7 p (j : Int) ∈ p := by
    have := rows_drop p j hj
    exact List.mem_of_mem_drop (i := j) (by rw [this]; simp)
  have h1 := hr _ hm
  unfold okRow at h1
  simp only [Bool.and_eq_true, decide_eq_true_eq, List.all_eq_true] at h1
  refine ⟨h1.1, fun i hi => ?_⟩
  have hm2 : rd_T39 (rd_L7 p (j : Int)) (i : Int) ∈ rd_L7 p (j : Int) := by
    have := row_drop (rd_L7 p (j : Int)) i hi
    exact List.mem_of_mem_drop (i := i) (by rw [this]; simp)
  have h2 := h1.2 _ hm2
  unfold okOp PlanOps.opOk at h2
  simp only [Bool.and_eq_true, decide_eq_true_eq] at h2
  obtain ⟨⟨g1, g9, _, _, _, _, _, _, g6, _, _, _, gc⟩, _⟩ := h2
  exact ⟨g1, g9, g6, gc.elim .inl (fun h => .inr (List.length_eq_zero_iff.1 h.2))⟩
end Go.Proofs.Ytjmpaeckpbpclaa.PlanRight
