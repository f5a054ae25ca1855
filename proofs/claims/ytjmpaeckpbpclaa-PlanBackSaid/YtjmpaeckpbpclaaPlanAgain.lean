/- A plan comes back from its own bytes; bytes are read up to where the plan's own bytes end. -/
import Derived.Test.YtjmpaeckpbpclaaPurePlanBytes
namespace Go.Proofs.Ytjmpaeckpbpclaa.PlanAgain
open Go.RowKit Go.Proofs.YtjmpaeckpbpclaaW.PrintWords Go.Proofs.Ytjmpaeckpbpclaa.PPlK Go.Proofs.Ytjmpaeckpbpclaa.PlanRead Go.Proofs.Ytjmpaeckpbpclaa.PlanPut Go.Proofs.Ytjmpaeckpbpclaa.PlanEnc Go.Proofs.Ytjmpaeckpbpclaa.PlanRight
set_option linter.unusedSimpArgs false

/-- These bytes stand at a place. -/
def At (b : List Int) (i : Nat) (s : List Int) : Prop := ∃ r, b.drop i = s ++ r

theorem at_cons {b : List Int} {i : Nat} {v : Int} {s : List Int} (h : At b i (v :: s)) : atv b i = v ∧ At b (i + 1) s := by
  obtain ⟨r, h⟩ := h
  have hi : i < b.length := by
    rcases Nat.lt_or_ge i b.length with hi | hi
    · exact hi
    · rw [List.drop_of_length_le hi] at h; cases h
  rw [List.drop_eq_getElem_cons hi] at h
  injection h with h1 h2
  refine ⟨?_, r, h2⟩
  unfold atv rd
  rw [if_pos hi, Int.toNat_natCast, List.getD_eq_getElem?_getD, List.getElem?_eq_getElem hi]
  exact h1
theorem at_app {b : List Int} {i : Nat} {s t : List Int} (h : At b i (s ++ t)) : At b i s ∧ At b (i + s.length) t := by
  obtain ⟨r, h⟩ := h
  refine ⟨⟨t ++ r, by rw [h, List.append_assoc]⟩, r, ?_⟩
  rw [← List.drop_drop, h, List.append_assoc, List.drop_left]

def casesBytes (l : List S116) : List Int := l.flatMap caseBytes

theorem case_drop (x : List S116) (i : Nat) (h : i < x.length) : x.drop i = rd_T116 x (i : Int) :: x.drop (i + 1) := by
  rw [List.drop_eq_getElem_cons h]
  congr 1
  unfold rd_T116
  simp [List.getD_eq_getElem?_getD, h]

theorem cb_eq (x : List S116) : ∀ d i, i + d = x.length → cb x i d = casesBytes (x.drop i) := by
  intro d
  induction d with
  | zero => intro i h; rw [List.drop_of_length_le (by omega)]; rfl
  | succ d ih =>
    intro i h
    rw [case_drop x i (by omega)]
    show caseBytes _ ++ cb x (i + 1) d = _
    rw [ih (i + 1) (by omega)]
    rfl
theorem okFrom_eq (x : List S116) : ∀ d i, i + d = x.length → PlanOps.okFrom x i d = (x.drop i).all PlanOps.caseOk := by
  intro d
  induction d with
  | zero => intro i h; rw [List.drop_of_length_le (by omega)]; rfl
  | succ d ih =>
    intro i h
    rw [case_drop x i (by omega), List.all_cons, ← ih (i + 1) (by omega)]
    show (if PlanOps.caseOk _ = true then PlanOps.okFrom x (i + 1) d else false) = _
    split <;> rename_i hc
    · rw [hc]; rfl
    · rw [Bool.eq_false_iff.mpr hc]; rfl

theorem tm (a n : Int) (h0 : 0 ≤ a) (h1 : a < n) : Int.tmod a n = a := Int.tmod_eq_of_lt h0 h1
theorem m256 (a : Int) (h0 : 0 ≤ a) (h1 : a ≤ 255) : a % 256 = a := Int.emod_eq_of_lt h0 (by omega)

/-- Cases are read back. -/
theorem cases_back {b : List Int} : ∀ (l : List S116) (i : Nat) (acc : List S116), l.all PlanOps.caseOk = true → At b i (casesBytes l) → rdCases b l.length i acc = (acc ++ l, i + (casesBytes l).length) := by
  intro l
  induction l with
  | nil => intro i acc _ _; show (acc, i) = _; rw [List.append_nil]; rfl
  | cons c l ih =>
    intro i acc h ha
    rw [List.all_cons, Bool.and_eq_true] at h
    obtain ⟨hc, hl⟩ := h
    obtain ⟨ha1, ha2⟩ := at_app (s := caseBytes c) (t := casesBytes l) ha
    simp only [PlanOps.caseOk, Bool.and_eq_true, decide_eq_true_eq] at hc
    obtain ⟨⟨⟨⟨c1, c2⟩, c3⟩, c4⟩, c5⟩ := hc
    have e : casesBytes (c :: l) = caseBytes c ++ casesBytes l := rfl
    obtain ⟨s, ch, v⟩ := c
    simp only at c1 c2 c3 c4 c5
    cases s with
    | true =>
      have hb : caseBytes ⟨true, ch, v⟩ = [1, ch, v] := by simp [caseBytes, bitv, m256 ch c1 (by omega), m256 v c3 c4]
      rw [hb] at ha1 ha2
      obtain ⟨r0, ha1⟩ := at_cons ha1
      obtain ⟨r1, ha1⟩ := at_cons ha1
      obtain ⟨r2, _⟩ := at_cons ha1
      rw [List.length_cons, rdCases, r0, if_pos (by decide), r1, show i + 2 = i + 1 + 1 by omega, r2, tm ch 9 c1 (by omega), e, hb, List.length_append]
      rw [ih (i + 3) _ hl ha2]
      simp
      omega
    | false =>
      have hv : v = 0 := by simpa using c5
      subst hv
      have hb : caseBytes ⟨false, ch, 0⟩ = [0, ch] := by simp [caseBytes, bitv, m256 ch c1 (by omega)]
      rw [hb] at ha1 ha2
      obtain ⟨r0, ha1⟩ := at_cons ha1
      obtain ⟨r1, _⟩ := at_cons ha1
      rw [List.length_cons, rdCases, r0, if_neg (by decide), r1, tm ch 9 c1 (by omega), e, hb, List.length_append]
      rw [ih (i + 2) _ hl ha2]
      simp
      omega

/-- What is read are cases that can be, and no more bytes were read than they have. -/
theorem cases_made {b : List Int} (hb : ∀ x ∈ b, 0 ≤ x ∧ x < 256) : ∀ (m i : Nat) (acc : List S116), ∃ l : List S116, l.length = m ∧ l.all PlanOps.caseOk = true ∧ rdCases b m i acc = (acc ++ l, i + (casesBytes l).length) := by
  intro m
  induction m with
  | zero => intro i acc; exact ⟨[], rfl, rfl, by show (acc, i) = _; rw [List.append_nil]; rfl⟩
  | succ m ih =>
    intro i acc
    have h0 := atv_in hb i
    have h1 := atv_in hb (i + 1)
    have h2 := atv_in hb (i + 2)
    have n1 : 0 ≤ Int.tmod (atv b (i + 1)) 9 := Int.tmod_nonneg _ h1.1
    have l1 : Int.tmod (atv b (i + 1)) 9 < 9 := Int.tmod_lt_of_pos _ (by decide)
    by_cases c : Int.tmod (atv b i) 2 = 1
    · obtain ⟨l, hl, ho, e⟩ := ih (i + 3) (acc ++ [⟨Int.tmod (atv b i) 2 == 1, Int.tmod (atv b (i + 1)) 9, atv b (i + 2)⟩])
      refine ⟨⟨true, Int.tmod (atv b (i + 1)) 9, atv b (i + 2)⟩ :: l, by simp [hl], ?_, ?_⟩
      · rw [List.all_cons, ho]
        simp [PlanOps.caseOk]
        omega
      · rw [rdCases, if_pos c, e]
        have hq : (Int.tmod (atv b i) 2 == 1) = true := by simp [c]
        rw [hq]
        have e2 : casesBytes (⟨true, Int.tmod (atv b (i + 1)) 9, atv b (i + 2)⟩ :: l) = caseBytes ⟨true, Int.tmod (atv b (i + 1)) 9, atv b (i + 2)⟩ ++ casesBytes l := rfl
        rw [e2, List.length_append]
        have e3 : (caseBytes ⟨true, Int.tmod (atv b (i + 1)) 9, atv b (i + 2)⟩).length = 3 := by simp [caseBytes]
        rw [e3]
        simp
        omega
    · obtain ⟨l, hl, ho, e⟩ := ih (i + 2) (acc ++ [⟨Int.tmod (atv b i) 2 == 1, Int.tmod (atv b (i + 1)) 9, 0⟩])
      refine ⟨⟨false, Int.tmod (atv b (i + 1)) 9, 0⟩ :: l, by simp [hl], ?_, ?_⟩
      · rw [List.all_cons, ho]
        simp [PlanOps.caseOk]
        omega
      · rw [rdCases, if_neg c, e]
        have hq : (Int.tmod (atv b i) 2 == 1) = false := by simp [c]
        rw [hq]
        have e2 : casesBytes (⟨false, Int.tmod (atv b (i + 1)) 9, 0⟩ :: l) = caseBytes ⟨false, Int.tmod (atv b (i + 1)) 9, 0⟩ ++ casesBytes l := rfl
        rw [e2, List.length_append]
        have e3 : (caseBytes ⟨false, Int.tmod (atv b (i + 1)) 9, 0⟩).length = 2 := by simp [caseBytes]
        rw [e3]
        simp
        omega

theorem ok_op (o : S39) : okOp o = true ↔ (1 ≤ o.f0 ∧ o.f0 ≤ 9 ∧ 0 ≤ o.f1 ∧ o.f1 ≤ 8 ∧ 0 ≤ o.f2 ∧ o.f2 ≤ 4 ∧ 0 ≤ o.f3 ∧ o.f3 ≤ 255 ∧ o.f4.length ≤ 6 ∧ (o.f1 = 0 ∨ (2 ≤ o.f0 ∧ o.f0 ≤ 8)) ∧ (o.f3 = 0 ∨ o.f0 = 2 ∨ o.f0 = 4) ∧ (o.f2 = 0 ∨ o.f0 = 1) ∧ (o.f0 = 9 ∨ (o.f5 = false ∧ o.f4.length = 0))) ∧ o.f4.all PlanOps.caseOk = true := by
  unfold okOp PlanOps.opOk
  rw [Bool.and_eq_true, decide_eq_true_eq, okFrom_eq o.f4 o.f4.length 0 (by omega), List.drop_zero]

theorem put_at (o : S39) (h1 : 1 ≤ o.f0) (h9 : o.f0 ≤ 9) : putBytes o = [o.f0 - 1] ++ (if 2 ≤ o.f0 ∧ o.f0 ≤ 8 then [o.f1 % 256] else []) ++ (if o.f0 = 1 then [o.f2 % 256] else []) ++ (if o.f0 = 2 ∨ o.f0 = 4 then [o.f3 % 256] else []) ++
    (if o.f0 = 9 then [(o.f4.length : Int) % 256, bitv o.f5] ++ casesBytes o.f4 else []) := by
  unfold putBytes
  rw [cb_eq o.f4 o.f4.length 0 (by omega), List.drop_zero, wrap_in (o.f0 - 1) (by omega) (by omega), m256 (o.f0 - 1) (by omega) (by omega)]

/-- An op is read back. -/
theorem one_back {b : List Int} (o : S39) (i : Nat) (h : okOp o = true) (ha : At b i (putBytes o)) : rdOne b i = (o, i + (putBytes o).length) := by
  obtain ⟨⟨h1, h9, b0, b8, c0, c4, d0, d5, l6, g1, g2, g3, g4⟩, hc⟩ := (ok_op o).1 h
  have hp := put_at o h1 h9
  obtain ⟨kind, ch, n, v, cs, el⟩ := o
  simp only at h1 h9 b0 b8 c0 c4 d0 d5 l6 g1 g2 g3 g4 hc hp
  by_cases k9 : kind = 9
  · subst k9
    have e1 : ch = 0 := by omega
    have e2 : n = 0 := by omega
    have e3 : v = 0 := by omega
    subst e1 e2 e3
    have hp2 : putBytes ⟨9, 0, 0, 0, cs, el⟩ = [8, (cs.length : Int), bitv el] ++ casesBytes cs := by
      rw [hp]; simp [m256 (cs.length : Int) (by omega) (by omega)]
    rw [hp2] at ha ⊢
    obtain ⟨a1, a2⟩ := at_app ha
    obtain ⟨r0, a1⟩ := at_cons a1
    obtain ⟨r1, a1⟩ := at_cons a1
    obtain ⟨r2, _⟩ := at_cons a1
    have hm : many b (i + 1) = cs.length := by
      unfold many
      rw [r1, tm _ 7 (by omega) (by omega), Int.toNat_natCast]
    unfold rdOne
    rw [r0, if_pos (by decide), hm, show i + 2 = i + 1 + 1 by omega, r2, cases_back cs (i + 3) [] hc a2]
    have hbit : (Int.tmod (bitv el) 2 == 1) = el := by cases el <;> decide
    rw [hbit]
    simp
    omega
  · have e5 : el = false := by rcases g4 with g | g; exact absurd g k9; exact g.1
    have e4 : cs = [] := by rcases g4 with g | g; exact absurd g k9; exact List.length_eq_zero_iff.1 g.2
    subst e5 e4
    by_cases k1 : kind = 1
    · subst k1
      have e1 : ch = 0 := by omega
      have e3 : v = 0 := by omega
      subst e1 e3
      have hp2 : putBytes ⟨1, 0, n, 0, [], false⟩ = [0, n] := by rw [hp]; simp [m256 n c0 (by omega)]
      rw [hp2] at ha ⊢
      obtain ⟨r0, a1⟩ := at_cons ha
      obtain ⟨r1, _⟩ := at_cons a1
      unfold rdOne
      rw [r0, if_neg (by decide), if_pos (by decide), r1, tm n 5 c0 (by omega)]
      rfl
    · by_cases k2 : kind = 2 ∨ kind = 4
      · have e2 : n = 0 := by omega
        subst e2
        have hp2 : putBytes ⟨kind, ch, 0, v, [], false⟩ = [kind - 1, ch, v] := by
          rw [hp, if_pos (by omega), if_neg k1, if_pos k2, if_neg k9]; simp [m256 ch b0 (by omega), m256 v d0 d5]
        rw [hp2] at ha ⊢
        obtain ⟨r0, a1⟩ := at_cons ha
        obtain ⟨r1, a1⟩ := at_cons a1
        obtain ⟨r2, _⟩ := at_cons a1
        unfold rdOne
        rw [r0, tm (kind - 1) 9 (by omega) (by omega), if_neg (by omega), if_neg (by omega), if_pos (by omega), r1, tm ch 9 b0 (by omega), show i + 2 = i + 1 + 1 by omega, r2, show kind - 1 + 1 = kind by omega]
        rfl
      · have e2 : n = 0 := by omega
        have e3 : v = 0 := by omega
        subst e2 e3
        have hp2 : putBytes ⟨kind, ch, 0, 0, [], false⟩ = [kind - 1, ch] := by
          rw [hp, if_pos (by omega), if_neg k1, if_neg k2, if_neg k9]; simp [m256 ch b0 (by omega)]
        rw [hp2] at ha ⊢
        obtain ⟨r0, a1⟩ := at_cons ha
        obtain ⟨r1, _⟩ := at_cons a1
        unfold rdOne
        rw [r0, tm (kind - 1) 9 (by omega) (by omega), if_neg (by omega), if_neg (by omega), if_neg (by omega), r1, tm ch 9 b0 (by omega), show kind - 1 + 1 = kind by omega]
        rfl

/-- What is read is an op that can be, of just so many bytes. -/
theorem one_made {b : List Int} (hb : ∀ x ∈ b, 0 ≤ x ∧ x < 256) (i : Nat) : okOp (rdOne b i).1 = true ∧ (rdOne b i).2 = i + (putBytes (rdOne b i).1).length := by
  have h0 := atv_in hb i
  have h1 := atv_in hb (i + 1)
  have h2 := atv_in hb (i + 2)
  have n0 : 0 ≤ Int.tmod (atv b i) 9 := Int.tmod_nonneg _ h0.1
  have l0 : Int.tmod (atv b i) 9 < 9 := Int.tmod_lt_of_pos _ (by decide)
  have n1 : 0 ≤ Int.tmod (atv b (i + 1)) 9 := Int.tmod_nonneg _ h1.1
  have l1 : Int.tmod (atv b (i + 1)) 9 < 9 := Int.tmod_lt_of_pos _ (by decide)
  have n5 : 0 ≤ Int.tmod (atv b (i + 1)) 5 := Int.tmod_nonneg _ h1.1
  have l5 : Int.tmod (atv b (i + 1)) 5 < 5 := Int.tmod_lt_of_pos _ (by decide)
  obtain ⟨l, hl, ho, e⟩ := cases_made hb (many b (i + 1)) (i + 3) []
  have hm := (many_is hb (i + 1)).2
  have key : ∀ (o : S39) (j : Nat), rdOne b i = (o, j) → okOp o = true → j = i + (putBytes o).length → okOp (rdOne b i).1 = true ∧ (rdOne b i).2 = i + (putBytes (rdOne b i).1).length := by
    intro o j h1 h2 h3
    rw [h1]
    exact ⟨h2, h3⟩
  have bnd : ∀ o : S39, okOp o = true → 1 ≤ o.f0 ∧ o.f0 ≤ 9 := fun o h => ⟨((ok_op o).1 h).1.1, ((ok_op o).1 h).1.2.1⟩
  by_cases c9 : Int.tmod (atv b i) 9 = 8
  · have hr : rdOne b i = (⟨9, 0, 0, 0, l, Int.tmod (atv b (i + 2)) 2 == 1⟩, i + 3 + (casesBytes l).length) := by
      unfold rdOne
      rw [if_pos c9, e]
      simp
    have hok : okOp ⟨9, 0, 0, 0, l, Int.tmod (atv b (i + 2)) 2 == 1⟩ = true := by
      rw [ok_op]
      exact ⟨by simp; omega, ho⟩
    refine key _ _ hr hok ?_
    rw [put_at _ (by simp) (by simp)]
    simp
    omega
  · by_cases c1 : Int.tmod (atv b i) 9 = 0
    · have hr : rdOne b i = (⟨1, 0, Int.tmod (atv b (i + 1)) 5, 0, [], false⟩, i + 2) := by
        unfold rdOne
        rw [if_neg c9, if_pos c1]
      have hok : okOp ⟨1, 0, Int.tmod (atv b (i + 1)) 5, 0, [], false⟩ = true := by
        rw [ok_op]
        exact ⟨by simp; omega, rfl⟩
      refine key _ _ hr hok ?_
      rw [put_at _ (by simp) (by simp)]
      simp
    · by_cases c2 : Int.tmod (atv b i) 9 = 1 ∨ Int.tmod (atv b i) 9 = 3
      · have hr : rdOne b i = (⟨Int.tmod (atv b i) 9 + 1, Int.tmod (atv b (i + 1)) 9, 0, atv b (i + 2), [], false⟩, i + 3) := by
          unfold rdOne
          rw [if_neg c9, if_neg c1, if_pos c2]
        have hok : okOp ⟨Int.tmod (atv b i) 9 + 1, Int.tmod (atv b (i + 1)) 9, 0, atv b (i + 2), [], false⟩ = true := by
          rw [ok_op]
          exact ⟨by simp; omega, rfl⟩
        refine key _ _ hr hok ?_
        rw [put_at _ (bnd _ hok).1 (bnd _ hok).2]
        simp only
        rw [if_pos (by omega), if_neg (by omega), if_pos (by omega), if_neg (by omega)]
        simp
      · have hr : rdOne b i = (⟨Int.tmod (atv b i) 9 + 1, Int.tmod (atv b (i + 1)) 9, 0, 0, [], false⟩, i + 2) := by
          unfold rdOne
          rw [if_neg c9, if_neg c1, if_neg c2]
        have hok : okOp ⟨Int.tmod (atv b i) 9 + 1, Int.tmod (atv b (i + 1)) 9, 0, 0, [], false⟩ = true := by
          rw [ok_op]
          exact ⟨by simp; omega, rfl⟩
        refine key _ _ hr hok ?_
        rw [put_at _ (bnd _ hok).1 (bnd _ hok).2]
        simp only
        rw [if_pos (by omega), if_neg (by omega), if_neg (by omega), if_neg (by omega)]
        simp

def opsBytes (l : List S39) : List Int := l.flatMap putBytes
theorem rowBytes_eq (row : List S39) : ∀ d i, i + d = row.length → rowBytes row i d = opsBytes (row.drop i) := by
  intro d
  induction d with
  | zero => intro i h; rw [List.drop_of_length_le (by omega)]; rfl
  | succ d ih =>
    intro i h
    rw [row_drop row i (by omega), rowBytes_succ, ih (i + 1) (by omega)]
    rfl
theorem ops_back {b : List Int} : ∀ (l : List S39) (i : Nat) (acc : List S39), l.all okOp = true → At b i (opsBytes l) → rdOps b l.length i acc = (acc ++ l, i + (opsBytes l).length) := by
  intro l
  induction l with
  | nil => intro i acc _ _; show (acc, i) = _; rw [List.append_nil]; rfl
  | cons o l ih =>
    intro i acc h ha
    rw [List.all_cons, Bool.and_eq_true] at h
    obtain ⟨a1, a2⟩ := at_app (s := putBytes o) (t := opsBytes l) ha
    have e : opsBytes (o :: l) = putBytes o ++ opsBytes l := rfl
    rw [List.length_cons, rdOps, one_back o i h.1 a1, ih _ _ h.2 a2, e, List.length_append]
    simp
    omega
theorem ops_made {b : List Int} (hb : ∀ x ∈ b, 0 ≤ x ∧ x < 256) : ∀ (m i : Nat) (acc : List S39), ∃ l : List S39, l.length = m ∧ l.all okOp = true ∧ rdOps b m i acc = (acc ++ l, i + (opsBytes l).length) := by
  intro m
  induction m with
  | zero => intro i acc; exact ⟨[], rfl, rfl, by show (acc, i) = _; rw [List.append_nil]; rfl⟩
  | succ m ih =>
    intro i acc
    obtain ⟨h1, h2⟩ := one_made hb i
    obtain ⟨l, hl, ho, e⟩ := ih (rdOne b i).2 (acc ++ [(rdOne b i).1])
    refine ⟨(rdOne b i).1 :: l, by simp [hl], by rw [List.all_cons, h1, ho]; rfl, ?_⟩
    have e2 : opsBytes ((rdOne b i).1 :: l) = putBytes (rdOne b i).1 ++ opsBytes l := rfl
    rw [rdOps, e, e2, List.length_append, h2]
    simp
    omega

def gBytes (l : List S39) : List Int := [(l.length : Int) % 256] ++ opsBytes l
def plansBytes (p : List (List S39)) : List Int := p.flatMap gBytes
theorem gsBytes_eq (p : List (List S39)) : ∀ d i, i + d = p.length → gsBytes p i d = plansBytes (p.drop i) := by
  intro d
  induction d with
  | zero => intro i h; rw [List.drop_of_length_le (by omega)]; rfl
  | succ d ih =>
    intro i h
    rw [rows_drop p i (by omega), gsBytes_succ, ih (i + 1) (by omega), rowBytes_eq _ _ 0 (by omega), List.drop_zero]
    rfl
theorem gs_back {b : List Int} : ∀ (p : List (List S39)) (i : Nat) (acc : List (List S39)), p.all okRow = true → At b i (plansBytes p) → rdGs b p.length i acc = (acc ++ p, i + (plansBytes p).length) := by
  intro p
  induction p with
  | nil => intro i acc _ _; show (acc, i) = _; rw [List.append_nil]; rfl
  | cons l p ih =>
    intro i acc h ha
    rw [List.all_cons, Bool.and_eq_true] at h
    obtain ⟨hr, hp⟩ := h
    simp only [okRow, Bool.and_eq_true, decide_eq_true_eq] at hr
    obtain ⟨a1, a2⟩ := at_app (s := gBytes l) (t := plansBytes p) ha
    have hg : gBytes l = (l.length : Int) :: opsBytes l := by
      unfold gBytes
      rw [m256 _ (by omega) (by omega)]
      rfl
    rw [hg] at a1
    obtain ⟨r0, a1⟩ := at_cons a1
    have ho : opsAt b i = l.length := by
      unfold opsAt
      rw [r0, tm _ 17 (by omega) (by omega), Int.toNat_natCast]
    have e : plansBytes (l :: p) = gBytes l ++ plansBytes p := rfl
    have hgl : (gBytes l).length = (opsBytes l).length + 1 := by rw [hg]; rfl
    rw [List.length_cons, rdGs, ho, ops_back l (i + 1) [] hr.2 a1]
    simp only [List.nil_append]
    rw [hgl] at a2
    rw [show i + 1 + (opsBytes l).length = i + ((opsBytes l).length + 1) by omega, ih _ _ hp a2, e, List.length_append, hgl]
    simp
    omega
theorem gs_made {b : List Int} (hb : ∀ x ∈ b, 0 ≤ x ∧ x < 256) : ∀ (m i : Nat) (acc : List (List S39)), ∃ p : List (List S39), p.length = m ∧ p.all okRow = true ∧ rdGs b m i acc = (acc ++ p, i + (plansBytes p).length) := by
  intro m
  induction m with
  | zero => intro i acc; exact ⟨[], rfl, rfl, by show (acc, i) = _; rw [List.append_nil]; rfl⟩
  | succ m ih =>
    intro i acc
    obtain ⟨l, hl, ho, e⟩ := ops_made hb (opsAt b i) (i + 1) []
    have h16 := (opsAt_is hb i).2
    obtain ⟨p, hp, hk, e2⟩ := ih (rdOps b (opsAt b i) (i + 1) []).2 (acc ++ [(rdOps b (opsAt b i) (i + 1) []).1])
    have hgl : (gBytes l).length = (opsBytes l).length + 1 := by unfold gBytes; simp
    have e3 : plansBytes (l :: p) = gBytes l ++ plansBytes p := rfl
    refine ⟨l :: p, by simp [hp], ?_, ?_⟩
    · rw [List.all_cons, hk, Bool.and_true]
      simp only [okRow, Bool.and_eq_true, decide_eq_true_eq]
      exact ⟨by omega, ho⟩
    · rw [rdGs, e2, e, e3, List.length_append, hgl]
      simp
      omega

def planBytes (p : List (List S39)) : List Int := [wrap64 ((p.length : Int) - 1) % 256] ++ gsBytes p 0 p.length

/-- A plan comes back from its own bytes, whatever stands behind. -/
theorem plan_back (p : List (List S39)) (h : okPlan p = true) (more : List Int) : rdPlan (planBytes p ++ more) = (p, (planBytes p).length) := by
  unfold okPlan at h
  simp only [Bool.and_eq_true, decide_eq_true_eq] at h
  obtain ⟨⟨h1, h8⟩, hr⟩ := h
  have e : planBytes p = ((p.length : Int) - 1) :: plansBytes p := by
    unfold planBytes
    rw [gsBytes_eq p p.length 0 (by omega), List.drop_zero, wrap_in _ (by omega) (by omega), m256 _ (by omega) (by omega)]
    rfl
  have ha : At (planBytes p ++ more) 0 (((p.length : Int) - 1) :: plansBytes p) := ⟨more, by rw [List.drop_zero, e]⟩
  obtain ⟨r0, a1⟩ := at_cons ha
  have hg : gsAt (planBytes p ++ more) + 1 = p.length := by
    unfold gsAt
    rw [r0, tm _ 8 (by omega) (by omega)]
    omega
  unfold rdPlan
  rw [hg, gs_back p 1 [] hr a1, e]
  simp
  omega
theorem plan_made {b : List Int} (hb : ∀ x ∈ b, 0 ≤ x ∧ x < 256) : okPlan (rdPlan b).1 = true ∧ (rdPlan b).2 = (planBytes (rdPlan b).1).length := by
  obtain ⟨p, hp, hk, e⟩ := gs_made hb (gsAt b + 1) 1 []
  have h7 := (gsAt_is hb).2
  have e2 : rdPlan b = (p, 1 + (plansBytes p).length) := by unfold rdPlan; rw [e]; simp
  rw [e2]
  refine ⟨?_, ?_⟩
  · unfold okPlan
    simp only [Bool.and_eq_true, decide_eq_true_eq]
    exact ⟨by omega, hk⟩
  · show 1 + (plansBytes p).length = (planBytes p).length
    unfold planBytes
    rw [gsBytes_eq p p.length 0 (by omega), List.drop_zero, List.length_append]
    rfl
end Go.Proofs.Ytjmpaeckpbpclaa.PlanAgain
