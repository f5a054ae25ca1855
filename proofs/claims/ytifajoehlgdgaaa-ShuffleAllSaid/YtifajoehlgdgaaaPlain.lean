/- Plain lemmas on wrapped numbers and on lists that are read and written by number. No program in sight. -/
import Derived.Test.YtifajoehlgdgaaaWWords
namespace Go.Proofs.Ytifajoehlgdgaaa.Plain
open Go.RowKit Go.Proofs.YtifajoehlgdgaaaW.PrintWords

theorem wid {x : Int} (h0 : -9223372036854775808 ≤ x) (h1 : x ≤ 9223372036854775807) : wrap64 x = x := by
  unfold wrap64
  omega

/-- What stands at a place. -/
def G (x : List Int) (i : Nat) : Int := x.getD i 0

theorem rd_nat (x : List Int) (i : Nat) : rd x (i : Int) = G x i := by
  simp [rd, G]

theorem G_set {x : List Int} {i : Nat} {v : Int} (h : i < x.length) (j : Nat) : G (x.set i v) j = if i = j then v else G x j := by
  unfold G
  simp only [List.getD_eq_getElem?_getD, List.getElem?_set]
  split
  · rename_i he
    subst he
    rfl
  · rfl

theorem G_get {x : List Int} {i : Nat} (h : i < x.length) : x[i] = G x i := by
  unfold G
  simp [List.getD_eq_getElem?_getD, h]

theorem G_app_left {x y : List Int} {i : Nat} (h : i < x.length) : G (x ++ y) i = G x i := by
  unfold G
  simp only [List.getD_eq_getElem?_getD, List.getElem?_append_left h]

theorem G_app_at {x : List Int} {v : Int} : G (x ++ [v]) x.length = v := by
  unfold G
  simp [List.getD_eq_getElem?_getD]

theorem drop_G {x : List Int} {i : Nat} (h : i < x.length) : x.drop i = G x i :: x.drop (i + 1) := by
  rw [List.drop_eq_getElem_cons h, G_get h]

theorem take_G {x : List Int} {i : Nat} (h : i < x.length) : x.take (i + 1) = x.take i ++ [G x i] := by
  rw [List.take_succ_eq_append_getElem h, G_get h]

/-- Two change places. -/
def sw (x : List Int) (i j : Nat) : List Int := (x.set i (G x j)).set j (G x i)

theorem sw_len (x : List Int) (i j : Nat) : (sw x i j).length = x.length := by simp [sw]

theorem sw_G {x : List Int} {i j : Nat} (hi : i < x.length) (hj : j < x.length) (k : Nat) : G (sw x i j) k = if k = j then G x i else if k = i then G x j else G x k := by
  unfold sw
  rw [G_set (by simpa using hj), G_set hi]
  by_cases h1 : k = j
  · subst h1; simp
  · rw [if_neg (fun e => h1 e.symm), if_neg h1]
    by_cases h2 : k = i
    · subst h2; simp
    · rw [if_neg (fun e => h2 e.symm), if_neg h2]

theorem sw_perm {x : List Int} {i j : Nat} (hi : i < x.length) (hj : j < x.length) : (sw x i j).Perm x := by
  rw [List.perm_iff_count]
  intro a
  unfold sw
  rw [List.count_set (by simpa using hj), List.count_set hi]
  rw [List.getElem_set]
  rw [G_get hi]
  have e : x[j] = G x j := G_get hj
  have hc : ∀ (m : Nat) (hm : m < x.length), G x m = a → 0 < List.count a x := by
    intro m hm h
    rw [List.count_pos_iff, ← h, ← G_get hm]
    exact List.getElem_mem hm
  by_cases hij : i = j
  · subst hij
    simp only [if_true]
    by_cases h1 : G x i = a
    · have := hc i hi h1
      simp [h1]; omega
    · simp [h1]
  · rw [if_neg hij, e]
    by_cases h1 : G x i = a
    · have := hc i hi h1
      by_cases h2 : G x j = a
      · simp [h1, h2]; omega
      · simp [h1, h2]; omega
    · by_cases h2 : G x j = a
      · simp [h1, h2]
      · simp [h1, h2]

/-- Two lists that are sorted and have the same elements are one. -/
theorem sorted_one {a b : List Int} (ha : a.Pairwise (· ≤ ·)) (hb : b.Pairwise (· ≤ ·)) (h : a.Perm b) : a = b :=
  List.Perm.eq_of_pairwise (fun _ _ _ _ h1 h2 => Int.le_antisymm h1 h2) ha hb h

theorem sorted_of_G {x : List Int} (h : ∀ i j, i < j → j < x.length → G x i ≤ G x j) : x.Pairwise (· ≤ ·) := by
  rw [List.pairwise_iff_getElem]
  intro i j hi hj hij
  rw [G_get hi, G_get hj]
  exact h i j hij hj

theorem ext_G {x y : List Int} (hl : x.length = y.length) (h : ∀ i, i < x.length → G x i = G y i) : x = y := by
  apply List.ext_getElem hl
  intro i h1 h2
  rw [G_get h1, G_get h2]
  exact h i h1

theorem G_eq_of_mem {x : List Int} {v : Int} (h : v ∈ x) : ∃ i, i < x.length ∧ G x i = v := by
  obtain ⟨i, hi, he⟩ := List.getElem_of_mem h
  exact ⟨i, hi, by rw [← G_get hi]; exact he⟩

theorem G_mem {x : List Int} {i : Nat} (h : i < x.length) : G x i ∈ x := by rw [← G_get h]; exact List.getElem_mem h
end Go.Proofs.Ytifajoehlgdgaaa.Plain
