/- The three laws of package order over plain lists. -/
import Derived.Test.YtifajoehlgdgaaaPOrderx
import Derived.Test.YtifajoehlgdgaaaPlainOrder
namespace Go.Proofs.Ytifajoehlgdgaaa.PureOrderX
open Go.RowKit Go.Proofs.YtifajoehlgdgaaaW.PrintWords Go.Proofs.Ytifajoehlgdgaaa.Plain Go.Proofs.Ytifajoehlgdgaaa.PlainOrder Go.Proofs.Ytifajoehlgdgaaa.POrder

theorem alive (k : Nat) (hk : 200 ≤ k) : handofflaw03_orderAlive.f k = some true := at_rounds (fun k => handofflaw03_orderAlive.mono k) hk (by decide +kernel)

/-! ### whether they are a heap -/
theorem heap_ends (l : List Int) (hl : l.length ≤ 1000) : ∀ (d k i : Nat), 1 ≤ i → l.length - i ≤ d → d < k → ∃ b, order_Heap.l0 k l (i : Int) = some b ∧ (b = true ↔ ∀ j, i ≤ j → j < l.length → G l j ≤ G l ((j - 1) / 2)) := by
  intro d
  induction d with
  | zero =>
    intro k i h1 hd hk
    obtain ⟨k, rfl⟩ : ∃ m, k = m + 1 := ⟨k - 1, by omega⟩
    simp only [order_Heap.l0]
    rw [if_neg (by omega)]
    exact ⟨true, rfl, by simp; intro j h1 h2; omega⟩
  | succ d ih =>
    intro k i h1 hd hk
    obtain ⟨k, rfl⟩ : ∃ m, k = m + 1 := ⟨k - 1, by omega⟩
    simp only [order_Heap.l0]
    by_cases c : i < l.length
    · have e : wrap64 (Int.tdiv (wrap64 ((i : Int) - 1)) 2) = (((i - 1) / 2 : Nat) : Int) := by
        rw [wid (x := (i : Int) - 1) (by omega) (by omega), show ((i : Int) - 1) = ((i - 1 : Nat) : Int) by omega, show Int.tdiv ((i - 1 : Nat) : Int) 2 = (((i - 1) / 2 : Nat) : Int) from rfl, wid (by omega) (by omega)]
      rw [e, if_pos (by omega), if_pos (by omega), if_pos (by omega), if_pos (by omega), rd_nat, rd_nat]
      by_cases c2 : G l i > G l ((i - 1) / 2)
      · rw [if_pos c2]
        refine ⟨false, rfl, ?_⟩
        simp only [Bool.false_eq_true, false_iff]
        intro h
        have := h i (Nat.le_refl _) c
        omega
      · rw [if_neg c2, wid (by omega) (by omega)]
        obtain ⟨b, hb, hiff⟩ := ih k (i + 1) (by omega) (by omega) (by omega)
        refine ⟨b, hb, hiff.trans ⟨fun h j h1 h2 => ?_, fun h j h1 h2 => h j (by omega) h2⟩⟩
        by_cases e : j = i
        · subst e; omega
        · exact h j (by omega) h2
    · rw [if_neg (by omega)]
      exact ⟨true, rfl, by simp; intro j h1 h2; omega⟩

theorem par {i : Nat} (h1 : 1 ≤ i) (h2 : i ≤ 1000) : wrap64 (Int.tdiv (wrap64 ((i : Int) - 1)) 2) = (((i - 1) / 2 : Nat) : Int) := by
  rw [wid (x := (i : Int) - 1) (by omega) (by omega), show ((i : Int) - 1) = ((i - 1 : Nat) : Int) by omega, show Int.tdiv ((i - 1 : Nat) : Int) 2 = (((i - 1) / 2 : Nat) : Int) from rfl, wid (by omega) (by omega)]

theorem heap_one (l : List Int) (hl : l.length ≤ 1000) : ∀ (k i : Nat), 1 ≤ i → handoffref03_Heap.l0 k l l (l.length : Int) (i : Int) = order_Heap.l0 k l (i : Int) := by
  intro k
  induction k with
  | zero => intros; rfl
  | succ k ih =>
    intro i hi
    simp only [order_Heap.l0, handoffref03_Heap.l0]
    by_cases c : (i : Int) < (l.length : Int)
    · have h2 := ih (i + 1) (by omega)
      rw [par hi (by omega), wid (x := (i : Int) + 1) (by omega) (by omega), show ((i : Int) + 1) = ((i + 1 : Nat) : Int) by omega, h2]
      have c0 : (0 : Int) ≤ (i : Int) := by omega
      have c1 : (i : Int) > 0 := by omega
      have c2 : (0 : Int) ≤ (((i - 1) / 2 : Nat) : Int) := by omega
      have c3 : ((((i - 1) / 2 : Nat) : Int)) < (l.length : Int) := by omega
      simp only [c, c0, c1, c2, c3, if_true]
    · rw [if_neg c, if_neg c]

theorem heap_ok (l : List Int) (hl : l.length ≤ 1000) (k : Nat) (hk : l.length + 2 < k) : ∃ b, order_Heap.f k l = some b ∧ handoffref03_Heap.f k l = some b ∧ (b = true ↔ ∀ j, 1 ≤ j → j < l.length → G l j ≤ G l ((j - 1) / 2)) := by
  obtain ⟨k, rfl⟩ : ∃ m, k = m + 1 := ⟨k - 1, by omega⟩
  obtain ⟨b, hb, hiff⟩ := heap_ends l hl l.length k 1 (Nat.le_refl _) (by omega) (by omega)
  refine ⟨b, order_Heap.mono_l k _ _ _ hb, ?_, hiff⟩
  unfold handoffref03_Heap.f
  simp only [handoffref03_Heap.l0]
  by_cases c : (0 : Int) < (l.length : Int)
  · rw [if_pos c, if_pos (by omega), if_pos c, if_neg (by omega), wid (by omega) (by omega)]
    have := heap_one l hl k 1 (Nat.le_refl _)
    rw [show ((0 : Int) + 1) = ((1 : Nat) : Int) by rfl, this]
    exact hb
  · rw [if_neg c]
    obtain ⟨k, rfl⟩ : ∃ m, k = m + 1 := ⟨k - 1, by omega⟩
    simp only [order_Heap.l0] at hb
    rw [if_neg (by omega)] at hb
    exact hb

/-! ### from the end on -/
theorem reverse_l0 (l : List Int) (hl : l.length ≤ 1000) : ∀ (d k : Nat) (x : List Int) (i j : Nat), x.length = l.length → i + j + 1 = l.length → j + 1 - i ≤ d → d < k →
    (∀ t, t < l.length → G x t = if t < i ∨ j < t then G l (l.length - 1 - t) else G l t) → slices_Reverse_int_int.l0 k x (i : Int) (j : Int) = some l.reverse := by
  have fin : ∀ (x : List Int) (i j : Nat), x.length = l.length → i + j + 1 = l.length → j ≤ i → (∀ t, t < l.length → G x t = if t < i ∨ j < t then G l (l.length - 1 - t) else G l t) → x = l.reverse := by
    intro x i j hx hij hji h
    apply ext_G (by simpa using hx)
    intro t ht
    rw [h t (by omega)]
    have e : G l.reverse t = G l (l.length - 1 - t) := by
      rw [← G_get (x := l.reverse) (by simp; omega), List.getElem_reverse, G_get]
    rw [e]
    by_cases c : t < i ∨ j < t
    · rw [if_pos c]
    · rw [if_neg c]
      congr 1
      omega
  intro d
  induction d with
  | zero =>
    intro k x i j hx hij hd hk h
    obtain ⟨k, rfl⟩ : ∃ m, k = m + 1 := ⟨k - 1, by omega⟩
    simp only [slices_Reverse_int_int.l0]
    rw [if_neg (by omega), fin x i j hx hij (by omega) h]
  | succ d ih =>
    intro k x i j hx hij hd hk h
    obtain ⟨k, rfl⟩ : ∃ m, k = m + 1 := ⟨k - 1, by omega⟩
    simp only [slices_Reverse_int_int.l0]
    by_cases c : i < j
    · rw [if_pos (by omega), if_pos (by omega), if_pos (by omega), if_pos (by omega), if_pos (by omega), rd_nat, rd_nat, Int.toNat_natCast, Int.toNat_natCast, wid (by omega) (by omega), wid (by omega) (by omega)]
      have e1 : ((i : Int) + 1) = ((i + 1 : Nat) : Int) := by omega
      have e2 : ((j : Int) - 1) = ((j - 1 : Nat) : Int) := by omega
      rw [e1, e2]
      show slices_Reverse_int_int.l0 k (sw x i j) _ _ = _
      refine ih k (sw x i j) (i + 1) (j - 1) (by rw [sw_len]; exact hx) (by omega) (by omega) (by omega) (fun t ht => ?_)
      rw [sw_G (by omega) (by omega)]
      by_cases c1 : t = j
      · subst c1
        rw [if_pos rfl, if_pos (by omega), h i (by omega), if_neg (by omega)]
        congr 1
        omega
      · rw [if_neg c1]
        by_cases c2 : t = i
        · subst c2
          rw [if_pos rfl, if_pos (by omega), h j (by omega), if_neg (by omega)]
          congr 1
          omega
        · rw [if_neg c2, h t ht]
          by_cases c3 : t < i ∨ j < t
          · rw [if_pos c3, if_pos (by omega)]
          · rw [if_neg c3, if_neg (by omega)]
    · rw [if_neg (by omega), fin x i j hx hij (by omega) h]

theorem turned_ok (l : List Int) (hl : l.length ≤ 1000) (k : Nat) (hk : l.length + 2 < k) : order_Turned.f k l = some l.reverse := by
  unfold order_Turned.f slices_Clone_int_int.f slices_Reverse_int_int.f
  rw [if_pos (by omega)]
  simp only [Option.bind_some]
  have : slices_Reverse_int_int.l0 k l 0 (wrap64 ((l.length : Int) - 1)) = some l.reverse := by
    rw [wid (by omega) (by omega)]
    by_cases c : l.length = 0
    · have : l = [] := List.length_eq_zero_iff.1 c
      subst this
      obtain ⟨k, rfl⟩ : ∃ m, k = m + 1 := ⟨k - 1, by omega⟩
      simp only [slices_Reverse_int_int.l0]
      rw [if_neg (by decide)]
      rfl
    · rw [show ((l.length : Int) - 1) = ((l.length - 1 : Nat) : Int) by omega]
      exact reverse_l0 l hl l.length k l 0 (l.length - 1) rfl (by omega) (by omega) (by omega) (fun t ht => by rw [if_neg (by omega)])
  rw [this]
  rfl

/-! ### which locks -/
/-- One more number: above 0, and not the last one again. -/
def lk (out : List Int) (v : Int) : List Int := if v > 0 ∧ out.getLast? ≠ some v then out ++ [v] else out

theorem last_G {out : List Int} (h : out.length ≠ 0) : out.getLast? = some (G out (out.length - 1)) := by
  rw [List.getLast?_eq_getElem?, List.getElem?_eq_getElem (by omega), G_get]

theorem lk_len (out : List Int) (v : Int) : (lk out v).length ≤ out.length + 1 := by
  unfold lk; split <;> simp

theorem locks_l0 (s : List Int) (hs : s.length ≤ 1000) : ∀ (d k : Nat) (out : List Int) (i : Nat), i ≤ s.length → s.length - i ≤ d → out.length ≤ i → d < k → order_Locks.l0 k out s (s.length : Int) (i : Int) = some ((s.drop i).foldl lk out) := by
  intro d
  induction d with
  | zero =>
    intro k out i hi hd ho hk
    obtain ⟨k, rfl⟩ : ∃ m, k = m + 1 := ⟨k - 1, by omega⟩
    simp only [order_Locks.l0]
    rw [if_neg (by omega), List.drop_eq_nil_of_le (by omega)]
    rfl
  | succ d ih =>
    intro k out i hi hd ho hk
    obtain ⟨k, rfl⟩ : ∃ m, k = m + 1 := ⟨k - 1, by omega⟩
    simp only [order_Locks.l0]
    by_cases c : i < s.length
    · rw [if_pos (by omega), if_pos (by omega), if_pos (by omega), rd_nat, wid (x := (i : Int) + 1) (by omega) (by omega), drop_G c, List.foldl_cons]
      have e1 : ((i : Int) + 1) = ((i + 1 : Nat) : Int) := by omega
      rw [e1]
      have stay : order_Locks.l0 k out s (s.length : Int) ((i + 1 : Nat) : Int) = some ((s.drop (i + 1)).foldl lk out) := ih k out (i + 1) (by omega) (by omega) (by omega) (by omega)
      have more : order_Locks.l0 k (out ++ [G s i]) s (s.length : Int) ((i + 1 : Nat) : Int) = some ((s.drop (i + 1)).foldl lk (out ++ [G s i])) := ih k (out ++ [G s i]) (i + 1) (by omega) (by omega) (by simp; omega) (by omega)
      rw [stay, more, if_pos (show out.length < 17592186044416 by omega)]
      unfold lk
      by_cases c1 : G s i > 0
      · rw [if_pos c1]
        by_cases c2 : out.length = 0
        · rw [if_pos (by omega), if_pos]
          have : out = [] := List.length_eq_zero_iff.1 c2
          subst this
          exact ⟨c1, by simp⟩
        · rw [if_neg (by omega), wid (by omega) (by omega), if_pos (by omega), if_pos (by omega), show ((out.length : Int) - 1) = ((out.length - 1 : Nat) : Int) by omega, rd_nat, last_G c2]
          by_cases c3 : G out (out.length - 1) = G s i
          · rw [if_pos c3, if_neg (fun h => h.2 (by rw [c3]))]
          · rw [if_neg c3, if_pos ⟨c1, fun h => c3 (Option.some.inj h)⟩]
      · rw [if_neg c1, if_neg (fun h => c1 h.1)]
    · rw [if_neg (by omega), List.drop_eq_nil_of_le (by omega)]
      rfl

theorem ref_locks_l0 (s : List Int) (hs : s.length ≤ 1000) : ∀ (d k : Nat) (out : List Int) (i : Nat), i ≤ s.length → s.length - i ≤ d → out.length ≤ i → d < k → handoffref03_Locks.l0 k out s (s.length : Int) (i : Int) = some ((s.drop i).foldl lk out) := by
  intro d
  induction d with
  | zero =>
    intro k out i hi hd ho hk
    obtain ⟨k, rfl⟩ : ∃ m, k = m + 1 := ⟨k - 1, by omega⟩
    simp only [handoffref03_Locks.l0]
    rw [if_neg (by omega), List.drop_eq_nil_of_le (by omega)]
    rfl
  | succ d ih =>
    intro k out i hi hd ho hk
    obtain ⟨k, rfl⟩ : ∃ m, k = m + 1 := ⟨k - 1, by omega⟩
    simp only [handoffref03_Locks.l0]
    by_cases c : i < s.length
    · rw [if_pos (by omega), if_pos (by omega), if_pos (by omega), rd_nat, wid (x := (i : Int) + 1) (by omega) (by omega), drop_G c, List.foldl_cons]
      have e1 : ((i : Int) + 1) = ((i + 1 : Nat) : Int) := by omega
      rw [e1]
      have stay : handoffref03_Locks.l0 k out s (s.length : Int) ((i + 1 : Nat) : Int) = some ((s.drop (i + 1)).foldl lk out) := ih k out (i + 1) (by omega) (by omega) (by omega) (by omega)
      have more : handoffref03_Locks.l0 k (out ++ [G s i]) s (s.length : Int) ((i + 1 : Nat) : Int) = some ((s.drop (i + 1)).foldl lk (out ++ [G s i])) := ih k (out ++ [G s i]) (i + 1) (by omega) (by omega) (by simp; omega) (by omega)
      rw [stay, more, if_pos (show out.length < 17592186044416 by omega)]
      unfold lk
      by_cases c1 : G s i > 0
      · rw [if_neg (by omega)]
        by_cases c2 : out.length = 0
        · rw [if_neg (by omega), if_pos]
          have : out = [] := List.length_eq_zero_iff.1 c2
          subst this
          exact ⟨c1, by simp⟩
        · rw [if_pos (by omega), wid (by omega) (by omega), if_pos (by omega), if_pos (by omega), show ((out.length : Int) - 1) = ((out.length - 1 : Nat) : Int) by omega, rd_nat, last_G c2]
          by_cases c3 : G out (out.length - 1) = G s i
          · rw [if_pos c3, if_neg (fun h => h.2 (by rw [c3]))]
          · rw [if_neg c3, if_pos ⟨c1, fun h => c3 (Option.some.inj h)⟩]
      · rw [if_pos (by omega), if_neg (fun h => c1 h.1)]
    · rw [if_neg (by omega), List.drop_eq_nil_of_le (by omega)]
      rfl

/-- They rise, from 1 on. -/
theorem lk_rise (s : List Int) : ∀ (out : List Int), s.Pairwise (· ≤ ·) → out.Pairwise (· < ·) → (∀ a ∈ out, 1 ≤ a ∧ ∀ b ∈ s, a ≤ b) → (s.foldl lk out).Pairwise (· < ·) ∧ ∀ a ∈ s.foldl lk out, 1 ≤ a := by
  induction s with
  | nil => intro out _ ho h; exact ⟨ho, fun a ha => (h a ha).1⟩
  | cons v s ih =>
    intro out hs ho h
    rw [List.pairwise_cons] at hs
    rw [List.foldl_cons]
    refine ih (lk out v) hs.2 ?_ ?_
    · unfold lk
      split
      · rename_i hc
        rw [List.pairwise_append]
        refine ⟨ho, by simp, fun a ha b hb => ?_⟩
        rw [List.mem_singleton.1 hb]
        have h1 := (h a ha).2 v List.mem_cons_self
        rcases Int.lt_or_eq_of_le h1 with h2 | h2
        · exact h2
        · exfalso
          subst h2
          obtain ⟨i, hi, rfl⟩ := G_eq_of_mem ha
          have hne : out.length ≠ 0 := by omega
          rw [last_G hne] at hc
          have hlast := (h _ (G_mem (show out.length - 1 < out.length by omega))).2 _ List.mem_cons_self
          have : G out i ≠ G out (out.length - 1) := fun e => hc.2 (by rw [e])
          have hlt : i < out.length - 1 := by
            rcases Nat.lt_or_ge i (out.length - 1) with h3 | h3
            · exact h3
            · exfalso; apply this; congr 1; omega
          rw [List.pairwise_iff_getElem] at ho
          have := ho i (out.length - 1) hi (by omega) hlt
          rw [G_get, G_get] at this
          omega
      · exact ho
    · intro a ha
      have : a ∈ out ∨ (a = v ∧ v > 0) := by
        unfold lk at ha
        split at ha
        · rename_i hc
          rcases List.mem_append.1 ha with h1 | h1
          · exact .inl h1
          · exact .inr ⟨List.mem_singleton.1 h1, hc.1⟩
        · exact .inl ha
      rcases this with h1 | ⟨rfl, h1⟩
      · exact ⟨(h a h1).1, fun b hb => (h a h1).2 b (List.mem_cons_of_mem _ hb)⟩
      · exact ⟨by omega, hs.1⟩
end Go.Proofs.Ytifajoehlgdgaaa.PureOrderX
