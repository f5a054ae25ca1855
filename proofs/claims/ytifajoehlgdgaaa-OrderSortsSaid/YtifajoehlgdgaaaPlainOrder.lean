/- The sort of package order, in plain lists: sinking, sorting; the document's sort; both are the sorted list of the same numbers. -/
import Derived.Test.YtifajoehlgdgaaaPOrderx
import Derived.Test.YtifajoehlgdgaaaPlain
namespace Go.Proofs.Ytifajoehlgdgaaa.PlainOrder
open Go.RowKit Go.Proofs.YtifajoehlgdgaaaW.PrintWords Go.Proofs.Ytifajoehlgdgaaa.Plain Go.Proofs.Ytifajoehlgdgaaa.POrder

/-- Up to n, from lo on, nothing is above its parent, but for the children of 'at'. -/
def HeapEx (x : List Int) (n lo at_ : Nat) : Prop :=
  (∀ i, 0 < i → i < n → lo ≤ (i - 1) / 2 → (i - 1) / 2 ≠ at_ → G x i ≤ G x ((i - 1) / 2)) ∧
  (∀ i, 0 < i → i < n → (i - 1) / 2 = at_ → 0 < at_ → lo ≤ (at_ - 1) / 2 → G x i ≤ G x ((at_ - 1) / 2))

def HeapTo (x : List Int) (n lo : Nat) : Prop := ∀ i, 0 < i → i < n → lo ≤ (i - 1) / 2 → G x i ≤ G x ((i - 1) / 2)

structure Sunk (x y : List Int) (n lo : Nat) : Prop where
  perm : y.Perm x
  len : y.length = x.length
  past : ∀ j, n ≤ j → G y j = G x j
  heap : HeapTo y n lo
  bound : ∀ B, (∀ j, j < n → G x j ≤ B) → ∀ j, j < n → G y j ≤ B

theorem Sunk.of_swap {x y : List Int} {n lo i j : Nat} (hx : n ≤ x.length) (hi : i < n) (hj : j < n) (h : Sunk (sw x i j) y n lo) : Sunk x y n lo where
  perm := h.perm.trans (sw_perm (by omega) (by omega))
  len := by rw [h.len, sw_len]
  past := fun k hk => by rw [h.past k hk, sw_G (by omega) (by omega), if_neg (by omega), if_neg (by omega)]
  heap := h.heap
  bound := fun B hB => h.bound B (fun k hk => by
    rw [sw_G (by omega) (by omega)]
    split
    · exact hB i hi
    · split
      · exact hB j hj
      · exact hB k hk)

theorem heapEx_swap {x : List Int} {n lo at_ next other : Nat} (hx : n ≤ x.length) (hl : lo ≤ at_) (hn : next < n) (hp : (next - 1) / 2 = at_) (h0 : 0 < next)
    (ho : ∀ i, 0 < i → i < n → (i - 1) / 2 = at_ → i ≠ next → i = other) (hbig : other < n → (other - 1) / 2 = at_ → G x other ≤ G x next) (hlt : G x at_ < G x next)
    (h : HeapEx x n lo at_) : HeapEx (sw x at_ next) n lo next := by
  have ha : at_ < next := by omega
  have e := fun k => @sw_G x at_ next (by omega) (by omega) k
  obtain ⟨h1, h2⟩ := h
  constructor
  · intro i i0 hi hlo hne
    rw [e, e]
    by_cases c1 : i = next
    · subst c1
      rw [if_pos rfl, hp, if_neg (by omega), if_pos rfl]
      omega
    · rw [if_neg c1, if_neg hne]
      by_cases c2 : i = at_
      · subst c2
        rw [if_pos rfl, if_neg (by omega)]
        exact h2 next h0 hn hp i0 hlo
      · rw [if_neg c2]
        by_cases c3 : (i - 1) / 2 = at_
        · rw [if_pos c3]
          have := ho i i0 hi c3 c1
          subst this
          exact hbig hi c3
        · rw [if_neg c3]
          exact h1 i i0 hi hlo c3
  · intro i i0 hi hpi _ _
    rw [e, e, hp]
    rw [if_neg (by omega), if_neg (by omega), if_neg (by omega), if_pos rfl]
    have := h1 i i0 hi (by omega) (by omega)
    rw [hpi] at this
    exact this

theorem sink_ok : ∀ (d k : Nat) (x : List Int) (at_ n lo : Nat), n ≤ x.length → at_ < n → x.length < 17592186044416 → n - at_ ≤ d → d < k → lo ≤ at_ → HeapEx x n lo at_ →
    ∃ y, order_sink.l0 k x (at_ : Int) (n : Int) = some y ∧ Sunk x y n lo := by
  intro d
  induction d with
  | zero => intro k x at_ n lo _ h1 _ h2; omega
  | succ d ih =>
    intro k x at_ n lo hx ha hs hd hk hlo H
    obtain ⟨k, rfl⟩ : ∃ m, k = m + 1 := ⟨k - 1, by omega⟩
    simp only [order_sink.l0]
    rw [if_pos ⟨by omega, by omega, by omega, by omega⟩]
    by_cases c0 : n ≤ 2 * at_ + 1
    · rw [if_pos (by omega)]
      exact ⟨x, rfl, List.Perm.refl _, rfl, fun _ _ => rfl, fun i i0 hi hl => H.1 i i0 hi hl (by omega), fun _ h => h⟩
    · rw [if_neg (by omega)]
      -- one round with the child 'next'
      have go : ∀ (next other : Nat), (next = 2 * at_ + 1 ∨ next = 2 * at_ + 2) → next < n →
          (∀ i, 0 < i → i < n → (i - 1) / 2 = at_ → i ≠ next → i = other) → (other < n → (other - 1) / 2 = at_ → G x other ≤ G x next) → order_sink.ch x (at_ : Int) (n : Int) = (next : Int) →
          ∃ y, (if rd x (order_sink.ch x (at_ : Int) (n : Int)) ≤ rd x (at_ : Int) then some x else order_sink.l0 k ((x.set (at_ : Int).toNat (rd x (order_sink.ch x (at_ : Int) (n : Int)))).set (order_sink.ch x (at_ : Int) (n : Int)).toNat (rd x (at_ : Int))) (order_sink.ch x (at_ : Int) (n : Int)) (n : Int)) = some y ∧ Sunk x y n lo := by
        intro next other hb hn ho hbig hch
        have hp : (next - 1) / 2 = at_ := by omega
        rw [hch, rd_nat, rd_nat, Int.toNat_natCast, Int.toNat_natCast]
        show ∃ y, (if G x next ≤ G x at_ then some x else order_sink.l0 k (sw x at_ next) (next : Int) (n : Int)) = some y ∧ Sunk x y n lo
        by_cases c : G x next ≤ G x at_
        · rw [if_pos c]
          refine ⟨x, rfl, List.Perm.refl _, rfl, fun _ _ => rfl, fun i i0 hi hl => ?_, fun _ h => h⟩
          by_cases cp : (i - 1) / 2 = at_
          · rw [cp]
            by_cases ci : i = next
            · subst ci; exact c
            · have := ho i i0 hi cp ci
              subst this
              exact Int.le_trans (hbig hi cp) c
          · exact H.1 i i0 hi hl cp
        · rw [if_neg c]
          obtain ⟨y, hy, hS⟩ := ih k (sw x at_ next) next n lo (by rw [sw_len]; exact hx) hn (by rw [sw_len]; exact hs) (by omega) (by omega) (by omega)
            (heapEx_swap hx hlo hn hp (by omega) ho hbig (by omega) H)
          exact ⟨y, hy, hS.of_swap hx ha hn⟩
      have e2 : (2 * (at_ : Int) + 1 + 1) = ((2 * at_ + 2 : Nat) : Int) := by omega
      have e1 : (2 * (at_ : Int) + 1) = ((2 * at_ + 1 : Nat) : Int) := by omega
      by_cases c3 : 2 * at_ + 2 < n ∧ G x (2 * at_ + 2) > G x (2 * at_ + 1)
      · refine go (2 * at_ + 2) (2 * at_ + 1) (.inr rfl) c3.1 (fun i i0 hi hp hne => by omega) (fun _ _ => by omega) ?_
        unfold order_sink.ch
        rw [e2, e1, rd_nat, rd_nat, if_pos ⟨by omega, c3.2⟩]
      · refine go (2 * at_ + 1) (2 * at_ + 2) (.inl rfl) (by omega) (fun i i0 hi hp hne => by omega) (fun _ _ => by omega) ?_
        unfold order_sink.ch
        rw [e2, e1, rd_nat, rd_nat, if_neg (fun h => c3 ⟨by omega, h.2⟩)]

/-- The second loop: the greatest goes to the end, again and again. -/
theorem sort_l1 : ∀ (n k : Nat) (x : List Int), n < x.length ∨ n = 0 → x.length < 17592186044416 → n + 2 * x.length + 4 < k → HeapTo x (n + 1) 0 →
    (∀ i j, n < j → i < j → j < x.length → G x i ≤ G x j) → ∃ y, order_Sort.l1 k x (n : Int) = some y ∧ y.Perm x ∧ ∀ i j, i < j → j < y.length → G y i ≤ G y j := by
  intro n
  induction n with
  | zero =>
    intro k x hn hs hk hh hd
    obtain ⟨k, rfl⟩ : ∃ m, k = m + 1 := ⟨k - 1, by omega⟩
    simp only [order_Sort.l1]
    rw [if_neg (by omega)]
    exact ⟨x, rfl, List.Perm.refl _, fun i j hij hj => hd i j (by omega) hij hj⟩
  | succ n ih =>
    intro k x hn hs hk hh hd
    obtain ⟨k, rfl⟩ : ∃ m, k = m + 1 := ⟨k - 1, by omega⟩
    have hn' : n + 1 < x.length := by omega
    -- the first is the greatest
    have top : ∀ i, i < n + 2 → G x i ≤ G x 0 := by
      intro i
      induction i using Nat.strongRecOn with
      | _ i ih2 =>
        intro hi
        by_cases c : i = 0
        · subst c; exact Int.le_refl _
        · exact Int.le_trans (hh i (by omega) hi (Nat.zero_le _)) (ih2 ((i - 1) / 2) (by omega) (by omega))
    simp only [order_Sort.l1]
    rw [if_pos (by omega), if_pos (by omega), if_pos (by omega), if_pos (by omega)]
    have e : (x.set (0 : Int).toNat (rd x ((n + 1 : Nat) : Int))).set (((n + 1 : Nat) : Int)).toNat (rd x 0) = sw x 0 (n + 1) := by
      rw [rd_nat, show rd x 0 = G x 0 from rd_nat x 0]; rfl
    rw [e]
    have eg := fun k => @sw_G x 0 (n + 1) (by omega) (by omega) k
    obtain ⟨y, hy, hS⟩ := sink_ok (n + 1) k (sw x 0 (n + 1)) 0 (n + 1) 0 (by rw [sw_len]; omega) (by omega) (by rw [sw_len]; exact hs) (by omega) (by omega) (Nat.le_refl _)
      ⟨fun i i0 hi _ hne => by
        rw [eg, eg, if_neg (by omega), if_neg (by omega), if_neg (by omega), if_neg (by omega)]
        exact hh i i0 (by omega) (Nat.zero_le _), fun i _ _ _ h => by omega⟩
    have hy' : order_sink.f k (sw x 0 (n + 1)) 0 ((n + 1 : Nat) : Int) = some y := hy
    rw [hy']
    simp only [Option.bind_some]
    rw [show wrap64 (((n + 1 : Nat) : Int) - 1) = (n : Int) by rw [wid (by omega) (by omega)]; omega]
    have hly : y.length = x.length := by rw [hS.len, sw_len]
    obtain ⟨z, hz, hp, hsort⟩ := ih k y (by omega) (by omega) (by omega) hS.heap (by
      intro i j hj hij hjl
      have pj : G y j = G (sw x 0 (n + 1)) j := hS.past j (by omega)
      rw [pj, eg]
      by_cases cj : j = n + 1
      · subst cj
        rw [if_pos rfl]
        refine hS.bound (G x 0) (fun t ht => ?_) i (by omega)
        rw [eg, if_neg (by omega)]
        split
        · exact top _ (by omega)
        · exact top _ (by omega)
      · rw [if_neg cj, if_neg (by omega)]
        by_cases ci : i < n + 1
        · refine hS.bound (G x j) (fun t ht => ?_) i ci
          rw [eg, if_neg (by omega)]
          split
          · exact hd _ _ (by omega) (by omega) (by omega)
          · exact hd _ _ (by omega) (by omega) (by omega)
        · rw [hS.past i (by omega), eg]
          by_cases ci2 : i = n + 1
          · rw [if_pos ci2]; exact hd 0 j (by omega) (by omega) (by omega)
          · rw [if_neg ci2, if_neg (by omega)]; exact hd i j (by omega) hij (by omega))
    exact ⟨z, hz, hp.trans (hS.perm.trans (sw_perm (by omega) (by omega))), hsort⟩

/-- The first loop makes a heap. -/
theorem sort_l0 : ∀ (m k : Nat) (x : List Int), m ≤ x.length / 2 → x.length < 17592186044416 → m + 3 * x.length + 8 < k → HeapTo x x.length m →
    ∃ y, order_Sort.l0 k x ((m : Int) - 1) = some y ∧ y.Perm x ∧ ∀ i j, i < j → j < y.length → G y i ≤ G y j := by
  intro m
  induction m with
  | zero =>
    intro k x hm hs hk hh
    obtain ⟨k, rfl⟩ : ∃ m, k = m + 1 := ⟨k - 1, by omega⟩
    simp only [order_Sort.l0]
    rw [if_neg (by omega)]
    by_cases c : x.length = 0
    · obtain ⟨k, rfl⟩ : ∃ m, k = m + 1 := ⟨k - 1, by omega⟩
      simp only [order_Sort.l1]
      rw [wid (by omega) (by omega), if_neg (by omega)]
      exact ⟨x, rfl, List.Perm.refl _, fun i j _ hj => by omega⟩
    · have e : wrap64 ((x.length : Int) - 1) = ((x.length - 1 : Nat) : Int) := by rw [wid (by omega) (by omega)]; omega
      rw [e]
      exact sort_l1 (x.length - 1) k x (by omega) hs (by omega) (by rw [Nat.sub_add_cancel (by omega)]; exact hh) (fun i j h1 h2 h3 => by omega)
  | succ m ih =>
    intro k x hm hs hk hh
    obtain ⟨k, rfl⟩ : ∃ m, k = m + 1 := ⟨k - 1, by omega⟩
    simp only [order_Sort.l0]
    rw [if_pos (by omega), show (((m + 1 : Nat) : Int) - 1) = (m : Int) by omega]
    obtain ⟨y, hy, hS⟩ := sink_ok (x.length - m) k x m x.length m (Nat.le_refl _) (by omega) hs (Nat.le_refl _) (by omega) (Nat.le_refl _)
      ⟨fun i i0 hi hl hne => hh i i0 hi (by omega), fun i i0 hi hp h0 hl => by omega⟩
    have hy' : order_sink.f k x (m : Int) (x.length : Int) = some y := hy
    rw [hy']
    simp only [Option.bind_some]
    rw [show wrap64 ((m : Int) - 1) = (m : Int) - 1 by rw [wid (by omega) (by omega)]]
    obtain ⟨z, hz, hp, hsort⟩ := ih k y (by rw [hS.len]; omega) (by rw [hS.len]; exact hs) (by rw [hS.len]; omega) (by rw [hS.len]; exact hS.heap)
    exact ⟨z, hz, hp.trans hS.perm, hsort⟩

/-- Sorted, and of the same numbers. -/
structure SortOf (s l : List Int) : Prop where
  perm : s.Perm l
  sorted : s.Pairwise (· ≤ ·)

theorem SortOf.one {s t l l' : List Int} (hs : SortOf s l) (ht : SortOf t l') (h : l.Perm l') : s = t :=
  sorted_one hs.sorted ht.sorted (hs.perm.trans (h.trans ht.perm.symm))

theorem sort_ok (l : List Int) (hl : l.length < 17592186044416) (k : Nat) (hk : 4 * l.length + 20 < k) : ∃ s, order_Sort.f k l = some s ∧ SortOf s l := by
  unfold order_Sort.f slices_Clone_int_int.f
  rw [if_pos hl]
  simp only [Option.bind_some]
  have e : wrap64 (wrap64 ((l.length : Int) / 2) - 1) = ((l.length / 2 : Nat) : Int) - 1 := by
    rw [wid (x := (l.length : Int) / 2) (by omega) (by omega), wid (by omega) (by omega)]; omega
  rw [e]
  obtain ⟨y, hy, hp, hs⟩ := sort_l0 (l.length / 2) k l (Nat.le_refl _) (by omega) (by omega) (fun i i0 hi hlo => by omega)
  exact ⟨y, hy, hp, sorted_of_G hs⟩

/-- The document's sort: one more number. -/
theorem ref_l1 (l : List Int) (hl : l.length ≤ 1000) : ∀ (d k : Nat) (out : List Int) (v : Int) (j i : Nat), j ≤ out.length → out.length - j ≤ d → out.length ≤ 1000 → i < l.length → out.Pairwise (· ≤ ·) → (∀ t, t < j → G out t ≤ v) → d < k →
    ∃ out' k', handoffref03_Sort.l1 k out v (j : Int) l (l.length : Int) (i : Int) = handoffref03_Sort.l0 k' out' l (l.length : Int) ((i + 1 : Nat) : Int) ∧ k ≤ k' + d + 1 ∧ out'.Perm (v :: out) ∧ out'.Pairwise (· ≤ ·) := by
  intro d
  induction d with
  | zero =>
    intro k out v j i hj hd ho hi hp hlt hk
    obtain ⟨k, rfl⟩ : ∃ m, k = m + 1 := ⟨k - 1, by omega⟩
    have hj' : j = out.length := by omega
    subst hj'
    simp only [handoffref03_Sort.l1, Option.bind_some]
    rw [if_neg (by omega), if_pos (by omega), if_pos (by omega), if_pos (by simp; omega), if_pos (by simp; omega), if_pos (by simp; omega)]
    rw [wid (by omega) (by omega)]
    refine ⟨out ++ [v], k, by simp, by omega, List.perm_append_singleton v out, ?_⟩
    rw [List.pairwise_append]
    refine ⟨hp, by simp, fun a ha b hb => ?_⟩
    obtain ⟨t, ht, rfl⟩ := G_eq_of_mem ha
    rw [List.mem_singleton.1 hb]
    exact hlt t ht
  | succ d ih =>
    intro k out v j i hj hd ho hi hp hlt hk
    obtain ⟨k, rfl⟩ : ∃ m, k = m + 1 := ⟨k - 1, by omega⟩
    by_cases c : j < out.length
    · by_cases c2 : G out j ≤ v
      · obtain ⟨out', k', he, hk', hpm, hpw⟩ := ih k out v (j + 1) i (by omega) (by omega) ho hi hp (fun t ht => by
          by_cases e : t = j
          · subst e; exact c2
          · exact hlt t (by omega)) (by omega)
        refine ⟨out', k', ?_, by omega, hpm, hpw⟩
        rw [← he]
        simp only [handoffref03_Sort.l1]
        rw [if_pos (by omega), if_pos (by omega), rd_nat, if_pos c2, wid (by omega) (by omega)]
        rfl
      · simp only [handoffref03_Sort.l1, Option.bind_some]
        rw [if_pos (by omega), if_pos (by omega), rd_nat, if_neg c2, if_pos (by omega), if_pos (by simp; omega), if_pos (by simp; omega), if_pos (by simp; omega)]
        rw [wid (by omega) (by omega)]
        refine ⟨out.take j ++ [v] ++ out.drop j, k, by simp, by omega, ?_, ?_⟩
        · rw [List.append_assoc]
          have h1 := @List.perm_middle Int v (out.take j) (out.drop j)
          rw [List.take_append_drop] at h1
          exact h1
        · rw [List.append_assoc, List.pairwise_append]
          refine ⟨hp.sublist (List.take_sublist j out), ?_, ?_⟩
          · rw [List.singleton_append, List.pairwise_cons]
            refine ⟨fun b hb => ?_, hp.sublist (List.drop_sublist j out)⟩
            rw [drop_G c, List.mem_cons] at hb
            rcases hb with rfl | hb
            · omega
            · have h2 := hp.sublist (List.drop_sublist j out)
              rw [drop_G c, List.pairwise_cons] at h2
              have := h2.1 b hb
              omega
          · intro a ha b hb
            obtain ⟨t, ht, he⟩ := List.getElem_of_mem ha
            rw [List.length_take] at ht
            rw [List.getElem_take, G_get (by omega)] at he
            have hav : a ≤ v := by rw [← he]; exact hlt t (by omega)
            rw [List.singleton_append, List.mem_cons] at hb
            rcases hb with rfl | hb
            · exact hav
            · have h2 := hp.sublist (List.drop_sublist j out)
              rw [drop_G c] at hb h2
              rw [List.pairwise_cons] at h2
              rcases List.mem_cons.1 hb with rfl | hb
              · omega
              · have := h2.1 b hb; omega
    · have hj' : j = out.length := by omega
      subst hj'
      simp only [handoffref03_Sort.l1, Option.bind_some]
      rw [if_neg (by omega), if_pos (by omega), if_pos (by omega), if_pos (by simp; omega), if_pos (by simp; omega), if_pos (by simp; omega)]
      rw [wid (by omega) (by omega)]
      refine ⟨out ++ [v], k, by simp, by omega, List.perm_append_singleton v out, ?_⟩
      rw [List.pairwise_append]
      refine ⟨hp, by simp, fun a ha b hb => ?_⟩
      obtain ⟨t, ht, rfl⟩ := G_eq_of_mem ha
      rw [List.mem_singleton.1 hb]
      exact hlt t ht

/-- Rounds enough for d numbers. -/
def Fuel (d k : Nat) : Prop := 1002 * d + 1002 < k

theorem ref_l0 (l : List Int) (hl : l.length ≤ 1000) : ∀ (d k : Nat) (out : List Int) (i : Nat), i ≤ l.length → l.length - i ≤ d → out.length = i → Fuel d k → out.Perm (l.take i) → out.Pairwise (· ≤ ·) →
    ∃ s, handoffref03_Sort.l0 k out l (l.length : Int) (i : Int) = some s ∧ SortOf s l := by
  intro d
  induction d with
  | zero =>
    intro k out i hi hd ho hk0 hp hs
    have hk : 1002 * _ + 1002 < k := hk0
    obtain ⟨k, rfl⟩ : ∃ m, k = m + 1 := ⟨k - 1, by omega⟩
    have : i = l.length := by omega
    subst this
    simp only [handoffref03_Sort.l0]
    rw [if_neg (by omega)]
    exact ⟨out, rfl, by simpa using hp, hs⟩
  | succ d ih =>
    intro k out i hi hd ho hk0 hp hs
    have hk : 1002 * _ + 1002 < k := hk0
    obtain ⟨k, rfl⟩ : ∃ m, k = m + 1 := ⟨k - 1, by omega⟩
    by_cases c : i < l.length
    · simp only [handoffref03_Sort.l0]
      rw [if_pos (by omega), if_pos (by omega), if_pos (by omega), rd_nat]
      obtain ⟨out', k', he, hk', hpm, hpw⟩ := ref_l1 l hl out.length k out (G l i) 0 i (Nat.zero_le _) (by omega) (by omega) c hs (fun t ht => by omega) (by omega)
      have he' : handoffref03_Sort.l1 k out (G l i) 0 l (l.length : Int) (i : Int) = _ := he
      rw [he']
      refine ih k' out' (i + 1) (by omega) (by omega) (by rw [hpm.length_eq, List.length_cons, ho]) (show 1002 * d + 1002 < k' by omega) ?_ hpw
      rw [take_G c]
      exact hpm.trans (((List.Perm.cons _ hp)).trans (List.perm_append_singleton _ _).symm)
    · have : i = l.length := by omega
      subst this
      simp only [handoffref03_Sort.l0]
      rw [if_neg (by omega)]
      exact ⟨out, rfl, by simpa using hp, hs⟩

theorem ref_sort_ok (l : List Int) (hl : l.length ≤ 1000) (k : Nat) (hk : 1003002 < k) : ∃ s, handoffref03_Sort.f k l = some s ∧ SortOf s l := by
  exact ref_l0 l hl l.length k [] 0 (Nat.zero_le _) (Nat.le_refl _) rfl (show 1002 * l.length + 1002 < k by omega) (List.Perm.refl _) List.Pairwise.nil

/-- A comparison of two lists. -/
theorem same_l0 (a b : List Int) (hl : a.length = b.length) (hs : a.length ≤ 17592186044416) : ∀ (d k i : Nat), i ≤ a.length → a.length - i ≤ d → d < k → (∀ j, j < i → G a j = G b j) → handoffref02_Same.l0 k a b (a.length : Int) (i : Int) = some (decide (a = b)) := by
  intro d
  induction d with
  | zero =>
    intro k i hi hd hk he
    obtain ⟨k, rfl⟩ : ∃ m, k = m + 1 := ⟨k - 1, by omega⟩
    simp only [handoffref02_Same.l0]
    rw [if_neg (by omega), decide_eq_true (ext_G hl (fun j hj => he j (by omega)))]
  | succ d ih =>
    intro k i hi hd hk he
    obtain ⟨k, rfl⟩ : ∃ m, k = m + 1 := ⟨k - 1, by omega⟩
    simp only [handoffref02_Same.l0]
    by_cases c : i < a.length
    · rw [if_pos (by omega), if_pos (by omega), if_pos (by omega), if_pos (by omega), rd_nat, rd_nat]
      by_cases e : G a i = G b i
      · rw [if_pos e, wid (by omega) (by omega)]
        exact ih k (i + 1) (by omega) (by omega) (by omega) (fun j hj => by
          by_cases h : j = i
          · subst h; exact e
          · exact he j (by omega))
      · rw [if_neg e, decide_eq_false (fun h => e (by rw [h]))]
    · rw [if_neg (by omega), decide_eq_true (ext_G hl (fun j hj => he j (by omega)))]

theorem same_ok (a b : List Int) (hs : a.length ≤ 17592186044416) (k : Nat) (hk : a.length < k) : handoffref02_Same.f k a b = some (decide (a = b)) := by
  unfold handoffref02_Same.f
  by_cases c : a.length = b.length
  · rw [if_pos (by omega)]
    exact same_l0 a b c hs a.length k 0 (Nat.zero_le _) (by omega) hk (fun j hj => by omega)
  · rw [if_neg (by omega), decide_eq_false (fun h => c (by rw [h]))]

/-- From the end on. -/
theorem ref_turned_l0 (l : List Int) (hl : l.length ≤ 17592186044415) : ∀ (m k : Nat) (out : List Int), m ≤ l.length → out.length + m = l.length → m < k → handoffref03_Turned.l0 k l out ((m : Int) - 1) = some (out ++ (l.take m).reverse) := by
  intro m
  induction m with
  | zero =>
    intro k out _ _ hk
    obtain ⟨k, rfl⟩ : ∃ m, k = m + 1 := ⟨k - 1, by omega⟩
    simp only [handoffref03_Turned.l0]
    rw [if_neg (by omega)]
    simp
  | succ m ih =>
    intro k out hm ho hk
    obtain ⟨k, rfl⟩ : ∃ m, k = m + 1 := ⟨k - 1, by omega⟩
    simp only [handoffref03_Turned.l0]
    rw [show (((m + 1 : Nat) : Int) - 1) = (m : Int) by omega, if_pos (by omega), if_pos (by omega), if_pos (by omega), if_pos (by omega), rd_nat, wid (by omega) (by omega),
      ih k (out ++ [G l m]) (by omega) (by simp; omega) (by omega), take_G (by omega)]
    simp

theorem ref_turned_ok (l : List Int) (hl : l.length ≤ 17592186044415) (k : Nat) (hk : l.length < k) : handoffref03_Turned.f k l = some l.reverse := by
  unfold handoffref03_Turned.f
  rw [wid (by omega) (by omega), ref_turned_l0 l hl l.length k [] (Nat.le_refl _) (by simp) hk]
  simp

end Go.Proofs.Ytifajoehlgdgaaa.PlainOrder
