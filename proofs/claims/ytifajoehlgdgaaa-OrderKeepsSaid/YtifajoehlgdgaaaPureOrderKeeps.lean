/- OrderKeeps: sorted, each number is there as often as it was; from its end on it is a heap; sorted again it stays. -/
import Derived.Test.YtifajoehlgdgaaaPOrderx
import Derived.Test.YtifajoehlgdgaaaPureOrderX
namespace Go.Proofs.Ytifajoehlgdgaaa.Pure
open Go.RowKit Go.Proofs.YtifajoehlgdgaaaW.PrintWords Go.Proofs.Ytifajoehlgdgaaa.Plain Go.Proofs.Ytifajoehlgdgaaa.PlainOrder Go.Proofs.Ytifajoehlgdgaaa.PureOrderX Go.Proofs.Ytifajoehlgdgaaa.POrder

theorem count_drop {l : List Int} {v : Int} {i : Nat} (h : i < l.length) : (l.drop i).count v = (l.drop (i + 1)).count v + if G l i = v then 1 else 0 := by
  rw [drop_G h, List.count_cons]
  simp

theorem keeps_l1 (l was s : List Int) (v : Int) (hl : s.length ≤ 1000) (r : Option Bool) :
    ∀ (d k i : Nat) (n : Int), i ≤ s.length → s.length - i ≤ d → d + 2000000 < k → 0 ≤ n → n ≤ 1000 → n = ((s.drop i).count v : Int) →
      (∀ k, 1010000 < k → (if (0 : Int) = 0 then (if (s.length : Int) = (l.length : Int) then ((order_Turned.f k s).bind fun t169 => ((order_Heap.f k t169).bind fun t172 => (if t172 = true then ((handoffref02_Same.f k l was).bind fun t173 => (if t173 = true then ((order_Sort.f k s).bind fun t174 => ((handoffref02_Same.f k t174 s).bind fun t177 => (some t177))) else (some false))) else (some false)))) else (some false)) else (some false)) = r) →
      handofflaw03_OrderKeeps.l1 k l v was s n s (s.length : Int) (i : Int) = r := by
  intro d
  induction d with
  | zero =>
    intro k i n hi hd hk h0 h1 hn h
    obtain ⟨k, rfl⟩ : ∃ m, k = m + 1 := ⟨k - 1, by omega⟩
    rw [List.drop_eq_nil_of_le (by omega)] at hn
    have : n = 0 := by simpa using hn
    subst this
    simp only [handofflaw03_OrderKeeps.l1]
    rw [if_neg (by omega)]
    exact h k (by omega)
  | succ d ih =>
    intro k i n hi hd hk h0 h1 hn h
    obtain ⟨k, rfl⟩ : ∃ m, k = m + 1 := ⟨k - 1, by omega⟩
    by_cases c : i < s.length
    · have hc := count_drop (v := v) c
      have hle : (s.drop (i + 1)).count v ≤ 1000 := Nat.le_trans List.count_le_length (by rw [List.length_drop]; omega)
      simp only [handofflaw03_OrderKeeps.l1]
      rw [if_pos (by omega), if_pos (by omega), if_pos (by omega), rd_nat, wid (x := (i : Int) + 1) (by omega) (by omega), show ((i : Int) + 1) = ((i + 1 : Nat) : Int) by omega, wid (x := n - 1) (by omega) (by omega)]
      by_cases e : G s i = v
      · rw [if_pos e] at hc
        rw [if_pos e]
        exact ih k (i + 1) (n - 1) (by omega) (by omega) (by omega) (by omega) (by omega) (by omega) h
      · rw [if_neg e] at hc
        rw [if_neg e]
        exact ih k (i + 1) n (by omega) (by omega) (by omega) h0 h1 (by omega) h
    · rw [List.drop_eq_nil_of_le (by omega)] at hn
      have : n = 0 := by simpa using hn
      subst this
      simp only [handofflaw03_OrderKeeps.l1]
      rw [if_neg (by omega)]
      exact h k (by omega)

theorem keeps_l0 (l was s : List Int) (v : Int) (hl : l.length ≤ 1000) (r : Option Bool) :
    ∀ (d k i : Nat) (n : Int), i ≤ l.length → l.length - i ≤ d → d + 3000000 < k → 0 ≤ n → n + ((l.drop i).count v : Int) ≤ 1000 →
      (∀ k, 2800000 < k → handofflaw03_OrderKeeps.l1 k l v was s (n + ((l.drop i).count v : Int)) s (s.length : Int) 0 = r) →
      handofflaw03_OrderKeeps.l0 k l v was s n l (l.length : Int) (i : Int) = r := by
  intro d
  induction d with
  | zero =>
    intro k i n hi hd hk h0 h1 h
    obtain ⟨k, rfl⟩ : ∃ m, k = m + 1 := ⟨k - 1, by omega⟩
    rw [List.drop_eq_nil_of_le (by omega)] at h
    simp only [handofflaw03_OrderKeeps.l0]
    rw [if_neg (by omega)]
    simpa using h k (by omega)
  | succ d ih =>
    intro k i n hi hd hk h0 h1 h
    obtain ⟨k, rfl⟩ : ∃ m, k = m + 1 := ⟨k - 1, by omega⟩
    by_cases c : i < l.length
    · have hc := count_drop (v := v) c
      simp only [handofflaw03_OrderKeeps.l0]
      rw [if_pos (by omega), if_pos (by omega), if_pos (by omega), rd_nat, wid (x := (i : Int) + 1) (by omega) (by omega), show ((i : Int) + 1) = ((i + 1 : Nat) : Int) by omega, wid (x := n + 1) (by omega) (by omega)]
      by_cases e : G l i = v
      · rw [if_pos e] at hc
        rw [if_pos e]
        refine ih k (i + 1) (n + 1) (by omega) (by omega) (by omega) (by omega) (by omega) (fun k hk => ?_)
        rw [show n + 1 + ((l.drop (i + 1)).count v : Int) = n + ((l.drop i).count v : Int) by omega]
        exact h k hk
      · rw [if_neg e] at hc
        rw [if_neg e]
        refine ih k (i + 1) n (by omega) (by omega) (by omega) h0 (by omega) (fun k hk => ?_)
        rw [show n + ((l.drop (i + 1)).count v : Int) = n + ((l.drop i).count v : Int) by omega]
        exact h k hk
    · rw [List.drop_eq_nil_of_le (by omega)] at h
      simp only [handofflaw03_OrderKeeps.l0]
      rw [if_neg (by omega)]
      simpa using h k (by omega)

theorem OrderKeeps : handofflaw03_OrderKeeps.Pure := by
  intro l v _ _ _ _
  obtain ⟨K, hK⟩ : ∃ K : Nat, 4000000 ≤ K := ⟨_, Nat.le_refl _⟩
  refine ⟨K, ?_⟩
  unfold handofflaw03_OrderKeeps.f
  rw [alive _ (by omega)]
  simp only [Option.bind_some, if_true, List.length_nil, List.nil_append]
  by_cases c : (l.length : Int) > 200
  · rw [if_pos c]
  · rw [if_neg c, if_pos (by omega)]
    obtain ⟨s, hs, hS⟩ := sort_ok l (by omega) K (by omega)
    have hsl : s.length = l.length := hS.perm.length_eq
    rw [hs]
    simp only [Option.bind_some]
    have hcl : l.count v ≤ l.length := List.count_le_length
    refine keeps_l0 l l s v (by omega) (some true) l.length K 0 0 (Nat.zero_le _) (by omega) (by omega) (by omega) (by simp; omega) (fun k hk => ?_)
    refine keeps_l1 l l s v (by omega) (some true) s.length k 0 _ (Nat.zero_le _) (by omega) (by omega) (by omega) (by simp; omega) (by simp [hS.perm.count_eq]) (fun k hk => ?_)
    rw [if_pos rfl, if_pos (by omega), turned_ok s (by omega) k (by omega)]
    simp only [Option.bind_some]
    obtain ⟨b, h1, _, h2⟩ := heap_ok s.reverse (by simp; omega) k (by simp; omega)
    have hb : b = true := h2.2 (fun j hj1 hj2 => by
      have hd : s.reverse.Pairwise (fun a b => b ≤ a) := List.pairwise_reverse.2 hS.sorted
      rw [List.pairwise_iff_getElem] at hd
      have := hd ((j - 1) / 2) j (by omega) hj2 (by omega)
      rwa [G_get, G_get] at this)
    subst hb
    rw [h1]
    simp only [Option.bind_some, if_true]
    rw [same_ok l l (by omega) k (by omega)]
    simp only [Option.bind_some, decide_true, if_true]
    obtain ⟨s2, e2, hS2⟩ := sort_ok s (by omega) k (by omega)
    have : s2 = s := hS2.one hS hS.perm
    subst this
    rw [e2]
    simp only [Option.bind_some]
    rw [same_ok _ _ (by omega) k (by omega)]
    simp
end Go.Proofs.Ytifajoehlgdgaaa.Pure
