/- The document's functions of orders, in plain lists. -/
import Derived.Test.YtifajoehlgdgaaaPShufx
import Derived.Test.YtifajoehlgdgaaaPlainShuf
namespace Go.Proofs.Ytifajoehlgdgaaa.PlainShufR
open Go.RowKit Go.Proofs.YtifajoehlgdgaaaW.PrintWords Go.Proofs.Ytifajoehlgdgaaa.Plain Go.Proofs.Ytifajoehlgdgaaa.PlainShuf Go.Proofs.Ytifajoehlgdgaaa.PShuf

theorem ref_counts_ok (d : Int) {n : Nat} (h : 0 < n) (hn : n ≤ 1000) : handoffref02_counts.f d (n : Int) = some ((cnt d n : Nat) : Int) := by
  unfold handoffref02_counts.f
  have h1 := Int.emod_nonneg d (show (n : Int) ≠ 0 by omega)
  have h2 := Int.emod_lt_of_pos d (show (0 : Int) < (n : Int) by omega)
  have h3 := @tmod_emod d n
  rw [if_neg (by omega), h3]
  unfold cnt
  by_cases c : d < 0 ∧ d % (n : Int) ≠ 0
  · rw [if_pos c, wid (by omega) (by omega), show d % (n : Int) - n + n = d % (n : Int) by omega, Int.tmod_eq_of_lt (by omega) (by omega)]
    congr 1; omega
  · rw [if_neg c, wid (by omega) (by omega)]
    congr 1
    rw [Int.tmod_eq_emod, if_pos (.inl (by omega))]
    rw [Int.add_emod_right, Int.emod_emod]
    omega

theorem ref_order_ok : ∀ (n k : Nat) (ds : List Int), ds.length = n → n ≤ 900 → n < k → handoffref02_Order.f k ds = some (ord ds) := by
  intro n
  induction n with
  | zero =>
    intro k ds h _ hk
    obtain ⟨k, rfl⟩ : ∃ m, k = m + 1 := ⟨k - 1, by omega⟩
    have : ds = [] := List.length_eq_zero_iff.1 h
    subst this
    simp only [handoffref02_Order.f]
    rfl
  | succ n ih =>
    intro k ds h hn hk
    obtain ⟨k, rfl⟩ : ∃ m, k = m + 1 := ⟨k - 1, by omega⟩
    simp only [handoffref02_Order.f]
    have e1 : wrap64 ((ds.length : Int) - 1) = (n : Int) := by rw [wid (by omega) (by omega)]; omega
    have hc := cnt_lt (G ds n) (show 0 < n + 1 by omega)
    have h1 := ih k (ds.take n) (by rw [List.length_take]; omega) (by omega) (by omega)
    have hl : (ord (ds.take n)).length = n := by rw [ord_len, List.length_take]; omega
    rw [e1, if_neg (by omega), if_pos (by omega), if_pos (by omega), Int.toNat_natCast, h1]
    simp only [Option.bind_some]
    rw [if_pos (by omega), if_pos (by omega), rd_nat, show (ds.length : Int) = ((n + 1 : Nat) : Int) by omega, ref_counts_ok _ (by omega) (by omega)]
    simp only [Option.bind_some]
    rw [if_pos (by simp; omega), if_pos (by omega), if_pos (by simp; omega), rd_nat, rd_nat, Int.toNat_natCast]
    congr 1
    have e2 : ds = ds.take n ++ [G ds n] := by
      rw [← take_G (by omega), List.take_of_length_le (by omega)]
    have e3 : ord ds = put (ord (ds.take n)) (G ds n) := by
      conv => lhs; rw [e2]
      exact ord_snoc _ _
    rw [e3]
    unfold put
    rw [hl]
    show sw (ord (ds.take n) ++ [(n : Int)]) (cnt (G ds n) (n + 1)) n = _
    exact sw_comm (by simp; omega) (by simp; omega)

theorem isOrd_count (l : List Int) : IsOrd l ↔ ∀ j : Nat, j < l.length → l.count (j : Int) = 1 := by
  constructor
  · intro h j hj
    rw [h.count_eq, (iota_nodup _).count, if_pos (mem_iota.2 (by omega))]
  · intro h
    refine (perm_of_nodup _ l (iota_nodup _) (fun a ha => ?_) (by rw [iota_len]; exact Nat.le_refl _)).symm
    have h1 := mem_iota.1 ha
    have h2 := h a.toNat (by omega)
    rw [show ((a.toNat : Nat) : Int) = a by omega] at h2
    exact List.count_pos_iff.1 (by omega)

theorem count_drop {l : List Int} {v : Int} {i : Nat} (h : i < l.length) : (l.drop i).count v = (l.drop (i + 1)).count v + if G l i = v then 1 else 0 := by
  rw [drop_G h, List.count_cons]
  simp

theorem ref_is_l1 (l : List Int) (i : Nat) (hs : l.length ≤ 900) (hi : i < l.length) : ∀ (d k j : Nat) (c : Nat), j ≤ l.length → l.length - j ≤ d → d < k → c ≤ j →
    ∃ k', k ≤ k' + d + 1 ∧ handoffref02_Is.l1 k l (i : Int) (c : Int) (l.length : Int) (i : Int) l (l.length : Int) (j : Int) = if c + (l.drop j).count (i : Int) = 1 then handoffref02_Is.l0 k' l (l.length : Int) ((i + 1 : Nat) : Int) else some false := by
  have fin : ∀ (k c : Nat), handoffref02_Is.l1 (k + 1) l (i : Int) (c : Int) (l.length : Int) (i : Int) l (l.length : Int) (l.length : Int) = if c = 1 then handoffref02_Is.l0 k l (l.length : Int) ((i + 1 : Nat) : Int) else some false := by
    intro k c
    simp only [handoffref02_Is.l1]
    rw [if_neg (by omega), wid (by omega) (by omega)]
    by_cases h : c = 1
    · rw [if_pos (by omega), if_pos h]; rfl
    · rw [if_neg (by omega), if_neg h]
  intro d
  induction d with
  | zero =>
    intro k j c hj hd hk hc
    obtain ⟨k, rfl⟩ : ∃ m, k = m + 1 := ⟨k - 1, by omega⟩
    have : j = l.length := by omega
    subst this
    exact ⟨k, by omega, by rw [fin]; simp⟩
  | succ d ih =>
    intro k j c hj hd hk hc
    obtain ⟨k, rfl⟩ : ∃ m, k = m + 1 := ⟨k - 1, by omega⟩
    by_cases c1 : j < l.length
    · have hcd := count_drop (v := (i : Int)) c1
      simp only [handoffref02_Is.l1]
      rw [if_pos (by omega), if_pos (by omega), if_pos (by omega), rd_nat, wid (x := (j : Int) + 1) (by omega) (by omega), wid (x := (c : Int) + 1) (by omega) (by omega), show ((j : Int) + 1) = ((j + 1 : Nat) : Int) by omega, show ((c : Int) + 1) = ((c + 1 : Nat) : Int) by omega]
      by_cases e : G l j = (i : Int)
      · rw [if_pos e] at hcd
        obtain ⟨k', h1, h2⟩ := ih k (j + 1) (c + 1) (by omega) (by omega) (by omega) (by omega)
        refine ⟨k', by omega, ?_⟩
        rw [if_pos e, h2, hcd]
        by_cases h : c + 1 + (l.drop (j + 1)).count (i : Int) = 1
        · rw [if_pos h, if_pos (by omega)]
        · rw [if_neg h, if_neg (by omega)]
      · rw [if_neg e] at hcd
        obtain ⟨k', h1, h2⟩ := ih k (j + 1) c (by omega) (by omega) (by omega) (by omega)
        refine ⟨k', by omega, ?_⟩
        rw [if_neg e, h2, hcd]
        rfl
    · have : j = l.length := by omega
      subst this
      exact ⟨k, by omega, by rw [fin]; simp⟩

theorem ref_is_l0 (l : List Int) (hs : l.length ≤ 900) : ∀ (d k i : Nat), i ≤ l.length → l.length - i ≤ d → 1000 * d < k → ∃ b, handoffref02_Is.l0 k l (l.length : Int) (i : Int) = some b ∧ (b = true ↔ ∀ j : Nat, i ≤ j → j < l.length → l.count (j : Int) = 1) := by
  intro d
  induction d with
  | zero =>
    intro k i hi hd hk
    obtain ⟨k, rfl⟩ : ∃ m, k = m + 1 := ⟨k - 1, by omega⟩
    simp only [handoffref02_Is.l0]
    rw [if_neg (by omega)]
    exact ⟨true, rfl, by simp; intro j h1 h2; omega⟩
  | succ d ih =>
    intro k i hi hd hk
    obtain ⟨k, rfl⟩ : ∃ m, k = m + 1 := ⟨k - 1, by omega⟩
    by_cases c : i < l.length
    · obtain ⟨k', h1, h2⟩ := ref_is_l1 l i hs c l.length k 0 0 (Nat.zero_le _) (by omega) (by omega) (Nat.le_refl _)
      simp only [handoffref02_Is.l0]
      rw [if_pos (by omega)]
      have h2' : handoffref02_Is.l1 k l (i : Int) 0 (l.length : Int) (i : Int) l (l.length : Int) 0 = _ := h2
      rw [h2']
      simp only [Nat.zero_add, List.drop_zero]
      by_cases e : l.count (i : Int) = 1
      · rw [if_pos e]
        obtain ⟨b, hb, hiff⟩ := ih k' (i + 1) (by omega) (by omega) (by omega)
        refine ⟨b, hb, hiff.trans ⟨fun h j h3 h4 => ?_, fun h j h3 h4 => h j (by omega) h4⟩⟩
        by_cases e2 : j = i
        · subst e2; exact e
        · exact h j (by omega) h4
      · rw [if_neg e]
        refine ⟨false, rfl, ?_⟩
        simp only [Bool.false_eq_true, false_iff]
        exact fun h => e (h i (Nat.le_refl _) c)
    · simp only [handoffref02_Is.l0]
      rw [if_neg (by omega)]
      exact ⟨true, rfl, by simp; intro j h1 h2; omega⟩

theorem ref_is_ok (l : List Int) (hs : l.length ≤ 900) (k : Nat) (hk : 900000 < k) : ∃ b, handoffref02_Is.f k l = some b ∧ (b = true ↔ IsOrd l) := by
  obtain ⟨b, hb, hiff⟩ := ref_is_l0 l hs l.length k 0 (Nat.zero_le _) (by omega) (by omega)
  exact ⟨b, hb, hiff.trans ((isOrd_count l).trans ⟨fun h j h1 => h j h1, fun h j h1 => h j h1⟩ |>.symm.symm |> fun t => ⟨fun h => t.2 (fun j hj => h j (Nat.zero_le _) hj), fun h j _ hj => t.1 h j hj⟩)⟩

/-- Where its greatest number stands, and what comes of the rest. -/
theorem ref_draws_l0 (l : List Int) (n : Nat) (hl : l.length = n + 1) (hs : n + 1 ≤ 900) (h : IsOrd l) (r : List Int) (K : Nat) (hrec : ∀ k, K < k → handoffref02_Draws.f k (nx l) = some (r, true)) (hr : r.length ≤ 900) :
    ∀ (d k i : Nat) (x : Int), i ≤ l.length → l.length - i ≤ d → K + d + 1 < k → x = (if pos l (n : Int) < i then ((pos l (n : Int) : Nat) : Int) else 0) →
      handoffref02_Draws.l0 k l (l.length : Int) x l (l.length : Int) (i : Int) = some (r ++ [((pos l (n : Int) : Nat) : Int)], true) := by
  have hm : (n : Int) ∈ l := h.mem_iff.2 (mem_iota.2 (by omega))
  have hp : pos l (n : Int) < l.length := List.idxOf_lt_length_of_mem hm
  have hG : G l (pos l (n : Int)) = (n : Int) := by rw [← G_get hp]; exact List.getElem_idxOf hp
  have hnd := ((isOrd_iff l).1 h).2
  have e1 : wrap64 ((l.length : Int) - 1) = (n : Int) := by rw [wid (by omega) (by omega)]; omega
  have fin : ∀ k, K < k → handoffref02_Draws.l0 (k + 1) l (l.length : Int) ((pos l (n : Int) : Nat) : Int) l (l.length : Int) (l.length : Int) = some (r ++ [((pos l (n : Int) : Nat) : Int)], true) := by
    intro k hk
    simp only [handoffref02_Draws.l0, Option.bind_some, List.nil_append, List.length_nil, Nat.zero_add]
    rw [if_neg (by omega), e1, if_pos (by omega), if_pos (by omega), Int.toNat_natCast, if_pos (by rw [List.length_take]; omega), rd_nat, Int.toNat_natCast]
    have hnx : nx l = (l.take n).set (pos l (n : Int)) (G l n) := by
      unfold nx
      rw [show l.length - 1 = n by omega, List.take_set]
    by_cases c : pos l (n : Int) < n
    · rw [if_pos (by omega), if_pos (by omega), if_pos (by omega), if_pos (by rw [List.length_take]; omega), ← hnx, hrec k hk]
      simp only [Option.bind_some]
      rw [if_pos (by omega)]
    · have e2 : l.take n = nx l := by rw [hnx, List.set_eq_of_length_le (by rw [List.length_take]; omega)]
      rw [if_neg (by omega), e2, hrec k hk]
      simp only [Option.bind_some]
      rw [if_pos (by omega)]
  intro d
  induction d with
  | zero =>
    intro k i x hi hd hk hx
    obtain ⟨k, rfl⟩ : ∃ m, k = m + 1 := ⟨k - 1, by omega⟩
    have : i = l.length := by omega
    subst this
    rw [if_pos hp] at hx
    subst hx
    exact fin k (by omega)
  | succ d ih =>
    intro k i x hi hd hk hx
    obtain ⟨k, rfl⟩ : ∃ m, k = m + 1 := ⟨k - 1, by omega⟩
    by_cases c : i < l.length
    · simp only [handoffref02_Draws.l0]
      rw [if_pos (by omega), if_pos (by omega), if_pos (by omega), rd_nat, e1, wid (x := (i : Int) + 1) (by omega) (by omega), show ((i : Int) + 1) = ((i + 1 : Nat) : Int) by omega]
      by_cases e : G l i = (n : Int)
      · rw [if_pos e]
        have hpi := pos_of hnd c e
        exact ih k (i + 1) _ (by omega) (by omega) (by omega) (by rw [if_pos (by omega), hpi])
      · rw [if_neg e]
        have hpi : pos l (n : Int) ≠ i := fun he => e (by rw [← he]; exact hG)
        refine ih k (i + 1) x (by omega) (by omega) (by omega) (hx.trans ?_)
        by_cases e2 : pos l (n : Int) < i
        · rw [if_pos e2, if_pos (by omega)]
        · rw [if_neg e2, if_neg (by omega)]
    · have : i = l.length := by omega
      subst this
      rw [if_pos hp] at hx
      subst hx
      exact fin k (by omega)

/-- Rounds enough. -/
def FD (n k : Nat) : Prop := 1000 * n + 1000000 < k

theorem ref_draws_of : ∀ (n k : Nat) (l : List Int), l.length = n → n ≤ 900 → IsOrd l → FD n k → handoffref02_Draws.f k l = some (drw n l, true) := by
  intro n
  induction n with
  | zero =>
    intro k l hl _ h hk0
    have hk : 1000000 < k := by unfold FD at hk0; omega
    obtain ⟨k, rfl⟩ : ∃ m, k = m + 1 := ⟨k - 1, by omega⟩
    obtain ⟨b, hb, hiff⟩ := ref_is_ok l (by omega) k (by omega)
    have : b = true := hiff.2 h
    subst this
    simp only [handoffref02_Draws.f]
    rw [hb]
    simp only [Option.bind_some, if_true]
    rw [if_pos (by omega)]
    rfl
  | succ n ih =>
    intro k l hl hn h hk0
    have hk : 1000 * (n + 1) + 1000000 < k := by unfold FD at hk0; omega
    obtain ⟨k, rfl⟩ : ∃ m, k = m + 1 := ⟨k - 1, by omega⟩
    obtain ⟨b, hb, hiff⟩ := ref_is_ok l (by omega) k (by omega)
    have : b = true := hiff.2 h
    subst this
    obtain ⟨hnl, hno⟩ := nx_ord hl h
    simp only [handoffref02_Draws.f]
    rw [hb]
    simp only [Option.bind_some, if_true]
    rw [if_neg (by omega)]
    exact ref_draws_l0 l n hl hn h (drw n (nx l)) (1000 * n + 1000000) (fun k hk => ih k (nx l) hnl (by omega) hno (by unfold FD; omega)) (by rw [drw_len]; omega) l.length k 0 0 (Nat.zero_le _) (by omega) (by omega) (by rw [if_neg (by omega)])

theorem ref_draws_ok (l : List Int) (hs : l.length ≤ 900) (k : Nat) (hk : 2000000 < k) : ∃ b, handoffref02_Is.f k l = some b ∧ (b = true ↔ IsOrd l) ∧ handoffref02_Draws.f k l = some (if b = true then (drw l.length l, true) else ([], false)) := by
  obtain ⟨b, hb, hiff⟩ := ref_is_ok l hs k (by omega)
  refine ⟨b, hb, hiff, ?_⟩
  by_cases c : b = true
  · rw [if_pos c]
    exact ref_draws_of l.length k l rfl hs (hiff.1 c) (by unfold FD; omega)
  · rw [if_neg c]
    obtain ⟨k, rfl⟩ : ∃ m, k = m + 1 := ⟨k - 1, by omega⟩
    obtain ⟨b2, hb2, hiff2⟩ := ref_is_ok l hs k (by omega)
    have : ¬ b2 = true := fun h => c (hiff.2 (hiff2.1 h))
    simp only [handoffref02_Draws.f]
    rw [hb2]
    simp only [Option.bind_some]
    rw [if_neg this]

/-- How many orders there are. -/
theorem counts_small : ∀ m : Fin 21, shuffle_Count.f 100 ((m.val : Nat) : Int) = handoffref02_Count.f 100 ((m.val : Nat) : Int) ∧ (shuffle_Count.f 100 ((m.val : Nat) : Int)).isSome = true := by decide +kernel

theorem count_ok (n : Int) (k : Nat) (hk : 200 < k) : ∃ c, shuffle_Count.f k n = some c ∧ handoffref02_Count.f k n = some c := by
  by_cases h : 0 ≤ n ∧ n ≤ 20
  · obtain ⟨m, hm⟩ : ∃ m : Fin 21, n = ((m.val : Nat) : Int) := ⟨⟨n.toNat, by omega⟩, by simp; omega⟩
    subst hm
    obtain ⟨h1, h2⟩ := counts_small m
    obtain ⟨c, hc⟩ := Option.isSome_iff_exists.1 h2
    exact ⟨c, at_rounds (fun k => shuffle_Count.mono _ k) (by omega) hc, at_rounds (fun k => handoffref02_Count.mono _ k) (by omega) (h1 ▸ hc)⟩
  · refine ⟨0, ?_, ?_⟩
    · obtain ⟨k, rfl⟩ : ∃ m, k = m + 1 := ⟨k - 1, by omega⟩
      unfold shuffle_Count.f
      by_cases h1 : n < 0
      · rw [if_pos h1]; simp [shuffle_Count.j0]
      · rw [if_neg h1, decide_eq_true (show n > 20 by omega)]; simp [shuffle_Count.j0]
    · obtain ⟨k, rfl⟩ : ∃ m, k = m + 2 := ⟨k - 2, by omega⟩
      simp only [handoffref02_Count.f]
      by_cases h1 : n < 0
      · rw [if_pos h1]; simp [handoffref02_Count.j0]
      · rw [if_neg h1, decide_eq_true (show n > 20 by omega)]; simp [handoffref02_Count.j0]
end Go.Proofs.Ytifajoehlgdgaaa.PlainShufR
