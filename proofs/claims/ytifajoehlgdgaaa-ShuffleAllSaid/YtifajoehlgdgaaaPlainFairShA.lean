/- Each one alike: of all orders of up to six numbers, each that may be is the first of just as many. -/
import Derived.Test.YtifajoehlgdgaaaPShAx
import Derived.Test.YtifajoehlgdgaaaPlainFairDShA
namespace Go.Proofs.Ytifajoehlgdgaaa.PlainFairShA
open Go.RowKit Go.Proofs.YtifajoehlgdgaaaW.PrintWords Go.Proofs.Ytifajoehlgdgaaa.Plain Go.Proofs.Ytifajoehlgdgaaa.PlainShA Go.Proofs.Ytifajoehlgdgaaa.PShA

theorem all_ok (n : Nat) (hn : n ≤ 6) (k : Nat) (hk : 1200 ≤ k) : handoffref02_All.f k (n : Int) = some (allF n) := by
  refine at_rounds (fun k => handoffref02_All.mono _ k) hk ?_
  by_cases h : n < 6
  · exact all_small ⟨n, h⟩
  · obtain rfl : n = 6 := by omega
    exact all_six

theorem all_row : ∀ (n : Nat), ∀ l ∈ allF n, l.length = n
  | 0, l, h => by simp [allF] at h; simp [h]
  | n + 1, l, h => by
    simp only [allF, List.mem_flatMap, List.mem_map] at h
    obtain ⟨a, ha, d, _, rfl⟩ := h
    simp [all_row n a ha]

def pack : Option Int → Int × Bool
  | some x => (x, true)
  | none => (0, false)

theorem firstF_some (may : List Bool) : ∀ (o : List Int) (x : Int), firstF may o = some x → 0 ≤ x ∧ x < (may.length : Int)
  | [], x, h => by simp [firstF] at h
  | y :: r, x, h => by
    unfold firstF at h
    split at h
    · rename_i hy
      have := Option.some.inj h
      subst this
      exact ⟨hy.1, hy.2.1⟩
    · exact firstF_some may r x h

theorem firstF_cons (may : List Bool) (x : Int) (r : List Int) : firstF may (x :: r) = if 0 ≤ x ∧ x < (may.length : Int) ∧ may.getD x.toNat false = true then some x else firstF may r := rfl

theorem first_l0 (may : List Bool) (o : List Int) (ho : o.length ≤ 900) : ∀ (d k i : Nat), i ≤ o.length → o.length - i ≤ d → d < k → shuffle_First.l0 k may o (o.length : Int) (i : Int) = some (pack (firstF may (o.drop i))) := by
  intro d
  induction d with
  | zero =>
    intro k i hi hd hk
    obtain ⟨k, rfl⟩ : ∃ m, k = m + 1 := ⟨k - 1, by omega⟩
    simp only [shuffle_First.l0]
    rw [if_neg (by omega), List.drop_of_length_le (by omega)]
    rfl
  | succ d ih =>
    intro k i hi hd hk
    obtain ⟨k, rfl⟩ : ∃ m, k = m + 1 := ⟨k - 1, by omega⟩
    simp only [shuffle_First.l0]
    by_cases c : i < o.length
    · have hw : wrap64 ((i : Int) + 1) = ((i + 1 : Nat) : Int) := by unfold wrap64; omega
      have hr : rd o (i : Int) = G o i := rd_nat o i
      have h2 := ih k (i + 1) (by omega) (by omega) (by omega)
      rw [if_pos (by omega), if_pos (by omega), if_pos (by omega), hr, hw, h2, drop_G c, firstF_cons]
      by_cases c0 : G o i ≥ 0
      · rw [if_pos c0]
        by_cases c1 : G o i < (may.length : Int)
        · rw [if_pos c1, if_pos (by omega)]
          by_cases c2 : may.getD (G o i).toNat false = true
          · rw [if_pos (show rdOf false may (G o i) = true from c2), if_pos ⟨c0, c1, c2⟩]
            rfl
          · rw [if_neg (show ¬ rdOf false may (G o i) = true from c2), if_neg (fun h => c2 h.2.2)]
        · rw [if_neg c1, if_neg (fun h => c1 h.2.1)]
      · rw [if_neg c0, if_neg (fun h => c0 h.1)]
    · rw [if_neg (by omega), List.drop_of_length_le (by omega)]
      rfl

theorem first_ok (may : List Bool) (o : List Int) (ho : o.length ≤ 900) (k : Nat) (hk : 1000 < k) : shuffle_First.f k o may = some (pack (firstF may o)) := by
  have := first_l0 may o ho o.length k 0 (by omega) (by omega) (by omega)
  rw [List.drop_zero] at this
  exact this

theorem stepW_len (may : List Bool) (ws : List Int) (o : List Int) : (stepW may ws o).length = ws.length := by
  unfold stepW
  split <;> simp

theorem stepW_le (may : List Bool) (ws : List Int) (o : List Int) (n : Int) (h : ∀ j : Nat, 0 ≤ G ws j ∧ G ws j ≤ n) (j : Nat) : 0 ≤ G (stepW may ws o) j ∧ G (stepW may ws o) j ≤ n + 1 := by
  unfold stepW
  split
  · rename_i x hx
    have hrd : rd ws x = G ws x.toNat := by simp [rd, G]
    have h1 := h j
    have h2 := h x.toNat
    by_cases hl : x.toNat < ws.length
    · rw [G_set hl, hrd]
      split <;> omega
    · rw [List.set_eq_of_length_le (by omega)]
      omega
  · have := h j; omega

theorem fair_l1 (may : List Bool) (c : Nat) (rows : List (List Int)) (_hm : may.length ≤ 6) (hr : rows.length ≤ 720) (hl : ∀ l ∈ rows, l.length ≤ 6) (hok : ∀ l ∈ rows, (firstF may (ord l)).isSome = decide ((c : Int) > 0)) :
    ∀ (d k i : Nat) (ws : List Int), i ≤ rows.length → rows.length - i ≤ d → 2 * d + 3000 < k → ws.length = may.length → (∀ j : Nat, 0 ≤ G ws j ∧ G ws j ≤ (i : Int)) →
    ∃ k', 2000 < k' ∧ handofflaw02_ShuffleFair.l1 k may c ws rows (rows.length : Int) (i : Int) = handofflaw02_ShuffleFair.l2 k' may c (((rows.drop i).map ord).foldl (stepW may) ws) may (may.length : Int) 0 := by
  intro d
  induction d with
  | zero =>
    intro k i ws hi hd hk hw hb
    obtain ⟨k, rfl⟩ : ∃ m, k = m + 1 := ⟨k - 1, by omega⟩
    refine ⟨k, by omega, ?_⟩
    simp only [handofflaw02_ShuffleFair.l1]
    rw [if_neg (by omega), List.drop_of_length_le (by omega)]
    rfl
  | succ d ih =>
    intro k i ws hi hd hk hw hb
    obtain ⟨k, rfl⟩ : ∃ m, k = m + 2 := ⟨k - 2, by omega⟩
    by_cases hlt : i < rows.length
    · have hwr : wrap64 ((i : Int) + 1) = ((i + 1 : Nat) : Int) := by unfold wrap64; omega
      have hrd : rd_L1 rows (i : Int) = rows[i] := by unfold rd_L1; simp [List.getD_eq_getElem?_getD, hlt]
      have hmem : rows[i] ∈ rows := List.getElem_mem hlt
      have hrl := hl _ hmem
      obtain ⟨k', hk', he⟩ := ih k (i + 1) (stepW may ws (ord rows[i])) (by omega) (by omega) (by omega) (by rw [stepW_len]; exact hw) (by
        intro j
        have := stepW_le may ws (ord rows[i]) i hb j
        omega)
      refine ⟨k', hk', ?_⟩
      rw [List.drop_eq_getElem_cons hlt, List.map_cons, List.foldl_cons, ← he]
      simp only [handofflaw02_ShuffleFair.l1]
      rw [if_pos (by omega), if_pos (by omega), if_pos (by omega), hrd, order_ok _ (by omega) _ (by omega)]
      simp only [Option.bind_some]
      rw [first_ok may _ (by rw [ord_len]; omega) _ (by omega)]
      simp only [Option.bind_some]
      have hs := hok _ hmem
      cases hf : firstF may (ord rows[i]) with
      | none =>
        rw [hf] at hs
        simp only [Option.isSome_none] at hs
        simp only [pack, ← hs, bne_self_eq_false, handofflaw02_ShuffleFair.j2]
        simp only [Bool.false_eq_true, if_false, hwr]
        rw [show stepW may ws (ord rows[i]) = ws by unfold stepW; rw [hf]]
      | some x =>
        rw [hf] at hs
        simp only [Option.isSome_some] at hs
        obtain ⟨x0, x1⟩ := firstF_some may _ x hf
        have hrx : rd ws x = G ws x.toNat := by simp [rd, G]
        have hbx := hb x.toNat
        have hwx : wrap64 (rd ws x + 1) = rd ws x + 1 := by rw [hrx]; unfold wrap64; omega
        show (if (true != decide ((c : Int) > 0)) = true then handofflaw02_ShuffleFair.j2 (k + 1) may c ws x true rows rows.length i true else (if true = true then (if x < 0 then handofflaw02_ShuffleFair.j2 (k + 1) may c ws x true rows rows.length i true else handofflaw02_ShuffleFair.j2 (k + 1) may c ws x true rows rows.length i (decide (x ≥ (may.length : Int)))) else handofflaw02_ShuffleFair.j2 (k + 1) may c ws x true rows rows.length i false)) = _
        rw [← hs, if_neg (by simp), if_pos rfl, if_neg (by omega), decide_eq_false (by omega)]
        simp only [handofflaw02_ShuffleFair.j2, Bool.false_eq_true, if_false, if_true, hwr]
        rw [if_pos (by omega), if_pos (by omega), hwx]
        rw [show stepW may ws (ord rows[i]) = ws.set x.toNat (rd ws x + 1) by unfold stepW; rw [hf]]
    · obtain ⟨k', hk', he⟩ : ∃ k', 2000 < k' ∧ handofflaw02_ShuffleFair.l1 (k + 2) may c ws rows (rows.length : Int) (i : Int) = handofflaw02_ShuffleFair.l2 k' may c ws may (may.length : Int) 0 := by
        refine ⟨k + 1, by omega, ?_⟩
        simp only [handofflaw02_ShuffleFair.l1]
        rw [if_neg (by omega)]
      refine ⟨k', hk', ?_⟩
      rw [he, List.drop_of_length_le (by omega)]
      rfl

theorem fair_l2 (may : List Bool) (c : Nat) (ws : List Int) (hm : may.length ≤ 6) (hw : ws.length = may.length) (hc : ∀ j, j < may.length → may.getD j false = true → 0 < c) (hq : ∀ j, j < may.length → G ws j = if may.getD j false = true then Int.tdiv (fact may.length) c else 0) (hsm : 0 ≤ Int.tdiv (fact may.length) c ∧ Int.tdiv (fact may.length) c ≤ 1000) :
    ∀ (d k i : Nat), i ≤ may.length → may.length - i ≤ d → d + 200 < k → handofflaw02_ShuffleFair.l2 k may c ws may (may.length : Int) (i : Int) = some true := by
  intro d
  induction d with
  | zero =>
    intro k i hi hd hk
    obtain ⟨k, rfl⟩ : ∃ m, k = m + 1 := ⟨k - 1, by omega⟩
    simp only [handofflaw02_ShuffleFair.l2]
    rw [if_neg (by omega)]
  | succ d ih =>
    intro k i hi hd hk
    obtain ⟨k, rfl⟩ : ∃ m, k = m + 1 := ⟨k - 1, by omega⟩
    simp only [handofflaw02_ShuffleFair.l2]
    by_cases hlt : i < may.length
    · have hwr : wrap64 ((i : Int) + 1) = ((i + 1 : Nat) : Int) := by unfold wrap64; omega
      have h2 := ih k (i + 1) (by omega) (by omega) (by omega)
      have h3 := hq i hlt
      have hbt : rdOf false may (i : Int) = may.getD i false := by unfold rdOf; rw [Int.toNat_natCast]
      rw [if_pos (by omega), if_pos (by omega), if_pos (by omega), hbt, rd_nat, hwr, h2]
      by_cases hb : may.getD i false = true
      · have hcp := hc i hlt hb
        rw [if_pos hb] at h3 ⊢
        rw [at_rounds (fun k => shuffle_Count.mono _ k) (show 100 ≤ k by omega) (count_small ⟨may.length, by omega⟩)]
        simp only [Option.bind_some]
        rw [if_neg (by omega), if_pos (by omega), h3, show wrap64 (Int.tdiv (fact may.length) c) = Int.tdiv (fact may.length) c by unfold wrap64; omega, if_pos rfl]
      · rw [if_neg hb] at h3 ⊢
        rw [if_pos (by omega), h3, if_pos rfl]
    · rw [if_neg (by omega)]

end Go.Proofs.Ytifajoehlgdgaaa.PlainFairShA
