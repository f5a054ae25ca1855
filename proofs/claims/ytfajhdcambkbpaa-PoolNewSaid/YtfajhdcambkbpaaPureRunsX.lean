/- Package pool: the document's answers are the model's. -/
import Derived.Test.YtfajhdcambkbpaaPoolW
import Derived.Test.YtfajhdcambkbpaaPPoolRx2
import Derived.Test.YtfajhdcambkbpaaPPoolRx4
import Derived.Test.YtfajhdcambkbpaaPPoolRx5
namespace Go.Proofs.Ytfajhdcambkbpaa.Pool
open Go.RowKit Go.Proofs.YtfajhdcambkbpaaW.PrintWords Go.Proofs.Ytfajhdcambkbpaa.PPoolR

theorem wrap_last {n : Nat} (h : n ≤ 1000000) : wrap64 ((n : Int) - 1) = (n : Int) - 1 := by unfold wrap64; omega

theorem ref_take_j2 (k : Nat) (g : Int) (own mid : List Int) (size most : Int) (cs : List (List Int)) (m0 : List Int) (fr : Int) : handoffref05_Take.j2 (k + 1) g own mid size most cs m0 fr = handoffref05_Take.j2 1 g own mid size most cs m0 fr := by
  simp only [handoffref05_Take.j2]

theorem ref_take_l0 (g size most : Int) (cs : List (List Int)) (m0 : List Int) (fr : Int) (P : PoolM) (hP : P.most = most) (h1 : 1 ≤ most ∧ most ≤ 16) : ∀ (d k : Nat) (mid own : List Int), mid.length ≤ d → mid.length + own.length ≤ 100000 → d + 1 < k →
    handoffref05_Take.l0 k g own mid size most cs m0 fr = handoffref05_Take.j2 1 g (refill P.lim mid.length mid own).2 (refill P.lim mid.length mid own).1 size most cs m0 fr := by
  have hq : wrap64 (most.tdiv 2) = most / 2 := by rw [Int.tdiv_eq_ediv_of_nonneg (by omega)]; unfold wrap64; omega
  have hlim : P.lim = if most / 2 < 1 then 1 else most / 2 := by unfold PoolM.lim; rw [hP]
  intro d
  induction d with
  | zero =>
    intro k mid own hd hl hk
    obtain ⟨k, rfl⟩ : ∃ m, k = m + 2 := ⟨k - 2, by omega⟩
    have hm : mid = [] := List.length_eq_zero_iff.1 (by omega)
    subst hm
    simp only [handoffref05_Take.l0, List.length_nil]
    rw [if_neg (by omega), ref_take_j2]
    rfl
  | succ d ih =>
    intro k mid own hd hl hk
    obtain ⟨k, rfl⟩ : ∃ m, k = m + 2 := ⟨k - 2, by omega⟩
    by_cases hm : 0 < mid.length
    · have hw := wrap_last (n := mid.length) (by omega)
      have ht : ((mid.length : Int) - 1).toNat = mid.length - 1 := by omega
      by_cases ho : (own.length : Int) < P.lim
      · have hs := refill_step (lim := P.lim) hm ho
        have hi := ih (k + 1) (mid.take (mid.length - 1)) (own ++ [lastI mid]) (by rw [List.length_take]; omega) (by rw [List.length_take, List.length_append, List.length_singleton]; omega) (by omega)
        rw [List.length_take, show min (mid.length - 1) mid.length = mid.length - 1 by omega] at hi
        rw [hs, ← hi]
        simp only [handoffref05_Take.l0]
        rw [hq, hw, ht, if_pos (by omega : (mid.length : Int) > 0)]
        rw [hlim] at ho
        by_cases c : (own.length : Int) < most / 2
        · rw [if_pos c, if_pos (by omega), if_pos (by omega), if_pos (by omega), if_pos (by omega)]
          rfl
        · rw [if_neg c, if_pos (by split at ho <;> omega), if_pos (by omega), if_pos (by omega), if_pos (by omega), if_pos (by omega)]
          rfl
      · rw [refill_stop (fun h => ho h.2)]
        simp only [handoffref05_Take.l0]
        rw [hlim] at ho
        rw [hq, if_pos (by omega : (mid.length : Int) > 0), if_neg (by split at ho <;> omega), if_neg (by split at ho <;> omega), ref_take_j2]
    · have hm0 : mid = [] := List.length_eq_zero_iff.1 (by omega)
      subst hm0
      simp only [handoffref05_Take.l0, List.length_nil]
      rw [if_neg (by omega), ref_take_j2]
      rfl

theorem all_bounds (P : PoolM) (h : P.Right) (g : Nat) : P.middle.length ≤ 64 ∧ (P.caches.getD g []).length ≤ 16 := by
  have h1 := h.all_len
  have h2 := h.fresh
  have h3 := h.size
  have h4 := h.own g
  have h5 := h.most
  simp only [PoolM.all, List.length_append] at h1
  omega

theorem ref_take_no (P : PoolM) (g : Int) (hg : ¬ (0 ≤ g ∧ g < (P.caches.length : Int))) (k : Nat) (size most fr : Int) (mid : List Int) : handoffref05_Take.f (k + 1) size most P.caches mid fr g = some (size, most, P.caches, mid, fr, 0, false) := by
  unfold handoffref05_Take.f
  by_cases c : g < 0
  · rw [if_pos c]; rfl
  · rw [if_neg c, decide_eq_true (show g ≥ (P.caches.length : Int) by omega)]; rfl

theorem ref_with (size most : Int) (cs : List (List Int)) (mid : List Int) (fr : Int) (g : Nat) (l : List Int) (hg : g < cs.length) (hc : cs.length ≤ 8) : handoffref05_with.f size most cs mid fr g l = some (size, most, cs.set g l, mid, fr) := by
  unfold handoffref05_with.f
  simp only [Option.bind_some, List.length_nil, List.nil_append, Int.toNat_natCast]
  rw [if_pos (by omega), if_pos (by omega), if_pos (by omega)]

theorem ref_take (P : PoolM) (h : P.Right) (g : Nat) (hg : g < P.caches.length) (P' : PoolM) (x : Int) (b : Bool) (ht : P.take g = some (P', x, b)) (k : Nat) (hk : 100 < k) :
    handoffref05_Take.f k P.out.length P.most P.caches P.middle P.fresh g = some ((P'.out.length : Int), P'.most, P'.caches, P'.middle, P'.fresh, x, b) := by
  obtain ⟨k, rfl⟩ : ∃ m, k = m + 2 := ⟨k - 2, by omega⟩
  obtain ⟨hb1, hb2⟩ := all_bounds P h g
  have hrd : rd_L1 P.caches g = P.caches.getD g [] := by unfold rd_L1; rw [Int.toNat_natCast]
  have hj : handoffref05_Take.f (k + 2) P.out.length P.most P.caches P.middle P.fresh g = handoffref05_Take.j2 1 g (P.refilled g).2 (P.refilled g).1 P.out.length P.most P.caches P.middle P.fresh := by
    unfold handoffref05_Take.f
    rw [if_neg (by omega), decide_eq_false (show ¬ ((g : Int) ≥ (P.caches.length : Int)) by omega)]
    simp only [handoffref05_Take.j0, Option.bind_some, List.length_nil, List.nil_append, hrd]
    rw [if_neg (by simp), if_pos (by omega), if_pos (by omega), if_pos (by omega), if_pos (by omega)]
    unfold PoolM.refilled
    by_cases c : (P.caches.getD g []).length = 0
    · rw [if_pos (by omega), if_pos c]
      exact ref_take_l0 g P.out.length P.most P.caches P.middle P.fresh P rfl h.most P.middle.length (k + 1) P.middle (P.caches.getD g []) (Nat.le_refl _) (by omega) (by omega)
    · rw [if_neg (by omega), if_neg c]
      exact ref_take_j2 k _ _ _ _ _ _ _ _
  rw [hj]
  have hlen := refilled_len P g
  have hfr := h.fresh
  have hsz := h.size
  unfold PoolM.take at ht
  simp only [handoffref05_Take.j2]
  by_cases c1 : 0 < (P.refilled g).2.length
  · rw [if_pos c1] at ht
    split at ht
    case isFalse => cases ht
    simp only [Option.some.injEq, Prod.mk.injEq] at ht
    obtain ⟨rfl, rfl, rfl⟩ := ht
    have hw := wrap_last (n := (P.refilled g).2.length) (by omega)
    rw [if_pos (by omega), hw, if_pos (by omega), if_pos (by omega), if_pos (by omega), ref_with _ _ _ _ _ g _ hg h.takers]
    simp [PoolM.rows, lastI, show (((P.refilled g).2.length : Int) - 1).toNat = (P.refilled g).2.length - 1 by omega]
  · rw [if_neg c1] at ht
    rw [if_neg (by omega)]
    have hnone : (P.refilled g).2 = [] := List.length_eq_zero_iff.1 (by omega)
    have hmt : P.caches.getD g [] = [] := by
      unfold PoolM.refilled at hnone
      split at hnone
      · exact (refill_none _ (lim_one P) _ _ _ (Nat.le_refl _) hnone).2.1
      · exact hnone
    have hset : P.caches.set g (P.refilled g).2 = P.caches := by
      rw [hnone]
      have h1 := set_self P.caches g hg
      rw [hmt] at h1
      exact h1
    split at ht
    · rename_i c2
      simp only [Option.some.injEq, Prod.mk.injEq] at ht
      obtain ⟨rfl, rfl, rfl⟩ := ht
      have hw1 : wrap64 (P.fresh + 1) = P.fresh + 1 := by unfold wrap64; omega
      have hw2 : wrap64 (P.fresh + 1 - 1) = P.fresh := by unfold wrap64; omega
      rw [if_pos c2, hw1, hw2]
      simp [PoolM.rows, hset]
    · rename_i c2
      simp only [Option.some.injEq, Prod.mk.injEq] at ht
      obtain ⟨rfl, rfl, rfl⟩ := ht
      rw [if_neg c2]
      simp [PoolM.rows, hset]

theorem ref_has_l0 (x : Int) (l : List Int) (hl : l.length ≤ 100000) : ∀ (d k : Nat) (i : Nat), l.length - i ≤ d → i ≤ l.length → d < k → handoffref05_has.l0 k x l (l.length : Int) (i : Int) = some (decide (x ∈ l.drop i)) := by
  intro d
  induction d with
  | zero =>
    intro k i hd hi hk
    obtain ⟨k, rfl⟩ : ∃ m, k = m + 1 := ⟨k - 1, by omega⟩
    simp only [handoffref05_has.l0]
    rw [if_neg (by omega), List.drop_of_length_le (by omega)]
    simp
  | succ d ih =>
    intro k i hd hi hk
    obtain ⟨k, rfl⟩ : ∃ m, k = m + 1 := ⟨k - 1, by omega⟩
    simp only [handoffref05_has.l0]
    by_cases c : (i : Int) < (l.length : Int)
    · have hlt : i < l.length := by omega
      have hrd : rd l (i : Int) = l[i] := by unfold rd; simp [List.getD_eq_getElem?_getD, hlt]
      have hw : wrap64 ((i : Int) + 1) = ((i + 1 : Nat) : Int) := by unfold wrap64; omega
      have hi2 := ih k (i + 1) (by omega) (by omega) (by omega)
      rw [if_pos c, if_pos (by omega), if_pos c, hrd, hw, hi2, List.drop_eq_getElem_cons hlt]
      by_cases e : x = l[i]
      · rw [if_pos e, decide_eq_true (List.mem_cons.2 (.inl e))]
      · rw [if_neg e]
        simp only [List.mem_cons, e, false_or]
    · rw [if_neg c, List.drop_of_length_le (by omega)]
      simp

theorem ref_has (x : Int) (l : List Int) (hl : l.length ≤ 100000) (k : Nat) (hk : l.length < k) : handoffref05_has.f k l x = some (decide (x ∈ l)) := by
  have h := ref_has_l0 x l hl l.length k 0 (by omega) (by omega) hk
  rw [List.drop_zero] at h
  exact h

theorem ref_all_l0 (cs : List (List Int)) (hc : cs.length ≤ 100) : ∀ (d k : Nat) (i : Nat) (acc : List Int), cs.length - i ≤ d → i ≤ cs.length → d < k → acc.length + (cs.drop i).flatten.length ≤ 100000 →
    handoffref05_all.l0 k acc cs (cs.length : Int) (i : Int) = some (acc ++ (cs.drop i).flatten) := by
  intro d
  induction d with
  | zero =>
    intro k i acc hd hi hk hl
    obtain ⟨k, rfl⟩ : ∃ m, k = m + 1 := ⟨k - 1, by omega⟩
    simp only [handoffref05_all.l0]
    rw [if_neg (by omega), List.drop_of_length_le (by omega)]
    simp
  | succ d ih =>
    intro k i acc hd hi hk hl
    obtain ⟨k, rfl⟩ : ∃ m, k = m + 1 := ⟨k - 1, by omega⟩
    simp only [handoffref05_all.l0]
    by_cases c : (i : Int) < (cs.length : Int)
    · have hlt : i < cs.length := by omega
      have hrd : rd_L1 cs (i : Int) = cs[i] := by unfold rd_L1; simp [List.getD_eq_getElem?_getD, hlt]
      have hw : wrap64 ((i : Int) + 1) = ((i + 1 : Nat) : Int) := by unfold wrap64; omega
      rw [List.drop_eq_getElem_cons hlt] at hl ⊢
      simp only [List.flatten_cons, List.length_append] at hl
      have hi2 := ih k (i + 1) (acc ++ cs[i]) (by omega) (by omega) (by omega) (by rw [List.length_append]; omega)
      rw [if_pos c, if_pos (by omega), if_pos c, hrd, if_pos (by omega), hw, hi2, List.flatten_cons, List.append_assoc]
    · rw [if_neg c, List.drop_of_length_le (by omega)]
      simp

theorem ref_all (P : PoolM) (h : P.Right) (k : Nat) (hk : 100 < k) (size most fr : Int) : handoffref05_all.f k size most P.caches P.middle fr = some P.all := by
  have h1 := h.all_len
  have h2 := h.fresh
  have h3 := h.size
  have h4 := h.takers
  have h5 : P.middle.length + P.caches.flatten.length ≤ 64 := by simp only [PoolM.all, List.length_append] at h1; omega
  unfold handoffref05_all.f
  simp only [Option.bind_some, List.length_nil, List.nil_append]
  rw [if_pos (by omega)]
  have h6 := ref_all_l0 P.caches (by omega) P.caches.length k 0 P.middle (by omega) (by omega) (by omega) (by rw [List.drop_zero]; omega)
  rw [List.drop_zero] at h6
  exact h6

theorem ref_live (P : PoolM) (h : P.Right) (x : Int) (k : Nat) (hk : 100 < k) (size most : Int) : handoffref05_Live.f k size most P.caches P.middle P.fresh x = some (P.live x) := by
  have h1 := h.all_len
  have h2 := h.fresh
  have h3 := h.size
  have hl : P.live x = decide (0 ≤ x ∧ x < P.fresh ∧ x ∉ P.all) := by
    cases e : P.live x with
    | true => exact (decide_eq_true ((h.live x).1 e)).symm
    | false => exact (decide_eq_false (fun h4 => by rw [(h.live x).2 h4] at e; cases e)).symm
  rw [hl]
  unfold handoffref05_Live.f
  by_cases c1 : x ≥ 0
  · rw [if_pos c1]
    by_cases c2 : x < P.fresh
    · rw [if_pos c2, ref_all P h k hk]
      simp only [Option.bind_some]
      rw [ref_has x P.all (by omega) k (by omega)]
      simp [c2, show 0 ≤ x from c1]
    · rw [if_neg c2]; simp [c2]
  · rw [if_neg c1]; simp [show ¬ 0 ≤ x from c1]

theorem ref_count (P : PoolM) (h : P.Right) (k : Nat) (hk : 100 < k) (size most : Int) : handoffref05_Count.f k size most P.caches P.middle P.fresh = some P.count := by
  have h1 := h.all_len
  have h2 := h.fresh
  have h3 := h.size
  unfold handoffref05_Count.f
  rw [ref_all P h k hk]
  simp only [Option.bind_some]
  rw [h.count, show wrap64 (P.fresh - (P.all.length : Int)) = P.fresh - (P.all.length : Int) by unfold wrap64; omega]

theorem ref_give_l0 (g : Nat) (x size most : Int) (cs : List (List Int)) (m0 : List Int) (fr : Int) (hg : g < cs.length) (hc : cs.length ≤ 8) (h1 : 1 ≤ most ∧ most ≤ 16) : ∀ (d k : Nat) (mid own : List Int), own.length ≤ d → mid.length + own.length ≤ 100000 → d + 1 < k →
    handoffref05_Give.l0 k g x own mid size most cs m0 fr = some (size, most, cs.set g ((spill (most / 2) own.length mid own).2 ++ [x]), (spill (most / 2) own.length mid own).1, fr, true) := by
  have hq : wrap64 (most.tdiv 2) = most / 2 := by rw [Int.tdiv_eq_ediv_of_nonneg (by omega)]; unfold wrap64; omega
  have stop : ∀ (k : Nat) (mid own : List Int), mid.length + own.length ≤ 100000 → ¬ most / 2 < (own.length : Int) → handoffref05_Give.l0 (k + 1) g x own mid size most cs m0 fr = some (size, most, cs.set g ((spill (most / 2) own.length mid own).2 ++ [x]), (spill (most / 2) own.length mid own).1, fr, true) := by
    intro k mid own hl hs
    rw [spill_stop hs]
    simp only [handoffref05_Give.l0]
    rw [hq, if_neg (by omega), if_pos (by omega), ref_with _ _ _ _ _ g _ hg hc]
    rfl
  intro d
  induction d with
  | zero =>
    intro k mid own hd hl hk
    obtain ⟨k, rfl⟩ : ∃ m, k = m + 1 := ⟨k - 1, by omega⟩
    exact stop k mid own hl (by omega)
  | succ d ih =>
    intro k mid own hd hl hk
    obtain ⟨k, rfl⟩ : ∃ m, k = m + 1 := ⟨k - 1, by omega⟩
    by_cases hs : most / 2 < (own.length : Int)
    · have hst := spill_step (half := most / 2) (mid := mid) (own := own) (by omega) hs
      have hw := wrap_last (n := own.length) (by omega)
      have hi := ih k (mid ++ [lastI own]) (own.take (own.length - 1)) (by rw [List.length_take]; omega) (by rw [List.length_take, List.length_append, List.length_singleton]; omega) (by omega)
      rw [List.length_take, show min (own.length - 1) own.length = own.length - 1 by omega] at hi
      rw [hst, ← hi]
      simp only [handoffref05_Give.l0]
      rw [hq, hw, if_pos (by omega), if_pos (by omega), if_pos (by omega), if_pos (by omega), if_pos (by omega), show ((own.length : Int) - 1).toNat = own.length - 1 by omega]
      rfl
    · exact stop k mid own hl hs

theorem ref_give (P : PoolM) (h : P.Right) (g : Nat) (x : Int) (hg : g < P.caches.length) (hx : P.live x = true) (k : Nat) (hk : 100 < k) :
    handoffref05_Give.f k P.out.length P.most P.caches P.middle P.fresh g x = some (((P.give g x).out.length : Int), P.most, (P.give g x).caches, (P.give g x).middle, P.fresh, true) := by
  obtain ⟨k, rfl⟩ : ∃ m, k = m + 2 := ⟨k - 2, by omega⟩
  obtain ⟨hb1, hb2⟩ := all_bounds P h g
  have hrd : rd_L1 P.caches g = P.caches.getD g [] := by unfold rd_L1; rw [Int.toNat_natCast]
  have hlen := spilled_len P g (by have := h.most; omega)
  unfold handoffref05_Give.f
  rw [if_neg (by omega), if_neg (by omega), ref_live P h x (k + 2) hk, hx]
  simp only [handoffref05_Give.j0, Option.bind_some, List.length_nil, List.nil_append, hrd, Bool.not_true]
  rw [if_neg (by simp), if_pos (by omega), if_pos (by omega), if_pos (by omega), if_pos (by omega)]
  unfold PoolM.give PoolM.spilled
  by_cases c : ((P.caches.getD g []).length : Int) = P.most
  · rw [if_pos c, if_pos c, ref_give_l0 g x P.out.length P.most P.caches P.middle P.fresh hg h.takers h.most (P.caches.getD g []).length (k + 1) P.middle (P.caches.getD g []) (Nat.le_refl _) (by omega) (by omega)]
    simp [PoolM.rows]
  · rw [if_neg c, if_neg c, if_pos (by omega), ref_with _ _ _ _ _ g _ hg h.takers]
    simp [PoolM.rows]

theorem ref_give_no (P : PoolM) (h : P.Right) (g x : Int) (hn : ¬ (0 ≤ g ∧ g < (P.caches.length : Int) ∧ P.live x = true)) (k : Nat) (hk : 100 < k) (size most : Int) :
    handoffref05_Give.f k size most P.caches P.middle P.fresh g x = some (size, most, P.caches, P.middle, P.fresh, false) := by
  obtain ⟨k, rfl⟩ : ∃ m, k = m + 1 := ⟨k - 1, by omega⟩
  unfold handoffref05_Give.f
  by_cases c1 : g < 0
  · rw [if_pos c1]; rfl
  · rw [if_neg c1]
    by_cases c2 : g ≥ (P.caches.length : Int)
    · rw [if_pos c2]; rfl
    · rw [if_neg c2, ref_live P h x (k + 1) hk]
      have hl : P.live x = false := by
        cases e : P.live x with
        | false => rfl
        | true => exact absurd ⟨by omega, by omega, e⟩ hn
      rw [hl]
      rfl
end Go.Proofs.Ytfajhdcambkbpaa.Pool
