/- Package pool: what holds of a pool at all times: plain. -/
import Derived.Test.YtfajhdcambkbpaaPoolC
namespace Go.Proofs.Ytfajhdcambkbpaa.Pool
open Go.RowKit Go.Proofs.YtfajhdcambkbpaaW.PrintWords

/-- All things that are in a cache or in the middle. -/
def PoolM.all (P : PoolM) : List Int := P.middle ++ P.caches.flatten

structure PoolM.Right (P : PoolM) : Prop where
  most : 1 ≤ P.most ∧ P.most ≤ 16
  takers : P.caches.length ≤ 8
  size : P.out.length ≤ 64
  fresh : 0 ≤ P.fresh ∧ P.fresh ≤ P.out.length
  nodup : P.all.Nodup
  small : ∀ x ∈ P.all, 0 ≤ x ∧ x < P.fresh
  live : ∀ x, P.live x = true ↔ (0 ≤ x ∧ x < P.fresh ∧ x ∉ P.all)
  count : P.count = P.fresh - P.all.length
  own : ∀ g, ((P.caches.getD g []).length : Int) ≤ P.most

theorem flat_set : ∀ (cs : List (List Int)) (g : Nat) (own : List Int), g < cs.length → (cs.set g own).flatten.Perm (own ++ (cs.set g []).flatten)
  | [], _, _, h => absurd h (Nat.not_lt_zero _)
  | c :: cs, 0, own, _ => by simp
  | c :: cs, g + 1, own, h => by
    have ih := flat_set cs g own (by simpa using h)
    simp only [List.set_cons_succ, List.flatten_cons]
    refine (ih.append_left c).trans ?_
    rw [← List.append_assoc, ← List.append_assoc]
    exact List.Perm.append_right _ List.perm_append_comm

theorem set_self {α : Type} (cs : List (List α)) (g : Nat) (hg : g < cs.length) : cs.set g (cs.getD g []) = cs := by
  apply List.ext_getElem?
  intro i
  rw [List.getElem?_set]
  by_cases e : g = i
  · subst e; rw [if_pos rfl, if_pos hg]; simp [List.getD_eq_getElem?_getD, hg]
  · rw [if_neg e]

/-- What is kept besides one cache and the middle. -/
def PoolM.rest (P : PoolM) (g : Nat) : List Int := (P.caches.set g []).flatten

theorem all_rows (P : PoolM) (g : Nat) (mid own : List Int) (hg : g < P.caches.length) : (P.rows g mid own).all.Perm ((mid ++ own) ++ P.rest g) := by
  unfold PoolM.all PoolM.rows PoolM.rest
  rw [List.append_assoc]
  exact (flat_set P.caches g own hg).append_left mid

theorem all_here (P : PoolM) (g : Nat) (hg : g < P.caches.length) : P.all.Perm ((P.middle ++ P.caches.getD g []) ++ P.rest g) := by
  have h := all_rows P g P.middle (P.caches.getD g []) hg
  have e : P.rows g P.middle (P.caches.getD g []) = P := by
    unfold PoolM.rows
    rw [set_self _ _ hg]
  rwa [e] at h

theorem last_split (l : List Int) (h : 0 < l.length) : l = l.take (l.length - 1) ++ [lastI l] := by
  have h1 : lastI l = l[l.length - 1] := by
    unfold lastI rd
    rw [show ((l.length : Int) - 1).toNat = l.length - 1 by omega]
    rw [List.getD_eq_getElem?_getD, List.getElem?_eq_getElem (by omega)]
    rfl
  rw [h1, List.take_append_getElem (by omega)]
  rw [show l.length - 1 + 1 = l.length by omega, List.take_length]

theorem refill_perm (lim : Int) : ∀ (k : Nat) (mid own : List Int), ((refill lim k mid own).1 ++ (refill lim k mid own).2).Perm (mid ++ own)
  | 0, _, _ => List.Perm.refl _
  | k + 1, mid, own => by
    simp only [refill]
    split
    · rename_i h
      refine (refill_perm lim k _ _).trans ?_
      have e := last_split mid h.1
      rw [List.perm_iff_count]
      intro a
      conv => rhs; rw [e]
      simp only [List.count_append]
      omega
    · exact List.Perm.refl _

theorem spill_perm (half : Int) (h0 : 0 ≤ half) : ∀ (k : Nat) (mid own : List Int), ((spill half k mid own).1 ++ (spill half k mid own).2).Perm (mid ++ own)
  | 0, _, _ => List.Perm.refl _
  | k + 1, mid, own => by
    simp only [spill]
    split
    · rename_i h
      refine (spill_perm half h0 k _ _).trans ?_
      have e := last_split own (by omega)
      rw [List.perm_iff_count]
      intro a
      conv => rhs; rw [e]
      simp only [List.count_append]
      omega
    · exact List.Perm.refl _

theorem refill_own (lim : Int) (h1 : 1 ≤ lim) : ∀ (k : Nat) (mid own : List Int), (own.length : Int) ≤ lim → ((refill lim k mid own).2.length : Int) ≤ lim
  | 0, _, _, h => h
  | k + 1, mid, own, h => by
    simp only [refill]
    split
    · rename_i h2
      exact refill_own lim h1 k _ _ (by rw [List.length_append, List.length_singleton]; omega)
    · exact h

/-- Nothing comes out only where nothing is in the middle. -/
theorem refill_none (lim : Int) (h1 : 1 ≤ lim) : ∀ (k : Nat) (mid own : List Int), mid.length ≤ k → (refill lim k mid own).2 = [] → mid = [] ∧ own = [] ∧ (refill lim k mid own).1 = []
  | 0, mid, own, hk, h => by
    have : mid = [] := List.length_eq_zero_iff.1 (by omega)
    exact ⟨this, h, this⟩
  | k + 1, mid, own, hk, h => by
    simp only [refill] at h ⊢
    split at h
    · rename_i h2
      have h3 := refill_none lim h1 k _ _ (by rw [List.length_take]; omega) h
      exact absurd h3.2.1 (by simp)
    · rename_i h2
      rw [if_neg h2]
      subst h
      have : mid = [] := by
        cases mid with
        | nil => rfl
        | cons a l => exact absurd ⟨by simp, by show ((0 : Nat) : Int) < lim; omega⟩ h2
      exact ⟨this, rfl, this⟩

theorem spill_own (half : Int) (h0 : 0 ≤ half) : ∀ (k : Nat) (mid own : List Int), own.length ≤ k → half ≤ (own.length : Int) → ((spill half k mid own).2.length : Int) = half
  | 0, _, own, hk, h => by simp only [spill]; omega
  | k + 1, mid, own, hk, h => by
    simp only [spill]
    split
    · rename_i h2
      exact spill_own half h0 k _ _ (by rw [List.length_take]; omega) (by rw [List.length_take]; omega)
    · simp only []; omega

theorem getD_set (cs : List (List Int)) (g i : Nat) (own : List Int) : (cs.set g own).getD i [] = if g = i ∧ g < cs.length then own else cs.getD i [] := by
  simp only [List.getD_eq_getElem?_getD, List.getElem?_set]
  by_cases e : g = i
  · subst e
    by_cases h : g < cs.length
    · simp [h]
    · simp [h]
  · simp [e]

theorem pigeon : ∀ (n : Nat) (l : List Int), l.Nodup → (∀ x ∈ l, 0 ≤ x ∧ x < (n : Int)) → l.length ≤ n
  | 0, l, _, h => by
    cases l with
    | nil => exact Nat.le_refl _
    | cons a l => have := h a (by simp); omega
  | n + 1, l, hd, h => by
    by_cases hm : (n : Int) ∈ l
    · have h1 := pigeon n (l.erase (n : Int)) (hd.erase _) (fun x hx => by
        obtain ⟨hne, hx2⟩ := (hd.mem_erase_iff).1 hx
        have := h x hx2
        omega)
      rw [List.length_erase_of_mem hm] at h1
      omega
    · have h1 := pigeon n l hd (fun x hx => by
        have h2 := h x hx
        have h3 : x ≠ (n : Int) := fun e => hm (e ▸ hx)
        omega)
      omega

theorem PoolM.Right.all_len {P : PoolM} (h : P.Right) : (P.all.length : Int) ≤ P.fresh := by
  have h1 := pigeon P.fresh.toNat P.all h.nodup (fun x hx => by have := h.small x hx; omega)
  have := h.fresh
  omega

theorem flat_len (cs : List (List Int)) (g : Nat) : (cs.getD g []).length ≤ cs.flatten.length := by
  induction cs generalizing g with
  | nil => simp
  | cons c cs ih =>
    cases g with
    | zero => simp
    | succ g =>
      have := ih g
      simp only [List.getD_cons_succ, List.flatten_cons, List.length_append]
      omega

theorem PoolM.Right.small' {P : PoolM} (h : P.Right) : P.Small where
  most := by have := h.most; omega
  fresh := by have := h.fresh; have := h.size; omega
  count := by have := h.count; have := h.fresh; have := h.size; have := h.all_len; omega
  out := by have := h.size; omega
  mid := by
    have h1 := h.all_len
    have := h.fresh
    have := h.size
    simp only [PoolM.all, List.length_append] at h1
    omega
  row := fun g => by have := h.own g; have := h.most; omega

theorem live_mem {P : PoolM} {x : Int} : P.live x = true ↔ (0 ≤ x ∧ x < (P.out.length : Int) ∧ P.out.getD x.toNat false = true) := by
  unfold PoolM.live
  split
  · rename_i h
    exact ⟨fun h2 => ⟨h.1, h.2, h2⟩, fun h2 => h2.2.2⟩
  · rename_i h
    exact ⟨fun h2 => (by cases h2), fun h2 => absurd ⟨h2.1, h2.2.1⟩ h⟩

theorem live_set {P : PoolM} {Q : PoolM} {x : Int} {b : Bool} (hx : 0 ≤ x ∧ x < (P.out.length : Int)) (hq : Q.out = P.out.set x.toNat b) (y : Int) : Q.live y = true ↔ (if y = x then b = true else P.live y = true) := by
  rw [live_mem, live_mem, hq, List.length_set]
  simp only [List.getD_eq_getElem?_getD, List.getElem?_set]
  by_cases e : y = x
  · subst e
    have h1 : y.toNat < P.out.length := by omega
    simp [h1, hx.1, hx.2]
  · rw [if_neg e]
    constructor
    · intro h
      refine ⟨h.1, h.2.1, ?_⟩
      have h3 := h.2.2
      rwa [if_neg (by omega)] at h3
    · intro h
      refine ⟨h.1, h.2.1, ?_⟩
      rw [if_neg (by omega)]
      exact h.2.2

theorem refilled_perm (P : PoolM) (g : Nat) : ((P.refilled g).1 ++ (P.refilled g).2).Perm (P.middle ++ P.caches.getD g []) := by
  unfold PoolM.refilled
  split
  · exact refill_perm _ _ _ _
  · exact List.Perm.refl _

theorem spilled_perm (P : PoolM) (g : Nat) (h0 : 0 ≤ P.most) : ((P.spilled g).1 ++ (P.spilled g).2).Perm (P.middle ++ P.caches.getD g []) := by
  unfold PoolM.spilled
  split
  · exact spill_perm _ (by omega) _ _ _
  · exact List.Perm.refl _

theorem lim_one (P : PoolM) : 1 ≤ P.lim := by unfold PoolM.lim; split <;> omega
theorem lim_most (P : PoolM) (h : 1 ≤ P.most) : P.lim ≤ P.most := by unfold PoolM.lim; split <;> omega

theorem refilled_own (P : PoolM) (g : Nat) (h : P.Right) : ((P.refilled g).2.length : Int) ≤ P.most := by
  unfold PoolM.refilled
  split
  · rename_i h0
    have h1 := refill_own P.lim (lim_one P) P.middle.length P.middle (P.caches.getD g []) (by have := lim_one P; omega)
    have h2 := lim_most P h.most.1
    omega
  · exact h.own g

theorem spilled_own (P : PoolM) (g : Nat) (h : P.Right) : ((P.spilled g).2.length : Int) + 1 ≤ P.most := by
  have h1 := h.most
  unfold PoolM.spilled
  split
  · rename_i h0
    have h2 := spill_own (P.most / 2) (by omega) _ P.middle (P.caches.getD g []) (Nat.le_refl _) (by omega)
    omega
  · have := h.own g; simp only []; omega

theorem own_rows {P : PoolM} {mid own : List Int} {g : Nat} (h : P.Right) (ho : (own.length : Int) ≤ P.most) (i : Nat) : (((P.rows g mid own).caches.getD i []).length : Int) ≤ P.most := by
  show (((P.caches.set g own).getD i []).length : Int) ≤ P.most
  rw [getD_set]
  split
  · exact ho
  · exact h.own i

/-- Take: what it answers, and what holds then. -/
theorem take_right (P : PoolM) (g : Nat) (h : P.Right) (hg : g < P.caches.length) :
    ∃ P' x b, P.take g = some (P', x, b) ∧ P'.Right ∧ P'.most = P.most ∧ P'.out.length = P.out.length ∧ P'.caches.length = P.caches.length ∧
      (b = true → 0 ≤ x ∧ x < (P.out.length : Int) ∧ P.live x = false ∧ P'.out = P.out.set x.toNat true ∧ P'.count = P.count + 1) ∧
      (b = false → P'.out = P.out ∧ P'.count = P.count ∧ P.fresh = P.out.length ∧ P.middle = [] ∧ P.caches.getD g [] = [] ∧ P'.fresh = P.fresh ∧ P'.all.Perm P.all) := by
  have hp := refilled_perm P g
  have hall := all_here P g hg
  have hro := refilled_own P g h
  have hf := h.fresh
  unfold PoolM.take
  by_cases c1 : 0 < (P.refilled g).2.length
  · rw [if_pos c1]
    have hs := last_split _ c1
    obtain ⟨own', ho'⟩ : ∃ o, (P.refilled g).2.take ((P.refilled g).2.length - 1) = o := ⟨_, rfl⟩
    obtain ⟨x, hx⟩ : ∃ x, lastI (P.refilled g).2 = x := ⟨_, rfl⟩
    obtain ⟨mid', hm'⟩ : ∃ m, (P.refilled g).1 = m := ⟨_, rfl⟩
    have hol : own'.length + 1 = (P.refilled g).2.length := by rw [← ho', List.length_take]; omega
    rw [ho', hx] at hs
    rw [hs, hm'] at hp
    have hq := all_rows P g mid' own' hg
    have hpa : P.all.Perm (x :: (P.rows g mid' own').all) := by
      rw [List.perm_iff_count] at hp hq hall ⊢
      intro a
      have e1 := hp a
      have e2 := hq a
      have e3 := hall a
      simp only [List.count_append, List.count_cons, List.count_nil] at e1 e2 e3 ⊢
      omega
    have hxm : x ∈ P.all := hpa.mem_iff.2 (by simp)
    have hxs := h.small x hxm
    have hnd := hpa.nodup_iff.1 h.nodup
    rw [List.nodup_cons] at hnd
    have hlen := hpa.length_eq
    rw [List.length_cons] at hlen
    have hxl : P.live x = false := by
      cases e : P.live x
      · rfl
      · exact absurd hxm ((h.live x).1 e).2.2
    rw [hx, if_pos (by omega), hm', ho']
    refine ⟨_, _, _, rfl, { most := h.most, takers := ?_, size := ?_, fresh := ?_, nodup := hnd.2, small := fun y hy => h.small y (hpa.mem_iff.2 (List.mem_cons_of_mem _ hy)), live := ?_, count := ?_, own := own_rows (mid := mid') h (by omega) }, rfl, List.length_set, List.length_set, fun _ => ⟨hxs.1, by omega, hxl, rfl, rfl⟩, fun h => (by cases h)⟩
    · show (P.caches.set g own').length ≤ 8
      rw [List.length_set]; exact h.takers
    · show (P.out.set x.toNat true).length ≤ 64
      rw [List.length_set]; exact h.size
    · show 0 ≤ P.fresh ∧ P.fresh ≤ ((P.out.set x.toNat true).length : Int)
      rw [List.length_set]; exact h.fresh
    · intro y
      refine (live_set (P := P) (x := x) (b := true) ⟨hxs.1, by omega⟩ rfl y).trans ?_
      show _ ↔ 0 ≤ y ∧ y < P.fresh ∧ y ∉ (P.rows g mid' own').all
      by_cases e : y = x
      · subst e
        rw [if_pos rfl]
        exact ⟨fun _ => ⟨hxs.1, hxs.2, hnd.1⟩, fun _ => rfl⟩
      · rw [if_neg e, h.live y, hpa.mem_iff, List.mem_cons]
        simp [e]
    · show P.count + 1 = P.fresh - ((P.rows g mid' own').all.length : Int)
      have := h.count
      omega
  · rw [if_neg c1]
    have hnone : (P.refilled g).2 = [] := List.length_eq_zero_iff.1 (by omega)
    have hmt : P.middle = [] ∧ P.caches.getD g [] = [] ∧ (P.refilled g).1 = [] := by
      unfold PoolM.refilled at hnone ⊢
      split at hnone
      · rename_i h0
        rw [if_pos h0]
        exact refill_none _ (lim_one P) _ _ _ (Nat.le_refl _) hnone
      · rename_i h0
        have hn2 : P.caches.getD g [] = [] := hnone
        rw [hn2] at h0
        exact absurd rfl h0
    have heq : P.rows g (P.refilled g).1 (P.refilled g).2 = P := by
      rw [hnone, hmt.2.2]
      have h1 := set_self P.caches g hg
      rw [hmt.2.1] at h1
      unfold PoolM.rows
      rw [h1, ← hmt.1]
    rw [heq]
    by_cases c2 : P.fresh < (P.out.length : Int)
    · rw [if_pos c2]
      have hnl : P.live P.fresh = false := by
        cases e : P.live P.fresh
        · rfl
        · have := ((h.live _).1 e).2.1; omega
      have hnm : P.fresh ∉ P.all := fun hm => by have := h.small _ hm; omega
      refine ⟨_, _, _, rfl, { most := h.most, takers := h.takers, size := ?_, fresh := ?_, nodup := h.nodup, small := fun y hy => ?_, live := ?_, count := ?_, own := h.own }, rfl, List.length_set, rfl, fun _ => ⟨hf.1, c2, hnl, rfl, rfl⟩, fun h => (by cases h)⟩
      · show (P.out.set P.fresh.toNat true).length ≤ 64
        rw [List.length_set]; exact h.size
      · show 0 ≤ P.fresh + 1 ∧ P.fresh + 1 ≤ ((P.out.set P.fresh.toNat true).length : Int)
        rw [List.length_set]; omega
      · have := h.small y hy
        show 0 ≤ y ∧ y < P.fresh + 1
        omega
      · intro y
        refine (live_set (P := P) (x := P.fresh) (b := true) ⟨hf.1, c2⟩ rfl y).trans ?_
        show _ ↔ 0 ≤ y ∧ y < P.fresh + 1 ∧ y ∉ P.all
        by_cases e : y = P.fresh
        · subst e
          rw [if_pos rfl]
          exact ⟨fun _ => ⟨hf.1, by omega, hnm⟩, fun _ => rfl⟩
        · rw [if_neg e, h.live y]
          constructor
          · intro h1; exact ⟨h1.1, by omega, h1.2.2⟩
          · intro h1; exact ⟨h1.1, by omega, h1.2.2⟩
      · show P.count + 1 = P.fresh + 1 - (P.all.length : Int)
        have := h.count
        omega
    · rw [if_neg c2]
      exact ⟨_, _, _, rfl, h, rfl, rfl, rfl, fun h => (by cases h), fun _ => ⟨rfl, rfl, by omega, hmt.1, hmt.2.1, rfl, List.Perm.refl _⟩⟩

/-- Give: what holds then. -/
theorem give_right (P : PoolM) (g : Nat) (x : Int) (h : P.Right) (hg : g < P.caches.length) (hx : P.live x = true) :
    (P.give g x).Right ∧ (P.give g x).most = P.most ∧ (P.give g x).caches.length = P.caches.length ∧ (P.give g x).out = P.out.set x.toNat false ∧ (P.give g x).count = P.count - 1 ∧ (P.give g x).fresh = P.fresh := by
  have hm := h.most
  have hp := spilled_perm P g (by omega)
  have hall := all_here P g hg
  have hso := spilled_own P g h
  have hf := h.fresh
  have hl := (h.live x).1 hx
  obtain ⟨mid', hm'⟩ : ∃ m, (P.spilled g).1 = m := ⟨_, rfl⟩
  obtain ⟨own', ho'⟩ : ∃ m, (P.spilled g).2 = m := ⟨_, rfl⟩
  unfold PoolM.give
  rw [hm', ho'] at hp ⊢
  rw [ho'] at hso
  have hq := all_rows P g mid' (own' ++ [x]) hg
  have hpa : (P.rows g mid' (own' ++ [x])).all.Perm (x :: P.all) := by
    rw [List.perm_iff_count] at hp hq hall ⊢
    intro a
    have e1 := hp a
    have e2 := hq a
    have e3 := hall a
    simp only [List.count_append, List.count_cons, List.count_nil] at e1 e2 e3 ⊢
    omega
  have hlen := hpa.length_eq
  rw [List.length_cons] at hlen
  refine ⟨{ most := h.most, takers := ?_, size := ?_, fresh := ?_, nodup := ?_, small := ?_, live := ?_, count := ?_, own := own_rows (mid := mid') h (by rw [List.length_append, List.length_singleton]; omega) }, rfl, List.length_set, rfl, rfl, rfl⟩
  · show (P.caches.set g _).length ≤ 8
    rw [List.length_set]; exact h.takers
  · show (P.out.set x.toNat false).length ≤ 64
    rw [List.length_set]; exact h.size
  · show 0 ≤ P.fresh ∧ P.fresh ≤ ((P.out.set x.toNat false).length : Int)
    rw [List.length_set]; exact h.fresh
  · exact hpa.nodup_iff.2 (List.nodup_cons.2 ⟨hl.2.2, h.nodup⟩)
  · intro y hy
    rcases List.mem_cons.1 (hpa.mem_iff.1 hy) with e | e
    · subst e; exact ⟨hl.1, hl.2.1⟩
    · exact h.small y e
  · intro y
    refine (live_set (P := P) (x := x) (b := false) ⟨hl.1, by omega⟩ rfl y).trans ?_
    show _ ↔ 0 ≤ y ∧ y < P.fresh ∧ y ∉ (P.rows g mid' (own' ++ [x])).all
    rw [hpa.mem_iff, List.mem_cons]
    by_cases e : y = x
    · rw [if_pos e]
      exact ⟨fun h => (by cases h), fun h => absurd (Or.inl e) h.2.2⟩
    · rw [if_neg e, h.live y]
      simp [e]
  · show P.count - 1 = P.fresh - ((P.rows g mid' (own' ++ [x])).all.length : Int)
    have := h.count
    omega
end Go.Proofs.Ytfajhdcambkbpaa.Pool
