/- OrderLocks: the locks that are taken rise from 1 on, are the document's, and are the same from the end on. -/
import Derived.Test.YtifajoehlgdgaaaPOrderx
import Derived.Test.YtifajoehlgdgaaaPureOrderX
namespace Go.Proofs.Ytifajoehlgdgaaa.Pure
open Go.RowKit Go.Proofs.YtifajoehlgdgaaaW.PrintWords Go.Proofs.Ytifajoehlgdgaaa.Plain Go.Proofs.Ytifajoehlgdgaaa.PlainOrder Go.Proofs.Ytifajoehlgdgaaa.PureOrderX Go.Proofs.Ytifajoehlgdgaaa.POrder

/-- The locks of a sorted list. -/
def lks (s : List Int) : List Int := s.foldl lk []

theorem lks_len (s : List Int) : ∀ out : List Int, (s.foldl lk out).length ≤ out.length + s.length := by
  induction s with
  | nil => intro out; simp
  | cons v s ih =>
    intro out
    have h1 := ih (lk out v)
    have h2 := lk_len out v
    simp only [List.foldl_cons, List.length_cons]
    omega

theorem locks_ok (l : List Int) (hl : l.length ≤ 1000) (k : Nat) (hk : 1010000 < k) : ∃ s, SortOf s l ∧ order_Locks.f k l = some (lks s) ∧ handoffref03_Locks.f k l = some (lks s) := by
  obtain ⟨s, hs, hS⟩ := sort_ok l (by omega) k (by omega)
  obtain ⟨t, ht, hT⟩ := ref_sort_ok l hl k (by omega)
  have hst : s = t := hS.one hT (List.Perm.refl _)
  subst hst
  have hsl : s.length = l.length := hS.perm.length_eq
  refine ⟨s, hS, ?_, ?_⟩
  · unfold order_Locks.f
    rw [hs]
    exact locks_l0 s (by omega) s.length k [] 0 (Nat.zero_le _) (by omega) (by simp) (by omega)
  · unfold handoffref03_Locks.f
    rw [ht]
    exact ref_locks_l0 s (by omega) s.length k [] 0 (Nat.zero_le _) (by omega) (by simp) (by omega)

theorem law_l0 (ids l : List Int) (hl : l.length ≤ 1000) (hr : l.Pairwise (· < ·)) (h1 : ∀ a ∈ l, 1 ≤ a) (r : Option Bool) :
    ∀ (d k i : Nat), i ≤ l.length → l.length - i ≤ d → d + 2000000 < k →
      (∀ k, 1010000 < k → ((handoffref03_Locks.f k ids).bind fun t219 => ((handoffref02_Same.f k l t219).bind fun t222 => (if t222 = true then ((handoffref03_Turned.f k ids).bind fun t223 => ((order_Locks.f k t223).bind fun t226 => ((handoffref02_Same.f k l t226).bind fun t229 => (some t229)))) else (some false)))) = r) →
      handofflaw03_OrderLocks.l0 k ids l l (l.length : Int) (i : Int) = r := by
  intro d
  induction d with
  | zero =>
    intro k i hi hd hk h
    obtain ⟨k, rfl⟩ : ∃ m, k = m + 1 := ⟨k - 1, by omega⟩
    simp only [handofflaw03_OrderLocks.l0]
    rw [if_neg (by omega)]
    exact h k (by omega)
  | succ d ih =>
    intro k i hi hd hk h
    obtain ⟨k, rfl⟩ : ∃ m, k = m + 1 := ⟨k - 1, by omega⟩
    simp only [handofflaw03_OrderLocks.l0]
    by_cases c : i < l.length
    · have hge := h1 _ (G_mem c)
      rw [if_pos (by omega), if_pos (by omega), if_pos (by omega), rd_nat, if_neg (by omega), wid (x := (i : Int) + 1) (by omega) (by omega), show ((i : Int) + 1) = ((i + 1 : Nat) : Int) by omega, ih k (i + 1) (by omega) (by omega) (by omega) h]
      by_cases c0 : i = 0
      · rw [if_neg (by omega)]
      · have hrr := (List.pairwise_iff_getElem.1 hr) (i - 1) i (by omega) c (by omega)
        rw [G_get, G_get] at hrr
        rw [if_pos (by omega), wid (by omega) (by omega), if_pos (by omega), if_pos (by omega), show ((i : Int) - 1) = ((i - 1 : Nat) : Int) by omega, rd_nat, if_neg (by omega)]
    · rw [if_neg (by omega)]
      exact h k (by omega)

theorem OrderLocks : handofflaw03_OrderLocks.Pure := by
  intro l _ _ _
  obtain ⟨K, hK⟩ : ∃ K : Nat, 4000000 ≤ K := ⟨_, Nat.le_refl _⟩
  refine ⟨K, ?_⟩
  unfold handofflaw03_OrderLocks.f
  rw [alive _ (by omega)]
  simp only [Option.bind_some, if_true]
  by_cases c : (l.length : Int) > 200
  · rw [if_pos c]
  · rw [if_neg c]
    obtain ⟨s, hS, hs, _⟩ := locks_ok l (by omega) K (by omega)
    have hsl : s.length = l.length := hS.perm.length_eq
    have hlen : (lks s).length ≤ 200 := by
      have h := lks_len s []
      have h0 : (lks s).length ≤ 0 + s.length := h
      omega
    obtain ⟨hr, h1⟩ := lk_rise s [] hS.sorted List.Pairwise.nil (fun a ha => by cases ha)
    rw [hs]
    simp only [Option.bind_some]
    refine law_l0 l (lks s) (by omega) hr h1 (some true) (lks s).length K 0 (Nat.zero_le _) (by omega) (by omega) (fun k hk => ?_)
    obtain ⟨s1, hS1, _, e1⟩ := locks_ok l (by omega) k hk
    have hs1 : s1 = s := hS1.one hS (List.Perm.refl _)
    subst hs1
    obtain ⟨s2, hS2, e2, _⟩ := locks_ok l.reverse (by simp; omega) k hk
    have hs2 : s2 = s1 := hS2.one hS (List.reverse_perm l)
    subst hs2
    rw [e1]
    simp only [Option.bind_some]
    rw [same_ok _ _ (by omega) k (by omega), ref_turned_ok l (by omega) k (by omega)]
    simp only [Option.bind_some, decide_true, if_true]
    rw [e2]
    simp only [Option.bind_some]
    rw [same_ok _ _ (by omega) k (by omega)]
    simp
end Go.Proofs.Ytifajoehlgdgaaa.Pure
