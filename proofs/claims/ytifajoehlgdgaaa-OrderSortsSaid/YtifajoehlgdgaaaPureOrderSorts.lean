/- OrderSorts: for every list of numbers the two sorts agree, so do the two tests for a heap and the two lists from the end on. -/
import Derived.Test.YtifajoehlgdgaaaPOrderx
import Derived.Test.YtifajoehlgdgaaaPureOrderX
namespace Go.Proofs.Ytifajoehlgdgaaa.Pure
open Go.RowKit Go.Proofs.YtifajoehlgdgaaaW.PrintWords Go.Proofs.Ytifajoehlgdgaaa.Plain Go.Proofs.Ytifajoehlgdgaaa.PlainOrder Go.Proofs.Ytifajoehlgdgaaa.PureOrderX Go.Proofs.Ytifajoehlgdgaaa.POrder

theorem OrderSorts : handofflaw03_OrderSorts.Pure := by
  intro l _ _ _
  obtain ⟨K, hK⟩ : ∃ K : Nat, 2000000 ≤ K := ⟨_, Nat.le_refl _⟩
  refine ⟨K, ?_⟩
  unfold handofflaw03_OrderSorts.f
  rw [alive _ (by omega)]
  simp only [Option.bind_some, if_true]
  by_cases c : (l.length : Int) > 200
  · rw [if_pos c]
  · rw [if_neg c]
    obtain ⟨s, hs, hS⟩ := sort_ok l (by omega) K (by omega)
    obtain ⟨t, ht, hT⟩ := ref_sort_ok l (by omega) K (by omega)
    obtain ⟨b, h1, h2, _⟩ := heap_ok l (by omega) K (by omega)
    have hst : s = t := hS.one hT (List.Perm.refl _)
    subst hst
    have hsl : s.length = l.length := hS.perm.length_eq
    rw [hs, ht, h1, h2, turned_ok l (by omega) K (by omega), ref_turned_ok l (by omega) K (by omega)]
    simp only [Option.bind_some]
    rw [same_ok s s (by omega) K (by omega), same_ok l.reverse l.reverse (by simp; omega) K (by simp; omega)]
    simp
end Go.Proofs.Ytifajoehlgdgaaa.Pure
