/- The walk of ShuffleFirsts: the two first ones are one. -/
import Derived.Test.YtifajoehlgdgaaaPShuffleFirstsx
import Derived.Test.YtifajoehlgdgaaaOpen
namespace Go.Proofs.Ytifajoehlgdgaaa.WalkShuffleFirsts
open Go.RowKit Go.Proofs.YtifajoehlgdgaaaW.PrintWords Go.Proofs.Ytifajoehlgdgaaa.PShuffleFirsts

theorem alive : handofflaw02_shuffleAlive.f 30 = some true := by decide +kernel

theorem one (k : Nat) : ∀ a b c d, shuffle_First.l0 k a b c d = handoffref02_First.l0 k a b c d := by
  induction k with
  | zero => intros; rfl
  | succ k ih => intro a b c d; simp only [shuffle_First.l0, handoffref02_First.l0, ih]

theorem wrap_up {i : Int} {n : Nat} (h0 : 0 ≤ i) (h : i < (n : Int)) (hn : n ≤ 9223372036854775807) : wrap64 (i + 1) = i + 1 := by
  unfold wrap64
  omega

theorem ends (may : List Bool) (l : List Int) (hn : l.length ≤ 9223372036854775807) : ∀ (d k : Nat) (i : Int), 0 ≤ i → (l.length : Int) - i ≤ d → d < k → ∃ r, shuffle_First.l0 k may l (l.length : Int) i = some r := by
  intro d
  induction d with
  | zero =>
    intro k i h0 hd hk
    obtain ⟨k, rfl⟩ : ∃ m, k = m + 1 := ⟨k - 1, by omega⟩
    simp only [shuffle_First.l0]
    rw [if_neg (by omega)]
    exact ⟨_, rfl⟩
  | succ d ih =>
    intro k i h0 hd hk
    obtain ⟨k, rfl⟩ : ∃ m, k = m + 1 := ⟨k - 1, by omega⟩
    simp only [shuffle_First.l0]
    by_cases hlt : i < (l.length : Int)
    · have hw := wrap_up h0 hlt hn
      obtain ⟨r, hr⟩ := ih k (i + 1) (by omega) (by omega) (by omega)
      rw [if_pos hlt, if_pos h0, if_pos hlt, hw, hr]
      repeat' (first | exact ⟨_, rfl⟩ | split)
      all_goals (exfalso; omega)
    · rw [if_neg hlt]
      exact ⟨_, rfl⟩

theorem law (l : List Int) (may : List Bool) (hn : l.length ≤ 9223372036854775807) : ∃ k, handofflaw02_ShuffleFirsts.f k l may = some true := by
  obtain ⟨r, hr⟩ := ends may l hn l.length (l.length + 1) 0 (by omega) (by omega) (by omega)
  have hr' : ∀ k, l.length + 1 ≤ k → shuffle_First.f k l may = some r := fun k hk => at_rounds (fun k => shuffle_First.mono _ _ k) hk hr
  have hq' : ∀ k, l.length + 1 ≤ k → handoffref02_First.f k l may = some r := fun k hk => (one k _ _ _ _).symm.trans (hr' k hk)
  have ha : handofflaw02_shuffleAlive.f (l.length + 31) = some true := at_rounds (fun k => handofflaw02_shuffleAlive.mono k) (by omega) alive
  refine ⟨l.length + 31, ?_⟩
  unfold handofflaw02_ShuffleFirsts.f
  rw [ha]
  simp only [Option.bind_some, if_true]
  have hj : ∀ b, handofflaw02_ShuffleFirsts.j0 (l.length + 31) l may b = some true := by
    intro b
    simp only [handofflaw02_ShuffleFirsts.j0]
    rw [hr' _ (by omega), hq' _ (by omega)]
    cases b <;> simp
  rw [hj, hj]
  split <;> rfl

theorem walk (W : World) (A0 : Option Addr) (c0 : Nat) (l0 : List Int) (hr0 : Kd.C (Kd.int .i64) W A0 l0.length l0) (hc0 : l0.length ≤ c0) (_g0 : ∀ x ∈ l0, (Lit.int .i64 x).wf = true) (_y0 : c0 * 8 ≤ 140737488351232)
    (A1 : Option Addr) (c1 : Nat) (l1 : List Bool) (hr1 : Kd.C Kd.bool W A1 l1.length l1) (hc1 : l1.length ≤ c1) (_g1 : ∀ x ∈ l1, True) (_y1 : c1 * 1 ≤ 140737488351232) :
    Calls Try.prog 4 #[.slice A0 l0.length c0, .slice A1 l1.length c1] W fun e w' => e = .returned (.bool true) ∧ Below W.heap.size W w' := by
  obtain ⟨k, hk⟩ := law l0 l1 (by omega)
  exact handofflaw02_ShuffleFirsts.calls k A0 c0 l0 A1 c1 l1 true W hr0 hc0 hr1 hc1 hk
end Go.Proofs.Ytifajoehlgdgaaa.WalkShuffleFirsts
