/- ShuffleBack: an order comes back from its draws, and draws come back, as they count, from their order. -/
import Derived.Test.YtifajoehlgdgaaaPShufBx
import Derived.Test.YtifajoehlgdgaaaPlainShufB
namespace Go.Proofs.Ytifajoehlgdgaaa.Pure
open Go.RowKit Go.Proofs.YtifajoehlgdgaaaW.PrintWords Go.Proofs.Ytifajoehlgdgaaa.Plain Go.Proofs.Ytifajoehlgdgaaa.PlainShufB Go.Proofs.Ytifajoehlgdgaaa.PShufB

theorem back_l0 (ds : List Int) (hs : ds.length ≤ 900) : ∀ (m k i : Nat), i ≤ ds.length → ds.length - i ≤ m → m < k → handofflaw02_ShuffleBack.l0 k (cnts ds) ds (ds.length : Int) (i : Int) = some true := by
  intro m
  induction m with
  | zero =>
    intro k i hi hd hk
    obtain ⟨k, rfl⟩ : ∃ m, k = m + 1 := ⟨k - 1, by omega⟩
    simp only [handofflaw02_ShuffleBack.l0]
    rw [if_neg (by omega)]
  | succ m ih =>
    intro k i hi hd hk
    obtain ⟨k, rfl⟩ : ∃ m, k = m + 1 := ⟨k - 1, by omega⟩
    simp only [handofflaw02_ShuffleBack.l0]
    by_cases c : i < ds.length
    · have hl := cnts_len ds
      have hc := cnt_lt (G ds i) (show 0 < i + 1 by omega)
      have h1 := Int.emod_nonneg (G ds i) (show ((i + 1 : Nat) : Int) ≠ 0 by omega)
      have h2 := Int.emod_lt_of_pos (G ds i) (show (0 : Int) < ((i + 1 : Nat) : Int) by omega)
      have h3 := @tmod_emod (G ds i) (i + 1)
      have hcn : ((cnt (G ds i) (i + 1) : Nat) : Int) = G ds i % ((i + 1 : Nat) : Int) := by unfold cnt; omega
      have e : Int.tmod (wrap64 (wrap64 (Int.tmod (G ds i) ((i + 1 : Nat) : Int) + (i : Int)) + 1)) ((i + 1 : Nat) : Int) = ((cnt (G ds i) (i + 1) : Nat) : Int) := by
        rw [h3, hcn]
        by_cases c1 : G ds i < 0 ∧ G ds i % ((i + 1 : Nat) : Int) ≠ 0
        · rw [if_pos c1, wid (x := _ + (i : Int)) (by omega) (by omega), wid (by omega) (by omega), Int.tmod_eq_of_lt (by omega) (by omega)]
          omega
        · rw [if_neg c1, wid (x := _ + (i : Int)) (by omega) (by omega), wid (by omega) (by omega), Int.tmod_eq_emod_of_nonneg (by omega)]
          rw [show G ds i % ((i + 1 : Nat) : Int) + (i : Int) + 1 = G ds i % ((i + 1 : Nat) : Int) + ((i + 1 : Nat) : Int) by omega, Int.add_emod_right, Int.emod_emod]
      rw [if_pos (by omega), if_pos (by omega), if_pos (by omega), if_pos (by omega), rd_nat, rd_nat, cnts_G c, if_neg (by omega), if_neg (by omega), wid (x := (i : Int) + 1) (by omega) (by omega), show ((i : Int) + 1) = ((i + 1 : Nat) : Int) by omega, if_neg (by omega), e, if_pos rfl]
      exact ih k (i + 1) (by omega) (by omega) (by omega)
    · rw [if_neg (by omega)]

theorem ShuffleBack : handofflaw02_ShuffleBack.Pure := by
  intro ds _ _ _
  obtain ⟨K, hK⟩ : ∃ K : Nat, 5000 ≤ K := ⟨_, Nat.le_refl _⟩
  refine ⟨K + 1, ?_⟩
  unfold handofflaw02_ShuffleBack.f
  rw [alive _ (by omega)]
  simp only [Option.bind_some, if_true]
  by_cases c : (ds.length : Int) > 60
  · rw [if_pos c]
  · have hl := ord_len ds
    obtain ⟨b, hb, hiff, hd⟩ := draws_ok (ord ds) (by omega) (K + 1) (by omega)
    have hbt : b = true := hiff.2 (ord_isOrd ds)
    subst hbt
    rw [hl, drw_ord, if_pos rfl] at hd
    rw [if_neg c, order_ok ds (by omega) (K + 1) (by omega)]
    simp only [Option.bind_some]
    rw [hd]
    simp only [Option.bind_some, if_true]
    rw [hb]
    simp only [Option.bind_some, if_true]
    rw [if_pos (by rw [cnts_len]), order_ok (cnts ds) (by rw [cnts_len]; omega) (K + 1) (by rw [cnts_len]; omega), ord_cnts]
    simp only [Option.bind_some]
    rw [same_ok _ _ (by omega) (K + 1) (by omega)]
    simp only [Option.bind_some, decide_true, Bool.not_true, handofflaw02_ShuffleBack.j0, Bool.false_eq_true, if_false]
    exact back_l0 ds (by omega) ds.length K 0 (Nat.zero_le _) (by omega) (by omega)
end Go.Proofs.Ytifajoehlgdgaaa.Pure
