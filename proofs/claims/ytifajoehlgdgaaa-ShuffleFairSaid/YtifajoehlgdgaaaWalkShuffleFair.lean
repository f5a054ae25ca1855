/- The walk of ShuffleFair: each one that may be is the first of just as many orders. -/
import Derived.Test.YtifajoehlgdgaaaPShAx
import Derived.Test.YtifajoehlgdgaaaPlainFairShA
import Derived.Test.YtifajoehlgdgaaaOpen
namespace Go.Proofs.Ytifajoehlgdgaaa.WalkShuffleFair
open Go.RowKit Go.Proofs.YtifajoehlgdgaaaW.PrintWords Go.Proofs.Ytifajoehlgdgaaa.PShA Go.Proofs.Ytifajoehlgdgaaa.Plain Go.Proofs.Ytifajoehlgdgaaa.PlainShA Go.Proofs.Ytifajoehlgdgaaa.PlainFairShA

theorem count_take (may : List Bool) (i : Nat) (h : i < may.length) : cntB (may.take (i + 1)) = cntB (may.take i) + if may.getD i false = true then 1 else 0 := by
  unfold cntB
  rw [List.take_succ_eq_append_getElem h, List.count_append]
  have : may.getD i false = may[i] := by simp [List.getD_eq_getElem?_getD, h]
  rw [this]
  cases may[i] <;> simp

theorem fair_last (may : List Bool) (hm : may.length ≤ 6) (k : Nat) (hk : 9000 < k) : (if 0 ≤ (may.length : Int) then (if ((may.length : Int) : Int).toNat ≤ 35184372088832 then ((handoffref02_All.f k (may.length : Int)).bind fun t172 => (handofflaw02_ShuffleFair.l1 k may (cntB may : Nat) (List.replicate ((may.length : Int) : Int).toNat 0) t172 (t172.length : Int) 0)) else (none)) else (none)) = some true := by
  rw [if_pos (by omega), if_pos (by omega), all_ok _ hm _ (by omega)]
  simp only [Option.bind_some, Int.toNat_natCast]
  have hf : fairB may = true := by
    have h1 : (mays may.length).all fairB = true := by
      by_cases h : may.length < 6
      · exact fair_small ⟨may.length, h⟩
      · rw [show may.length = 6 by omega]; exact fair_six
    exact List.all_eq_true.1 h1 may (mem_mays may)
  unfold fairB at hf
  simp only [Bool.and_eq_true, List.all_eq_true, beq_iff_eq, List.mem_range] at hf
  obtain ⟨hf1, hf2⟩ := hf
  have hlen := all_len ⟨may.length, by omega⟩
  simp only at hlen
  obtain ⟨k', hk', he⟩ := fair_l1 may (cntB may) (allF may.length) hm hlen (fun l hl => by rw [all_row _ l hl]; exact hm) hf1 (allF may.length).length k 0 (List.replicate may.length 0) (by omega) (by omega) (by omega) (by simp) (fun j => by
    have : G (List.replicate may.length (0 : Int)) j = 0 := by
      unfold G
      simp only [List.getD_eq_getElem?_getD, List.getElem?_replicate]
      split <;> rfl
    omega)
  rw [List.drop_zero] at he
  have he' : handofflaw02_ShuffleFair.l1 k may (cntB may : Nat) (List.replicate may.length 0) (allF may.length) ((allF may.length).length : Int) 0 = _ := he
  rw [he']
  have hw : ((((allF may.length).map ord).foldl (stepW may) (List.replicate may.length 0)).length) = may.length := by
    have : ∀ (os : List (List Int)) (ws : List Int), (os.foldl (stepW may) ws).length = ws.length := by
      intro os
      induction os with
      | nil => intro ws; rfl
      | cons o os ih => intro ws; rw [List.foldl_cons, ih, stepW_len]
    rw [this]
    simp
  have hfac : ∀ m : Fin 7, ∀ c : Fin 8, 0 ≤ Int.tdiv (fact m.val) ((c.val : Nat) : Int) ∧ Int.tdiv (fact m.val) ((c.val : Nat) : Int) ≤ 1000 := by decide +kernel
  have hcl : cntB may ≤ may.length := List.count_le_length
  exact fair_l2 may (cntB may) _ hm hw (fun j hj hb => by
    unfold cntB
    refine List.count_pos_iff.2 ?_
    rw [← hb, List.getD_eq_getElem?_getD, List.getElem?_eq_getElem hj]
    exact List.getElem_mem hj) (fun j hj => hf2 j hj) (hfac ⟨may.length, by omega⟩ ⟨cntB may, by omega⟩) may.length k' 0 (by omega) (by omega) (by omega)

theorem fair_l0 (may : List Bool) (hm : may.length ≤ 6) : ∀ (d k i : Nat), i ≤ may.length → may.length - i ≤ d → d + 9001 < k → handofflaw02_ShuffleFair.l0 k may (cntB (may.take i) : Nat) may (may.length : Int) (i : Int) = some true := by
  intro d
  induction d with
  | zero =>
    intro k i hi hd hk
    obtain ⟨k, rfl⟩ : ∃ m, k = m + 1 := ⟨k - 1, by omega⟩
    simp only [handofflaw02_ShuffleFair.l0]
    rw [if_neg (by omega), List.take_of_length_le (by omega)]
    exact fair_last may hm k (by omega)
  | succ d ih =>
    intro k i hi hd hk
    obtain ⟨k, rfl⟩ : ∃ m, k = m + 1 := ⟨k - 1, by omega⟩
    simp only [handofflaw02_ShuffleFair.l0]
    by_cases hlt : i < may.length
    · have hwr : wrap64 ((i : Int) + 1) = ((i + 1 : Nat) : Int) := by unfold wrap64; omega
      have h2 := ih k (i + 1) (by omega) (by omega) (by omega)
      rw [count_take may i hlt] at h2
      have hbt : rdOf false may (i : Int) = may.getD i false := by unfold rdOf; rw [Int.toNat_natCast]
      have hcl : cntB (may.take i) ≤ 6 := by
        have : cntB (may.take i) ≤ (may.take i).length := List.count_le_length
        rw [List.length_take] at this
        omega
      rw [if_pos (by omega), if_pos (by omega), if_pos (by omega), hbt, hwr]
      by_cases hb : may.getD i false = true
      · rw [if_pos hb] at h2 ⊢
        rw [show wrap64 (((cntB (may.take i) : Nat) : Int) + 1) = ((cntB (may.take i) + 1 : Nat) : Int) by unfold wrap64; omega]
        exact h2
      · rw [if_neg hb] at h2 ⊢
        exact h2
    · rw [if_neg (by omega), List.take_of_length_le (by omega)]
      exact fair_last may hm k (by omega)

theorem law (may : List Bool) : handofflaw02_ShuffleFair.f 10000 may = some true := by
  unfold handofflaw02_ShuffleFair.f
  rw [alive 10000 (by omega)]
  simp only [Option.bind_some, if_true]
  by_cases h : (may.length : Int) > 6
  · rw [if_pos h]
  · rw [if_neg h]
    exact fair_l0 may (by omega) may.length 10000 0 (by omega) (by omega) (by omega)

theorem walk (W : World) (A0 : Option Addr) (c0 : Nat) (l0 : List Bool) (hr0 : Kd.C Kd.bool W A0 l0.length l0) (hc0 : l0.length ≤ c0) {G0 : Prop} (_g0 : G0) {G1 : Prop} (_y0 : G1) :
    Calls Try.prog 5 #[.slice A0 l0.length c0] W fun e w' => e = .returned (.bool true) ∧ Below W.heap.size W w' :=
  handofflaw02_ShuffleFair.calls 10000 A0 c0 l0 true W hr0 hc0 (law l0)
end Go.Proofs.Ytifajoehlgdgaaa.WalkShuffleFair
