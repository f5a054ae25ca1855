-- PRINTED BY print.sh 35421559b90ae4d0a3588c463048766b98c2df88dd9212a6774a882060cdf62d: not written by this session
import Derived.Test.YtifajoehlgdgaaaPShuffleFirstsx0
import Derived.Test.YtifajoehlgdgaaaPShuffleFirstsx1
namespace Go.Proofs.Ytifajoehlgdgaaa.PShuffleFirsts
open Go.RowKit Go.Proofs.YtifajoehlgdgaaaW.PrintWords Go.Proofs.YtifajoehlgdgaaaW.PrintLast Go.Proofs.YtifajoehlgdgaaaW.PrintMore
attribute [local go_sem] max2_int min2_int max_two min_two max_three min_three max_four min_four   -- for this text's walks alone
set_option linter.unusedVariables false
set_option linter.unusedSimpArgs false

/-! ### shuffle_First: function 20 -/
def shuffle_First.l0 : Nat → List Bool → List Int → Int → Int → Option (Int × Bool)
  | 0, _, _, _, _ => none
  | k + 1, x1, x8, x9, x10 => if x10 < x9 then (if 0 ≤ x10 then (if x10 < (x8.length : Int) then (if (rd x8 x10) ≥ 0 then (if (rd x8 x10) < (x1.length : Int) then (if 0 ≤ (rd x8 x10) then (if rdOf false x1 (rd x8 x10) = true then (some (rd x8 x10, true)) else (shuffle_First.l0 k x1 x8 x9 (wrap64 (x10 + 1)))) else (none)) else (shuffle_First.l0 k x1 x8 x9 (wrap64 (x10 + 1)))) else (shuffle_First.l0 k x1 x8 x9 (wrap64 (x10 + 1)))) else (none)) else (none)) else (some (0, false))
def shuffle_First.f (k : Nat) (l0 : List Int) (l1 : List Bool) : Option (Int × Bool) := shuffle_First.l0 k l1 l0 (l0.length : Int) 0
theorem shuffle_First.mono_l : ∀ k, (∀ y0 y1 y2 y3, LeO (shuffle_First.l0 k y0 y1 y2 y3) (shuffle_First.l0 (k + 1) y0 y1 y2 y3))
  | 0 => fun _ _ _ _ r h => by simp [shuffle_First.l0] at h
  | k + 1 => by
    have ih0 := shuffle_First.mono_l k
    · intro y0 y1 y2 y3
      unfold shuffle_First.l0
      repeat' first
      | (with_reducible exact ih0 _ _ _ _)
      | (with_reducible exact LeO.refl _)
      | (with_reducible exact LeO.none _)
      | (with_reducible refine LeO.ite ?_ ?_)
      | (with_reducible refine LeO.bind ?_ (fun _ => ?_))
      | exact ih0 _ _ _ _
      | exact LeO.none _
      | refine LeO.ite ?_ ?_
      | refine LeO.bind ?_ (fun _ => ?_)
theorem shuffle_First.mono : ∀ a0 a1 k, LeO (shuffle_First.f k a0 a1) (shuffle_First.f (k + 1) a0 a1) := by
  intro a0 a1 k
  have ih0 := shuffle_First.mono_l k
  unfold shuffle_First.f
  repeat' first
      | (with_reducible exact ih0 _ _ _ _)
      | (with_reducible exact LeO.refl _)
      | (with_reducible exact LeO.none _)
      | (with_reducible refine LeO.ite ?_ ?_)
      | (with_reducible refine LeO.bind ?_ (fun _ => ?_))
      | exact ih0 _ _ _ _
      | exact LeO.none _
      | refine LeO.ite ?_ ?_
      | refine LeO.bind ?_ (fun _ => ?_)
set_option maxHeartbeats 8000000 in
set_option maxRecDepth 100000 in
theorem shuffle_First.calls (k : Nat) (A0 : Option Addr) (c0 : Nat) (l0 : List Int) (A1 : Option Addr) (c1 : Nat) (l1 : List Bool) (r1 : Int) (r2 : Bool) (w : World) (hr0 : Kd.C (Kd.int .i64) w A0 l0.length l0) (hc0 : l0.length ≤ c0) (hr1 : Kd.C Kd.bool w A1 l1.length l1) (hc1 : l1.length ≤ c1) (h : shuffle_First.f k l0 l1 = some (r1, r2)) :
    Calls Try.prog 20 #[.slice A0 l0.length c0, .slice A1 l1.length c1] w fun e w' => e = .returned (.tuple #[.int .i64 r1, .bool r2]) ∧ Drawn0 w w' := by
  have HR0 := Aside0.mk hr0
  have HC0 := Aside0.mk hc0
  clear hr0 hc0
  have HR1 := Aside0.mk hr1
  have HC1 := Aside0.mk hc1
  clear hr1 hc1
  have H : (shuffle_First.l0 k l1 l0 (l0.length : Int) 0) = some (r1, r2) := h
  clear h
  have H' := Aside0.mk H
  clear H
  go_enter Try.func20, Try.ntmps20
  go_wp2
  go_loopg [10] k (fun kq v10 w' => ∃ (x10_1 : Int), v10 = .int .i64 x10_1 ∧ Aside0 (shuffle_First.l0 kq l1 l0 (l0.length : Int) x10_1 = some (r1, r2)) ∧ Aside0 (kq ≤ k) ∧ Drawn0 w w')
  case atStart => exact ⟨(0), (by first | rfl | (simp; done) | (simp [*]; done)), H', ⟨Nat.le_refl _⟩, by repeat (first | exact Drawn0.refl _ | apply Drawn0.step)⟩
  case round =>
    clear H'
    try clear c1
    try clear c2
    try clear p2
    obtain ⟨x10_1, rfl, HA, HK1, ⟨m1, rfl⟩⟩ := hrel
    cases gk with
    | zero => exact absurd HA.out (by simp [shuffle_First.l0])
    | succ k1 =>
      have H := HA.out
      clear HA
      simp only [shuffle_First.l0] at H
      by_cases c3 : x10_1 < (l0.length : Int)
      · rw [if_pos c3] at H
        have c3b0 : decide (x10_1 < (l0.length : Int)) = true := decide_eq_true c3
        clear c3
        by_cases c4 : 0 ≤ x10_1
        · rw [if_pos c4] at H
          have c4b0 : decide (0 ≤ x10_1) = true := decide_eq_true c4
          clear c4
          by_cases c5 : x10_1 < (l0.length : Int)
          · rw [if_pos c5] at H
            have c5b0 : decide (x10_1 < (l0.length : Int)) = true := decide_eq_true c5
            clear c5
            by_cases c6 : (rd l0 x10_1) ≥ 0
            · rw [if_pos c6] at H
              have c6b0 : decide (0 ≤ (rd l0 x10_1)) = true := decide_eq_true c6
              clear c6
              by_cases c7 : (rd l0 x10_1) < (l1.length : Int)
              · rw [if_pos c7] at H
                have c7b0 : decide ((rd l0 x10_1) < (l1.length : Int)) = true := decide_eq_true c7
                clear c7
                by_cases c8 : 0 ≤ (rd l0 x10_1)
                · rw [if_pos c8] at H
                  have c8b0 : decide (0 ≤ (rd l0 x10_1)) = true := decide_eq_true c8
                  clear c8
                  obtain ⟨bq9, hbq9⟩ : ∃ b_ : Bool, b_ = (rdOf false l1 (rd l0 x10_1)) := ⟨_, rfl⟩
                  replace H : (if bq9 = true then (some (rd l0 x10_1, true)) else (shuffle_First.l0 k1 l1 l0 (l0.length : Int) (wrap64 (x10_1 + 1)))) = some (r1, r2) := by rw [← hbq9] at H; exact H
                  have Nbq9 := Aside0.mk hbq9
                  clear hbq9
                  by_cases c10 : bq9 = true
                  · subst c10
                    have H1 : (some (rd l0 x10_1, true)) = some (r1, r2) := by rw [if_pos rfl] at H; exact H
                    clear H
                    have H := H1
                    clear H1
                    simp only [Option.some.injEq, Prod.mk.injEq] at H
                    obtain ⟨rfl, rfl⟩ := H
                    have p123 : 0 ≤ (x10_1 : Int) := of_decide_eq_true (by first | (with_reducible assumption) | assumption)
                    have q123 : x10_1 < (l0.length : Int) := of_decide_eq_true (by first | (with_reducible assumption) | assumption)
                    obtain ⟨ad123, e123, hx123_0⟩ := Kd.at_int HR0.out x10_1 p123 q123
                    cases e123
                    replace p123 := eq_true p123
                    replace q123 := eq_true q123
                    have p124 : 0 ≤ ((rd l0 x10_1) : Int) := of_decide_eq_true (by first | (with_reducible assumption) | assumption)
                    have q124 : (rd l0 x10_1) < (l1.length : Int) := of_decide_eq_true (by first | (with_reducible assumption) | assumption)
                    obtain ⟨ad124, e124, hx124_0⟩ := Kd.at_bool HR1.out (rd l0 x10_1) p124 q124
                    (try rw [← Nbq9.out] at hx124_0)
                    cases e124
                    replace p124 := eq_true p124
                    replace q124 := eq_true q124
                    go_wp2
                    go_ret2
                    exact ⟨by first | rfl | (simp; done) | (simp [*]; done), by repeat (first | exact Drawn0.refl _ | apply Drawn0.step)⟩
                  · replace c10 := Bool.eq_false_iff.mpr c10
                    subst c10
                    have H1 : (shuffle_First.l0 k1 l1 l0 (l0.length : Int) (wrap64 (x10_1 + 1))) = some (r1, r2) := by rw [if_neg (show ¬ (false = true) by decide)] at H; exact H
                    clear H
                    have H := H1
                    clear H1
                    have H' := Aside0.mk H
                    clear H
                    have p123 : 0 ≤ (x10_1 : Int) := of_decide_eq_true (by first | (with_reducible assumption) | assumption)
                    have q123 : x10_1 < (l0.length : Int) := of_decide_eq_true (by first | (with_reducible assumption) | assumption)
                    obtain ⟨ad123, e123, hx123_0⟩ := Kd.at_int HR0.out x10_1 p123 q123
                    cases e123
                    replace p123 := eq_true p123
                    replace q123 := eq_true q123
                    have p124 : 0 ≤ ((rd l0 x10_1) : Int) := of_decide_eq_true (by first | (with_reducible assumption) | assumption)
                    have q124 : (rd l0 x10_1) < (l1.length : Int) := of_decide_eq_true (by first | (with_reducible assumption) | assumption)
                    obtain ⟨ad124, e124, hx124_0⟩ := Kd.at_bool HR1.out (rd l0 x10_1) p124 q124
                    (try rw [← Nbq9.out] at hx124_0)
                    cases e124
                    replace p124 := eq_true p124
                    replace q124 := eq_true q124
                    go_wp2
                    go_roundg k1
                    case measure => have := HK1.out; omega
                    case rel => exact ⟨(wrap64 (x10_1 + 1)), (by first | rfl | (simp; done) | (simp [*]; done)), H', ⟨by have := HK1.out; omega⟩, by repeat (first | exact Drawn0.refl _ | apply Drawn0.step)⟩
                · rw [if_neg c8] at H
                  exact absurd H (by simp)
              · rw [if_neg c7] at H
                have c7b0 : decide ((rd l0 x10_1) < (l1.length : Int)) = false := decide_eq_false c7
                clear c7
                have H' := Aside0.mk H
                clear H
                have p123 : 0 ≤ (x10_1 : Int) := of_decide_eq_true (by first | (with_reducible assumption) | assumption)
                have q123 : x10_1 < (l0.length : Int) := of_decide_eq_true (by first | (with_reducible assumption) | assumption)
                obtain ⟨ad123, e123, hx123_0⟩ := Kd.at_int HR0.out x10_1 p123 q123
                cases e123
                replace p123 := eq_true p123
                replace q123 := eq_true q123
                go_wp2
                go_roundg k1
                case measure => have := HK1.out; omega
                case rel => exact ⟨(wrap64 (x10_1 + 1)), (by first | rfl | (simp; done) | (simp [*]; done)), H', ⟨by have := HK1.out; omega⟩, by repeat (first | exact Drawn0.refl _ | apply Drawn0.step)⟩
            · rw [if_neg c6] at H
              have c6b0 : decide (0 ≤ (rd l0 x10_1)) = false := decide_eq_false c6
              clear c6
              have H' := Aside0.mk H
              clear H
              have p123 : 0 ≤ (x10_1 : Int) := of_decide_eq_true (by first | (with_reducible assumption) | assumption)
              have q123 : x10_1 < (l0.length : Int) := of_decide_eq_true (by first | (with_reducible assumption) | assumption)
              obtain ⟨ad123, e123, hx123_0⟩ := Kd.at_int HR0.out x10_1 p123 q123
              cases e123
              replace p123 := eq_true p123
              replace q123 := eq_true q123
              go_wp2
              go_roundg k1
              case measure => have := HK1.out; omega
              case rel => exact ⟨(wrap64 (x10_1 + 1)), (by first | rfl | (simp; done) | (simp [*]; done)), H', ⟨by have := HK1.out; omega⟩, by repeat (first | exact Drawn0.refl _ | apply Drawn0.step)⟩
          · rw [if_neg c5] at H
            exact absurd H (by simp)
        · rw [if_neg c4] at H
          exact absurd H (by simp)
      · rw [if_neg c3] at H
        have c3b0 : decide (x10_1 < (l0.length : Int)) = false := decide_eq_false c3
        clear c3
        simp only [Option.some.injEq, Prod.mk.injEq] at H
        obtain ⟨rfl, rfl⟩ := H
        go_wp2
        go_ret2
        exact ⟨by first | rfl | (simp; done) | (simp [*]; done), by repeat (first | exact Drawn0.refl _ | apply Drawn0.step)⟩

/-! ### handoffref02_First: function 21 -/
def handoffref02_First.l0 : Nat → List Bool → List Int → Int → Int → Option (Int × Bool)
  | 0, _, _, _, _ => none
  | k + 1, x1, x8, x9, x10 => if x10 < x9 then (if 0 ≤ x10 then (if x10 < (x8.length : Int) then (if (rd x8 x10) ≥ 0 then (if (rd x8 x10) < (x1.length : Int) then (if 0 ≤ (rd x8 x10) then (if rdOf false x1 (rd x8 x10) = true then (some (rd x8 x10, true)) else (handoffref02_First.l0 k x1 x8 x9 (wrap64 (x10 + 1)))) else (none)) else (handoffref02_First.l0 k x1 x8 x9 (wrap64 (x10 + 1)))) else (handoffref02_First.l0 k x1 x8 x9 (wrap64 (x10 + 1)))) else (none)) else (none)) else (some (0, false))
def handoffref02_First.f (k : Nat) (l0 : List Int) (l1 : List Bool) : Option (Int × Bool) := handoffref02_First.l0 k l1 l0 (l0.length : Int) 0
theorem handoffref02_First.mono_l : ∀ k, (∀ y0 y1 y2 y3, LeO (handoffref02_First.l0 k y0 y1 y2 y3) (handoffref02_First.l0 (k + 1) y0 y1 y2 y3))
  | 0 => fun _ _ _ _ r h => by simp [handoffref02_First.l0] at h
  | k + 1 => by
    have ih0 := handoffref02_First.mono_l k
    · intro y0 y1 y2 y3
      unfold handoffref02_First.l0
      repeat' first
      | (with_reducible exact ih0 _ _ _ _)
      | (with_reducible exact LeO.refl _)
      | (with_reducible exact LeO.none _)
      | (with_reducible refine LeO.ite ?_ ?_)
      | (with_reducible refine LeO.bind ?_ (fun _ => ?_))
      | exact ih0 _ _ _ _
      | exact LeO.none _
      | refine LeO.ite ?_ ?_
      | refine LeO.bind ?_ (fun _ => ?_)
theorem handoffref02_First.mono : ∀ a0 a1 k, LeO (handoffref02_First.f k a0 a1) (handoffref02_First.f (k + 1) a0 a1) := by
  intro a0 a1 k
  have ih0 := handoffref02_First.mono_l k
  unfold handoffref02_First.f
  repeat' first
      | (with_reducible exact ih0 _ _ _ _)
      | (with_reducible exact LeO.refl _)
      | (with_reducible exact LeO.none _)
      | (with_reducible refine LeO.ite ?_ ?_)
      | (with_reducible refine LeO.bind ?_ (fun _ => ?_))
      | exact ih0 _ _ _ _
      | exact LeO.none _
      | refine LeO.ite ?_ ?_
      | refine LeO.bind ?_ (fun _ => ?_)
set_option maxHeartbeats 8000000 in
set_option maxRecDepth 100000 in
theorem handoffref02_First.calls (k : Nat) (A0 : Option Addr) (c0 : Nat) (l0 : List Int) (A1 : Option Addr) (c1 : Nat) (l1 : List Bool) (r1 : Int) (r2 : Bool) (w : World) (hr0 : Kd.C (Kd.int .i64) w A0 l0.length l0) (hc0 : l0.length ≤ c0) (hr1 : Kd.C Kd.bool w A1 l1.length l1) (hc1 : l1.length ≤ c1) (h : handoffref02_First.f k l0 l1 = some (r1, r2)) :
    Calls Try.prog 21 #[.slice A0 l0.length c0, .slice A1 l1.length c1] w fun e w' => e = .returned (.tuple #[.int .i64 r1, .bool r2]) ∧ Drawn0 w w' := by
  have HR0 := Aside0.mk hr0
  have HC0 := Aside0.mk hc0
  clear hr0 hc0
  have HR1 := Aside0.mk hr1
  have HC1 := Aside0.mk hc1
  clear hr1 hc1
  have H : (handoffref02_First.l0 k l1 l0 (l0.length : Int) 0) = some (r1, r2) := h
  clear h
  have H' := Aside0.mk H
  clear H
  go_enter Try.func21, Try.ntmps21
  go_wp2
  go_loopg [10] k (fun kq v10 w' => ∃ (x10_1 : Int), v10 = .int .i64 x10_1 ∧ Aside0 (handoffref02_First.l0 kq l1 l0 (l0.length : Int) x10_1 = some (r1, r2)) ∧ Aside0 (kq ≤ k) ∧ Drawn0 w w')
  case atStart => exact ⟨(0), (by first | rfl | (simp; done) | (simp [*]; done)), H', ⟨Nat.le_refl _⟩, by repeat (first | exact Drawn0.refl _ | apply Drawn0.step)⟩
  case round =>
    clear H'
    try clear c1
    try clear c2
    try clear p2
    obtain ⟨x10_1, rfl, HA, HK1, ⟨m1, rfl⟩⟩ := hrel
    cases gk with
    | zero => exact absurd HA.out (by simp [handoffref02_First.l0])
    | succ k1 =>
      have H := HA.out
      clear HA
      simp only [handoffref02_First.l0] at H
      by_cases c3 : x10_1 < (l0.length : Int)
      · rw [if_pos c3] at H
        have c3b0 : decide (x10_1 < (l0.length : Int)) = true := decide_eq_true c3
        clear c3
        by_cases c4 : 0 ≤ x10_1
        · rw [if_pos c4] at H
          have c4b0 : decide (0 ≤ x10_1) = true := decide_eq_true c4
          clear c4
          by_cases c5 : x10_1 < (l0.length : Int)
          · rw [if_pos c5] at H
            have c5b0 : decide (x10_1 < (l0.length : Int)) = true := decide_eq_true c5
            clear c5
            by_cases c6 : (rd l0 x10_1) ≥ 0
            · rw [if_pos c6] at H
              have c6b0 : decide (0 ≤ (rd l0 x10_1)) = true := decide_eq_true c6
              clear c6
              by_cases c7 : (rd l0 x10_1) < (l1.length : Int)
              · rw [if_pos c7] at H
                have c7b0 : decide ((rd l0 x10_1) < (l1.length : Int)) = true := decide_eq_true c7
                clear c7
                by_cases c8 : 0 ≤ (rd l0 x10_1)
                · rw [if_pos c8] at H
                  have c8b0 : decide (0 ≤ (rd l0 x10_1)) = true := decide_eq_true c8
                  clear c8
                  obtain ⟨bq9, hbq9⟩ : ∃ b_ : Bool, b_ = (rdOf false l1 (rd l0 x10_1)) := ⟨_, rfl⟩
                  replace H : (if bq9 = true then (some (rd l0 x10_1, true)) else (handoffref02_First.l0 k1 l1 l0 (l0.length : Int) (wrap64 (x10_1 + 1)))) = some (r1, r2) := by rw [← hbq9] at H; exact H
                  have Nbq9 := Aside0.mk hbq9
                  clear hbq9
                  by_cases c10 : bq9 = true
                  · subst c10
                    have H1 : (some (rd l0 x10_1, true)) = some (r1, r2) := by rw [if_pos rfl] at H; exact H
                    clear H
                    have H := H1
                    clear H1
                    simp only [Option.some.injEq, Prod.mk.injEq] at H
                    obtain ⟨rfl, rfl⟩ := H
                    have p125 : 0 ≤ (x10_1 : Int) := of_decide_eq_true (by first | (with_reducible assumption) | assumption)
                    have q125 : x10_1 < (l0.length : Int) := of_decide_eq_true (by first | (with_reducible assumption) | assumption)
                    obtain ⟨ad125, e125, hx125_0⟩ := Kd.at_int HR0.out x10_1 p125 q125
                    cases e125
                    replace p125 := eq_true p125
                    replace q125 := eq_true q125
                    have p126 : 0 ≤ ((rd l0 x10_1) : Int) := of_decide_eq_true (by first | (with_reducible assumption) | assumption)
                    have q126 : (rd l0 x10_1) < (l1.length : Int) := of_decide_eq_true (by first | (with_reducible assumption) | assumption)
                    obtain ⟨ad126, e126, hx126_0⟩ := Kd.at_bool HR1.out (rd l0 x10_1) p126 q126
                    (try rw [← Nbq9.out] at hx126_0)
                    cases e126
                    replace p126 := eq_true p126
                    replace q126 := eq_true q126
                    go_wp2
                    go_ret2
                    exact ⟨by first | rfl | (simp; done) | (simp [*]; done), by repeat (first | exact Drawn0.refl _ | apply Drawn0.step)⟩
                  · replace c10 := Bool.eq_false_iff.mpr c10
                    subst c10
                    have H1 : (handoffref02_First.l0 k1 l1 l0 (l0.length : Int) (wrap64 (x10_1 + 1))) = some (r1, r2) := by rw [if_neg (show ¬ (false = true) by decide)] at H; exact H
                    clear H
                    have H := H1
                    clear H1
                    have H' := Aside0.mk H
                    clear H
                    have p125 : 0 ≤ (x10_1 : Int) := of_decide_eq_true (by first | (with_reducible assumption) | assumption)
                    have q125 : x10_1 < (l0.length : Int) := of_decide_eq_true (by first | (with_reducible assumption) | assumption)
                    obtain ⟨ad125, e125, hx125_0⟩ := Kd.at_int HR0.out x10_1 p125 q125
                    cases e125
                    replace p125 := eq_true p125
                    replace q125 := eq_true q125
                    have p126 : 0 ≤ ((rd l0 x10_1) : Int) := of_decide_eq_true (by first | (with_reducible assumption) | assumption)
                    have q126 : (rd l0 x10_1) < (l1.length : Int) := of_decide_eq_true (by first | (with_reducible assumption) | assumption)
                    obtain ⟨ad126, e126, hx126_0⟩ := Kd.at_bool HR1.out (rd l0 x10_1) p126 q126
                    (try rw [← Nbq9.out] at hx126_0)
                    cases e126
                    replace p126 := eq_true p126
                    replace q126 := eq_true q126
                    go_wp2
                    go_roundg k1
                    case measure => have := HK1.out; omega
                    case rel => exact ⟨(wrap64 (x10_1 + 1)), (by first | rfl | (simp; done) | (simp [*]; done)), H', ⟨by have := HK1.out; omega⟩, by repeat (first | exact Drawn0.refl _ | apply Drawn0.step)⟩
                · rw [if_neg c8] at H
                  exact absurd H (by simp)
              · rw [if_neg c7] at H
                have c7b0 : decide ((rd l0 x10_1) < (l1.length : Int)) = false := decide_eq_false c7
                clear c7
                have H' := Aside0.mk H
                clear H
                have p125 : 0 ≤ (x10_1 : Int) := of_decide_eq_true (by first | (with_reducible assumption) | assumption)
                have q125 : x10_1 < (l0.length : Int) := of_decide_eq_true (by first | (with_reducible assumption) | assumption)
                obtain ⟨ad125, e125, hx125_0⟩ := Kd.at_int HR0.out x10_1 p125 q125
                cases e125
                replace p125 := eq_true p125
                replace q125 := eq_true q125
                go_wp2
                go_roundg k1
                case measure => have := HK1.out; omega
                case rel => exact ⟨(wrap64 (x10_1 + 1)), (by first | rfl | (simp; done) | (simp [*]; done)), H', ⟨by have := HK1.out; omega⟩, by repeat (first | exact Drawn0.refl _ | apply Drawn0.step)⟩
            · rw [if_neg c6] at H
              have c6b0 : decide (0 ≤ (rd l0 x10_1)) = false := decide_eq_false c6
              clear c6
              have H' := Aside0.mk H
              clear H
              have p125 : 0 ≤ (x10_1 : Int) := of_decide_eq_true (by first | (with_reducible assumption) | assumption)
              have q125 : x10_1 < (l0.length : Int) := of_decide_eq_true (by first | (with_reducible assumption) | assumption)
              obtain ⟨ad125, e125, hx125_0⟩ := Kd.at_int HR0.out x10_1 p125 q125
              cases e125
              replace p125 := eq_true p125
              replace q125 := eq_true q125
              go_wp2
              go_roundg k1
              case measure => have := HK1.out; omega
              case rel => exact ⟨(wrap64 (x10_1 + 1)), (by first | rfl | (simp; done) | (simp [*]; done)), H', ⟨by have := HK1.out; omega⟩, by repeat (first | exact Drawn0.refl _ | apply Drawn0.step)⟩
          · rw [if_neg c5] at H
            exact absurd H (by simp)
        · rw [if_neg c4] at H
          exact absurd H (by simp)
      · rw [if_neg c3] at H
        have c3b0 : decide (x10_1 < (l0.length : Int)) = false := decide_eq_false c3
        clear c3
        simp only [Option.some.injEq, Prod.mk.injEq] at H
        obtain ⟨rfl, rfl⟩ := H
        go_wp2
        go_ret2
        exact ⟨by first | rfl | (simp; done) | (simp [*]; done), by repeat (first | exact Drawn0.refl _ | apply Drawn0.step)⟩

/-! ### handofflaw02_ShuffleFirsts: function 4 -/
def handofflaw02_ShuffleFirsts.j0 : Nat → List Int → List Bool → Bool → Option (Bool)
  | 0, _, _, _ => none
  | k + 1, x0, x1, x18 => if x18 = true then (some true) else ((shuffle_First.f k x0 x1).bind fun bt128 => ((handoffref02_First.f k x0 x1).bind fun bt130 => (if bt128.1 = bt130.1 then (some (bt128.2 == bt130.2)) else (some false))))
def handofflaw02_ShuffleFirsts.f (k : Nat) (l0 : List Int) (l1 : List Bool) : Option (Bool) := (handofflaw02_shuffleAlive.f k).bind fun t127 => (if t127 = true then (if (l0.length : Int) > 100 then (handofflaw02_ShuffleFirsts.j0 k l0 l1 true) else (handofflaw02_ShuffleFirsts.j0 k l0 l1 (decide ((l1.length : Int) > 100)))) else (some false))
theorem handofflaw02_ShuffleFirsts.mono_l : ∀ k, (∀ y0 y1 y2, LeO (handofflaw02_ShuffleFirsts.j0 k y0 y1 y2) (handofflaw02_ShuffleFirsts.j0 (k + 1) y0 y1 y2))
  | 0 => fun _ _ _ r h => by simp [handofflaw02_ShuffleFirsts.j0] at h
  | k + 1 => by
    have ih0 := handofflaw02_ShuffleFirsts.mono_l k
    · intro y0 y1 y2
      unfold handofflaw02_ShuffleFirsts.j0
      repeat' first
      | (with_reducible exact ih0 _ _ _)
      | (with_reducible exact handofflaw02_shuffleAlive.mono _)
      | (with_reducible exact handoffref02_First.mono _ _ _)
      | (with_reducible exact shuffle_First.mono _ _ _)
      | (with_reducible exact LeO.refl _)
      | (with_reducible exact LeO.none _)
      | (with_reducible refine LeO.ite ?_ ?_)
      | (with_reducible refine LeO.bind ?_ (fun _ => ?_))
      | exact ih0 _ _ _
      | exact handofflaw02_shuffleAlive.mono _
      | exact handoffref02_First.mono _ _ _
      | exact shuffle_First.mono _ _ _
      | exact LeO.none _
      | refine LeO.ite ?_ ?_
      | refine LeO.bind ?_ (fun _ => ?_)
theorem handofflaw02_ShuffleFirsts.mono : ∀ a0 a1 k, LeO (handofflaw02_ShuffleFirsts.f k a0 a1) (handofflaw02_ShuffleFirsts.f (k + 1) a0 a1) := by
  intro a0 a1 k
  have ih0 := handofflaw02_ShuffleFirsts.mono_l k
  unfold handofflaw02_ShuffleFirsts.f
  repeat' first
      | (with_reducible exact ih0 _ _ _)
      | (with_reducible exact handofflaw02_shuffleAlive.mono _)
      | (with_reducible exact handoffref02_First.mono _ _ _)
      | (with_reducible exact shuffle_First.mono _ _ _)
      | (with_reducible exact LeO.refl _)
      | (with_reducible exact LeO.none _)
      | (with_reducible refine LeO.ite ?_ ?_)
      | (with_reducible refine LeO.bind ?_ (fun _ => ?_))
      | exact ih0 _ _ _
      | exact handofflaw02_shuffleAlive.mono _
      | exact handoffref02_First.mono _ _ _
      | exact shuffle_First.mono _ _ _
      | exact LeO.none _
      | refine LeO.ite ?_ ?_
      | refine LeO.bind ?_ (fun _ => ?_)
set_option maxHeartbeats 8000000 in
set_option maxRecDepth 100000 in
theorem handofflaw02_ShuffleFirsts.calls (k : Nat) (A0 : Option Addr) (c0 : Nat) (l0 : List Int) (A1 : Option Addr) (c1 : Nat) (l1 : List Bool) (r : Bool) (w : World) (hr0 : Kd.C (Kd.int .i64) w A0 l0.length l0) (hc0 : l0.length ≤ c0) (hr1 : Kd.C Kd.bool w A1 l1.length l1) (hc1 : l1.length ≤ c1) (h : handofflaw02_ShuffleFirsts.f k l0 l1 = some r) :
    Calls Try.prog 4 #[.slice A0 l0.length c0, .slice A1 l1.length c1] w fun e w' => e = .returned (.bool r) ∧ Below w.heap.size w w' := by
  have HR0 := Aside0.mk hr0
  have HC0 := Aside0.mk hc0
  clear hr0 hc0
  have HR1 := Aside0.mk hr1
  have HC1 := Aside0.mk hc1
  clear hr1 hc1
  have HB := Aside0.mk (Below.refl w.heap.size w)
  have H : ((handofflaw02_shuffleAlive.f k).bind fun t127 => (if t127 = true then (if (l0.length : Int) > 100 then (handofflaw02_ShuffleFirsts.j0 k l0 l1 true) else (handofflaw02_ShuffleFirsts.j0 k l0 l1 (decide ((l1.length : Int) > 100)))) else (some false))) = some r := h
  clear h
  replace H := Option.bind_eq_some_iff.mp H
  obtain ⟨t127, A30, H⟩ := H
  replace H : (if t127 = true then (if (l0.length : Int) > 100 then (handofflaw02_ShuffleFirsts.j0 k l0 l1 true) else (handofflaw02_ShuffleFirsts.j0 k l0 l1 (decide ((l1.length : Int) > 100)))) else (some false)) = some r := H
  have A3 := Aside0.mk A30
  clear A30
  by_cases c4 : t127 = true
  · subst c4
    have H1 : (if (l0.length : Int) > 100 then (handofflaw02_ShuffleFirsts.j0 k l0 l1 true) else (handofflaw02_ShuffleFirsts.j0 k l0 l1 (decide ((l1.length : Int) > 100)))) = some r := by rw [if_pos rfl] at H; exact H
    clear H
    have H := H1
    clear H1
    have HC5 := Aside0.mk H
    clear H
    go_enter Try.func4, Try.ntmps4
    go_upto_region 3 with (first | ((with_reducible refine gate_callee (f := 15) rfl ?_); refine goesL_ (some 9) rfl rfl Try.func15 (by kernel_rfl) rfl #[] rfl (by (try simp only [List.map_toArray, List.map_cons, List.map_nil]); first | done | rfl | (simp only [List.length_drop, List.length_take]; rfl)) ?_; (with_reducible refine (handofflaw02_shuffleAlive.calls k  true _ A3.out).mono ?_); rintro e w6 ⟨rfl, hb⟩; refine ⟨_, rfl, ?_⟩; have n0_ := Aside0.mk (below_step (by repeat (first | (with_reducible first | exact HB.out | apply below_alloc | apply pw_below_drewN | apply below_drew1) | exact HB.out)) hb); clear HB; have HB := n0_; clear n0_; (try clear hb); (try clear hb2); (try clear hk); (try clear hi)))
    (try simp only [Act.put, List.setIfInBounds_toArray, List.set_cons_zero, List.set_cons_succ])
    go_cut [18] (fun v18 wc => ∃ (kq : Nat) (x18_4 : Bool), v18 = .bool x18_4 ∧ Aside0 (handofflaw02_ShuffleFirsts.j0 kq l0 l1 x18_4 = some r) ∧ Aside0 (kq ≤ k) ∧ Aside0 (Below w.heap.size w wc))
    case first =>
      have H := HC5.out
      clear HC5
      by_cases c7 : (l0.length : Int) > 100
      · rw [if_pos c7] at H
        have c7b0 : decide (100 < (l0.length : Int)) = true := decide_eq_true c7
        have c7b1 : decide (100 < l0.length) = true := decide_eq_true (by omega)
        clear c7
        (first | rw [c7b0] | (simp only [i64_w, i32_w]; rw [c7b0]) | skip)
        have H' := Aside0.mk H
        clear H
        go_wp2
        go_meet
        case rel => exact ⟨_, (true), (by first | rfl | (simp; done) | (simp [*]; done)), H', ⟨by first | omega | exact Nat.le_refl _⟩, ⟨by repeat (first | (with_reducible first | exact HB.out | apply below_alloc | apply pw_below_drewN | apply below_drew1) | exact HB.out)⟩⟩
      · rw [if_neg c7] at H
        have c7b0 : decide (100 < (l0.length : Int)) = false := decide_eq_false c7
        have c7b1 : decide (100 < l0.length) = false := decide_eq_false (by omega)
        clear c7
        (first | rw [c7b0] | (simp only [i64_w, i32_w]; rw [c7b0]) | skip)
        have H' := Aside0.mk H
        clear H
        go_wp2
        go_meet
        case rel => exact ⟨_, (decide ((l1.length : Int) > 100)), (by first | rfl | (simp; done) | (simp [*]; done)), H', ⟨by first | omega | exact Nat.le_refl _⟩, ⟨by repeat (first | (with_reducible first | exact HB.out | apply below_alloc | apply pw_below_drewN | apply below_drew1) | exact HB.out)⟩⟩
    case rest =>
      clear HC5
      try clear c1
      try clear p2
      try clear c4
      try clear c7
      try clear c7b0
      try clear c7b1
      obtain ⟨kq, x18_4, rfl, HA, HJ4, HB⟩ := hcut
      cases kq with
      | zero => exact absurd HA.out (by simp [handofflaw02_ShuffleFirsts.j0])
      | succ kj4 =>
        have H := HA.out
        clear HA
        simp only [handofflaw02_ShuffleFirsts.j0] at H
        by_cases c8 : x18_4 = true
        · subst c8
          have H1 : (some true) = some r := by rw [if_pos rfl] at H; exact H
          clear H
          have H := H1
          clear H1
          obtain rfl := Option.some.inj H
          go_wp2
          go_ret
          exact ⟨by first | rfl | (simp [errW_none, errW_some] <;> rfl) | (simp [*, errW_none, errW_some] <;> rfl), by repeat (first | (with_reducible first | exact HB.out | apply below_alloc | apply pw_below_drewN | apply below_drew1) | exact HB.out)⟩
        · replace c8 := Bool.eq_false_iff.mpr c8
          subst c8
          have H1 : ((shuffle_First.f kj4 l0 l1).bind fun bt128 => ((handoffref02_First.f kj4 l0 l1).bind fun bt130 => (if bt128.1 = bt130.1 then (some (bt128.2 == bt130.2)) else (some false)))) = some r := by rw [if_neg (show ¬ (false = true) by decide)] at H; exact H
          clear H
          have H := H1
          clear H1
          replace H := Option.bind_eq_some_iff.mp H
          obtain ⟨⟨t128, t129⟩, A90, H⟩ := H
          replace H : ((handoffref02_First.f kj4 l0 l1).bind fun bt130 => (if t128 = bt130.1 then (some (t129 == bt130.2)) else (some false))) = some r := H
          have A9 := Aside0.mk A90
          clear A90
          replace H := Option.bind_eq_some_iff.mp H
          obtain ⟨⟨t130, t131⟩, A100, H⟩ := H
          replace H : (if t128 = t130 then (some (t129 == t131)) else (some false)) = some r := H
          have A10 := Aside0.mk A100
          clear A100
          by_cases c11 : t128 = t130
          · rw [if_pos c11] at H
            have c11b0 : (t128 == t130) = true := beq_iff_eq.mpr c11
            have c11b1 : (t128 != t130) = false := bne_eq_false_iff_eq.mpr c11
            clear c11
            obtain rfl := Option.some.inj H
            go_wp2_with (first | ((with_reducible refine gate_callee (f := 20) rfl ?_); refine goesL_ (some 22) rfl rfl Try.func20 (by kernel_rfl) rfl #[.slice A0 l0.length c0, .slice A1 l1.length c1] rfl (by (try simp only [List.map_toArray, List.map_cons, List.map_nil]); first | done | rfl | (simp only [List.length_drop, List.length_take]; rfl)) ?_; (with_reducible refine (shuffle_First.calls kj4 _ _ l0 _ _ l1 t128 t129 _ ?side1 ?side2 ?side3 ?side4 A9.out).mono ?_); (case side1 => repeat (first | exact (Kd.C_below HR0.out HB.out) | (with_reducible refine Kd.C_alloc ?_ _) | (with_reducible refine Kd.C_drewN ?_ _) | (with_reducible refine Kd.C_drew ?_))); (case side2 => exact HC0.out); (case side3 => repeat (first | exact (Kd.C_below HR1.out HB.out) | (with_reducible refine Kd.C_alloc ?_ _) | (with_reducible refine Kd.C_drewN ?_ _) | (with_reducible refine Kd.C_drew ?_))); (case side4 => exact HC1.out); rintro e w' ⟨rfl, ⟨nd, rfl⟩⟩; refine ⟨_, rfl, ?_⟩) | ((with_reducible refine gate_callee (f := 21) rfl ?_); refine goesL_ (some 28) rfl rfl Try.func21 (by kernel_rfl) rfl #[.slice A0 l0.length c0, .slice A1 l1.length c1] rfl (by (try simp only [List.map_toArray, List.map_cons, List.map_nil]); first | done | rfl | (simp only [List.length_drop, List.length_take]; rfl)) ?_; (with_reducible refine (handoffref02_First.calls kj4 _ _ l0 _ _ l1 t130 t131 _ ?side1 ?side2 ?side3 ?side4 A10.out).mono ?_); (case side1 => repeat (first | exact (Kd.C_below HR0.out (by repeat (first | (with_reducible first | exact HB.out | apply below_alloc | apply pw_below_drewN | apply below_drew1) | exact HB.out))) | (with_reducible refine Kd.C_alloc ?_ _) | (with_reducible refine Kd.C_drewN ?_ _) | (with_reducible refine Kd.C_drew ?_))); (case side2 => exact HC0.out); (case side3 => repeat (first | exact (Kd.C_below HR1.out (by repeat (first | (with_reducible first | exact HB.out | apply below_alloc | apply pw_below_drewN | apply below_drew1) | exact HB.out))) | (with_reducible refine Kd.C_alloc ?_ _) | (with_reducible refine Kd.C_drewN ?_ _) | (with_reducible refine Kd.C_drew ?_))); (case side4 => exact HC1.out); rintro e w' ⟨rfl, ⟨nd, rfl⟩⟩; refine ⟨_, rfl, ?_⟩))
            go_ret
            exact ⟨by first | rfl | (simp [errW_none, errW_some] <;> rfl) | (simp [*, errW_none, errW_some] <;> rfl), by repeat (first | (with_reducible first | exact HB.out | apply below_alloc | apply pw_below_drewN | apply below_drew1) | exact HB.out)⟩
          · rw [if_neg c11] at H
            have c11b0 : (t128 == t130) = false := beq_eq_false_iff_ne.mpr c11
            have c11b1 : (t128 != t130) = true := bne_iff_ne.mpr c11
            obtain rfl := Option.some.inj H
            go_wp2_with (first | ((with_reducible refine gate_callee (f := 20) rfl ?_); refine goesL_ (some 22) rfl rfl Try.func20 (by kernel_rfl) rfl #[.slice A0 l0.length c0, .slice A1 l1.length c1] rfl (by (try simp only [List.map_toArray, List.map_cons, List.map_nil]); first | done | rfl | (simp only [List.length_drop, List.length_take]; rfl)) ?_; (with_reducible refine (shuffle_First.calls kj4 _ _ l0 _ _ l1 t128 t129 _ ?side1 ?side2 ?side3 ?side4 A9.out).mono ?_); (case side1 => repeat (first | exact (Kd.C_below HR0.out HB.out) | (with_reducible refine Kd.C_alloc ?_ _) | (with_reducible refine Kd.C_drewN ?_ _) | (with_reducible refine Kd.C_drew ?_))); (case side2 => exact HC0.out); (case side3 => repeat (first | exact (Kd.C_below HR1.out HB.out) | (with_reducible refine Kd.C_alloc ?_ _) | (with_reducible refine Kd.C_drewN ?_ _) | (with_reducible refine Kd.C_drew ?_))); (case side4 => exact HC1.out); rintro e w' ⟨rfl, ⟨nd, rfl⟩⟩; refine ⟨_, rfl, ?_⟩) | ((with_reducible refine gate_callee (f := 21) rfl ?_); refine goesL_ (some 28) rfl rfl Try.func21 (by kernel_rfl) rfl #[.slice A0 l0.length c0, .slice A1 l1.length c1] rfl (by (try simp only [List.map_toArray, List.map_cons, List.map_nil]); first | done | rfl | (simp only [List.length_drop, List.length_take]; rfl)) ?_; (with_reducible refine (handoffref02_First.calls kj4 _ _ l0 _ _ l1 t130 t131 _ ?side1 ?side2 ?side3 ?side4 A10.out).mono ?_); (case side1 => repeat (first | exact (Kd.C_below HR0.out (by repeat (first | (with_reducible first | exact HB.out | apply below_alloc | apply pw_below_drewN | apply below_drew1) | exact HB.out))) | (with_reducible refine Kd.C_alloc ?_ _) | (with_reducible refine Kd.C_drewN ?_ _) | (with_reducible refine Kd.C_drew ?_))); (case side2 => exact HC0.out); (case side3 => repeat (first | exact (Kd.C_below HR1.out (by repeat (first | (with_reducible first | exact HB.out | apply below_alloc | apply pw_below_drewN | apply below_drew1) | exact HB.out))) | (with_reducible refine Kd.C_alloc ?_ _) | (with_reducible refine Kd.C_drewN ?_ _) | (with_reducible refine Kd.C_drew ?_))); (case side4 => exact HC1.out); rintro e w' ⟨rfl, ⟨nd, rfl⟩⟩; refine ⟨_, rfl, ?_⟩))
            go_ret
            exact ⟨by first | rfl | (simp [errW_none, errW_some] <;> rfl) | (simp [*, errW_none, errW_some] <;> rfl), by repeat (first | (with_reducible first | exact HB.out | apply below_alloc | apply pw_below_drewN | apply below_drew1) | exact HB.out)⟩
  · replace c4 := Bool.eq_false_iff.mpr c4
    subst c4
    have H1 : (some false) = some r := by rw [if_neg (show ¬ (false = true) by decide)] at H; exact H
    clear H
    have H := H1
    clear H1
    obtain rfl := Option.some.inj H
    go_enter Try.func4, Try.ntmps4
    go_wp2_with (first | ((with_reducible refine gate_callee (f := 15) rfl ?_); refine goesL_ (some 9) rfl rfl Try.func15 (by kernel_rfl) rfl #[] rfl (by (try simp only [List.map_toArray, List.map_cons, List.map_nil]); first | done | rfl | (simp only [List.length_drop, List.length_take]; rfl)) ?_; (with_reducible refine (handofflaw02_shuffleAlive.calls k  false _ A3.out).mono ?_); rintro e w12 ⟨rfl, hb⟩; refine ⟨_, rfl, ?_⟩; have n0_ := Aside0.mk (below_step (by repeat (first | (with_reducible first | exact HB.out | apply below_alloc | apply pw_below_drewN | apply below_drew1) | exact HB.out)) hb); clear HB; have HB := n0_; clear n0_; (try clear hb); (try clear hb2); (try clear hk); (try clear hi)))
    go_ret
    exact ⟨by first | rfl | (simp [errW_none, errW_some] <;> rfl) | (simp [*, errW_none, errW_some] <;> rfl), by repeat (first | (with_reducible first | exact HB.out | apply below_alloc | apply pw_below_drewN | apply below_drew1) | exact HB.out)⟩

end Go.Proofs.Ytifajoehlgdgaaa.PShuffleFirsts
