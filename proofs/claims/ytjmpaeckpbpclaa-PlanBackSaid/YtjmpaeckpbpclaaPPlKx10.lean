-- Out of the translation, by a program of this session.
import Derived.Test.YtjmpaeckpbpclaaWShort
import Derived.Test.YtjmpaeckpbpclaaPPlKx0
import Derived.Test.YtjmpaeckpbpclaaPPlKx5
namespace Go.Proofs.Ytjmpaeckpbpclaa.PPlK
open Go.RowKit Go.Proofs.YtjmpaeckpbpclaaW.PrintWords Go.Proofs.YtjmpaeckpbpclaaW.PrintLast Go.Proofs.YtjmpaeckpbpclaaW.PrintMore
attribute [local go_sem] max2_int min2_int max_two min_two max_three min_three max_four min_four   -- for this text's walks alone
set_option linter.unusedVariables false
set_option linter.unusedSimpArgs false

-- NOT PRINTED: function 97 (api_Op_97)

-- NOT PRINTED: function 74 (api_Op_74)

/-! ### plan_Right: function 30 -/
def plan_Right.rd_rows (xs : List (List S39)) (i : Int) : List S39 := xs.getD i.toNat ([] : List S39)
theorem plan_Right.at_rows {w : World} {A : Option Addr} {n : Nat} {xs : List (List S39)} (h : Kd.C (Kd.slice 39 k39) w A n xs) (i : Int) (h0 : 0 ≤ i) (h1 : i < n) : ∃ ad A0 c0, A = some ad ∧ w.cell? (ad.add i.toNat) = some (.slice A0 (plan_Right.rd_rows xs i).length c0) ∧ (plan_Right.rd_rows xs i).length ≤ c0 ∧ k39.C w A0 (plan_Right.rd_rows xs i).length (plan_Right.rd_rows xs i) := by
  obtain ⟨ad, c, e, _, hK, hc0⟩ := Kd.C_get h ([] : List S39) i h0 h1
  have hc : ∀ j u, c[j]? = some u → w.cell? (ad.add (i.toNat * 1 + j)) = some u := hc0
  obtain ⟨A0, c0, rfl, l0, g0⟩ := hK
  exact ⟨ad, A0, c0, e, by have hq := hc 0 _ rfl; rwa [Nat.mul_one, Nat.add_zero] at hq, l0, g0⟩
def plan_Right.any (k : Nat) : List S39 → Option Bool
  | [] => some false
  | x :: r => (plan_RightOp.f k x.f0 x.f1 x.f2 x.f3 x.f4 x.f5).bind fun b => if b = true then plan_Right.any k r else some true
def plan_Right.rows (k : Nat) : List (List S39) → Option Bool
  | [] => some true
  | l :: r => if (l.length : Int) > 16 then some false else (plan_Right.any k l).bind fun b => if b = true then some false else plan_Right.rows k r
def plan_Right.f (k : Nat) (l0 : List (List S39)) : Option Bool := if (l0.length : Int) < 1 then some false else if (l0.length : Int) > 8 then some false else plan_Right.rows k l0
theorem plan_Right.any_mono (k : Nat) : ∀ l, LeO (plan_Right.any k l) (plan_Right.any (k + 1) l)
  | [] => LeO.refl _
  | _ :: r => LeO.bind (plan_RightOp.mono _ _ _ _ _ _ k) (fun _ => LeO.ite (plan_Right.any_mono k r) (LeO.refl _))
theorem plan_Right.rows_mono (k : Nat) : ∀ l, LeO (plan_Right.rows k l) (plan_Right.rows (k + 1) l)
  | [] => LeO.refl _
  | l :: r => LeO.ite (LeO.refl _) (LeO.bind (plan_Right.any_mono k l) (fun _ => LeO.ite (LeO.refl _) (plan_Right.rows_mono k r)))
theorem plan_Right.mono : ∀ a0 k, LeO (plan_Right.f k a0) (plan_Right.f (k + 1) a0) := fun a0 k => LeO.ite (LeO.refl _) (LeO.ite (LeO.refl _) (plan_Right.rows_mono k a0))
set_option maxHeartbeats 2000000 in
theorem plan_Right.not1 (k : Nat) (x : S39) (A : Option Addr) (c : Nat) (w : World) (hr : Kd.C k116 w A x.f4.length x.f4) (hc : x.f4.length ≤ c) (b : Bool) (h : plan_RightOp.f k x.f0 x.f1 x.f2 x.f3 x.f4 x.f5 = some b) :
    Calls Try.prog 75 #[.agg #[.int .i64 x.f0, .int .i64 x.f1, .int .i64 x.f2, .int .i64 x.f3, .slice A x.f4.length c, .bool x.f5]] w fun e w' => e = .returned (.bool (!b)) ∧ Below w.heap.size w w' := by
  obtain ⟨x0, x1, x2, x3, x4, x5⟩ := x
  simp only at hr hc h ⊢
  have HC := Aside0.mk (plan_RightOp.calls k x0 x1 x2 x3 A c x4 x5 b (w.alloc (.cells #[.int .i64 x0, .int .i64 x1, .int .i64 x2, .int .i64 x3, .slice A x4.length c, .bool x5] 39)) (Kd.C_alloc hr _) hc h)
  clear hr hc h
  go_enter Try.func75, Try.ntmps75
  go_wp2_with fail
  go_at_call 21
  refine HC.out.mono ?_
  rintro e w1 ⟨rfl, b1⟩
  have HB := Aside0.mk ((below_alloc (Below.refl w.heap.size w) (.cells #[.int .i64 x0, .int .i64 x1, .int .i64 x2, .int .i64 x3, .slice A x4.length c, .bool x5] 39)).trans (b1.mono (by simp)))
  clear b1
  go_wp2
  go_ret
  exact ⟨rfl, HB.out⟩
set_option maxHeartbeats 2000000 in
theorem plan_Right.index (k : Nat) (A : Option Addr) (c : Nat) (l : List S39) (w : World) (hr : Kd.C k39 w A l.length l) (hl : l.length ≤ 1000000) (b : Bool) (h : plan_Right.any k l = some b) :
    Calls Try.prog 97 #[.slice A l.length c, .func (.func 75) #[] #[]] w fun e w' => ∃ i : Int, e = .returned (.int .i64 i) ∧ decide (0 ≤ i) = b ∧ Below w.heap.size w w' := by
  have HR := Aside0.mk hr
  have hm := Kd.C_max hr
  have HA := Aside0.mk h
  have HB := Aside0.mk (Below.refl w.heap.size w)
  clear hr h
  go_enter Try.func97, Try.ntmps97
  go_wp2
  go_loopg [8] l.length (fun kq v8 wr => ∃ (i : Nat), v8 = .int .i64 i ∧ i ≤ l.length ∧ Aside0 (kq = l.length - i) ∧ Aside0 (plan_Right.any k (l.drop i) = some b) ∧ Aside0 (Below w.heap.size w wr))
  case atStart => exact ⟨0, rfl, by omega, ⟨by omega⟩, ⟨by rw [List.drop_zero]; exact HA.out⟩, HB⟩
  case round =>
    clear HB
    obtain ⟨i, rfl, hi, HK, HI, HB⟩ := hrel
    by_cases ci : i < l.length
    · have d1 : decide ((i : Int) < (l.length : Int)) = true := decide_eq_true (by omega)
      have d1' : decide (i < l.length) = true := decide_eq_true ci
      obtain ⟨ad, A4, c4, rfl, h0, h1, h2, h3, h4, h5, hl4, hc4⟩ := at_T39 (Kd.C_below HR.out HB.out) (i : Int) (by omega) (by omega)
      simp only [Int.toNat_natCast] at h0 h1 h2 h3 h4 h5
      obtain ⟨x, hx⟩ : ∃ x, rd_T39 l (i : Int) = x := ⟨_, rfl⟩
      rw [hx] at h0 h1 h2 h3 h4 h5 hl4 hc4
      have hd : l.drop i = x :: l.drop (i + 1) := by
        rw [List.drop_eq_getElem_cons ci, ← hx]
        congr 1
        unfold rd_T39
        simp [List.getD_eq_getElem?_getD, ci]
      have hI := HI.out
      rw [hd] at hI
      simp only [plan_Right.any] at hI
      obtain ⟨b1, hb1, hI⟩ := Option.bind_eq_some_iff.1 hI
      have HN := Aside0.mk (plan_Right.not1 k x A4 c4 wr hc4 hl4 b1 hb1)
      have HI2 := Aside0.mk hI
      clear hx hd hI hb1 hl4 hc4 HI
      go_wp2_with fail
      go_at_call 75
      refine HN.out.mono ?_
      rintro e w1 ⟨rfl, b2⟩
      have HB2 := Aside0.mk (HB.out.trans (b2.mono HB.out.size))
      clear b2 HN h0 h1 h2 h3 h4 h5
      cases b1 with
      | true =>
        have hI := HI2.out
        rw [if_pos rfl] at hI
        have HI3 := Aside0.mk hI
        clear hI HI2
        go_wp2
        go_roundg (l.length - (i + 1))
        case measure => have := HK.out; omega
        case rel => exact ⟨i + 1, by go_num, by omega, ⟨rfl⟩, HI3, HB2⟩
      | false =>
        have hI := HI2.out
        rw [if_neg (by simp)] at hI
        have hb := Option.some.inj hI
        subst hb
        clear hI HI2
        go_wp2
        go_ret
        exact ⟨i, rfl, by simp, HB2.out⟩
    · have d1 : decide ((i : Int) < (l.length : Int)) = false := decide_eq_false (by omega)
      have d1' : decide (i < l.length) = false := decide_eq_false ci
      have hI := HI.out
      rw [List.drop_of_length_le (by omega)] at hI
      have hb := Option.some.inj hI
      subst hb
      clear hI HI
      go_wp2
      go_ret
      exact ⟨-1, rfl, by decide, HB.out⟩
set_option maxHeartbeats 2000000 in
theorem plan_Right.contains (k : Nat) (A : Option Addr) (c : Nat) (l : List S39) (w : World) (hr : Kd.C k39 w A l.length l) (hl : l.length ≤ 1000000) (b : Bool) (h : plan_Right.any k l = some b) :
    Calls Try.prog 74 #[.slice A l.length c, .func (.func 75) #[] #[]] w fun e w' => e = .returned (.bool b) ∧ Below w.heap.size w w' := by
  have HC := Aside0.mk (plan_Right.index k A c l w hr hl b h)
  clear hr h
  go_enter Try.func74, Try.ntmps74
  go_wp2_with fail
  go_at_call 97
  refine HC.out.mono ?_
  rintro e w1 ⟨i, rfl, hb, b1⟩
  have HB := Aside0.mk b1
  clear b1
  go_wp2
  go_ret
  exact ⟨rfl, HB.out⟩
set_option maxHeartbeats 2000000 in
theorem plan_Right.calls (k : Nat) (A0 : Option Addr) (c0 : Nat) (l0 : List (List (S39))) (r : Bool) (w : World) (hr0 : Kd.C (Kd.slice 39 k39) w A0 l0.length l0) (_hc0 : l0.length ≤ c0) (h : plan_Right.f k l0 = some r) :
  Calls Try.prog 30 #[.slice A0 l0.length c0] w fun e w' => e = .returned (.bool r) ∧ Below w.heap.size w w' := by
 have hm := Kd.C_max hr0
 have HR := Aside0.mk hr0
 have HB := Aside0.mk (Below.refl w.heap.size w)
 unfold plan_Right.f at h
 clear hr0
 by_cases c1 : (l0.length : Int) < 1
 ·rw [if_pos c1] at h
  have hb := Option.some.inj h
  subst hb
  have d1 : decide ((l0.length : Int) < 1) = true := decide_eq_true c1
  have d1' : decide (l0.length < 1) = true := decide_eq_true (by omega)
  clear h c1
  go_enter Try.func30, Try.ntmps30
  go_wp2
  go_ret
  exact ⟨rfl, HB.out⟩
 ·rw [if_neg c1] at h
  have d1 : decide ((l0.length : Int) < 1) = false := decide_eq_false c1
  have d1' : decide (l0.length < 1) = false := decide_eq_false (by omega)
  by_cases c2 : (l0.length : Int) > 8
  ·rw [if_pos c2] at h
   have hb := Option.some.inj h
   subst hb
   have d2 : decide (8 < (l0.length : Int)) = true := decide_eq_true c2
   have d2' : decide (8 < l0.length) = true := decide_eq_true (by omega)
   clear h c1 c2
   go_enter Try.func30, Try.ntmps30
   go_wp2
   go_ret
   exact ⟨rfl, HB.out⟩
  ·rw [if_neg c2] at h
   have d2 : decide (8 < (l0.length : Int)) = false := decide_eq_false c2
   have d2' : decide (8 < l0.length) = false := decide_eq_false (by omega)
   have HA := Aside0.mk h
   clear h c1 c2
   go_enter Try.func30, Try.ntmps30
   go_wp2
   go_loopg [15] l0.length (fun kq v15 wr => ∃ (i : Nat), v15 = .int .i64 i ∧ i ≤ l0.length ∧ Aside0 (kq = l0.length - i) ∧ Aside0 (plan_Right.rows k (l0.drop i) = some r) ∧ Aside0 (Below w.heap.size w wr))
   case atStart => exact ⟨0, rfl, by omega, ⟨by omega⟩, ⟨by rw [List.drop_zero]; exact HA.out⟩, HB⟩
   case round =>
    clear HB
    obtain ⟨i, rfl, hi, HK, HI, HB⟩ := hrel
    by_cases ci : i < l0.length
    ·have d3 : decide ((i : Int) < (l0.length : Int)) = true := decide_eq_true (by omega)
     have d3' : decide (i < l0.length) = true := decide_eq_true ci
     obtain ⟨ad, A5, c5, rfl, hx0, hl5, hc5⟩ := plan_Right.at_rows (Kd.C_below HR.out HB.out) (i : Int) (by omega) (by omega)
     simp only [Int.toNat_natCast] at hx0
     obtain ⟨x, hx⟩ : ∃ x, plan_Right.rd_rows l0 (i : Int) = x := ⟨_, rfl⟩
     rw [hx] at hx0 hl5 hc5
     have hd : l0.drop i = x :: l0.drop (i + 1) := by
      rw [List.drop_eq_getElem_cons ci, ← hx]
      congr 1
      unfold plan_Right.rd_rows
      simp [List.getD_eq_getElem?_getD, ci]
     have hI := HI.out
     rw [hd] at hI
     simp only [plan_Right.rows] at hI
     clear hx hd HI
     by_cases c3 : (x.length : Int) > 16
     ·rw [if_pos c3] at hI
      have hb := Option.some.inj hI
      subst hb
      have d4 : decide (16 < (x.length : Int)) = true := decide_eq_true c3
      have d4' : decide (16 < x.length) = true := decide_eq_true (by omega)
      clear hI c3 hc5
      go_wp2
      go_ret
      exact ⟨rfl, HB.out⟩
     ·rw [if_neg c3] at hI
      have d4 : decide (16 < (x.length : Int)) = false := decide_eq_false c3
      have d4' : decide (16 < x.length) = false := decide_eq_false (by omega)
      obtain ⟨b1, hb1, hI⟩ := Option.bind_eq_some_iff.1 hI
      have HN := Aside0.mk (plan_Right.contains k A5 c5 x wr hc5 (by omega) b1 hb1)
      have HI2 := Aside0.mk hI
      clear hI hb1 hl5 hc5 c3
      go_wp2_with fail
      go_at_call 74
      refine HN.out.mono ?_
      rintro e w1 ⟨rfl, b2⟩
      have HB2 := Aside0.mk (HB.out.trans (b2.mono HB.out.size))
      clear b2 HN hx0
      cases b1 with
      | true =>
       have hI := HI2.out
       rw [if_pos rfl] at hI
       have hb := Option.some.inj hI
       subst hb
       clear hI HI2
       go_wp2
       go_ret
       exact ⟨rfl, HB2.out⟩
      | false =>
       have hI := HI2.out
       rw [if_neg (by simp)] at hI
       have HI3 := Aside0.mk hI
       clear hI HI2
       go_wp2
       go_roundg (l0.length - (i + 1))
       case measure => have := HK.out; omega
       case rel => exact ⟨i + 1, by go_num, by omega, ⟨rfl⟩, HI3, HB2⟩
    ·have d3 : decide ((i : Int) < (l0.length : Int)) = false := decide_eq_false (by omega)
     have d3' : decide (i < l0.length) = false := decide_eq_false ci
     have hI := HI.out
     rw [List.drop_of_length_le (by omega)] at hI
     have hb := Option.some.inj hI
     subst hb
     clear hI HI
     go_wp2
     go_ret
     exact ⟨rfl, HB.out⟩

/-! ### plan_bit: function 96 -/
def plan_bit.f (a0 : Bool) : Option (Int) := if a0 = true then (some 1) else (some 0)
set_option maxHeartbeats 8000000 in
set_option maxRecDepth 100000 in
theorem plan_bit.calls (a0 : Bool) (r : Int) (w : World) (h : plan_bit.f a0 = some r) :
  Calls Try.prog 96 #[.bool a0] w fun e w' => e = .returned (.int .u8 r) ∧ Drawn0 w w' := by
 have H : (if a0 = true then (some 1) else (some 0)) = some r := h
 clear h
 by_cases c2 : a0 = true
 ·subst c2
  have H1 : (some 1) = some r := by rw [if_pos rfl] at H; exact H
  clear H
  have H := H1
  clear H1
  obtain rfl := Option.some.inj H
  go_enter Try.func96, Try.ntmps96
  go_wp2
  go_ret
  exact ⟨by first | rfl | (simp; done) | (simp [*]; done), by repeat (first | exact Drawn0.refl _ | apply Drawn0.step)⟩
 ·replace c2 := Bool.eq_false_iff.mpr c2
  subst c2
  have H1 : (some 0) = some r := by rw [if_neg (show ¬ (false = true) by decide)] at H; exact H
  clear H
  have H := H1
  clear H1
  obtain rfl := Option.some.inj H
  go_enter Try.func96, Try.ntmps96
  go_wp2
  go_ret
  exact ⟨by first | rfl | (simp; done) | (simp [*]; done), by repeat (first | exact Drawn0.refl _ | apply Drawn0.step)⟩

end Go.Proofs.Ytjmpaeckpbpclaa.PPlK
