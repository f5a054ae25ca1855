-- Out of the translation, by a program of this session.
import Derived.Test.YtifajoehlgdgaaaPShufBx0
import Derived.Test.YtifajoehlgdgaaaPShufBx1
import Derived.Test.YtifajoehlgdgaaaPShufBx2
namespace Go.Proofs.Ytifajoehlgdgaaa.PShufB
open Go.RowKit Go.Proofs.YtifajoehlgdgaaaW.PrintWords Go.Proofs.YtifajoehlgdgaaaW.PrintLast Go.Proofs.YtifajoehlgdgaaaW.PrintMore
attribute [local go_sem] max2_int min2_int max_two min_two max_three min_three max_four min_four   -- for this text's walks alone
set_option linter.unusedVariables false
set_option linter.unusedSimpArgs false

/-! ### handofflaw02_ShuffleBack: function 7 -/
mutual
def handofflaw02_ShuffleBack.j0 : Nat → List Int → List Int → Bool → Option (Bool)
  | 0, _, _, _ => none
  | k + 1, x0, x4, x40 => if x40 = true then (some false) else (handofflaw02_ShuffleBack.l0 k x4 x0 (x0.length : Int) 0)
def handofflaw02_ShuffleBack.l0 : Nat → List Int → List Int → Int → Int → Option (Bool)
  | 0, _, _, _, _ => none
  | k + 1, x4, x41, x42, x43 => if x43 < x42 then (if 0 ≤ x43 then (if x43 < (x41.length : Int) then (if x43 < (x4.length : Int) then (if (rd x4 x43) < 0 then (some false) else (if (rd x4 x43) > x43 then (some false) else (if (wrap64 (x43 + 1)) = 0 then (none) else (if (Int.tmod (wrap64 ((wrap64 ((Int.tmod (rd x41 x43) (wrap64 (x43 + 1))) + x43)) + 1)) (wrap64 (x43 + 1))) = (rd x4 x43) then (handofflaw02_ShuffleBack.l0 k x4 x41 x42 (wrap64 (x43 + 1))) else (some false))))) else (none)) else (none)) else (none)) else (some true)
end
def handofflaw02_ShuffleBack.f (k : Nat) (l0 : List Int) : Option (Bool) := (handofflaw02_shuffleAlive.f k).bind fun t144 => (if t144 = true then (if (l0.length : Int) > 60 then (some true) else ((shuffle_Order.f k l0).bind fun t145 => ((shuffle_Draws.f k t145).bind fun bt148 => (if bt148.2 = true then ((shuffle_Is.f k t145).bind fun t152 => (if t152 = true then (if (bt148.1.length : Int) = (l0.length : Int) then ((shuffle_Order.f k bt148.1).bind fun t153 => ((handoffref02_Same.f k t153 t145).bind fun t156 => (handofflaw02_ShuffleBack.j0 k l0 bt148.1 (!t156)))) else (handofflaw02_ShuffleBack.j0 k l0 bt148.1 true)) else (handofflaw02_ShuffleBack.j0 k l0 bt148.1 true))) else (handofflaw02_ShuffleBack.j0 k l0 bt148.1 true))))) else (some false))
theorem handofflaw02_ShuffleBack.mono_l : ∀ k, (∀ y0 y1 y2, LeO (handofflaw02_ShuffleBack.j0 k y0 y1 y2) (handofflaw02_ShuffleBack.j0 (k + 1) y0 y1 y2)) ∧ (∀ y0 y1 y2 y3, LeO (handofflaw02_ShuffleBack.l0 k y0 y1 y2 y3) (handofflaw02_ShuffleBack.l0 (k + 1) y0 y1 y2 y3))
  | 0 => ⟨fun _ _ _ r h => by simp [handofflaw02_ShuffleBack.j0] at h, fun _ _ _ _ r h => by simp [handofflaw02_ShuffleBack.l0] at h⟩
  | k + 1 => by
    obtain ⟨ih0, ih1⟩ := handofflaw02_ShuffleBack.mono_l k
    refine ⟨?_, ?_⟩
    · intro y0 y1 y2
      unfold handofflaw02_ShuffleBack.j0
      repeat' first
      | (with_reducible exact ih0 _ _ _)
      | (with_reducible exact ih1 _ _ _ _)
      | (with_reducible exact handofflaw02_shuffleAlive.mono _)
      | (with_reducible exact handoffref02_Same.mono _ _ _)
      | (with_reducible exact shuffle_Draws.mono _ _)
      | (with_reducible exact shuffle_Is.mono _ _)
      | (with_reducible exact shuffle_Order.mono _ _)
      | (with_reducible exact LeO.refl _)
      | (with_reducible exact LeO.none _)
      | (with_reducible refine LeO.ite ?_ ?_)
      | (with_reducible refine LeO.bind ?_ (fun _ => ?_))
      | exact ih0 _ _ _
      | exact ih1 _ _ _ _
      | exact handofflaw02_shuffleAlive.mono _
      | exact handoffref02_Same.mono _ _ _
      | exact shuffle_Draws.mono _ _
      | exact shuffle_Is.mono _ _
      | exact shuffle_Order.mono _ _
      | exact LeO.none _
      | refine LeO.ite ?_ ?_
      | refine LeO.bind ?_ (fun _ => ?_)
    · intro y0 y1 y2 y3
      unfold handofflaw02_ShuffleBack.l0
      repeat' first
      | (with_reducible exact ih0 _ _ _)
      | (with_reducible exact ih1 _ _ _ _)
      | (with_reducible exact handofflaw02_shuffleAlive.mono _)
      | (with_reducible exact handoffref02_Same.mono _ _ _)
      | (with_reducible exact shuffle_Draws.mono _ _)
      | (with_reducible exact shuffle_Is.mono _ _)
      | (with_reducible exact shuffle_Order.mono _ _)
      | (with_reducible exact LeO.refl _)
      | (with_reducible exact LeO.none _)
      | (with_reducible refine LeO.ite ?_ ?_)
      | (with_reducible refine LeO.bind ?_ (fun _ => ?_))
      | exact ih0 _ _ _
      | exact ih1 _ _ _ _
      | exact handofflaw02_shuffleAlive.mono _
      | exact handoffref02_Same.mono _ _ _
      | exact shuffle_Draws.mono _ _
      | exact shuffle_Is.mono _ _
      | exact shuffle_Order.mono _ _
      | exact LeO.none _
      | refine LeO.ite ?_ ?_
      | refine LeO.bind ?_ (fun _ => ?_)
theorem handofflaw02_ShuffleBack.mono : ∀ a0 k, LeO (handofflaw02_ShuffleBack.f k a0) (handofflaw02_ShuffleBack.f (k + 1) a0) := by
  intro a0 k
  obtain ⟨ih0, ih1⟩ := handofflaw02_ShuffleBack.mono_l k
  unfold handofflaw02_ShuffleBack.f
  repeat' first
      | (with_reducible exact ih0 _ _ _)
      | (with_reducible exact ih1 _ _ _ _)
      | (with_reducible exact handofflaw02_shuffleAlive.mono _)
      | (with_reducible exact handoffref02_Same.mono _ _ _)
      | (with_reducible exact shuffle_Draws.mono _ _)
      | (with_reducible exact shuffle_Is.mono _ _)
      | (with_reducible exact shuffle_Order.mono _ _)
      | (with_reducible exact LeO.refl _)
      | (with_reducible exact LeO.none _)
      | (with_reducible refine LeO.ite ?_ ?_)
      | (with_reducible refine LeO.bind ?_ (fun _ => ?_))
      | exact ih0 _ _ _
      | exact ih1 _ _ _ _
      | exact handofflaw02_shuffleAlive.mono _
      | exact handoffref02_Same.mono _ _ _
      | exact shuffle_Draws.mono _ _
      | exact shuffle_Is.mono _ _
      | exact shuffle_Order.mono _ _
      | exact LeO.none _
      | refine LeO.ite ?_ ?_
      | refine LeO.bind ?_ (fun _ => ?_)
set_option maxHeartbeats 8000000 in
set_option maxRecDepth 100000 in
theorem handofflaw02_ShuffleBack.calls (k : Nat) (A0 : Option Addr) (c0 : Nat) (l0 : List Int) (r : Bool) (w : World) (hr0 : Kd.C (Kd.int .i64) w A0 l0.length l0) (hc0 : l0.length ≤ c0) (h : handofflaw02_ShuffleBack.f k l0 = some r) :
    Calls Try.prog 7 #[.slice A0 l0.length c0] w fun e w' => e = .returned (.bool r) ∧ Below w.heap.size w w' := by
  have HR0 := Aside0.mk hr0
  have HC0 := Aside0.mk hc0
  clear hr0 hc0
  have HB := Aside0.mk (Below.refl w.heap.size w)
  have H : ((handofflaw02_shuffleAlive.f k).bind fun t144 => (if t144 = true then (if (l0.length : Int) > 60 then (some true) else ((shuffle_Order.f k l0).bind fun t145 => ((shuffle_Draws.f k t145).bind fun bt148 => (if bt148.2 = true then ((shuffle_Is.f k t145).bind fun t152 => (if t152 = true then (if (bt148.1.length : Int) = (l0.length : Int) then ((shuffle_Order.f k bt148.1).bind fun t153 => ((handoffref02_Same.f k t153 t145).bind fun t156 => (handofflaw02_ShuffleBack.j0 k l0 bt148.1 (!t156)))) else (handofflaw02_ShuffleBack.j0 k l0 bt148.1 true)) else (handofflaw02_ShuffleBack.j0 k l0 bt148.1 true))) else (handofflaw02_ShuffleBack.j0 k l0 bt148.1 true))))) else (some false))) = some r := h
  clear h
  replace H := Option.bind_eq_some_iff.mp H
  obtain ⟨t144, A20, H⟩ := H
  replace H : (if t144 = true then (if (l0.length : Int) > 60 then (some true) else ((shuffle_Order.f k l0).bind fun t145 => ((shuffle_Draws.f k t145).bind fun bt148 => (if bt148.2 = true then ((shuffle_Is.f k t145).bind fun t152 => (if t152 = true then (if (bt148.1.length : Int) = (l0.length : Int) then ((shuffle_Order.f k bt148.1).bind fun t153 => ((handoffref02_Same.f k t153 t145).bind fun t156 => (handofflaw02_ShuffleBack.j0 k l0 bt148.1 (!t156)))) else (handofflaw02_ShuffleBack.j0 k l0 bt148.1 true)) else (handofflaw02_ShuffleBack.j0 k l0 bt148.1 true))) else (handofflaw02_ShuffleBack.j0 k l0 bt148.1 true))))) else (some false)) = some r := H
  have A2 := Aside0.mk A20
  clear A20
  by_cases c3 : t144 = true
  · subst c3
    have H1 : (if (l0.length : Int) > 60 then (some true) else ((shuffle_Order.f k l0).bind fun t145 => ((shuffle_Draws.f k t145).bind fun bt148 => (if bt148.2 = true then ((shuffle_Is.f k t145).bind fun t152 => (if t152 = true then (if (bt148.1.length : Int) = (l0.length : Int) then ((shuffle_Order.f k bt148.1).bind fun t153 => ((handoffref02_Same.f k t153 t145).bind fun t156 => (handofflaw02_ShuffleBack.j0 k l0 bt148.1 (!t156)))) else (handofflaw02_ShuffleBack.j0 k l0 bt148.1 true)) else (handofflaw02_ShuffleBack.j0 k l0 bt148.1 true))) else (handofflaw02_ShuffleBack.j0 k l0 bt148.1 true))))) = some r := by rw [if_pos rfl] at H; exact H
    clear H
    have H := H1
    clear H1
    by_cases c4 : (l0.length : Int) > 60
    · rw [if_pos c4] at H
      have c4b0 : decide (60 < (l0.length : Int)) = true := decide_eq_true c4
      have c4b1 : decide (60 < l0.length) = true := decide_eq_true (by omega)
      clear c4
      obtain rfl := Option.some.inj H
      go_enter Try.func7, Try.ntmps7
      go_wp2_with (first | (go_at_call 15; (with_reducible refine (handofflaw02_shuffleAlive.calls k  true _ A2.out).mono ?_); rintro e w5 ⟨rfl, hb⟩; have n0_ := Aside0.mk (below_step (by repeat (first | (with_reducible first | exact HB.out | apply below_alloc | apply pw_below_drewN | apply below_drew1) | exact HB.out)) hb); clear HB; have HB := n0_; clear n0_; (try clear hb); (try clear hb2); (try clear hk); (try clear hi)))
      repeat (go_quiet (first | (go_at_call 15; (with_reducible refine (handofflaw02_shuffleAlive.calls k  true _ A2.out).mono ?_); rintro e w5 ⟨rfl, hb⟩; have n0_ := Aside0.mk (below_step (by repeat (first | (with_reducible first | exact HB.out | apply below_alloc | apply pw_below_drewN | apply below_drew1) | exact HB.out)) hb); clear HB; have HB := n0_; clear n0_; (try clear hb); (try clear hb2); (try clear hk); (try clear hi))); try go_wp2_with (first | (go_at_call 15; (with_reducible refine (handofflaw02_shuffleAlive.calls k  true _ A2.out).mono ?_); rintro e w5 ⟨rfl, hb⟩; have n0_ := Aside0.mk (below_step (by repeat (first | (with_reducible first | exact HB.out | apply below_alloc | apply pw_below_drewN | apply below_drew1) | exact HB.out)) hb); clear HB; have HB := n0_; clear n0_; (try clear hb); (try clear hb2); (try clear hk); (try clear hi))))
      go_ret
      exact ⟨by first | rfl | (simp [errW_none, errW_some] <;> rfl) | (simp [*, errW_none, errW_some] <;> rfl), by repeat (first | (with_reducible first | exact HB.out | apply below_alloc | apply pw_below_drewN | apply below_drew1) | exact HB.out)⟩
    · rw [if_neg c4] at H
      have c4b0 : decide (60 < (l0.length : Int)) = false := decide_eq_false c4
      have c4b1 : decide (60 < l0.length) = false := decide_eq_false (by omega)
      clear c4
      replace H := Option.bind_eq_some_iff.mp H
      obtain ⟨t145, A60, H⟩ := H
      replace H : ((shuffle_Draws.f k t145).bind fun bt148 => (if bt148.2 = true then ((shuffle_Is.f k t145).bind fun t152 => (if t152 = true then (if (bt148.1.length : Int) = (l0.length : Int) then ((shuffle_Order.f k bt148.1).bind fun t153 => ((handoffref02_Same.f k t153 t145).bind fun t156 => (handofflaw02_ShuffleBack.j0 k l0 bt148.1 (!t156)))) else (handofflaw02_ShuffleBack.j0 k l0 bt148.1 true)) else (handofflaw02_ShuffleBack.j0 k l0 bt148.1 true))) else (handofflaw02_ShuffleBack.j0 k l0 bt148.1 true))) = some r := H
      have A6 := Aside0.mk A60
      clear A60
      replace H := Option.bind_eq_some_iff.mp H
      obtain ⟨⟨t148, t149⟩, A70, H⟩ := H
      replace H : (if t149 = true then ((shuffle_Is.f k t145).bind fun t152 => (if t152 = true then (if (t148.length : Int) = (l0.length : Int) then ((shuffle_Order.f k t148).bind fun t153 => ((handoffref02_Same.f k t153 t145).bind fun t156 => (handofflaw02_ShuffleBack.j0 k l0 t148 (!t156)))) else (handofflaw02_ShuffleBack.j0 k l0 t148 true)) else (handofflaw02_ShuffleBack.j0 k l0 t148 true))) else (handofflaw02_ShuffleBack.j0 k l0 t148 true)) = some r := H
      have A7 := Aside0.mk A70
      clear A70
      have HC8 := Aside0.mk H
      clear H
      go_enter Try.func7, Try.ntmps7
      go_upto_region 7 with (first | (go_at_call 15; (with_reducible refine (handofflaw02_shuffleAlive.calls k  true _ A2.out).mono ?_); rintro e w9 ⟨rfl, hb⟩; have n0_ := Aside0.mk (below_step (by repeat (first | (with_reducible first | exact HB.out | apply below_alloc | apply pw_below_drewN | apply below_drew1) | exact HB.out)) hb); clear HB; have HB := n0_; clear n0_; (try clear hb); (try clear hb2); (try clear hk); (try clear hi)) | (go_at_call 17; (with_reducible refine (shuffle_Order.calls k _ _ l0 t145 _ ?side1 ?side2 A6.out).mono ?_); (case side1 => repeat (first | exact (Kd.C_below HR0.out HB.out) | (with_reducible refine Kd.C_alloc ?_ _) | (with_reducible refine Kd.C_drewN ?_ _) | (with_reducible refine Kd.C_drew ?_))); (case side2 => exact HC0.out); rintro e w10 ⟨v146, rfl, ho0, hb⟩; have n0_ := Aside0.mk (Kd.R_lower ho0 (below_size (by repeat (first | (with_reducible first | exact HB.out | apply below_alloc | apply pw_below_drewN | apply below_drew1) | exact HB.out)))); have n1_ := Aside0.mk (below_step (by repeat (first | (with_reducible first | exact HB.out | apply below_alloc | apply pw_below_drewN | apply below_drew1) | exact HB.out)) hb); clear HB; have HO147 := n0_; have HB := n1_; clear n0_ n1_; (try clear hb); (try clear hb2); (try clear hk); (try clear hi); (try clear ho0); obtain ⟨Ao11, co11, eo11⟩ := Kd.R_slice HO147.out; subst eo11) | (go_at_call 22; (with_reducible refine (shuffle_Draws.calls k _ _ t145 t148 t149 _ ?side1 ?side2 A7.out).mono ?_); (case side1 => repeat (first | exact (Kd.R_reads' HO147.out).2.2 | (with_reducible refine Kd.C_alloc ?_ _) | (with_reducible refine Kd.C_drewN ?_ _) | (with_reducible refine Kd.C_drew ?_))); (case side2 => exact (Kd.R_reads' HO147.out).2.1); rintro e w12 ⟨v150, rfl, ho0, hb⟩; have n0_ := Aside0.mk (Kd.R_elder' (by (with_reducible repeat (first | apply Kd.R_alloc | apply Kd.R_drewN | apply Kd.R_drew)); exact HO147.out) (Kd.R_base ho0) hb); have n1_ := Aside0.mk (Kd.R_lower (Kd.R_new' ho0 (Kd.R_lt (by (with_reducible repeat (first | apply Kd.R_alloc | apply Kd.R_drewN | apply Kd.R_drew)); exact HO147.out))) (below_size (by repeat (first | (with_reducible first | exact HB.out | apply below_alloc | apply pw_below_drewN | apply below_drew1) | exact HB.out)))); have n2_ := Aside0.mk (below_step (by repeat (first | (with_reducible first | exact HB.out | apply below_alloc | apply pw_below_drewN | apply below_drew1) | exact HB.out)) hb); clear HO147; clear HB; have HO147 := n0_; have HO151 := n1_; have HB := n2_; clear n0_ n1_ n2_; (try clear hb); (try clear hb2); (try clear hk); (try clear hi); (try clear ho0)))
      repeat (go_quiet (first | (go_at_call 15; (with_reducible refine (handofflaw02_shuffleAlive.calls k  true _ A2.out).mono ?_); rintro e w9 ⟨rfl, hb⟩; have n0_ := Aside0.mk (below_step (by repeat (first | (with_reducible first | exact HB.out | apply below_alloc | apply pw_below_drewN | apply below_drew1) | exact HB.out)) hb); clear HB; have HB := n0_; clear n0_; (try clear hb); (try clear hb2); (try clear hk); (try clear hi)) | (go_at_call 17; (with_reducible refine (shuffle_Order.calls k _ _ l0 t145 _ ?side1 ?side2 A6.out).mono ?_); (case side1 => repeat (first | exact (Kd.C_below HR0.out HB.out) | (with_reducible refine Kd.C_alloc ?_ _) | (with_reducible refine Kd.C_drewN ?_ _) | (with_reducible refine Kd.C_drew ?_))); (case side2 => exact HC0.out); rintro e w10 ⟨v146, rfl, ho0, hb⟩; have n0_ := Aside0.mk (Kd.R_lower ho0 (below_size (by repeat (first | (with_reducible first | exact HB.out | apply below_alloc | apply pw_below_drewN | apply below_drew1) | exact HB.out)))); have n1_ := Aside0.mk (below_step (by repeat (first | (with_reducible first | exact HB.out | apply below_alloc | apply pw_below_drewN | apply below_drew1) | exact HB.out)) hb); clear HB; have HO147 := n0_; have HB := n1_; clear n0_ n1_; (try clear hb); (try clear hb2); (try clear hk); (try clear hi); (try clear ho0); obtain ⟨Ao11, co11, eo11⟩ := Kd.R_slice HO147.out; subst eo11) | (go_at_call 22; (with_reducible refine (shuffle_Draws.calls k _ _ t145 t148 t149 _ ?side1 ?side2 A7.out).mono ?_); (case side1 => repeat (first | exact (Kd.R_reads' HO147.out).2.2 | (with_reducible refine Kd.C_alloc ?_ _) | (with_reducible refine Kd.C_drewN ?_ _) | (with_reducible refine Kd.C_drew ?_))); (case side2 => exact (Kd.R_reads' HO147.out).2.1); rintro e w12 ⟨v150, rfl, ho0, hb⟩; have n0_ := Aside0.mk (Kd.R_elder' (by (with_reducible repeat (first | apply Kd.R_alloc | apply Kd.R_drewN | apply Kd.R_drew)); exact HO147.out) (Kd.R_base ho0) hb); have n1_ := Aside0.mk (Kd.R_lower (Kd.R_new' ho0 (Kd.R_lt (by (with_reducible repeat (first | apply Kd.R_alloc | apply Kd.R_drewN | apply Kd.R_drew)); exact HO147.out))) (below_size (by repeat (first | (with_reducible first | exact HB.out | apply below_alloc | apply pw_below_drewN | apply below_drew1) | exact HB.out)))); have n2_ := Aside0.mk (below_step (by repeat (first | (with_reducible first | exact HB.out | apply below_alloc | apply pw_below_drewN | apply below_drew1) | exact HB.out)) hb); clear HO147; clear HB; have HO147 := n0_; have HO151 := n1_; have HB := n2_; clear n0_ n1_ n2_; (try clear hb); (try clear hb2); (try clear hk); (try clear hi); (try clear ho0))); go_upto_region 7 with (first | (go_at_call 15; (with_reducible refine (handofflaw02_shuffleAlive.calls k  true _ A2.out).mono ?_); rintro e w9 ⟨rfl, hb⟩; have n0_ := Aside0.mk (below_step (by repeat (first | (with_reducible first | exact HB.out | apply below_alloc | apply pw_below_drewN | apply below_drew1) | exact HB.out)) hb); clear HB; have HB := n0_; clear n0_; (try clear hb); (try clear hb2); (try clear hk); (try clear hi)) | (go_at_call 17; (with_reducible refine (shuffle_Order.calls k _ _ l0 t145 _ ?side1 ?side2 A6.out).mono ?_); (case side1 => repeat (first | exact (Kd.C_below HR0.out HB.out) | (with_reducible refine Kd.C_alloc ?_ _) | (with_reducible refine Kd.C_drewN ?_ _) | (with_reducible refine Kd.C_drew ?_))); (case side2 => exact HC0.out); rintro e w10 ⟨v146, rfl, ho0, hb⟩; have n0_ := Aside0.mk (Kd.R_lower ho0 (below_size (by repeat (first | (with_reducible first | exact HB.out | apply below_alloc | apply pw_below_drewN | apply below_drew1) | exact HB.out)))); have n1_ := Aside0.mk (below_step (by repeat (first | (with_reducible first | exact HB.out | apply below_alloc | apply pw_below_drewN | apply below_drew1) | exact HB.out)) hb); clear HB; have HO147 := n0_; have HB := n1_; clear n0_ n1_; (try clear hb); (try clear hb2); (try clear hk); (try clear hi); (try clear ho0); obtain ⟨Ao11, co11, eo11⟩ := Kd.R_slice HO147.out; subst eo11) | (go_at_call 22; (with_reducible refine (shuffle_Draws.calls k _ _ t145 t148 t149 _ ?side1 ?side2 A7.out).mono ?_); (case side1 => repeat (first | exact (Kd.R_reads' HO147.out).2.2 | (with_reducible refine Kd.C_alloc ?_ _) | (with_reducible refine Kd.C_drewN ?_ _) | (with_reducible refine Kd.C_drew ?_))); (case side2 => exact (Kd.R_reads' HO147.out).2.1); rintro e w12 ⟨v150, rfl, ho0, hb⟩; have n0_ := Aside0.mk (Kd.R_elder' (by (with_reducible repeat (first | apply Kd.R_alloc | apply Kd.R_drewN | apply Kd.R_drew)); exact HO147.out) (Kd.R_base ho0) hb); have n1_ := Aside0.mk (Kd.R_lower (Kd.R_new' ho0 (Kd.R_lt (by (with_reducible repeat (first | apply Kd.R_alloc | apply Kd.R_drewN | apply Kd.R_drew)); exact HO147.out))) (below_size (by repeat (first | (with_reducible first | exact HB.out | apply below_alloc | apply pw_below_drewN | apply below_drew1) | exact HB.out)))); have n2_ := Aside0.mk (below_step (by repeat (first | (with_reducible first | exact HB.out | apply below_alloc | apply pw_below_drewN | apply below_drew1) | exact HB.out)) hb); clear HO147; clear HB; have HO147 := n0_; have HO151 := n1_; have HB := n2_; clear n0_ n1_ n2_; (try clear hb); (try clear hb2); (try clear hk); (try clear hi); (try clear ho0))))
      (try simp only [Act.put, List.setIfInBounds_toArray, List.set_cons_zero, List.set_cons_succ])
      go_cut [40] (fun v40 wc => ∃ (kq : Nat) (x40_7 : Bool), v40 = .bool x40_7 ∧ Aside0 (handofflaw02_ShuffleBack.j0 kq l0 t148 x40_7 = some r) ∧ Aside0 (kq ≤ k) ∧ Aside0 (Kd.R (Kd.int .i64) 3 wc w.heap.size (fun _ => True) v150 t148) ∧ Aside0 (Below w.heap.size w wc))
      case first =>
        have H := HC8.out
        clear HC8
        by_cases c13 : t149 = true
        · subst c13
          have H1 : ((shuffle_Is.f k t145).bind fun t152 => (if t152 = true then (if (t148.length : Int) = (l0.length : Int) then ((shuffle_Order.f k t148).bind fun t153 => ((handoffref02_Same.f k t153 t145).bind fun t156 => (handofflaw02_ShuffleBack.j0 k l0 t148 (!t156)))) else (handofflaw02_ShuffleBack.j0 k l0 t148 true)) else (handofflaw02_ShuffleBack.j0 k l0 t148 true))) = some r := by rw [if_pos rfl] at H; exact H
          clear H
          have H := H1
          clear H1
          replace H := Option.bind_eq_some_iff.mp H
          obtain ⟨t152, A140, H⟩ := H
          replace H : (if t152 = true then (if (t148.length : Int) = (l0.length : Int) then ((shuffle_Order.f k t148).bind fun t153 => ((handoffref02_Same.f k t153 t145).bind fun t156 => (handofflaw02_ShuffleBack.j0 k l0 t148 (!t156)))) else (handofflaw02_ShuffleBack.j0 k l0 t148 true)) else (handofflaw02_ShuffleBack.j0 k l0 t148 true)) = some r := H
          have A14 := Aside0.mk A140
          clear A140
          by_cases c15 : t152 = true
          · subst c15
            have H1 : (if (t148.length : Int) = (l0.length : Int) then ((shuffle_Order.f k t148).bind fun t153 => ((handoffref02_Same.f k t153 t145).bind fun t156 => (handofflaw02_ShuffleBack.j0 k l0 t148 (!t156)))) else (handofflaw02_ShuffleBack.j0 k l0 t148 true)) = some r := by rw [if_pos rfl] at H; exact H
            clear H
            have H := H1
            clear H1
            by_cases c16 : (t148.length : Int) = (l0.length : Int)
            · rw [if_pos c16] at H
              have c16b0 : ((t148.length : Int) == (l0.length : Int)) = true := beq_iff_eq.mpr c16
              have c16b1 : ((t148.length : Int) != (l0.length : Int)) = false := bne_eq_false_iff_eq.mpr c16
              have c16b2 : (t148.length == l0.length) = true := by first | simpa using c16 | (simp at c16 ⊢; omega)
              clear c16
              (first | rw [c16b0] | (simp only [i64_w, i32_w]; rw [c16b0]) | skip)
              replace H := Option.bind_eq_some_iff.mp H
              obtain ⟨t153, A170, H⟩ := H
              replace H : ((handoffref02_Same.f k t153 t145).bind fun t156 => (handofflaw02_ShuffleBack.j0 k l0 t148 (!t156))) = some r := H
              have A17 := Aside0.mk A170
              clear A170
              replace H := Option.bind_eq_some_iff.mp H
              obtain ⟨t156, A180, H⟩ := H
              replace H : (handofflaw02_ShuffleBack.j0 k l0 t148 (!t156)) = some r := H
              have A18 := Aside0.mk A180
              clear A180
              have H' := Aside0.mk H
              clear H
              go_wp2_with (first | (go_at_call 25; (with_reducible refine (shuffle_Is.calls k _ _ t145 true _ ?side1 ?side2 A14.out).mono ?_); (case side1 => repeat (first | exact (Kd.R_reads' HO147.out).2.2 | (with_reducible refine Kd.C_alloc ?_ _) | (with_reducible refine Kd.C_drewN ?_ _) | (with_reducible refine Kd.C_drew ?_))); (case side2 => exact (Kd.R_reads' HO147.out).2.1); rintro e w19 ⟨rfl, hb⟩; have n0_ := Aside0.mk (Kd.R_below (by (with_reducible repeat (first | apply Kd.R_alloc | apply Kd.R_drewN | apply Kd.R_drew)); exact HO147.out) hb); have n1_ := Aside0.mk (Kd.R_below (by (with_reducible repeat (first | apply Kd.R_alloc | apply Kd.R_drewN | apply Kd.R_drew)); exact HO151.out) hb); have n2_ := Aside0.mk (below_step (by repeat (first | (with_reducible first | exact HB.out | apply below_alloc | apply pw_below_drewN | apply below_drew1) | exact HB.out)) hb); clear HO147; clear HO151; clear HB; have HO147 := n0_; have HO151 := n1_; have HB := n2_; clear n0_ n1_ n2_; (try clear hb); (try clear hb2); (try clear hk); (try clear hi); obtain ⟨Ao20, co20, eo20⟩ := Kd.R_slice HO151.out; subst eo20) | (go_at_call 17; (with_reducible refine (shuffle_Order.calls k _ _ t148 t153 _ ?side1 ?side2 A17.out).mono ?_); (case side1 => repeat (first | exact (Kd.R_reads' HO151.out).2.2 | (with_reducible refine Kd.C_alloc ?_ _) | (with_reducible refine Kd.C_drewN ?_ _) | (with_reducible refine Kd.C_drew ?_))); (case side2 => exact (Kd.R_reads' HO151.out).2.1); rintro e w21 ⟨v154, rfl, ho0, hb⟩; have n0_ := Aside0.mk (Kd.R_elder' (by (with_reducible repeat (first | apply Kd.R_alloc | apply Kd.R_drewN | apply Kd.R_drew)); exact HO147.out) (Kd.R_base ho0) hb); have n1_ := Aside0.mk (Kd.R_elder' (by (with_reducible repeat (first | apply Kd.R_alloc | apply Kd.R_drewN | apply Kd.R_drew)); exact HO151.out) (Kd.R_base ho0) hb); have n2_ := Aside0.mk (Kd.R_lower (Kd.R_new' (Kd.R_new' ho0 (Kd.R_lt (by (with_reducible repeat (first | apply Kd.R_alloc | apply Kd.R_drewN | apply Kd.R_drew)); exact HO147.out))) (Kd.R_lt (by (with_reducible repeat (first | apply Kd.R_alloc | apply Kd.R_drewN | apply Kd.R_drew)); exact HO151.out))) (below_size (by repeat (first | (with_reducible first | exact HB.out | apply below_alloc | apply pw_below_drewN | apply below_drew1) | exact HB.out)))); have n3_ := Aside0.mk (below_step (by repeat (first | (with_reducible first | exact HB.out | apply below_alloc | apply pw_below_drewN | apply below_drew1) | exact HB.out)) hb); clear HO147; clear HO151; clear HB; have HO147 := n0_; have HO151 := n1_; have HO155 := n2_; have HB := n3_; clear n0_ n1_ n2_ n3_; (try clear hb); (try clear hb2); (try clear hk); (try clear hi); (try clear ho0); obtain ⟨Ao22, co22, eo22⟩ := Kd.R_slice HO155.out; subst eo22) | (go_at_call 18; (with_reducible refine (handoffref02_Same.calls k _ _ t153 _ _ t145 t156 _ ?side1 ?side2 ?side3 ?side4 A18.out).mono ?_); (case side1 => repeat (first | exact (Kd.R_reads' HO155.out).2.2 | (with_reducible refine Kd.C_alloc ?_ _) | (with_reducible refine Kd.C_drewN ?_ _) | (with_reducible refine Kd.C_drew ?_))); (case side2 => exact (Kd.R_reads' HO155.out).2.1); (case side3 => repeat (first | exact (Kd.R_reads' HO147.out).2.2 | (with_reducible refine Kd.C_alloc ?_ _) | (with_reducible refine Kd.C_drewN ?_ _) | (with_reducible refine Kd.C_drew ?_))); (case side4 => exact (Kd.R_reads' HO147.out).2.1); rintro e w' ⟨rfl, ⟨nd, rfl⟩⟩; (try first | exact ⟨rfl, _, World.drewN_drewN _ _ _⟩ | exact ⟨rfl, _, Eq.trans (World.drewN_drewN _ _ _) (congrArg (World.drewN _) (Nat.add_assoc _ _ _))⟩)))
              repeat (go_quiet (first | (go_at_call 25; (with_reducible refine (shuffle_Is.calls k _ _ t145 true _ ?side1 ?side2 A14.out).mono ?_); (case side1 => repeat (first | exact (Kd.R_reads' HO147.out).2.2 | (with_reducible refine Kd.C_alloc ?_ _) | (with_reducible refine Kd.C_drewN ?_ _) | (with_reducible refine Kd.C_drew ?_))); (case side2 => exact (Kd.R_reads' HO147.out).2.1); rintro e w19 ⟨rfl, hb⟩; have n0_ := Aside0.mk (Kd.R_below (by (with_reducible repeat (first | apply Kd.R_alloc | apply Kd.R_drewN | apply Kd.R_drew)); exact HO147.out) hb); have n1_ := Aside0.mk (Kd.R_below (by (with_reducible repeat (first | apply Kd.R_alloc | apply Kd.R_drewN | apply Kd.R_drew)); exact HO151.out) hb); have n2_ := Aside0.mk (below_step (by repeat (first | (with_reducible first | exact HB.out | apply below_alloc | apply pw_below_drewN | apply below_drew1) | exact HB.out)) hb); clear HO147; clear HO151; clear HB; have HO147 := n0_; have HO151 := n1_; have HB := n2_; clear n0_ n1_ n2_; (try clear hb); (try clear hb2); (try clear hk); (try clear hi); obtain ⟨Ao20, co20, eo20⟩ := Kd.R_slice HO151.out; subst eo20) | (go_at_call 17; (with_reducible refine (shuffle_Order.calls k _ _ t148 t153 _ ?side1 ?side2 A17.out).mono ?_); (case side1 => repeat (first | exact (Kd.R_reads' HO151.out).2.2 | (with_reducible refine Kd.C_alloc ?_ _) | (with_reducible refine Kd.C_drewN ?_ _) | (with_reducible refine Kd.C_drew ?_))); (case side2 => exact (Kd.R_reads' HO151.out).2.1); rintro e w21 ⟨v154, rfl, ho0, hb⟩; have n0_ := Aside0.mk (Kd.R_elder' (by (with_reducible repeat (first | apply Kd.R_alloc | apply Kd.R_drewN | apply Kd.R_drew)); exact HO147.out) (Kd.R_base ho0) hb); have n1_ := Aside0.mk (Kd.R_elder' (by (with_reducible repeat (first | apply Kd.R_alloc | apply Kd.R_drewN | apply Kd.R_drew)); exact HO151.out) (Kd.R_base ho0) hb); have n2_ := Aside0.mk (Kd.R_lower (Kd.R_new' (Kd.R_new' ho0 (Kd.R_lt (by (with_reducible repeat (first | apply Kd.R_alloc | apply Kd.R_drewN | apply Kd.R_drew)); exact HO147.out))) (Kd.R_lt (by (with_reducible repeat (first | apply Kd.R_alloc | apply Kd.R_drewN | apply Kd.R_drew)); exact HO151.out))) (below_size (by repeat (first | (with_reducible first | exact HB.out | apply below_alloc | apply pw_below_drewN | apply below_drew1) | exact HB.out)))); have n3_ := Aside0.mk (below_step (by repeat (first | (with_reducible first | exact HB.out | apply below_alloc | apply pw_below_drewN | apply below_drew1) | exact HB.out)) hb); clear HO147; clear HO151; clear HB; have HO147 := n0_; have HO151 := n1_; have HO155 := n2_; have HB := n3_; clear n0_ n1_ n2_ n3_; (try clear hb); (try clear hb2); (try clear hk); (try clear hi); (try clear ho0); obtain ⟨Ao22, co22, eo22⟩ := Kd.R_slice HO155.out; subst eo22) | (go_at_call 18; (with_reducible refine (handoffref02_Same.calls k _ _ t153 _ _ t145 t156 _ ?side1 ?side2 ?side3 ?side4 A18.out).mono ?_); (case side1 => repeat (first | exact (Kd.R_reads' HO155.out).2.2 | (with_reducible refine Kd.C_alloc ?_ _) | (with_reducible refine Kd.C_drewN ?_ _) | (with_reducible refine Kd.C_drew ?_))); (case side2 => exact (Kd.R_reads' HO155.out).2.1); (case side3 => repeat (first | exact (Kd.R_reads' HO147.out).2.2 | (with_reducible refine Kd.C_alloc ?_ _) | (with_reducible refine Kd.C_drewN ?_ _) | (with_reducible refine Kd.C_drew ?_))); (case side4 => exact (Kd.R_reads' HO147.out).2.1); rintro e w' ⟨rfl, ⟨nd, rfl⟩⟩; (try first | exact ⟨rfl, _, World.drewN_drewN _ _ _⟩ | exact ⟨rfl, _, Eq.trans (World.drewN_drewN _ _ _) (congrArg (World.drewN _) (Nat.add_assoc _ _ _))⟩))); try go_wp2_with (first | (go_at_call 25; (with_reducible refine (shuffle_Is.calls k _ _ t145 true _ ?side1 ?side2 A14.out).mono ?_); (case side1 => repeat (first | exact (Kd.R_reads' HO147.out).2.2 | (with_reducible refine Kd.C_alloc ?_ _) | (with_reducible refine Kd.C_drewN ?_ _) | (with_reducible refine Kd.C_drew ?_))); (case side2 => exact (Kd.R_reads' HO147.out).2.1); rintro e w19 ⟨rfl, hb⟩; have n0_ := Aside0.mk (Kd.R_below (by (with_reducible repeat (first | apply Kd.R_alloc | apply Kd.R_drewN | apply Kd.R_drew)); exact HO147.out) hb); have n1_ := Aside0.mk (Kd.R_below (by (with_reducible repeat (first | apply Kd.R_alloc | apply Kd.R_drewN | apply Kd.R_drew)); exact HO151.out) hb); have n2_ := Aside0.mk (below_step (by repeat (first | (with_reducible first | exact HB.out | apply below_alloc | apply pw_below_drewN | apply below_drew1) | exact HB.out)) hb); clear HO147; clear HO151; clear HB; have HO147 := n0_; have HO151 := n1_; have HB := n2_; clear n0_ n1_ n2_; (try clear hb); (try clear hb2); (try clear hk); (try clear hi); obtain ⟨Ao20, co20, eo20⟩ := Kd.R_slice HO151.out; subst eo20) | (go_at_call 17; (with_reducible refine (shuffle_Order.calls k _ _ t148 t153 _ ?side1 ?side2 A17.out).mono ?_); (case side1 => repeat (first | exact (Kd.R_reads' HO151.out).2.2 | (with_reducible refine Kd.C_alloc ?_ _) | (with_reducible refine Kd.C_drewN ?_ _) | (with_reducible refine Kd.C_drew ?_))); (case side2 => exact (Kd.R_reads' HO151.out).2.1); rintro e w21 ⟨v154, rfl, ho0, hb⟩; have n0_ := Aside0.mk (Kd.R_elder' (by (with_reducible repeat (first | apply Kd.R_alloc | apply Kd.R_drewN | apply Kd.R_drew)); exact HO147.out) (Kd.R_base ho0) hb); have n1_ := Aside0.mk (Kd.R_elder' (by (with_reducible repeat (first | apply Kd.R_alloc | apply Kd.R_drewN | apply Kd.R_drew)); exact HO151.out) (Kd.R_base ho0) hb); have n2_ := Aside0.mk (Kd.R_lower (Kd.R_new' (Kd.R_new' ho0 (Kd.R_lt (by (with_reducible repeat (first | apply Kd.R_alloc | apply Kd.R_drewN | apply Kd.R_drew)); exact HO147.out))) (Kd.R_lt (by (with_reducible repeat (first | apply Kd.R_alloc | apply Kd.R_drewN | apply Kd.R_drew)); exact HO151.out))) (below_size (by repeat (first | (with_reducible first | exact HB.out | apply below_alloc | apply pw_below_drewN | apply below_drew1) | exact HB.out)))); have n3_ := Aside0.mk (below_step (by repeat (first | (with_reducible first | exact HB.out | apply below_alloc | apply pw_below_drewN | apply below_drew1) | exact HB.out)) hb); clear HO147; clear HO151; clear HB; have HO147 := n0_; have HO151 := n1_; have HO155 := n2_; have HB := n3_; clear n0_ n1_ n2_ n3_; (try clear hb); (try clear hb2); (try clear hk); (try clear hi); (try clear ho0); obtain ⟨Ao22, co22, eo22⟩ := Kd.R_slice HO155.out; subst eo22) | (go_at_call 18; (with_reducible refine (handoffref02_Same.calls k _ _ t153 _ _ t145 t156 _ ?side1 ?side2 ?side3 ?side4 A18.out).mono ?_); (case side1 => repeat (first | exact (Kd.R_reads' HO155.out).2.2 | (with_reducible refine Kd.C_alloc ?_ _) | (with_reducible refine Kd.C_drewN ?_ _) | (with_reducible refine Kd.C_drew ?_))); (case side2 => exact (Kd.R_reads' HO155.out).2.1); (case side3 => repeat (first | exact (Kd.R_reads' HO147.out).2.2 | (with_reducible refine Kd.C_alloc ?_ _) | (with_reducible refine Kd.C_drewN ?_ _) | (with_reducible refine Kd.C_drew ?_))); (case side4 => exact (Kd.R_reads' HO147.out).2.1); rintro e w' ⟨rfl, ⟨nd, rfl⟩⟩; (try first | exact ⟨rfl, _, World.drewN_drewN _ _ _⟩ | exact ⟨rfl, _, Eq.trans (World.drewN_drewN _ _ _) (congrArg (World.drewN _) (Nat.add_assoc _ _ _))⟩))))
              go_meet
              case rel => exact ⟨_, (!t156), (by first | rfl | (simp; done) | (simp [*]; done)), H', ⟨by first | omega | exact Nat.le_refl _⟩, ⟨by (with_reducible repeat (first | apply Kd.R_alloc | apply Kd.R_drewN | apply Kd.R_drew)); exact Kd.R_mono HO151.out (fun _ hk => trivial)⟩, ⟨by repeat (first | (with_reducible first | exact HB.out | apply below_alloc | apply pw_below_drewN | apply below_drew1) | exact HB.out)⟩⟩
            · rw [if_neg c16] at H
              have c16b0 : ((t148.length : Int) == (l0.length : Int)) = false := beq_eq_false_iff_ne.mpr c16
              have c16b1 : ((t148.length : Int) != (l0.length : Int)) = true := bne_iff_ne.mpr c16
              have c16b2 : (t148.length == l0.length) = false := by first | simpa using c16 | (simp at c16 ⊢; omega)
              (first | rw [c16b0] | (simp only [i64_w, i32_w]; rw [c16b0]) | skip)
              have H' := Aside0.mk H
              clear H
              go_wp2_with (first | (go_at_call 25; (with_reducible refine (shuffle_Is.calls k _ _ t145 true _ ?side1 ?side2 A14.out).mono ?_); (case side1 => repeat (first | exact (Kd.R_reads' HO147.out).2.2 | (with_reducible refine Kd.C_alloc ?_ _) | (with_reducible refine Kd.C_drewN ?_ _) | (with_reducible refine Kd.C_drew ?_))); (case side2 => exact (Kd.R_reads' HO147.out).2.1); rintro e w23 ⟨rfl, hb⟩; have n0_ := Aside0.mk (Kd.R_below (by (with_reducible repeat (first | apply Kd.R_alloc | apply Kd.R_drewN | apply Kd.R_drew)); exact HO147.out) hb); have n1_ := Aside0.mk (Kd.R_below (by (with_reducible repeat (first | apply Kd.R_alloc | apply Kd.R_drewN | apply Kd.R_drew)); exact HO151.out) hb); have n2_ := Aside0.mk (below_step (by repeat (first | (with_reducible first | exact HB.out | apply below_alloc | apply pw_below_drewN | apply below_drew1) | exact HB.out)) hb); clear HO147; clear HO151; clear HB; have HO147 := n0_; have HO151 := n1_; have HB := n2_; clear n0_ n1_ n2_; (try clear hb); (try clear hb2); (try clear hk); (try clear hi); obtain ⟨Ao24, co24, eo24⟩ := Kd.R_slice HO151.out; subst eo24))
              repeat (go_quiet (first | (go_at_call 25; (with_reducible refine (shuffle_Is.calls k _ _ t145 true _ ?side1 ?side2 A14.out).mono ?_); (case side1 => repeat (first | exact (Kd.R_reads' HO147.out).2.2 | (with_reducible refine Kd.C_alloc ?_ _) | (with_reducible refine Kd.C_drewN ?_ _) | (with_reducible refine Kd.C_drew ?_))); (case side2 => exact (Kd.R_reads' HO147.out).2.1); rintro e w23 ⟨rfl, hb⟩; have n0_ := Aside0.mk (Kd.R_below (by (with_reducible repeat (first | apply Kd.R_alloc | apply Kd.R_drewN | apply Kd.R_drew)); exact HO147.out) hb); have n1_ := Aside0.mk (Kd.R_below (by (with_reducible repeat (first | apply Kd.R_alloc | apply Kd.R_drewN | apply Kd.R_drew)); exact HO151.out) hb); have n2_ := Aside0.mk (below_step (by repeat (first | (with_reducible first | exact HB.out | apply below_alloc | apply pw_below_drewN | apply below_drew1) | exact HB.out)) hb); clear HO147; clear HO151; clear HB; have HO147 := n0_; have HO151 := n1_; have HB := n2_; clear n0_ n1_ n2_; (try clear hb); (try clear hb2); (try clear hk); (try clear hi); obtain ⟨Ao24, co24, eo24⟩ := Kd.R_slice HO151.out; subst eo24)); try go_wp2_with (first | (go_at_call 25; (with_reducible refine (shuffle_Is.calls k _ _ t145 true _ ?side1 ?side2 A14.out).mono ?_); (case side1 => repeat (first | exact (Kd.R_reads' HO147.out).2.2 | (with_reducible refine Kd.C_alloc ?_ _) | (with_reducible refine Kd.C_drewN ?_ _) | (with_reducible refine Kd.C_drew ?_))); (case side2 => exact (Kd.R_reads' HO147.out).2.1); rintro e w23 ⟨rfl, hb⟩; have n0_ := Aside0.mk (Kd.R_below (by (with_reducible repeat (first | apply Kd.R_alloc | apply Kd.R_drewN | apply Kd.R_drew)); exact HO147.out) hb); have n1_ := Aside0.mk (Kd.R_below (by (with_reducible repeat (first | apply Kd.R_alloc | apply Kd.R_drewN | apply Kd.R_drew)); exact HO151.out) hb); have n2_ := Aside0.mk (below_step (by repeat (first | (with_reducible first | exact HB.out | apply below_alloc | apply pw_below_drewN | apply below_drew1) | exact HB.out)) hb); clear HO147; clear HO151; clear HB; have HO147 := n0_; have HO151 := n1_; have HB := n2_; clear n0_ n1_ n2_; (try clear hb); (try clear hb2); (try clear hk); (try clear hi); obtain ⟨Ao24, co24, eo24⟩ := Kd.R_slice HO151.out; subst eo24)))
              go_meet
              case rel => exact ⟨_, (true), (by first | rfl | (simp; done) | (simp [*]; done)), H', ⟨by first | omega | exact Nat.le_refl _⟩, ⟨by (with_reducible repeat (first | apply Kd.R_alloc | apply Kd.R_drewN | apply Kd.R_drew)); exact Kd.R_mono HO151.out (fun _ hk => trivial)⟩, ⟨by repeat (first | (with_reducible first | exact HB.out | apply below_alloc | apply pw_below_drewN | apply below_drew1) | exact HB.out)⟩⟩
          · replace c15 := Bool.eq_false_iff.mpr c15
            subst c15
            have H1 : (handofflaw02_ShuffleBack.j0 k l0 t148 true) = some r := by rw [if_neg (show ¬ (false = true) by decide)] at H; exact H
            clear H
            have H := H1
            clear H1
            have H' := Aside0.mk H
            clear H
            go_wp2_with (first | (go_at_call 25; (with_reducible refine (shuffle_Is.calls k _ _ t145 false _ ?side1 ?side2 A14.out).mono ?_); (case side1 => repeat (first | exact (Kd.R_reads' HO147.out).2.2 | (with_reducible refine Kd.C_alloc ?_ _) | (with_reducible refine Kd.C_drewN ?_ _) | (with_reducible refine Kd.C_drew ?_))); (case side2 => exact (Kd.R_reads' HO147.out).2.1); rintro e w25 ⟨rfl, hb⟩; have n0_ := Aside0.mk (Kd.R_below (by (with_reducible repeat (first | apply Kd.R_alloc | apply Kd.R_drewN | apply Kd.R_drew)); exact HO147.out) hb); have n1_ := Aside0.mk (Kd.R_below (by (with_reducible repeat (first | apply Kd.R_alloc | apply Kd.R_drewN | apply Kd.R_drew)); exact HO151.out) hb); have n2_ := Aside0.mk (below_step (by repeat (first | (with_reducible first | exact HB.out | apply below_alloc | apply pw_below_drewN | apply below_drew1) | exact HB.out)) hb); clear HO147; clear HO151; clear HB; have HO147 := n0_; have HO151 := n1_; have HB := n2_; clear n0_ n1_ n2_; (try clear hb); (try clear hb2); (try clear hk); (try clear hi)))
            repeat (go_quiet (first | (go_at_call 25; (with_reducible refine (shuffle_Is.calls k _ _ t145 false _ ?side1 ?side2 A14.out).mono ?_); (case side1 => repeat (first | exact (Kd.R_reads' HO147.out).2.2 | (with_reducible refine Kd.C_alloc ?_ _) | (with_reducible refine Kd.C_drewN ?_ _) | (with_reducible refine Kd.C_drew ?_))); (case side2 => exact (Kd.R_reads' HO147.out).2.1); rintro e w25 ⟨rfl, hb⟩; have n0_ := Aside0.mk (Kd.R_below (by (with_reducible repeat (first | apply Kd.R_alloc | apply Kd.R_drewN | apply Kd.R_drew)); exact HO147.out) hb); have n1_ := Aside0.mk (Kd.R_below (by (with_reducible repeat (first | apply Kd.R_alloc | apply Kd.R_drewN | apply Kd.R_drew)); exact HO151.out) hb); have n2_ := Aside0.mk (below_step (by repeat (first | (with_reducible first | exact HB.out | apply below_alloc | apply pw_below_drewN | apply below_drew1) | exact HB.out)) hb); clear HO147; clear HO151; clear HB; have HO147 := n0_; have HO151 := n1_; have HB := n2_; clear n0_ n1_ n2_; (try clear hb); (try clear hb2); (try clear hk); (try clear hi))); try go_wp2_with (first | (go_at_call 25; (with_reducible refine (shuffle_Is.calls k _ _ t145 false _ ?side1 ?side2 A14.out).mono ?_); (case side1 => repeat (first | exact (Kd.R_reads' HO147.out).2.2 | (with_reducible refine Kd.C_alloc ?_ _) | (with_reducible refine Kd.C_drewN ?_ _) | (with_reducible refine Kd.C_drew ?_))); (case side2 => exact (Kd.R_reads' HO147.out).2.1); rintro e w25 ⟨rfl, hb⟩; have n0_ := Aside0.mk (Kd.R_below (by (with_reducible repeat (first | apply Kd.R_alloc | apply Kd.R_drewN | apply Kd.R_drew)); exact HO147.out) hb); have n1_ := Aside0.mk (Kd.R_below (by (with_reducible repeat (first | apply Kd.R_alloc | apply Kd.R_drewN | apply Kd.R_drew)); exact HO151.out) hb); have n2_ := Aside0.mk (below_step (by repeat (first | (with_reducible first | exact HB.out | apply below_alloc | apply pw_below_drewN | apply below_drew1) | exact HB.out)) hb); clear HO147; clear HO151; clear HB; have HO147 := n0_; have HO151 := n1_; have HB := n2_; clear n0_ n1_ n2_; (try clear hb); (try clear hb2); (try clear hk); (try clear hi))))
            go_meet
            case rel => exact ⟨_, (true), (by first | rfl | (simp; done) | (simp [*]; done)), H', ⟨by first | omega | exact Nat.le_refl _⟩, ⟨by (with_reducible repeat (first | apply Kd.R_alloc | apply Kd.R_drewN | apply Kd.R_drew)); exact Kd.R_mono HO151.out (fun _ hk => trivial)⟩, ⟨by repeat (first | (with_reducible first | exact HB.out | apply below_alloc | apply pw_below_drewN | apply below_drew1) | exact HB.out)⟩⟩
        · replace c13 := Bool.eq_false_iff.mpr c13
          subst c13
          have H1 : (handofflaw02_ShuffleBack.j0 k l0 t148 true) = some r := by rw [if_neg (show ¬ (false = true) by decide)] at H; exact H
          clear H
          have H := H1
          clear H1
          have H' := Aside0.mk H
          clear H
          go_wp2
          repeat (go_quiet (fail); try go_wp2)
          go_meet
          case rel => exact ⟨_, (true), (by first | rfl | (simp; done) | (simp [*]; done)), H', ⟨by first | omega | exact Nat.le_refl _⟩, ⟨by (with_reducible repeat (first | apply Kd.R_alloc | apply Kd.R_drewN | apply Kd.R_drew)); exact Kd.R_mono HO151.out (fun _ hk => trivial)⟩, ⟨by repeat (first | (with_reducible first | exact HB.out | apply below_alloc | apply pw_below_drewN | apply below_drew1) | exact HB.out)⟩⟩
      case rest =>
        clear HC8
        try clear c1
        try clear p2
        try clear c3
        try clear c4
        try clear c4b0
        try clear c4b1
        try clear c7
        try clear c13
        try clear c15
        try clear c16
        try clear c16b0
        try clear c16b1
        try clear c16b2
        obtain ⟨kq, x40_7, rfl, HA, HJ7, HO_4, HB⟩ := hcut
        cases kq with
        | zero => exact absurd HA.out (by simp [handofflaw02_ShuffleBack.j0])
        | succ kj7 =>
          have H := HA.out
          clear HA
          simp only [handofflaw02_ShuffleBack.j0] at H
          by_cases c26 : x40_7 = true
          · subst c26
            have H1 : (some false) = some r := by rw [if_pos rfl] at H; exact H
            clear H
            have H := H1
            clear H1
            obtain rfl := Option.some.inj H
            go_wp2
            repeat (go_quiet (fail); try go_wp2)
            go_ret
            exact ⟨by first | rfl | (simp [errW_none, errW_some] <;> rfl) | (simp [*, errW_none, errW_some] <;> rfl), by repeat (first | (with_reducible first | exact HB.out | apply below_alloc | apply pw_below_drewN | apply below_drew1) | exact HB.out)⟩
          · replace c26 := Bool.eq_false_iff.mpr c26
            subst c26
            have H1 : (handofflaw02_ShuffleBack.l0 kj7 t148 l0 (l0.length : Int) 0) = some r := by rw [if_neg (show ¬ (false = true) by decide)] at H; exact H
            clear H
            have H := H1
            clear H1
            have H' := Aside0.mk H
            clear H
            go_wp2
            repeat (go_quiet (fail); try go_wp2)
            go_loopg [43] kj7 (fun kq v43 w' => ∃ (x43_2 : Int), v43 = .int .i64 x43_2 ∧ Aside0 (handofflaw02_ShuffleBack.l0 kq t148 l0 (l0.length : Int) x43_2 = some r) ∧ Aside0 (kq ≤ kj7) ∧ Aside0 (Kd.R (Kd.int .i64) 3 w' w.heap.size (fun _ => True) v150 t148) ∧ Aside0 (Below w.heap.size w w'))
            case atStart => exact ⟨(0), (by first | rfl | (simp; done) | (simp [*]; done)), H', ⟨Nat.le_refl _⟩, ⟨by (with_reducible repeat (first | apply Kd.R_alloc | apply Kd.R_drewN | apply Kd.R_drew)); exact HO_4.out⟩, ⟨by repeat (first | (with_reducible first | exact HB.out | apply below_alloc | apply pw_below_drewN | apply below_drew1) | exact HB.out)⟩⟩
            case round =>
              clear H'
              try clear c1
              try clear c2
              try clear p2
              try clear c3
              try clear c4
              try clear c4b0
              try clear c4b1
              try clear c7
              try clear c13
              try clear c15
              try clear c16
              try clear c16b0
              try clear c16b1
              try clear c16b2
              try clear c26
              try clear p2
              obtain ⟨x43_2, rfl, HA, HK2, HO_4, HB⟩ := hrel
              cases gk with
              | zero => exact absurd HA.out (by simp [handofflaw02_ShuffleBack.l0])
              | succ k2 =>
                have H := HA.out
                clear HA
                simp only [handofflaw02_ShuffleBack.l0] at H
                by_cases c27 : x43_2 < (l0.length : Int)
                · rw [if_pos c27] at H
                  have c27b0 : decide (x43_2 < (l0.length : Int)) = true := decide_eq_true c27
                  clear c27
                  by_cases c28 : 0 ≤ x43_2
                  · rw [if_pos c28] at H
                    have c28b0 : decide (0 ≤ x43_2) = true := decide_eq_true c28
                    clear c28
                    by_cases c29 : x43_2 < (l0.length : Int)
                    · rw [if_pos c29] at H
                      have c29b0 : decide (x43_2 < (l0.length : Int)) = true := decide_eq_true c29
                      clear c29
                      by_cases c30 : x43_2 < (t148.length : Int)
                      · rw [if_pos c30] at H
                        have c30b0 : decide (x43_2 < (t148.length : Int)) = true := decide_eq_true c30
                        clear c30
                        by_cases c31 : (rd t148 x43_2) < 0
                        · rw [if_pos c31] at H
                          have c31b0 : decide ((rd t148 x43_2) < 0) = true := decide_eq_true c31
                          clear c31
                          obtain rfl := Option.some.inj H
                          have p157 : 0 ≤ (x43_2 : Int) := of_decide_eq_true (by first | (with_reducible assumption) | assumption)
                          have q157 : x43_2 < (l0.length : Int) := of_decide_eq_true (by first | (with_reducible assumption) | assumption)
                          obtain ⟨ad157, e157, hx157_0⟩ := Kd.at_int HR0.out x43_2 p157 q157
                          cases e157
                          replace hx157_0 := (HB.out.cell (World.block_lt_of_cell? w _ hx157_0)).trans hx157_0
                          replace p157 := eq_true p157
                          replace q157 := eq_true q157
                          obtain ⟨Ao32, co32, eo32⟩ := Kd.R_slice HO_4.out
                          subst eo32
                          have p158 : 0 ≤ (x43_2 : Int) := of_decide_eq_true (by first | (with_reducible assumption) | assumption)
                          have q158 : x43_2 < (t148.length : Int) := of_decide_eq_true (by first | (with_reducible assumption) | assumption)
                          obtain ⟨ad158, e158, hx158_0⟩ := Kd.at_int (Kd.R_reads' HO_4.out).2.2 x43_2 p158 q158
                          cases e158
                          replace p158 := eq_true p158
                          replace q158 := eq_true q158
                          go_wp2
                          repeat (go_quiet (fail); try go_wp2)
                          go_ret
                          exact ⟨by first | rfl | (simp [errW_none, errW_some] <;> rfl) | (simp [*, errW_none, errW_some] <;> rfl), by repeat (first | (with_reducible first | exact HB.out | apply below_alloc | apply pw_below_drewN | apply below_drew1) | exact HB.out)⟩
                        · rw [if_neg c31] at H
                          have c31b0 : decide ((rd t148 x43_2) < 0) = false := decide_eq_false c31
                          clear c31
                          by_cases c33 : (rd t148 x43_2) > x43_2
                          · rw [if_pos c33] at H
                            have c33b0 : decide (x43_2 < (rd t148 x43_2)) = true := decide_eq_true c33
                            clear c33
                            obtain rfl := Option.some.inj H
                            have p157 : 0 ≤ (x43_2 : Int) := of_decide_eq_true (by first | (with_reducible assumption) | assumption)
                            have q157 : x43_2 < (l0.length : Int) := of_decide_eq_true (by first | (with_reducible assumption) | assumption)
                            obtain ⟨ad157, e157, hx157_0⟩ := Kd.at_int HR0.out x43_2 p157 q157
                            cases e157
                            replace hx157_0 := (HB.out.cell (World.block_lt_of_cell? w _ hx157_0)).trans hx157_0
                            replace p157 := eq_true p157
                            replace q157 := eq_true q157
                            obtain ⟨Ao34, co34, eo34⟩ := Kd.R_slice HO_4.out
                            subst eo34
                            have p158 : 0 ≤ (x43_2 : Int) := of_decide_eq_true (by first | (with_reducible assumption) | assumption)
                            have q158 : x43_2 < (t148.length : Int) := of_decide_eq_true (by first | (with_reducible assumption) | assumption)
                            obtain ⟨ad158, e158, hx158_0⟩ := Kd.at_int (Kd.R_reads' HO_4.out).2.2 x43_2 p158 q158
                            cases e158
                            replace p158 := eq_true p158
                            replace q158 := eq_true q158
                            have p159 : 0 ≤ (x43_2 : Int) := of_decide_eq_true (by first | (with_reducible assumption) | assumption)
                            have q159 : x43_2 < (t148.length : Int) := of_decide_eq_true (by first | (with_reducible assumption) | assumption)
                            obtain ⟨ad159, e159, hx159_0⟩ := Kd.at_int (Kd.R_reads' HO_4.out).2.2 x43_2 p159 q159
                            obtain rfl : ad158 = ad159 := (by injection e159)
                            replace p159 := eq_true p159
                            replace q159 := eq_true q159
                            go_wp2
                            repeat (go_quiet (fail); try go_wp2)
                            go_ret
                            exact ⟨by first | rfl | (simp [errW_none, errW_some] <;> rfl) | (simp [*, errW_none, errW_some] <;> rfl), by repeat (first | (with_reducible first | exact HB.out | apply below_alloc | apply pw_below_drewN | apply below_drew1) | exact HB.out)⟩
                          · rw [if_neg c33] at H
                            have c33b0 : decide (x43_2 < (rd t148 x43_2)) = false := decide_eq_false c33
                            clear c33
                            by_cases c35 : (wrap64 (x43_2 + 1)) = 0
                            · rw [if_pos c35] at H
                              exact absurd H (by simp)
                            · rw [if_neg c35] at H
                              have c35b0 : ((wrap64 (x43_2 + 1)) == 0) = false := beq_eq_false_iff_ne.mpr c35
                              have c35b1 : ((wrap64 (x43_2 + 1)) != 0) = true := bne_iff_ne.mpr c35
                              by_cases c36 : (Int.tmod (wrap64 ((wrap64 ((Int.tmod (rd l0 x43_2) (wrap64 (x43_2 + 1))) + x43_2)) + 1)) (wrap64 (x43_2 + 1))) = (rd t148 x43_2)
                              · rw [if_pos c36] at H
                                have c36b0 : ((Int.tmod (wrap64 ((wrap64 ((Int.tmod (rd l0 x43_2) (wrap64 (x43_2 + 1))) + x43_2)) + 1)) (wrap64 (x43_2 + 1))) == (rd t148 x43_2)) = true := beq_iff_eq.mpr c36
                                have c36b1 : ((Int.tmod (wrap64 ((wrap64 ((Int.tmod (rd l0 x43_2) (wrap64 (x43_2 + 1))) + x43_2)) + 1)) (wrap64 (x43_2 + 1))) != (rd t148 x43_2)) = false := bne_eq_false_iff_eq.mpr c36
                                clear c36
                                have H' := Aside0.mk H
                                clear H
                                have p157 : 0 ≤ (x43_2 : Int) := of_decide_eq_true (by first | (with_reducible assumption) | assumption)
                                have q157 : x43_2 < (l0.length : Int) := of_decide_eq_true (by first | (with_reducible assumption) | assumption)
                                obtain ⟨ad157, e157, hx157_0⟩ := Kd.at_int HR0.out x43_2 p157 q157
                                cases e157
                                replace hx157_0 := (HB.out.cell (World.block_lt_of_cell? w _ hx157_0)).trans hx157_0
                                replace p157 := eq_true p157
                                replace q157 := eq_true q157
                                obtain ⟨Ao37, co37, eo37⟩ := Kd.R_slice HO_4.out
                                subst eo37
                                have p158 : 0 ≤ (x43_2 : Int) := of_decide_eq_true (by first | (with_reducible assumption) | assumption)
                                have q158 : x43_2 < (t148.length : Int) := of_decide_eq_true (by first | (with_reducible assumption) | assumption)
                                obtain ⟨ad158, e158, hx158_0⟩ := Kd.at_int (Kd.R_reads' HO_4.out).2.2 x43_2 p158 q158
                                cases e158
                                replace p158 := eq_true p158
                                replace q158 := eq_true q158
                                have p159 : 0 ≤ (x43_2 : Int) := of_decide_eq_true (by first | (with_reducible assumption) | assumption)
                                have q159 : x43_2 < (t148.length : Int) := of_decide_eq_true (by first | (with_reducible assumption) | assumption)
                                obtain ⟨ad159, e159, hx159_0⟩ := Kd.at_int (Kd.R_reads' HO_4.out).2.2 x43_2 p159 q159
                                obtain rfl : ad158 = ad159 := (by injection e159)
                                replace p159 := eq_true p159
                                replace q159 := eq_true q159
                                have p160 : 0 ≤ (x43_2 : Int) := of_decide_eq_true (by first | (with_reducible assumption) | assumption)
                                have q160 : x43_2 < (t148.length : Int) := of_decide_eq_true (by first | (with_reducible assumption) | assumption)
                                obtain ⟨ad160, e160, hx160_0⟩ := Kd.at_int (Kd.R_reads' HO_4.out).2.2 x43_2 p160 q160
                                obtain rfl : ad158 = ad160 := (by injection e160)
                                replace p160 := eq_true p160
                                replace q160 := eq_true q160
                                go_wp2
                                repeat (go_quiet (fail); try go_wp2)
                                go_roundg k2
                                case measure => have := HJ7.out; have := HK2.out; omega
                                case rel => exact ⟨(wrap64 (x43_2 + 1)), (by first | rfl | (simp; done) | (simp [*]; done)), H', ⟨by have := HJ7.out; have := HK2.out; omega⟩, ⟨by (with_reducible repeat (first | apply Kd.R_alloc | apply Kd.R_drewN | apply Kd.R_drew)); exact HO_4.out⟩, ⟨by repeat (first | (with_reducible first | exact HB.out | apply below_alloc | apply pw_below_drewN | apply below_drew1) | exact HB.out)⟩⟩
                              · rw [if_neg c36] at H
                                have c36b0 : ((Int.tmod (wrap64 ((wrap64 ((Int.tmod (rd l0 x43_2) (wrap64 (x43_2 + 1))) + x43_2)) + 1)) (wrap64 (x43_2 + 1))) == (rd t148 x43_2)) = false := beq_eq_false_iff_ne.mpr c36
                                have c36b1 : ((Int.tmod (wrap64 ((wrap64 ((Int.tmod (rd l0 x43_2) (wrap64 (x43_2 + 1))) + x43_2)) + 1)) (wrap64 (x43_2 + 1))) != (rd t148 x43_2)) = true := bne_iff_ne.mpr c36
                                obtain rfl := Option.some.inj H
                                have p157 : 0 ≤ (x43_2 : Int) := of_decide_eq_true (by first | (with_reducible assumption) | assumption)
                                have q157 : x43_2 < (l0.length : Int) := of_decide_eq_true (by first | (with_reducible assumption) | assumption)
                                obtain ⟨ad157, e157, hx157_0⟩ := Kd.at_int HR0.out x43_2 p157 q157
                                cases e157
                                replace hx157_0 := (HB.out.cell (World.block_lt_of_cell? w _ hx157_0)).trans hx157_0
                                replace p157 := eq_true p157
                                replace q157 := eq_true q157
                                obtain ⟨Ao38, co38, eo38⟩ := Kd.R_slice HO_4.out
                                subst eo38
                                have p158 : 0 ≤ (x43_2 : Int) := of_decide_eq_true (by first | (with_reducible assumption) | assumption)
                                have q158 : x43_2 < (t148.length : Int) := of_decide_eq_true (by first | (with_reducible assumption) | assumption)
                                obtain ⟨ad158, e158, hx158_0⟩ := Kd.at_int (Kd.R_reads' HO_4.out).2.2 x43_2 p158 q158
                                cases e158
                                replace p158 := eq_true p158
                                replace q158 := eq_true q158
                                have p159 : 0 ≤ (x43_2 : Int) := of_decide_eq_true (by first | (with_reducible assumption) | assumption)
                                have q159 : x43_2 < (t148.length : Int) := of_decide_eq_true (by first | (with_reducible assumption) | assumption)
                                obtain ⟨ad159, e159, hx159_0⟩ := Kd.at_int (Kd.R_reads' HO_4.out).2.2 x43_2 p159 q159
                                obtain rfl : ad158 = ad159 := (by injection e159)
                                replace p159 := eq_true p159
                                replace q159 := eq_true q159
                                have p160 : 0 ≤ (x43_2 : Int) := of_decide_eq_true (by first | (with_reducible assumption) | assumption)
                                have q160 : x43_2 < (t148.length : Int) := of_decide_eq_true (by first | (with_reducible assumption) | assumption)
                                obtain ⟨ad160, e160, hx160_0⟩ := Kd.at_int (Kd.R_reads' HO_4.out).2.2 x43_2 p160 q160
                                obtain rfl : ad158 = ad160 := (by injection e160)
                                replace p160 := eq_true p160
                                replace q160 := eq_true q160
                                go_wp2
                                repeat (go_quiet (fail); try go_wp2)
                                go_ret
                                exact ⟨by first | rfl | (simp [errW_none, errW_some] <;> rfl) | (simp [*, errW_none, errW_some] <;> rfl), by repeat (first | (with_reducible first | exact HB.out | apply below_alloc | apply pw_below_drewN | apply below_drew1) | exact HB.out)⟩
                      · rw [if_neg c30] at H
                        exact absurd H (by simp)
                    · rw [if_neg c29] at H
                      exact absurd H (by simp)
                  · rw [if_neg c28] at H
                    exact absurd H (by simp)
                · rw [if_neg c27] at H
                  have c27b0 : decide (x43_2 < (l0.length : Int)) = false := decide_eq_false c27
                  clear c27
                  obtain rfl := Option.some.inj H
                  go_wp2
                  repeat (go_quiet (fail); try go_wp2)
                  go_ret
                  exact ⟨by first | rfl | (simp [errW_none, errW_some] <;> rfl) | (simp [*, errW_none, errW_some] <;> rfl), by repeat (first | (with_reducible first | exact HB.out | apply below_alloc | apply pw_below_drewN | apply below_drew1) | exact HB.out)⟩
  · replace c3 := Bool.eq_false_iff.mpr c3
    subst c3
    have H1 : (some false) = some r := by rw [if_neg (show ¬ (false = true) by decide)] at H; exact H
    clear H
    have H := H1
    clear H1
    obtain rfl := Option.some.inj H
    go_enter Try.func7, Try.ntmps7
    go_wp2_with (first | (go_at_call 15; (with_reducible refine (handofflaw02_shuffleAlive.calls k  false _ A2.out).mono ?_); rintro e w39 ⟨rfl, hb⟩; have n0_ := Aside0.mk (below_step (by repeat (first | (with_reducible first | exact HB.out | apply below_alloc | apply pw_below_drewN | apply below_drew1) | exact HB.out)) hb); clear HB; have HB := n0_; clear n0_; (try clear hb); (try clear hb2); (try clear hk); (try clear hi)))
    repeat (go_quiet (first | (go_at_call 15; (with_reducible refine (handofflaw02_shuffleAlive.calls k  false _ A2.out).mono ?_); rintro e w39 ⟨rfl, hb⟩; have n0_ := Aside0.mk (below_step (by repeat (first | (with_reducible first | exact HB.out | apply below_alloc | apply pw_below_drewN | apply below_drew1) | exact HB.out)) hb); clear HB; have HB := n0_; clear n0_; (try clear hb); (try clear hb2); (try clear hk); (try clear hi))); try go_wp2_with (first | (go_at_call 15; (with_reducible refine (handofflaw02_shuffleAlive.calls k  false _ A2.out).mono ?_); rintro e w39 ⟨rfl, hb⟩; have n0_ := Aside0.mk (below_step (by repeat (first | (with_reducible first | exact HB.out | apply below_alloc | apply pw_below_drewN | apply below_drew1) | exact HB.out)) hb); clear HB; have HB := n0_; clear n0_; (try clear hb); (try clear hb2); (try clear hk); (try clear hi))))
    go_ret
    exact ⟨by first | rfl | (simp [errW_none, errW_some] <;> rfl) | (simp [*, errW_none, errW_some] <;> rfl), by repeat (first | (with_reducible first | exact HB.out | apply below_alloc | apply pw_below_drewN | apply below_drew1) | exact HB.out)⟩

/-- THE ONE PURE STATEMENT of handofflaw02_ShuffleBack: yours. -/
def handofflaw02_ShuffleBack.Pure : Prop := ∀ (l0 : List Int), l0.length ≤ maxLen → l0.length * 8 ≤ 140737488351232 → (∀ x ∈ l0, (Lit.int .i64 x).wf = true) → ∃ k, handofflaw02_ShuffleBack.f k l0 = some true
theorem handofflaw02_ShuffleBack.walk (P : handofflaw02_ShuffleBack.Pure) (a0 : Option Addr) (len0 cap0 : Nat) (z0 : List Int) (w : World) (w0 : (a0 = none ∧ len0 = 0 ∧ cap0 = 0 ∧ z0 = []) ∨ ∃ x, a0 = some x ∧ len0 ≤ cap0 ∧ cap0 ≤ maxLen ∧ z0.length = cap0 ∧ (∀ i, i < z0.length → w.cell? (x.add i) = some (.int .i64 (z0.getD i 0))) ∧ ∀ n ∈ z0, (Lit.int .i64 n).wf = true) (y0 : len0 * 8 ≤ 140737488351232) :
    Calls Try.prog 7 #[.slice a0 len0 cap0] w fun e w' => e = .returned (.bool true) ∧ Below w.heap.size w w' := by
  obtain ⟨l0, rfl, hr0, hm0, hw0, hc0⟩ := ReadsInt.ofRowC w0
  obtain ⟨k, h⟩ := P l0 hm0 y0 hw0
  refine (handofflaw02_ShuffleBack.calls k _ _ l0 true w (Kd.C_of_reads (d := (0 : Int)) (h1 := fun _ => rfl) hr0) hc0 h).mono ?_
  rintro e w' ⟨rfl, hd⟩
  exact ⟨rfl, hd⟩

end Go.Proofs.Ytifajoehlgdgaaa.PShufB
