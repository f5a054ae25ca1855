-- Out of the translation, by a program of this session.
import Derived.Test.YtjmpaeckpbpclaaWShort
import Derived.Test.YtjmpaeckpbpclaaPPlKx0
import Derived.Test.YtjmpaeckpbpclaaPPlKx4
import Derived.Test.YtjmpaeckpbpclaaPPlKx10
import Derived.Test.YtjmpaeckpbpclaaPPlKx12
import Derived.Test.YtjmpaeckpbpclaaPPlKx13
import Derived.Test.YtjmpaeckpbpclaaPPlKx15
namespace Go.Proofs.Ytjmpaeckpbpclaa.PPlK
open Go.RowKit Go.Proofs.YtjmpaeckpbpclaaW.PrintWords Go.Proofs.YtjmpaeckpbpclaaW.PrintLast Go.Proofs.YtjmpaeckpbpclaaW.PrintMore
attribute [local go_sem] max2_int min2_int max_two min_two max_three min_three max_four min_four   -- for this text's walks alone
set_option linter.unusedVariables false
set_option linter.unusedSimpArgs false

/-! ### handoffref10_Same: function 32 -/
def handoffref10_Same.l0 : Nat → List (List (S39)) → List (List (S39)) → Int → Int → Option (Bool)
  | 0, _, _, _, _ => none
  | k + 1, x0, x1, x12, x13 => if x13 < x12 then (if 0 ≤ x13 then (if x13 < (x0.length : Int) then (if x13 < (x1.length : Int) then ((handoffref10_SameOps.f k (rd_L7 x0 x13) (rd_L7 x1 x13)).bind fun t332 => (if t332 = true then (handoffref10_Same.l0 k x0 x1 x12 (wrap64 (x13 + 1))) else (some false))) else (none)) else (none)) else (none)) else (some true)
def handoffref10_Same.f (k : Nat) (l0 : List (List (S39))) (l1 : List (List (S39))) : Option (Bool) := if (l0.length : Int) = (l1.length : Int) then (handoffref10_Same.l0 k l0 l1 (l0.length : Int) 0) else (some false)
theorem handoffref10_Same.mono_l : ∀ k, (∀ y0 y1 y2 y3, LeO (handoffref10_Same.l0 k y0 y1 y2 y3) (handoffref10_Same.l0 (k + 1) y0 y1 y2 y3))
 | 0 => fun _ _ _ _ r h => by simp [handoffref10_Same.l0] at h
 | k + 1 => by
  have ih0 := handoffref10_Same.mono_l k
  all_goals intros
  all_goals first | unfold handoffref10_Same.l0
  all_goals (repeat' first | with_reducible first | apply ih0 | exact handoffref10_SameOps.mono _ _ _ | exact LeO.refl _ | exact LeO.none _ | refine LeO.ite ?_ ?_ | refine LeO.bind ?_ (fun _ => ?_) | apply ih0 | exact handoffref10_SameOps.mono _ _ _ | exact LeO.none _ | refine LeO.ite ?_ ?_ | refine LeO.bind ?_ (fun _ => ?_))
theorem handoffref10_Same.mono : ∀ a0 a1 k, LeO (handoffref10_Same.f k a0 a1) (handoffref10_Same.f (k + 1) a0 a1) := by
 intro a0 a1 k
 have ih0 := handoffref10_Same.mono_l k
 unfold handoffref10_Same.f
 repeat' first | with_reducible first | apply ih0 | exact handoffref10_SameOps.mono _ _ _ | exact LeO.refl _ | exact LeO.none _ | refine LeO.ite ?_ ?_ | refine LeO.bind ?_ (fun _ => ?_) | apply ih0 | exact handoffref10_SameOps.mono _ _ _ | exact LeO.none _ | refine LeO.ite ?_ ?_ | refine LeO.bind ?_ (fun _ => ?_)
def handoffref10_Same.T6 : Bool × List (List Nat × List Nat) := (true, [([], []), ([], []), ([0, 1], [0, 1]), ([2], [2]), ([], []), ([], []), ([4, 5], [4, 5]), ([6], [6]), ([3, 7], [3, 7]), ([8], [8])])
def handoffref10_Same.B6 : List Nat := [0, 0, 3, 7, 0, 0, 48, 112, 255, 511]
theorem handoffref10_Same.tab6 : rtab .any (opsOf Try.f32 6) = handoffref10_Same.T6 := by kernel_rfl
theorem handoffref10_Same.bits6 : waitsOk handoffref10_Same.T6.2 handoffref10_Same.B6 = true := by kernel_rfl
set_option maxHeartbeats 8000000 in
set_option maxRecDepth 100000 in
theorem handoffref10_Same.calls (k : Nat) (A0 : Option Addr) (c0 : Nat) (l0 : List (List (S39))) (A1 : Option Addr) (c1 : Nat) (l1 : List (List (S39))) (r : Bool) (w : World) (hr0 : Kd.C (Kd.slice 39 k39) w A0 l0.length l0) (hc0 : l0.length ≤ c0) (hr1 : Kd.C (Kd.slice 39 k39) w A1 l1.length l1) (hc1 : l1.length ≤ c1) (h : handoffref10_Same.f k l0 l1 = some r) :
  Calls Try.prog 32 #[.slice A0 l0.length c0, .slice A1 l1.length c1] w fun e w' => e = .returned (.bool r) ∧ Below w.heap.size w w' := by
 have HR0 := Aside0.mk hr0
 have HC0 := Aside0.mk hc0
 clear hr0 hc0
 have HR1 := Aside0.mk hr1
 have HC1 := Aside0.mk hc1
 clear hr1 hc1
 have HB := Aside0.mk (Below.refl w.heap.size w)
 have H : (if (l0.length : Int) = (l1.length : Int) then (handoffref10_Same.l0 k l0 l1 (l0.length : Int) 0) else (some false)) = some r := h
 clear h
 by_cases c3 : (l0.length : Int) = (l1.length : Int)
 ·rw [if_pos c3] at H
  have c3b0 : ((l0.length : Int) == (l1.length : Int)) = true := beq_iff_eq.mpr c3
  have c3b1 : ((l0.length : Int) != (l1.length : Int)) = false := bne_eq_false_iff_eq.mpr c3
  have c3b2 : (l0.length == l1.length) = true := by first | simpa using c3 | (simp at c3 ⊢; omega)
  clear c3
  have H' := Aside0.mk H
  clear H
  go_enter Try.func32, Try.ntmps32
  go_wp2
  go_loopg [13] k (fun kq v13 w' => ∃ (x13_1 : Int), v13 = .int .i64 x13_1 ∧ Aside0 (handoffref10_Same.l0 kq l0 l1 (l0.length : Int) x13_1 = some r) ∧ Aside0 (kq ≤ k) ∧ Aside0 (Below w.heap.size w w'))
  case atStart => exact ⟨(0), (by first | rfl | (simp; done) | (simp [*]; done)), H', ⟨Nat.le_refl _⟩, ⟨below_w HB.out⟩⟩
  case round =>
   clear H'
   (try clear c1); (try clear c3b0); (try clear c3b1); (try clear c3b2)
   obtain ⟨x13_1, rfl, HA, HK1, HB⟩ := hrel
   cases gk with
   | zero => exact absurd HA.out (by simp [handoffref10_Same.l0])
   | succ k1 =>
    have H := HA.out
    clear HA
    simp only [handoffref10_Same.l0] at H
    by_cases c4 : x13_1 < (l0.length : Int)
    ·rw [if_pos c4] at H
     have c4b0 : decide (x13_1 < (l0.length : Int)) = true := decide_eq_true c4
     clear c4
     by_cases c5 : 0 ≤ x13_1
     ·rw [if_pos c5] at H
      have c5b0 : decide (0 ≤ x13_1) = true := decide_eq_true c5
      clear c5
      by_cases c6 : x13_1 < (l0.length : Int)
      ·rw [if_pos c6] at H
       have c6b0 : decide (x13_1 < (l0.length : Int)) = true := decide_eq_true c6
       clear c6
       by_cases c7 : x13_1 < (l1.length : Int)
       ·rw [if_pos c7] at H
        have c7b0 : decide (x13_1 < (l1.length : Int)) = true := decide_eq_true c7
        clear c7
        replace H := Option.bind_eq_some_iff.mp H
        obtain ⟨t332, A80, H⟩ := H
        try dsimp only at H
        have A8 := Aside0.mk A80
        clear A80
        by_cases c9 : t332 = true
        ·subst c9
         have H1 : (handoffref10_Same.l0 k1 l0 l1 (l0.length : Int) (wrap64 (x13_1 + 1))) = some r := by rw [if_pos rfl] at H; exact H
         clear H
         have H := H1
         clear H1
         have H' := Aside0.mk H
         clear H
         try go_wp2
         have n0_ := Aside0.mk (below_drew1 HB.out)
         clear HB
         have HB := n0_
         clear n0_
         have p330 : 0 ≤ (x13_1 : Int) := of_decide_eq_true (by first | (with_reducible assumption) | assumption)
         have q330 : x13_1 < (l0.length : Int) := of_decide_eq_true (by first | (with_reducible assumption) | assumption)
         obtain ⟨ad330, A330_0, c330_0, e330, hx330_0, hl330_0, hi330_0⟩ := at_L7 HR0.out x13_1 p330 q330
         have hw330_0 := hx330_0
         cases e330
         replace hx330_0 := (HB.out.cell (World.block_lt_of_cell? w _ hx330_0)).trans hx330_0
         have HR330_0 := Aside0.mk hi330_0
         have HC330_0 := Aside0.mk hl330_0
         clear hi330_0 hl330_0
         replace p330 := eq_true p330
         replace q330 := eq_true q330
         have p331 : 0 ≤ (x13_1 : Int) := of_decide_eq_true (by first | (with_reducible assumption) | assumption)
         have q331 : x13_1 < (l1.length : Int) := of_decide_eq_true (by first | (with_reducible assumption) | assumption)
         obtain ⟨ad331, A331_0, c331_0, e331, hx331_0, hl331_0, hi331_0⟩ := at_L7 HR1.out x13_1 p331 q331
         have hw331_0 := hx331_0
         cases e331
         replace hx331_0 := (HB.out.cell (World.block_lt_of_cell? w _ hx331_0)).trans hx331_0
         have HR331_0 := Aside0.mk hi331_0
         have HC331_0 := Aside0.mk hl331_0
         clear hi331_0 hl331_0
         replace p331 := eq_true p331
         replace q331 := eq_true q331
         refine start_ (n := 10) (S := fun w' => w'.cell? (ad330.add (x13_1).toNat) = some (.slice A330_0 (rd_L7 l0 x13_1).length c330_0) ∧ w'.cell? (ad331.add (x13_1).toNat) = some (.slice A331_0 (rd_L7 l1 x13_1).length c331_0)) (ds := []) #[false, false, false, false, false, false, false, false, false, false] (by kernel_rfl) rfl rfl ⟨((HB.out.cell (World.block_lt_of_cell? w _ hw330_0)).trans hw330_0), ((HB.out.cell (World.block_lt_of_cell? w _ hw331_0)).trans hw331_0)⟩ (fun hHeld => ?_); refine with_tabW handoffref10_Same.tab6 handoffref10_Same.bits6 (fun HT_ HW_ => ?_)
         generalize wr.drew = w10 at HB HR330_0 HR331_0 hx330_0 hx331_0 hHeld ⊢
         refine pure_ (i := 0) (N := some 16) (v := ?_) (a' := ?_) #[true, false, false, false, false, false, false, false, false, false] rfl rfl (any_of HT_.out (by kernel_rfl)) (fun _ _ _ h => h) (Or.inl ⟨by rfl, ?_⟩) ?_ ?_
         rotate_left
         ·intro w'
          go_simp
          with_reducible rfl
         rotate_left
         ·simp only [Act.put, List.setIfInBounds_toArray, List.set_cons_zero, List.set_cons_succ, i64_w, i32_w]
          rfl
         refine pure_ (i := 1) (N := some 17) (v := ?_) (a' := ?_) #[true, true, false, false, false, false, false, false, false, false] rfl rfl (any_of HT_.out (by kernel_rfl)) (fun _ _ _ h => h) (Or.inl ⟨by rfl, ?_⟩) ?_ ?_
         rotate_left
         ·intro w'
          go_simp
          with_reducible rfl
         rotate_left
         ·simp only [Act.put, List.setIfInBounds_toArray, List.set_cons_zero, List.set_cons_succ, i64_w, i32_w]
          rfl
         refine pure_ (i := 2) (N := some 18) (v := ?_) (a' := ?_) #[true, true, true, false, false, false, false, false, false, false] rfl rfl (any_of HT_.out (by kernel_rfl)) (fun _ _ _ h => h) (Or.inl ⟨by rfl, ?_⟩) ?_ ?_
         rotate_left
         ·intro w'
          go_simp
          with_reducible rfl
         rotate_left
         ·simp only [Act.put, List.setIfInBounds_toArray, List.set_cons_zero, List.set_cons_succ, i64_w, i32_w]
          rfl
         refine pure_ (i := 4) (N := some 20) (v := ?_) (a' := ?_) #[true, true, true, false, true, false, false, false, false, false] rfl rfl (any_of HT_.out (by kernel_rfl)) (fun _ _ _ h => h) (Or.inl ⟨by rfl, ?_⟩) ?_ ?_
         rotate_left
         ·intro w'
          go_simp
          with_reducible rfl
         rotate_left
         ·simp only [Act.put, List.setIfInBounds_toArray, List.set_cons_zero, List.set_cons_succ, i64_w, i32_w]
          rfl
         refine pure_ (i := 5) (N := some 21) (v := ?_) (a' := ?_) #[true, true, true, false, true, true, false, false, false, false] rfl rfl (any_of HT_.out (by kernel_rfl)) (fun _ _ _ h => h) (Or.inl ⟨by rfl, ?_⟩) ?_ ?_
         rotate_left
         ·intro w'
          go_simp
          with_reducible rfl
         rotate_left
         ·simp only [Act.put, List.setIfInBounds_toArray, List.set_cons_zero, List.set_cons_succ, i64_w, i32_w]
          rfl
         refine pure_ (i := 6) (N := some 22) (v := ?_) (a' := ?_) #[true, true, true, false, true, true, true, false, false, false] rfl rfl (any_of HT_.out (by kernel_rfl)) (fun _ _ _ h => h) (Or.inl ⟨by rfl, ?_⟩) ?_ ?_
         rotate_left
         ·intro w'
          go_simp
          with_reducible rfl
         rotate_left
         ·simp only [Act.put, List.setIfInBounds_toArray, List.set_cons_zero, List.set_cons_succ, i64_w, i32_w]
          rfl
         refine take_ (i := 3) (N := some 19) (v := ?_) (a' := ?_) #[true, true, true, true, true, true, true, false, false, false] rfl rfl (take_ofW HT_.out HW_.out (by kernel_rfl)) (fun _ _ _ h => h) (Or.inl ⟨by rfl, ?_⟩) hHeld ?_ ?_
         rotate_left
         ·rintro w' ⟨s0, s1⟩
          go_simp
          with_reducible rfl
         rotate_left
         ·simp only [Act.put, List.setIfInBounds_toArray, List.set_cons_zero, List.set_cons_succ, i64_w, i32_w]
          rfl
         refine take_ (i := 7) (N := some 23) (v := ?_) (a' := ?_) #[true, true, true, true, true, true, true, true, false, false] rfl rfl (take_ofW HT_.out HW_.out (by kernel_rfl)) (fun _ _ _ h => h) (Or.inl ⟨by rfl, ?_⟩) hHeld ?_ ?_
         rotate_left
         ·rintro w' ⟨s0, s1⟩
          go_simp
          with_reducible rfl
         rotate_left
         ·simp only [Act.put, List.setIfInBounds_toArray, List.set_cons_zero, List.set_cons_succ, i64_w, i32_w]
          rfl
         refine one_ (i := 8) (N := some 24) #[true, true, true, true, true, true, true, true, true, false] rfl rfl (one_of HT_.out (by kernel_rfl)) (by decide) (fun K hK => ?_)
         refine goes_ Try.func76 (by kernel_rfl) rfl #[.slice A330_0 (rd_L7 l0 x13_1).length c330_0, .slice A331_0 (rd_L7 l1 x13_1).length c331_0] (by rfl) rfl rfl (by (try simp only [List.map_toArray, List.map_cons, List.map_nil]); first | done | rfl | simp) ?_
         with_reducible refine (handoffref10_SameOps.calls k1 _ _ (rd_L7 l0 x13_1) _ _ (rd_L7 l1 x13_1) true _ ?side1 ?side2 ?side3 ?side4 A8.out).mono ?_
         (case side1 => exact Kd.C_w (Kd.C_below HR330_0.out HB.out))
         (case side2 => exact HC330_0.out)
         (case side3 => exact Kd.C_w (Kd.C_below HR331_0.out HB.out))
         (case side4 => exact HC331_0.out)
         rintro e w11 ⟨rfl, hb⟩
         refine ⟨_, rfl, ?_⟩
         have n0_ := Aside0.mk (below_step (below_w HB.out) hb)
         clear HB
         have HB := n0_
         clear n0_
         (try clear hb)
         (try clear hb2)
         (try clear hk)
         (try clear hi)
         refine hK.out _ _ ⟨((HB.out.cell (World.block_lt_of_cell? w _ hw330_0)).trans hw330_0), ((HB.out.cell (World.block_lt_of_cell? w _ hw331_0)).trans hw331_0)⟩ (fun hHeld => ?_)
         clear hK K
         refine norm_ (a' := ?_) ?_ ?_
         rotate_left
         ·show Act.put _ (some 24) _ = _
          simp only [Act.put, List.setIfInBounds_toArray, List.set_cons_zero, List.set_cons_succ, i64_w, i32_w]
          rfl
         refine pure_ (i := 9) (N := some 25) (v := ?_) (a' := ?_) #[true, true, true, true, true, true, true, true, true, true] rfl rfl (any_of HT_.out (by kernel_rfl)) (fun _ _ _ h => h) (Or.inl ⟨by rfl, ?_⟩) ?_ ?_
         rotate_left
         ·intro w'
          go_simp
          with_reducible rfl
         rotate_left
         ·simp only [Act.put, List.setIfInBounds_toArray, List.set_cons_zero, List.set_cons_succ, i64_w, i32_w]
          rfl
         refine done_ (done_of HT_.out (by kernel_rfl)) ?_
         try go_wp2
         go_roundg k1
         case measure => have := HK1.out; omega
         case rel => exact ⟨(wrap64 (x13_1 + 1)), (by first | rfl | (simp; done) | (simp [*]; done)), H', ⟨by have := HK1.out; omega⟩, ⟨below_w HB.out⟩⟩
        ·replace c9 := Bool.eq_false_iff.mpr c9
         subst c9
         have H1 : (some false) = some r := by rw [if_neg (show ¬ (false = true) by decide)] at H; exact H
         clear H
         have H := H1
         clear H1
         obtain rfl := Option.some.inj H
         try go_wp2
         have n0_ := Aside0.mk (below_drew1 HB.out)
         clear HB
         have HB := n0_
         clear n0_
         have p330 : 0 ≤ (x13_1 : Int) := of_decide_eq_true (by first | (with_reducible assumption) | assumption)
         have q330 : x13_1 < (l0.length : Int) := of_decide_eq_true (by first | (with_reducible assumption) | assumption)
         obtain ⟨ad330, A330_0, c330_0, e330, hx330_0, hl330_0, hi330_0⟩ := at_L7 HR0.out x13_1 p330 q330
         have hw330_0 := hx330_0
         cases e330
         replace hx330_0 := (HB.out.cell (World.block_lt_of_cell? w _ hx330_0)).trans hx330_0
         have HR330_0 := Aside0.mk hi330_0
         have HC330_0 := Aside0.mk hl330_0
         clear hi330_0 hl330_0
         replace p330 := eq_true p330
         replace q330 := eq_true q330
         have p331 : 0 ≤ (x13_1 : Int) := of_decide_eq_true (by first | (with_reducible assumption) | assumption)
         have q331 : x13_1 < (l1.length : Int) := of_decide_eq_true (by first | (with_reducible assumption) | assumption)
         obtain ⟨ad331, A331_0, c331_0, e331, hx331_0, hl331_0, hi331_0⟩ := at_L7 HR1.out x13_1 p331 q331
         have hw331_0 := hx331_0
         cases e331
         replace hx331_0 := (HB.out.cell (World.block_lt_of_cell? w _ hx331_0)).trans hx331_0
         have HR331_0 := Aside0.mk hi331_0
         have HC331_0 := Aside0.mk hl331_0
         clear hi331_0 hl331_0
         replace p331 := eq_true p331
         replace q331 := eq_true q331
         refine start_ (n := 10) (S := fun w' => w'.cell? (ad330.add (x13_1).toNat) = some (.slice A330_0 (rd_L7 l0 x13_1).length c330_0) ∧ w'.cell? (ad331.add (x13_1).toNat) = some (.slice A331_0 (rd_L7 l1 x13_1).length c331_0)) (ds := []) #[false, false, false, false, false, false, false, false, false, false] (by kernel_rfl) rfl rfl ⟨((HB.out.cell (World.block_lt_of_cell? w _ hw330_0)).trans hw330_0), ((HB.out.cell (World.block_lt_of_cell? w _ hw331_0)).trans hw331_0)⟩ (fun hHeld => ?_); refine with_tabW handoffref10_Same.tab6 handoffref10_Same.bits6 (fun HT_ HW_ => ?_)
         generalize wr.drew = w12 at HB HR330_0 HR331_0 hx330_0 hx331_0 hHeld ⊢
         refine pure_ (i := 0) (N := some 16) (v := ?_) (a' := ?_) #[true, false, false, false, false, false, false, false, false, false] rfl rfl (any_of HT_.out (by kernel_rfl)) (fun _ _ _ h => h) (Or.inl ⟨by rfl, ?_⟩) ?_ ?_
         rotate_left
         ·intro w'
          go_simp
          with_reducible rfl
         rotate_left
         ·simp only [Act.put, List.setIfInBounds_toArray, List.set_cons_zero, List.set_cons_succ, i64_w, i32_w]
          rfl
         refine pure_ (i := 1) (N := some 17) (v := ?_) (a' := ?_) #[true, true, false, false, false, false, false, false, false, false] rfl rfl (any_of HT_.out (by kernel_rfl)) (fun _ _ _ h => h) (Or.inl ⟨by rfl, ?_⟩) ?_ ?_
         rotate_left
         ·intro w'
          go_simp
          with_reducible rfl
         rotate_left
         ·simp only [Act.put, List.setIfInBounds_toArray, List.set_cons_zero, List.set_cons_succ, i64_w, i32_w]
          rfl
         refine pure_ (i := 2) (N := some 18) (v := ?_) (a' := ?_) #[true, true, true, false, false, false, false, false, false, false] rfl rfl (any_of HT_.out (by kernel_rfl)) (fun _ _ _ h => h) (Or.inl ⟨by rfl, ?_⟩) ?_ ?_
         rotate_left
         ·intro w'
          go_simp
          with_reducible rfl
         rotate_left
         ·simp only [Act.put, List.setIfInBounds_toArray, List.set_cons_zero, List.set_cons_succ, i64_w, i32_w]
          rfl
         refine pure_ (i := 4) (N := some 20) (v := ?_) (a' := ?_) #[true, true, true, false, true, false, false, false, false, false] rfl rfl (any_of HT_.out (by kernel_rfl)) (fun _ _ _ h => h) (Or.inl ⟨by rfl, ?_⟩) ?_ ?_
         rotate_left
         ·intro w'
          go_simp
          with_reducible rfl
         rotate_left
         ·simp only [Act.put, List.setIfInBounds_toArray, List.set_cons_zero, List.set_cons_succ, i64_w, i32_w]
          rfl
         refine pure_ (i := 5) (N := some 21) (v := ?_) (a' := ?_) #[true, true, true, false, true, true, false, false, false, false] rfl rfl (any_of HT_.out (by kernel_rfl)) (fun _ _ _ h => h) (Or.inl ⟨by rfl, ?_⟩) ?_ ?_
         rotate_left
         ·intro w'
          go_simp
          with_reducible rfl
         rotate_left
         ·simp only [Act.put, List.setIfInBounds_toArray, List.set_cons_zero, List.set_cons_succ, i64_w, i32_w]
          rfl
         refine pure_ (i := 6) (N := some 22) (v := ?_) (a' := ?_) #[true, true, true, false, true, true, true, false, false, false] rfl rfl (any_of HT_.out (by kernel_rfl)) (fun _ _ _ h => h) (Or.inl ⟨by rfl, ?_⟩) ?_ ?_
         rotate_left
         ·intro w'
          go_simp
          with_reducible rfl
         rotate_left
         ·simp only [Act.put, List.setIfInBounds_toArray, List.set_cons_zero, List.set_cons_succ, i64_w, i32_w]
          rfl
         refine take_ (i := 3) (N := some 19) (v := ?_) (a' := ?_) #[true, true, true, true, true, true, true, false, false, false] rfl rfl (take_ofW HT_.out HW_.out (by kernel_rfl)) (fun _ _ _ h => h) (Or.inl ⟨by rfl, ?_⟩) hHeld ?_ ?_
         rotate_left
         ·rintro w' ⟨s0, s1⟩
          go_simp
          with_reducible rfl
         rotate_left
         ·simp only [Act.put, List.setIfInBounds_toArray, List.set_cons_zero, List.set_cons_succ, i64_w, i32_w]
          rfl
         refine take_ (i := 7) (N := some 23) (v := ?_) (a' := ?_) #[true, true, true, true, true, true, true, true, false, false] rfl rfl (take_ofW HT_.out HW_.out (by kernel_rfl)) (fun _ _ _ h => h) (Or.inl ⟨by rfl, ?_⟩) hHeld ?_ ?_
         rotate_left
         ·rintro w' ⟨s0, s1⟩
          go_simp
          with_reducible rfl
         rotate_left
         ·simp only [Act.put, List.setIfInBounds_toArray, List.set_cons_zero, List.set_cons_succ, i64_w, i32_w]
          rfl
         refine one_ (i := 8) (N := some 24) #[true, true, true, true, true, true, true, true, true, false] rfl rfl (one_of HT_.out (by kernel_rfl)) (by decide) (fun K hK => ?_)
         refine goes_ Try.func76 (by kernel_rfl) rfl #[.slice A330_0 (rd_L7 l0 x13_1).length c330_0, .slice A331_0 (rd_L7 l1 x13_1).length c331_0] (by rfl) rfl rfl (by (try simp only [List.map_toArray, List.map_cons, List.map_nil]); first | done | rfl | simp) ?_
         with_reducible refine (handoffref10_SameOps.calls k1 _ _ (rd_L7 l0 x13_1) _ _ (rd_L7 l1 x13_1) false _ ?side1 ?side2 ?side3 ?side4 A8.out).mono ?_
         (case side1 => exact Kd.C_w (Kd.C_below HR330_0.out HB.out))
         (case side2 => exact HC330_0.out)
         (case side3 => exact Kd.C_w (Kd.C_below HR331_0.out HB.out))
         (case side4 => exact HC331_0.out)
         rintro e w13 ⟨rfl, hb⟩
         refine ⟨_, rfl, ?_⟩
         have n0_ := Aside0.mk (below_step (below_w HB.out) hb)
         clear HB
         have HB := n0_
         clear n0_
         (try clear hb)
         (try clear hb2)
         (try clear hk)
         (try clear hi)
         refine hK.out _ _ ⟨((HB.out.cell (World.block_lt_of_cell? w _ hw330_0)).trans hw330_0), ((HB.out.cell (World.block_lt_of_cell? w _ hw331_0)).trans hw331_0)⟩ (fun hHeld => ?_)
         clear hK K
         refine norm_ (a' := ?_) ?_ ?_
         rotate_left
         ·show Act.put _ (some 24) _ = _
          simp only [Act.put, List.setIfInBounds_toArray, List.set_cons_zero, List.set_cons_succ, i64_w, i32_w]
          rfl
         refine pure_ (i := 9) (N := some 25) (v := ?_) (a' := ?_) #[true, true, true, true, true, true, true, true, true, true] rfl rfl (any_of HT_.out (by kernel_rfl)) (fun _ _ _ h => h) (Or.inl ⟨by rfl, ?_⟩) ?_ ?_
         rotate_left
         ·intro w'
          go_simp
          with_reducible rfl
         rotate_left
         ·simp only [Act.put, List.setIfInBounds_toArray, List.set_cons_zero, List.set_cons_succ, i64_w, i32_w]
          rfl
         refine done_ (done_of HT_.out (by kernel_rfl)) ?_
         try go_wp2
         go_ret
         exact ⟨by first | rfl | (simp [errW_none, errW_some] <;> rfl) | (simp [*, errW_none, errW_some] <;> rfl), by exact below_w HB.out⟩
       ·rw [if_neg c7] at H
        exact absurd H (by simp)
      ·rw [if_neg c6] at H
       exact absurd H (by simp)
     ·rw [if_neg c5] at H
      exact absurd H (by simp)
    ·rw [if_neg c4] at H
     have c4b0 : decide (x13_1 < (l0.length : Int)) = false := decide_eq_false c4
     clear c4
     obtain rfl := Option.some.inj H
     go_wp2
     go_ret
     exact ⟨by first | rfl | (simp [errW_none, errW_some] <;> rfl) | (simp [*, errW_none, errW_some] <;> rfl), by exact below_w HB.out⟩
 ·rw [if_neg c3] at H
  have c3b0 : ((l0.length : Int) == (l1.length : Int)) = false := beq_eq_false_iff_ne.mpr c3
  have c3b1 : ((l0.length : Int) != (l1.length : Int)) = true := bne_iff_ne.mpr c3
  have c3b2 : (l0.length == l1.length) = false := by first | simpa using c3 | (simp at c3 ⊢; omega)
  obtain rfl := Option.some.inj H
  go_enter Try.func32, Try.ntmps32
  go_wp2
  go_ret
  exact ⟨by first | rfl | (simp [errW_none, errW_some] <;> rfl) | (simp [*, errW_none, errW_some] <;> rfl), by exact below_w HB.out⟩

/-! ### handofflaw10_PlanBytes: function 6 -/
def handofflaw10_PlanBytes.j0 : Nat → List (List (S39)) → List Int → Bool → Option (Bool)
  | 0, _, _, _ => none
  | k + 1, x0, x1, x21 => if x21 = true then (some true) else ((plan_Encode.f k x0).bind fun bt335 => ((handoffref10_Encode.f k x0).bind fun bt339 => ((plan_Decode.f k x1).bind fun bt343 => ((handoffref10_Decode.f k x1).bind fun bt347 => (if (strOfNums bt335.1).toList = (strOfNums bt339.1).toList then (if bt335.2 = bt339.2 then ((plan_Right.f k x0).bind fun t351 => ((handoffref10_Right.f k x0).bind fun t352 => (if (t351 == t352) = true then ((handoffref10_Same.f k bt343.1 bt347.1).bind fun t353 => (if t353 = true then (some (bt343.2 == bt347.2)) else (some false))) else (some false)))) else (some false)) else (some false))))))
def handofflaw10_PlanBytes.f (k : Nat) (l0 : List (List (S39))) (l1 : List Int) : Option (Bool) := (handofflaw10_planAlive.f k).bind fun t333 => (if t333 = true then ((handofflaw10_great.f k l0).bind fun t334 => (if t334 = true then (handofflaw10_PlanBytes.j0 k l0 l1 true) else (handofflaw10_PlanBytes.j0 k l0 l1 (decide ((l1.length : Int) > 2000))))) else (some false))
theorem handofflaw10_PlanBytes.mono_l : ∀ k, (∀ y0 y1 y2, LeO (handofflaw10_PlanBytes.j0 k y0 y1 y2) (handofflaw10_PlanBytes.j0 (k + 1) y0 y1 y2))
 | 0 => fun _ _ _ r h => by simp [handofflaw10_PlanBytes.j0] at h
 | k + 1 => by
  have ih0 := handofflaw10_PlanBytes.mono_l k
  all_goals intros
  all_goals first | unfold handofflaw10_PlanBytes.j0
  all_goals (repeat' first | with_reducible first | apply ih0 | exact handofflaw10_great.mono _ _ | exact handofflaw10_planAlive.mono _ | exact handoffref10_Decode.mono _ _ | exact handoffref10_Encode.mono _ _ | exact handoffref10_Right.mono _ _ | exact handoffref10_Same.mono _ _ _ | exact plan_Decode.mono _ _ | exact plan_Encode.mono _ _ | exact plan_Right.mono _ _ | exact LeO.refl _ | exact LeO.none _ | refine LeO.ite ?_ ?_ | refine LeO.bind ?_ (fun _ => ?_) | apply ih0 | exact handofflaw10_great.mono _ _ | exact handofflaw10_planAlive.mono _ | exact handoffref10_Decode.mono _ _ | exact handoffref10_Encode.mono _ _ | exact handoffref10_Right.mono _ _ | exact handoffref10_Same.mono _ _ _ | exact plan_Decode.mono _ _ | exact plan_Encode.mono _ _ | exact plan_Right.mono _ _ | exact LeO.none _ | refine LeO.ite ?_ ?_ | refine LeO.bind ?_ (fun _ => ?_))
theorem handofflaw10_PlanBytes.mono : ∀ a0 a1 k, LeO (handofflaw10_PlanBytes.f k a0 a1) (handofflaw10_PlanBytes.f (k + 1) a0 a1) := by
 intro a0 a1 k
 have ih0 := handofflaw10_PlanBytes.mono_l k
 unfold handofflaw10_PlanBytes.f
 repeat' first | with_reducible first | apply ih0 | exact handofflaw10_great.mono _ _ | exact handofflaw10_planAlive.mono _ | exact handoffref10_Decode.mono _ _ | exact handoffref10_Encode.mono _ _ | exact handoffref10_Right.mono _ _ | exact handoffref10_Same.mono _ _ _ | exact plan_Decode.mono _ _ | exact plan_Encode.mono _ _ | exact plan_Right.mono _ _ | exact LeO.refl _ | exact LeO.none _ | refine LeO.ite ?_ ?_ | refine LeO.bind ?_ (fun _ => ?_) | apply ih0 | exact handofflaw10_great.mono _ _ | exact handofflaw10_planAlive.mono _ | exact handoffref10_Decode.mono _ _ | exact handoffref10_Encode.mono _ _ | exact handoffref10_Right.mono _ _ | exact handoffref10_Same.mono _ _ _ | exact plan_Decode.mono _ _ | exact plan_Encode.mono _ _ | exact plan_Right.mono _ _ | exact LeO.none _ | refine LeO.ite ?_ ?_ | refine LeO.bind ?_ (fun _ => ?_)
set_option maxHeartbeats 8000000 in
set_option maxRecDepth 100000 in
theorem handofflaw10_PlanBytes.calls (k : Nat) (A0 : Option Addr) (c0 : Nat) (l0 : List (List (S39))) (A1 : Option Addr) (c1 : Nat) (l1 : List Int) (r : Bool) (w : World) (hr0 : Kd.C (Kd.slice 39 k39) w A0 l0.length l0) (hc0 : l0.length ≤ c0) (hr1 : Kd.C (Kd.int .u8) w A1 l1.length l1) (hc1 : l1.length ≤ c1) (h : handofflaw10_PlanBytes.f k l0 l1 = some r) :
  Calls Try.prog 6 #[.slice A0 l0.length c0, .slice A1 l1.length c1] w fun e w' => e = .returned (.bool r) ∧ Below w.heap.size w w' := by
 have HR0 := Aside0.mk hr0
 have HC0 := Aside0.mk hc0
 clear hr0 hc0
 have HR1 := Aside0.mk hr1
 have HC1 := Aside0.mk hc1
 clear hr1 hc1
 have HB := Aside0.mk (Below.refl w.heap.size w)
 have H : ((handofflaw10_planAlive.f k).bind fun t333 => (if t333 = true then ((handofflaw10_great.f k l0).bind fun t334 => (if t334 = true then (handofflaw10_PlanBytes.j0 k l0 l1 true) else (handofflaw10_PlanBytes.j0 k l0 l1 (decide ((l1.length : Int) > 2000))))) else (some false))) = some r := h
 clear h
 replace H := Option.bind_eq_some_iff.mp H
 obtain ⟨t333, A30, H⟩ := H
 try dsimp only at H
 have A3 := Aside0.mk A30
 clear A30
 by_cases c4 : t333 = true
 ·subst c4
  have H1 : ((handofflaw10_great.f k l0).bind fun t334 => (if t334 = true then (handofflaw10_PlanBytes.j0 k l0 l1 true) else (handofflaw10_PlanBytes.j0 k l0 l1 (decide ((l1.length : Int) > 2000))))) = some r := by rw [if_pos rfl] at H; exact H
  clear H
  have H := H1
  clear H1
  have HC5 := Aside0.mk H
  clear H
  go_enter Try.func6, Try.ntmps6
  go_upto_region 3 with (first | ((with_reducible refine gate_callee (f := 20) rfl ?_); refine goesL_ (some 13) rfl rfl Try.func20 (by kernel_rfl) rfl #[] rfl (by (try simp only [List.map_toArray, List.map_cons, List.map_nil]); first | done | rfl | simp) ?_; (with_reducible refine (handofflaw10_planAlive.calls k  true _ A3.out).mono ?_); rintro e w6 ⟨rfl, hb⟩; refine ⟨_, rfl, ?_⟩; have n0_ := Aside0.mk (below_step (below_w HB.out) hb); clear HB; have HB := n0_; clear n0_; (try clear hb); (try clear hb2); (try clear hk); (try clear hi)))
  (try simp only [Act.put, List.setIfInBounds_toArray, List.set_cons_zero, List.set_cons_succ])
  go_cut [21] (fun v21 wc => ∃ (kq : Nat) (x21_4 : Bool), v21 = .bool x21_4 ∧ Aside0 (handofflaw10_PlanBytes.j0 kq l0 l1 x21_4 = some r) ∧ Aside0 (kq ≤ k) ∧ Aside0 (Below w.heap.size w wc))
  case first =>
   have H := HC5.out
   clear HC5
   replace H := Option.bind_eq_some_iff.mp H
   obtain ⟨t334, A70, H⟩ := H
   try dsimp only at H
   have A7 := Aside0.mk A70
   clear A70
   by_cases c8 : t334 = true
   ·subst c8
    have H1 : (handofflaw10_PlanBytes.j0 k l0 l1 true) = some r := by rw [if_pos rfl] at H; exact H
    clear H
    have H := H1
    clear H1
    have H' := Aside0.mk H
    clear H
    go_wp2_with (first | ((with_reducible refine gate_callee (f := 26) rfl ?_); refine goesL_ (some 16) rfl rfl Try.func26 (by kernel_rfl) rfl #[.slice A0 l0.length c0] rfl (by (try simp only [List.map_toArray, List.map_cons, List.map_nil]); first | done | rfl | simp) ?_; (with_reducible refine (handofflaw10_great.calls k _ _ l0 true _ ?side1 ?side2 A7.out).mono ?_); (case side1 => exact Kd.C_w (Kd.C_below HR0.out HB.out)); (case side2 => exact HC0.out); rintro e w9 ⟨rfl, hb⟩; refine ⟨_, rfl, ?_⟩; have n0_ := Aside0.mk (below_step (below_w HB.out) hb); clear HB; have HB := n0_; clear n0_; (try clear hb); (try clear hb2); (try clear hk); (try clear hi)))
    go_meet
    case rel => exact ⟨_, (true), (by first | rfl | (simp; done) | (simp [*]; done)), H', ⟨by first | omega | exact Nat.le_refl _⟩, ⟨below_w HB.out⟩⟩
   ·replace c8 := Bool.eq_false_iff.mpr c8
    subst c8
    have H1 : (handofflaw10_PlanBytes.j0 k l0 l1 (decide ((l1.length : Int) > 2000))) = some r := by rw [if_neg (show ¬ (false = true) by decide)] at H; exact H
    clear H
    have H := H1
    clear H1
    have H' := Aside0.mk H
    clear H
    go_wp2_with (first | ((with_reducible refine gate_callee (f := 26) rfl ?_); refine goesL_ (some 16) rfl rfl Try.func26 (by kernel_rfl) rfl #[.slice A0 l0.length c0] rfl (by (try simp only [List.map_toArray, List.map_cons, List.map_nil]); first | done | rfl | simp) ?_; (with_reducible refine (handofflaw10_great.calls k _ _ l0 false _ ?side1 ?side2 A7.out).mono ?_); (case side1 => exact Kd.C_w (Kd.C_below HR0.out HB.out)); (case side2 => exact HC0.out); rintro e w10 ⟨rfl, hb⟩; refine ⟨_, rfl, ?_⟩; have n0_ := Aside0.mk (below_step (below_w HB.out) hb); clear HB; have HB := n0_; clear n0_; (try clear hb); (try clear hb2); (try clear hk); (try clear hi)))
    go_meet
    case rel => exact ⟨_, (decide ((l1.length : Int) > 2000)), (by first | rfl | (simp; done) | (simp [*]; done)), H', ⟨by first | omega | exact Nat.le_refl _⟩, ⟨below_w HB.out⟩⟩
  case rest =>
   clear HC5
   (try clear c1); (try clear c4)
   obtain ⟨kq, x21_4, rfl, HA, HJ4, HB⟩ := hcut
   cases kq with
   | zero => exact absurd HA.out (by simp [handofflaw10_PlanBytes.j0])
   | succ kj4 =>
    have H := HA.out
    clear HA
    simp only [handofflaw10_PlanBytes.j0] at H
    by_cases c11 : x21_4 = true
    ·subst c11
     have H1 : (some true) = some r := by rw [if_pos rfl] at H; exact H
     clear H
     have H := H1
     clear H1
     obtain rfl := Option.some.inj H
     go_wp2
     go_ret
     exact ⟨by first | rfl | (simp [errW_none, errW_some] <;> rfl) | (simp [*, errW_none, errW_some] <;> rfl), by exact below_w HB.out⟩
    ·replace c11 := Bool.eq_false_iff.mpr c11
     subst c11
     have H1 : ((plan_Encode.f kj4 l0).bind fun bt335 => ((handoffref10_Encode.f kj4 l0).bind fun bt339 => ((plan_Decode.f kj4 l1).bind fun bt343 => ((handoffref10_Decode.f kj4 l1).bind fun bt347 => (if (strOfNums bt335.1).toList = (strOfNums bt339.1).toList then (if bt335.2 = bt339.2 then ((plan_Right.f kj4 l0).bind fun t351 => ((handoffref10_Right.f kj4 l0).bind fun t352 => (if (t351 == t352) = true then ((handoffref10_Same.f kj4 bt343.1 bt347.1).bind fun t353 => (if t353 = true then (some (bt343.2 == bt347.2)) else (some false))) else (some false)))) else (some false)) else (some false)))))) = some r := by rw [if_neg (show ¬ (false = true) by decide)] at H; exact H
     clear H
     have H := H1
     clear H1
     replace H := Option.bind_eq_some_iff.mp H
     obtain ⟨⟨t335, t336⟩, A120, H⟩ := H
     try dsimp only at H
     have A12 := Aside0.mk A120
     clear A120
     replace H := Option.bind_eq_some_iff.mp H
     obtain ⟨⟨t339, t340⟩, A130, H⟩ := H
     try dsimp only at H
     have A13 := Aside0.mk A130
     clear A130
     replace H := Option.bind_eq_some_iff.mp H
     obtain ⟨⟨t343, t344⟩, A140, H⟩ := H
     try dsimp only at H
     have A14 := Aside0.mk A140
     clear A140
     replace H := Option.bind_eq_some_iff.mp H
     obtain ⟨⟨t347, t348⟩, A150, H⟩ := H
     try dsimp only at H
     have A15 := Aside0.mk A150
     clear A150
     by_cases c16 : (strOfNums t335).toList = (strOfNums t339).toList
     ·rw [if_pos c16] at H
      have c16b0 : ((strOfNums t335).toList == (strOfNums t339).toList) = true := beq_iff_eq.mpr c16
      have c16b1 : ((strOfNums t335).toList != (strOfNums t339).toList) = false := bne_eq_false_iff_eq.mpr c16
      clear c16
      by_cases c17 : t336 = t340
      ·rw [if_pos c17] at H
       have c17b0 : (t336 == t340) = true := beq_iff_eq.mpr c17
       have c17b1 : (t336 != t340) = false := bne_eq_false_iff_eq.mpr c17
       clear c17
       replace H := Option.bind_eq_some_iff.mp H
       obtain ⟨t351, A180, H⟩ := H
       try dsimp only at H
       have A18 := Aside0.mk A180
       clear A180
       replace H := Option.bind_eq_some_iff.mp H
       obtain ⟨t352, A190, H⟩ := H
       try dsimp only at H
       have A19 := Aside0.mk A190
       clear A190
       by_cases c20 : (t351 == t352) = true
       ·rw [if_pos c20] at H
        have c20b0 : (t351 == t352) = true := c20
        (try (have c20b1 : decide (t351 = t352) = true := by simpa using c20))
        (try (have c20b2 : (t351 == t352) = true := by simpa using c20))
        clear c20
        replace H := Option.bind_eq_some_iff.mp H
        obtain ⟨t353, A210, H⟩ := H
        try dsimp only at H
        have A21 := Aside0.mk A210
        clear A210
        by_cases c22 : t353 = true
        ·subst c22
         have H1 : (some (t344 == t348)) = some r := by rw [if_pos rfl] at H; exact H
         clear H
         have H := H1
         clear H1
         obtain rfl := Option.some.inj H
         go_wp2_with (first | ((with_reducible refine gate_callee (f := 25) rfl ?_); refine goesL_ (some 24) rfl rfl Try.func25 (by kernel_rfl) rfl #[.slice A0 l0.length c0] rfl (by (try simp only [List.map_toArray, List.map_cons, List.map_nil]); first | done | rfl | simp) ?_; (with_reducible refine (plan_Encode.calls kj4 _ _ l0 t335 t336 _ ?side1 ?side2 A12.out).mono ?_); (case side1 => exact Kd.C_w (Kd.C_below HR0.out HB.out)); (case side2 => exact HC0.out); rintro e w23 ⟨v337, rfl, ho0, hb⟩; refine ⟨_, rfl, ?_⟩; have n0_ := Aside0.mk (Kd.R_lower ho0 (below_size (below_w HB.out))); have n1_ := Aside0.mk (below_step (below_w HB.out) hb); clear HB; have HO338 := n0_; have HB := n1_; clear n0_ n1_; (try clear hb); (try clear hb2); (try clear hk); (try clear hi); (try clear ho0)) | ((with_reducible refine gate_callee (f := 27) rfl ?_); refine goesL_ (some 29) rfl rfl Try.func27 (by kernel_rfl) rfl #[.slice A0 l0.length c0] rfl (by (try simp only [List.map_toArray, List.map_cons, List.map_nil]); first | done | rfl | simp) ?_; (with_reducible refine (handoffref10_Encode.calls kj4 _ _ l0 t339 t340 _ ?side1 ?side2 A13.out).mono ?_); (case side1 => exact Kd.C_w (Kd.C_below HR0.out HB.out)); (case side2 => exact HC0.out); rintro e w24 ⟨v341, rfl, ho0, hb⟩; refine ⟨_, rfl, ?_⟩; have n0_ := Aside0.mk (Kd.R_elder' (by exact Kd.R_w HO338.out) (Kd.R_base ho0) hb); have n1_ := Aside0.mk (Kd.R_lower (Kd.R_new' ho0 (Kd.R_lt (by exact Kd.R_w HO338.out))) (below_size (below_w HB.out))); have n2_ := Aside0.mk (below_step (below_w HB.out) hb); clear HO338; clear HB; have HO338 := n0_; have HO342 := n1_; have HB := n2_; clear n0_ n1_ n2_; (try clear hb); (try clear hb2); (try clear hk); (try clear hi); (try clear ho0)) | ((with_reducible refine gate_callee (f := 28) rfl ?_); refine goesL_ (some 34) rfl rfl Try.func28 (by kernel_rfl) rfl #[.slice A1 l1.length c1] rfl (by (try simp only [List.map_toArray, List.map_cons, List.map_nil]); first | done | rfl | simp) ?_; (with_reducible refine (plan_Decode.calls kj4 _ _ l1 t343 t344 _ ?side1 ?side2 A14.out).mono ?_); (case side1 => exact Kd.C_w (Kd.C_below HR1.out HB.out)); (case side2 => exact HC1.out); rintro e w25 ⟨v345, rfl, ho0, hb⟩; refine ⟨_, rfl, ?_⟩; have n0_ := Aside0.mk (Kd.R_below (by exact Kd.R_w HO338.out) hb); have n1_ := Aside0.mk (Kd.R_below (by exact Kd.R_w HO342.out) hb); have n2_ := Aside0.mk (Kd.R_lower ho0 (below_size (below_w HB.out))); have n3_ := Aside0.mk (below_step (below_w HB.out) hb); clear HO338; clear HO342; clear HB; have HO338 := n0_; have HO342 := n1_; have HO346 := n2_; have HB := n3_; clear n0_ n1_ n2_ n3_; (try clear hb); (try clear hb2); (try clear hk); (try clear hi); (try clear ho0)) | ((with_reducible refine gate_callee (f := 29) rfl ?_); refine goesL_ (some 39) rfl rfl Try.func29 (by kernel_rfl) rfl #[.slice A1 l1.length c1] rfl (by (try simp only [List.map_toArray, List.map_cons, List.map_nil]); first | done | rfl | simp) ?_; (with_reducible refine (handoffref10_Decode.calls kj4 _ _ l1 t347 t348 _ ?side1 ?side2 A15.out).mono ?_); (case side1 => exact Kd.C_w (Kd.C_below HR1.out HB.out)); (case side2 => exact HC1.out); rintro e w26 ⟨v349, rfl, ho0, hb⟩; refine ⟨_, rfl, ?_⟩; have n0_ := Aside0.mk (Kd.R_below (by exact Kd.R_w HO338.out) hb); have n1_ := Aside0.mk (Kd.R_below (by exact Kd.R_w HO342.out) hb); have n2_ := Aside0.mk (Kd.R_elder' (by exact Kd.R_w HO346.out) (Kd.R_base ho0) hb); have n3_ := Aside0.mk (Kd.R_lower (Kd.R_new' ho0 (Kd.R_lt (by exact Kd.R_w HO346.out))) (below_size (below_w HB.out))); have n4_ := Aside0.mk (below_step (below_w HB.out) hb); clear HO338; clear HO342; clear HO346; clear HB; have HO338 := n0_; have HO342 := n1_; have HO346 := n2_; have HO350 := n3_; have HB := n4_; clear n0_ n1_ n2_ n3_ n4_; (try clear hb); (try clear hb2); (try clear hk); (try clear hi); (try clear ho0); have hcv27 := own_string (P := Try.prog) Try.underlying42 Try.underlying5 Try.underlying9 (Kd.own_of_R HO338.out); have hcv28 := own_string (P := Try.prog) Try.underlying42 Try.underlying5 Try.underlying9 (Kd.own_of_R HO342.out)) | (go_at_call 30; (with_reducible refine (plan_Right.calls kj4 _ _ l0 t351 _ ?side1 ?side2 A18.out).mono ?_); (case side1 => exact Kd.C_w (Kd.C_below HR0.out HB.out)); (case side2 => exact HC0.out); rintro e w29 ⟨rfl, hb⟩; have n0_ := Aside0.mk (Kd.R_below (by exact Kd.R_w HO338.out) hb); have n1_ := Aside0.mk (Kd.R_below (by exact Kd.R_w HO342.out) hb); have n2_ := Aside0.mk (Kd.R_below (by exact Kd.R_w HO346.out) hb); have n3_ := Aside0.mk (Kd.R_below (by exact Kd.R_w HO350.out) hb); have n4_ := Aside0.mk (below_step (below_w HB.out) hb); clear HO338; clear HO342; clear HO346; clear HO350; clear HB; have HO338 := n0_; have HO342 := n1_; have HO346 := n2_; have HO350 := n3_; have HB := n4_; clear n0_ n1_ n2_ n3_ n4_; (try clear hb); (try clear hb2); (try clear hk); (try clear hi)) | (go_at_call 31; (with_reducible refine (handoffref10_Right.calls kj4 _ _ l0 t352 _ ?side1 ?side2 A19.out).mono ?_); (case side1 => exact Kd.C_w (Kd.C_below HR0.out HB.out)); (case side2 => exact HC0.out); rintro e w30 ⟨rfl, hb⟩; have n0_ := Aside0.mk (Kd.R_below (by exact Kd.R_w HO338.out) hb); have n1_ := Aside0.mk (Kd.R_below (by exact Kd.R_w HO342.out) hb); have n2_ := Aside0.mk (Kd.R_below (by exact Kd.R_w HO346.out) hb); have n3_ := Aside0.mk (Kd.R_below (by exact Kd.R_w HO350.out) hb); have n4_ := Aside0.mk (below_step (below_w HB.out) hb); clear HO338; clear HO342; clear HO346; clear HO350; clear HB; have HO338 := n0_; have HO342 := n1_; have HO346 := n2_; have HO350 := n3_; have HB := n4_; clear n0_ n1_ n2_ n3_ n4_; (try clear hb); (try clear hb2); (try clear hk); (try clear hi); obtain ⟨Ao31, co31, eo31⟩ := Kd.R_slice HO346.out; subst eo31; obtain ⟨Ao32, co32, eo32⟩ := Kd.R_slice HO350.out; subst eo32) | (go_at_call 32; (with_reducible refine (handoffref10_Same.calls kj4 _ _ t343 _ _ t347 true _ ?side1 ?side2 ?side3 ?side4 A21.out).mono ?_); (case side1 => exact Kd.C_w (Kd.R_reads' HO346.out).2.2); (case side2 => exact (Kd.R_reads' HO346.out).2.1); (case side3 => exact Kd.C_w (Kd.R_reads' HO350.out).2.2); (case side4 => exact (Kd.R_reads' HO350.out).2.1); rintro e w33 ⟨rfl, hb⟩; have n0_ := Aside0.mk (Kd.R_below (by exact Kd.R_w HO338.out) hb); have n1_ := Aside0.mk (Kd.R_below (by exact Kd.R_w HO342.out) hb); have n2_ := Aside0.mk (Kd.R_below (by exact Kd.R_w HO346.out) hb); have n3_ := Aside0.mk (Kd.R_below (by exact Kd.R_w HO350.out) hb); have n4_ := Aside0.mk (below_step (below_w HB.out) hb); clear HO338; clear HO342; clear HO346; clear HO350; clear HB; have HO338 := n0_; have HO342 := n1_; have HO346 := n2_; have HO350 := n3_; have HB := n4_; clear n0_ n1_ n2_ n3_ n4_; (try clear hb); (try clear hb2); (try clear hk); (try clear hi)))
         go_ret
         exact ⟨by first | rfl | (simp [errW_none, errW_some] <;> rfl) | (simp [*, errW_none, errW_some] <;> rfl), by exact below_w HB.out⟩
        ·replace c22 := Bool.eq_false_iff.mpr c22
         subst c22
         have H1 : (some false) = some r := by rw [if_neg (show ¬ (false = true) by decide)] at H; exact H
         clear H
         have H := H1
         clear H1
         obtain rfl := Option.some.inj H
         go_wp2_with (first | ((with_reducible refine gate_callee (f := 25) rfl ?_); refine goesL_ (some 24) rfl rfl Try.func25 (by kernel_rfl) rfl #[.slice A0 l0.length c0] rfl (by (try simp only [List.map_toArray, List.map_cons, List.map_nil]); first | done | rfl | simp) ?_; (with_reducible refine (plan_Encode.calls kj4 _ _ l0 t335 t336 _ ?side1 ?side2 A12.out).mono ?_); (case side1 => exact Kd.C_w (Kd.C_below HR0.out HB.out)); (case side2 => exact HC0.out); rintro e w34 ⟨v337, rfl, ho0, hb⟩; refine ⟨_, rfl, ?_⟩; have n0_ := Aside0.mk (Kd.R_lower ho0 (below_size (below_w HB.out))); have n1_ := Aside0.mk (below_step (below_w HB.out) hb); clear HB; have HO338 := n0_; have HB := n1_; clear n0_ n1_; (try clear hb); (try clear hb2); (try clear hk); (try clear hi); (try clear ho0)) | ((with_reducible refine gate_callee (f := 27) rfl ?_); refine goesL_ (some 29) rfl rfl Try.func27 (by kernel_rfl) rfl #[.slice A0 l0.length c0] rfl (by (try simp only [List.map_toArray, List.map_cons, List.map_nil]); first | done | rfl | simp) ?_; (with_reducible refine (handoffref10_Encode.calls kj4 _ _ l0 t339 t340 _ ?side1 ?side2 A13.out).mono ?_); (case side1 => exact Kd.C_w (Kd.C_below HR0.out HB.out)); (case side2 => exact HC0.out); rintro e w35 ⟨v341, rfl, ho0, hb⟩; refine ⟨_, rfl, ?_⟩; have n0_ := Aside0.mk (Kd.R_elder' (by exact Kd.R_w HO338.out) (Kd.R_base ho0) hb); have n1_ := Aside0.mk (Kd.R_lower (Kd.R_new' ho0 (Kd.R_lt (by exact Kd.R_w HO338.out))) (below_size (below_w HB.out))); have n2_ := Aside0.mk (below_step (below_w HB.out) hb); clear HO338; clear HB; have HO338 := n0_; have HO342 := n1_; have HB := n2_; clear n0_ n1_ n2_; (try clear hb); (try clear hb2); (try clear hk); (try clear hi); (try clear ho0)) | ((with_reducible refine gate_callee (f := 28) rfl ?_); refine goesL_ (some 34) rfl rfl Try.func28 (by kernel_rfl) rfl #[.slice A1 l1.length c1] rfl (by (try simp only [List.map_toArray, List.map_cons, List.map_nil]); first | done | rfl | simp) ?_; (with_reducible refine (plan_Decode.calls kj4 _ _ l1 t343 t344 _ ?side1 ?side2 A14.out).mono ?_); (case side1 => exact Kd.C_w (Kd.C_below HR1.out HB.out)); (case side2 => exact HC1.out); rintro e w36 ⟨v345, rfl, ho0, hb⟩; refine ⟨_, rfl, ?_⟩; have n0_ := Aside0.mk (Kd.R_below (by exact Kd.R_w HO338.out) hb); have n1_ := Aside0.mk (Kd.R_below (by exact Kd.R_w HO342.out) hb); have n2_ := Aside0.mk (Kd.R_lower ho0 (below_size (below_w HB.out))); have n3_ := Aside0.mk (below_step (below_w HB.out) hb); clear HO338; clear HO342; clear HB; have HO338 := n0_; have HO342 := n1_; have HO346 := n2_; have HB := n3_; clear n0_ n1_ n2_ n3_; (try clear hb); (try clear hb2); (try clear hk); (try clear hi); (try clear ho0)) | ((with_reducible refine gate_callee (f := 29) rfl ?_); refine goesL_ (some 39) rfl rfl Try.func29 (by kernel_rfl) rfl #[.slice A1 l1.length c1] rfl (by (try simp only [List.map_toArray, List.map_cons, List.map_nil]); first | done | rfl | simp) ?_; (with_reducible refine (handoffref10_Decode.calls kj4 _ _ l1 t347 t348 _ ?side1 ?side2 A15.out).mono ?_); (case side1 => exact Kd.C_w (Kd.C_below HR1.out HB.out)); (case side2 => exact HC1.out); rintro e w37 ⟨v349, rfl, ho0, hb⟩; refine ⟨_, rfl, ?_⟩; have n0_ := Aside0.mk (Kd.R_below (by exact Kd.R_w HO338.out) hb); have n1_ := Aside0.mk (Kd.R_below (by exact Kd.R_w HO342.out) hb); have n2_ := Aside0.mk (Kd.R_elder' (by exact Kd.R_w HO346.out) (Kd.R_base ho0) hb); have n3_ := Aside0.mk (Kd.R_lower (Kd.R_new' ho0 (Kd.R_lt (by exact Kd.R_w HO346.out))) (below_size (below_w HB.out))); have n4_ := Aside0.mk (below_step (below_w HB.out) hb); clear HO338; clear HO342; clear HO346; clear HB; have HO338 := n0_; have HO342 := n1_; have HO346 := n2_; have HO350 := n3_; have HB := n4_; clear n0_ n1_ n2_ n3_ n4_; (try clear hb); (try clear hb2); (try clear hk); (try clear hi); (try clear ho0); have hcv38 := own_string (P := Try.prog) Try.underlying42 Try.underlying5 Try.underlying9 (Kd.own_of_R HO338.out); have hcv39 := own_string (P := Try.prog) Try.underlying42 Try.underlying5 Try.underlying9 (Kd.own_of_R HO342.out)) | (go_at_call 30; (with_reducible refine (plan_Right.calls kj4 _ _ l0 t351 _ ?side1 ?side2 A18.out).mono ?_); (case side1 => exact Kd.C_w (Kd.C_below HR0.out HB.out)); (case side2 => exact HC0.out); rintro e w40 ⟨rfl, hb⟩; have n0_ := Aside0.mk (Kd.R_below (by exact Kd.R_w HO338.out) hb); have n1_ := Aside0.mk (Kd.R_below (by exact Kd.R_w HO342.out) hb); have n2_ := Aside0.mk (Kd.R_below (by exact Kd.R_w HO346.out) hb); have n3_ := Aside0.mk (Kd.R_below (by exact Kd.R_w HO350.out) hb); have n4_ := Aside0.mk (below_step (below_w HB.out) hb); clear HO338; clear HO342; clear HO346; clear HO350; clear HB; have HO338 := n0_; have HO342 := n1_; have HO346 := n2_; have HO350 := n3_; have HB := n4_; clear n0_ n1_ n2_ n3_ n4_; (try clear hb); (try clear hb2); (try clear hk); (try clear hi)) | (go_at_call 31; (with_reducible refine (handoffref10_Right.calls kj4 _ _ l0 t352 _ ?side1 ?side2 A19.out).mono ?_); (case side1 => exact Kd.C_w (Kd.C_below HR0.out HB.out)); (case side2 => exact HC0.out); rintro e w41 ⟨rfl, hb⟩; have n0_ := Aside0.mk (Kd.R_below (by exact Kd.R_w HO338.out) hb); have n1_ := Aside0.mk (Kd.R_below (by exact Kd.R_w HO342.out) hb); have n2_ := Aside0.mk (Kd.R_below (by exact Kd.R_w HO346.out) hb); have n3_ := Aside0.mk (Kd.R_below (by exact Kd.R_w HO350.out) hb); have n4_ := Aside0.mk (below_step (below_w HB.out) hb); clear HO338; clear HO342; clear HO346; clear HO350; clear HB; have HO338 := n0_; have HO342 := n1_; have HO346 := n2_; have HO350 := n3_; have HB := n4_; clear n0_ n1_ n2_ n3_ n4_; (try clear hb); (try clear hb2); (try clear hk); (try clear hi); obtain ⟨Ao42, co42, eo42⟩ := Kd.R_slice HO346.out; subst eo42; obtain ⟨Ao43, co43, eo43⟩ := Kd.R_slice HO350.out; subst eo43) | (go_at_call 32; (with_reducible refine (handoffref10_Same.calls kj4 _ _ t343 _ _ t347 false _ ?side1 ?side2 ?side3 ?side4 A21.out).mono ?_); (case side1 => exact Kd.C_w (Kd.R_reads' HO346.out).2.2); (case side2 => exact (Kd.R_reads' HO346.out).2.1); (case side3 => exact Kd.C_w (Kd.R_reads' HO350.out).2.2); (case side4 => exact (Kd.R_reads' HO350.out).2.1); rintro e w44 ⟨rfl, hb⟩; have n0_ := Aside0.mk (Kd.R_below (by exact Kd.R_w HO338.out) hb); have n1_ := Aside0.mk (Kd.R_below (by exact Kd.R_w HO342.out) hb); have n2_ := Aside0.mk (Kd.R_below (by exact Kd.R_w HO346.out) hb); have n3_ := Aside0.mk (Kd.R_below (by exact Kd.R_w HO350.out) hb); have n4_ := Aside0.mk (below_step (below_w HB.out) hb); clear HO338; clear HO342; clear HO346; clear HO350; clear HB; have HO338 := n0_; have HO342 := n1_; have HO346 := n2_; have HO350 := n3_; have HB := n4_; clear n0_ n1_ n2_ n3_ n4_; (try clear hb); (try clear hb2); (try clear hk); (try clear hi)))
         go_ret
         exact ⟨by first | rfl | (simp [errW_none, errW_some] <;> rfl) | (simp [*, errW_none, errW_some] <;> rfl), by exact below_w HB.out⟩
       ·rw [if_neg c20] at H
        have c20b0 : (t351 == t352) = false := by simpa using c20
        (try (have c20b1 : decide (t351 = t352) = false := by simpa using c20))
        (try (have c20b2 : (t351 == t352) = false := by simpa using c20))
        (try (have c20b3 : ¬ (t351 = t352) := by simpa using c20))
        clear c20
        obtain rfl := Option.some.inj H
        go_wp2_with (first | ((with_reducible refine gate_callee (f := 25) rfl ?_); refine goesL_ (some 24) rfl rfl Try.func25 (by kernel_rfl) rfl #[.slice A0 l0.length c0] rfl (by (try simp only [List.map_toArray, List.map_cons, List.map_nil]); first | done | rfl | simp) ?_; (with_reducible refine (plan_Encode.calls kj4 _ _ l0 t335 t336 _ ?side1 ?side2 A12.out).mono ?_); (case side1 => exact Kd.C_w (Kd.C_below HR0.out HB.out)); (case side2 => exact HC0.out); rintro e w45 ⟨v337, rfl, ho0, hb⟩; refine ⟨_, rfl, ?_⟩; have n0_ := Aside0.mk (Kd.R_lower ho0 (below_size (below_w HB.out))); have n1_ := Aside0.mk (below_step (below_w HB.out) hb); clear HB; have HO338 := n0_; have HB := n1_; clear n0_ n1_; (try clear hb); (try clear hb2); (try clear hk); (try clear hi); (try clear ho0)) | ((with_reducible refine gate_callee (f := 27) rfl ?_); refine goesL_ (some 29) rfl rfl Try.func27 (by kernel_rfl) rfl #[.slice A0 l0.length c0] rfl (by (try simp only [List.map_toArray, List.map_cons, List.map_nil]); first | done | rfl | simp) ?_; (with_reducible refine (handoffref10_Encode.calls kj4 _ _ l0 t339 t340 _ ?side1 ?side2 A13.out).mono ?_); (case side1 => exact Kd.C_w (Kd.C_below HR0.out HB.out)); (case side2 => exact HC0.out); rintro e w46 ⟨v341, rfl, ho0, hb⟩; refine ⟨_, rfl, ?_⟩; have n0_ := Aside0.mk (Kd.R_elder' (by exact Kd.R_w HO338.out) (Kd.R_base ho0) hb); have n1_ := Aside0.mk (Kd.R_lower (Kd.R_new' ho0 (Kd.R_lt (by exact Kd.R_w HO338.out))) (below_size (below_w HB.out))); have n2_ := Aside0.mk (below_step (below_w HB.out) hb); clear HO338; clear HB; have HO338 := n0_; have HO342 := n1_; have HB := n2_; clear n0_ n1_ n2_; (try clear hb); (try clear hb2); (try clear hk); (try clear hi); (try clear ho0)) | ((with_reducible refine gate_callee (f := 28) rfl ?_); refine goesL_ (some 34) rfl rfl Try.func28 (by kernel_rfl) rfl #[.slice A1 l1.length c1] rfl (by (try simp only [List.map_toArray, List.map_cons, List.map_nil]); first | done | rfl | simp) ?_; (with_reducible refine (plan_Decode.calls kj4 _ _ l1 t343 t344 _ ?side1 ?side2 A14.out).mono ?_); (case side1 => exact Kd.C_w (Kd.C_below HR1.out HB.out)); (case side2 => exact HC1.out); rintro e w47 ⟨v345, rfl, ho0, hb⟩; refine ⟨_, rfl, ?_⟩; have n0_ := Aside0.mk (Kd.R_below (by exact Kd.R_w HO338.out) hb); have n1_ := Aside0.mk (Kd.R_below (by exact Kd.R_w HO342.out) hb); have n2_ := Aside0.mk (Kd.R_lower ho0 (below_size (below_w HB.out))); have n3_ := Aside0.mk (below_step (below_w HB.out) hb); clear HO338; clear HO342; clear HB; have HO338 := n0_; have HO342 := n1_; have HO346 := n2_; have HB := n3_; clear n0_ n1_ n2_ n3_; (try clear hb); (try clear hb2); (try clear hk); (try clear hi); (try clear ho0)) | ((with_reducible refine gate_callee (f := 29) rfl ?_); refine goesL_ (some 39) rfl rfl Try.func29 (by kernel_rfl) rfl #[.slice A1 l1.length c1] rfl (by (try simp only [List.map_toArray, List.map_cons, List.map_nil]); first | done | rfl | simp) ?_; (with_reducible refine (handoffref10_Decode.calls kj4 _ _ l1 t347 t348 _ ?side1 ?side2 A15.out).mono ?_); (case side1 => exact Kd.C_w (Kd.C_below HR1.out HB.out)); (case side2 => exact HC1.out); rintro e w48 ⟨v349, rfl, ho0, hb⟩; refine ⟨_, rfl, ?_⟩; have n0_ := Aside0.mk (Kd.R_below (by exact Kd.R_w HO338.out) hb); have n1_ := Aside0.mk (Kd.R_below (by exact Kd.R_w HO342.out) hb); have n2_ := Aside0.mk (Kd.R_elder' (by exact Kd.R_w HO346.out) (Kd.R_base ho0) hb); have n3_ := Aside0.mk (Kd.R_lower (Kd.R_new' ho0 (Kd.R_lt (by exact Kd.R_w HO346.out))) (below_size (below_w HB.out))); have n4_ := Aside0.mk (below_step (below_w HB.out) hb); clear HO338; clear HO342; clear HO346; clear HB; have HO338 := n0_; have HO342 := n1_; have HO346 := n2_; have HO350 := n3_; have HB := n4_; clear n0_ n1_ n2_ n3_ n4_; (try clear hb); (try clear hb2); (try clear hk); (try clear hi); (try clear ho0); have hcv49 := own_string (P := Try.prog) Try.underlying42 Try.underlying5 Try.underlying9 (Kd.own_of_R HO338.out); have hcv50 := own_string (P := Try.prog) Try.underlying42 Try.underlying5 Try.underlying9 (Kd.own_of_R HO342.out)) | (go_at_call 30; (with_reducible refine (plan_Right.calls kj4 _ _ l0 t351 _ ?side1 ?side2 A18.out).mono ?_); (case side1 => exact Kd.C_w (Kd.C_below HR0.out HB.out)); (case side2 => exact HC0.out); rintro e w51 ⟨rfl, hb⟩; have n0_ := Aside0.mk (Kd.R_below (by exact Kd.R_w HO338.out) hb); have n1_ := Aside0.mk (Kd.R_below (by exact Kd.R_w HO342.out) hb); have n2_ := Aside0.mk (Kd.R_below (by exact Kd.R_w HO346.out) hb); have n3_ := Aside0.mk (Kd.R_below (by exact Kd.R_w HO350.out) hb); have n4_ := Aside0.mk (below_step (below_w HB.out) hb); clear HO338; clear HO342; clear HO346; clear HO350; clear HB; have HO338 := n0_; have HO342 := n1_; have HO346 := n2_; have HO350 := n3_; have HB := n4_; clear n0_ n1_ n2_ n3_ n4_; (try clear hb); (try clear hb2); (try clear hk); (try clear hi)) | (go_at_call 31; (with_reducible refine (handoffref10_Right.calls kj4 _ _ l0 t352 _ ?side1 ?side2 A19.out).mono ?_); (case side1 => exact Kd.C_w (Kd.C_below HR0.out HB.out)); (case side2 => exact HC0.out); rintro e w52 ⟨rfl, hb⟩; have n0_ := Aside0.mk (Kd.R_below (by exact Kd.R_w HO338.out) hb); have n1_ := Aside0.mk (Kd.R_below (by exact Kd.R_w HO342.out) hb); have n2_ := Aside0.mk (Kd.R_below (by exact Kd.R_w HO346.out) hb); have n3_ := Aside0.mk (Kd.R_below (by exact Kd.R_w HO350.out) hb); have n4_ := Aside0.mk (below_step (below_w HB.out) hb); clear HO338; clear HO342; clear HO346; clear HO350; clear HB; have HO338 := n0_; have HO342 := n1_; have HO346 := n2_; have HO350 := n3_; have HB := n4_; clear n0_ n1_ n2_ n3_ n4_; (try clear hb); (try clear hb2); (try clear hk); (try clear hi)))
        go_ret
        exact ⟨by first | rfl | (simp [errW_none, errW_some] <;> rfl) | (simp [*, errW_none, errW_some] <;> rfl), by exact below_w HB.out⟩
      ·rw [if_neg c17] at H
       have c17b0 : (t336 == t340) = false := beq_eq_false_iff_ne.mpr c17
       have c17b1 : (t336 != t340) = true := bne_iff_ne.mpr c17
       obtain rfl := Option.some.inj H
       go_wp2_with (first | ((with_reducible refine gate_callee (f := 25) rfl ?_); refine goesL_ (some 24) rfl rfl Try.func25 (by kernel_rfl) rfl #[.slice A0 l0.length c0] rfl (by (try simp only [List.map_toArray, List.map_cons, List.map_nil]); first | done | rfl | simp) ?_; (with_reducible refine (plan_Encode.calls kj4 _ _ l0 t335 t336 _ ?side1 ?side2 A12.out).mono ?_); (case side1 => exact Kd.C_w (Kd.C_below HR0.out HB.out)); (case side2 => exact HC0.out); rintro e w53 ⟨v337, rfl, ho0, hb⟩; refine ⟨_, rfl, ?_⟩; have n0_ := Aside0.mk (Kd.R_lower ho0 (below_size (below_w HB.out))); have n1_ := Aside0.mk (below_step (below_w HB.out) hb); clear HB; have HO338 := n0_; have HB := n1_; clear n0_ n1_; (try clear hb); (try clear hb2); (try clear hk); (try clear hi); (try clear ho0)) | ((with_reducible refine gate_callee (f := 27) rfl ?_); refine goesL_ (some 29) rfl rfl Try.func27 (by kernel_rfl) rfl #[.slice A0 l0.length c0] rfl (by (try simp only [List.map_toArray, List.map_cons, List.map_nil]); first | done | rfl | simp) ?_; (with_reducible refine (handoffref10_Encode.calls kj4 _ _ l0 t339 t340 _ ?side1 ?side2 A13.out).mono ?_); (case side1 => exact Kd.C_w (Kd.C_below HR0.out HB.out)); (case side2 => exact HC0.out); rintro e w54 ⟨v341, rfl, ho0, hb⟩; refine ⟨_, rfl, ?_⟩; have n0_ := Aside0.mk (Kd.R_elder' (by exact Kd.R_w HO338.out) (Kd.R_base ho0) hb); have n1_ := Aside0.mk (Kd.R_lower (Kd.R_new' ho0 (Kd.R_lt (by exact Kd.R_w HO338.out))) (below_size (below_w HB.out))); have n2_ := Aside0.mk (below_step (below_w HB.out) hb); clear HO338; clear HB; have HO338 := n0_; have HO342 := n1_; have HB := n2_; clear n0_ n1_ n2_; (try clear hb); (try clear hb2); (try clear hk); (try clear hi); (try clear ho0)) | ((with_reducible refine gate_callee (f := 28) rfl ?_); refine goesL_ (some 34) rfl rfl Try.func28 (by kernel_rfl) rfl #[.slice A1 l1.length c1] rfl (by (try simp only [List.map_toArray, List.map_cons, List.map_nil]); first | done | rfl | simp) ?_; (with_reducible refine (plan_Decode.calls kj4 _ _ l1 t343 t344 _ ?side1 ?side2 A14.out).mono ?_); (case side1 => exact Kd.C_w (Kd.C_below HR1.out HB.out)); (case side2 => exact HC1.out); rintro e w55 ⟨v345, rfl, ho0, hb⟩; refine ⟨_, rfl, ?_⟩; have n0_ := Aside0.mk (Kd.R_below (by exact Kd.R_w HO338.out) hb); have n1_ := Aside0.mk (Kd.R_below (by exact Kd.R_w HO342.out) hb); have n2_ := Aside0.mk (Kd.R_lower ho0 (below_size (below_w HB.out))); have n3_ := Aside0.mk (below_step (below_w HB.out) hb); clear HO338; clear HO342; clear HB; have HO338 := n0_; have HO342 := n1_; have HO346 := n2_; have HB := n3_; clear n0_ n1_ n2_ n3_; (try clear hb); (try clear hb2); (try clear hk); (try clear hi); (try clear ho0)) | ((with_reducible refine gate_callee (f := 29) rfl ?_); refine goesL_ (some 39) rfl rfl Try.func29 (by kernel_rfl) rfl #[.slice A1 l1.length c1] rfl (by (try simp only [List.map_toArray, List.map_cons, List.map_nil]); first | done | rfl | simp) ?_; (with_reducible refine (handoffref10_Decode.calls kj4 _ _ l1 t347 t348 _ ?side1 ?side2 A15.out).mono ?_); (case side1 => exact Kd.C_w (Kd.C_below HR1.out HB.out)); (case side2 => exact HC1.out); rintro e w56 ⟨v349, rfl, ho0, hb⟩; refine ⟨_, rfl, ?_⟩; have n0_ := Aside0.mk (Kd.R_below (by exact Kd.R_w HO338.out) hb); have n1_ := Aside0.mk (Kd.R_below (by exact Kd.R_w HO342.out) hb); have n2_ := Aside0.mk (Kd.R_elder' (by exact Kd.R_w HO346.out) (Kd.R_base ho0) hb); have n3_ := Aside0.mk (Kd.R_lower (Kd.R_new' ho0 (Kd.R_lt (by exact Kd.R_w HO346.out))) (below_size (below_w HB.out))); have n4_ := Aside0.mk (below_step (below_w HB.out) hb); clear HO338; clear HO342; clear HO346; clear HB; have HO338 := n0_; have HO342 := n1_; have HO346 := n2_; have HO350 := n3_; have HB := n4_; clear n0_ n1_ n2_ n3_ n4_; (try clear hb); (try clear hb2); (try clear hk); (try clear hi); (try clear ho0); have hcv57 := own_string (P := Try.prog) Try.underlying42 Try.underlying5 Try.underlying9 (Kd.own_of_R HO338.out); have hcv58 := own_string (P := Try.prog) Try.underlying42 Try.underlying5 Try.underlying9 (Kd.own_of_R HO342.out)))
       go_ret
       exact ⟨by first | rfl | (simp [errW_none, errW_some] <;> rfl) | (simp [*, errW_none, errW_some] <;> rfl), by exact below_w HB.out⟩
     ·rw [if_neg c16] at H
      have c16b0 : ((strOfNums t335).toList == (strOfNums t339).toList) = false := beq_eq_false_iff_ne.mpr c16
      have c16b1 : ((strOfNums t335).toList != (strOfNums t339).toList) = true := bne_iff_ne.mpr c16
      obtain rfl := Option.some.inj H
      go_wp2_with (first | ((with_reducible refine gate_callee (f := 25) rfl ?_); refine goesL_ (some 24) rfl rfl Try.func25 (by kernel_rfl) rfl #[.slice A0 l0.length c0] rfl (by (try simp only [List.map_toArray, List.map_cons, List.map_nil]); first | done | rfl | simp) ?_; (with_reducible refine (plan_Encode.calls kj4 _ _ l0 t335 t336 _ ?side1 ?side2 A12.out).mono ?_); (case side1 => exact Kd.C_w (Kd.C_below HR0.out HB.out)); (case side2 => exact HC0.out); rintro e w59 ⟨v337, rfl, ho0, hb⟩; refine ⟨_, rfl, ?_⟩; have n0_ := Aside0.mk (Kd.R_lower ho0 (below_size (below_w HB.out))); have n1_ := Aside0.mk (below_step (below_w HB.out) hb); clear HB; have HO338 := n0_; have HB := n1_; clear n0_ n1_; (try clear hb); (try clear hb2); (try clear hk); (try clear hi); (try clear ho0)) | ((with_reducible refine gate_callee (f := 27) rfl ?_); refine goesL_ (some 29) rfl rfl Try.func27 (by kernel_rfl) rfl #[.slice A0 l0.length c0] rfl (by (try simp only [List.map_toArray, List.map_cons, List.map_nil]); first | done | rfl | simp) ?_; (with_reducible refine (handoffref10_Encode.calls kj4 _ _ l0 t339 t340 _ ?side1 ?side2 A13.out).mono ?_); (case side1 => exact Kd.C_w (Kd.C_below HR0.out HB.out)); (case side2 => exact HC0.out); rintro e w60 ⟨v341, rfl, ho0, hb⟩; refine ⟨_, rfl, ?_⟩; have n0_ := Aside0.mk (Kd.R_elder' (by exact Kd.R_w HO338.out) (Kd.R_base ho0) hb); have n1_ := Aside0.mk (Kd.R_lower (Kd.R_new' ho0 (Kd.R_lt (by exact Kd.R_w HO338.out))) (below_size (below_w HB.out))); have n2_ := Aside0.mk (below_step (below_w HB.out) hb); clear HO338; clear HB; have HO338 := n0_; have HO342 := n1_; have HB := n2_; clear n0_ n1_ n2_; (try clear hb); (try clear hb2); (try clear hk); (try clear hi); (try clear ho0)) | ((with_reducible refine gate_callee (f := 28) rfl ?_); refine goesL_ (some 34) rfl rfl Try.func28 (by kernel_rfl) rfl #[.slice A1 l1.length c1] rfl (by (try simp only [List.map_toArray, List.map_cons, List.map_nil]); first | done | rfl | simp) ?_; (with_reducible refine (plan_Decode.calls kj4 _ _ l1 t343 t344 _ ?side1 ?side2 A14.out).mono ?_); (case side1 => exact Kd.C_w (Kd.C_below HR1.out HB.out)); (case side2 => exact HC1.out); rintro e w61 ⟨v345, rfl, ho0, hb⟩; refine ⟨_, rfl, ?_⟩; have n0_ := Aside0.mk (Kd.R_below (by exact Kd.R_w HO338.out) hb); have n1_ := Aside0.mk (Kd.R_below (by exact Kd.R_w HO342.out) hb); have n2_ := Aside0.mk (Kd.R_lower ho0 (below_size (below_w HB.out))); have n3_ := Aside0.mk (below_step (below_w HB.out) hb); clear HO338; clear HO342; clear HB; have HO338 := n0_; have HO342 := n1_; have HO346 := n2_; have HB := n3_; clear n0_ n1_ n2_ n3_; (try clear hb); (try clear hb2); (try clear hk); (try clear hi); (try clear ho0)) | ((with_reducible refine gate_callee (f := 29) rfl ?_); refine goesL_ (some 39) rfl rfl Try.func29 (by kernel_rfl) rfl #[.slice A1 l1.length c1] rfl (by (try simp only [List.map_toArray, List.map_cons, List.map_nil]); first | done | rfl | simp) ?_; (with_reducible refine (handoffref10_Decode.calls kj4 _ _ l1 t347 t348 _ ?side1 ?side2 A15.out).mono ?_); (case side1 => exact Kd.C_w (Kd.C_below HR1.out HB.out)); (case side2 => exact HC1.out); rintro e w62 ⟨v349, rfl, ho0, hb⟩; refine ⟨_, rfl, ?_⟩; have n0_ := Aside0.mk (Kd.R_below (by exact Kd.R_w HO338.out) hb); have n1_ := Aside0.mk (Kd.R_below (by exact Kd.R_w HO342.out) hb); have n2_ := Aside0.mk (Kd.R_elder' (by exact Kd.R_w HO346.out) (Kd.R_base ho0) hb); have n3_ := Aside0.mk (Kd.R_lower (Kd.R_new' ho0 (Kd.R_lt (by exact Kd.R_w HO346.out))) (below_size (below_w HB.out))); have n4_ := Aside0.mk (below_step (below_w HB.out) hb); clear HO338; clear HO342; clear HO346; clear HB; have HO338 := n0_; have HO342 := n1_; have HO346 := n2_; have HO350 := n3_; have HB := n4_; clear n0_ n1_ n2_ n3_ n4_; (try clear hb); (try clear hb2); (try clear hk); (try clear hi); (try clear ho0); have hcv63 := own_string (P := Try.prog) Try.underlying42 Try.underlying5 Try.underlying9 (Kd.own_of_R HO338.out); have hcv64 := own_string (P := Try.prog) Try.underlying42 Try.underlying5 Try.underlying9 (Kd.own_of_R HO342.out)))
      go_ret
      exact ⟨by first | rfl | (simp [errW_none, errW_some] <;> rfl) | (simp [*, errW_none, errW_some] <;> rfl), by exact below_w HB.out⟩
 ·replace c4 := Bool.eq_false_iff.mpr c4
  subst c4
  have H1 : (some false) = some r := by rw [if_neg (show ¬ (false = true) by decide)] at H; exact H
  clear H
  have H := H1
  clear H1
  obtain rfl := Option.some.inj H
  go_enter Try.func6, Try.ntmps6
  go_wp2_with (first | ((with_reducible refine gate_callee (f := 20) rfl ?_); refine goesL_ (some 13) rfl rfl Try.func20 (by kernel_rfl) rfl #[] rfl (by (try simp only [List.map_toArray, List.map_cons, List.map_nil]); first | done | rfl | simp) ?_; (with_reducible refine (handofflaw10_planAlive.calls k  false _ A3.out).mono ?_); rintro e w65 ⟨rfl, hb⟩; refine ⟨_, rfl, ?_⟩; have n0_ := Aside0.mk (below_step (below_w HB.out) hb); clear HB; have HB := n0_; clear n0_; (try clear hb); (try clear hb2); (try clear hk); (try clear hi)))
  go_ret
  exact ⟨by first | rfl | (simp [errW_none, errW_some] <;> rfl) | (simp [*, errW_none, errW_some] <;> rfl), by exact below_w HB.out⟩

-- NOT PRINTED: function 77 (api_Op_77)

-- NOT PRINTED: function 78 (api_Case_78)

end Go.Proofs.Ytjmpaeckpbpclaa.PPlK
