-- Out of the translation, by a program of this session.
import Derived.Test.YtifajoehlgdgaaaPShAx0
import Derived.Test.YtifajoehlgdgaaaPShAx1
import Derived.Test.YtifajoehlgdgaaaPShAx2
namespace Go.Proofs.Ytifajoehlgdgaaa.PShA
open Go.RowKit Go.Proofs.YtifajoehlgdgaaaW.PrintWords Go.Proofs.YtifajoehlgdgaaaW.PrintLast Go.Proofs.YtifajoehlgdgaaaW.PrintMore
attribute [local go_sem] max2_int min2_int max_two min_two max_three min_three max_four min_four   -- for this text's walks alone
set_option linter.unusedVariables false
set_option linter.unusedSimpArgs false

/-! ### handofflaw02_ShuffleFair: function 5 -/
mutual
def handofflaw02_ShuffleFair.l0 : Nat → List Bool → Int → List Bool → Int → Int → Option (Bool)
  | 0, _, _, _, _, _ => none
  | k + 1, x0, x3, x19, x20, x21 => if x21 < x20 then (if 0 ≤ x21 then (if x21 < (x19.length : Int) then (if rdOf false x19 x21 = true then (handofflaw02_ShuffleFair.l0 k x0 (wrap64 (x3 + 1)) x19 x20 (wrap64 (x21 + 1))) else (handofflaw02_ShuffleFair.l0 k x0 x3 x19 x20 (wrap64 (x21 + 1)))) else (none)) else (none)) else (if 0 ≤ (x0.length : Int) then (if ((x0.length : Int) : Int).toNat ≤ 35184372088832 then ((handoffref02_All.f k (x0.length : Int)).bind fun t172 => (handofflaw02_ShuffleFair.l1 k x0 x3 (List.replicate ((x0.length : Int) : Int).toNat 0) t172 (t172.length : Int) 0)) else (none)) else (none))
def handofflaw02_ShuffleFair.l1 : Nat → List Bool → Int → List Int → List (List Int) → Int → Int → Option (Bool)
  | 0, _, _, _, _, _, _ => none
  | k + 1, x0, x3, x6, x34, x35, x36 => if x36 < x35 then (if 0 ≤ x36 then (if x36 < (x34.length : Int) then ((shuffle_Order.f k (rd_L1 x34 x36)).bind fun t176 => ((shuffle_First.f k t176 x0).bind fun bt179 => (if (bt179.2 != (decide (x3 > 0))) = true then (handofflaw02_ShuffleFair.j2 k x0 x3 x6 bt179.1 bt179.2 x34 x35 x36 true) else (if bt179.2 = true then (if bt179.1 < 0 then (handofflaw02_ShuffleFair.j2 k x0 x3 x6 bt179.1 bt179.2 x34 x35 x36 true) else (handofflaw02_ShuffleFair.j2 k x0 x3 x6 bt179.1 bt179.2 x34 x35 x36 (decide (bt179.1 ≥ (x0.length : Int))))) else (handofflaw02_ShuffleFair.j2 k x0 x3 x6 bt179.1 bt179.2 x34 x35 x36 false))))) else (none)) else (none)) else (handofflaw02_ShuffleFair.l2 k x0 x3 x6 x0 (x0.length : Int) 0)
def handofflaw02_ShuffleFair.j2 : Nat → List Bool → Int → List Int → Int → Bool → List (List Int) → Int → Int → Bool → Option (Bool)
  | 0, _, _, _, _, _, _, _, _, _ => none
  | k + 1, x0, x3, x6, x9, x10, x34, x35, x36, x63 => if x63 = true then (some false) else (if x10 = true then (if 0 ≤ x9 then (if x9 < (x6.length : Int) then (handofflaw02_ShuffleFair.l1 k x0 x3 (x6.set (x9 : Int).toNat (wrap64 ((rd x6 x9) + 1))) x34 x35 (wrap64 (x36 + 1))) else (none)) else (none)) else (handofflaw02_ShuffleFair.l1 k x0 x3 x6 x34 x35 (wrap64 (x36 + 1))))
def handofflaw02_ShuffleFair.l2 : Nat → List Bool → Int → List Int → List Bool → Int → Int → Option (Bool)
  | 0, _, _, _, _, _, _ => none
  | k + 1, x0, x3, x6, x72, x73, x74 => if x74 < x73 then (if 0 ≤ x74 then (if x74 < (x72.length : Int) then (if rdOf false x72 x74 = true then ((shuffle_Count.f k (x0.length : Int)).bind fun t184 => (if x3 = 0 then (none) else (if x74 < (x6.length : Int) then (if (rd x6 x74) = (wrap64 (Int.tdiv t184 x3)) then (handofflaw02_ShuffleFair.l2 k x0 x3 x6 x72 x73 (wrap64 (x74 + 1))) else (some false)) else (none)))) else (if x74 < (x6.length : Int) then (if (rd x6 x74) = 0 then (handofflaw02_ShuffleFair.l2 k x0 x3 x6 x72 x73 (wrap64 (x74 + 1))) else (some false)) else (none))) else (none)) else (none)) else (some true)
end
def handofflaw02_ShuffleFair.f (k : Nat) (l0 : List Bool) : Option (Bool) := (handofflaw02_shuffleAlive.f k).bind fun t167 => (if t167 = true then (if (l0.length : Int) > 6 then (some true) else (handofflaw02_ShuffleFair.l0 k l0 0 l0 (l0.length : Int) 0)) else (some false))
theorem handofflaw02_ShuffleFair.mono_l : ∀ k, (∀ y0 y1 y2 y3 y4, LeO (handofflaw02_ShuffleFair.l0 k y0 y1 y2 y3 y4) (handofflaw02_ShuffleFair.l0 (k + 1) y0 y1 y2 y3 y4)) ∧ (∀ y0 y1 y2 y3 y4 y5, LeO (handofflaw02_ShuffleFair.l1 k y0 y1 y2 y3 y4 y5) (handofflaw02_ShuffleFair.l1 (k + 1) y0 y1 y2 y3 y4 y5)) ∧ (∀ y0 y1 y2 y3 y4 y5 y6 y7 y8, LeO (handofflaw02_ShuffleFair.j2 k y0 y1 y2 y3 y4 y5 y6 y7 y8) (handofflaw02_ShuffleFair.j2 (k + 1) y0 y1 y2 y3 y4 y5 y6 y7 y8)) ∧ (∀ y0 y1 y2 y3 y4 y5, LeO (handofflaw02_ShuffleFair.l2 k y0 y1 y2 y3 y4 y5) (handofflaw02_ShuffleFair.l2 (k + 1) y0 y1 y2 y3 y4 y5))
  | 0 => ⟨fun _ _ _ _ _ r h => by simp [handofflaw02_ShuffleFair.l0] at h, fun _ _ _ _ _ _ r h => by simp [handofflaw02_ShuffleFair.l1] at h, fun _ _ _ _ _ _ _ _ _ r h => by simp [handofflaw02_ShuffleFair.j2] at h, fun _ _ _ _ _ _ r h => by simp [handofflaw02_ShuffleFair.l2] at h⟩
  | k + 1 => by
    obtain ⟨ih0, ih1, ih2, ih3⟩ := handofflaw02_ShuffleFair.mono_l k
    refine ⟨?_, ?_, ?_, ?_⟩
    · intro y0 y1 y2 y3 y4
      unfold handofflaw02_ShuffleFair.l0
      repeat' first
      | (with_reducible exact ih0 _ _ _ _ _)
      | (with_reducible exact ih1 _ _ _ _ _ _)
      | (with_reducible exact ih2 _ _ _ _ _ _ _ _ _)
      | (with_reducible exact ih3 _ _ _ _ _ _)
      | (with_reducible exact handofflaw02_shuffleAlive.mono _)
      | (with_reducible exact handoffref02_All.mono _ _)
      | (with_reducible exact shuffle_Count.mono _ _)
      | (with_reducible exact shuffle_First.mono _ _ _)
      | (with_reducible exact shuffle_Order.mono _ _)
      | (with_reducible exact LeO.refl _)
      | (with_reducible exact LeO.none _)
      | (with_reducible refine LeO.ite ?_ ?_)
      | (with_reducible refine LeO.bind ?_ (fun _ => ?_))
      | exact ih0 _ _ _ _ _
      | exact ih1 _ _ _ _ _ _
      | exact ih2 _ _ _ _ _ _ _ _ _
      | exact ih3 _ _ _ _ _ _
      | exact handofflaw02_shuffleAlive.mono _
      | exact handoffref02_All.mono _ _
      | exact shuffle_Count.mono _ _
      | exact shuffle_First.mono _ _ _
      | exact shuffle_Order.mono _ _
      | exact LeO.none _
      | refine LeO.ite ?_ ?_
      | refine LeO.bind ?_ (fun _ => ?_)
    · intro y0 y1 y2 y3 y4 y5
      unfold handofflaw02_ShuffleFair.l1
      repeat' first
      | (with_reducible exact ih0 _ _ _ _ _)
      | (with_reducible exact ih1 _ _ _ _ _ _)
      | (with_reducible exact ih2 _ _ _ _ _ _ _ _ _)
      | (with_reducible exact ih3 _ _ _ _ _ _)
      | (with_reducible exact handofflaw02_shuffleAlive.mono _)
      | (with_reducible exact handoffref02_All.mono _ _)
      | (with_reducible exact shuffle_Count.mono _ _)
      | (with_reducible exact shuffle_First.mono _ _ _)
      | (with_reducible exact shuffle_Order.mono _ _)
      | (with_reducible exact LeO.refl _)
      | (with_reducible exact LeO.none _)
      | (with_reducible refine LeO.ite ?_ ?_)
      | (with_reducible refine LeO.bind ?_ (fun _ => ?_))
      | exact ih0 _ _ _ _ _
      | exact ih1 _ _ _ _ _ _
      | exact ih2 _ _ _ _ _ _ _ _ _
      | exact ih3 _ _ _ _ _ _
      | exact handofflaw02_shuffleAlive.mono _
      | exact handoffref02_All.mono _ _
      | exact shuffle_Count.mono _ _
      | exact shuffle_First.mono _ _ _
      | exact shuffle_Order.mono _ _
      | exact LeO.none _
      | refine LeO.ite ?_ ?_
      | refine LeO.bind ?_ (fun _ => ?_)
    · intro y0 y1 y2 y3 y4 y5 y6 y7 y8
      unfold handofflaw02_ShuffleFair.j2
      repeat' first
      | (with_reducible exact ih0 _ _ _ _ _)
      | (with_reducible exact ih1 _ _ _ _ _ _)
      | (with_reducible exact ih2 _ _ _ _ _ _ _ _ _)
      | (with_reducible exact ih3 _ _ _ _ _ _)
      | (with_reducible exact handofflaw02_shuffleAlive.mono _)
      | (with_reducible exact handoffref02_All.mono _ _)
      | (with_reducible exact shuffle_Count.mono _ _)
      | (with_reducible exact shuffle_First.mono _ _ _)
      | (with_reducible exact shuffle_Order.mono _ _)
      | (with_reducible exact LeO.refl _)
      | (with_reducible exact LeO.none _)
      | (with_reducible refine LeO.ite ?_ ?_)
      | (with_reducible refine LeO.bind ?_ (fun _ => ?_))
      | exact ih0 _ _ _ _ _
      | exact ih1 _ _ _ _ _ _
      | exact ih2 _ _ _ _ _ _ _ _ _
      | exact ih3 _ _ _ _ _ _
      | exact handofflaw02_shuffleAlive.mono _
      | exact handoffref02_All.mono _ _
      | exact shuffle_Count.mono _ _
      | exact shuffle_First.mono _ _ _
      | exact shuffle_Order.mono _ _
      | exact LeO.none _
      | refine LeO.ite ?_ ?_
      | refine LeO.bind ?_ (fun _ => ?_)
    · intro y0 y1 y2 y3 y4 y5
      unfold handofflaw02_ShuffleFair.l2
      repeat' first
      | (with_reducible exact ih0 _ _ _ _ _)
      | (with_reducible exact ih1 _ _ _ _ _ _)
      | (with_reducible exact ih2 _ _ _ _ _ _ _ _ _)
      | (with_reducible exact ih3 _ _ _ _ _ _)
      | (with_reducible exact handofflaw02_shuffleAlive.mono _)
      | (with_reducible exact handoffref02_All.mono _ _)
      | (with_reducible exact shuffle_Count.mono _ _)
      | (with_reducible exact shuffle_First.mono _ _ _)
      | (with_reducible exact shuffle_Order.mono _ _)
      | (with_reducible exact LeO.refl _)
      | (with_reducible exact LeO.none _)
      | (with_reducible refine LeO.ite ?_ ?_)
      | (with_reducible refine LeO.bind ?_ (fun _ => ?_))
      | exact ih0 _ _ _ _ _
      | exact ih1 _ _ _ _ _ _
      | exact ih2 _ _ _ _ _ _ _ _ _
      | exact ih3 _ _ _ _ _ _
      | exact handofflaw02_shuffleAlive.mono _
      | exact handoffref02_All.mono _ _
      | exact shuffle_Count.mono _ _
      | exact shuffle_First.mono _ _ _
      | exact shuffle_Order.mono _ _
      | exact LeO.none _
      | refine LeO.ite ?_ ?_
      | refine LeO.bind ?_ (fun _ => ?_)
theorem handofflaw02_ShuffleFair.mono : ∀ a0 k, LeO (handofflaw02_ShuffleFair.f k a0) (handofflaw02_ShuffleFair.f (k + 1) a0) := by
  intro a0 k
  obtain ⟨ih0, ih1, ih2, ih3⟩ := handofflaw02_ShuffleFair.mono_l k
  unfold handofflaw02_ShuffleFair.f
  repeat' first
      | (with_reducible exact ih0 _ _ _ _ _)
      | (with_reducible exact ih1 _ _ _ _ _ _)
      | (with_reducible exact ih2 _ _ _ _ _ _ _ _ _)
      | (with_reducible exact ih3 _ _ _ _ _ _)
      | (with_reducible exact handofflaw02_shuffleAlive.mono _)
      | (with_reducible exact handoffref02_All.mono _ _)
      | (with_reducible exact shuffle_Count.mono _ _)
      | (with_reducible exact shuffle_First.mono _ _ _)
      | (with_reducible exact shuffle_Order.mono _ _)
      | (with_reducible exact LeO.refl _)
      | (with_reducible exact LeO.none _)
      | (with_reducible refine LeO.ite ?_ ?_)
      | (with_reducible refine LeO.bind ?_ (fun _ => ?_))
      | exact ih0 _ _ _ _ _
      | exact ih1 _ _ _ _ _ _
      | exact ih2 _ _ _ _ _ _ _ _ _
      | exact ih3 _ _ _ _ _ _
      | exact handofflaw02_shuffleAlive.mono _
      | exact handoffref02_All.mono _ _
      | exact shuffle_Count.mono _ _
      | exact shuffle_First.mono _ _ _
      | exact shuffle_Order.mono _ _
      | exact LeO.none _
      | refine LeO.ite ?_ ?_
      | refine LeO.bind ?_ (fun _ => ?_)
set_option maxHeartbeats 8000000 in
set_option maxRecDepth 100000 in
theorem handofflaw02_ShuffleFair.calls (k : Nat) (A0 : Option Addr) (c0 : Nat) (l0 : List Bool) (r : Bool) (w : World) (hr0 : Kd.C Kd.bool w A0 l0.length l0) (hc0 : l0.length ≤ c0) (h : handofflaw02_ShuffleFair.f k l0 = some r) :
    Calls Try.prog 5 #[.slice A0 l0.length c0] w fun e w' => e = .returned (.bool r) ∧ Below w.heap.size w w' := by
  have HR0 := Aside0.mk hr0
  have HC0 := Aside0.mk hc0
  clear hr0 hc0
  have HB := Aside0.mk (Below.refl w.heap.size w)
  have H : ((handofflaw02_shuffleAlive.f k).bind fun t167 => (if t167 = true then (if (l0.length : Int) > 6 then (some true) else (handofflaw02_ShuffleFair.l0 k l0 0 l0 (l0.length : Int) 0)) else (some false))) = some r := h
  clear h
  replace H := Option.bind_eq_some_iff.mp H
  obtain ⟨t167, A20, H⟩ := H
  replace H : (if t167 = true then (if (l0.length : Int) > 6 then (some true) else (handofflaw02_ShuffleFair.l0 k l0 0 l0 (l0.length : Int) 0)) else (some false)) = some r := H
  have A2 := Aside0.mk A20
  clear A20
  by_cases c3 : t167 = true
  · subst c3
    have H1 : (if (l0.length : Int) > 6 then (some true) else (handofflaw02_ShuffleFair.l0 k l0 0 l0 (l0.length : Int) 0)) = some r := by rw [if_pos rfl] at H; exact H
    clear H
    have H := H1
    clear H1
    by_cases c4 : (l0.length : Int) > 6
    · rw [if_pos c4] at H
      have c4b0 : decide (6 < (l0.length : Int)) = true := decide_eq_true c4
      have c4b1 : decide (6 < l0.length) = true := decide_eq_true (by omega)
      clear c4
      obtain rfl := Option.some.inj H
      go_enter Try.func5, Try.ntmps5
      go_wp2_with (first | ((with_reducible refine gate_callee (f := 15) rfl ?_); refine goesL_ (some 14) rfl rfl Try.func15 (by kernel_rfl) rfl #[] rfl (by (try simp only [List.map_toArray, List.map_cons, List.map_nil]); first | done | rfl | (simp only [List.length_drop, List.length_take]; rfl)) ?_; (with_reducible refine (handofflaw02_shuffleAlive.calls k  true _ A2.out).mono ?_); rintro e w5 ⟨rfl, hb⟩; refine ⟨_, rfl, ?_⟩; have n0_ := Aside0.mk (below_step (by repeat (first | (with_reducible first | exact HB.out | apply below_alloc | apply pw_below_drewN | apply below_drew1) | exact HB.out)) hb); clear HB; have HB := n0_; clear n0_; (try clear hb); (try clear hb2); (try clear hk); (try clear hi)))
      go_ret
      exact ⟨by first | rfl | (simp [errW_none, errW_some] <;> rfl) | (simp [*, errW_none, errW_some] <;> rfl), by repeat (first | (with_reducible first | exact HB.out | apply below_alloc | apply pw_below_drewN | apply below_drew1) | exact HB.out)⟩
    · rw [if_neg c4] at H
      have c4b0 : decide (6 < (l0.length : Int)) = false := decide_eq_false c4
      have c4b1 : decide (6 < l0.length) = false := decide_eq_false (by omega)
      clear c4
      have H' := Aside0.mk H
      clear H
      go_enter Try.func5, Try.ntmps5
      go_wp2_with (first | ((with_reducible refine gate_callee (f := 15) rfl ?_); refine goesL_ (some 14) rfl rfl Try.func15 (by kernel_rfl) rfl #[] rfl (by (try simp only [List.map_toArray, List.map_cons, List.map_nil]); first | done | rfl | (simp only [List.length_drop, List.length_take]; rfl)) ?_; (with_reducible refine (handofflaw02_shuffleAlive.calls k  true _ A2.out).mono ?_); rintro e w6 ⟨rfl, hb⟩; refine ⟨_, rfl, ?_⟩; have n0_ := Aside0.mk (below_step (by repeat (first | (with_reducible first | exact HB.out | apply below_alloc | apply pw_below_drewN | apply below_drew1) | exact HB.out)) hb); clear HB; have HB := n0_; clear n0_; (try clear hb); (try clear hb2); (try clear hk); (try clear hi)))
      go_loopg [3, 21] k (fun kq v3 v21 w' => ∃ (x3_1 : Int) (x21_1 : Int), v3 = .int .i64 x3_1 ∧ v21 = .int .i64 x21_1 ∧ Aside0 (handofflaw02_ShuffleFair.l0 kq l0 x3_1 l0 (l0.length : Int) x21_1 = some r) ∧ Aside0 (kq ≤ k) ∧ Aside0 (Below w.heap.size w w'))
      case atStart => exact ⟨(0), (0), (by first | rfl | (simp; done) | (simp [*]; done)), (by first | rfl | (simp; done) | (simp [*]; done)), H', ⟨Nat.le_refl _⟩, ⟨by repeat (first | (with_reducible first | exact HB.out | apply below_alloc | apply pw_below_drewN | apply below_drew1) | exact HB.out)⟩⟩
      case round =>
        clear H'
        try clear c1
        try clear p2
        try clear c3
        try clear c4
        try clear c4b0
        try clear c4b1
        try clear c5
        obtain ⟨x3_1, x21_1, rfl, rfl, HA, HK1, HB⟩ := hrel
        cases gk with
        | zero => exact absurd HA.out (by simp [handofflaw02_ShuffleFair.l0])
        | succ k1 =>
          have H := HA.out
          clear HA
          simp only [handofflaw02_ShuffleFair.l0] at H
          by_cases c7 : x21_1 < (l0.length : Int)
          · rw [if_pos c7] at H
            have c7b0 : decide (x21_1 < (l0.length : Int)) = true := decide_eq_true c7
            clear c7
            by_cases c8 : 0 ≤ x21_1
            · rw [if_pos c8] at H
              have c8b0 : decide (0 ≤ x21_1) = true := decide_eq_true c8
              clear c8
              by_cases c9 : x21_1 < (l0.length : Int)
              · rw [if_pos c9] at H
                have c9b0 : decide (x21_1 < (l0.length : Int)) = true := decide_eq_true c9
                clear c9
                obtain ⟨bq10, hbq10⟩ : ∃ b_ : Bool, b_ = (rdOf false l0 x21_1) := ⟨_, rfl⟩
                replace H : (if bq10 = true then (handofflaw02_ShuffleFair.l0 k1 l0 (wrap64 (x3_1 + 1)) l0 (l0.length : Int) (wrap64 (x21_1 + 1))) else (handofflaw02_ShuffleFair.l0 k1 l0 x3_1 l0 (l0.length : Int) (wrap64 (x21_1 + 1)))) = some r := by rw [← hbq10] at H; exact H
                have Nbq10 := Aside0.mk hbq10
                clear hbq10
                by_cases c11 : bq10 = true
                · subst c11
                  have H1 : (handofflaw02_ShuffleFair.l0 k1 l0 (wrap64 (x3_1 + 1)) l0 (l0.length : Int) (wrap64 (x21_1 + 1))) = some r := by rw [if_pos rfl] at H; exact H
                  clear H
                  have H := H1
                  clear H1
                  have H' := Aside0.mk H
                  clear H
                  have p168 : 0 ≤ (x21_1 : Int) := of_decide_eq_true (by first | (with_reducible assumption) | assumption)
                  have q168 : x21_1 < (l0.length : Int) := of_decide_eq_true (by first | (with_reducible assumption) | assumption)
                  obtain ⟨ad168, e168, hx168_0⟩ := Kd.at_bool HR0.out x21_1 p168 q168
                  (try rw [← Nbq10.out] at hx168_0)
                  cases e168
                  replace hx168_0 := (HB.out.cell (World.block_lt_of_cell? w _ hx168_0)).trans hx168_0
                  replace p168 := eq_true p168
                  replace q168 := eq_true q168
                  go_wp2
                  go_roundg k1
                  case measure => have := HK1.out; omega
                  case rel => exact ⟨(wrap64 (x3_1 + 1)), (wrap64 (x21_1 + 1)), (by first | rfl | (simp; done) | (simp [*]; done)), (by first | rfl | (simp; done) | (simp [*]; done)), H', ⟨by have := HK1.out; omega⟩, ⟨by repeat (first | (with_reducible first | exact HB.out | apply below_alloc | apply pw_below_drewN | apply below_drew1) | exact HB.out)⟩⟩
                · replace c11 := Bool.eq_false_iff.mpr c11
                  subst c11
                  have H1 : (handofflaw02_ShuffleFair.l0 k1 l0 x3_1 l0 (l0.length : Int) (wrap64 (x21_1 + 1))) = some r := by rw [if_neg (show ¬ (false = true) by decide)] at H; exact H
                  clear H
                  have H := H1
                  clear H1
                  have H' := Aside0.mk H
                  clear H
                  have p168 : 0 ≤ (x21_1 : Int) := of_decide_eq_true (by first | (with_reducible assumption) | assumption)
                  have q168 : x21_1 < (l0.length : Int) := of_decide_eq_true (by first | (with_reducible assumption) | assumption)
                  obtain ⟨ad168, e168, hx168_0⟩ := Kd.at_bool HR0.out x21_1 p168 q168
                  (try rw [← Nbq10.out] at hx168_0)
                  cases e168
                  replace hx168_0 := (HB.out.cell (World.block_lt_of_cell? w _ hx168_0)).trans hx168_0
                  replace p168 := eq_true p168
                  replace q168 := eq_true q168
                  go_wp2
                  go_roundg k1
                  case measure => have := HK1.out; omega
                  case rel => exact ⟨(x3_1), (wrap64 (x21_1 + 1)), (by first | rfl | (simp; done) | (simp [*]; done)), (by first | rfl | (simp; done) | (simp [*]; done)), H', ⟨by have := HK1.out; omega⟩, ⟨by repeat (first | (with_reducible first | exact HB.out | apply below_alloc | apply pw_below_drewN | apply below_drew1) | exact HB.out)⟩⟩
              · rw [if_neg c9] at H
                exact absurd H (by simp)
            · rw [if_neg c8] at H
              exact absurd H (by simp)
          · rw [if_neg c7] at H
            have c7b0 : decide (x21_1 < (l0.length : Int)) = false := decide_eq_false c7
            clear c7
            by_cases c12 : 0 ≤ (l0.length : Int)
            · rw [if_pos c12] at H
              have c12b0 := eq_true c12
              have c12b1 : decide (0 ≤ (l0.length : Int)) = true := decide_eq_true c12
              clear c12
              by_cases c13 : ((l0.length : Int) : Int).toNat ≤ 35184372088832
              · rw [if_pos c13] at H
                have c13b0 := eq_true c13
                have c13b1 : decide (((l0.length : Int) : Int).toNat ≤ 35184372088832) = true := decide_eq_true c13
                clear c13
                obtain ⟨y169, hy169⟩ : ∃ y_ : List Int, y_ = (List.replicate ((l0.length : Int) : Int).toNat 0) := ⟨_, rfl⟩
                replace H : ((handoffref02_All.f k1 (l0.length : Int)).bind fun t172 => (handofflaw02_ShuffleFair.l1 k1 l0 x3_1 y169 t172 (t172.length : Int) 0)) = some r := by first | (rw [hy169]; with_reducible exact H) | (have H2_ := (Option.bind_some _ _).symm.trans H; rw [hy169]; with_reducible exact H2_) | (have H2_ := (Option.bind_some _ _).symm.trans H; with_reducible exact H2_) | with_reducible exact H | (rw [hy169]; exact H) | exact H
                have Ny169 := Aside0.mk hy169
                clear hy169
                replace H := Option.bind_eq_some_iff.mp H
                obtain ⟨t172, A140, H⟩ := H
                replace H : (handofflaw02_ShuffleFair.l1 k1 l0 x3_1 y169 t172 (t172.length : Int) 0) = some r := H
                have A14 := Aside0.mk A140
                clear A140
                have H' := Aside0.mk H
                clear H
                go_wp2_with (first | ((with_reducible refine gate_dst (N := 31) rfl ?_); (try (refine gate_guard (by rfl) ?_; dsimp only)); refine Kd.R_make (Kd.int .i64) _ 3 rfl (N := 31) rfl 25 _ _ rfl (l0.length : Int) rfl rfl Try.underlying25 (.int .i64 0) 8 info3 rfl (by decide) (by omega) 0 (ok := fun _ => True) (okp := fun _ => True) rfl (fun _ hk => hk) trivial (of_decide_eq_true (by first | (with_reducible assumption) | assumption)) (Nat.le_trans (Nat.mul_le_mul_right _ (of_decide_eq_true (by first | (with_reducible assumption) | assumption) : (l0.length : Int).toNat ≤ 35184372088832)) (by omega)) (Below.refl _ _) (Nat.le_refl _) ?_; intro v170 w15 ho16 hb hg_ hnew_; clear hg_ hnew_; (first | rw [← Ny169.out] at ho16 | (simp only [Int.reduceToNat] at ho16; rw [← Ny169.out] at ho16)); have n0_ := Aside0.mk (Kd.R_lower ho16 (below_size (by repeat (first | (with_reducible first | exact HB.out | apply below_alloc | apply pw_below_drewN | apply below_drew1) | exact HB.out)))); have n1_ := Aside0.mk (below_step (by repeat (first | (with_reducible first | exact HB.out | apply below_alloc | apply pw_below_drewN | apply below_drew1) | exact HB.out)) hb); clear HB; have HO171 := n0_; have HB := n1_; clear n0_ n1_; clear hb ho16) | ((with_reducible refine gate_callee (f := 16) rfl ?_); refine goesL_ (some 34) rfl rfl Try.func16 (by kernel_rfl) rfl #[.int .i64 (l0.length : Int)] rfl (by (try simp only [List.map_toArray, List.map_cons, List.map_nil]); first | done | rfl | (simp only [List.length_drop, List.length_take]; rfl)) ?_; (with_reducible refine (handoffref02_All.calls k1 (l0.length : Int) t172 _ A14.out).mono ?_); rintro e w17 ⟨v173, rfl, ho0, hb⟩; refine ⟨_, rfl, ?_⟩; have n0_ := Aside0.mk (Kd.R_below (by (with_reducible repeat (first | apply Kd.R_alloc | apply Kd.R_drewN | apply Kd.R_drew)); exact HO171.out) hb); have n1_ := Aside0.mk (Kd.N_lower (Kd.N_mono (ok' := fun k_ => some k_ ≠ (v170 : Value).ownBlock) ho0 (fun k_ hk_ => (Kd.fresh' (Kd.R_lt (by (with_reducible repeat (first | apply Kd.R_alloc | apply Kd.R_drewN | apply Kd.R_drew)); exact HO171.out)) k_ hk_))) (below_size (by repeat (first | (with_reducible first | exact HB.out | apply below_alloc | apply pw_below_drewN | apply below_drew1) | exact HB.out)))); have n2_ := Aside0.mk (below_step (by repeat (first | (with_reducible first | exact HB.out | apply below_alloc | apply pw_below_drewN | apply below_drew1) | exact HB.out)) hb); clear HO171; clear HB; have HO171 := n0_; have HO174 := n1_; have HB := n2_; clear n0_ n1_ n2_; (try clear hb); (try clear hb2); (try clear hk); (try clear hi); (try clear ho0); obtain ⟨Ao18, co18, eo18⟩ := Kd.N_slice HO174.out; subst eo18))
                go_loopg [36] k1 (fun kq v36 w' => ∃ (x6_2 : List Int) (x36_2 : Int), v36 = .int .i64 x36_2 ∧ Aside0 (handofflaw02_ShuffleFair.l1 kq l0 x3_1 x6_2 t172 (t172.length : Int) x36_2 = some r) ∧ Aside0 (kq ≤ k1) ∧ Aside0 (Kd.R (Kd.int .i64) 3 w' w.heap.size (fun _ => True) v170 x6_2) ∧ Aside0 (Kd.N (Kd.slice 3 (Kd.int .i64)) 25 w' w.heap.size (fun k_ => some k_ ≠ (v170 : Value).ownBlock) (.slice Ao18 t172.length co18) t172) ∧ Aside0 (Below w.heap.size w w'))
                case atStart => exact ⟨(y169), (0), (by first | rfl | (simp; done) | (simp [*]; done)), H', ⟨Nat.le_refl _⟩, ⟨by (with_reducible repeat (first | apply Kd.R_alloc | apply Kd.R_drewN | apply Kd.R_drew)); exact HO171.out⟩, ⟨by (with_reducible repeat (first | apply Kd.N_alloc | apply Kd.N_drewN | apply Kd.N_drew)); exact HO174.out⟩, ⟨by repeat (first | (with_reducible first | exact HB.out | apply below_alloc | apply pw_below_drewN | apply below_drew1) | exact HB.out)⟩⟩
                case round =>
                  clear H'
                  try clear c1
                  try clear p1
                  try clear q1
                  try clear hx1
                  try clear p2
                  try clear c3
                  try clear c4
                  try clear c4b0
                  try clear c4b1
                  try clear c5
                  try clear p6
                  try clear c7
                  try clear c7b0
                  try clear c8
                  try clear c8b0
                  try clear c9
                  try clear c9b0
                  try clear q10
                  try clear c11
                  try clear c12
                  try clear c12b0
                  try clear c12b1
                  try clear c13
                  try clear c13b0
                  try clear c13b1
                  try clear c15
                  try clear c16
                  try clear p16
                  try clear q16
                  try clear hx16
                  try clear hx168_0
                  try clear p168
                  try clear p2
                  try clear q168
                  obtain ⟨x6_2, x36_2, rfl, HA, HK2, HO_6, HO_34, HB⟩ := hrel
                  cases gk with
                  | zero => exact absurd HA.out (by simp [handofflaw02_ShuffleFair.l1])
                  | succ k2 =>
                    have H := HA.out
                    clear HA
                    simp only [handofflaw02_ShuffleFair.l1] at H
                    by_cases c19 : x36_2 < (t172.length : Int)
                    · rw [if_pos c19] at H
                      have c19b0 : decide (x36_2 < (t172.length : Int)) = true := decide_eq_true c19
                      clear c19
                      by_cases c20 : 0 ≤ x36_2
                      · rw [if_pos c20] at H
                        have c20b0 : decide (0 ≤ x36_2) = true := decide_eq_true c20
                        clear c20
                        by_cases c21 : x36_2 < (t172.length : Int)
                        · rw [if_pos c21] at H
                          have c21b0 : decide (x36_2 < (t172.length : Int)) = true := decide_eq_true c21
                          clear c21
                          replace H := Option.bind_eq_some_iff.mp H
                          obtain ⟨t176, A220, H⟩ := H
                          replace H : ((shuffle_First.f k2 t176 l0).bind fun bt179 => (if (bt179.2 != (decide (x3_1 > 0))) = true then (handofflaw02_ShuffleFair.j2 k2 l0 x3_1 x6_2 bt179.1 bt179.2 t172 (t172.length : Int) x36_2 true) else (if bt179.2 = true then (if bt179.1 < 0 then (handofflaw02_ShuffleFair.j2 k2 l0 x3_1 x6_2 bt179.1 bt179.2 t172 (t172.length : Int) x36_2 true) else (handofflaw02_ShuffleFair.j2 k2 l0 x3_1 x6_2 bt179.1 bt179.2 t172 (t172.length : Int) x36_2 (decide (bt179.1 ≥ (l0.length : Int))))) else (handofflaw02_ShuffleFair.j2 k2 l0 x3_1 x6_2 bt179.1 bt179.2 t172 (t172.length : Int) x36_2 false)))) = some r := H
                          have A22 := Aside0.mk A220
                          clear A220
                          replace H := Option.bind_eq_some_iff.mp H
                          obtain ⟨⟨t179, t180⟩, A230, H⟩ := H
                          replace H : (if (t180 != (decide (x3_1 > 0))) = true then (handofflaw02_ShuffleFair.j2 k2 l0 x3_1 x6_2 t179 t180 t172 (t172.length : Int) x36_2 true) else (if t180 = true then (if t179 < 0 then (handofflaw02_ShuffleFair.j2 k2 l0 x3_1 x6_2 t179 t180 t172 (t172.length : Int) x36_2 true) else (handofflaw02_ShuffleFair.j2 k2 l0 x3_1 x6_2 t179 t180 t172 (t172.length : Int) x36_2 (decide (t179 ≥ (l0.length : Int))))) else (handofflaw02_ShuffleFair.j2 k2 l0 x3_1 x6_2 t179 t180 t172 (t172.length : Int) x36_2 false))) = some r := H
                          have A23 := Aside0.mk A230
                          clear A230
                          have HC24 := Aside0.mk H
                          clear H
                          have p175 : 0 ≤ (x36_2 : Int) := of_decide_eq_true (by first | (with_reducible assumption) | assumption)
                          have q175 : x36_2 < (t172.length : Int) := of_decide_eq_true (by first | (with_reducible assumption) | assumption)
                          obtain ⟨ad175, A175_0, c175_0, e175, hx175_0, hl175_0, hi175_0⟩ := at_L1 (Kd.N_reads' HO_34.out).2.2 x36_2 p175 q175
                          cases e175
                          obtain ⟨ce175, hce175, hMe175, hcc175⟩ := Kd.N_get HO_34.out [] x36_2 p175 (by first | exact q175 | exact of_decide_eq_true (by first | (with_reducible assumption) | assumption) | (have e_ := (Kd.N_reads' HO_34.out).1; omega))
                          obtain ⟨ua175_0, uc175_0, rfl, ul175_0, ge175_0⟩ := Kd.FK_slice_open hMe175
                          have hv175_0 := hcc175 0 _ rfl
                          rw [Nat.add_zero, show ((Kd.slice 3 (Kd.int .i64))).sz = 1 from rfl, Nat.mul_one] at hv175_0
                          replace hv175_0 := Option.some.inj (hv175_0.symm.trans hx175_0)
                          injection hv175_0 with hva_ hvn_ hvc_
                          rw [hva_] at ge175_0
                          rw [hvc_] at ul175_0
                          have HL175_0 := Aside0.mk (show Kd.V (Kd.int .i64) 3 _ w.heap.size _ _ (rd_L1 t172 x36_2) from Kd.V_mk ul175_0 ge175_0)
                          clear hva_ hvn_ hvc_ ge175_0 ul175_0
                          clear hcc175 hce175
                          have HR175_0 := Aside0.mk hi175_0
                          have HC175_0 := Aside0.mk hl175_0
                          clear hi175_0 hl175_0
                          replace p175 := eq_true p175
                          replace q175 := eq_true q175
                          go_upto_region 17 with (first | ((with_reducible refine gate_callee (f := 17) rfl ?_); refine goesL_ (some 42) rfl rfl Try.func17 (by kernel_rfl) rfl #[.slice A175_0 (rd_L1 t172 x36_2).length c175_0] rfl (by (try simp only [List.map_toArray, List.map_cons, List.map_nil]); first | done | rfl | (simp only [List.length_drop, List.length_take]; rfl)) ?_; (with_reducible refine (shuffle_Order.calls k2 _ _ (rd_L1 t172 x36_2) t176 _ ?side1 ?side2 A22.out).mono ?_); (case side1 => repeat (first | exact (by repeat (first | (with_reducible exact HR175_0.out) | (with_reducible refine Kd.C_alloc ?_ _) | (with_reducible refine Kd.C_drewN ?_ _) | (with_reducible refine Kd.C_drew ?_) | exact HR175_0.out)) | (with_reducible refine Kd.C_alloc ?_ _) | (with_reducible refine Kd.C_drewN ?_ _) | (with_reducible refine Kd.C_drew ?_))); (case side2 => exact HC175_0.out); rintro e w25 ⟨v177, rfl, ho0, hb⟩; refine ⟨_, rfl, ?_⟩; have n0_ := Aside0.mk (Kd.R_elder' (by (with_reducible repeat (first | apply Kd.R_alloc | apply Kd.R_drewN | apply Kd.R_drew)); exact HO_6.out) (Kd.R_base ho0) hb); have n1_ := Aside0.mk (Kd.N_elder' (by (with_reducible repeat (first | apply Kd.N_alloc | apply Kd.N_drewN | apply Kd.N_drew)); exact HO_34.out) (Kd.R_base ho0) hb); have n2_ := Aside0.mk (Kd.V_elder' (by (with_reducible repeat (first | apply Kd.V_alloc | apply Kd.V_drewN | apply Kd.V_drew)); exact HL175_0.out) (Kd.R_base ho0) hb); have n3_ := Aside0.mk (Kd.R_lower (Kd.R_new' ho0 (Kd.R_lt (by (with_reducible repeat (first | apply Kd.R_alloc | apply Kd.R_drewN | apply Kd.R_drew)); exact HO_6.out))) (below_size (by repeat (first | (with_reducible first | exact HB.out | apply below_alloc | apply pw_below_drewN | apply below_drew1) | exact HB.out)))); have n4_ := Aside0.mk (Kd.C_below (by repeat (first | (with_reducible exact HR175_0.out) | (with_reducible refine Kd.C_alloc ?_ _) | (with_reducible refine Kd.C_drewN ?_ _) | (with_reducible refine Kd.C_drew ?_) | exact HR175_0.out)) hb); have n5_ := Aside0.mk (below_step (by repeat (first | (with_reducible first | exact HB.out | apply below_alloc | apply pw_below_drewN | apply below_drew1) | exact HB.out)) hb); clear HO_6; clear HO_34; clear HL175_0; clear HR175_0; clear HB; have HO_6 := n0_; have HO_34 := n1_; have HL175_0 := n2_; have HO178 := n3_; have HR175_0 := n4_; have HB := n5_; clear n0_ n1_ n2_ n3_ n4_ n5_; (try clear hb); (try clear hb2); (try clear hk); (try clear hi); (try clear ho0); obtain ⟨Ao26, co26, eo26⟩ := Kd.R_slice HO178.out; subst eo26) | ((with_reducible refine gate_callee (f := 20) rfl ?_); refine goesL_ (some 44) rfl rfl Try.func20 (by kernel_rfl) rfl #[.slice Ao26 t176.length co26, .slice A0 l0.length c0] rfl (by (try simp only [List.map_toArray, List.map_cons, List.map_nil]); first | done | rfl | (simp only [List.length_drop, List.length_take]; rfl)) ?_; (with_reducible refine (shuffle_First.calls k2 _ _ t176 _ _ l0 t179 t180 _ ?side1 ?side2 ?side3 ?side4 A23.out).mono ?_); (case side1 => repeat (first | exact (Kd.R_reads' HO178.out).2.2 | (with_reducible refine Kd.C_alloc ?_ _) | (with_reducible refine Kd.C_drewN ?_ _) | (with_reducible refine Kd.C_drew ?_))); (case side2 => exact (Kd.R_reads' HO178.out).2.1); (case side3 => repeat (first | exact (Kd.C_below HR0.out HB.out) | (with_reducible refine Kd.C_alloc ?_ _) | (with_reducible refine Kd.C_drewN ?_ _) | (with_reducible refine Kd.C_drew ?_))); (case side4 => exact HC0.out); rintro e w' ⟨rfl, ⟨nd, rfl⟩⟩; refine ⟨_, rfl, ?_⟩))
                          (try simp only [Act.put, List.setIfInBounds_toArray, List.set_cons_zero, List.set_cons_succ])
                          go_cut [63] (fun v63 wc => ∃ (kq : Nat) (x63_23 : Bool), v63 = .bool x63_23 ∧ Aside0 (handofflaw02_ShuffleFair.j2 kq l0 x3_1 x6_2 t179 t180 t172 (t172.length : Int) x36_2 x63_23 = some r) ∧ Aside0 (kq ≤ k2) ∧ Aside0 (Kd.R (Kd.int .i64) 3 wc w.heap.size (fun _ => True) v170 x6_2) ∧ Aside0 (Kd.N (Kd.slice 3 (Kd.int .i64)) 25 wc w.heap.size (fun k_ => some k_ ≠ (v170 : Value).ownBlock) (.slice (some ad175) t172.length co18) t172) ∧ Aside0 (Kd.C (Kd.int .i64) wc A175_0 (rd_L1 t172 x36_2).length (rd_L1 t172 x36_2)) ∧ Aside0 (Below w.heap.size w wc))
                          case first =>
                            have H := HC24.out
                            clear HC24
                            by_cases c27 : (t180 != (decide (x3_1 > 0))) = true
                            · rw [if_pos c27] at H
                              have c27b0 : (t180 != (decide (x3_1 > 0))) = true := c27
                              (try (have c27b1 : decide (t180 = (decide (x3_1 > 0))) = false := by simpa using c27))
                              (try (have c27b2 : (t180 == (decide (x3_1 > 0))) = false := by simpa using c27))
                              (try (have c27b3 : ¬ (t180 = (decide (x3_1 > 0))) := by simpa using c27))
                              clear c27
                              (first | rw [c27b0] | (simp only [i64_w, i32_w]; rw [c27b0]) | skip)
                              have H' := Aside0.mk H
                              clear H
                              go_wp2
                              go_meet
                              case rel => exact ⟨_, (true), (by first | rfl | (simp; done) | (simp [*]; done)), H', ⟨by have := HK1.out; have := HK2.out; first | omega | exact Nat.le_refl _⟩, ⟨by (with_reducible repeat (first | apply Kd.R_alloc | apply Kd.R_drewN | apply Kd.R_drew)); exact Kd.R_mono HO_6.out (fun _ hk => trivial)⟩, ⟨by (with_reducible repeat (first | apply Kd.N_alloc | apply Kd.N_drewN | apply Kd.N_drew)); exact Kd.N_mono HO_34.out (fun _ hk => hk.1)⟩, ⟨by repeat (first | (with_reducible exact HR175_0.out) | (with_reducible refine Kd.C_alloc ?_ _) | (with_reducible refine Kd.C_drewN ?_ _) | (with_reducible refine Kd.C_drew ?_) | exact HR175_0.out)⟩, ⟨by repeat (first | (with_reducible first | exact HB.out | apply below_alloc | apply pw_below_drewN | apply below_drew1) | exact HB.out)⟩⟩
                            · rw [if_neg c27] at H
                              have c27b0 : (t180 != (decide (x3_1 > 0))) = false := by simpa using c27
                              (try (have c27b1 : decide (t180 = (decide (x3_1 > 0))) = true := by simpa using c27))
                              (try (have c27b2 : (t180 == (decide (x3_1 > 0))) = true := by simpa using c27))
                              clear c27
                              (first | rw [c27b0] | (simp only [i64_w, i32_w]; rw [c27b0]) | skip)
                              by_cases c28 : t180 = true
                              · subst c28
                                have H1 : (if t179 < 0 then (handofflaw02_ShuffleFair.j2 k2 l0 x3_1 x6_2 t179 true t172 (t172.length : Int) x36_2 true) else (handofflaw02_ShuffleFair.j2 k2 l0 x3_1 x6_2 t179 true t172 (t172.length : Int) x36_2 (decide (t179 ≥ (l0.length : Int))))) = some r := by rw [if_pos rfl] at H; exact H
                                clear H
                                have H := H1
                                clear H1
                                by_cases c29 : t179 < 0
                                · rw [if_pos c29] at H
                                  have c29b0 : decide (t179 < 0) = true := decide_eq_true c29
                                  clear c29
                                  have H' := Aside0.mk H
                                  clear H
                                  go_wp2
                                  go_meet
                                  case rel => exact ⟨_, (true), (by first | rfl | (simp; done) | (simp [*]; done)), H', ⟨by have := HK1.out; have := HK2.out; first | omega | exact Nat.le_refl _⟩, ⟨by (with_reducible repeat (first | apply Kd.R_alloc | apply Kd.R_drewN | apply Kd.R_drew)); exact Kd.R_mono HO_6.out (fun _ hk => trivial)⟩, ⟨by (with_reducible repeat (first | apply Kd.N_alloc | apply Kd.N_drewN | apply Kd.N_drew)); exact Kd.N_mono HO_34.out (fun _ hk => hk.1)⟩, ⟨by repeat (first | (with_reducible exact HR175_0.out) | (with_reducible refine Kd.C_alloc ?_ _) | (with_reducible refine Kd.C_drewN ?_ _) | (with_reducible refine Kd.C_drew ?_) | exact HR175_0.out)⟩, ⟨by repeat (first | (with_reducible first | exact HB.out | apply below_alloc | apply pw_below_drewN | apply below_drew1) | exact HB.out)⟩⟩
                                · rw [if_neg c29] at H
                                  have c29b0 : decide (t179 < 0) = false := decide_eq_false c29
                                  clear c29
                                  have H' := Aside0.mk H
                                  clear H
                                  go_wp2
                                  go_meet
                                  case rel => exact ⟨_, (decide (t179 ≥ (l0.length : Int))), (by first | rfl | (simp; done) | (simp [*]; done)), H', ⟨by have := HK1.out; have := HK2.out; first | omega | exact Nat.le_refl _⟩, ⟨by (with_reducible repeat (first | apply Kd.R_alloc | apply Kd.R_drewN | apply Kd.R_drew)); exact Kd.R_mono HO_6.out (fun _ hk => trivial)⟩, ⟨by (with_reducible repeat (first | apply Kd.N_alloc | apply Kd.N_drewN | apply Kd.N_drew)); exact Kd.N_mono HO_34.out (fun _ hk => hk.1)⟩, ⟨by repeat (first | (with_reducible exact HR175_0.out) | (with_reducible refine Kd.C_alloc ?_ _) | (with_reducible refine Kd.C_drewN ?_ _) | (with_reducible refine Kd.C_drew ?_) | exact HR175_0.out)⟩, ⟨by repeat (first | (with_reducible first | exact HB.out | apply below_alloc | apply pw_below_drewN | apply below_drew1) | exact HB.out)⟩⟩
                              · replace c28 := Bool.eq_false_iff.mpr c28
                                subst c28
                                have H1 : (handofflaw02_ShuffleFair.j2 k2 l0 x3_1 x6_2 t179 false t172 (t172.length : Int) x36_2 false) = some r := by rw [if_neg (show ¬ (false = true) by decide)] at H; exact H
                                clear H
                                have H := H1
                                clear H1
                                have H' := Aside0.mk H
                                clear H
                                go_wp2
                                go_meet
                                case rel => exact ⟨_, (false), (by first | rfl | (simp; done) | (simp [*]; done)), H', ⟨by have := HK1.out; have := HK2.out; first | omega | exact Nat.le_refl _⟩, ⟨by (with_reducible repeat (first | apply Kd.R_alloc | apply Kd.R_drewN | apply Kd.R_drew)); exact Kd.R_mono HO_6.out (fun _ hk => trivial)⟩, ⟨by (with_reducible repeat (first | apply Kd.N_alloc | apply Kd.N_drewN | apply Kd.N_drew)); exact Kd.N_mono HO_34.out (fun _ hk => hk.1)⟩, ⟨by repeat (first | (with_reducible exact HR175_0.out) | (with_reducible refine Kd.C_alloc ?_ _) | (with_reducible refine Kd.C_drewN ?_ _) | (with_reducible refine Kd.C_drew ?_) | exact HR175_0.out)⟩, ⟨by repeat (first | (with_reducible first | exact HB.out | apply below_alloc | apply pw_below_drewN | apply below_drew1) | exact HB.out)⟩⟩
                          case rest =>
                            clear HC24
                            try clear c1
                            try clear p1
                            try clear q1
                            try clear hx1
                            try clear c2
                            try clear p2
                            try clear c3
                            try clear c4
                            try clear c4b0
                            try clear c4b1
                            try clear c5
                            try clear p6
                            try clear c7
                            try clear c7b0
                            try clear c8
                            try clear c8b0
                            try clear c9
                            try clear c9b0
                            try clear q10
                            try clear c11
                            try clear c12
                            try clear c12b0
                            try clear c12b1
                            try clear c13
                            try clear c13b0
                            try clear c13b1
                            try clear c15
                            try clear c16
                            try clear p16
                            try clear q16
                            try clear hx16
                            try clear c17
                            try clear p17
                            try clear q17
                            try clear hx17
                            try clear c19
                            try clear c19b0
                            try clear c20
                            try clear c20b0
                            try clear c21
                            try clear c21b0
                            try clear c27
                            try clear c27b0
                            try clear c27b1
                            try clear c27b2
                            try clear c28
                            try clear c29
                            try clear c29b0
                            try clear hx168_0
                            try clear hx175_0
                            try clear p1
                            try clear p16
                            try clear p168
                            try clear p175
                            try clear p2
                            try clear p6
                            try clear q1
                            try clear q10
                            try clear q16
                            try clear q168
                            try clear q175
                            obtain ⟨kq, x63_23, rfl, HA, HJ23, HO_6, HO_34, HR175_0, HB⟩ := hcut
                            cases kq with
                            | zero => exact absurd HA.out (by simp [handofflaw02_ShuffleFair.j2])
                            | succ kj23 =>
                              have H := HA.out
                              clear HA
                              simp only [handofflaw02_ShuffleFair.j2] at H
                              by_cases c30 : x63_23 = true
                              · subst c30
                                have H1 : (some false) = some r := by rw [if_pos rfl] at H; exact H
                                clear H
                                have H := H1
                                clear H1
                                obtain rfl := Option.some.inj H
                                go_wp2
                                go_ret
                                exact ⟨by first | rfl | (simp [errW_none, errW_some] <;> rfl) | (simp [*, errW_none, errW_some] <;> rfl), by repeat (first | (with_reducible first | exact HB.out | apply below_alloc | apply pw_below_drewN | apply below_drew1) | exact HB.out)⟩
                              · replace c30 := Bool.eq_false_iff.mpr c30
                                subst c30
                                have H1 : (if t180 = true then (if 0 ≤ t179 then (if t179 < (x6_2.length : Int) then (handofflaw02_ShuffleFair.l1 kj23 l0 x3_1 (x6_2.set (t179 : Int).toNat (wrap64 ((rd x6_2 t179) + 1))) t172 (t172.length : Int) (wrap64 (x36_2 + 1))) else (none)) else (none)) else (handofflaw02_ShuffleFair.l1 kj23 l0 x3_1 x6_2 t172 (t172.length : Int) (wrap64 (x36_2 + 1)))) = some r := by rw [if_neg (show ¬ (false = true) by decide)] at H; exact H
                                clear H
                                have H := H1
                                clear H1
                                by_cases c31 : t180 = true
                                · subst c31
                                  have H1 : (if 0 ≤ t179 then (if t179 < (x6_2.length : Int) then (handofflaw02_ShuffleFair.l1 kj23 l0 x3_1 (x6_2.set (t179 : Int).toNat (wrap64 ((rd x6_2 t179) + 1))) t172 (t172.length : Int) (wrap64 (x36_2 + 1))) else (none)) else (none)) = some r := by rw [if_pos rfl] at H; exact H
                                  clear H
                                  have H := H1
                                  clear H1
                                  by_cases c32 : 0 ≤ t179
                                  · rw [if_pos c32] at H
                                    have c32b0 : decide (0 ≤ t179) = true := decide_eq_true c32
                                    clear c32
                                    by_cases c33 : t179 < (x6_2.length : Int)
                                    · rw [if_pos c33] at H
                                      have c33b0 : decide (t179 < (x6_2.length : Int)) = true := decide_eq_true c33
                                      clear c33
                                      obtain ⟨y182, hy182⟩ : ∃ y_ : List Int, y_ = (x6_2.set (t179 : Int).toNat (wrap64 ((rd x6_2 t179) + 1))) := ⟨_, rfl⟩
                                      replace H : (handofflaw02_ShuffleFair.l1 kj23 l0 x3_1 y182 t172 (t172.length : Int) (wrap64 (x36_2 + 1))) = some r := by first | (rw [hy182]; with_reducible exact H) | (have H2_ := (Option.bind_some _ _).symm.trans H; rw [hy182]; with_reducible exact H2_) | (have H2_ := (Option.bind_some _ _).symm.trans H; with_reducible exact H2_) | with_reducible exact H | (rw [hy182]; exact H) | exact H
                                      have Ny182 := Aside0.mk hy182
                                      clear hy182
                                      have H' := Aside0.mk H
                                      clear H
                                      obtain ⟨Ao35, co35, eo35⟩ := Kd.R_slice HO_6.out
                                      subst eo35
                                      have p181 : 0 ≤ (t179 : Int) := of_decide_eq_true (by first | (with_reducible assumption) | assumption)
                                      have q181 : t179 < (x6_2.length : Int) := of_decide_eq_true (by first | (with_reducible assumption) | assumption)
                                      obtain ⟨ad181, e181, hx181_0⟩ := Kd.at_int (Kd.R_reads' HO_6.out).2.2 t179 p181 q181
                                      cases e181
                                      replace p181 := eq_true p181
                                      replace q181 := eq_true q181
                                      have p34 : 0 ≤ (t179 : Int) := of_decide_eq_true (by first | (with_reducible assumption) | assumption)
                                      have q34 : (t179 : Int) < ((x6_2.length : Int) : Int) := of_decide_eq_true (by first | (with_reducible assumption) | assumption)
                                      obtain ⟨go34, co34, eo34, gb34, gl34, cl34, HG34⟩ := Kd.R_form HO_6.out (by omega)
                                      (first | cases eo34 | (injection eo34 with ea_ en_ ec_; (first | subst ea_ | (injection ea_ with ea_; subst ea_)); subst ec_; clear en_))
                                      have GB34 := Aside0.mk gb34
                                      have GG34 := Aside0.mk HG34
                                      clear gb34 gl34 HG34
                                      (first | simp only [add_plain] at hx181_0 | skip)
                                      obtain ⟨hx34_0, hf34_0⟩ := Kd.R_celln 0 HO_6.out (t179 : Int) p34 q34
                                      replace p34 := eq_true p34
                                      replace q34 := eq_true q34
                                      have HP36 := Kd.R_putg HO_6.out (t179 : Int) (wrap64 ((rd x6_2 t179) + 1))
                                      go_wp2_with (first | ((with_reducible refine gate_store (t := 3) (p := 70) rfl ?_); refine store_event (t := 3) (p := 70) (v := ?vo_w37) (w1 := (wc.setCell ⟨go34, (t179 : Int).toNat, none⟩ (.int .i64 (wrap64 ((rd x6_2 t179) + 1))))) ?hg ?ho ?hn ?hr ?_; (case ho => rfl); (case hg => rfl); (case hn => rfl); (case hr => first | (go_simp; done) | (go_simp; rfl)); intro w37 hw; have hg : wc.grownBy w37 (some go34) := (by rw [hw]; exact HP36.2); have hp_ : Kd.R (Kd.int .i64) 3 w37 w.heap.size (fun _ => True) (.slice (some ⟨go34, 0, none⟩) x6_2.length co35) y182 := (by rw [hw, Ny182.out]; exact HP36.1); clear HP36; have n0_ := Aside0.mk (hp_); have n1_ := Aside0.mk (Kd.N_afterv (v := (.slice (some ⟨go34, 0, none⟩) x6_2.length co35)) (v1 := (.slice (some ⟨go34, 0, none⟩) x6_2.length co35)) (ok := (fun _ => True)) (by (with_reducible repeat (first | apply Kd.N_alloc | apply Kd.N_drewN | apply Kd.N_drew)); exact Kd.N_mono HO_34.out (fun _ hk => ⟨trivial, hk⟩)) hg (.inl rfl)); have n2_ := Aside0.mk ((by rw [hw]; exact below_set (HB.out) GB34.out : Below w.heap.size w w37)); clear HO_6; clear HO_34; clear HB; have HO_6 := n0_; have HO_34 := n1_; have HB := n2_; clear n0_ n1_ n2_; clear hg hw hp_))
                                      go_roundg kj23
                                      case measure => have := HK1.out; have := HK2.out; have := HJ23.out; omega
                                      case rel => exact ⟨(y182), (wrap64 (x36_2 + 1)), (by first | rfl | (simp; done) | (simp [*]; done)), H', ⟨by have := HK1.out; have := HK2.out; have := HJ23.out; omega⟩, ⟨by (with_reducible repeat (first | apply Kd.R_alloc | apply Kd.R_drewN | apply Kd.R_drew)); exact HO_6.out⟩, ⟨by (with_reducible repeat (first | apply Kd.N_alloc | apply Kd.N_drewN | apply Kd.N_drew)); exact Kd.N_mono HO_34.out (fun _ hk => hk.2)⟩, ⟨by repeat (first | (with_reducible first | exact HB.out | apply below_alloc | apply pw_below_drewN | apply below_drew1) | exact HB.out)⟩⟩
                                    · rw [if_neg c33] at H
                                      exact absurd H (by simp)
                                  · rw [if_neg c32] at H
                                    exact absurd H (by simp)
                                · replace c31 := Bool.eq_false_iff.mpr c31
                                  subst c31
                                  have H1 : (handofflaw02_ShuffleFair.l1 kj23 l0 x3_1 x6_2 t172 (t172.length : Int) (wrap64 (x36_2 + 1))) = some r := by rw [if_neg (show ¬ (false = true) by decide)] at H; exact H
                                  clear H
                                  have H := H1
                                  clear H1
                                  have H' := Aside0.mk H
                                  clear H
                                  go_wp2
                                  go_roundg kj23
                                  case measure => have := HK1.out; have := HK2.out; have := HJ23.out; omega
                                  case rel => exact ⟨(x6_2), (wrap64 (x36_2 + 1)), (by first | rfl | (simp; done) | (simp [*]; done)), H', ⟨by have := HK1.out; have := HK2.out; have := HJ23.out; omega⟩, ⟨by (with_reducible repeat (first | apply Kd.R_alloc | apply Kd.R_drewN | apply Kd.R_drew)); exact HO_6.out⟩, ⟨by (with_reducible repeat (first | apply Kd.N_alloc | apply Kd.N_drewN | apply Kd.N_drew)); exact HO_34.out⟩, ⟨by repeat (first | (with_reducible first | exact HB.out | apply below_alloc | apply pw_below_drewN | apply below_drew1) | exact HB.out)⟩⟩
                        · rw [if_neg c21] at H
                          exact absurd H (by simp)
                      · rw [if_neg c20] at H
                        exact absurd H (by simp)
                    · rw [if_neg c19] at H
                      have c19b0 : decide (x36_2 < (t172.length : Int)) = false := decide_eq_false c19
                      clear c19
                      have H' := Aside0.mk H
                      clear H
                      go_wp2
                      go_loopg [74] k2 (fun kq v74 w' => ∃ (x74_3 : Int), v74 = .int .i64 x74_3 ∧ Aside0 (handofflaw02_ShuffleFair.l2 kq l0 x3_1 x6_2 l0 (l0.length : Int) x74_3 = some r) ∧ Aside0 (kq ≤ k2) ∧ Aside0 (Kd.R (Kd.int .i64) 3 w' w.heap.size (fun _ => True) v170 x6_2) ∧ Aside0 (Below w.heap.size w w'))
                      case atStart => exact ⟨(0), (by first | rfl | (simp; done) | (simp [*]; done)), H', ⟨Nat.le_refl _⟩, ⟨by (with_reducible repeat (first | apply Kd.R_alloc | apply Kd.R_drewN | apply Kd.R_drew)); exact HO_6.out⟩, ⟨by repeat (first | (with_reducible first | exact HB.out | apply below_alloc | apply pw_below_drewN | apply below_drew1) | exact HB.out)⟩⟩
                      case round =>
                        clear H'
                        try clear c1
                        try clear p1
                        try clear q1
                        try clear hx1
                        try clear c2
                        try clear p2
                        try clear c3
                        try clear p3
                        try clear q3
                        try clear hx3
                        try clear hf3
                        try clear c4
                        try clear c4b0
                        try clear c4b1
                        try clear c5
                        try clear p6
                        try clear c7
                        try clear c7b0
                        try clear c8
                        try clear c8b0
                        try clear c9
                        try clear c9b0
                        try clear q10
                        try clear c11
                        try clear c12
                        try clear c12b0
                        try clear c12b1
                        try clear c13
                        try clear c13b0
                        try clear c13b1
                        try clear c15
                        try clear c16
                        try clear p16
                        try clear q16
                        try clear hx16
                        try clear c17
                        try clear p17
                        try clear q17
                        try clear hx17
                        try clear p18
                        try clear q18
                        try clear hx18
                        try clear c19
                        try clear c19b0
                        try clear c20
                        try clear c20b0
                        try clear c21
                        try clear c21b0
                        try clear c27
                        try clear c27b0
                        try clear c27b1
                        try clear c27b2
                        try clear c28
                        try clear c29
                        try clear c29b0
                        try clear c30
                        try clear c31
                        try clear c32
                        try clear c32b0
                        try clear c33
                        try clear c33b0
                        try clear p34
                        try clear q34
                        try clear hx34
                        try clear hf34
                        try clear hx168_0
                        try clear hx175_0
                        try clear hx181_0
                        try clear hx34_0
                        try clear p1
                        try clear p16
                        try clear p168
                        try clear p17
                        try clear p175
                        try clear p181
                        try clear p2
                        try clear p34
                        try clear p6
                        try clear q1
                        try clear q10
                        try clear q16
                        try clear q168
                        try clear q17
                        try clear q175
                        try clear q181
                        try clear q34
                        obtain ⟨x74_3, rfl, HA, HK3, HO_6, HB⟩ := hrel
                        cases gk with
                        | zero => exact absurd HA.out (by simp [handofflaw02_ShuffleFair.l2])
                        | succ k3 =>
                          have H := HA.out
                          clear HA
                          simp only [handofflaw02_ShuffleFair.l2] at H
                          by_cases c38 : x74_3 < (l0.length : Int)
                          · rw [if_pos c38] at H
                            have c38b0 : decide (x74_3 < (l0.length : Int)) = true := decide_eq_true c38
                            clear c38
                            by_cases c39 : 0 ≤ x74_3
                            · rw [if_pos c39] at H
                              have c39b0 : decide (0 ≤ x74_3) = true := decide_eq_true c39
                              clear c39
                              by_cases c40 : x74_3 < (l0.length : Int)
                              · rw [if_pos c40] at H
                                have c40b0 : decide (x74_3 < (l0.length : Int)) = true := decide_eq_true c40
                                clear c40
                                obtain ⟨bq41, hbq41⟩ : ∃ b_ : Bool, b_ = (rdOf false l0 x74_3) := ⟨_, rfl⟩
                                replace H : (if bq41 = true then ((shuffle_Count.f k3 (l0.length : Int)).bind fun t184 => (if x3_1 = 0 then (none) else (if x74_3 < (x6_2.length : Int) then (if (rd x6_2 x74_3) = (wrap64 (Int.tdiv t184 x3_1)) then (handofflaw02_ShuffleFair.l2 k3 l0 x3_1 x6_2 l0 (l0.length : Int) (wrap64 (x74_3 + 1))) else (some false)) else (none)))) else (if x74_3 < (x6_2.length : Int) then (if (rd x6_2 x74_3) = 0 then (handofflaw02_ShuffleFair.l2 k3 l0 x3_1 x6_2 l0 (l0.length : Int) (wrap64 (x74_3 + 1))) else (some false)) else (none))) = some r := by rw [← hbq41] at H; exact H
                                have Nbq41 := Aside0.mk hbq41
                                clear hbq41
                                by_cases c42 : bq41 = true
                                · subst c42
                                  have H1 : ((shuffle_Count.f k3 (l0.length : Int)).bind fun t184 => (if x3_1 = 0 then (none) else (if x74_3 < (x6_2.length : Int) then (if (rd x6_2 x74_3) = (wrap64 (Int.tdiv t184 x3_1)) then (handofflaw02_ShuffleFair.l2 k3 l0 x3_1 x6_2 l0 (l0.length : Int) (wrap64 (x74_3 + 1))) else (some false)) else (none)))) = some r := by rw [if_pos rfl] at H; exact H
                                  clear H
                                  have H := H1
                                  clear H1
                                  replace H := Option.bind_eq_some_iff.mp H
                                  obtain ⟨t184, A430, H⟩ := H
                                  replace H : (if x3_1 = 0 then (none) else (if x74_3 < (x6_2.length : Int) then (if (rd x6_2 x74_3) = (wrap64 (Int.tdiv t184 x3_1)) then (handofflaw02_ShuffleFair.l2 k3 l0 x3_1 x6_2 l0 (l0.length : Int) (wrap64 (x74_3 + 1))) else (some false)) else (none))) = some r := H
                                  have A43 := Aside0.mk A430
                                  clear A430
                                  by_cases c44 : x3_1 = 0
                                  · rw [if_pos c44] at H
                                    exact absurd H (by simp)
                                  · rw [if_neg c44] at H
                                    have c44b0 : (x3_1 == 0) = false := beq_eq_false_iff_ne.mpr c44
                                    have c44b1 : (x3_1 != 0) = true := bne_iff_ne.mpr c44
                                    by_cases c45 : x74_3 < (x6_2.length : Int)
                                    · rw [if_pos c45] at H
                                      have c45b0 : decide (x74_3 < (x6_2.length : Int)) = true := decide_eq_true c45
                                      clear c45
                                      by_cases c46 : (rd x6_2 x74_3) = (wrap64 (Int.tdiv t184 x3_1))
                                      · rw [if_pos c46] at H
                                        have c46b0 : ((rd x6_2 x74_3) == (wrap64 (Int.tdiv t184 x3_1))) = true := beq_iff_eq.mpr c46
                                        have c46b1 : ((rd x6_2 x74_3) != (wrap64 (Int.tdiv t184 x3_1))) = false := bne_eq_false_iff_eq.mpr c46
                                        clear c46
                                        have H' := Aside0.mk H
                                        clear H
                                        have p183 : 0 ≤ (x74_3 : Int) := of_decide_eq_true (by first | (with_reducible assumption) | assumption)
                                        have q183 : x74_3 < (l0.length : Int) := of_decide_eq_true (by first | (with_reducible assumption) | assumption)
                                        obtain ⟨ad183, e183, hx183_0⟩ := Kd.at_bool HR0.out x74_3 p183 q183
                                        (try rw [← Nbq41.out] at hx183_0)
                                        cases e183
                                        replace hx183_0 := (HB.out.cell (World.block_lt_of_cell? w _ hx183_0)).trans hx183_0
                                        replace p183 := eq_true p183
                                        replace q183 := eq_true q183
                                        go_wp2_with (first | ((with_reducible refine gate_callee (f := 19) rfl ?_); refine goesL_ (some 82) rfl rfl Try.func19 (by kernel_rfl) rfl #[.int .i64 (l0.length : Int)] rfl (by (try simp only [List.map_toArray, List.map_cons, List.map_nil]); first | done | rfl | (simp only [List.length_drop, List.length_take]; rfl)) ?_; (with_reducible refine (shuffle_Count.calls k3 (l0.length : Int) t184 _ A43.out).mono ?_); rintro e w' ⟨rfl, ⟨nd, rfl⟩⟩; refine ⟨_, rfl, ?_⟩; obtain ⟨Ao47, co47, eo47⟩ := Kd.R_slice HO_6.out; subst eo47; have p185 : 0 ≤ (x74_3 : Int) := of_decide_eq_true (by first | (with_reducible assumption) | assumption); have q185 : x74_3 < (x6_2.length : Int) := of_decide_eq_true (by first | (with_reducible assumption) | assumption); obtain ⟨ad185, e185, hx185_0⟩ := Kd.at_int (Kd.R_reads' HO_6.out).2.2 x74_3 p185 q185; cases e185; replace p185 := eq_true p185; replace q185 := eq_true q185))
                                        go_roundg k3
                                        case measure => have := HK1.out; have := HK2.out; have := HK3.out; omega
                                        case rel => exact ⟨(wrap64 (x74_3 + 1)), (by first | rfl | (simp; done) | (simp [*]; done)), H', ⟨by have := HK1.out; have := HK2.out; have := HK3.out; omega⟩, ⟨by (with_reducible repeat (first | apply Kd.R_alloc | apply Kd.R_drewN | apply Kd.R_drew)); exact HO_6.out⟩, ⟨by repeat (first | (with_reducible first | exact HB.out | apply below_alloc | apply pw_below_drewN | apply below_drew1) | exact HB.out)⟩⟩
                                      · rw [if_neg c46] at H
                                        have c46b0 : ((rd x6_2 x74_3) == (wrap64 (Int.tdiv t184 x3_1))) = false := beq_eq_false_iff_ne.mpr c46
                                        have c46b1 : ((rd x6_2 x74_3) != (wrap64 (Int.tdiv t184 x3_1))) = true := bne_iff_ne.mpr c46
                                        obtain rfl := Option.some.inj H
                                        have p183 : 0 ≤ (x74_3 : Int) := of_decide_eq_true (by first | (with_reducible assumption) | assumption)
                                        have q183 : x74_3 < (l0.length : Int) := of_decide_eq_true (by first | (with_reducible assumption) | assumption)
                                        obtain ⟨ad183, e183, hx183_0⟩ := Kd.at_bool HR0.out x74_3 p183 q183
                                        (try rw [← Nbq41.out] at hx183_0)
                                        cases e183
                                        replace hx183_0 := (HB.out.cell (World.block_lt_of_cell? w _ hx183_0)).trans hx183_0
                                        replace p183 := eq_true p183
                                        replace q183 := eq_true q183
                                        go_wp2_with (first | ((with_reducible refine gate_callee (f := 19) rfl ?_); refine goesL_ (some 82) rfl rfl Try.func19 (by kernel_rfl) rfl #[.int .i64 (l0.length : Int)] rfl (by (try simp only [List.map_toArray, List.map_cons, List.map_nil]); first | done | rfl | (simp only [List.length_drop, List.length_take]; rfl)) ?_; (with_reducible refine (shuffle_Count.calls k3 (l0.length : Int) t184 _ A43.out).mono ?_); rintro e w' ⟨rfl, ⟨nd, rfl⟩⟩; refine ⟨_, rfl, ?_⟩; obtain ⟨Ao48, co48, eo48⟩ := Kd.R_slice HO_6.out; subst eo48; have p185 : 0 ≤ (x74_3 : Int) := of_decide_eq_true (by first | (with_reducible assumption) | assumption); have q185 : x74_3 < (x6_2.length : Int) := of_decide_eq_true (by first | (with_reducible assumption) | assumption); obtain ⟨ad185, e185, hx185_0⟩ := Kd.at_int (Kd.R_reads' HO_6.out).2.2 x74_3 p185 q185; cases e185; replace p185 := eq_true p185; replace q185 := eq_true q185))
                                        go_ret
                                        exact ⟨by first | rfl | (simp [errW_none, errW_some] <;> rfl) | (simp [*, errW_none, errW_some] <;> rfl), by repeat (first | (with_reducible first | exact HB.out | apply below_alloc | apply pw_below_drewN | apply below_drew1) | exact HB.out)⟩
                                    · rw [if_neg c45] at H
                                      exact absurd H (by simp)
                                · replace c42 := Bool.eq_false_iff.mpr c42
                                  subst c42
                                  have H1 : (if x74_3 < (x6_2.length : Int) then (if (rd x6_2 x74_3) = 0 then (handofflaw02_ShuffleFair.l2 k3 l0 x3_1 x6_2 l0 (l0.length : Int) (wrap64 (x74_3 + 1))) else (some false)) else (none)) = some r := by rw [if_neg (show ¬ (false = true) by decide)] at H; exact H
                                  clear H
                                  have H := H1
                                  clear H1
                                  by_cases c49 : x74_3 < (x6_2.length : Int)
                                  · rw [if_pos c49] at H
                                    have c49b0 : decide (x74_3 < (x6_2.length : Int)) = true := decide_eq_true c49
                                    clear c49
                                    by_cases c50 : (rd x6_2 x74_3) = 0
                                    · rw [if_pos c50] at H
                                      have c50b0 : ((rd x6_2 x74_3) == 0) = true := beq_iff_eq.mpr c50
                                      have c50b1 : ((rd x6_2 x74_3) != 0) = false := bne_eq_false_iff_eq.mpr c50
                                      clear c50
                                      have H' := Aside0.mk H
                                      clear H
                                      have p183 : 0 ≤ (x74_3 : Int) := of_decide_eq_true (by first | (with_reducible assumption) | assumption)
                                      have q183 : x74_3 < (l0.length : Int) := of_decide_eq_true (by first | (with_reducible assumption) | assumption)
                                      obtain ⟨ad183, e183, hx183_0⟩ := Kd.at_bool HR0.out x74_3 p183 q183
                                      (try rw [← Nbq41.out] at hx183_0)
                                      cases e183
                                      replace hx183_0 := (HB.out.cell (World.block_lt_of_cell? w _ hx183_0)).trans hx183_0
                                      replace p183 := eq_true p183
                                      replace q183 := eq_true q183
                                      obtain ⟨Ao51, co51, eo51⟩ := Kd.R_slice HO_6.out
                                      subst eo51
                                      have p186 : 0 ≤ (x74_3 : Int) := of_decide_eq_true (by first | (with_reducible assumption) | assumption)
                                      have q186 : x74_3 < (x6_2.length : Int) := of_decide_eq_true (by first | (with_reducible assumption) | assumption)
                                      obtain ⟨ad186, e186, hx186_0⟩ := Kd.at_int (Kd.R_reads' HO_6.out).2.2 x74_3 p186 q186
                                      cases e186
                                      replace p186 := eq_true p186
                                      replace q186 := eq_true q186
                                      go_wp2
                                      go_roundg k3
                                      case measure => have := HK1.out; have := HK2.out; have := HK3.out; omega
                                      case rel => exact ⟨(wrap64 (x74_3 + 1)), (by first | rfl | (simp; done) | (simp [*]; done)), H', ⟨by have := HK1.out; have := HK2.out; have := HK3.out; omega⟩, ⟨by (with_reducible repeat (first | apply Kd.R_alloc | apply Kd.R_drewN | apply Kd.R_drew)); exact HO_6.out⟩, ⟨by repeat (first | (with_reducible first | exact HB.out | apply below_alloc | apply pw_below_drewN | apply below_drew1) | exact HB.out)⟩⟩
                                    · rw [if_neg c50] at H
                                      have c50b0 : ((rd x6_2 x74_3) == 0) = false := beq_eq_false_iff_ne.mpr c50
                                      have c50b1 : ((rd x6_2 x74_3) != 0) = true := bne_iff_ne.mpr c50
                                      obtain rfl := Option.some.inj H
                                      have p183 : 0 ≤ (x74_3 : Int) := of_decide_eq_true (by first | (with_reducible assumption) | assumption)
                                      have q183 : x74_3 < (l0.length : Int) := of_decide_eq_true (by first | (with_reducible assumption) | assumption)
                                      obtain ⟨ad183, e183, hx183_0⟩ := Kd.at_bool HR0.out x74_3 p183 q183
                                      (try rw [← Nbq41.out] at hx183_0)
                                      cases e183
                                      replace hx183_0 := (HB.out.cell (World.block_lt_of_cell? w _ hx183_0)).trans hx183_0
                                      replace p183 := eq_true p183
                                      replace q183 := eq_true q183
                                      obtain ⟨Ao52, co52, eo52⟩ := Kd.R_slice HO_6.out
                                      subst eo52
                                      have p186 : 0 ≤ (x74_3 : Int) := of_decide_eq_true (by first | (with_reducible assumption) | assumption)
                                      have q186 : x74_3 < (x6_2.length : Int) := of_decide_eq_true (by first | (with_reducible assumption) | assumption)
                                      obtain ⟨ad186, e186, hx186_0⟩ := Kd.at_int (Kd.R_reads' HO_6.out).2.2 x74_3 p186 q186
                                      cases e186
                                      replace p186 := eq_true p186
                                      replace q186 := eq_true q186
                                      go_wp2
                                      go_ret
                                      exact ⟨by first | rfl | (simp [errW_none, errW_some] <;> rfl) | (simp [*, errW_none, errW_some] <;> rfl), by repeat (first | (with_reducible first | exact HB.out | apply below_alloc | apply pw_below_drewN | apply below_drew1) | exact HB.out)⟩
                                  · rw [if_neg c49] at H
                                    exact absurd H (by simp)
                              · rw [if_neg c40] at H
                                exact absurd H (by simp)
                            · rw [if_neg c39] at H
                              exact absurd H (by simp)
                          · rw [if_neg c38] at H
                            have c38b0 : decide (x74_3 < (l0.length : Int)) = false := decide_eq_false c38
                            clear c38
                            obtain rfl := Option.some.inj H
                            go_wp2
                            go_ret
                            exact ⟨by first | rfl | (simp [errW_none, errW_some] <;> rfl) | (simp [*, errW_none, errW_some] <;> rfl), by repeat (first | (with_reducible first | exact HB.out | apply below_alloc | apply pw_below_drewN | apply below_drew1) | exact HB.out)⟩
              · rw [if_neg c13] at H
                exact absurd H (by simp)
            · rw [if_neg c12] at H
              exact absurd H (by simp)
  · replace c3 := Bool.eq_false_iff.mpr c3
    subst c3
    have H1 : (some false) = some r := by rw [if_neg (show ¬ (false = true) by decide)] at H; exact H
    clear H
    have H := H1
    clear H1
    obtain rfl := Option.some.inj H
    go_enter Try.func5, Try.ntmps5
    go_wp2_with (first | ((with_reducible refine gate_callee (f := 15) rfl ?_); refine goesL_ (some 14) rfl rfl Try.func15 (by kernel_rfl) rfl #[] rfl (by (try simp only [List.map_toArray, List.map_cons, List.map_nil]); first | done | rfl | (simp only [List.length_drop, List.length_take]; rfl)) ?_; (with_reducible refine (handofflaw02_shuffleAlive.calls k  false _ A2.out).mono ?_); rintro e w53 ⟨rfl, hb⟩; refine ⟨_, rfl, ?_⟩; have n0_ := Aside0.mk (below_step (by repeat (first | (with_reducible first | exact HB.out | apply below_alloc | apply pw_below_drewN | apply below_drew1) | exact HB.out)) hb); clear HB; have HB := n0_; clear n0_; (try clear hb); (try clear hb2); (try clear hk); (try clear hi)))
    go_ret
    exact ⟨by first | rfl | (simp [errW_none, errW_some] <;> rfl) | (simp [*, errW_none, errW_some] <;> rfl), by repeat (first | (with_reducible first | exact HB.out | apply below_alloc | apply pw_below_drewN | apply below_drew1) | exact HB.out)⟩

end Go.Proofs.Ytifajoehlgdgaaa.PShA
