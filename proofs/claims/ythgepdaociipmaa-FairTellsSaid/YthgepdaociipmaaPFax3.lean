-- Out of the translation, by a program of this session.
import Derived.Test.YthgepdaociipmaaPFax0
import Derived.Test.YthgepdaociipmaaPFax2
namespace Go.Proofs.Ythgepdaociipmaa.PFa
open Go.RowKit Go.Proofs.YthgepdaociipmaaW.PrintWords Go.Proofs.YthgepdaociipmaaW.PrintLast Go.Proofs.YthgepdaociipmaaW.PrintMore
attribute [local go_sem] max2_int min2_int max_two min_two max_three min_three max_four min_four   -- for this text's walks alone
set_option linter.unusedVariables false
set_option linter.unusedSimpArgs false

/-! ### handoffref23_Fair: function 13 -/
mutual
def handoffref23_Fair.l0 : Nat → List (S29) → Int → Int → Option (Bool)
  | 0, _, _, _ => none
  | k + 1, x0, x1, x5 => if (wrap64 (x5 + x1)) ≤ (x0.length : Int) then (if 0 ≤ x5 then (if x5 < (x0.length : Int) then (handoffref23_Fair.l1 k x0 x1 x5 ((rd_T29 x0 x5).f1) (((rd_T29 x0 x5).f1).length : Int) 0) else (none)) else (none)) else (some true)
def handoffref23_Fair.l1 : Nat → List (S29) → Int → Int → List Int → Int → Int → Option (Bool)
  | 0, _, _, _, _, _, _ => none
  | k + 1, x0, x1, x5, x25, x26, x27 => if x27 < x26 then (if 0 ≤ x27 then (if x27 < (x25.length : Int) then (if 0 ≤ x5 then (if x5 ≤ (wrap64 (x5 + x1)) then (if (wrap64 (x5 + x1)) ≤ (x0.length : Int) then ((handoffref23_starves.f k ((x0.take ((wrap64 (x5 + x1)) : Int).toNat).drop (x5 : Int).toNat) (rd x25 x27)).bind fun t131 => (if t131 = true then (some false) else (handoffref23_Fair.l1 k x0 x1 x5 x25 x26 (wrap64 (x27 + 1))))) else (none)) else (none)) else (none)) else (none)) else (none)) else (handoffref23_Fair.l0 k x0 x1 (wrap64 (x5 + 1)))
end
def handoffref23_Fair.f (k : Nat) (l0 : List (S29)) (a1 : Int) : Option (Bool) := if a1 < 1 then (some ((l0.length : Int) == 0)) else (handoffref23_Fair.l0 k l0 a1 0)
theorem handoffref23_Fair.mono_l : ∀ k, (∀ y0 y1 y2, LeO (handoffref23_Fair.l0 k y0 y1 y2) (handoffref23_Fair.l0 (k + 1) y0 y1 y2)) ∧ (∀ y0 y1 y2 y3 y4 y5, LeO (handoffref23_Fair.l1 k y0 y1 y2 y3 y4 y5) (handoffref23_Fair.l1 (k + 1) y0 y1 y2 y3 y4 y5))
  | 0 => ⟨fun _ _ _ r h => by simp [handoffref23_Fair.l0] at h, fun _ _ _ _ _ _ r h => by simp [handoffref23_Fair.l1] at h⟩
  | k + 1 => by
    obtain ⟨ih0, ih1⟩ := handoffref23_Fair.mono_l k
    refine ⟨?_, ?_⟩
    · intro y0 y1 y2
      unfold handoffref23_Fair.l0
      repeat' first
      | (with_reducible exact ih0 _ _ _)
      | (with_reducible exact ih1 _ _ _ _ _ _)
      | (with_reducible exact handoffref23_starves.mono _ _ _)
      | (with_reducible exact LeO.refl _)
      | (with_reducible exact LeO.none _)
      | (with_reducible refine LeO.ite ?_ ?_)
      | (with_reducible refine LeO.bind ?_ (fun _ => ?_))
      | exact ih0 _ _ _
      | exact ih1 _ _ _ _ _ _
      | exact handoffref23_starves.mono _ _ _
      | exact LeO.none _
      | refine LeO.ite ?_ ?_
      | refine LeO.bind ?_ (fun _ => ?_)
    · intro y0 y1 y2 y3 y4 y5
      unfold handoffref23_Fair.l1
      repeat' first
      | (with_reducible exact ih0 _ _ _)
      | (with_reducible exact ih1 _ _ _ _ _ _)
      | (with_reducible exact handoffref23_starves.mono _ _ _)
      | (with_reducible exact LeO.refl _)
      | (with_reducible exact LeO.none _)
      | (with_reducible refine LeO.ite ?_ ?_)
      | (with_reducible refine LeO.bind ?_ (fun _ => ?_))
      | exact ih0 _ _ _
      | exact ih1 _ _ _ _ _ _
      | exact handoffref23_starves.mono _ _ _
      | exact LeO.none _
      | refine LeO.ite ?_ ?_
      | refine LeO.bind ?_ (fun _ => ?_)
theorem handoffref23_Fair.mono : ∀ a0 a1 k, LeO (handoffref23_Fair.f k a0 a1) (handoffref23_Fair.f (k + 1) a0 a1) := by
  intro a0 a1 k
  obtain ⟨ih0, ih1⟩ := handoffref23_Fair.mono_l k
  unfold handoffref23_Fair.f
  repeat' first
      | (with_reducible exact ih0 _ _ _)
      | (with_reducible exact ih1 _ _ _ _ _ _)
      | (with_reducible exact handoffref23_starves.mono _ _ _)
      | (with_reducible exact LeO.refl _)
      | (with_reducible exact LeO.none _)
      | (with_reducible refine LeO.ite ?_ ?_)
      | (with_reducible refine LeO.bind ?_ (fun _ => ?_))
      | exact ih0 _ _ _
      | exact ih1 _ _ _ _ _ _
      | exact handoffref23_starves.mono _ _ _
      | exact LeO.none _
      | refine LeO.ite ?_ ?_
      | refine LeO.bind ?_ (fun _ => ?_)
set_option maxHeartbeats 8000000 in
set_option maxRecDepth 100000 in
theorem handoffref23_Fair.calls (k : Nat) (A0 : Option Addr) (c0 : Nat) (l0 : List (S29)) (a1 : Int) (r : Bool) (w : World) (hr0 : Kd.C k29 w A0 l0.length l0) (hc0 : l0.length ≤ c0) (h : handoffref23_Fair.f k l0 a1 = some r) :
    Calls Try.prog 13 #[.slice A0 l0.length c0, .int .i64 a1] w fun e w' => e = .returned (.bool r) ∧ Below w.heap.size w w' := by
  have HR0 := Aside0.mk hr0
  have HC0 := Aside0.mk hc0
  clear hr0 hc0
  have HB := Aside0.mk (Below.refl w.heap.size w)
  have H : (if a1 < 1 then (some ((l0.length : Int) == 0)) else (handoffref23_Fair.l0 k l0 a1 0)) = some r := h
  clear h
  by_cases c3 : a1 < 1
  · rw [if_pos c3] at H
    have c3b0 : decide (a1 < 1) = true := decide_eq_true c3
    clear c3
    obtain rfl := Option.some.inj H
    go_enter Try.func13, Try.ntmps13
    go_wp2
    go_ret
    exact ⟨by first | rfl | (simp [errW_none, errW_some] <;> rfl) | (simp [*, errW_none, errW_some] <;> rfl), by repeat (first | (with_reducible first | exact HB.out | apply below_alloc | apply pw_below_drewN | apply below_drew1) | exact HB.out)⟩
  · rw [if_neg c3] at H
    have c3b0 : decide (a1 < 1) = false := decide_eq_false c3
    clear c3
    have H' := Aside0.mk H
    clear H
    go_enter Try.func13, Try.ntmps13
    go_wp2
    go_loopg [5] k (fun kq v5 w' => ∃ (x5_1 : Int), v5 = .int .i64 x5_1 ∧ Aside0 (handoffref23_Fair.l0 kq l0 a1 x5_1 = some r) ∧ Aside0 (kq ≤ k) ∧ Aside0 (Below w.heap.size w w'))
    case atStart => exact ⟨(0), (by first | rfl | (simp; done) | (simp [*]; done)), H', ⟨Nat.le_refl _⟩, ⟨by repeat (first | (with_reducible first | exact HB.out | apply below_alloc | apply pw_below_drewN | apply below_drew1) | exact HB.out)⟩⟩
    case round =>
      clear H'
      try clear c1
      try clear p2
      try clear c3
      try clear c3b0
      obtain ⟨x5_1, rfl, HA, HK1, HB⟩ := hrel
      cases gk with
      | zero => exact absurd HA.out (by simp [handoffref23_Fair.l0])
      | succ k1 =>
        have H := HA.out
        clear HA
        simp only [handoffref23_Fair.l0] at H
        by_cases c4 : (wrap64 (x5_1 + a1)) ≤ (l0.length : Int)
        · rw [if_pos c4] at H
          have c4b0 : decide ((wrap64 (x5_1 + a1)) ≤ (l0.length : Int)) = true := decide_eq_true c4
          clear c4
          by_cases c5 : 0 ≤ x5_1
          · rw [if_pos c5] at H
            have c5b0 : decide (0 ≤ x5_1) = true := decide_eq_true c5
            clear c5
            by_cases c6 : x5_1 < (l0.length : Int)
            · rw [if_pos c6] at H
              have c6b0 : decide (x5_1 < (l0.length : Int)) = true := decide_eq_true c6
              clear c6
              have H' := Aside0.mk H
              clear H
              have p125 : 0 ≤ (x5_1 : Int) := of_decide_eq_true (by first | (with_reducible assumption) | assumption)
              have q125 : x5_1 < (l0.length : Int) := of_decide_eq_true (by first | (with_reducible assumption) | assumption)
              obtain ⟨ad125, A125_1, c125_1, e125, hx125_0, hx125_1, hl125_1, hi125_1⟩ := at_T29 HR0.out x5_1 p125 q125
              cases e125
              replace hx125_0 := (HB.out.cell (World.block_lt_of_cell? w _ hx125_0)).trans hx125_0
              replace hx125_1 := (HB.out.cell (World.block_lt_of_cell? w _ hx125_1)).trans hx125_1
              have HR125_1 := Aside0.mk hi125_1
              have HC125_1 := Aside0.mk hl125_1
              clear hi125_1 hl125_1
              replace p125 := eq_true p125
              replace q125 := eq_true q125
              go_wp2
              go_loopg [27] k1 (fun kq v27 w' => ∃ (x27_2 : Int), v27 = .int .i64 x27_2 ∧ Aside0 (handoffref23_Fair.l1 kq l0 a1 x5_1 ((rd_T29 l0 x5_1).f1) (((rd_T29 l0 x5_1).f1).length : Int) x27_2 = some r) ∧ Aside0 (kq ≤ k1) ∧ Aside0 (Below w.heap.size w w'))
              case atStart => exact ⟨(0), (by first | rfl | (simp; done) | (simp [*]; done)), H', ⟨Nat.le_refl _⟩, ⟨by repeat (first | (with_reducible first | exact HB.out | apply below_alloc | apply pw_below_drewN | apply below_drew1) | exact HB.out)⟩⟩
              case round =>
                clear H'
                try clear c1
                try clear p1
                try clear q1
                try clear hx1
                try clear p2
                try clear c3
                try clear c3b0
                try clear c4
                try clear c4b0
                try clear c5
                try clear c5b0
                try clear c6
                try clear c6b0
                try clear p6
                try clear hx125_0
                try clear hx125_1
                try clear p125
                try clear p2
                try clear q125
                obtain ⟨x27_2, rfl, HA, HK2, HB⟩ := hrel
                cases gk with
                | zero => exact absurd HA.out (by simp [handoffref23_Fair.l1])
                | succ k2 =>
                  have H := HA.out
                  clear HA
                  simp only [handoffref23_Fair.l1] at H
                  by_cases c7 : x27_2 < (((rd_T29 l0 x5_1).f1).length : Int)
                  · rw [if_pos c7] at H
                    have c7b0 : decide (x27_2 < (((rd_T29 l0 x5_1).f1).length : Int)) = true := decide_eq_true c7
                    clear c7
                    by_cases c8 : 0 ≤ x27_2
                    · rw [if_pos c8] at H
                      have c8b0 : decide (0 ≤ x27_2) = true := decide_eq_true c8
                      clear c8
                      by_cases c9 : x27_2 < (((rd_T29 l0 x5_1).f1).length : Int)
                      · rw [if_pos c9] at H
                        have c9b0 : decide (x27_2 < (((rd_T29 l0 x5_1).f1).length : Int)) = true := decide_eq_true c9
                        clear c9
                        by_cases c10 : 0 ≤ x5_1
                        · rw [if_pos c10] at H
                          have c10b0 := eq_true c10
                          have c10b1 : decide (0 ≤ x5_1) = true := decide_eq_true c10
                          clear c10
                          by_cases c11 : x5_1 ≤ (wrap64 (x5_1 + a1))
                          · rw [if_pos c11] at H
                            have c11b0 := eq_true c11
                            have c11b1 : decide (x5_1 ≤ (wrap64 (x5_1 + a1))) = true := decide_eq_true c11
                            by_cases c12 : (wrap64 (x5_1 + a1)) ≤ (l0.length : Int)
                            · rw [if_pos c12] at H
                              have c12b0 := eq_true c12
                              have c12b1 : decide ((wrap64 (x5_1 + a1)) ≤ (l0.length : Int)) = true := decide_eq_true c12
                              obtain ⟨y127, hy127⟩ : ∃ y_ : List (S29), y_ = ((l0.take ((wrap64 (x5_1 + a1)) : Int).toNat).drop (x5_1 : Int).toNat) := ⟨_, rfl⟩
                              replace H : ((handoffref23_starves.f k2 y127 (rd ((rd_T29 l0 x5_1).f1) x27_2)).bind fun t131 => (if t131 = true then (some false) else (handoffref23_Fair.l1 k2 l0 a1 x5_1 ((rd_T29 l0 x5_1).f1) (((rd_T29 l0 x5_1).f1).length : Int) (wrap64 (x27_2 + 1))))) = some r := by first | (rw [hy127]; with_reducible exact H) | (have H2_ := (Option.bind_some _ _).symm.trans H; rw [hy127]; with_reducible exact H2_) | (have H2_ := (Option.bind_some _ _).symm.trans H; with_reducible exact H2_) | with_reducible exact H | (rw [hy127]; exact H) | exact H
                              have Ny127 := Aside0.mk hy127
                              clear hy127
                              replace H := Option.bind_eq_some_iff.mp H
                              obtain ⟨t131, A130, H⟩ := H
                              replace H : (if t131 = true then (some false) else (handoffref23_Fair.l1 k2 l0 a1 x5_1 ((rd_T29 l0 x5_1).f1) (((rd_T29 l0 x5_1).f1).length : Int) (wrap64 (x27_2 + 1)))) = some r := H
                              have A13 := Aside0.mk A130
                              clear A130
                              by_cases c14 : t131 = true
                              · subst c14
                                have H1 : (some false) = some r := by rw [if_pos rfl] at H; exact H
                                clear H
                                have H := H1
                                clear H1
                                obtain rfl := Option.some.inj H
                                have p126 : 0 ≤ (x27_2 : Int) := of_decide_eq_true (by first | (with_reducible assumption) | assumption)
                                have q126 : x27_2 < (((rd_T29 l0 x5_1).f1).length : Int) := of_decide_eq_true (by first | (with_reducible assumption) | assumption)
                                obtain ⟨ad126, e126, hx126_0⟩ := Kd.at_int HR125_1.out x27_2 p126 q126
                                cases e126
                                replace hx126_0 := (HB.out.cell (World.block_lt_of_cell? w _ hx126_0)).trans hx126_0
                                replace p126 := eq_true p126
                                replace q126 := eq_true q126
                                have q15 : ((wrap64 (x5_1 + a1)) : Int) ≤ ((l0.length : Int) : Int) := of_decide_eq_true (by first | (with_reducible assumption) | assumption)
                                obtain ⟨i015, hi015, _, hsz15, _⟩ := info_parts info29
                                have hroom15 : l0.length ≤ c0 := HC0.out
                                have hC15 : Kd.C k29 _ (some ad125) l0.length l0 := HR0.out
                                have ql15 : (x5_1 : Int) ≤ ((wrap64 (x5_1 + a1)) : Int) := of_decide_eq_true (by first | (with_reducible assumption) | assumption)
                                have q015 : (0 : Int) ≤ (x5_1 : Int) := of_decide_eq_true (by first | (with_reducible assumption) | assumption)
                                have hcut15 := cut_mid (P := Try.prog) 23 29 .i64 .i64 Try.underlying23 hi015 2 hsz15 (some ad125) l0.length c0 x5_1 (wrap64 (x5_1 + a1)) q015 ql15 q15 hroom15
                                have hr15 := Kd.C_mid (lo := (x5_1 : Int).toNat) (hi := ((wrap64 (x5_1 + a1)) : Int).toNat) (c := c0) hC15 (by omega) (by omega) hroom15
                                obtain ⟨A15, hA15⟩ : ∃ A1, A1 = (if c0 = (x5_1 : Int).toNat then (some ad125) else ((some ad125) : Option Addr).map (·.add ((x5_1 : Int).toNat * 2))) := ⟨_, rfl⟩
                                obtain ⟨c15, hc15⟩ : ∃ c1, c1 = c0 - (x5_1 : Int).toNat := ⟨_, rfl⟩
                                have hy15 : y127.length = ((wrap64 (x5_1 + a1)) : Int).toNat - (x5_1 : Int).toNat := (by rw [Ny127.out, List.length_drop, List.length_take] <;> omega)
                                rw [show ((l0).take ((wrap64 (x5_1 + a1)) : Int).toNat).drop (x5_1 : Int).toNat = y127 from Ny127.out.symm] at hr15
                                replace hr15 : Kd.C k29 _ A15 y127.length y127 := (by rw [hA15]; exact hr15)
                                rw [← hy15, ← hA15, ← hc15] at hcut15
                                have HR130 := Aside0.mk hr15
                                have HC130 := Aside0.mk (show y127.length ≤ c15 from by rw [hy15, hc15]; exact Nat.sub_le_sub_right (Nat.le_trans (by omega) hroom15) _)
                                clear hr15 hC15 hroom15 hi015 hsz15 hc15
                                have KY15 := Aside0.mk hy15
                                have KA15 := Aside0.mk hA15
                                clear hy15 hA15
                                replace q15 := eq_true q15
                                go_wp2_with (first | ((with_reducible refine gate_callee (f := 27) rfl ?_); refine goesL_ (some 38) rfl rfl Try.func27 (by kernel_rfl) rfl #[.slice A15 y127.length c15, .int .i64 (rd ((rd_T29 l0 x5_1).f1) x27_2)] rfl (by (try simp only [List.map_toArray, List.map_cons, List.map_nil]); first | done | rfl | (simp only [List.length_drop, List.length_take]; rfl)) ?_; (with_reducible refine (handoffref23_starves.calls k2 _ _ y127 (rd ((rd_T29 l0 x5_1).f1) x27_2) true _ ?side1 ?side2 A13.out).mono ?_); (case side1 => repeat (first | exact (Kd.C_below HR130.out HB.out) | (with_reducible refine Kd.C_alloc ?_ _) | (with_reducible refine Kd.C_drewN ?_ _) | (with_reducible refine Kd.C_drew ?_))); (case side2 => exact HC130.out); rintro e w16 ⟨rfl, hb⟩; refine ⟨_, rfl, ?_⟩; have n0_ := Aside0.mk (below_step (by repeat (first | (with_reducible first | exact HB.out | apply below_alloc | apply pw_below_drewN | apply below_drew1) | exact HB.out)) hb); clear HB; have HB := n0_; clear n0_; (try clear hb); (try clear hb2); (try clear hk); (try clear hi)))
                                go_ret
                                exact ⟨by first | rfl | (simp [errW_none, errW_some] <;> rfl) | (simp [*, errW_none, errW_some] <;> rfl), by repeat (first | (with_reducible first | exact HB.out | apply below_alloc | apply pw_below_drewN | apply below_drew1) | exact HB.out)⟩
                              · replace c14 := Bool.eq_false_iff.mpr c14
                                subst c14
                                have H1 : (handoffref23_Fair.l1 k2 l0 a1 x5_1 ((rd_T29 l0 x5_1).f1) (((rd_T29 l0 x5_1).f1).length : Int) (wrap64 (x27_2 + 1))) = some r := by rw [if_neg (show ¬ (false = true) by decide)] at H; exact H
                                clear H
                                have H := H1
                                clear H1
                                have H' := Aside0.mk H
                                clear H
                                have p126 : 0 ≤ (x27_2 : Int) := of_decide_eq_true (by first | (with_reducible assumption) | assumption)
                                have q126 : x27_2 < (((rd_T29 l0 x5_1).f1).length : Int) := of_decide_eq_true (by first | (with_reducible assumption) | assumption)
                                obtain ⟨ad126, e126, hx126_0⟩ := Kd.at_int HR125_1.out x27_2 p126 q126
                                cases e126
                                replace hx126_0 := (HB.out.cell (World.block_lt_of_cell? w _ hx126_0)).trans hx126_0
                                replace p126 := eq_true p126
                                replace q126 := eq_true q126
                                have q17 : ((wrap64 (x5_1 + a1)) : Int) ≤ ((l0.length : Int) : Int) := of_decide_eq_true (by first | (with_reducible assumption) | assumption)
                                obtain ⟨i017, hi017, _, hsz17, _⟩ := info_parts info29
                                have hroom17 : l0.length ≤ c0 := HC0.out
                                have hC17 : Kd.C k29 _ (some ad125) l0.length l0 := HR0.out
                                have ql17 : (x5_1 : Int) ≤ ((wrap64 (x5_1 + a1)) : Int) := of_decide_eq_true (by first | (with_reducible assumption) | assumption)
                                have q017 : (0 : Int) ≤ (x5_1 : Int) := of_decide_eq_true (by first | (with_reducible assumption) | assumption)
                                have hcut17 := cut_mid (P := Try.prog) 23 29 .i64 .i64 Try.underlying23 hi017 2 hsz17 (some ad125) l0.length c0 x5_1 (wrap64 (x5_1 + a1)) q017 ql17 q17 hroom17
                                have hr17 := Kd.C_mid (lo := (x5_1 : Int).toNat) (hi := ((wrap64 (x5_1 + a1)) : Int).toNat) (c := c0) hC17 (by omega) (by omega) hroom17
                                obtain ⟨A17, hA17⟩ : ∃ A1, A1 = (if c0 = (x5_1 : Int).toNat then (some ad125) else ((some ad125) : Option Addr).map (·.add ((x5_1 : Int).toNat * 2))) := ⟨_, rfl⟩
                                obtain ⟨c17, hc17⟩ : ∃ c1, c1 = c0 - (x5_1 : Int).toNat := ⟨_, rfl⟩
                                have hy17 : y127.length = ((wrap64 (x5_1 + a1)) : Int).toNat - (x5_1 : Int).toNat := (by rw [Ny127.out, List.length_drop, List.length_take] <;> omega)
                                rw [show ((l0).take ((wrap64 (x5_1 + a1)) : Int).toNat).drop (x5_1 : Int).toNat = y127 from Ny127.out.symm] at hr17
                                replace hr17 : Kd.C k29 _ A17 y127.length y127 := (by rw [hA17]; exact hr17)
                                rw [← hy17, ← hA17, ← hc17] at hcut17
                                have HR130 := Aside0.mk hr17
                                have HC130 := Aside0.mk (show y127.length ≤ c17 from by rw [hy17, hc17]; exact Nat.sub_le_sub_right (Nat.le_trans (by omega) hroom17) _)
                                clear hr17 hC17 hroom17 hi017 hsz17 hc17
                                have KY17 := Aside0.mk hy17
                                have KA17 := Aside0.mk hA17
                                clear hy17 hA17
                                replace q17 := eq_true q17
                                go_wp2_with (first | ((with_reducible refine gate_callee (f := 27) rfl ?_); refine goesL_ (some 38) rfl rfl Try.func27 (by kernel_rfl) rfl #[.slice A17 y127.length c17, .int .i64 (rd ((rd_T29 l0 x5_1).f1) x27_2)] rfl (by (try simp only [List.map_toArray, List.map_cons, List.map_nil]); first | done | rfl | (simp only [List.length_drop, List.length_take]; rfl)) ?_; (with_reducible refine (handoffref23_starves.calls k2 _ _ y127 (rd ((rd_T29 l0 x5_1).f1) x27_2) false _ ?side1 ?side2 A13.out).mono ?_); (case side1 => repeat (first | exact (Kd.C_below HR130.out HB.out) | (with_reducible refine Kd.C_alloc ?_ _) | (with_reducible refine Kd.C_drewN ?_ _) | (with_reducible refine Kd.C_drew ?_))); (case side2 => exact HC130.out); rintro e w18 ⟨rfl, hb⟩; refine ⟨_, rfl, ?_⟩; have n0_ := Aside0.mk (below_step (by repeat (first | (with_reducible first | exact HB.out | apply below_alloc | apply pw_below_drewN | apply below_drew1) | exact HB.out)) hb); clear HB; have HB := n0_; clear n0_; (try clear hb); (try clear hb2); (try clear hk); (try clear hi)))
                                go_roundg k2
                                case measure => have := HK1.out; have := HK2.out; omega
                                case rel => exact ⟨(wrap64 (x27_2 + 1)), (by first | rfl | (simp; done) | (simp [*]; done)), H', ⟨by have := HK1.out; have := HK2.out; omega⟩, ⟨by repeat (first | (with_reducible first | exact HB.out | apply below_alloc | apply pw_below_drewN | apply below_drew1) | exact HB.out)⟩⟩
                            · rw [if_neg c12] at H
                              exact absurd H (by simp)
                          · rw [if_neg c11] at H
                            exact absurd H (by simp)
                        · rw [if_neg c10] at H
                          exact absurd H (by simp)
                      · rw [if_neg c9] at H
                        exact absurd H (by simp)
                    · rw [if_neg c8] at H
                      exact absurd H (by simp)
                  · rw [if_neg c7] at H
                    have c7b0 : decide (x27_2 < (((rd_T29 l0 x5_1).f1).length : Int)) = false := decide_eq_false c7
                    clear c7
                    have H' := Aside0.mk H
                    clear H
                    go_wp2
                    go_roundg k2
                    case measure => have := HK1.out; have := HK2.out; omega
                    case rel => exact ⟨(wrap64 (x5_1 + 1)), (by first | rfl | (simp; done) | (simp [*]; done)), H', ⟨by have := HK1.out; have := HK2.out; omega⟩, ⟨by repeat (first | (with_reducible first | exact HB.out | apply below_alloc | apply pw_below_drewN | apply below_drew1) | exact HB.out)⟩⟩
            · rw [if_neg c6] at H
              exact absurd H (by simp)
          · rw [if_neg c5] at H
            exact absurd H (by simp)
        · rw [if_neg c4] at H
          have c4b0 : decide ((wrap64 (x5_1 + a1)) ≤ (l0.length : Int)) = false := decide_eq_false c4
          clear c4
          obtain rfl := Option.some.inj H
          go_wp2
          go_ret
          exact ⟨by first | rfl | (simp [errW_none, errW_some] <;> rfl) | (simp [*, errW_none, errW_some] <;> rfl), by repeat (first | (with_reducible first | exact HB.out | apply below_alloc | apply pw_below_drewN | apply below_drew1) | exact HB.out)⟩

-- NOT PRINTED: function 3 (handofflaw23_FairTells)

end Go.Proofs.Ythgepdaociipmaa.PFa
