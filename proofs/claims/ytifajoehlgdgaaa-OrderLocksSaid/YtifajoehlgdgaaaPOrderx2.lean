-- Out of the translation, by a program of this session.
import Derived.Test.YtifajoehlgdgaaaPOrderx0
import Derived.Test.YtifajoehlgdgaaaPOrderx1
namespace Go.Proofs.Ytifajoehlgdgaaa.POrder
open Go.RowKit Go.Proofs.YtifajoehlgdgaaaW.PrintWords Go.Proofs.YtifajoehlgdgaaaW.PrintLast Go.Proofs.YtifajoehlgdgaaaW.PrintMore
attribute [local go_sem] max2_int min2_int max_two min_two max_three min_three max_four min_four   -- for this text's walks alone
set_option linter.unusedVariables false
set_option linter.unusedSimpArgs false

/-! ### order_Locks: function 29 -/
def order_Locks.l0 : Nat → List Int → List Int → Int → Int → Option (List Int)
  | 0, _, _, _, _ => none
  | k + 1, x3, x7, x8, x9 => if x9 < x8 then (if 0 ≤ x9 then (if x9 < (x7.length : Int) then (if (rd x7 x9) > 0 then (if (x3.length : Int) = 0 then (if x3.length < 17592186044416 then (order_Locks.l0 k (x3 ++ [rd x7 x9]) x7 x8 (wrap64 (x9 + 1))) else (none)) else (if 0 ≤ (wrap64 ((x3.length : Int) - 1)) then (if (wrap64 ((x3.length : Int) - 1)) < (x3.length : Int) then (if (rd x3 (wrap64 ((x3.length : Int) - 1))) = (rd x7 x9) then (order_Locks.l0 k x3 x7 x8 (wrap64 (x9 + 1))) else (if x3.length < 17592186044416 then (order_Locks.l0 k (x3 ++ [rd x7 x9]) x7 x8 (wrap64 (x9 + 1))) else (none))) else (none)) else (none))) else (order_Locks.l0 k x3 x7 x8 (wrap64 (x9 + 1)))) else (none)) else (none)) else (some x3)
def order_Locks.f (k : Nat) (l0 : List Int) : Option (List Int) := (order_Sort.f k l0).bind fun t112 => (order_Locks.l0 k ([] : List Int) t112 (t112.length : Int) 0)
theorem order_Locks.mono_l : ∀ k, (∀ y0 y1 y2 y3, LeO (order_Locks.l0 k y0 y1 y2 y3) (order_Locks.l0 (k + 1) y0 y1 y2 y3))
  | 0 => fun _ _ _ _ r h => by simp [order_Locks.l0] at h
  | k + 1 => by
    have ih0 := order_Locks.mono_l k
    · intro y0 y1 y2 y3
      unfold order_Locks.l0
      repeat' first
      | (with_reducible exact ih0 _ _ _ _)
      | (with_reducible exact order_Sort.mono _ _)
      | (with_reducible exact LeO.refl _)
      | (with_reducible exact LeO.none _)
      | (with_reducible refine LeO.ite ?_ ?_)
      | (with_reducible refine LeO.bind ?_ (fun _ => ?_))
      | exact ih0 _ _ _ _
      | exact order_Sort.mono _ _
      | exact LeO.none _
      | refine LeO.ite ?_ ?_
      | refine LeO.bind ?_ (fun _ => ?_)
theorem order_Locks.mono : ∀ a0 k, LeO (order_Locks.f k a0) (order_Locks.f (k + 1) a0) := by
  intro a0 k
  have ih0 := order_Locks.mono_l k
  unfold order_Locks.f
  repeat' first
      | (with_reducible exact ih0 _ _ _ _)
      | (with_reducible exact order_Sort.mono _ _)
      | (with_reducible exact LeO.refl _)
      | (with_reducible exact LeO.none _)
      | (with_reducible refine LeO.ite ?_ ?_)
      | (with_reducible refine LeO.bind ?_ (fun _ => ?_))
      | exact ih0 _ _ _ _
      | exact order_Sort.mono _ _
      | exact LeO.none _
      | refine LeO.ite ?_ ?_
      | refine LeO.bind ?_ (fun _ => ?_)
set_option maxHeartbeats 8000000 in
set_option maxRecDepth 100000 in
theorem order_Locks.calls (k : Nat) (A0 : Option Addr) (c0 : Nat) (l0 : List Int) (r : List Int) (w : World) (hr0 : Kd.C (Kd.int .i64) w A0 l0.length l0) (hc0 : l0.length ≤ c0) (h : order_Locks.f k l0 = some r) :
    Calls Try.prog 29 #[.slice A0 l0.length c0] w fun e w' => ∃ v0_ : Value, e = .returned (v0_) ∧ Kd.R (Kd.int .i64) 3 w' w.heap.size (fun _ => True) v0_ r ∧ Below w.heap.size w w' := by
  have HR0 := Aside0.mk hr0
  have HC0 := Aside0.mk hc0
  clear hr0 hc0
  have HB := Aside0.mk (Below.refl w.heap.size w)
  have H : ((order_Sort.f k l0).bind fun t112 => (order_Locks.l0 k ([] : List Int) t112 (t112.length : Int) 0)) = some r := h
  clear h
  replace H := Option.bind_eq_some_iff.mp H
  obtain ⟨t112, A20, H⟩ := H
  replace H : (order_Locks.l0 k ([] : List Int) t112 (t112.length : Int) 0) = some r := H
  have A2 := Aside0.mk A20
  clear A20
  have H' := Aside0.mk H
  clear H
  go_enter Try.func29, Try.ntmps29
  go_wp2_with (first | ((with_reducible refine gate_callee (f := 32) rfl ?_); refine goesL_ (some 7) rfl rfl Try.func32 (by kernel_rfl) rfl #[.slice A0 l0.length c0] rfl (by (try simp only [List.map_toArray, List.map_cons, List.map_nil]); first | done | rfl | (simp only [List.length_drop, List.length_take]; rfl)) ?_; (with_reducible refine (order_Sort.calls k _ _ l0 t112 _ ?side1 ?side2 A2.out).mono ?_); (case side1 => repeat (first | exact HR0.out | (with_reducible refine Kd.C_alloc ?_ _) | (with_reducible refine Kd.C_drewN ?_ _) | (with_reducible refine Kd.C_drew ?_))); (case side2 => exact HC0.out); rintro e w3 ⟨v113, rfl, ho0, hb⟩; refine ⟨_, rfl, ?_⟩; have n0_ := Aside0.mk (Kd.R_lower ho0 (below_size (by repeat (first | (with_reducible first | exact HB.out | apply below_alloc | apply pw_below_drewN | apply below_drew1) | exact HB.out)))); have n1_ := Aside0.mk (below_step (by repeat (first | (with_reducible first | exact HB.out | apply below_alloc | apply pw_below_drewN | apply below_drew1) | exact HB.out)) hb); clear HB; have HO114 := n0_; have HB := n1_; clear n0_ n1_; (try clear hb); (try clear hb2); (try clear hk); (try clear hi); (try clear ho0); obtain ⟨Ao4, co4, eo4⟩ := Kd.R_slice HO114.out; subst eo4))
  go_loopg [3, 9] k (fun kq v3 v9 w' => ∃ (x3_1 : List Int) (x9_1 : Int), v9 = .int .i64 x9_1 ∧ Aside0 (order_Locks.l0 kq x3_1 t112 (t112.length : Int) x9_1 = some r) ∧ Aside0 (kq ≤ k) ∧ Aside0 (Kd.R (Kd.int .i64) 3 w' w.heap.size (fun k_ => some k_ ≠ ((.slice Ao4 t112.length co4) : Value).ownBlock) v3 x3_1) ∧ Aside0 (Kd.R (Kd.int .i64) 3 w' w.heap.size (fun k_ => some k_ ≠ (v3 : Value).ownBlock) (.slice Ao4 t112.length co4) t112) ∧ Aside0 (Below w.heap.size w w'))
  case atStart => exact ⟨(([] : List Int)), (0), (by first | rfl | (simp; done) | (simp [*]; done)), H', ⟨Nat.le_refl _⟩, ⟨by first | exact Kd.R_nil _ _ _ _ _ | exact Kd.N_nil _ _ _ _ _ | exact Kd.V_nil _ _ _ _ _ | exact Kd.Q_nil _ _ _ _ _ | exact Kd.S_nil _ _ _ _ _⟩, ⟨by (with_reducible repeat (first | apply Kd.R_alloc | apply Kd.R_drewN | apply Kd.R_drew)); exact Kd.R_mono HO114.out (fun _ hk => (by simp [Value.ownBlock]))⟩, ⟨by repeat (first | (with_reducible first | exact HB.out | apply below_alloc | apply pw_below_drewN | apply below_drew1) | exact HB.out)⟩⟩
  case round =>
    clear H'
    try clear c2
    try clear p2
    try clear c3
    obtain ⟨x3_1, x9_1, rfl, HA, HK1, HO_3, HO_7, HB⟩ := hrel
    cases gk with
    | zero => exact absurd HA.out (by simp [order_Locks.l0])
    | succ k1 =>
      have H := HA.out
      clear HA
      simp only [order_Locks.l0] at H
      by_cases c5 : x9_1 < (t112.length : Int)
      · rw [if_pos c5] at H
        have c5b0 : decide (x9_1 < (t112.length : Int)) = true := decide_eq_true c5
        clear c5
        by_cases c6 : 0 ≤ x9_1
        · rw [if_pos c6] at H
          have c6b0 : decide (0 ≤ x9_1) = true := decide_eq_true c6
          clear c6
          by_cases c7 : x9_1 < (t112.length : Int)
          · rw [if_pos c7] at H
            have c7b0 : decide (x9_1 < (t112.length : Int)) = true := decide_eq_true c7
            clear c7
            by_cases c8 : (rd t112 x9_1) > 0
            · rw [if_pos c8] at H
              have c8b0 : decide (0 < (rd t112 x9_1)) = true := decide_eq_true c8
              clear c8
              by_cases c9 : (x3_1.length : Int) = 0
              · rw [if_pos c9] at H
                have c9b0 : ((x3_1.length : Int) == 0) = true := beq_iff_eq.mpr c9
                have c9b1 : ((x3_1.length : Int) != 0) = false := bne_eq_false_iff_eq.mpr c9
                clear c9
                by_cases c10 : x3_1.length < 17592186044416
                · rw [if_pos c10] at H
                  have LMc10 := Aside0.mk c10
                  clear c10
                  obtain ⟨y116, hy116⟩ : ∃ y_ : List Int, y_ = (x3_1 ++ [rd t112 x9_1]) := ⟨_, rfl⟩
                  replace H : (order_Locks.l0 k1 y116 t112 (t112.length : Int) (wrap64 (x9_1 + 1))) = some r := by first | (rw [hy116]; with_reducible exact H) | (have H2_ := (Option.bind_some _ _).symm.trans H; rw [hy116]; with_reducible exact H2_) | (have H2_ := (Option.bind_some _ _).symm.trans H; with_reducible exact H2_) | with_reducible exact H | (rw [hy116]; exact H) | exact H
                  have Ny116 := Aside0.mk hy116
                  clear hy116
                  have H' := Aside0.mk H
                  clear H
                  have p115 : 0 ≤ (x9_1 : Int) := of_decide_eq_true (by first | (with_reducible assumption) | assumption)
                  have q115 : x9_1 < (t112.length : Int) := of_decide_eq_true (by first | (with_reducible assumption) | assumption)
                  obtain ⟨ad115, e115, hx115_0⟩ := Kd.at_int (Kd.R_reads' HO_7.out).2.2 x9_1 p115 q115
                  cases e115
                  replace p115 := eq_true p115
                  replace q115 := eq_true q115
                  obtain ⟨Ao11, co11, eo11⟩ := Kd.R_slice HO_3.out
                  subst eo11
                  go_wp2_with (first | ((with_reducible refine gate_builtin (b := .append) (xs := #[.tmp 30, .tmp 32]) rfl ?_); (try (refine gate_guard (by rfl) ?_; dsimp only)); at_builtin; refine Kd.R_append (Kd.int .i64) (w0 := w) w.heap.size rfl (.tmp 30) (.tmp 32) 25 3 (.int .i64 0) 8 rfl Try.underlying25 info3 rfl (by decide) (by omega) (.slice Ao11 x3_1.length co11) x3_1 (rd t112 x9_1) [.int .i64 (rd t112 x9_1)] (fun k_ => some k_ ≠ (.slice (some ad115) t112.length co4 : Value).ownBlock) (fun _ => False) rfl rfl ?aP (fun _ hk => hk.elim) ?aF ?aO ?aB ?aS ?aL ?_; (case aP => exact rfl); (case aB => exact (by repeat (first | (with_reducible first | exact HB.out | apply below_alloc | apply pw_below_drewN | apply below_drew1) | exact HB.out))); (case aF => exact (fun k_ hk => Kd.fresh' (Kd.R_lt (by (with_reducible repeat (first | apply Kd.R_alloc | apply Kd.R_drewN | apply Kd.R_drew)); exact HO_7.out)) k_ hk)); (case aO => exact (by (with_reducible repeat (first | apply Kd.R_alloc | apply Kd.R_drewN | apply Kd.R_drew)); exact HO_3.out)); (case aS => exact (below_size (by repeat (first | (with_reducible first | exact HB.out | apply below_alloc | apply pw_below_drewN | apply below_drew1) | exact HB.out)))); (case aL => have := LMc10.out; omega); intro v117 w12 ho hb hg hat; rw [← Ny116.out] at ho; have n0_ := Aside0.mk (Kd.R_after (ok := (fun _ => True)) (by (with_reducible repeat (first | apply Kd.R_alloc | apply Kd.R_drewN | apply Kd.R_drew)); exact Kd.R_mono HO_7.out (fun _ hk => ⟨trivial, hk⟩)) hg hat); have n1_ := Aside0.mk (hb); have n2_ := Aside0.mk (ho); clear HO_7; clear HB; clear HO_3; have HO_7 := n0_; have HB := n1_; have HO118 := n2_; clear n0_ n1_ n2_; clear ho hb hg hat))
                  go_roundg k1
                  case measure => have := HK1.out; omega
                  case rel => exact ⟨(y116), (wrap64 (x9_1 + 1)), (by first | rfl | (simp; done) | (simp [*]; done)), H', ⟨by have := HK1.out; omega⟩, ⟨by (with_reducible repeat (first | apply Kd.R_alloc | apply Kd.R_drewN | apply Kd.R_drew)); exact HO118.out⟩, ⟨by (with_reducible repeat (first | apply Kd.R_alloc | apply Kd.R_drewN | apply Kd.R_drew)); exact Kd.R_mono HO_7.out (fun _ hk => hk.2)⟩, ⟨by repeat (first | (with_reducible first | exact HB.out | apply below_alloc | apply pw_below_drewN | apply below_drew1) | exact HB.out)⟩⟩
                · rw [if_neg c10] at H
                  exact absurd H (by simp)
              · rw [if_neg c9] at H
                have c9b0 : ((x3_1.length : Int) == 0) = false := beq_eq_false_iff_ne.mpr c9
                have c9b1 : ((x3_1.length : Int) != 0) = true := bne_iff_ne.mpr c9
                have c9b2 : ¬ (x3_1 = []) := fun h_ => c9 (by rw [h_]; rfl)
                obtain ⟨ji13, hji13⟩ : ∃ j_ : Int, (wrap64 ((x3_1.length : Int) - 1)) = j_ := ⟨_, rfl⟩
                replace H : (if 0 ≤ (ji13) then (if (ji13) < (x3_1.length : Int) then (if (rd x3_1 (ji13)) = (rd t112 x9_1) then (order_Locks.l0 k1 x3_1 t112 (t112.length : Int) (wrap64 (x9_1 + 1))) else (if x3_1.length < 17592186044416 then (order_Locks.l0 k1 (x3_1 ++ [rd t112 x9_1]) t112 (t112.length : Int) (wrap64 (x9_1 + 1))) else (none))) else (none)) else (none)) = some r := by first | (rw [hji13] at H; exact H) | (simp only [hji13] at H ⊢; exact H)
                have hji13w : (IntKind.i64.wrap ((x3_1.length : Int) - 1)) = ji13 := (i64_w _).trans hji13
                by_cases c14 : 0 ≤ (ji13)
                · rw [if_pos c14] at H
                  have c14b0 : decide (0 ≤ (ji13)) = true := decide_eq_true c14
                  clear c14
                  by_cases c15 : (ji13) < (x3_1.length : Int)
                  · rw [if_pos c15] at H
                    have c15b0 : decide ((ji13) < (x3_1.length : Int)) = true := decide_eq_true c15
                    clear c15
                    by_cases c16 : (rd x3_1 (ji13)) = (rd t112 x9_1)
                    · rw [if_pos c16] at H
                      have c16b0 : ((rd x3_1 (ji13)) == (rd t112 x9_1)) = true := beq_iff_eq.mpr c16
                      have c16b1 : ((rd x3_1 (ji13)) != (rd t112 x9_1)) = false := bne_eq_false_iff_eq.mpr c16
                      clear c16
                      have H' := Aside0.mk H
                      clear H
                      have p115 : 0 ≤ (x9_1 : Int) := of_decide_eq_true (by first | (with_reducible assumption) | assumption)
                      have q115 : x9_1 < (t112.length : Int) := of_decide_eq_true (by first | (with_reducible assumption) | assumption)
                      obtain ⟨ad115, e115, hx115_0⟩ := Kd.at_int (Kd.R_reads' HO_7.out).2.2 x9_1 p115 q115
                      cases e115
                      replace p115 := eq_true p115
                      replace q115 := eq_true q115
                      obtain ⟨Ao17, co17, eo17⟩ := Kd.R_slice HO_3.out
                      subst eo17
                      have p119 : 0 ≤ ((ji13) : Int) := of_decide_eq_true (by first | (with_reducible assumption) | assumption)
                      have q119 : (ji13) < (x3_1.length : Int) := of_decide_eq_true (by first | (with_reducible assumption) | assumption)
                      obtain ⟨ad119, e119, hx119_0⟩ := Kd.at_int (Kd.R_reads' HO_3.out).2.2 (ji13) p119 q119
                      cases e119
                      replace p119 := eq_true p119
                      replace q119 := eq_true q119
                      go_wp2
                      go_roundg k1
                      case measure => have := HK1.out; omega
                      case rel => exact ⟨(x3_1), (wrap64 (x9_1 + 1)), (by first | rfl | (simp; done) | (simp [*]; done)), H', ⟨by have := HK1.out; omega⟩, ⟨by (with_reducible repeat (first | apply Kd.R_alloc | apply Kd.R_drewN | apply Kd.R_drew)); exact HO_3.out⟩, ⟨by (with_reducible repeat (first | apply Kd.R_alloc | apply Kd.R_drewN | apply Kd.R_drew)); exact HO_7.out⟩, ⟨by repeat (first | (with_reducible first | exact HB.out | apply below_alloc | apply pw_below_drewN | apply below_drew1) | exact HB.out)⟩⟩
                    · rw [if_neg c16] at H
                      have c16b0 : ((rd x3_1 (ji13)) == (rd t112 x9_1)) = false := beq_eq_false_iff_ne.mpr c16
                      have c16b1 : ((rd x3_1 (ji13)) != (rd t112 x9_1)) = true := bne_iff_ne.mpr c16
                      by_cases c18 : x3_1.length < 17592186044416
                      · rw [if_pos c18] at H
                        have LMc18 := Aside0.mk c18
                        clear c18
                        obtain ⟨y120, hy120⟩ : ∃ y_ : List Int, y_ = (x3_1 ++ [rd t112 x9_1]) := ⟨_, rfl⟩
                        replace H : (order_Locks.l0 k1 y120 t112 (t112.length : Int) (wrap64 (x9_1 + 1))) = some r := by first | (rw [hy120]; with_reducible exact H) | (have H2_ := (Option.bind_some _ _).symm.trans H; rw [hy120]; with_reducible exact H2_) | (have H2_ := (Option.bind_some _ _).symm.trans H; with_reducible exact H2_) | with_reducible exact H | (rw [hy120]; exact H) | exact H
                        have Ny120 := Aside0.mk hy120
                        clear hy120
                        have H' := Aside0.mk H
                        clear H
                        have p115 : 0 ≤ (x9_1 : Int) := of_decide_eq_true (by first | (with_reducible assumption) | assumption)
                        have q115 : x9_1 < (t112.length : Int) := of_decide_eq_true (by first | (with_reducible assumption) | assumption)
                        obtain ⟨ad115, e115, hx115_0⟩ := Kd.at_int (Kd.R_reads' HO_7.out).2.2 x9_1 p115 q115
                        cases e115
                        replace p115 := eq_true p115
                        replace q115 := eq_true q115
                        obtain ⟨Ao19, co19, eo19⟩ := Kd.R_slice HO_3.out
                        subst eo19
                        have p119 : 0 ≤ ((ji13) : Int) := of_decide_eq_true (by first | (with_reducible assumption) | assumption)
                        have q119 : (ji13) < (x3_1.length : Int) := of_decide_eq_true (by first | (with_reducible assumption) | assumption)
                        obtain ⟨ad119, e119, hx119_0⟩ := Kd.at_int (Kd.R_reads' HO_3.out).2.2 (ji13) p119 q119
                        cases e119
                        replace p119 := eq_true p119
                        replace q119 := eq_true q119
                        go_wp2_with (first | ((with_reducible refine gate_builtin (b := .append) (xs := #[.tmp 30, .tmp 32]) rfl ?_); (try (refine gate_guard (by rfl) ?_; dsimp only)); at_builtin; refine Kd.R_append (Kd.int .i64) (w0 := w) w.heap.size rfl (.tmp 30) (.tmp 32) 25 3 (.int .i64 0) 8 rfl Try.underlying25 info3 rfl (by decide) (by omega) (.slice (some ad119) x3_1.length co19) x3_1 (rd t112 x9_1) [.int .i64 (rd t112 x9_1)] (fun k_ => some k_ ≠ (.slice (some ad115) t112.length co4 : Value).ownBlock) (fun _ => False) rfl rfl ?aP (fun _ hk => hk.elim) ?aF ?aO ?aB ?aS ?aL ?_; (case aP => exact rfl); (case aB => exact (by repeat (first | (with_reducible first | exact HB.out | apply below_alloc | apply pw_below_drewN | apply below_drew1) | exact HB.out))); (case aF => exact (fun k_ hk => Kd.fresh' (Kd.R_lt (by (with_reducible repeat (first | apply Kd.R_alloc | apply Kd.R_drewN | apply Kd.R_drew)); exact HO_7.out)) k_ hk)); (case aO => exact (by (with_reducible repeat (first | apply Kd.R_alloc | apply Kd.R_drewN | apply Kd.R_drew)); exact HO_3.out)); (case aS => exact (below_size (by repeat (first | (with_reducible first | exact HB.out | apply below_alloc | apply pw_below_drewN | apply below_drew1) | exact HB.out)))); (case aL => have := LMc18.out; omega); intro v121 w20 ho hb hg hat; rw [← Ny120.out] at ho; have n0_ := Aside0.mk (Kd.R_after (ok := (fun _ => True)) (by (with_reducible repeat (first | apply Kd.R_alloc | apply Kd.R_drewN | apply Kd.R_drew)); exact Kd.R_mono HO_7.out (fun _ hk => ⟨trivial, hk⟩)) hg hat); have n1_ := Aside0.mk (hb); have n2_ := Aside0.mk (ho); clear HO_7; clear HB; clear HO_3; have HO_7 := n0_; have HB := n1_; have HO122 := n2_; clear n0_ n1_ n2_; clear ho hb hg hat))
                        go_roundg k1
                        case measure => have := HK1.out; omega
                        case rel => exact ⟨(y120), (wrap64 (x9_1 + 1)), (by first | rfl | (simp; done) | (simp [*]; done)), H', ⟨by have := HK1.out; omega⟩, ⟨by (with_reducible repeat (first | apply Kd.R_alloc | apply Kd.R_drewN | apply Kd.R_drew)); exact HO122.out⟩, ⟨by (with_reducible repeat (first | apply Kd.R_alloc | apply Kd.R_drewN | apply Kd.R_drew)); exact Kd.R_mono HO_7.out (fun _ hk => hk.2)⟩, ⟨by repeat (first | (with_reducible first | exact HB.out | apply below_alloc | apply pw_below_drewN | apply below_drew1) | exact HB.out)⟩⟩
                      · rw [if_neg c18] at H
                        exact absurd H (by simp)
                  · rw [if_neg c15] at H
                    exact absurd H (by simp)
                · rw [if_neg c14] at H
                  exact absurd H (by simp)
            · rw [if_neg c8] at H
              have c8b0 : decide (0 < (rd t112 x9_1)) = false := decide_eq_false c8
              clear c8
              have H' := Aside0.mk H
              clear H
              have p115 : 0 ≤ (x9_1 : Int) := of_decide_eq_true (by first | (with_reducible assumption) | assumption)
              have q115 : x9_1 < (t112.length : Int) := of_decide_eq_true (by first | (with_reducible assumption) | assumption)
              obtain ⟨ad115, e115, hx115_0⟩ := Kd.at_int (Kd.R_reads' HO_7.out).2.2 x9_1 p115 q115
              cases e115
              replace p115 := eq_true p115
              replace q115 := eq_true q115
              go_wp2
              go_roundg k1
              case measure => have := HK1.out; omega
              case rel => exact ⟨(x3_1), (wrap64 (x9_1 + 1)), (by first | rfl | (simp; done) | (simp [*]; done)), H', ⟨by have := HK1.out; omega⟩, ⟨by (with_reducible repeat (first | apply Kd.R_alloc | apply Kd.R_drewN | apply Kd.R_drew)); exact HO_3.out⟩, ⟨by (with_reducible repeat (first | apply Kd.R_alloc | apply Kd.R_drewN | apply Kd.R_drew)); exact HO_7.out⟩, ⟨by repeat (first | (with_reducible first | exact HB.out | apply below_alloc | apply pw_below_drewN | apply below_drew1) | exact HB.out)⟩⟩
          · rw [if_neg c7] at H
            exact absurd H (by simp)
        · rw [if_neg c6] at H
          exact absurd H (by simp)
      · rw [if_neg c5] at H
        have c5b0 : decide (x9_1 < (t112.length : Int)) = false := decide_eq_false c5
        clear c5
        obtain rfl := Option.some.inj H
        go_wp2
        go_ret
        exact ⟨_, by first | rfl | (simp [errW_none, errW_some] <;> rfl) | (simp [*, errW_none, errW_some] <;> rfl), by (with_reducible repeat (first | apply Kd.R_alloc | apply Kd.R_drewN | apply Kd.R_drew)); exact Kd.R_mono HO_3.out (fun _ hk => trivial), by repeat (first | (with_reducible first | exact HB.out | apply below_alloc | apply pw_below_drewN | apply below_drew1) | exact HB.out)⟩

/-! ### handofflaw03_orderAlive: function 28 -/
def handofflaw03_orderAlive.f (k : Nat)  : Option (Bool) := (order_Locks.f k (([3, 0, 1, 3] : List Int))).bind fun t126 => ((handoffref02_Same.f k t126 (([1, 3] : List Int))).bind fun t132 => (some t132))
theorem handofflaw03_orderAlive.mono : ∀ k, LeO (handofflaw03_orderAlive.f k ) (handofflaw03_orderAlive.f (k + 1) ) := by
  intro  k
  unfold handofflaw03_orderAlive.f
  repeat' first
      | (with_reducible exact handoffref02_Same.mono _ _ _)
      | (with_reducible exact order_Locks.mono _ _)
      | (with_reducible exact LeO.refl _)
      | (with_reducible exact LeO.none _)
      | (with_reducible refine LeO.ite ?_ ?_)
      | (with_reducible refine LeO.bind ?_ (fun _ => ?_))
      | exact handoffref02_Same.mono _ _ _
      | exact order_Locks.mono _ _
      | exact LeO.none _
      | refine LeO.ite ?_ ?_
      | refine LeO.bind ?_ (fun _ => ?_)
set_option maxHeartbeats 8000000 in
set_option maxRecDepth 100000 in
theorem handofflaw03_orderAlive.calls (k : Nat)  (r : Bool) (w : World) (h : handofflaw03_orderAlive.f k  = some r) :
    Calls Try.prog 28 #[] w fun e w' => e = .returned (.bool r) ∧ Below w.heap.size w w' := by
  have HB := Aside0.mk (Below.refl w.heap.size w)
  have H : ((order_Locks.f k (([3, 0, 1, 3] : List Int))).bind fun t126 => ((handoffref02_Same.f k t126 (([1, 3] : List Int))).bind fun t132 => (some t132))) = some r := h
  clear h
  obtain ⟨y123, hy123⟩ : ∃ y_ : List Int, y_ = (([3, 0, 1, 3] : List Int)) := ⟨_, rfl⟩
  replace H : ((order_Locks.f k y123).bind fun t126 => ((handoffref02_Same.f k t126 (([1, 3] : List Int))).bind fun t132 => (some t132))) = some r := by first | (rw [hy123]; with_reducible exact H) | (have H2_ := (Option.bind_some _ _).symm.trans H; rw [hy123]; with_reducible exact H2_) | (have H2_ := (Option.bind_some _ _).symm.trans H; with_reducible exact H2_) | with_reducible exact H | (rw [hy123]; exact H) | exact H
  have Ny123 := Aside0.mk hy123
  clear hy123
  replace H := Option.bind_eq_some_iff.mp H
  obtain ⟨t126, A10, H⟩ := H
  replace H : ((handoffref02_Same.f k t126 (([1, 3] : List Int))).bind fun t132 => (some t132)) = some r := H
  have A1 := Aside0.mk A10
  clear A10
  obtain ⟨y129, hy129⟩ : ∃ y_ : List Int, y_ = (([1, 3] : List Int)) := ⟨_, rfl⟩
  replace H : ((handoffref02_Same.f k t126 y129).bind fun t132 => (some t132)) = some r := by first | (rw [hy129]; with_reducible exact H) | (have H2_ := (Option.bind_some _ _).symm.trans H; rw [hy129]; with_reducible exact H2_) | (have H2_ := (Option.bind_some _ _).symm.trans H; with_reducible exact H2_) | with_reducible exact H | (rw [hy129]; exact H) | exact H
  have Ny129 := Aside0.mk hy129
  clear hy129
  replace H := Option.bind_eq_some_iff.mp H
  obtain ⟨t132, A20, H⟩ := H
  replace H : (some t132) = some r := H
  have A2 := Aside0.mk A20
  clear A20
  obtain rfl := Option.some.inj H
  go_enter Try.func28, Try.ntmps28
  go_wp2_with (first | ((with_reducible refine gate_dst (N := 1) rfl ?_); refine Kd.R_lit (Kd.int .i64) _ 3 ?hg (N := 1) ?hd (xs := ([3, 0, 1, 3] : List Int)) (inner := [.int .i64 3, .int .i64 0, .int .i64 1, .int .i64 3]) (ok := fun _ => True) (okp := fun _ => True) ?hr ?hp (fun _ hk => hk) trivial (Below.refl _ _) (Nat.le_refl _) (by simp) ?_; (case hd => rfl); (case hg => rfl); (case hr => first | (go_simp; done) | (go_simp; rfl)); (case hp => exact (Reps.one (show Kd.M (Kd.int .i64) _ _ _ 3 [.int .i64 3] from rfl) (Reps.one (show Kd.M (Kd.int .i64) _ _ _ 0 [.int .i64 0] from rfl) (Reps.one (show Kd.M (Kd.int .i64) _ _ _ 1 [.int .i64 1] from rfl) (Reps.one (show Kd.M (Kd.int .i64) _ _ _ 3 [.int .i64 3] from rfl) (Reps.none _ _)))))); intro v124 w3 ho4 hb hg_ hnew_; clear hg_ hnew_; (first | rw [← Ny123.out] at ho4 | (simp only [Int.reduceToNat] at ho4; rw [← Ny123.out] at ho4)); have n0_ := Aside0.mk (Kd.R_lower ho4 (below_size (by repeat (first | (with_reducible first | exact HB.out | apply below_alloc | apply pw_below_drewN | apply below_drew1) | exact HB.out)))); have n1_ := Aside0.mk (below_step (by repeat (first | (with_reducible first | exact HB.out | apply below_alloc | apply pw_below_drewN | apply below_drew1) | exact HB.out)) hb); clear HB; have HO125 := n0_; have HB := n1_; clear n0_ n1_; clear hb ho4; obtain ⟨Ao5, co5, eo5⟩ := Kd.R_slice HO125.out; subst eo5) | ((with_reducible refine gate_callee (f := 29) rfl ?_); refine goesL_ (some 2) rfl rfl Try.func29 (by kernel_rfl) rfl #[.slice Ao5 y123.length co5] rfl (by (try simp only [List.map_toArray, List.map_cons, List.map_nil]); first | done | rfl | (simp only [List.length_drop, List.length_take]; rfl)) ?_; (with_reducible refine (order_Locks.calls k _ _ y123 t126 _ ?side1 ?side2 A1.out).mono ?_); (case side1 => repeat (first | exact (Kd.R_reads' HO125.out).2.2 | (with_reducible refine Kd.C_alloc ?_ _) | (with_reducible refine Kd.C_drewN ?_ _) | (with_reducible refine Kd.C_drew ?_))); (case side2 => exact (Kd.R_reads' HO125.out).2.1); rintro e w6 ⟨v127, rfl, ho0, hb⟩; refine ⟨_, rfl, ?_⟩; have n0_ := Aside0.mk (Kd.R_elder' (by (with_reducible repeat (first | apply Kd.R_alloc | apply Kd.R_drewN | apply Kd.R_drew)); exact HO125.out) (Kd.R_base ho0) hb); have n1_ := Aside0.mk (Kd.R_lower (Kd.R_new' ho0 (Kd.R_lt (by (with_reducible repeat (first | apply Kd.R_alloc | apply Kd.R_drewN | apply Kd.R_drew)); exact HO125.out))) (below_size (by repeat (first | (with_reducible first | exact HB.out | apply below_alloc | apply pw_below_drewN | apply below_drew1) | exact HB.out)))); have n2_ := Aside0.mk (below_step (by repeat (first | (with_reducible first | exact HB.out | apply below_alloc | apply pw_below_drewN | apply below_drew1) | exact HB.out)) hb); clear HO125; clear HB; have HO125 := n0_; have HO128 := n1_; have HB := n2_; clear n0_ n1_ n2_; (try clear hb); (try clear hb2); (try clear hk); (try clear hi); (try clear ho0)) | ((with_reducible refine gate_dst (N := 3) rfl ?_); refine Kd.R_lit (Kd.int .i64) _ 3 ?hg (N := 3) ?hd (xs := ([1, 3] : List Int)) (inner := [.int .i64 1, .int .i64 3]) (ok := fun _ => True) (okp := fun _ => True) ?hr ?hp (fun _ hk => hk) trivial (Below.refl _ _) (Nat.le_refl _) (by simp) ?_; (case hd => rfl); (case hg => rfl); (case hr => first | (go_simp; done) | (go_simp; rfl)); (case hp => exact (Reps.one (show Kd.M (Kd.int .i64) _ _ _ 1 [.int .i64 1] from rfl) (Reps.one (show Kd.M (Kd.int .i64) _ _ _ 3 [.int .i64 3] from rfl) (Reps.none _ _)))); intro v130 w7 ho8 hb hg_ hnew_; clear hg_ hnew_; (first | rw [← Ny129.out] at ho8 | (simp only [Int.reduceToNat] at ho8; rw [← Ny129.out] at ho8)); have n0_ := Aside0.mk (Kd.R_elder' (by (with_reducible repeat (first | apply Kd.R_alloc | apply Kd.R_drewN | apply Kd.R_drew)); exact HO125.out) (Kd.R_base ho8) hb); have n1_ := Aside0.mk (Kd.R_elder' (by (with_reducible repeat (first | apply Kd.R_alloc | apply Kd.R_drewN | apply Kd.R_drew)); exact HO128.out) (Kd.R_base ho8) hb); have n2_ := Aside0.mk (Kd.R_lower (Kd.R_new' (Kd.R_new' ho8 (Kd.R_lt (by (with_reducible repeat (first | apply Kd.R_alloc | apply Kd.R_drewN | apply Kd.R_drew)); exact HO125.out))) (Kd.R_lt (by (with_reducible repeat (first | apply Kd.R_alloc | apply Kd.R_drewN | apply Kd.R_drew)); exact HO128.out))) (below_size (by repeat (first | (with_reducible first | exact HB.out | apply below_alloc | apply pw_below_drewN | apply below_drew1) | exact HB.out)))); have n3_ := Aside0.mk (below_step (by repeat (first | (with_reducible first | exact HB.out | apply below_alloc | apply pw_below_drewN | apply below_drew1) | exact HB.out)) hb); clear HO125; clear HO128; clear HB; have HO125 := n0_; have HO128 := n1_; have HO131 := n2_; have HB := n3_; clear n0_ n1_ n2_ n3_; clear hb ho8; obtain ⟨Ao9, co9, eo9⟩ := Kd.R_slice HO128.out; subst eo9; obtain ⟨Ao10, co10, eo10⟩ := Kd.R_slice HO131.out; subst eo10) | ((with_reducible refine gate_callee (f := 18) rfl ?_); refine goesL_ (some 4) rfl rfl Try.func18 (by kernel_rfl) rfl #[.slice Ao9 t126.length co9, .slice Ao10 y129.length co10] rfl (by (try simp only [List.map_toArray, List.map_cons, List.map_nil]); first | done | rfl | (simp only [List.length_drop, List.length_take]; rfl)) ?_; (with_reducible refine (handoffref02_Same.calls k _ _ t126 _ _ y129 t132 _ ?side1 ?side2 ?side3 ?side4 A2.out).mono ?_); (case side1 => repeat (first | exact (Kd.R_reads' HO128.out).2.2 | (with_reducible refine Kd.C_alloc ?_ _) | (with_reducible refine Kd.C_drewN ?_ _) | (with_reducible refine Kd.C_drew ?_))); (case side2 => exact (Kd.R_reads' HO128.out).2.1); (case side3 => repeat (first | exact (Kd.R_reads' HO131.out).2.2 | (with_reducible refine Kd.C_alloc ?_ _) | (with_reducible refine Kd.C_drewN ?_ _) | (with_reducible refine Kd.C_drew ?_))); (case side4 => exact (Kd.R_reads' HO131.out).2.1); rintro e w' ⟨rfl, ⟨nd, rfl⟩⟩; refine ⟨_, rfl, ?_⟩))
  go_ret
  exact ⟨by first | rfl | (simp [errW_none, errW_some] <;> rfl) | (simp [*, errW_none, errW_some] <;> rfl), by repeat (first | (with_reducible first | exact HB.out | apply below_alloc | apply pw_below_drewN | apply below_drew1) | exact HB.out)⟩

/-! ### handoffref03_Sort: function 33 -/
mutual
def handoffref03_Sort.l0 : Nat → List Int → List Int → Int → Int → Option (List Int)
  | 0, _, _, _, _ => none
  | k + 1, x3, x9, x10, x11 => if x11 < x10 then (if 0 ≤ x11 then (if x11 < (x9.length : Int) then (handoffref03_Sort.l1 k x3 (rd x9 x11) 0 x9 x10 x11) else (none)) else (none)) else (some x3)
def handoffref03_Sort.l1 : Nat → List Int → Int → Int → List Int → Int → Int → Option (List Int)
  | 0, _, _, _, _, _, _ => none
  | k + 1, x3, x5, x6, x9, x10, x11 => if x6 < (x3.length : Int) then (if 0 ≤ x6 then (if (rd x3 x6) ≤ x5 then (handoffref03_Sort.l1 k x3 x5 (wrap64 (x6 + 1)) x9 x10 x11) else ((some (([] : List Int) : List Int)).bind fun y138 => (if x6 ≤ (x3.length : Int) then ((some (x3.take (x6 : Int).toNat : List Int)).bind fun y141 => (if y138.length + y141.length < 17592186044416 then ((some (y138 ++ y141 : List Int)).bind fun y145 => (if y145.length < 17592186044416 then ((some (y145 ++ [x5] : List Int)).bind fun y148 => ((some (x3.drop (x6 : Int).toNat : List Int)).bind fun y151 => (if y148.length + y151.length < 17592186044416 then (handoffref03_Sort.l0 k (y148 ++ y151) x9 x10 (wrap64 (x11 + 1))) else (none)))) else (none))) else (none))) else (none)))) else (none)) else ((some (([] : List Int) : List Int)).bind fun y158 => (if 0 ≤ x6 then (if x6 ≤ (x3.length : Int) then ((some (x3.take (x6 : Int).toNat : List Int)).bind fun y161 => (if y158.length + y161.length < 17592186044416 then ((some (y158 ++ y161 : List Int)).bind fun y165 => (if y165.length < 17592186044416 then ((some (y165 ++ [x5] : List Int)).bind fun y168 => ((some (x3.drop (x6 : Int).toNat : List Int)).bind fun y171 => (if y168.length + y171.length < 17592186044416 then (handoffref03_Sort.l0 k (y168 ++ y171) x9 x10 (wrap64 (x11 + 1))) else (none)))) else (none))) else (none))) else (none)) else (none)))
end
def handoffref03_Sort.f (k : Nat) (l0 : List Int) : Option (List Int) := handoffref03_Sort.l0 k (([] : List Int)) l0 (l0.length : Int) 0
theorem handoffref03_Sort.mono_l : ∀ k, (∀ y0 y1 y2 y3, LeO (handoffref03_Sort.l0 k y0 y1 y2 y3) (handoffref03_Sort.l0 (k + 1) y0 y1 y2 y3)) ∧ (∀ y0 y1 y2 y3 y4 y5, LeO (handoffref03_Sort.l1 k y0 y1 y2 y3 y4 y5) (handoffref03_Sort.l1 (k + 1) y0 y1 y2 y3 y4 y5))
  | 0 => ⟨fun _ _ _ _ r h => by simp [handoffref03_Sort.l0] at h, fun _ _ _ _ _ _ r h => by simp [handoffref03_Sort.l1] at h⟩
  | k + 1 => by
    obtain ⟨ih0, ih1⟩ := handoffref03_Sort.mono_l k
    refine ⟨?_, ?_⟩
    · intro y0 y1 y2 y3
      unfold handoffref03_Sort.l0
      repeat' first
      | (with_reducible exact ih0 _ _ _ _)
      | (with_reducible exact ih1 _ _ _ _ _ _)
      | (with_reducible exact LeO.refl _)
      | (with_reducible exact LeO.none _)
      | (with_reducible refine LeO.ite ?_ ?_)
      | (with_reducible refine LeO.bind ?_ (fun _ => ?_))
      | exact ih0 _ _ _ _
      | exact ih1 _ _ _ _ _ _
      | exact LeO.none _
      | refine LeO.ite ?_ ?_
      | refine LeO.bind ?_ (fun _ => ?_)
    · intro y0 y1 y2 y3 y4 y5
      unfold handoffref03_Sort.l1
      repeat' first
      | (with_reducible exact ih0 _ _ _ _)
      | (with_reducible exact ih1 _ _ _ _ _ _)
      | (with_reducible exact LeO.refl _)
      | (with_reducible exact LeO.none _)
      | (with_reducible refine LeO.ite ?_ ?_)
      | (with_reducible refine LeO.bind ?_ (fun _ => ?_))
      | exact ih0 _ _ _ _
      | exact ih1 _ _ _ _ _ _
      | exact LeO.none _
      | refine LeO.ite ?_ ?_
      | refine LeO.bind ?_ (fun _ => ?_)
theorem handoffref03_Sort.mono : ∀ a0 k, LeO (handoffref03_Sort.f k a0) (handoffref03_Sort.f (k + 1) a0) := by
  intro a0 k
  obtain ⟨ih0, ih1⟩ := handoffref03_Sort.mono_l k
  unfold handoffref03_Sort.f
  repeat' first
      | (with_reducible exact ih0 _ _ _ _)
      | (with_reducible exact ih1 _ _ _ _ _ _)
      | (with_reducible exact LeO.refl _)
      | (with_reducible exact LeO.none _)
      | (with_reducible refine LeO.ite ?_ ?_)
      | (with_reducible refine LeO.bind ?_ (fun _ => ?_))
      | exact ih0 _ _ _ _
      | exact ih1 _ _ _ _ _ _
      | exact LeO.none _
      | refine LeO.ite ?_ ?_
      | refine LeO.bind ?_ (fun _ => ?_)
set_option maxHeartbeats 8000000 in
set_option maxRecDepth 100000 in
theorem handoffref03_Sort.calls (k : Nat) (A0 : Option Addr) (c0 : Nat) (l0 : List Int) (r : List Int) (w : World) (hr0 : Kd.C (Kd.int .i64) w A0 l0.length l0) (hc0 : l0.length ≤ c0) (h : handoffref03_Sort.f k l0 = some r) :
    Calls Try.prog 33 #[.slice A0 l0.length c0] w fun e w' => ∃ v0_ : Value, e = .returned (v0_) ∧ Kd.R (Kd.int .i64) 3 w' w.heap.size (fun _ => True) v0_ r ∧ Below w.heap.size w w' := by
  have HR0 := Aside0.mk hr0
  have HC0 := Aside0.mk hc0
  clear hr0 hc0
  have HB := Aside0.mk (Below.refl w.heap.size w)
  have H : (handoffref03_Sort.l0 k (([] : List Int)) l0 (l0.length : Int) 0) = some r := h
  clear h
  obtain ⟨y133, hy133⟩ : ∃ y_ : List Int, y_ = (([] : List Int)) := ⟨_, rfl⟩
  replace H : (handoffref03_Sort.l0 k y133 l0 (l0.length : Int) 0) = some r := by first | (rw [hy133]; with_reducible exact H) | (have H2_ := (Option.bind_some _ _).symm.trans H; rw [hy133]; with_reducible exact H2_) | (have H2_ := (Option.bind_some _ _).symm.trans H; with_reducible exact H2_) | with_reducible exact H | (rw [hy133]; exact H) | exact H
  have Ny133 := Aside0.mk hy133
  clear hy133
  have H' := Aside0.mk H
  clear H
  go_enter Try.func33, Try.ntmps33
  go_wp2_with (first | ((with_reducible refine gate_dst (N := 8) rfl ?_); refine Kd.R_lit (Kd.int .i64) _ 3 ?hg (N := 8) ?hd (xs := ([] : List Int)) (inner := []) (ok := fun _ => True) (okp := fun _ => True) ?hr ?hp (fun _ hk => hk) trivial (Below.refl _ _) (Nat.le_refl _) (by simp) ?_; (case hd => rfl); (case hg => rfl); (case hr => first | (go_simp; done) | (go_simp; rfl)); (case hp => exact (Reps.none _ _)); intro v134 w2 ho3 hb hg_ hnew_; clear hg_ hnew_; (first | rw [← Ny133.out] at ho3 | (simp only [Int.reduceToNat] at ho3; rw [← Ny133.out] at ho3)); have n0_ := Aside0.mk (Kd.R_lower ho3 (below_size (by repeat (first | (with_reducible first | exact HB.out | apply below_alloc | apply pw_below_drewN | apply below_drew1) | exact HB.out)))); have n1_ := Aside0.mk (below_step (by repeat (first | (with_reducible first | exact HB.out | apply below_alloc | apply pw_below_drewN | apply below_drew1) | exact HB.out)) hb); clear HB; have HO135 := n0_; have HB := n1_; clear n0_ n1_; clear hb ho3))
  go_loopg [3, 11] k (fun kq v3 v11 w' => ∃ (x3_1 : List Int) (x11_1 : Int), v11 = .int .i64 x11_1 ∧ Aside0 (handoffref03_Sort.l0 kq x3_1 l0 (l0.length : Int) x11_1 = some r) ∧ Aside0 (kq ≤ k) ∧ Aside0 (Kd.R (Kd.int .i64) 3 w' w.heap.size (fun _ => True) v3 x3_1) ∧ Aside0 (Below w.heap.size w w'))
  case atStart => exact ⟨(y133), (0), (by first | rfl | (simp; done) | (simp [*]; done)), H', ⟨Nat.le_refl _⟩, ⟨by (with_reducible repeat (first | apply Kd.R_alloc | apply Kd.R_drewN | apply Kd.R_drew)); exact HO135.out⟩, ⟨by repeat (first | (with_reducible first | exact HB.out | apply below_alloc | apply pw_below_drewN | apply below_drew1) | exact HB.out)⟩⟩
  case round =>
    clear H'
    try clear p2
    try clear c3
    obtain ⟨x3_1, x11_1, rfl, HA, HK1, HO_3, HB⟩ := hrel
    cases gk with
    | zero => exact absurd HA.out (by simp [handoffref03_Sort.l0])
    | succ k1 =>
      have H := HA.out
      clear HA
      simp only [handoffref03_Sort.l0] at H
      by_cases c4 : x11_1 < (l0.length : Int)
      · rw [if_pos c4] at H
        have c4b0 : decide (x11_1 < (l0.length : Int)) = true := decide_eq_true c4
        clear c4
        by_cases c5 : 0 ≤ x11_1
        · rw [if_pos c5] at H
          have c5b0 : decide (0 ≤ x11_1) = true := decide_eq_true c5
          clear c5
          by_cases c6 : x11_1 < (l0.length : Int)
          · rw [if_pos c6] at H
            have c6b0 : decide (x11_1 < (l0.length : Int)) = true := decide_eq_true c6
            clear c6
            have H' := Aside0.mk H
            clear H
            have p136 : 0 ≤ (x11_1 : Int) := of_decide_eq_true (by first | (with_reducible assumption) | assumption)
            have q136 : x11_1 < (l0.length : Int) := of_decide_eq_true (by first | (with_reducible assumption) | assumption)
            obtain ⟨ad136, e136, hx136_0⟩ := Kd.at_int HR0.out x11_1 p136 q136
            cases e136
            replace hx136_0 := (HB.out.cell (World.block_lt_of_cell? w _ hx136_0)).trans hx136_0
            replace p136 := eq_true p136
            replace q136 := eq_true q136
            go_wp2
            go_loopg [6] k1 (fun kq v6 w' => ∃ (x6_2 : Int), v6 = .int .i64 x6_2 ∧ Aside0 (handoffref03_Sort.l1 kq x3_1 (rd l0 x11_1) x6_2 l0 (l0.length : Int) x11_1 = some r) ∧ Aside0 (kq ≤ k1) ∧ Aside0 (Kd.R (Kd.int .i64) 3 w' w.heap.size (fun _ => True) u3 x3_1) ∧ Aside0 (Below w.heap.size w w'))
            case atStart => exact ⟨(0), (by first | rfl | (simp; done) | (simp [*]; done)), H', ⟨Nat.le_refl _⟩, ⟨by (with_reducible repeat (first | apply Kd.R_alloc | apply Kd.R_drewN | apply Kd.R_drew)); exact HO_3.out⟩, ⟨by repeat (first | (with_reducible first | exact HB.out | apply below_alloc | apply pw_below_drewN | apply below_drew1) | exact HB.out)⟩⟩
            case round =>
              clear H'
              try clear p1
              try clear q1
              try clear hx1
              try clear p2
              try clear c3
              try clear c4
              try clear c4b0
              try clear c5
              try clear c5b0
              try clear c6
              try clear c6b0
              try clear hx136_0
              try clear p136
              try clear p2
              try clear q136
              obtain ⟨x6_2, rfl, HA, HK2, HO_3, HB⟩ := hrel
              cases gk with
              | zero => exact absurd HA.out (by simp [handoffref03_Sort.l1])
              | succ k2 =>
                have H := HA.out
                clear HA
                simp only [handoffref03_Sort.l1] at H
                by_cases c7 : x6_2 < (x3_1.length : Int)
                · rw [if_pos c7] at H
                  have c7b0 : decide (x6_2 < (x3_1.length : Int)) = true := decide_eq_true c7
                  clear c7
                  by_cases c8 : 0 ≤ x6_2
                  · rw [if_pos c8] at H
                    have c8b0 : decide (0 ≤ x6_2) = true := decide_eq_true c8
                    clear c8
                    by_cases c9 : (rd x3_1 x6_2) ≤ (rd l0 x11_1)
                    · rw [if_pos c9] at H
                      have c9b0 : decide ((rd x3_1 x6_2) ≤ (rd l0 x11_1)) = true := decide_eq_true c9
                      clear c9
                      have H' := Aside0.mk H
                      clear H
                      obtain ⟨Ao10, co10, eo10⟩ := Kd.R_slice HO_3.out
                      subst eo10
                      have p137 : 0 ≤ (x6_2 : Int) := of_decide_eq_true (by first | (with_reducible assumption) | assumption)
                      have q137 : x6_2 < (x3_1.length : Int) := of_decide_eq_true (by first | (with_reducible assumption) | assumption)
                      obtain ⟨ad137, e137, hx137_0⟩ := Kd.at_int (Kd.R_reads' HO_3.out).2.2 x6_2 p137 q137
                      cases e137
                      replace p137 := eq_true p137
                      replace q137 := eq_true q137
                      go_wp2
                      go_roundg k2
                      case measure => have := HK1.out; have := HK2.out; omega
                      case rel => exact ⟨(wrap64 (x6_2 + 1)), (by first | rfl | (simp; done) | (simp [*]; done)), H', ⟨by have := HK1.out; have := HK2.out; omega⟩, ⟨by (with_reducible repeat (first | apply Kd.R_alloc | apply Kd.R_drewN | apply Kd.R_drew)); exact HO_3.out⟩, ⟨by repeat (first | (with_reducible first | exact HB.out | apply below_alloc | apply pw_below_drewN | apply below_drew1) | exact HB.out)⟩⟩
                    · rw [if_neg c9] at H
                      have c9b0 : decide ((rd x3_1 x6_2) ≤ (rd l0 x11_1)) = false := decide_eq_false c9
                      clear c9
                      obtain ⟨y138, hy138⟩ : ∃ y_ : List Int, y_ = (([] : List Int)) := ⟨_, rfl⟩
                      replace H : (if x6_2 ≤ (x3_1.length : Int) then ((some (x3_1.take (x6_2 : Int).toNat : List Int)).bind fun y141 => (if y138.length + y141.length < 17592186044416 then ((some (y138 ++ y141 : List Int)).bind fun y145 => (if y145.length < 17592186044416 then ((some (y145 ++ [(rd l0 x11_1)] : List Int)).bind fun y148 => ((some (x3_1.drop (x6_2 : Int).toNat : List Int)).bind fun y151 => (if y148.length + y151.length < 17592186044416 then (handoffref03_Sort.l0 k2 (y148 ++ y151) l0 (l0.length : Int) (wrap64 (x11_1 + 1))) else (none)))) else (none))) else (none))) else (none)) = some r := by first | (rw [hy138]; with_reducible exact H) | (have H2_ := (Option.bind_some _ _).symm.trans H; rw [hy138]; with_reducible exact H2_) | (have H2_ := (Option.bind_some _ _).symm.trans H; with_reducible exact H2_) | with_reducible exact H | (rw [hy138]; exact H) | exact H
                      have Ny138 := Aside0.mk hy138
                      clear hy138
                      have c11b0 := eq_true (of_decide_eq_true (by first | (with_reducible assumption) | assumption) : 0 ≤ x6_2)
                      by_cases c12 : x6_2 ≤ (x3_1.length : Int)
                      · rw [if_pos c12] at H
                        have c12b0 := eq_true c12
                        have c12b1 : decide (x6_2 ≤ (x3_1.length : Int)) = true := decide_eq_true c12
                        clear c12
                        obtain ⟨y141, hy141⟩ : ∃ y_ : List Int, y_ = (x3_1.take (x6_2 : Int).toNat) := ⟨_, rfl⟩
                        replace H : (if y138.length + y141.length < 17592186044416 then ((some (y138 ++ y141 : List Int)).bind fun y145 => (if y145.length < 17592186044416 then ((some (y145 ++ [(rd l0 x11_1)] : List Int)).bind fun y148 => ((some (x3_1.drop (x6_2 : Int).toNat : List Int)).bind fun y151 => (if y148.length + y151.length < 17592186044416 then (handoffref03_Sort.l0 k2 (y148 ++ y151) l0 (l0.length : Int) (wrap64 (x11_1 + 1))) else (none)))) else (none))) else (none)) = some r := by first | (rw [hy141]; with_reducible exact H) | (have H2_ := (Option.bind_some _ _).symm.trans H; rw [hy141]; with_reducible exact H2_) | (have H2_ := (Option.bind_some _ _).symm.trans H; with_reducible exact H2_) | with_reducible exact H | (rw [hy141]; exact H) | exact H
                        have Ny141 := Aside0.mk hy141
                        clear hy141
                        by_cases c13 : y138.length + y141.length < 17592186044416
                        · rw [if_pos c13] at H
                          have LMc13 := Aside0.mk c13
                          clear c13
                          obtain ⟨y145, hy145⟩ : ∃ y_ : List Int, y_ = (y138 ++ y141) := ⟨_, rfl⟩
                          replace H : (if y145.length < 17592186044416 then ((some (y145 ++ [(rd l0 x11_1)] : List Int)).bind fun y148 => ((some (x3_1.drop (x6_2 : Int).toNat : List Int)).bind fun y151 => (if y148.length + y151.length < 17592186044416 then (handoffref03_Sort.l0 k2 (y148 ++ y151) l0 (l0.length : Int) (wrap64 (x11_1 + 1))) else (none)))) else (none)) = some r := by first | (rw [hy145]; with_reducible exact H) | (have H2_ := (Option.bind_some _ _).symm.trans H; rw [hy145]; with_reducible exact H2_) | (have H2_ := (Option.bind_some _ _).symm.trans H; with_reducible exact H2_) | with_reducible exact H | (rw [hy145]; exact H) | exact H
                          have Ny145 := Aside0.mk hy145
                          clear hy145
                          by_cases c14 : y145.length < 17592186044416
                          · rw [if_pos c14] at H
                            have LMc14 := Aside0.mk c14
                            clear c14
                            obtain ⟨y148, hy148⟩ : ∃ y_ : List Int, y_ = (y145 ++ [(rd l0 x11_1)]) := ⟨_, rfl⟩
                            replace H : ((some (x3_1.drop (x6_2 : Int).toNat : List Int)).bind fun y151 => (if y148.length + y151.length < 17592186044416 then (handoffref03_Sort.l0 k2 (y148 ++ y151) l0 (l0.length : Int) (wrap64 (x11_1 + 1))) else (none))) = some r := by first | (rw [hy148]; with_reducible exact H) | (have H2_ := (Option.bind_some _ _).symm.trans H; rw [hy148]; with_reducible exact H2_) | (have H2_ := (Option.bind_some _ _).symm.trans H; with_reducible exact H2_) | with_reducible exact H | (rw [hy148]; exact H) | exact H
                            have Ny148 := Aside0.mk hy148
                            clear hy148
                            have c15b0 := eq_true (of_decide_eq_true (by first | (with_reducible assumption) | assumption) : 0 ≤ x6_2)
                            have c16b0 := eq_true (of_decide_eq_true (by first | (with_reducible assumption) | assumption) : x6_2 ≤ (x3_1.length : Int))
                            obtain ⟨y151, hy151⟩ : ∃ y_ : List Int, y_ = (x3_1.drop (x6_2 : Int).toNat) := ⟨_, rfl⟩
                            replace H : (if y148.length + y151.length < 17592186044416 then (handoffref03_Sort.l0 k2 (y148 ++ y151) l0 (l0.length : Int) (wrap64 (x11_1 + 1))) else (none)) = some r := by first | (rw [hy151]; with_reducible exact H) | (have H2_ := (Option.bind_some _ _).symm.trans H; rw [hy151]; with_reducible exact H2_) | (have H2_ := (Option.bind_some _ _).symm.trans H; with_reducible exact H2_) | with_reducible exact H | (rw [hy151]; exact H) | exact H
                            have Ny151 := Aside0.mk hy151
                            clear hy151
                            by_cases c17 : y148.length + y151.length < 17592186044416
                            · rw [if_pos c17] at H
                              have LMc17 := Aside0.mk c17
                              clear c17
                              obtain ⟨y155, hy155⟩ : ∃ y_ : List Int, y_ = (y148 ++ y151) := ⟨_, rfl⟩
                              replace H : (handoffref03_Sort.l0 k2 y155 l0 (l0.length : Int) (wrap64 (x11_1 + 1))) = some r := by first | (rw [hy155]; with_reducible exact H) | (have H2_ := (Option.bind_some _ _).symm.trans H; rw [hy155]; with_reducible exact H2_) | (have H2_ := (Option.bind_some _ _).symm.trans H; with_reducible exact H2_) | with_reducible exact H | (rw [hy155]; exact H) | exact H
                              have Ny155 := Aside0.mk hy155
                              clear hy155
                              have H' := Aside0.mk H
                              clear H
                              obtain ⟨Ao18, co18, eo18⟩ := Kd.R_slice HO_3.out
                              subst eo18
                              have p137 : 0 ≤ (x6_2 : Int) := of_decide_eq_true (by first | (with_reducible assumption) | assumption)
                              have q137 : x6_2 < (x3_1.length : Int) := of_decide_eq_true (by first | (with_reducible assumption) | assumption)
                              obtain ⟨ad137, e137, hx137_0⟩ := Kd.at_int (Kd.R_reads' HO_3.out).2.2 x6_2 p137 q137
                              cases e137
                              replace p137 := eq_true p137
                              replace q137 := eq_true q137
                              go_wp2_with (first | ((with_reducible refine gate_dst (N := 29) rfl ?_); refine Kd.R_lit (Kd.int .i64) _ 3 ?hg (N := 29) ?hd (xs := ([] : List Int)) (inner := []) (ok := fun _ => True) (okp := fun _ => True) ?hr ?hp (fun _ hk => hk) trivial (Below.refl _ _) (Nat.le_refl _) (by simp) ?_; (case hd => rfl); (case hg => rfl); (case hr => first | (go_simp; done) | (go_simp; rfl)); (case hp => exact (Reps.none _ _)); intro v139 w19 ho20 hb hg_ hnew_; clear hg_ hnew_; (first | rw [← Ny138.out] at ho20 | (simp only [Int.reduceToNat] at ho20; rw [← Ny138.out] at ho20)); have n0_ := Aside0.mk (Kd.R_elder' (by (with_reducible repeat (first | apply Kd.R_alloc | apply Kd.R_drewN | apply Kd.R_drew)); exact HO_3.out) (Kd.R_base ho20) hb); have n1_ := Aside0.mk (Kd.R_lower (Kd.R_new' ho20 (Kd.R_lt (by (with_reducible repeat (first | apply Kd.R_alloc | apply Kd.R_drewN | apply Kd.R_drew)); exact HO_3.out))) (below_size (by repeat (first | (with_reducible first | exact HB.out | apply below_alloc | apply pw_below_drewN | apply below_drew1) | exact HB.out)))); have n2_ := Aside0.mk (below_step (by repeat (first | (with_reducible first | exact HB.out | apply below_alloc | apply pw_below_drewN | apply below_drew1) | exact HB.out)) hb); clear HO_3; clear HB; have HO_3 := n0_; have HO140 := n1_; have HB := n2_; clear n0_ n1_ n2_; clear hb ho20; have q21 : (x6_2 : Int) ≤ ((x3_1.length : Int) : Int) := of_decide_eq_true (by first | (with_reducible assumption) | assumption); obtain ⟨i021, hi021, _, hsz21, _⟩ := info_parts info3; have hroom21 : x3_1.length ≤ co18 := (Kd.R_reads' HO_3.out).2.1; have hC21 : Kd.C (Kd.int .i64) _ (some ad137) x3_1.length x3_1 := (Kd.R_reads' HO_3.out).2.2; have hcut21 := cut_to (P := Try.prog) 25 3 .i64 Try.underlying25 hi021 (some ad137) x3_1.length co18 x6_2 (of_decide_eq_true (by first | (with_reducible assumption) | assumption)) q21 hroom21; have hr21 := Kd.C_take (m := (x6_2 : Int).toNat) hC21 (by omega); have hy21 : y141.length = (x6_2 : Int).toNat := (by rw [Ny141.out, List.length_take]; omega); rw [← Ny141.out] at hr21; rw [← hy21] at hcut21; have HR144 := Aside0.mk hr21; have HC144 := Aside0.mk (show y141.length ≤ co18 from by omega); clear hr21 hC21 hroom21 hi021 hsz21; have KY21 := Aside0.mk hy21; clear hy21; have KL21 := Aside0.mk (show (x6_2 : Int).toNat ≤ x3_1.length from by omega); replace q21 := eq_true q21) | ((with_reducible refine gate_builtin (b := .append) (xs := #[.tmp 29, .tmp 32]) rfl ?_); at_builtin; refine Kd.R_append_rows (Kd.int .i64) (w0 := w) w.heap.size rfl (.tmp 29) (.tmp 32) 25 3 (.int .i64 0) 8 rfl Try.underlying25 info3 rfl (by decide) (by omega) v139 y138 y141 _ _ _ (fun k_ => some k_ ≠ (.slice (some ad137) x3_1.length co18 : Value).ownBlock) (fun _ => False) rfl rfl ?aO ?aR (fun _ _ h => h) (fun _ h => h.elim) ?aF ?aB ?aS ?aL ?_; (case aR => repeat (first | exact (by repeat (first | (with_reducible exact HR144.out) | (with_reducible refine Kd.C_alloc ?_ _) | (with_reducible refine Kd.C_drewN ?_ _) | (with_reducible refine Kd.C_drew ?_) | exact HR144.out)) | (with_reducible refine Kd.C_alloc ?_ _) | (with_reducible refine Kd.C_drewN ?_ _) | (with_reducible refine Kd.C_drew ?_))); (case aB => exact (by repeat (first | (with_reducible first | exact HB.out | apply below_alloc | apply pw_below_drewN | apply below_drew1) | exact HB.out))); (case aF => exact (fun k_ hk => Kd.fresh' (Kd.R_lt (by (with_reducible repeat (first | apply Kd.R_alloc | apply Kd.R_drewN | apply Kd.R_drew)); exact HO_3.out)) k_ hk)); (case aO => exact (by (with_reducible repeat (first | apply Kd.R_alloc | apply Kd.R_drewN | apply Kd.R_drew)); exact Kd.R_mono HO140.out (fun _ hk => hk.2))); (case aS => exact (below_size (by repeat (first | (with_reducible first | exact HB.out | apply below_alloc | apply pw_below_drewN | apply below_drew1) | exact HB.out)))); (case aL => have := LMc13.out; omega); intro v146 w22 ho hb hg hat; rw [← Ny145.out] at ho; have n0_ := Aside0.mk (Kd.R_after (ok := (fun _ => True)) (by (with_reducible repeat (first | apply Kd.R_alloc | apply Kd.R_drewN | apply Kd.R_drew)); exact HO_3.out) hg hat); have n1_ := Aside0.mk (hb); have n2_ := Aside0.mk ((show Kd.C (Kd.int .i64) w22 (some ad137) y141.length y141 from by rw [Ny141.out]; exact Kd.C_take (m := (x6_2 : Int).toNat) ((Kd.R_reads' (Kd.R_after (ok := (fun _ => True)) (by (with_reducible repeat (first | apply Kd.R_alloc | apply Kd.R_drewN | apply Kd.R_drew)); exact HO_3.out) hg hat)).2.2) KL21.out)); have n3_ := Aside0.mk (ho); clear HO_3; clear HB; clear HR144; clear HO140; have HO_3 := n0_; have HB := n1_; have HR144 := n2_; have HO147 := n3_; clear n0_ n1_ n2_ n3_; clear ho hb hg hat) | ((with_reducible refine gate_builtin (b := .append) (xs := #[.tmp 33, .tmp 35]) rfl ?_); at_builtin; refine Kd.R_append (Kd.int .i64) (w0 := w) w.heap.size rfl (.tmp 33) (.tmp 35) 25 3 (.int .i64 0) 8 rfl Try.underlying25 info3 rfl (by decide) (by omega) v146 y145 (rd l0 x11_1) [.int .i64 (rd l0 x11_1)] (fun k_ => some k_ ≠ (.slice (some ad137) x3_1.length co18 : Value).ownBlock) (fun _ => False) rfl rfl ?aP (fun _ hk => hk.elim) ?aF ?aO ?aB ?aS ?aL ?_; (case aP => exact rfl); (case aB => exact (by repeat (first | (with_reducible first | exact HB.out | apply below_alloc | apply pw_below_drewN | apply below_drew1) | exact HB.out))); (case aF => exact (fun k_ hk => Kd.fresh' (Kd.R_lt (by (with_reducible repeat (first | apply Kd.R_alloc | apply Kd.R_drewN | apply Kd.R_drew)); exact HO_3.out)) k_ hk)); (case aO => exact (by (with_reducible repeat (first | apply Kd.R_alloc | apply Kd.R_drewN | apply Kd.R_drew)); exact HO147.out)); (case aS => exact (below_size (by repeat (first | (with_reducible first | exact HB.out | apply below_alloc | apply pw_below_drewN | apply below_drew1) | exact HB.out)))); (case aL => have := LMc14.out; omega); intro v149 w23 ho hb hg hat; rw [← Ny148.out] at ho; have n0_ := Aside0.mk (Kd.R_after (ok := (fun _ => True)) (by (with_reducible repeat (first | apply Kd.R_alloc | apply Kd.R_drewN | apply Kd.R_drew)); exact HO_3.out) hg hat); have n1_ := Aside0.mk (hb); have n2_ := Aside0.mk ((show Kd.C (Kd.int .i64) w23 (some ad137) y141.length y141 from by rw [Ny141.out]; exact Kd.C_take (m := (x6_2 : Int).toNat) ((Kd.R_reads' (Kd.R_after (ok := (fun _ => True)) (by (with_reducible repeat (first | apply Kd.R_alloc | apply Kd.R_drewN | apply Kd.R_drew)); exact HO_3.out) hg hat)).2.2) KL21.out)); have n3_ := Aside0.mk (ho); clear HO_3; clear HB; clear HR144; clear HO147; have HO_3 := n0_; have HB := n1_; have HR144 := n2_; have HO150 := n3_; clear n0_ n1_ n2_ n3_; clear ho hb hg hat; have q24 : (x6_2 : Int) ≤ ((x3_1.length : Int) : Int) := of_decide_eq_true (by first | (with_reducible assumption) | assumption); obtain ⟨i024, hi024, _, hsz24, _⟩ := info_parts info3; have hroom24 : x3_1.length ≤ co18 := (Kd.R_reads' HO_3.out).2.1; have hC24 : Kd.C (Kd.int .i64) _ (some ad137) x3_1.length x3_1 := (Kd.R_reads' HO_3.out).2.2; have q024 : (0 : Int) ≤ (x6_2 : Int) := of_decide_eq_true (by first | (with_reducible assumption) | assumption); have hcut24 := cut_from (P := Try.prog) 25 3 .i64 Try.underlying25 hi024 1 hsz24 (some ad137) x3_1.length co18 x6_2 q024 q24; have hr24 := Kd.C_drop (m := (x6_2 : Int).toNat) (c := co18) hC24 (by omega) hroom24; obtain ⟨A24, hA24⟩ : ∃ A1, A1 = (if co18 = (x6_2 : Int).toNat then (some ad137) else ((some ad137) : Option Addr).map (·.add ((x6_2 : Int).toNat * 1))) := ⟨_, rfl⟩; obtain ⟨c24, hc24⟩ : ∃ c1, c1 = co18 - (x6_2 : Int).toNat := ⟨_, rfl⟩; have hy24 : y151.length = x3_1.length - (x6_2 : Int).toNat := (by rw [Ny151.out, List.length_drop] <;> omega); rw [show (x3_1).drop (x6_2 : Int).toNat = y151 from Ny151.out.symm] at hr24; replace hr24 : Kd.C (Kd.int .i64) _ A24 y151.length y151 := (by rw [hA24]; exact hr24); rw [← hy24, ← hA24, ← hc24] at hcut24; have HR154 := Aside0.mk hr24; have HC154 := Aside0.mk (show y151.length ≤ c24 from by rw [hy24, hc24]; exact Nat.sub_le_sub_right hroom24 _); clear hr24 hC24 hroom24 hi024 hsz24 hc24; have KY24 := Aside0.mk hy24; have KA24 := Aside0.mk hA24; clear hy24 hA24; have KL24 := Aside0.mk (show (x6_2 : Int).toNat ≤ x3_1.length from by omega); replace q24 := eq_true q24) | ((with_reducible refine gate_builtin (b := .append) (xs := #[.tmp 37, .tmp 40]) rfl ?_); at_builtin; refine Kd.R_append_rows (Kd.int .i64) (w0 := w) w.heap.size rfl (.tmp 37) (.tmp 40) 25 3 (.int .i64 0) 8 rfl Try.underlying25 info3 rfl (by decide) (by omega) v149 y148 y151 _ _ _ (fun k_ => some k_ ≠ (.slice (some ad137) x3_1.length co18 : Value).ownBlock) (fun _ => False) rfl rfl ?aO ?aR (fun _ _ h => h) (fun _ h => h.elim) ?aF ?aB ?aS ?aL ?_; (case aR => repeat (first | exact (by repeat (first | (with_reducible exact HR154.out) | (with_reducible refine Kd.C_alloc ?_ _) | (with_reducible refine Kd.C_drewN ?_ _) | (with_reducible refine Kd.C_drew ?_) | exact HR154.out)) | (with_reducible refine Kd.C_alloc ?_ _) | (with_reducible refine Kd.C_drewN ?_ _) | (with_reducible refine Kd.C_drew ?_))); (case aB => exact (by repeat (first | (with_reducible first | exact HB.out | apply below_alloc | apply pw_below_drewN | apply below_drew1) | exact HB.out))); (case aF => exact (fun k_ hk => Kd.fresh' (Kd.R_lt (by (with_reducible repeat (first | apply Kd.R_alloc | apply Kd.R_drewN | apply Kd.R_drew)); exact HO_3.out)) k_ hk)); (case aO => exact (by (with_reducible repeat (first | apply Kd.R_alloc | apply Kd.R_drewN | apply Kd.R_drew)); exact HO150.out)); (case aS => exact (below_size (by repeat (first | (with_reducible first | exact HB.out | apply below_alloc | apply pw_below_drewN | apply below_drew1) | exact HB.out)))); (case aL => have := LMc17.out; omega); intro v156 w25 ho hb hg hat; rw [← Ny155.out] at ho; have n0_ := Aside0.mk (Kd.R_after (ok := (fun _ => True)) (by (with_reducible repeat (first | apply Kd.R_alloc | apply Kd.R_drewN | apply Kd.R_drew)); exact HO_3.out) hg hat); have n1_ := Aside0.mk (hb); have n2_ := Aside0.mk ((show Kd.C (Kd.int .i64) w25 (some ad137) y141.length y141 from by rw [Ny141.out]; exact Kd.C_take (m := (x6_2 : Int).toNat) ((Kd.R_reads' (Kd.R_after (ok := (fun _ => True)) (by (with_reducible repeat (first | apply Kd.R_alloc | apply Kd.R_drewN | apply Kd.R_drew)); exact HO_3.out) hg hat)).2.2) KL21.out)); have n3_ := Aside0.mk ((show Kd.C (Kd.int .i64) w25 A24 y151.length y151 from by rw [Ny151.out, KA24.out]; exact Kd.C_drop (m := (x6_2 : Int).toNat) (c := co18) ((Kd.R_reads' (Kd.R_after (ok := (fun _ => True)) (by (with_reducible repeat (first | apply Kd.R_alloc | apply Kd.R_drewN | apply Kd.R_drew)); exact HO_3.out) hg hat)).2.2) KL24.out ((Kd.R_reads' (Kd.R_after (ok := (fun _ => True)) (by (with_reducible repeat (first | apply Kd.R_alloc | apply Kd.R_drewN | apply Kd.R_drew)); exact HO_3.out) hg hat)).2.1))); have n4_ := Aside0.mk (ho); clear HO_3; clear HB; clear HR144; clear HR154; clear HO150; have HO_3 := n0_; have HB := n1_; have HR144 := n2_; have HR154 := n3_; have HO157 := n4_; clear n0_ n1_ n2_ n3_ n4_; clear ho hb hg hat))
                              go_roundg k2
                              case measure => have := HK1.out; have := HK2.out; omega
                              case rel => exact ⟨(y155), (wrap64 (x11_1 + 1)), (by first | rfl | (simp; done) | (simp [*]; done)), H', ⟨by have := HK1.out; have := HK2.out; omega⟩, ⟨by (with_reducible repeat (first | apply Kd.R_alloc | apply Kd.R_drewN | apply Kd.R_drew)); exact Kd.R_mono HO157.out (fun _ hk => trivial)⟩, ⟨by repeat (first | (with_reducible first | exact HB.out | apply below_alloc | apply pw_below_drewN | apply below_drew1) | exact HB.out)⟩⟩
                            · rw [if_neg c17] at H
                              exact absurd H (by simp)
                          · rw [if_neg c14] at H
                            exact absurd H (by simp)
                        · rw [if_neg c13] at H
                          exact absurd H (by simp)
                      · rw [if_neg c12] at H
                        exact absurd H (by simp)
                  · rw [if_neg c8] at H
                    exact absurd H (by simp)
                · rw [if_neg c7] at H
                  have c7b0 : decide (x6_2 < (x3_1.length : Int)) = false := decide_eq_false c7
                  clear c7
                  obtain ⟨y158, hy158⟩ : ∃ y_ : List Int, y_ = (([] : List Int)) := ⟨_, rfl⟩
                  replace H : (if 0 ≤ x6_2 then (if x6_2 ≤ (x3_1.length : Int) then ((some (x3_1.take (x6_2 : Int).toNat : List Int)).bind fun y161 => (if y158.length + y161.length < 17592186044416 then ((some (y158 ++ y161 : List Int)).bind fun y165 => (if y165.length < 17592186044416 then ((some (y165 ++ [(rd l0 x11_1)] : List Int)).bind fun y168 => ((some (x3_1.drop (x6_2 : Int).toNat : List Int)).bind fun y171 => (if y168.length + y171.length < 17592186044416 then (handoffref03_Sort.l0 k2 (y168 ++ y171) l0 (l0.length : Int) (wrap64 (x11_1 + 1))) else (none)))) else (none))) else (none))) else (none)) else (none)) = some r := by first | (rw [hy158]; with_reducible exact H) | (have H2_ := (Option.bind_some _ _).symm.trans H; rw [hy158]; with_reducible exact H2_) | (have H2_ := (Option.bind_some _ _).symm.trans H; with_reducible exact H2_) | with_reducible exact H | (rw [hy158]; exact H) | exact H
                  have Ny158 := Aside0.mk hy158
                  clear hy158
                  by_cases c26 : 0 ≤ x6_2
                  · rw [if_pos c26] at H
                    have c26b0 := eq_true c26
                    have c26b1 : decide (0 ≤ x6_2) = true := decide_eq_true c26
                    clear c26
                    by_cases c27 : x6_2 ≤ (x3_1.length : Int)
                    · rw [if_pos c27] at H
                      have c27b0 := eq_true c27
                      have c27b1 : decide (x6_2 ≤ (x3_1.length : Int)) = true := decide_eq_true c27
                      clear c27
                      obtain ⟨y161, hy161⟩ : ∃ y_ : List Int, y_ = (x3_1.take (x6_2 : Int).toNat) := ⟨_, rfl⟩
                      replace H : (if y158.length + y161.length < 17592186044416 then ((some (y158 ++ y161 : List Int)).bind fun y165 => (if y165.length < 17592186044416 then ((some (y165 ++ [(rd l0 x11_1)] : List Int)).bind fun y168 => ((some (x3_1.drop (x6_2 : Int).toNat : List Int)).bind fun y171 => (if y168.length + y171.length < 17592186044416 then (handoffref03_Sort.l0 k2 (y168 ++ y171) l0 (l0.length : Int) (wrap64 (x11_1 + 1))) else (none)))) else (none))) else (none)) = some r := by first | (rw [hy161]; with_reducible exact H) | (have H2_ := (Option.bind_some _ _).symm.trans H; rw [hy161]; with_reducible exact H2_) | (have H2_ := (Option.bind_some _ _).symm.trans H; with_reducible exact H2_) | with_reducible exact H | (rw [hy161]; exact H) | exact H
                      have Ny161 := Aside0.mk hy161
                      clear hy161
                      by_cases c28 : y158.length + y161.length < 17592186044416
                      · rw [if_pos c28] at H
                        have LMc28 := Aside0.mk c28
                        clear c28
                        obtain ⟨y165, hy165⟩ : ∃ y_ : List Int, y_ = (y158 ++ y161) := ⟨_, rfl⟩
                        replace H : (if y165.length < 17592186044416 then ((some (y165 ++ [(rd l0 x11_1)] : List Int)).bind fun y168 => ((some (x3_1.drop (x6_2 : Int).toNat : List Int)).bind fun y171 => (if y168.length + y171.length < 17592186044416 then (handoffref03_Sort.l0 k2 (y168 ++ y171) l0 (l0.length : Int) (wrap64 (x11_1 + 1))) else (none)))) else (none)) = some r := by first | (rw [hy165]; with_reducible exact H) | (have H2_ := (Option.bind_some _ _).symm.trans H; rw [hy165]; with_reducible exact H2_) | (have H2_ := (Option.bind_some _ _).symm.trans H; with_reducible exact H2_) | with_reducible exact H | (rw [hy165]; exact H) | exact H
                        have Ny165 := Aside0.mk hy165
                        clear hy165
                        by_cases c29 : y165.length < 17592186044416
                        · rw [if_pos c29] at H
                          have LMc29 := Aside0.mk c29
                          clear c29
                          obtain ⟨y168, hy168⟩ : ∃ y_ : List Int, y_ = (y165 ++ [(rd l0 x11_1)]) := ⟨_, rfl⟩
                          replace H : ((some (x3_1.drop (x6_2 : Int).toNat : List Int)).bind fun y171 => (if y168.length + y171.length < 17592186044416 then (handoffref03_Sort.l0 k2 (y168 ++ y171) l0 (l0.length : Int) (wrap64 (x11_1 + 1))) else (none))) = some r := by first | (rw [hy168]; with_reducible exact H) | (have H2_ := (Option.bind_some _ _).symm.trans H; rw [hy168]; with_reducible exact H2_) | (have H2_ := (Option.bind_some _ _).symm.trans H; with_reducible exact H2_) | with_reducible exact H | (rw [hy168]; exact H) | exact H
                          have Ny168 := Aside0.mk hy168
                          clear hy168
                          have c30b0 := eq_true (of_decide_eq_true (by first | (with_reducible assumption) | assumption) : 0 ≤ x6_2)
                          have c31b0 := eq_true (of_decide_eq_true (by first | (with_reducible assumption) | assumption) : x6_2 ≤ (x3_1.length : Int))
                          obtain ⟨y171, hy171⟩ : ∃ y_ : List Int, y_ = (x3_1.drop (x6_2 : Int).toNat) := ⟨_, rfl⟩
                          replace H : (if y168.length + y171.length < 17592186044416 then (handoffref03_Sort.l0 k2 (y168 ++ y171) l0 (l0.length : Int) (wrap64 (x11_1 + 1))) else (none)) = some r := by first | (rw [hy171]; with_reducible exact H) | (have H2_ := (Option.bind_some _ _).symm.trans H; rw [hy171]; with_reducible exact H2_) | (have H2_ := (Option.bind_some _ _).symm.trans H; with_reducible exact H2_) | with_reducible exact H | (rw [hy171]; exact H) | exact H
                          have Ny171 := Aside0.mk hy171
                          clear hy171
                          by_cases c32 : y168.length + y171.length < 17592186044416
                          · rw [if_pos c32] at H
                            have LMc32 := Aside0.mk c32
                            clear c32
                            obtain ⟨y175, hy175⟩ : ∃ y_ : List Int, y_ = (y168 ++ y171) := ⟨_, rfl⟩
                            replace H : (handoffref03_Sort.l0 k2 y175 l0 (l0.length : Int) (wrap64 (x11_1 + 1))) = some r := by first | (rw [hy175]; with_reducible exact H) | (have H2_ := (Option.bind_some _ _).symm.trans H; rw [hy175]; with_reducible exact H2_) | (have H2_ := (Option.bind_some _ _).symm.trans H; with_reducible exact H2_) | with_reducible exact H | (rw [hy175]; exact H) | exact H
                            have Ny175 := Aside0.mk hy175
                            clear hy175
                            have H' := Aside0.mk H
                            clear H
                            obtain ⟨Ao33, co33, eo33⟩ := Kd.R_slice HO_3.out
                            subst eo33
                            go_wp2_with (first | ((with_reducible refine gate_dst (N := 29) rfl ?_); refine Kd.R_lit (Kd.int .i64) _ 3 ?hg (N := 29) ?hd (xs := ([] : List Int)) (inner := []) (ok := fun _ => True) (okp := fun _ => True) ?hr ?hp (fun _ hk => hk) trivial (Below.refl _ _) (Nat.le_refl _) (by simp) ?_; (case hd => rfl); (case hg => rfl); (case hr => first | (go_simp; done) | (go_simp; rfl)); (case hp => exact (Reps.none _ _)); intro v159 w34 ho35 hb hg_ hnew_; clear hg_ hnew_; (first | rw [← Ny158.out] at ho35 | (simp only [Int.reduceToNat] at ho35; rw [← Ny158.out] at ho35)); have n0_ := Aside0.mk (Kd.R_elder' (by (with_reducible repeat (first | apply Kd.R_alloc | apply Kd.R_drewN | apply Kd.R_drew)); exact HO_3.out) (Kd.R_base ho35) hb); have n1_ := Aside0.mk (Kd.R_lower (Kd.R_new' ho35 (Kd.R_lt (by (with_reducible repeat (first | apply Kd.R_alloc | apply Kd.R_drewN | apply Kd.R_drew)); exact HO_3.out))) (below_size (by repeat (first | (with_reducible first | exact HB.out | apply below_alloc | apply pw_below_drewN | apply below_drew1) | exact HB.out)))); have n2_ := Aside0.mk (below_step (by repeat (first | (with_reducible first | exact HB.out | apply below_alloc | apply pw_below_drewN | apply below_drew1) | exact HB.out)) hb); clear HO_3; clear HB; have HO_3 := n0_; have HO160 := n1_; have HB := n2_; clear n0_ n1_ n2_; clear hb ho35; have q36 : (x6_2 : Int) ≤ ((x3_1.length : Int) : Int) := of_decide_eq_true (by first | (with_reducible assumption) | assumption); obtain ⟨i036, hi036, _, hsz36, _⟩ := info_parts info3; have hroom36 : x3_1.length ≤ co33 := (Kd.R_reads' HO_3.out).2.1; have hC36 : Kd.C (Kd.int .i64) _ Ao33 x3_1.length x3_1 := (Kd.R_reads' HO_3.out).2.2; have hcut36 := cut_to (P := Try.prog) 25 3 .i64 Try.underlying25 hi036 Ao33 x3_1.length co33 x6_2 (of_decide_eq_true (by first | (with_reducible assumption) | assumption)) q36 hroom36; have hr36 := Kd.C_take (m := (x6_2 : Int).toNat) hC36 (by omega); have hy36 : y161.length = (x6_2 : Int).toNat := (by rw [Ny161.out, List.length_take]; omega); rw [← Ny161.out] at hr36; rw [← hy36] at hcut36; have HR164 := Aside0.mk hr36; have HC164 := Aside0.mk (show y161.length ≤ co33 from by omega); clear hr36 hC36 hroom36 hi036 hsz36; have KY36 := Aside0.mk hy36; clear hy36; have KL36 := Aside0.mk (show (x6_2 : Int).toNat ≤ x3_1.length from by omega); replace q36 := eq_true q36) | ((with_reducible refine gate_builtin (b := .append) (xs := #[.tmp 29, .tmp 32]) rfl ?_); at_builtin; refine Kd.R_append_rows (Kd.int .i64) (w0 := w) w.heap.size rfl (.tmp 29) (.tmp 32) 25 3 (.int .i64 0) 8 rfl Try.underlying25 info3 rfl (by decide) (by omega) v159 y158 y161 _ _ _ (fun k_ => some k_ ≠ (.slice Ao33 x3_1.length co33 : Value).ownBlock) (fun _ => False) rfl rfl ?aO ?aR (fun _ _ h => h) (fun _ h => h.elim) ?aF ?aB ?aS ?aL ?_; (case aR => repeat (first | exact (by repeat (first | (with_reducible exact HR164.out) | (with_reducible refine Kd.C_alloc ?_ _) | (with_reducible refine Kd.C_drewN ?_ _) | (with_reducible refine Kd.C_drew ?_) | exact HR164.out)) | (with_reducible refine Kd.C_alloc ?_ _) | (with_reducible refine Kd.C_drewN ?_ _) | (with_reducible refine Kd.C_drew ?_))); (case aB => exact (by repeat (first | (with_reducible first | exact HB.out | apply below_alloc | apply pw_below_drewN | apply below_drew1) | exact HB.out))); (case aF => exact (fun k_ hk => Kd.fresh' (Kd.R_lt (by (with_reducible repeat (first | apply Kd.R_alloc | apply Kd.R_drewN | apply Kd.R_drew)); exact HO_3.out)) k_ hk)); (case aO => exact (by (with_reducible repeat (first | apply Kd.R_alloc | apply Kd.R_drewN | apply Kd.R_drew)); exact Kd.R_mono HO160.out (fun _ hk => hk.2))); (case aS => exact (below_size (by repeat (first | (with_reducible first | exact HB.out | apply below_alloc | apply pw_below_drewN | apply below_drew1) | exact HB.out)))); (case aL => have := LMc28.out; omega); intro v166 w37 ho hb hg hat; rw [← Ny165.out] at ho; have n0_ := Aside0.mk (Kd.R_after (ok := (fun _ => True)) (by (with_reducible repeat (first | apply Kd.R_alloc | apply Kd.R_drewN | apply Kd.R_drew)); exact HO_3.out) hg hat); have n1_ := Aside0.mk (hb); have n2_ := Aside0.mk ((show Kd.C (Kd.int .i64) w37 Ao33 y161.length y161 from by rw [Ny161.out]; exact Kd.C_take (m := (x6_2 : Int).toNat) ((Kd.R_reads' (Kd.R_after (ok := (fun _ => True)) (by (with_reducible repeat (first | apply Kd.R_alloc | apply Kd.R_drewN | apply Kd.R_drew)); exact HO_3.out) hg hat)).2.2) KL36.out)); have n3_ := Aside0.mk (ho); clear HO_3; clear HB; clear HR164; clear HO160; have HO_3 := n0_; have HB := n1_; have HR164 := n2_; have HO167 := n3_; clear n0_ n1_ n2_ n3_; clear ho hb hg hat) | ((with_reducible refine gate_builtin (b := .append) (xs := #[.tmp 33, .tmp 35]) rfl ?_); at_builtin; refine Kd.R_append (Kd.int .i64) (w0 := w) w.heap.size rfl (.tmp 33) (.tmp 35) 25 3 (.int .i64 0) 8 rfl Try.underlying25 info3 rfl (by decide) (by omega) v166 y165 (rd l0 x11_1) [.int .i64 (rd l0 x11_1)] (fun k_ => some k_ ≠ (.slice Ao33 x3_1.length co33 : Value).ownBlock) (fun _ => False) rfl rfl ?aP (fun _ hk => hk.elim) ?aF ?aO ?aB ?aS ?aL ?_; (case aP => exact rfl); (case aB => exact (by repeat (first | (with_reducible first | exact HB.out | apply below_alloc | apply pw_below_drewN | apply below_drew1) | exact HB.out))); (case aF => exact (fun k_ hk => Kd.fresh' (Kd.R_lt (by (with_reducible repeat (first | apply Kd.R_alloc | apply Kd.R_drewN | apply Kd.R_drew)); exact HO_3.out)) k_ hk)); (case aO => exact (by (with_reducible repeat (first | apply Kd.R_alloc | apply Kd.R_drewN | apply Kd.R_drew)); exact HO167.out)); (case aS => exact (below_size (by repeat (first | (with_reducible first | exact HB.out | apply below_alloc | apply pw_below_drewN | apply below_drew1) | exact HB.out)))); (case aL => have := LMc29.out; omega); intro v169 w38 ho hb hg hat; rw [← Ny168.out] at ho; have n0_ := Aside0.mk (Kd.R_after (ok := (fun _ => True)) (by (with_reducible repeat (first | apply Kd.R_alloc | apply Kd.R_drewN | apply Kd.R_drew)); exact HO_3.out) hg hat); have n1_ := Aside0.mk (hb); have n2_ := Aside0.mk ((show Kd.C (Kd.int .i64) w38 Ao33 y161.length y161 from by rw [Ny161.out]; exact Kd.C_take (m := (x6_2 : Int).toNat) ((Kd.R_reads' (Kd.R_after (ok := (fun _ => True)) (by (with_reducible repeat (first | apply Kd.R_alloc | apply Kd.R_drewN | apply Kd.R_drew)); exact HO_3.out) hg hat)).2.2) KL36.out)); have n3_ := Aside0.mk (ho); clear HO_3; clear HB; clear HR164; clear HO167; have HO_3 := n0_; have HB := n1_; have HR164 := n2_; have HO170 := n3_; clear n0_ n1_ n2_ n3_; clear ho hb hg hat; have q39 : (x6_2 : Int) ≤ ((x3_1.length : Int) : Int) := of_decide_eq_true (by first | (with_reducible assumption) | assumption); obtain ⟨i039, hi039, _, hsz39, _⟩ := info_parts info3; have hroom39 : x3_1.length ≤ co33 := (Kd.R_reads' HO_3.out).2.1; have hC39 : Kd.C (Kd.int .i64) _ Ao33 x3_1.length x3_1 := (Kd.R_reads' HO_3.out).2.2; have q039 : (0 : Int) ≤ (x6_2 : Int) := of_decide_eq_true (by first | (with_reducible assumption) | assumption); have hcut39 := cut_from (P := Try.prog) 25 3 .i64 Try.underlying25 hi039 1 hsz39 Ao33 x3_1.length co33 x6_2 q039 q39; have hr39 := Kd.C_drop (m := (x6_2 : Int).toNat) (c := co33) hC39 (by omega) hroom39; obtain ⟨A39, hA39⟩ : ∃ A1, A1 = (if co33 = (x6_2 : Int).toNat then Ao33 else (Ao33 : Option Addr).map (·.add ((x6_2 : Int).toNat * 1))) := ⟨_, rfl⟩; obtain ⟨c39, hc39⟩ : ∃ c1, c1 = co33 - (x6_2 : Int).toNat := ⟨_, rfl⟩; have hy39 : y171.length = x3_1.length - (x6_2 : Int).toNat := (by rw [Ny171.out, List.length_drop] <;> omega); rw [show (x3_1).drop (x6_2 : Int).toNat = y171 from Ny171.out.symm] at hr39; replace hr39 : Kd.C (Kd.int .i64) _ A39 y171.length y171 := (by rw [hA39]; exact hr39); rw [← hy39, ← hA39, ← hc39] at hcut39; have HR174 := Aside0.mk hr39; have HC174 := Aside0.mk (show y171.length ≤ c39 from by rw [hy39, hc39]; exact Nat.sub_le_sub_right hroom39 _); clear hr39 hC39 hroom39 hi039 hsz39 hc39; have KY39 := Aside0.mk hy39; have KA39 := Aside0.mk hA39; clear hy39 hA39; have KL39 := Aside0.mk (show (x6_2 : Int).toNat ≤ x3_1.length from by omega); replace q39 := eq_true q39) | ((with_reducible refine gate_builtin (b := .append) (xs := #[.tmp 37, .tmp 40]) rfl ?_); at_builtin; refine Kd.R_append_rows (Kd.int .i64) (w0 := w) w.heap.size rfl (.tmp 37) (.tmp 40) 25 3 (.int .i64 0) 8 rfl Try.underlying25 info3 rfl (by decide) (by omega) v169 y168 y171 _ _ _ (fun k_ => some k_ ≠ (.slice Ao33 x3_1.length co33 : Value).ownBlock) (fun _ => False) rfl rfl ?aO ?aR (fun _ _ h => h) (fun _ h => h.elim) ?aF ?aB ?aS ?aL ?_; (case aR => repeat (first | exact (by repeat (first | (with_reducible exact HR174.out) | (with_reducible refine Kd.C_alloc ?_ _) | (with_reducible refine Kd.C_drewN ?_ _) | (with_reducible refine Kd.C_drew ?_) | exact HR174.out)) | (with_reducible refine Kd.C_alloc ?_ _) | (with_reducible refine Kd.C_drewN ?_ _) | (with_reducible refine Kd.C_drew ?_))); (case aB => exact (by repeat (first | (with_reducible first | exact HB.out | apply below_alloc | apply pw_below_drewN | apply below_drew1) | exact HB.out))); (case aF => exact (fun k_ hk => Kd.fresh' (Kd.R_lt (by (with_reducible repeat (first | apply Kd.R_alloc | apply Kd.R_drewN | apply Kd.R_drew)); exact HO_3.out)) k_ hk)); (case aO => exact (by (with_reducible repeat (first | apply Kd.R_alloc | apply Kd.R_drewN | apply Kd.R_drew)); exact HO170.out)); (case aS => exact (below_size (by repeat (first | (with_reducible first | exact HB.out | apply below_alloc | apply pw_below_drewN | apply below_drew1) | exact HB.out)))); (case aL => have := LMc32.out; omega); intro v176 w40 ho hb hg hat; rw [← Ny175.out] at ho; have n0_ := Aside0.mk (Kd.R_after (ok := (fun _ => True)) (by (with_reducible repeat (first | apply Kd.R_alloc | apply Kd.R_drewN | apply Kd.R_drew)); exact HO_3.out) hg hat); have n1_ := Aside0.mk (hb); have n2_ := Aside0.mk ((show Kd.C (Kd.int .i64) w40 Ao33 y161.length y161 from by rw [Ny161.out]; exact Kd.C_take (m := (x6_2 : Int).toNat) ((Kd.R_reads' (Kd.R_after (ok := (fun _ => True)) (by (with_reducible repeat (first | apply Kd.R_alloc | apply Kd.R_drewN | apply Kd.R_drew)); exact HO_3.out) hg hat)).2.2) KL36.out)); have n3_ := Aside0.mk ((show Kd.C (Kd.int .i64) w40 A39 y171.length y171 from by rw [Ny171.out, KA39.out]; exact Kd.C_drop (m := (x6_2 : Int).toNat) (c := co33) ((Kd.R_reads' (Kd.R_after (ok := (fun _ => True)) (by (with_reducible repeat (first | apply Kd.R_alloc | apply Kd.R_drewN | apply Kd.R_drew)); exact HO_3.out) hg hat)).2.2) KL39.out ((Kd.R_reads' (Kd.R_after (ok := (fun _ => True)) (by (with_reducible repeat (first | apply Kd.R_alloc | apply Kd.R_drewN | apply Kd.R_drew)); exact HO_3.out) hg hat)).2.1))); have n4_ := Aside0.mk (ho); clear HO_3; clear HB; clear HR164; clear HR174; clear HO170; have HO_3 := n0_; have HB := n1_; have HR164 := n2_; have HR174 := n3_; have HO177 := n4_; clear n0_ n1_ n2_ n3_ n4_; clear ho hb hg hat))
                            go_roundg k2
                            case measure => have := HK1.out; have := HK2.out; omega
                            case rel => exact ⟨(y175), (wrap64 (x11_1 + 1)), (by first | rfl | (simp; done) | (simp [*]; done)), H', ⟨by have := HK1.out; have := HK2.out; omega⟩, ⟨by (with_reducible repeat (first | apply Kd.R_alloc | apply Kd.R_drewN | apply Kd.R_drew)); exact Kd.R_mono HO177.out (fun _ hk => trivial)⟩, ⟨by repeat (first | (with_reducible first | exact HB.out | apply below_alloc | apply pw_below_drewN | apply below_drew1) | exact HB.out)⟩⟩
                          · rw [if_neg c32] at H
                            exact absurd H (by simp)
                        · rw [if_neg c29] at H
                          exact absurd H (by simp)
                      · rw [if_neg c28] at H
                        exact absurd H (by simp)
                    · rw [if_neg c27] at H
                      exact absurd H (by simp)
                  · rw [if_neg c26] at H
                    exact absurd H (by simp)
          · rw [if_neg c6] at H
            exact absurd H (by simp)
        · rw [if_neg c5] at H
          exact absurd H (by simp)
      · rw [if_neg c4] at H
        have c4b0 : decide (x11_1 < (l0.length : Int)) = false := decide_eq_false c4
        clear c4
        obtain rfl := Option.some.inj H
        go_wp2
        go_ret
        exact ⟨_, by first | rfl | (simp [errW_none, errW_some] <;> rfl) | (simp [*, errW_none, errW_some] <;> rfl), by (with_reducible repeat (first | apply Kd.R_alloc | apply Kd.R_drewN | apply Kd.R_drew)); exact HO_3.out, by repeat (first | (with_reducible first | exact HB.out | apply below_alloc | apply pw_below_drewN | apply below_drew1) | exact HB.out)⟩

/-! ### handoffref03_Locks: function 30 -/
def handoffref03_Locks.l0 : Nat → List Int → List Int → Int → Int → Option (List Int)
  | 0, _, _, _, _ => none
  | k + 1, x3, x8, x9, x10 => if x10 < x9 then (if 0 ≤ x10 then (if x10 < (x8.length : Int) then (if (rd x8 x10) ≤ 0 then (handoffref03_Locks.l0 k x3 x8 x9 (wrap64 (x10 + 1))) else (if (x3.length : Int) > 0 then (if 0 ≤ (wrap64 ((x3.length : Int) - 1)) then (if (wrap64 ((x3.length : Int) - 1)) < (x3.length : Int) then (if (rd x3 (wrap64 ((x3.length : Int) - 1))) = (rd x8 x10) then (handoffref03_Locks.l0 k x3 x8 x9 (wrap64 (x10 + 1))) else (if x3.length < 17592186044416 then (handoffref03_Locks.l0 k (x3 ++ [rd x8 x10]) x8 x9 (wrap64 (x10 + 1))) else (none))) else (none)) else (none)) else (if x3.length < 17592186044416 then (handoffref03_Locks.l0 k (x3 ++ [rd x8 x10]) x8 x9 (wrap64 (x10 + 1))) else (none)))) else (none)) else (none)) else (some x3)
def handoffref03_Locks.f (k : Nat) (l0 : List Int) : Option (List Int) := (handoffref03_Sort.f k l0).bind fun t181 => (handoffref03_Locks.l0 k (([] : List Int)) t181 (t181.length : Int) 0)
theorem handoffref03_Locks.mono_l : ∀ k, (∀ y0 y1 y2 y3, LeO (handoffref03_Locks.l0 k y0 y1 y2 y3) (handoffref03_Locks.l0 (k + 1) y0 y1 y2 y3))
  | 0 => fun _ _ _ _ r h => by simp [handoffref03_Locks.l0] at h
  | k + 1 => by
    have ih0 := handoffref03_Locks.mono_l k
    · intro y0 y1 y2 y3
      unfold handoffref03_Locks.l0
      repeat' first
      | (with_reducible exact ih0 _ _ _ _)
      | (with_reducible exact handoffref03_Sort.mono _ _)
      | (with_reducible exact LeO.refl _)
      | (with_reducible exact LeO.none _)
      | (with_reducible refine LeO.ite ?_ ?_)
      | (with_reducible refine LeO.bind ?_ (fun _ => ?_))
      | exact ih0 _ _ _ _
      | exact handoffref03_Sort.mono _ _
      | exact LeO.none _
      | refine LeO.ite ?_ ?_
      | refine LeO.bind ?_ (fun _ => ?_)
theorem handoffref03_Locks.mono : ∀ a0 k, LeO (handoffref03_Locks.f k a0) (handoffref03_Locks.f (k + 1) a0) := by
  intro a0 k
  have ih0 := handoffref03_Locks.mono_l k
  unfold handoffref03_Locks.f
  repeat' first
      | (with_reducible exact ih0 _ _ _ _)
      | (with_reducible exact handoffref03_Sort.mono _ _)
      | (with_reducible exact LeO.refl _)
      | (with_reducible exact LeO.none _)
      | (with_reducible refine LeO.ite ?_ ?_)
      | (with_reducible refine LeO.bind ?_ (fun _ => ?_))
      | exact ih0 _ _ _ _
      | exact handoffref03_Sort.mono _ _
      | exact LeO.none _
      | refine LeO.ite ?_ ?_
      | refine LeO.bind ?_ (fun _ => ?_)
set_option maxHeartbeats 8000000 in
set_option maxRecDepth 100000 in
theorem handoffref03_Locks.calls (k : Nat) (A0 : Option Addr) (c0 : Nat) (l0 : List Int) (r : List Int) (w : World) (hr0 : Kd.C (Kd.int .i64) w A0 l0.length l0) (hc0 : l0.length ≤ c0) (h : handoffref03_Locks.f k l0 = some r) :
    Calls Try.prog 30 #[.slice A0 l0.length c0] w fun e w' => ∃ v0_ : Value, e = .returned (v0_) ∧ Kd.R (Kd.int .i64) 3 w' w.heap.size (fun _ => True) v0_ r ∧ Below w.heap.size w w' := by
  have HR0 := Aside0.mk hr0
  have HC0 := Aside0.mk hc0
  clear hr0 hc0
  have HB := Aside0.mk (Below.refl w.heap.size w)
  have H : ((handoffref03_Sort.f k l0).bind fun t181 => (handoffref03_Locks.l0 k (([] : List Int)) t181 (t181.length : Int) 0)) = some r := h
  clear h
  obtain ⟨y178, hy178⟩ : ∃ y_ : List Int, y_ = (([] : List Int)) := ⟨_, rfl⟩
  replace H : ((handoffref03_Sort.f k l0).bind fun t181 => (handoffref03_Locks.l0 k y178 t181 (t181.length : Int) 0)) = some r := by first | (rw [hy178]; with_reducible exact H) | (have H2_ := (Option.bind_some _ _).symm.trans H; rw [hy178]; with_reducible exact H2_) | (have H2_ := (Option.bind_some _ _).symm.trans H; with_reducible exact H2_) | with_reducible exact H | (rw [hy178]; exact H) | exact H
  have Ny178 := Aside0.mk hy178
  clear hy178
  replace H := Option.bind_eq_some_iff.mp H
  obtain ⟨t181, A20, H⟩ := H
  replace H : (handoffref03_Locks.l0 k y178 t181 (t181.length : Int) 0) = some r := H
  have A2 := Aside0.mk A20
  clear A20
  have H' := Aside0.mk H
  clear H
  go_enter Try.func30, Try.ntmps30
  go_wp2_with (first | ((with_reducible refine gate_dst (N := 6) rfl ?_); (try (refine gate_guard (by rfl) ?_; dsimp only)); refine Kd.R_lit (Kd.int .i64) _ 3 ?hg (N := 6) ?hd (xs := ([] : List Int)) (inner := []) (ok := fun _ => True) (okp := fun _ => True) ?hr ?hp (fun _ hk => hk) trivial (Below.refl _ _) (Nat.le_refl _) (by simp) ?_; (case hd => rfl); (case hg => rfl); (case hr => first | (go_simp; done) | (go_simp; rfl)); (case hp => exact (Reps.none _ _)); intro v179 w3 ho4 hb hg_ hnew_; clear hg_ hnew_; (first | rw [← Ny178.out] at ho4 | (simp only [Int.reduceToNat] at ho4; rw [← Ny178.out] at ho4)); have n0_ := Aside0.mk (Kd.R_lower ho4 (below_size (by repeat (first | (with_reducible first | exact HB.out | apply below_alloc | apply pw_below_drewN | apply below_drew1) | exact HB.out)))); have n1_ := Aside0.mk (below_step (by repeat (first | (with_reducible first | exact HB.out | apply below_alloc | apply pw_below_drewN | apply below_drew1) | exact HB.out)) hb); clear HB; have HO180 := n0_; have HB := n1_; clear n0_ n1_; clear hb ho4) | ((with_reducible refine gate_callee (f := 33) rfl ?_); refine goesL_ (some 8) rfl rfl Try.func33 (by kernel_rfl) rfl #[.slice A0 l0.length c0] rfl (by (try simp only [List.map_toArray, List.map_cons, List.map_nil]); first | done | rfl | (simp only [List.length_drop, List.length_take]; rfl)) ?_; (with_reducible refine (handoffref03_Sort.calls k _ _ l0 t181 _ ?side1 ?side2 A2.out).mono ?_); (case side1 => repeat (first | exact (Kd.C_below HR0.out HB.out) | (with_reducible refine Kd.C_alloc ?_ _) | (with_reducible refine Kd.C_drewN ?_ _) | (with_reducible refine Kd.C_drew ?_))); (case side2 => exact HC0.out); rintro e w5 ⟨v182, rfl, ho0, hb⟩; refine ⟨_, rfl, ?_⟩; have n0_ := Aside0.mk (Kd.R_elder' (by (with_reducible repeat (first | apply Kd.R_alloc | apply Kd.R_drewN | apply Kd.R_drew)); exact HO180.out) (Kd.R_base ho0) hb); have n1_ := Aside0.mk (Kd.R_lower (Kd.R_new' ho0 (Kd.R_lt (by (with_reducible repeat (first | apply Kd.R_alloc | apply Kd.R_drewN | apply Kd.R_drew)); exact HO180.out))) (below_size (by repeat (first | (with_reducible first | exact HB.out | apply below_alloc | apply pw_below_drewN | apply below_drew1) | exact HB.out)))); have n2_ := Aside0.mk (below_step (by repeat (first | (with_reducible first | exact HB.out | apply below_alloc | apply pw_below_drewN | apply below_drew1) | exact HB.out)) hb); clear HO180; clear HB; have HO180 := n0_; have HO183 := n1_; have HB := n2_; clear n0_ n1_ n2_; (try clear hb); (try clear hb2); (try clear hk); (try clear hi); (try clear ho0); obtain ⟨Ao6, co6, eo6⟩ := Kd.R_slice HO183.out; subst eo6))
  go_loopg [3, 10] k (fun kq v3 v10 w' => ∃ (x3_1 : List Int) (x10_1 : Int), v10 = .int .i64 x10_1 ∧ Aside0 (handoffref03_Locks.l0 kq x3_1 t181 (t181.length : Int) x10_1 = some r) ∧ Aside0 (kq ≤ k) ∧ Aside0 (Kd.R (Kd.int .i64) 3 w' w.heap.size (fun k_ => some k_ ≠ ((.slice Ao6 t181.length co6) : Value).ownBlock) v3 x3_1) ∧ Aside0 (Kd.R (Kd.int .i64) 3 w' w.heap.size (fun k_ => some k_ ≠ (v3 : Value).ownBlock) (.slice Ao6 t181.length co6) t181) ∧ Aside0 (Below w.heap.size w w'))
  case atStart => exact ⟨(y178), (0), (by first | rfl | (simp; done) | (simp [*]; done)), H', ⟨Nat.le_refl _⟩, ⟨by (with_reducible repeat (first | apply Kd.R_alloc | apply Kd.R_drewN | apply Kd.R_drew)); exact Kd.R_mono HO180.out (fun _ hk => hk.2)⟩, ⟨by (with_reducible repeat (first | apply Kd.R_alloc | apply Kd.R_drewN | apply Kd.R_drew)); exact Kd.R_mono HO183.out (fun _ hk => hk.2)⟩, ⟨by repeat (first | (with_reducible first | exact HB.out | apply below_alloc | apply pw_below_drewN | apply below_drew1) | exact HB.out)⟩⟩
  case round =>
    clear H'
    try clear p2
    try clear c3
    obtain ⟨x3_1, x10_1, rfl, HA, HK1, HO_3, HO_8, HB⟩ := hrel
    cases gk with
    | zero => exact absurd HA.out (by simp [handoffref03_Locks.l0])
    | succ k1 =>
      have H := HA.out
      clear HA
      simp only [handoffref03_Locks.l0] at H
      by_cases c7 : x10_1 < (t181.length : Int)
      · rw [if_pos c7] at H
        have c7b0 : decide (x10_1 < (t181.length : Int)) = true := decide_eq_true c7
        clear c7
        by_cases c8 : 0 ≤ x10_1
        · rw [if_pos c8] at H
          have c8b0 : decide (0 ≤ x10_1) = true := decide_eq_true c8
          clear c8
          by_cases c9 : x10_1 < (t181.length : Int)
          · rw [if_pos c9] at H
            have c9b0 : decide (x10_1 < (t181.length : Int)) = true := decide_eq_true c9
            clear c9
            by_cases c10 : (rd t181 x10_1) ≤ 0
            · rw [if_pos c10] at H
              have c10b0 : decide ((rd t181 x10_1) ≤ 0) = true := decide_eq_true c10
              clear c10
              have H' := Aside0.mk H
              clear H
              have p184 : 0 ≤ (x10_1 : Int) := of_decide_eq_true (by first | (with_reducible assumption) | assumption)
              have q184 : x10_1 < (t181.length : Int) := of_decide_eq_true (by first | (with_reducible assumption) | assumption)
              obtain ⟨ad184, e184, hx184_0⟩ := Kd.at_int (Kd.R_reads' HO_8.out).2.2 x10_1 p184 q184
              cases e184
              replace p184 := eq_true p184
              replace q184 := eq_true q184
              go_wp2
              go_roundg k1
              case measure => have := HK1.out; omega
              case rel => exact ⟨(x3_1), (wrap64 (x10_1 + 1)), (by first | rfl | (simp; done) | (simp [*]; done)), H', ⟨by have := HK1.out; omega⟩, ⟨by (with_reducible repeat (first | apply Kd.R_alloc | apply Kd.R_drewN | apply Kd.R_drew)); exact HO_3.out⟩, ⟨by (with_reducible repeat (first | apply Kd.R_alloc | apply Kd.R_drewN | apply Kd.R_drew)); exact HO_8.out⟩, ⟨by repeat (first | (with_reducible first | exact HB.out | apply below_alloc | apply pw_below_drewN | apply below_drew1) | exact HB.out)⟩⟩
            · rw [if_neg c10] at H
              have c10b0 : decide ((rd t181 x10_1) ≤ 0) = false := decide_eq_false c10
              clear c10
              by_cases c11 : (x3_1.length : Int) > 0
              · rw [if_pos c11] at H
                have c11b0 : decide (0 < (x3_1.length : Int)) = true := decide_eq_true c11
                have c11b1 : decide (0 < x3_1.length) = true := decide_eq_true (by omega)
                clear c11
                obtain ⟨ji12, hji12⟩ : ∃ j_ : Int, (wrap64 ((x3_1.length : Int) - 1)) = j_ := ⟨_, rfl⟩
                replace H : (if 0 ≤ (ji12) then (if (ji12) < (x3_1.length : Int) then (if (rd x3_1 (ji12)) = (rd t181 x10_1) then (handoffref03_Locks.l0 k1 x3_1 t181 (t181.length : Int) (wrap64 (x10_1 + 1))) else (if x3_1.length < 17592186044416 then (handoffref03_Locks.l0 k1 (x3_1 ++ [rd t181 x10_1]) t181 (t181.length : Int) (wrap64 (x10_1 + 1))) else (none))) else (none)) else (none)) = some r := by first | (rw [hji12] at H; exact H) | (simp only [hji12] at H ⊢; exact H)
                have hji12w : (IntKind.i64.wrap ((x3_1.length : Int) - 1)) = ji12 := (i64_w _).trans hji12
                by_cases c13 : 0 ≤ (ji12)
                · rw [if_pos c13] at H
                  have c13b0 : decide (0 ≤ (ji12)) = true := decide_eq_true c13
                  clear c13
                  by_cases c14 : (ji12) < (x3_1.length : Int)
                  · rw [if_pos c14] at H
                    have c14b0 : decide ((ji12) < (x3_1.length : Int)) = true := decide_eq_true c14
                    clear c14
                    by_cases c15 : (rd x3_1 (ji12)) = (rd t181 x10_1)
                    · rw [if_pos c15] at H
                      have c15b0 : ((rd x3_1 (ji12)) == (rd t181 x10_1)) = true := beq_iff_eq.mpr c15
                      have c15b1 : ((rd x3_1 (ji12)) != (rd t181 x10_1)) = false := bne_eq_false_iff_eq.mpr c15
                      clear c15
                      have H' := Aside0.mk H
                      clear H
                      have p184 : 0 ≤ (x10_1 : Int) := of_decide_eq_true (by first | (with_reducible assumption) | assumption)
                      have q184 : x10_1 < (t181.length : Int) := of_decide_eq_true (by first | (with_reducible assumption) | assumption)
                      obtain ⟨ad184, e184, hx184_0⟩ := Kd.at_int (Kd.R_reads' HO_8.out).2.2 x10_1 p184 q184
                      cases e184
                      replace p184 := eq_true p184
                      replace q184 := eq_true q184
                      obtain ⟨Ao16, co16, eo16⟩ := Kd.R_slice HO_3.out
                      subst eo16
                      have p185 : 0 ≤ ((ji12) : Int) := of_decide_eq_true (by first | (with_reducible assumption) | assumption)
                      have q185 : (ji12) < (x3_1.length : Int) := of_decide_eq_true (by first | (with_reducible assumption) | assumption)
                      obtain ⟨ad185, e185, hx185_0⟩ := Kd.at_int (Kd.R_reads' HO_3.out).2.2 (ji12) p185 q185
                      cases e185
                      replace p185 := eq_true p185
                      replace q185 := eq_true q185
                      go_wp2
                      go_roundg k1
                      case measure => have := HK1.out; omega
                      case rel => exact ⟨(x3_1), (wrap64 (x10_1 + 1)), (by first | rfl | (simp; done) | (simp [*]; done)), H', ⟨by have := HK1.out; omega⟩, ⟨by (with_reducible repeat (first | apply Kd.R_alloc | apply Kd.R_drewN | apply Kd.R_drew)); exact HO_3.out⟩, ⟨by (with_reducible repeat (first | apply Kd.R_alloc | apply Kd.R_drewN | apply Kd.R_drew)); exact HO_8.out⟩, ⟨by repeat (first | (with_reducible first | exact HB.out | apply below_alloc | apply pw_below_drewN | apply below_drew1) | exact HB.out)⟩⟩
                    · rw [if_neg c15] at H
                      have c15b0 : ((rd x3_1 (ji12)) == (rd t181 x10_1)) = false := beq_eq_false_iff_ne.mpr c15
                      have c15b1 : ((rd x3_1 (ji12)) != (rd t181 x10_1)) = true := bne_iff_ne.mpr c15
                      by_cases c17 : x3_1.length < 17592186044416
                      · rw [if_pos c17] at H
                        have LMc17 := Aside0.mk c17
                        clear c17
                        obtain ⟨y186, hy186⟩ : ∃ y_ : List Int, y_ = (x3_1 ++ [rd t181 x10_1]) := ⟨_, rfl⟩
                        replace H : (handoffref03_Locks.l0 k1 y186 t181 (t181.length : Int) (wrap64 (x10_1 + 1))) = some r := by first | (rw [hy186]; with_reducible exact H) | (have H2_ := (Option.bind_some _ _).symm.trans H; rw [hy186]; with_reducible exact H2_) | (have H2_ := (Option.bind_some _ _).symm.trans H; with_reducible exact H2_) | with_reducible exact H | (rw [hy186]; exact H) | exact H
                        have Ny186 := Aside0.mk hy186
                        clear hy186
                        have H' := Aside0.mk H
                        clear H
                        have p184 : 0 ≤ (x10_1 : Int) := of_decide_eq_true (by first | (with_reducible assumption) | assumption)
                        have q184 : x10_1 < (t181.length : Int) := of_decide_eq_true (by first | (with_reducible assumption) | assumption)
                        obtain ⟨ad184, e184, hx184_0⟩ := Kd.at_int (Kd.R_reads' HO_8.out).2.2 x10_1 p184 q184
                        cases e184
                        replace p184 := eq_true p184
                        replace q184 := eq_true q184
                        obtain ⟨Ao18, co18, eo18⟩ := Kd.R_slice HO_3.out
                        subst eo18
                        have p185 : 0 ≤ ((ji12) : Int) := of_decide_eq_true (by first | (with_reducible assumption) | assumption)
                        have q185 : (ji12) < (x3_1.length : Int) := of_decide_eq_true (by first | (with_reducible assumption) | assumption)
                        obtain ⟨ad185, e185, hx185_0⟩ := Kd.at_int (Kd.R_reads' HO_3.out).2.2 (ji12) p185 q185
                        cases e185
                        replace p185 := eq_true p185
                        replace q185 := eq_true q185
                        go_wp2_with (first | ((with_reducible refine gate_builtin (b := .append) (xs := #[.tmp 31, .tmp 33]) rfl ?_); (try (refine gate_guard (by rfl) ?_; dsimp only)); at_builtin; refine Kd.R_append (Kd.int .i64) (w0 := w) w.heap.size rfl (.tmp 31) (.tmp 33) 25 3 (.int .i64 0) 8 rfl Try.underlying25 info3 rfl (by decide) (by omega) (.slice (some ad185) x3_1.length co18) x3_1 (rd t181 x10_1) [.int .i64 (rd t181 x10_1)] (fun k_ => some k_ ≠ (.slice (some ad184) t181.length co6 : Value).ownBlock) (fun _ => False) rfl rfl ?aP (fun _ hk => hk.elim) ?aF ?aO ?aB ?aS ?aL ?_; (case aP => exact rfl); (case aB => exact (by repeat (first | (with_reducible first | exact HB.out | apply below_alloc | apply pw_below_drewN | apply below_drew1) | exact HB.out))); (case aF => exact (fun k_ hk => Kd.fresh' (Kd.R_lt (by (with_reducible repeat (first | apply Kd.R_alloc | apply Kd.R_drewN | apply Kd.R_drew)); exact HO_8.out)) k_ hk)); (case aO => exact (by (with_reducible repeat (first | apply Kd.R_alloc | apply Kd.R_drewN | apply Kd.R_drew)); exact HO_3.out)); (case aS => exact (below_size (by repeat (first | (with_reducible first | exact HB.out | apply below_alloc | apply pw_below_drewN | apply below_drew1) | exact HB.out)))); (case aL => have := LMc17.out; omega); intro v187 w19 ho hb hg hat; rw [← Ny186.out] at ho; have n0_ := Aside0.mk (Kd.R_after (ok := (fun _ => True)) (by (with_reducible repeat (first | apply Kd.R_alloc | apply Kd.R_drewN | apply Kd.R_drew)); exact Kd.R_mono HO_8.out (fun _ hk => ⟨trivial, hk⟩)) hg hat); have n1_ := Aside0.mk (hb); have n2_ := Aside0.mk (ho); clear HO_8; clear HB; clear HO_3; have HO_8 := n0_; have HB := n1_; have HO188 := n2_; clear n0_ n1_ n2_; clear ho hb hg hat))
                        go_roundg k1
                        case measure => have := HK1.out; omega
                        case rel => exact ⟨(y186), (wrap64 (x10_1 + 1)), (by first | rfl | (simp; done) | (simp [*]; done)), H', ⟨by have := HK1.out; omega⟩, ⟨by (with_reducible repeat (first | apply Kd.R_alloc | apply Kd.R_drewN | apply Kd.R_drew)); exact HO188.out⟩, ⟨by (with_reducible repeat (first | apply Kd.R_alloc | apply Kd.R_drewN | apply Kd.R_drew)); exact Kd.R_mono HO_8.out (fun _ hk => hk.2)⟩, ⟨by repeat (first | (with_reducible first | exact HB.out | apply below_alloc | apply pw_below_drewN | apply below_drew1) | exact HB.out)⟩⟩
                      · rw [if_neg c17] at H
                        exact absurd H (by simp)
                  · rw [if_neg c14] at H
                    exact absurd H (by simp)
                · rw [if_neg c13] at H
                  exact absurd H (by simp)
              · rw [if_neg c11] at H
                have c11b0 : decide (0 < (x3_1.length : Int)) = false := decide_eq_false c11
                have c11b1 : decide (0 < x3_1.length) = false := decide_eq_false (by omega)
                clear c11
                by_cases c20 : x3_1.length < 17592186044416
                · rw [if_pos c20] at H
                  have LMc20 := Aside0.mk c20
                  clear c20
                  obtain ⟨y189, hy189⟩ : ∃ y_ : List Int, y_ = (x3_1 ++ [rd t181 x10_1]) := ⟨_, rfl⟩
                  replace H : (handoffref03_Locks.l0 k1 y189 t181 (t181.length : Int) (wrap64 (x10_1 + 1))) = some r := by first | (rw [hy189]; with_reducible exact H) | (have H2_ := (Option.bind_some _ _).symm.trans H; rw [hy189]; with_reducible exact H2_) | (have H2_ := (Option.bind_some _ _).symm.trans H; with_reducible exact H2_) | with_reducible exact H | (rw [hy189]; exact H) | exact H
                  have Ny189 := Aside0.mk hy189
                  clear hy189
                  have H' := Aside0.mk H
                  clear H
                  have p184 : 0 ≤ (x10_1 : Int) := of_decide_eq_true (by first | (with_reducible assumption) | assumption)
                  have q184 : x10_1 < (t181.length : Int) := of_decide_eq_true (by first | (with_reducible assumption) | assumption)
                  obtain ⟨ad184, e184, hx184_0⟩ := Kd.at_int (Kd.R_reads' HO_8.out).2.2 x10_1 p184 q184
                  cases e184
                  replace p184 := eq_true p184
                  replace q184 := eq_true q184
                  obtain ⟨Ao21, co21, eo21⟩ := Kd.R_slice HO_3.out
                  subst eo21
                  go_wp2_with (first | ((with_reducible refine gate_builtin (b := .append) (xs := #[.tmp 31, .tmp 33]) rfl ?_); (try (refine gate_guard (by rfl) ?_; dsimp only)); at_builtin; refine Kd.R_append (Kd.int .i64) (w0 := w) w.heap.size rfl (.tmp 31) (.tmp 33) 25 3 (.int .i64 0) 8 rfl Try.underlying25 info3 rfl (by decide) (by omega) (.slice Ao21 x3_1.length co21) x3_1 (rd t181 x10_1) [.int .i64 (rd t181 x10_1)] (fun k_ => some k_ ≠ (.slice (some ad184) t181.length co6 : Value).ownBlock) (fun _ => False) rfl rfl ?aP (fun _ hk => hk.elim) ?aF ?aO ?aB ?aS ?aL ?_; (case aP => exact rfl); (case aB => exact (by repeat (first | (with_reducible first | exact HB.out | apply below_alloc | apply pw_below_drewN | apply below_drew1) | exact HB.out))); (case aF => exact (fun k_ hk => Kd.fresh' (Kd.R_lt (by (with_reducible repeat (first | apply Kd.R_alloc | apply Kd.R_drewN | apply Kd.R_drew)); exact HO_8.out)) k_ hk)); (case aO => exact (by (with_reducible repeat (first | apply Kd.R_alloc | apply Kd.R_drewN | apply Kd.R_drew)); exact HO_3.out)); (case aS => exact (below_size (by repeat (first | (with_reducible first | exact HB.out | apply below_alloc | apply pw_below_drewN | apply below_drew1) | exact HB.out)))); (case aL => have := LMc20.out; omega); intro v190 w22 ho hb hg hat; rw [← Ny189.out] at ho; have n0_ := Aside0.mk (Kd.R_after (ok := (fun _ => True)) (by (with_reducible repeat (first | apply Kd.R_alloc | apply Kd.R_drewN | apply Kd.R_drew)); exact Kd.R_mono HO_8.out (fun _ hk => ⟨trivial, hk⟩)) hg hat); have n1_ := Aside0.mk (hb); have n2_ := Aside0.mk (ho); clear HO_8; clear HB; clear HO_3; have HO_8 := n0_; have HB := n1_; have HO191 := n2_; clear n0_ n1_ n2_; clear ho hb hg hat))
                  go_roundg k1
                  case measure => have := HK1.out; omega
                  case rel => exact ⟨(y189), (wrap64 (x10_1 + 1)), (by first | rfl | (simp; done) | (simp [*]; done)), H', ⟨by have := HK1.out; omega⟩, ⟨by (with_reducible repeat (first | apply Kd.R_alloc | apply Kd.R_drewN | apply Kd.R_drew)); exact HO191.out⟩, ⟨by (with_reducible repeat (first | apply Kd.R_alloc | apply Kd.R_drewN | apply Kd.R_drew)); exact Kd.R_mono HO_8.out (fun _ hk => hk.2)⟩, ⟨by repeat (first | (with_reducible first | exact HB.out | apply below_alloc | apply pw_below_drewN | apply below_drew1) | exact HB.out)⟩⟩
                · rw [if_neg c20] at H
                  exact absurd H (by simp)
          · rw [if_neg c9] at H
            exact absurd H (by simp)
        · rw [if_neg c8] at H
          exact absurd H (by simp)
      · rw [if_neg c7] at H
        have c7b0 : decide (x10_1 < (t181.length : Int)) = false := decide_eq_false c7
        clear c7
        obtain rfl := Option.some.inj H
        go_wp2
        go_ret
        exact ⟨_, by first | rfl | (simp [errW_none, errW_some] <;> rfl) | (simp [*, errW_none, errW_some] <;> rfl), by (with_reducible repeat (first | apply Kd.R_alloc | apply Kd.R_drewN | apply Kd.R_drew)); exact Kd.R_mono HO_3.out (fun _ hk => trivial), by repeat (first | (with_reducible first | exact HB.out | apply below_alloc | apply pw_below_drewN | apply below_drew1) | exact HB.out)⟩

end Go.Proofs.Ytifajoehlgdgaaa.POrder
