-- Out of the translation, by a program of this session.
import Derived.Test.YtfajhdcambkbpaaPPoolRx0
import Derived.Test.YtfajhdcambkbpaaPPoolRx3
import Derived.Test.YtfajhdcambkbpaaPPoolRx5
namespace Go.Proofs.Ytfajhdcambkbpaa.PPoolR
open Go.RowKit Go.Proofs.YtfajhdcambkbpaaW.PrintWords Go.Proofs.YtfajhdcambkbpaaW.PrintLast Go.Proofs.YtfajhdcambkbpaaW.PrintMore
attribute [local go_sem] max2_int min2_int max_two min_two max_three min_three max_four min_four   -- for this text's walks alone
set_option linter.unusedVariables false
set_option linter.unusedSimpArgs false

/-! ### handoffref05_Right: function 17 -/
mutual
def handoffref05_Right.j0 : Nat → Bool → Int → Int → List (List Int) → List Int → Int → Option (Bool)
  | 0, _, _, _, _, _, _ => none
  | k + 1, x28, x228000, x228001, x228002, x228003, x228004 => if x28 = true then (some false) else (handoffref05_Right.l0 k x228002 (x228002.length : Int) 0 x228000 x228001 x228002 x228003 x228004)
def handoffref05_Right.l0 : Nat → List (List Int) → Int → Int → Int → Int → List (List Int) → List Int → Int → Option (Bool)
  | 0, _, _, _, _, _, _, _, _ => none
  | k + 1, x30, x31, x32, x228000, x228001, x228002, x228003, x228004 => if x32 < x31 then (if 0 ≤ x32 then (if x32 < (x30.length : Int) then (if ((rd_L1 x30 x32).length : Int) > x228001 then (some false) else (handoffref05_Right.l0 k x30 x31 (wrap64 (x32 + 1)) x228000 x228001 x228002 x228003 x228004)) else (none)) else (none)) else ((handoffref05_all.f k x228000 x228001 x228002 x228003 x228004).bind fun t230 => (handoffref05_Right.l1 k t230 t230 (t230.length : Int) 0 x228000 x228001 x228002 x228003 x228004))
def handoffref05_Right.l1 : Nat → List Int → List Int → Int → Int → Int → Int → List (List Int) → List Int → Int → Option (Bool)
  | 0, _, _, _, _, _, _, _, _, _ => none
  | k + 1, x5, x44, x45, x46, x228000, x228001, x228002, x228003, x228004 => if x46 < x45 then (if 0 ≤ x46 then (if x46 < (x44.length : Int) then (if (rd x44 x46) < 0 then (some false) else (if (rd x44 x46) ≥ x228004 then (some false) else (if x46 ≤ (x5.length : Int) then ((handoffref05_has.f k (x5.take (x46 : Int).toNat) (rd x44 x46)).bind fun t238 => (if t238 = true then (some false) else (handoffref05_Right.l1 k x5 x44 x45 (wrap64 (x46 + 1)) x228000 x228001 x228002 x228003 x228004))) else (none)))) else (none)) else (none)) else (some true)
end
def handoffref05_Right.f (k : Nat) (a0_0 : Int) (a0_1 : Int) (l0_2 : List (List Int)) (l0_3 : List Int) (a0_4 : Int) : Option (Bool) := (handoffref05_Can.f a0_0 (l0_2.length : Int) a0_1).bind fun t228 => (if t228 = true then (if a0_4 < 0 then (handoffref05_Right.j0 k true a0_0 a0_1 l0_2 l0_3 a0_4) else (handoffref05_Right.j0 k (decide (a0_4 > a0_0)) a0_0 a0_1 l0_2 l0_3 a0_4)) else (handoffref05_Right.j0 k true a0_0 a0_1 l0_2 l0_3 a0_4))
theorem handoffref05_Right.mono_l : ∀ k, (∀ y0 y1 y2 y3 y4 y5, LeO (handoffref05_Right.j0 k y0 y1 y2 y3 y4 y5) (handoffref05_Right.j0 (k + 1) y0 y1 y2 y3 y4 y5)) ∧ (∀ y0 y1 y2 y3 y4 y5 y6 y7, LeO (handoffref05_Right.l0 k y0 y1 y2 y3 y4 y5 y6 y7) (handoffref05_Right.l0 (k + 1) y0 y1 y2 y3 y4 y5 y6 y7)) ∧ (∀ y0 y1 y2 y3 y4 y5 y6 y7 y8, LeO (handoffref05_Right.l1 k y0 y1 y2 y3 y4 y5 y6 y7 y8) (handoffref05_Right.l1 (k + 1) y0 y1 y2 y3 y4 y5 y6 y7 y8))
  | 0 => ⟨fun _ _ _ _ _ _ r h => by simp [handoffref05_Right.j0] at h, fun _ _ _ _ _ _ _ _ r h => by simp [handoffref05_Right.l0] at h, fun _ _ _ _ _ _ _ _ _ r h => by simp [handoffref05_Right.l1] at h⟩
  | k + 1 => by
    obtain ⟨ih0, ih1, ih2⟩ := handoffref05_Right.mono_l k
    refine ⟨?_, ?_, ?_⟩
    · intro y0 y1 y2 y3 y4 y5
      unfold handoffref05_Right.j0
      repeat' first
      | (with_reducible exact ih0 _ _ _ _ _ _)
      | (with_reducible exact ih1 _ _ _ _ _ _ _ _)
      | (with_reducible exact ih2 _ _ _ _ _ _ _ _ _)
      | (with_reducible exact handoffref05_all.mono _ _ _ _ _ _)
      | (with_reducible exact handoffref05_has.mono _ _ _)
      | (with_reducible exact LeO.refl _)
      | (with_reducible exact LeO.none _)
      | (with_reducible refine LeO.ite ?_ ?_)
      | (with_reducible refine LeO.bind ?_ (fun _ => ?_))
      | exact ih0 _ _ _ _ _ _
      | exact ih1 _ _ _ _ _ _ _ _
      | exact ih2 _ _ _ _ _ _ _ _ _
      | exact handoffref05_all.mono _ _ _ _ _ _
      | exact handoffref05_has.mono _ _ _
      | exact LeO.none _
      | refine LeO.ite ?_ ?_
      | refine LeO.bind ?_ (fun _ => ?_)
    · intro y0 y1 y2 y3 y4 y5 y6 y7
      unfold handoffref05_Right.l0
      repeat' first
      | (with_reducible exact ih0 _ _ _ _ _ _)
      | (with_reducible exact ih1 _ _ _ _ _ _ _ _)
      | (with_reducible exact ih2 _ _ _ _ _ _ _ _ _)
      | (with_reducible exact handoffref05_all.mono _ _ _ _ _ _)
      | (with_reducible exact handoffref05_has.mono _ _ _)
      | (with_reducible exact LeO.refl _)
      | (with_reducible exact LeO.none _)
      | (with_reducible refine LeO.ite ?_ ?_)
      | (with_reducible refine LeO.bind ?_ (fun _ => ?_))
      | exact ih0 _ _ _ _ _ _
      | exact ih1 _ _ _ _ _ _ _ _
      | exact ih2 _ _ _ _ _ _ _ _ _
      | exact handoffref05_all.mono _ _ _ _ _ _
      | exact handoffref05_has.mono _ _ _
      | exact LeO.none _
      | refine LeO.ite ?_ ?_
      | refine LeO.bind ?_ (fun _ => ?_)
    · intro y0 y1 y2 y3 y4 y5 y6 y7 y8
      unfold handoffref05_Right.l1
      repeat' first
      | (with_reducible exact ih0 _ _ _ _ _ _)
      | (with_reducible exact ih1 _ _ _ _ _ _ _ _)
      | (with_reducible exact ih2 _ _ _ _ _ _ _ _ _)
      | (with_reducible exact handoffref05_all.mono _ _ _ _ _ _)
      | (with_reducible exact handoffref05_has.mono _ _ _)
      | (with_reducible exact LeO.refl _)
      | (with_reducible exact LeO.none _)
      | (with_reducible refine LeO.ite ?_ ?_)
      | (with_reducible refine LeO.bind ?_ (fun _ => ?_))
      | exact ih0 _ _ _ _ _ _
      | exact ih1 _ _ _ _ _ _ _ _
      | exact ih2 _ _ _ _ _ _ _ _ _
      | exact handoffref05_all.mono _ _ _ _ _ _
      | exact handoffref05_has.mono _ _ _
      | exact LeO.none _
      | refine LeO.ite ?_ ?_
      | refine LeO.bind ?_ (fun _ => ?_)
theorem handoffref05_Right.mono : ∀ a0 a1 a2 a3 a4 k, LeO (handoffref05_Right.f k a0 a1 a2 a3 a4) (handoffref05_Right.f (k + 1) a0 a1 a2 a3 a4) := by
  intro a0 a1 a2 a3 a4 k
  obtain ⟨ih0, ih1, ih2⟩ := handoffref05_Right.mono_l k
  unfold handoffref05_Right.f
  repeat' first
      | (with_reducible exact ih0 _ _ _ _ _ _)
      | (with_reducible exact ih1 _ _ _ _ _ _ _ _)
      | (with_reducible exact ih2 _ _ _ _ _ _ _ _ _)
      | (with_reducible exact handoffref05_all.mono _ _ _ _ _ _)
      | (with_reducible exact handoffref05_has.mono _ _ _)
      | (with_reducible exact LeO.refl _)
      | (with_reducible exact LeO.none _)
      | (with_reducible refine LeO.ite ?_ ?_)
      | (with_reducible refine LeO.bind ?_ (fun _ => ?_))
      | exact ih0 _ _ _ _ _ _
      | exact ih1 _ _ _ _ _ _ _ _
      | exact ih2 _ _ _ _ _ _ _ _ _
      | exact handoffref05_all.mono _ _ _ _ _ _
      | exact handoffref05_has.mono _ _ _
      | exact LeO.none _
      | refine LeO.ite ?_ ?_
      | refine LeO.bind ?_ (fun _ => ?_)
set_option maxHeartbeats 8000000 in
set_option maxRecDepth 100000 in
theorem handoffref05_Right.calls (k : Nat) (a0_0 : Int) (a0_1 : Int) (A0_2 : Option Addr) (c0_2 : Nat) (l0_2 : List (List Int)) (A0_3 : Option Addr) (c0_3 : Nat) (l0_3 : List Int) (a0_4 : Int) (r : Bool) (w : World) (hr0_2 : Kd.C (Kd.slice 3 (Kd.int .i64)) w A0_2 l0_2.length l0_2) (hc0_2 : l0_2.length ≤ c0_2) (hr0_3 : Kd.C (Kd.int .i64) w A0_3 l0_3.length l0_3) (hc0_3 : l0_3.length ≤ c0_3) (h : handoffref05_Right.f k a0_0 a0_1 l0_2 l0_3 a0_4 = some r) :
    Calls Try.prog 17 #[.agg #[.int .i64 a0_0, .int .i64 a0_1, .slice A0_2 l0_2.length c0_2, .slice A0_3 l0_3.length c0_3, .int .i64 a0_4]] w fun e w' => e = .returned (.bool r) ∧ Below w.heap.size w w' := by
  have hu30 := Try.underlying30
  have HR0_2 := Aside0.mk hr0_2
  have HC0_2 := Aside0.mk hc0_2
  clear hr0_2 hc0_2
  have HR0_3 := Aside0.mk hr0_3
  have HC0_3 := Aside0.mk hc0_3
  clear hr0_3 hc0_3
  have HB := Aside0.mk (Below.refl w.heap.size w)
  have H : ((handoffref05_Can.f a0_0 (l0_2.length : Int) a0_1).bind fun t228 => (if t228 = true then (if a0_4 < 0 then (handoffref05_Right.j0 k true a0_0 a0_1 l0_2 l0_3 a0_4) else (handoffref05_Right.j0 k (decide (a0_4 > a0_0)) a0_0 a0_1 l0_2 l0_3 a0_4)) else (handoffref05_Right.j0 k true a0_0 a0_1 l0_2 l0_3 a0_4))) = some r := h
  clear h
  have HC2 := Aside0.mk H
  clear H
  go_enter Try.func17, Try.ntmps17
  go_upto_region 1 with (first | ((with_reducible refine gate_dst (N := 1) rfl ?_); refine box_event ?hg (N := 1) ?hd (cs := #[.int .i64 a0_0, .int .i64 a0_1, .slice A0_2 l0_2.length c0_2, .slice A0_3 l0_3.length c0_3, .int .i64 a0_4]) (t := 30) ?hr ?_; (case hd => rfl); (case hg => rfl); (case hr => first | (go_simp; done) | (go_simp; rfl)); intro gb227 hg w3 hbox hb; have n0_ := Aside0.mk (below_step (by repeat (first | (with_reducible first | exact HB.out | apply below_alloc | apply pw_below_drewN | apply below_drew1) | exact HB.out)) hb); have n1_ := Aside0.mk (hbox); have n2_ := Aside0.mk ((by rw [hg]; exact (below_size (by repeat (first | (with_reducible first | exact HB.out | apply below_alloc | apply pw_below_drewN | apply below_drew1) | exact HB.out))) : w.heap.size ≤ gb227)); have n3_ := Aside0.mk ((by rw [hg]; exact (below_size (by repeat (first | (with_reducible first | exact HB.out | apply below_alloc | apply pw_below_drewN | apply below_drew1) | exact HB.out))) : w.heap.size ≤ gb227)); clear HB; have HB := n0_; have BK227 := n1_; have GW227 := n2_; have GE227 := n3_; clear n0_ n1_ n2_ n3_; clear hb hbox hg))
  (try simp only [Act.put, List.setIfInBounds_toArray, List.set_cons_zero, List.set_cons_succ])
  go_cut [28] (fun v28 wc => ∃ (kq : Nat) (x28_1 : Bool), v28 = .bool x28_1 ∧ Aside0 (handoffref05_Right.j0 kq x28_1 a0_0 a0_1 l0_2 l0_3 a0_4 = some r) ∧ Aside0 (kq ≤ k) ∧ Aside0 (wc.heap[gb227]? = some (.cells #[.int .i64 a0_0, .int .i64 a0_1, (.slice A0_2 l0_2.length c0_2), (.slice A0_3 l0_3.length c0_3), .int .i64 a0_4] 30 (0, 0))) ∧ Aside0 (Below w.heap.size w wc))
  case first =>
    have H := HC2.out
    clear HC2
    replace H := Option.bind_eq_some_iff.mp H
    obtain ⟨t228, A40, H⟩ := H
    replace H : (if t228 = true then (if a0_4 < 0 then (handoffref05_Right.j0 k true a0_0 a0_1 l0_2 l0_3 a0_4) else (handoffref05_Right.j0 k (decide (a0_4 > a0_0)) a0_0 a0_1 l0_2 l0_3 a0_4)) else (handoffref05_Right.j0 k true a0_0 a0_1 l0_2 l0_3 a0_4)) = some r := H
    have A4 := Aside0.mk A40
    clear A40
    by_cases c5 : t228 = true
    · subst c5
      have H1 : (if a0_4 < 0 then (handoffref05_Right.j0 k true a0_0 a0_1 l0_2 l0_3 a0_4) else (handoffref05_Right.j0 k (decide (a0_4 > a0_0)) a0_0 a0_1 l0_2 l0_3 a0_4)) = some r := by rw [if_pos rfl] at H; exact H
      clear H
      have H := H1
      clear H1
      by_cases c6 : a0_4 < 0
      · rw [if_pos c6] at H
        have c6b0 : decide (a0_4 < 0) = true := decide_eq_true c6
        clear c6
        (first | rw [c6b0] | (simp only [i64_w, i32_w]; rw [c6b0]) | skip)
        have H' := Aside0.mk H
        clear H
        have hcz7_0 : w3.cell? ⟨gb227, 0, none⟩ = some (.int .i64 a0_0) := (blk_cell BK227.out 0).trans rfl
        have hcz7_1 : w3.cell? ⟨gb227, 1, none⟩ = some (.int .i64 a0_1) := (blk_cell BK227.out 1).trans rfl
        have hcz7_2 : w3.cell? ⟨gb227, 2, none⟩ = some (.slice A0_2 l0_2.length c0_2) := (blk_cell BK227.out 2).trans rfl
        have hcz7_3 : w3.cell? ⟨gb227, 3, none⟩ = some (.slice A0_3 l0_3.length c0_3) := (blk_cell BK227.out 3).trans rfl
        have hcz7_4 : w3.cell? ⟨gb227, 4, none⟩ = some (.int .i64 a0_4) := (blk_cell BK227.out 4).trans rfl
        have hfz7_0 := blk_frozen BK227.out 0
        have hfz7_1 := blk_frozen BK227.out 1
        have hfz7_2 := blk_frozen BK227.out 2
        have hfz7_3 := blk_frozen BK227.out 3
        have hfz7_4 := blk_frozen BK227.out 4
        go_wp2_with (first | ((with_reducible refine gate_callee (f := 16) rfl ?_); refine goesL_ (some 15) rfl rfl Try.func16 (by kernel_rfl) rfl #[.int .i64 a0_0, .int .i64 (l0_2.length : Int), .int .i64 a0_1] rfl (by (try simp only [List.map_toArray, List.map_cons, List.map_nil]); first | done | rfl | (simp only [List.length_drop, List.length_take]; rfl)) ?_; (with_reducible refine (handoffref05_Can.calls a0_0 (l0_2.length : Int) a0_1 true _ A4.out).mono ?_); rintro e w' ⟨rfl, ⟨nd, rfl⟩⟩; refine ⟨_, rfl, ?_⟩))
        go_meet
        case rel => exact ⟨_, (true), (by first | rfl | (simp; done) | (simp [*]; done)), H', ⟨by first | omega | exact Nat.le_refl _⟩, ⟨by (with_reducible repeat (first | refine blk_drewN ?_ _ | refine blk_drew ?_ | refine blk_alloc ?_ _)); exact BK227.out⟩, ⟨by repeat (first | (with_reducible first | exact HB.out | apply below_alloc | apply pw_below_drewN | apply below_drew1 | refine below_set ?_ GE227.out) | exact HB.out)⟩⟩
      · rw [if_neg c6] at H
        have c6b0 : decide (a0_4 < 0) = false := decide_eq_false c6
        clear c6
        (first | rw [c6b0] | (simp only [i64_w, i32_w]; rw [c6b0]) | skip)
        have H' := Aside0.mk H
        clear H
        have hcz8_0 : w3.cell? ⟨gb227, 0, none⟩ = some (.int .i64 a0_0) := (blk_cell BK227.out 0).trans rfl
        have hcz8_1 : w3.cell? ⟨gb227, 1, none⟩ = some (.int .i64 a0_1) := (blk_cell BK227.out 1).trans rfl
        have hcz8_2 : w3.cell? ⟨gb227, 2, none⟩ = some (.slice A0_2 l0_2.length c0_2) := (blk_cell BK227.out 2).trans rfl
        have hcz8_3 : w3.cell? ⟨gb227, 3, none⟩ = some (.slice A0_3 l0_3.length c0_3) := (blk_cell BK227.out 3).trans rfl
        have hcz8_4 : w3.cell? ⟨gb227, 4, none⟩ = some (.int .i64 a0_4) := (blk_cell BK227.out 4).trans rfl
        have hfz8_0 := blk_frozen BK227.out 0
        have hfz8_1 := blk_frozen BK227.out 1
        have hfz8_2 := blk_frozen BK227.out 2
        have hfz8_3 := blk_frozen BK227.out 3
        have hfz8_4 := blk_frozen BK227.out 4
        go_wp2_with (first | ((with_reducible refine gate_callee (f := 16) rfl ?_); refine goesL_ (some 15) rfl rfl Try.func16 (by kernel_rfl) rfl #[.int .i64 a0_0, .int .i64 (l0_2.length : Int), .int .i64 a0_1] rfl (by (try simp only [List.map_toArray, List.map_cons, List.map_nil]); first | done | rfl | (simp only [List.length_drop, List.length_take]; rfl)) ?_; (with_reducible refine (handoffref05_Can.calls a0_0 (l0_2.length : Int) a0_1 true _ A4.out).mono ?_); rintro e w' ⟨rfl, ⟨nd, rfl⟩⟩; refine ⟨_, rfl, ?_⟩))
        go_meet
        case rel => exact ⟨_, (decide (a0_4 > a0_0)), (by first | rfl | (simp; done) | (simp [*]; done)), H', ⟨by first | omega | exact Nat.le_refl _⟩, ⟨by (with_reducible repeat (first | refine blk_drewN ?_ _ | refine blk_drew ?_ | refine blk_alloc ?_ _)); exact BK227.out⟩, ⟨by repeat (first | (with_reducible first | exact HB.out | apply below_alloc | apply pw_below_drewN | apply below_drew1 | refine below_set ?_ GE227.out) | exact HB.out)⟩⟩
    · replace c5 := Bool.eq_false_iff.mpr c5
      subst c5
      have H1 : (handoffref05_Right.j0 k true a0_0 a0_1 l0_2 l0_3 a0_4) = some r := by rw [if_neg (show ¬ (false = true) by decide)] at H; exact H
      clear H
      have H := H1
      clear H1
      have H' := Aside0.mk H
      clear H
      have hcz9_0 : w3.cell? ⟨gb227, 0, none⟩ = some (.int .i64 a0_0) := (blk_cell BK227.out 0).trans rfl
      have hcz9_1 : w3.cell? ⟨gb227, 1, none⟩ = some (.int .i64 a0_1) := (blk_cell BK227.out 1).trans rfl
      have hcz9_2 : w3.cell? ⟨gb227, 2, none⟩ = some (.slice A0_2 l0_2.length c0_2) := (blk_cell BK227.out 2).trans rfl
      have hcz9_3 : w3.cell? ⟨gb227, 3, none⟩ = some (.slice A0_3 l0_3.length c0_3) := (blk_cell BK227.out 3).trans rfl
      have hcz9_4 : w3.cell? ⟨gb227, 4, none⟩ = some (.int .i64 a0_4) := (blk_cell BK227.out 4).trans rfl
      have hfz9_0 := blk_frozen BK227.out 0
      have hfz9_1 := blk_frozen BK227.out 1
      have hfz9_2 := blk_frozen BK227.out 2
      have hfz9_3 := blk_frozen BK227.out 3
      have hfz9_4 := blk_frozen BK227.out 4
      go_wp2_with (first | ((with_reducible refine gate_callee (f := 16) rfl ?_); refine goesL_ (some 15) rfl rfl Try.func16 (by kernel_rfl) rfl #[.int .i64 a0_0, .int .i64 (l0_2.length : Int), .int .i64 a0_1] rfl (by (try simp only [List.map_toArray, List.map_cons, List.map_nil]); first | done | rfl | (simp only [List.length_drop, List.length_take]; rfl)) ?_; (with_reducible refine (handoffref05_Can.calls a0_0 (l0_2.length : Int) a0_1 false _ A4.out).mono ?_); rintro e w' ⟨rfl, ⟨nd, rfl⟩⟩; refine ⟨_, rfl, ?_⟩))
      go_meet
      case rel => exact ⟨_, (true), (by first | rfl | (simp; done) | (simp [*]; done)), H', ⟨by first | omega | exact Nat.le_refl _⟩, ⟨by (with_reducible repeat (first | refine blk_drewN ?_ _ | refine blk_drew ?_ | refine blk_alloc ?_ _)); exact BK227.out⟩, ⟨by repeat (first | (with_reducible first | exact HB.out | apply below_alloc | apply pw_below_drewN | apply below_drew1 | refine below_set ?_ GE227.out) | exact HB.out)⟩⟩
  case rest =>
    clear HC2
    try clear c1
    try clear p2
    try clear c5
    try clear c6
    try clear c6b0
    try clear hcz7_0
    try clear hcz7_1
    try clear hcz7_2
    try clear hcz7_3
    try clear hcz7_4
    try clear hcz8_0
    try clear hcz8_1
    try clear hcz8_2
    try clear hcz8_3
    try clear hcz8_4
    try clear hcz9_0
    try clear hcz9_1
    try clear hcz9_2
    try clear hcz9_3
    try clear hcz9_4
    try clear hfz7_0
    try clear hfz7_1
    try clear hfz7_2
    try clear hfz7_3
    try clear hfz7_4
    try clear hfz8_0
    try clear hfz8_1
    try clear hfz8_2
    try clear hfz8_3
    try clear hfz8_4
    try clear hfz9_0
    try clear hfz9_1
    try clear hfz9_2
    try clear hfz9_3
    try clear hfz9_4
    obtain ⟨kq, x28_1, rfl, HA, HJ1, BK227, HB⟩ := hcut
    cases kq with
    | zero => exact absurd HA.out (by simp [handoffref05_Right.j0])
    | succ kj1 =>
      have H := HA.out
      clear HA
      simp only [handoffref05_Right.j0] at H
      by_cases c10 : x28_1 = true
      · subst c10
        have H1 : (some false) = some r := by rw [if_pos rfl] at H; exact H
        clear H
        have H := H1
        clear H1
        obtain rfl := Option.some.inj H
        go_wp2
        go_ret
        exact ⟨by first | rfl | (simp [errW_none, errW_some] <;> rfl) | (simp [*, errW_none, errW_some] <;> rfl), by repeat (first | (with_reducible first | exact HB.out | apply below_alloc | apply pw_below_drewN | apply below_drew1 | refine below_set ?_ GE227.out) | exact HB.out)⟩
      · replace c10 := Bool.eq_false_iff.mpr c10
        subst c10
        have H1 : (handoffref05_Right.l0 kj1 l0_2 (l0_2.length : Int) 0 a0_0 a0_1 l0_2 l0_3 a0_4) = some r := by rw [if_neg (show ¬ (false = true) by decide)] at H; exact H
        clear H
        have H := H1
        clear H1
        have H' := Aside0.mk H
        clear H
        have hcz11_0 : wc.cell? ⟨gb227, 0, none⟩ = some (.int .i64 a0_0) := (blk_cell BK227.out 0).trans rfl
        have hcz11_1 : wc.cell? ⟨gb227, 1, none⟩ = some (.int .i64 a0_1) := (blk_cell BK227.out 1).trans rfl
        have hcz11_2 : wc.cell? ⟨gb227, 2, none⟩ = some (.slice A0_2 l0_2.length c0_2) := (blk_cell BK227.out 2).trans rfl
        have hcz11_3 : wc.cell? ⟨gb227, 3, none⟩ = some (.slice A0_3 l0_3.length c0_3) := (blk_cell BK227.out 3).trans rfl
        have hcz11_4 : wc.cell? ⟨gb227, 4, none⟩ = some (.int .i64 a0_4) := (blk_cell BK227.out 4).trans rfl
        have hfz11_0 := blk_frozen BK227.out 0
        have hfz11_1 := blk_frozen BK227.out 1
        have hfz11_2 := blk_frozen BK227.out 2
        have hfz11_3 := blk_frozen BK227.out 3
        have hfz11_4 := blk_frozen BK227.out 4
        go_wp2
        go_loopg [32] kj1 (fun kq v32 w' => ∃ (x32_2 : Int), v32 = .int .i64 x32_2 ∧ Aside0 (handoffref05_Right.l0 kq l0_2 (l0_2.length : Int) x32_2 a0_0 a0_1 l0_2 l0_3 a0_4 = some r) ∧ Aside0 (kq ≤ kj1) ∧ Aside0 (w'.heap[gb227]? = some (.cells #[.int .i64 a0_0, .int .i64 a0_1, (.slice A0_2 l0_2.length c0_2), (.slice A0_3 l0_3.length c0_3), .int .i64 a0_4] 30 (0, 0))) ∧ Aside0 (Below w.heap.size w w'))
        case atStart => exact ⟨(0), (by first | rfl | (simp; done) | (simp [*]; done)), H', ⟨Nat.le_refl _⟩, ⟨by (with_reducible repeat (first | refine blk_drewN ?_ _ | refine blk_drew ?_ | refine blk_alloc ?_ _)); exact BK227.out⟩, ⟨by repeat (first | (with_reducible first | exact HB.out | apply below_alloc | apply pw_below_drewN | apply below_drew1 | refine below_set ?_ GE227.out) | exact HB.out)⟩⟩
        case round =>
          clear H'
          try clear c1
          try clear p2
          try clear c5
          try clear c6
          try clear c6b0
          try clear c10
          try clear hcz11_0
          try clear hcz11_1
          try clear hcz11_2
          try clear hcz11_3
          try clear hcz11_4
          try clear hcz7_0
          try clear hcz7_1
          try clear hcz7_2
          try clear hcz7_3
          try clear hcz7_4
          try clear hcz8_0
          try clear hcz8_1
          try clear hcz8_2
          try clear hcz8_3
          try clear hcz8_4
          try clear hcz9_0
          try clear hcz9_1
          try clear hcz9_2
          try clear hcz9_3
          try clear hcz9_4
          try clear hfz11_0
          try clear hfz11_1
          try clear hfz11_2
          try clear hfz11_3
          try clear hfz11_4
          try clear hfz7_0
          try clear hfz7_1
          try clear hfz7_2
          try clear hfz7_3
          try clear hfz7_4
          try clear hfz8_0
          try clear hfz8_1
          try clear hfz8_2
          try clear hfz8_3
          try clear hfz8_4
          try clear hfz9_0
          try clear hfz9_1
          try clear hfz9_2
          try clear hfz9_3
          try clear hfz9_4
          try clear p2
          obtain ⟨x32_2, rfl, HA, HK2, BK227, HB⟩ := hrel
          cases gk with
          | zero => exact absurd HA.out (by simp [handoffref05_Right.l0])
          | succ k2 =>
            have H := HA.out
            clear HA
            simp only [handoffref05_Right.l0] at H
            by_cases c12 : x32_2 < (l0_2.length : Int)
            · rw [if_pos c12] at H
              have c12b0 : decide (x32_2 < (l0_2.length : Int)) = true := decide_eq_true c12
              clear c12
              by_cases c13 : 0 ≤ x32_2
              · rw [if_pos c13] at H
                have c13b0 : decide (0 ≤ x32_2) = true := decide_eq_true c13
                clear c13
                by_cases c14 : x32_2 < (l0_2.length : Int)
                · rw [if_pos c14] at H
                  have c14b0 : decide (x32_2 < (l0_2.length : Int)) = true := decide_eq_true c14
                  clear c14
                  by_cases c15 : ((rd_L1 l0_2 x32_2).length : Int) > a0_1
                  · rw [if_pos c15] at H
                    have c15b0 : decide (a0_1 < ((rd_L1 l0_2 x32_2).length : Int)) = true := decide_eq_true c15
                    clear c15
                    obtain rfl := Option.some.inj H
                    have p229 : 0 ≤ (x32_2 : Int) := of_decide_eq_true (by first | (with_reducible assumption) | assumption)
                    have q229 : x32_2 < (l0_2.length : Int) := of_decide_eq_true (by first | (with_reducible assumption) | assumption)
                    obtain ⟨ad229, A229_0, c229_0, e229, hx229_0, hl229_0, hi229_0⟩ := at_L1 HR0_2.out x32_2 p229 q229
                    cases e229
                    replace hx229_0 := (HB.out.cell (World.block_lt_of_cell? w _ hx229_0)).trans hx229_0
                    have HR229_0 := Aside0.mk hi229_0
                    have HC229_0 := Aside0.mk hl229_0
                    clear hi229_0 hl229_0
                    replace p229 := eq_true p229
                    replace q229 := eq_true q229
                    have hcz16_0 : wr.cell? ⟨gb227, 0, none⟩ = some (.int .i64 a0_0) := (blk_cell BK227.out 0).trans rfl
                    have hcz16_1 : wr.cell? ⟨gb227, 1, none⟩ = some (.int .i64 a0_1) := (blk_cell BK227.out 1).trans rfl
                    have hcz16_2 : wr.cell? ⟨gb227, 2, none⟩ = some (.slice (some ad229) l0_2.length c0_2) := (blk_cell BK227.out 2).trans rfl
                    have hcz16_3 : wr.cell? ⟨gb227, 3, none⟩ = some (.slice A0_3 l0_3.length c0_3) := (blk_cell BK227.out 3).trans rfl
                    have hcz16_4 : wr.cell? ⟨gb227, 4, none⟩ = some (.int .i64 a0_4) := (blk_cell BK227.out 4).trans rfl
                    have hfz16_0 := blk_frozen BK227.out 0
                    have hfz16_1 := blk_frozen BK227.out 1
                    have hfz16_2 := blk_frozen BK227.out 2
                    have hfz16_3 := blk_frozen BK227.out 3
                    have hfz16_4 := blk_frozen BK227.out 4
                    go_wp2
                    go_ret
                    exact ⟨by first | rfl | (simp [errW_none, errW_some] <;> rfl) | (simp [*, errW_none, errW_some] <;> rfl), by repeat (first | (with_reducible first | exact HB.out | apply below_alloc | apply pw_below_drewN | apply below_drew1 | refine below_set ?_ GE227.out) | exact HB.out)⟩
                  · rw [if_neg c15] at H
                    have c15b0 : decide (a0_1 < ((rd_L1 l0_2 x32_2).length : Int)) = false := decide_eq_false c15
                    clear c15
                    have H' := Aside0.mk H
                    clear H
                    have p229 : 0 ≤ (x32_2 : Int) := of_decide_eq_true (by first | (with_reducible assumption) | assumption)
                    have q229 : x32_2 < (l0_2.length : Int) := of_decide_eq_true (by first | (with_reducible assumption) | assumption)
                    obtain ⟨ad229, A229_0, c229_0, e229, hx229_0, hl229_0, hi229_0⟩ := at_L1 HR0_2.out x32_2 p229 q229
                    cases e229
                    replace hx229_0 := (HB.out.cell (World.block_lt_of_cell? w _ hx229_0)).trans hx229_0
                    have HR229_0 := Aside0.mk hi229_0
                    have HC229_0 := Aside0.mk hl229_0
                    clear hi229_0 hl229_0
                    replace p229 := eq_true p229
                    replace q229 := eq_true q229
                    have hcz17_0 : wr.cell? ⟨gb227, 0, none⟩ = some (.int .i64 a0_0) := (blk_cell BK227.out 0).trans rfl
                    have hcz17_1 : wr.cell? ⟨gb227, 1, none⟩ = some (.int .i64 a0_1) := (blk_cell BK227.out 1).trans rfl
                    have hcz17_2 : wr.cell? ⟨gb227, 2, none⟩ = some (.slice (some ad229) l0_2.length c0_2) := (blk_cell BK227.out 2).trans rfl
                    have hcz17_3 : wr.cell? ⟨gb227, 3, none⟩ = some (.slice A0_3 l0_3.length c0_3) := (blk_cell BK227.out 3).trans rfl
                    have hcz17_4 : wr.cell? ⟨gb227, 4, none⟩ = some (.int .i64 a0_4) := (blk_cell BK227.out 4).trans rfl
                    have hfz17_0 := blk_frozen BK227.out 0
                    have hfz17_1 := blk_frozen BK227.out 1
                    have hfz17_2 := blk_frozen BK227.out 2
                    have hfz17_3 := blk_frozen BK227.out 3
                    have hfz17_4 := blk_frozen BK227.out 4
                    go_wp2
                    go_roundg k2
                    case measure => have := HJ1.out; have := HK2.out; omega
                    case rel => exact ⟨(wrap64 (x32_2 + 1)), (by first | rfl | (simp; done) | (simp [*]; done)), H', ⟨by have := HJ1.out; have := HK2.out; omega⟩, ⟨by (with_reducible repeat (first | refine blk_drewN ?_ _ | refine blk_drew ?_ | refine blk_alloc ?_ _)); exact BK227.out⟩, ⟨by repeat (first | (with_reducible first | exact HB.out | apply below_alloc | apply pw_below_drewN | apply below_drew1 | refine below_set ?_ GE227.out) | exact HB.out)⟩⟩
                · rw [if_neg c14] at H
                  exact absurd H (by simp)
              · rw [if_neg c13] at H
                exact absurd H (by simp)
            · rw [if_neg c12] at H
              have c12b0 : decide (x32_2 < (l0_2.length : Int)) = false := decide_eq_false c12
              clear c12
              replace H := Option.bind_eq_some_iff.mp H
              obtain ⟨t230, A180, H⟩ := H
              replace H : (handoffref05_Right.l1 k2 t230 t230 (t230.length : Int) 0 a0_0 a0_1 l0_2 l0_3 a0_4) = some r := H
              have A18 := Aside0.mk A180
              clear A180
              have H' := Aside0.mk H
              clear H
              have hcz19_0 : wr.cell? ⟨gb227, 0, none⟩ = some (.int .i64 a0_0) := (blk_cell BK227.out 0).trans rfl
              have hcz19_1 : wr.cell? ⟨gb227, 1, none⟩ = some (.int .i64 a0_1) := (blk_cell BK227.out 1).trans rfl
              have hcz19_2 : wr.cell? ⟨gb227, 2, none⟩ = some (.slice A0_2 l0_2.length c0_2) := (blk_cell BK227.out 2).trans rfl
              have hcz19_3 : wr.cell? ⟨gb227, 3, none⟩ = some (.slice A0_3 l0_3.length c0_3) := (blk_cell BK227.out 3).trans rfl
              have hcz19_4 : wr.cell? ⟨gb227, 4, none⟩ = some (.int .i64 a0_4) := (blk_cell BK227.out 4).trans rfl
              have hfz19_0 := blk_frozen BK227.out 0
              have hfz19_1 := blk_frozen BK227.out 1
              have hfz19_2 := blk_frozen BK227.out 2
              have hfz19_3 := blk_frozen BK227.out 3
              have hfz19_4 := blk_frozen BK227.out 4
              go_wp2_with (first | ((with_reducible refine gate_callee (f := 28) rfl ?_); refine goesL_ (some 43) rfl rfl Try.func28 (by kernel_rfl) rfl #[.agg #[.int .i64 a0_0, .int .i64 a0_1, .slice A0_2 l0_2.length c0_2, .slice A0_3 l0_3.length c0_3, .int .i64 a0_4]] rfl (by (try simp only [List.map_toArray, List.map_cons, List.map_nil]); first | done | rfl | (simp only [List.length_drop, List.length_take]; rfl)) ?_; (with_reducible refine (handoffref05_all.calls k2 a0_0 a0_1 _ _ l0_2 _ _ l0_3 a0_4 t230 _ ?side1 ?side2 ?side3 ?side4 A18.out).mono ?_); (case side1 => repeat (first | exact (Kd.C_below HR0_2.out HB.out) | (with_reducible refine Kd.C_alloc ?_ _) | (with_reducible refine Kd.C_drewN ?_ _) | (with_reducible refine Kd.C_drew ?_))); (case side2 => exact HC0_2.out); (case side3 => repeat (first | exact (Kd.C_below HR0_3.out HB.out) | (with_reducible refine Kd.C_alloc ?_ _) | (with_reducible refine Kd.C_drewN ?_ _) | (with_reducible refine Kd.C_drew ?_))); (case side4 => exact HC0_3.out); rintro e w20 ⟨v231, rfl, ho0, hb⟩; refine ⟨_, rfl, ?_⟩; have n0_ := Aside0.mk (Kd.R_lower ho0 (below_size (by repeat (first | (with_reducible first | exact HB.out | apply below_alloc | apply pw_below_drewN | apply below_drew1 | refine below_set ?_ GE227.out) | exact HB.out)))); have n1_ := Aside0.mk (blk_below (g := gb227) (o := .cells #[.int .i64 a0_0, .int .i64 a0_1, .slice A0_2 l0_2.length c0_2, .slice A0_3 l0_3.length c0_3, .int .i64 a0_4] 30 (0, 0)) (by (with_reducible repeat (first | refine blk_drewN ?_ _ | refine blk_drew ?_ | refine blk_alloc ?_ _)); exact BK227.out) hb); have n2_ := Aside0.mk (below_step (by repeat (first | (with_reducible first | exact HB.out | apply below_alloc | apply pw_below_drewN | apply below_drew1 | refine below_set ?_ GE227.out) | exact HB.out)) hb); clear BK227; clear HB; have HO232 := n0_; have BK227 := n1_; have HB := n2_; clear n0_ n1_ n2_; (try clear hb); (try clear hb2); (try clear hk); (try clear hi); (try clear ho0); obtain ⟨Ao21, co21, eo21⟩ := Kd.R_slice HO232.out; subst eo21))
              go_loopg [46] k2 (fun kq v46 w' => ∃ (x46_3 : Int), v46 = .int .i64 x46_3 ∧ Aside0 (handoffref05_Right.l1 kq t230 t230 (t230.length : Int) x46_3 a0_0 a0_1 l0_2 l0_3 a0_4 = some r) ∧ Aside0 (kq ≤ k2) ∧ Aside0 (Kd.R (Kd.int .i64) 3 w' w.heap.size (fun _ => True) (.slice Ao21 t230.length co21) t230) ∧ Aside0 (Kd.R (Kd.int .i64) 3 w' w.heap.size (fun _ => True) (.slice Ao21 t230.length co21) t230) ∧ Aside0 (w'.heap[gb227]? = some (.cells #[.int .i64 a0_0, .int .i64 a0_1, (.slice A0_2 l0_2.length c0_2), (.slice A0_3 l0_3.length c0_3), .int .i64 a0_4] 30 (0, 0))) ∧ Aside0 (Below w.heap.size w w'))
              case atStart => exact ⟨(0), (by first | rfl | (simp; done) | (simp [*]; done)), H', ⟨Nat.le_refl _⟩, ⟨by (with_reducible repeat (first | apply Kd.R_alloc | apply Kd.R_drewN | apply Kd.R_drew)); exact HO232.out⟩, ⟨by (with_reducible repeat (first | apply Kd.R_alloc | apply Kd.R_drewN | apply Kd.R_drew)); exact HO232.out⟩, ⟨by (with_reducible repeat (first | refine blk_drewN ?_ _ | refine blk_drew ?_ | refine blk_alloc ?_ _)); exact BK227.out⟩, ⟨by repeat (first | (with_reducible first | exact HB.out | apply below_alloc | apply pw_below_drewN | apply below_drew1 | refine below_set ?_ GE227.out) | exact HB.out)⟩⟩
              case round =>
                clear H'
                try clear c1
                try clear c2
                try clear p2
                try clear q2
                try clear hx2
                try clear c5
                try clear c6
                try clear c6b0
                try clear p6
                try clear c10
                try clear c12
                try clear c12b0
                try clear c13
                try clear c13b0
                try clear c14
                try clear c14b0
                try clear c15
                try clear c15b0
                try clear c16
                try clear c17
                try clear hcz11_0
                try clear hcz11_1
                try clear hcz11_2
                try clear hcz11_3
                try clear hcz11_4
                try clear hcz16_0
                try clear hcz16_1
                try clear hcz16_2
                try clear hcz16_3
                try clear hcz16_4
                try clear hcz17_0
                try clear hcz17_1
                try clear hcz17_2
                try clear hcz17_3
                try clear hcz17_4
                try clear hcz19_0
                try clear hcz19_1
                try clear hcz19_2
                try clear hcz19_3
                try clear hcz19_4
                try clear hcz7_0
                try clear hcz7_1
                try clear hcz7_2
                try clear hcz7_3
                try clear hcz7_4
                try clear hcz8_0
                try clear hcz8_1
                try clear hcz8_2
                try clear hcz8_3
                try clear hcz8_4
                try clear hcz9_0
                try clear hcz9_1
                try clear hcz9_2
                try clear hcz9_3
                try clear hcz9_4
                try clear hfz11_0
                try clear hfz11_1
                try clear hfz11_2
                try clear hfz11_3
                try clear hfz11_4
                try clear hfz16_0
                try clear hfz16_1
                try clear hfz16_2
                try clear hfz16_3
                try clear hfz16_4
                try clear hfz17_0
                try clear hfz17_1
                try clear hfz17_2
                try clear hfz17_3
                try clear hfz17_4
                try clear hfz19_0
                try clear hfz19_1
                try clear hfz19_2
                try clear hfz19_3
                try clear hfz19_4
                try clear hfz7_0
                try clear hfz7_1
                try clear hfz7_2
                try clear hfz7_3
                try clear hfz7_4
                try clear hfz8_0
                try clear hfz8_1
                try clear hfz8_2
                try clear hfz8_3
                try clear hfz8_4
                try clear hfz9_0
                try clear hfz9_1
                try clear hfz9_2
                try clear hfz9_3
                try clear hfz9_4
                try clear hx229_0
                try clear p2
                try clear p229
                try clear q229
                obtain ⟨x46_3, rfl, HA, HK3, HO_5, HO_44, BK227, HB⟩ := hrel
                cases gk with
                | zero => exact absurd HA.out (by simp [handoffref05_Right.l1])
                | succ k3 =>
                  have H := HA.out
                  clear HA
                  simp only [handoffref05_Right.l1] at H
                  by_cases c22 : x46_3 < (t230.length : Int)
                  · rw [if_pos c22] at H
                    have c22b0 : decide (x46_3 < (t230.length : Int)) = true := decide_eq_true c22
                    clear c22
                    by_cases c23 : 0 ≤ x46_3
                    · rw [if_pos c23] at H
                      have c23b0 : decide (0 ≤ x46_3) = true := decide_eq_true c23
                      clear c23
                      by_cases c24 : x46_3 < (t230.length : Int)
                      · rw [if_pos c24] at H
                        have c24b0 : decide (x46_3 < (t230.length : Int)) = true := decide_eq_true c24
                        clear c24
                        by_cases c25 : (rd t230 x46_3) < 0
                        · rw [if_pos c25] at H
                          have c25b0 : decide ((rd t230 x46_3) < 0) = true := decide_eq_true c25
                          clear c25
                          obtain rfl := Option.some.inj H
                          have p233 : 0 ≤ (x46_3 : Int) := of_decide_eq_true (by first | (with_reducible assumption) | assumption)
                          have q233 : x46_3 < (t230.length : Int) := of_decide_eq_true (by first | (with_reducible assumption) | assumption)
                          obtain ⟨ad233, e233, hx233_0⟩ := Kd.at_int (Kd.R_reads' HO_44.out).2.2 x46_3 p233 q233
                          cases e233
                          replace p233 := eq_true p233
                          replace q233 := eq_true q233
                          go_wp2
                          go_ret
                          exact ⟨by first | rfl | (simp [errW_none, errW_some] <;> rfl) | (simp [*, errW_none, errW_some] <;> rfl), by repeat (first | (with_reducible first | exact HB.out | apply below_alloc | apply pw_below_drewN | apply below_drew1 | refine below_set ?_ GE227.out) | exact HB.out)⟩
                        · rw [if_neg c25] at H
                          have c25b0 : decide ((rd t230 x46_3) < 0) = false := decide_eq_false c25
                          clear c25
                          by_cases c26 : (rd t230 x46_3) ≥ a0_4
                          · rw [if_pos c26] at H
                            have c26b0 : decide (a0_4 ≤ (rd t230 x46_3)) = true := decide_eq_true c26
                            clear c26
                            obtain rfl := Option.some.inj H
                            have p233 : 0 ≤ (x46_3 : Int) := of_decide_eq_true (by first | (with_reducible assumption) | assumption)
                            have q233 : x46_3 < (t230.length : Int) := of_decide_eq_true (by first | (with_reducible assumption) | assumption)
                            obtain ⟨ad233, e233, hx233_0⟩ := Kd.at_int (Kd.R_reads' HO_44.out).2.2 x46_3 p233 q233
                            cases e233
                            replace p233 := eq_true p233
                            replace q233 := eq_true q233
                            have hcz27_0 : wr.cell? ⟨gb227, 0, none⟩ = some (.int .i64 a0_0) := (blk_cell BK227.out 0).trans rfl
                            have hcz27_1 : wr.cell? ⟨gb227, 1, none⟩ = some (.int .i64 a0_1) := (blk_cell BK227.out 1).trans rfl
                            have hcz27_2 : wr.cell? ⟨gb227, 2, none⟩ = some (.slice A0_2 l0_2.length c0_2) := (blk_cell BK227.out 2).trans rfl
                            have hcz27_3 : wr.cell? ⟨gb227, 3, none⟩ = some (.slice A0_3 l0_3.length c0_3) := (blk_cell BK227.out 3).trans rfl
                            have hcz27_4 : wr.cell? ⟨gb227, 4, none⟩ = some (.int .i64 a0_4) := (blk_cell BK227.out 4).trans rfl
                            have hfz27_0 := blk_frozen BK227.out 0
                            have hfz27_1 := blk_frozen BK227.out 1
                            have hfz27_2 := blk_frozen BK227.out 2
                            have hfz27_3 := blk_frozen BK227.out 3
                            have hfz27_4 := blk_frozen BK227.out 4
                            go_wp2
                            go_ret
                            exact ⟨by first | rfl | (simp [errW_none, errW_some] <;> rfl) | (simp [*, errW_none, errW_some] <;> rfl), by repeat (first | (with_reducible first | exact HB.out | apply below_alloc | apply pw_below_drewN | apply below_drew1 | refine below_set ?_ GE227.out) | exact HB.out)⟩
                          · rw [if_neg c26] at H
                            have c26b0 : decide (a0_4 ≤ (rd t230 x46_3)) = false := decide_eq_false c26
                            clear c26
                            have c28b0 := eq_true (of_decide_eq_true (by first | (with_reducible assumption) | assumption) : 0 ≤ x46_3)
                            by_cases c29 : x46_3 ≤ (t230.length : Int)
                            · rw [if_pos c29] at H
                              have c29b0 := eq_true c29
                              have c29b1 : decide (x46_3 ≤ (t230.length : Int)) = true := decide_eq_true c29
                              clear c29
                              obtain ⟨y234, hy234⟩ : ∃ y_ : List Int, y_ = (t230.take (x46_3 : Int).toNat) := ⟨_, rfl⟩
                              replace H : ((handoffref05_has.f k3 y234 (rd t230 x46_3)).bind fun t238 => (if t238 = true then (some false) else (handoffref05_Right.l1 k3 t230 t230 (t230.length : Int) (wrap64 (x46_3 + 1)) a0_0 a0_1 l0_2 l0_3 a0_4))) = some r := by first | (rw [hy234]; with_reducible exact H) | (have H2_ := (Option.bind_some _ _).symm.trans H; rw [hy234]; with_reducible exact H2_) | (have H2_ := (Option.bind_some _ _).symm.trans H; with_reducible exact H2_) | with_reducible exact H | (rw [hy234]; exact H) | exact H
                              have Ny234 := Aside0.mk hy234
                              clear hy234
                              replace H := Option.bind_eq_some_iff.mp H
                              obtain ⟨t238, A300, H⟩ := H
                              replace H : (if t238 = true then (some false) else (handoffref05_Right.l1 k3 t230 t230 (t230.length : Int) (wrap64 (x46_3 + 1)) a0_0 a0_1 l0_2 l0_3 a0_4)) = some r := H
                              have A30 := Aside0.mk A300
                              clear A300
                              by_cases c31 : t238 = true
                              · subst c31
                                have H1 : (some false) = some r := by rw [if_pos rfl] at H; exact H
                                clear H
                                have H := H1
                                clear H1
                                obtain rfl := Option.some.inj H
                                have p233 : 0 ≤ (x46_3 : Int) := of_decide_eq_true (by first | (with_reducible assumption) | assumption)
                                have q233 : x46_3 < (t230.length : Int) := of_decide_eq_true (by first | (with_reducible assumption) | assumption)
                                obtain ⟨ad233, e233, hx233_0⟩ := Kd.at_int (Kd.R_reads' HO_44.out).2.2 x46_3 p233 q233
                                cases e233
                                replace p233 := eq_true p233
                                replace q233 := eq_true q233
                                have hcz32_0 : wr.cell? ⟨gb227, 0, none⟩ = some (.int .i64 a0_0) := (blk_cell BK227.out 0).trans rfl
                                have hcz32_1 : wr.cell? ⟨gb227, 1, none⟩ = some (.int .i64 a0_1) := (blk_cell BK227.out 1).trans rfl
                                have hcz32_2 : wr.cell? ⟨gb227, 2, none⟩ = some (.slice A0_2 l0_2.length c0_2) := (blk_cell BK227.out 2).trans rfl
                                have hcz32_3 : wr.cell? ⟨gb227, 3, none⟩ = some (.slice A0_3 l0_3.length c0_3) := (blk_cell BK227.out 3).trans rfl
                                have hcz32_4 : wr.cell? ⟨gb227, 4, none⟩ = some (.int .i64 a0_4) := (blk_cell BK227.out 4).trans rfl
                                have hfz32_0 := blk_frozen BK227.out 0
                                have hfz32_1 := blk_frozen BK227.out 1
                                have hfz32_2 := blk_frozen BK227.out 2
                                have hfz32_3 := blk_frozen BK227.out 3
                                have hfz32_4 := blk_frozen BK227.out 4
                                have q33 : (x46_3 : Int) ≤ ((t230.length : Int) : Int) := of_decide_eq_true (by first | (with_reducible assumption) | assumption)
                                obtain ⟨i033, hi033, _, hsz33, _⟩ := info_parts info3
                                have hroom33 : t230.length ≤ co21 := (Kd.R_reads' HO_5.out).2.1
                                have hC33 : Kd.C (Kd.int .i64) _ (some ad233) t230.length t230 := (Kd.R_reads' HO_5.out).2.2
                                have hcut33 := cut_to (P := Try.prog) 28 3 .i64 Try.underlying28 hi033 (some ad233) t230.length co21 x46_3 (of_decide_eq_true (by first | (with_reducible assumption) | assumption)) q33 hroom33
                                have hr33 := Kd.C_take (m := (x46_3 : Int).toNat) hC33 (by omega)
                                have hy33 : y234.length = (x46_3 : Int).toNat := (by rw [Ny234.out, List.length_take]; omega)
                                rw [← Ny234.out] at hr33
                                rw [← hy33] at hcut33
                                have HR237 := Aside0.mk hr33
                                have HC237 := Aside0.mk (show y234.length ≤ co21 from by omega)
                                clear hr33 hC33 hroom33 hi033 hsz33
                                have KY33 := Aside0.mk hy33
                                clear hy33
                                have KL33 := Aside0.mk (show (x46_3 : Int).toNat ≤ t230.length from by omega)
                                replace q33 := eq_true q33
                                go_wp2_with (first | (go_at_call 27; (with_reducible refine (handoffref05_has.calls k3 _ _ y234 (rd t230 x46_3) true _ ?side1 ?side2 A30.out).mono ?_); (case side1 => repeat (first | exact (by repeat (first | (with_reducible exact HR237.out) | (with_reducible refine Kd.C_alloc ?_ _) | (with_reducible refine Kd.C_drewN ?_ _) | (with_reducible refine Kd.C_drew ?_) | exact HR237.out)) | (with_reducible refine Kd.C_alloc ?_ _) | (with_reducible refine Kd.C_drewN ?_ _) | (with_reducible refine Kd.C_drew ?_))); (case side2 => exact HC237.out); rintro e w' ⟨rfl, ⟨nd, rfl⟩⟩))
                                go_ret
                                exact ⟨by first | rfl | (simp [errW_none, errW_some] <;> rfl) | (simp [*, errW_none, errW_some] <;> rfl), by repeat (first | (with_reducible first | exact HB.out | apply below_alloc | apply pw_below_drewN | apply below_drew1 | refine below_set ?_ GE227.out) | exact HB.out)⟩
                              · replace c31 := Bool.eq_false_iff.mpr c31
                                subst c31
                                have H1 : (handoffref05_Right.l1 k3 t230 t230 (t230.length : Int) (wrap64 (x46_3 + 1)) a0_0 a0_1 l0_2 l0_3 a0_4) = some r := by rw [if_neg (show ¬ (false = true) by decide)] at H; exact H
                                clear H
                                have H := H1
                                clear H1
                                have H' := Aside0.mk H
                                clear H
                                have p233 : 0 ≤ (x46_3 : Int) := of_decide_eq_true (by first | (with_reducible assumption) | assumption)
                                have q233 : x46_3 < (t230.length : Int) := of_decide_eq_true (by first | (with_reducible assumption) | assumption)
                                obtain ⟨ad233, e233, hx233_0⟩ := Kd.at_int (Kd.R_reads' HO_44.out).2.2 x46_3 p233 q233
                                cases e233
                                replace p233 := eq_true p233
                                replace q233 := eq_true q233
                                have hcz34_0 : wr.cell? ⟨gb227, 0, none⟩ = some (.int .i64 a0_0) := (blk_cell BK227.out 0).trans rfl
                                have hcz34_1 : wr.cell? ⟨gb227, 1, none⟩ = some (.int .i64 a0_1) := (blk_cell BK227.out 1).trans rfl
                                have hcz34_2 : wr.cell? ⟨gb227, 2, none⟩ = some (.slice A0_2 l0_2.length c0_2) := (blk_cell BK227.out 2).trans rfl
                                have hcz34_3 : wr.cell? ⟨gb227, 3, none⟩ = some (.slice A0_3 l0_3.length c0_3) := (blk_cell BK227.out 3).trans rfl
                                have hcz34_4 : wr.cell? ⟨gb227, 4, none⟩ = some (.int .i64 a0_4) := (blk_cell BK227.out 4).trans rfl
                                have hfz34_0 := blk_frozen BK227.out 0
                                have hfz34_1 := blk_frozen BK227.out 1
                                have hfz34_2 := blk_frozen BK227.out 2
                                have hfz34_3 := blk_frozen BK227.out 3
                                have hfz34_4 := blk_frozen BK227.out 4
                                have q35 : (x46_3 : Int) ≤ ((t230.length : Int) : Int) := of_decide_eq_true (by first | (with_reducible assumption) | assumption)
                                obtain ⟨i035, hi035, _, hsz35, _⟩ := info_parts info3
                                have hroom35 : t230.length ≤ co21 := (Kd.R_reads' HO_5.out).2.1
                                have hC35 : Kd.C (Kd.int .i64) _ (some ad233) t230.length t230 := (Kd.R_reads' HO_5.out).2.2
                                have hcut35 := cut_to (P := Try.prog) 28 3 .i64 Try.underlying28 hi035 (some ad233) t230.length co21 x46_3 (of_decide_eq_true (by first | (with_reducible assumption) | assumption)) q35 hroom35
                                have hr35 := Kd.C_take (m := (x46_3 : Int).toNat) hC35 (by omega)
                                have hy35 : y234.length = (x46_3 : Int).toNat := (by rw [Ny234.out, List.length_take]; omega)
                                rw [← Ny234.out] at hr35
                                rw [← hy35] at hcut35
                                have HR237 := Aside0.mk hr35
                                have HC237 := Aside0.mk (show y234.length ≤ co21 from by omega)
                                clear hr35 hC35 hroom35 hi035 hsz35
                                have KY35 := Aside0.mk hy35
                                clear hy35
                                have KL35 := Aside0.mk (show (x46_3 : Int).toNat ≤ t230.length from by omega)
                                replace q35 := eq_true q35
                                go_wp2_with (first | (go_at_call 27; (with_reducible refine (handoffref05_has.calls k3 _ _ y234 (rd t230 x46_3) false _ ?side1 ?side2 A30.out).mono ?_); (case side1 => repeat (first | exact (by repeat (first | (with_reducible exact HR237.out) | (with_reducible refine Kd.C_alloc ?_ _) | (with_reducible refine Kd.C_drewN ?_ _) | (with_reducible refine Kd.C_drew ?_) | exact HR237.out)) | (with_reducible refine Kd.C_alloc ?_ _) | (with_reducible refine Kd.C_drewN ?_ _) | (with_reducible refine Kd.C_drew ?_))); (case side2 => exact HC237.out); rintro e w' ⟨rfl, ⟨nd, rfl⟩⟩))
                                go_roundg k3
                                case measure => have := HJ1.out; have := HK2.out; have := HK3.out; omega
                                case rel => exact ⟨(wrap64 (x46_3 + 1)), (by first | rfl | (simp; done) | (simp [*]; done)), H', ⟨by have := HJ1.out; have := HK2.out; have := HK3.out; omega⟩, ⟨by (with_reducible repeat (first | apply Kd.R_alloc | apply Kd.R_drewN | apply Kd.R_drew)); exact HO_5.out⟩, ⟨by (with_reducible repeat (first | apply Kd.R_alloc | apply Kd.R_drewN | apply Kd.R_drew)); exact HO_44.out⟩, ⟨by (with_reducible repeat (first | refine blk_drewN ?_ _ | refine blk_drew ?_ | refine blk_alloc ?_ _)); exact BK227.out⟩, ⟨by repeat (first | (with_reducible first | exact HB.out | apply below_alloc | apply pw_below_drewN | apply below_drew1 | refine below_set ?_ GE227.out) | exact HB.out)⟩⟩
                            · rw [if_neg c29] at H
                              exact absurd H (by simp)
                      · rw [if_neg c24] at H
                        exact absurd H (by simp)
                    · rw [if_neg c23] at H
                      exact absurd H (by simp)
                  · rw [if_neg c22] at H
                    have c22b0 : decide (x46_3 < (t230.length : Int)) = false := decide_eq_false c22
                    clear c22
                    obtain rfl := Option.some.inj H
                    go_wp2
                    go_ret
                    exact ⟨by first | rfl | (simp [errW_none, errW_some] <;> rfl) | (simp [*, errW_none, errW_some] <;> rfl), by repeat (first | (with_reducible first | exact HB.out | apply below_alloc | apply pw_below_drewN | apply below_drew1 | refine below_set ?_ GE227.out) | exact HB.out)⟩

-- NOT PRINTED: function 4 (handofflaw05_PoolNew)

end Go.Proofs.Ytfajhdcambkbpaa.PPoolR
