-- Out of the translation, by a program of this session.
import Derived.Test.YtjmpaeckpbpclaaPPlCx0
import Derived.Test.YtjmpaeckpbpclaaPPlCx6
namespace Go.Proofs.Ytjmpaeckpbpclaa.PPlC
open Go.RowKit Go.Proofs.YtjmpaeckpbpclaaW.PrintWords Go.Proofs.YtjmpaeckpbpclaaW.PrintLast Go.Proofs.YtjmpaeckpbpclaaW.PrintMore
attribute [local go_sem] max2_int min2_int max_two min_two max_three min_three max_four min_four   -- for this text's walks alone
set_option linter.unusedVariables false
set_option linter.unusedSimpArgs false

/-! ### handoffref10_RightOp: function 22 -/
mutual
def handoffref10_RightOp.j0 : Nat → Bool → Int → Int → Int → Int → List (S116) → Bool → Option (Bool)
  | 0, _, _, _, _, _, _, _ => none
  | k + 1, x48, x165000, x165001, x165002, x165003, x165004, x165005 => if x48 = true then (some false) else ((handoffref10_HasCh.f x165000).bind fun t165 => (if t165 = true then ((handoffref10_HasV.f x165000).bind fun t166 => (if t166 = true then (if x165000 = 1 then (if x165000 = 9 then (handoffref10_RightOp.j1 k false x165000 x165001 x165002 x165003 x165004 x165005) else (if x165005 = true then (handoffref10_RightOp.j1 k true x165000 x165001 x165002 x165003 x165004 x165005) else (handoffref10_RightOp.j1 k (decide ((x165004.length : Int) > 0)) x165000 x165001 x165002 x165003 x165004 x165005))) else (if x165002 = 0 then (if x165000 = 9 then (handoffref10_RightOp.j1 k false x165000 x165001 x165002 x165003 x165004 x165005) else (if x165005 = true then (handoffref10_RightOp.j1 k true x165000 x165001 x165002 x165003 x165004 x165005) else (handoffref10_RightOp.j1 k (decide ((x165004.length : Int) > 0)) x165000 x165001 x165002 x165003 x165004 x165005))) else (handoffref10_RightOp.j1 k true x165000 x165001 x165002 x165003 x165004 x165005))) else (if x165003 = 0 then (if x165000 = 1 then (if x165000 = 9 then (handoffref10_RightOp.j1 k false x165000 x165001 x165002 x165003 x165004 x165005) else (if x165005 = true then (handoffref10_RightOp.j1 k true x165000 x165001 x165002 x165003 x165004 x165005) else (handoffref10_RightOp.j1 k (decide ((x165004.length : Int) > 0)) x165000 x165001 x165002 x165003 x165004 x165005))) else (if x165002 = 0 then (if x165000 = 9 then (handoffref10_RightOp.j1 k false x165000 x165001 x165002 x165003 x165004 x165005) else (if x165005 = true then (handoffref10_RightOp.j1 k true x165000 x165001 x165002 x165003 x165004 x165005) else (handoffref10_RightOp.j1 k (decide ((x165004.length : Int) > 0)) x165000 x165001 x165002 x165003 x165004 x165005))) else (handoffref10_RightOp.j1 k true x165000 x165001 x165002 x165003 x165004 x165005))) else (handoffref10_RightOp.j1 k true x165000 x165001 x165002 x165003 x165004 x165005)))) else (if x165001 = 0 then ((handoffref10_HasV.f x165000).bind fun t167 => (if t167 = true then (if x165000 = 1 then (if x165000 = 9 then (handoffref10_RightOp.j1 k false x165000 x165001 x165002 x165003 x165004 x165005) else (if x165005 = true then (handoffref10_RightOp.j1 k true x165000 x165001 x165002 x165003 x165004 x165005) else (handoffref10_RightOp.j1 k (decide ((x165004.length : Int) > 0)) x165000 x165001 x165002 x165003 x165004 x165005))) else (if x165002 = 0 then (if x165000 = 9 then (handoffref10_RightOp.j1 k false x165000 x165001 x165002 x165003 x165004 x165005) else (if x165005 = true then (handoffref10_RightOp.j1 k true x165000 x165001 x165002 x165003 x165004 x165005) else (handoffref10_RightOp.j1 k (decide ((x165004.length : Int) > 0)) x165000 x165001 x165002 x165003 x165004 x165005))) else (handoffref10_RightOp.j1 k true x165000 x165001 x165002 x165003 x165004 x165005))) else (if x165003 = 0 then (if x165000 = 1 then (if x165000 = 9 then (handoffref10_RightOp.j1 k false x165000 x165001 x165002 x165003 x165004 x165005) else (if x165005 = true then (handoffref10_RightOp.j1 k true x165000 x165001 x165002 x165003 x165004 x165005) else (handoffref10_RightOp.j1 k (decide ((x165004.length : Int) > 0)) x165000 x165001 x165002 x165003 x165004 x165005))) else (if x165002 = 0 then (if x165000 = 9 then (handoffref10_RightOp.j1 k false x165000 x165001 x165002 x165003 x165004 x165005) else (if x165005 = true then (handoffref10_RightOp.j1 k true x165000 x165001 x165002 x165003 x165004 x165005) else (handoffref10_RightOp.j1 k (decide ((x165004.length : Int) > 0)) x165000 x165001 x165002 x165003 x165004 x165005))) else (handoffref10_RightOp.j1 k true x165000 x165001 x165002 x165003 x165004 x165005))) else (handoffref10_RightOp.j1 k true x165000 x165001 x165002 x165003 x165004 x165005)))) else (handoffref10_RightOp.j1 k true x165000 x165001 x165002 x165003 x165004 x165005))))
def handoffref10_RightOp.j1 : Nat → Bool → Int → Int → Int → Int → List (S116) → Bool → Option (Bool)
  | 0, _, _, _, _, _, _, _ => none
  | k + 1, x93, x165000, x165001, x165002, x165003, x165004, x165005 => if x93 = true then (some false) else (handoffref10_RightOp.l0 k x165004 (x165004.length : Int) 0)
def handoffref10_RightOp.l0 : Nat → List (S116) → Int → Int → Option (Bool)
  | 0, _, _, _ => none
  | k + 1, x95, x96, x97 => if x97 < x96 then (if 0 ≤ x97 then (if x97 < (x95.length : Int) then (if ((rd_T116 x95 x97).f1) < 0 then (some false) else (if ((rd_T116 x95 x97).f1) > 8 then (some false) else (if ((rd_T116 x95 x97).f2) < 0 then (some false) else (if ((rd_T116 x95 x97).f2) > 255 then (some false) else (if ((rd_T116 x95 x97).f0 = true) then (handoffref10_RightOp.l0 k x95 x96 (wrap64 (x97 + 1))) else (if ((rd_T116 x95 x97).f2) = 0 then (handoffref10_RightOp.l0 k x95 x96 (wrap64 (x97 + 1))) else (some false))))))) else (none)) else (none)) else (some true)
end
def handoffref10_RightOp.f (k : Nat) (a0_0 : Int) (a0_1 : Int) (a0_2 : Int) (a0_3 : Int) (l0_4 : List (S116)) (a0_5 : Bool) : Option (Bool) := if a0_0 < 1 then (handoffref10_RightOp.j0 k true a0_0 a0_1 a0_2 a0_3 l0_4 a0_5) else (if a0_0 > 9 then (handoffref10_RightOp.j0 k true a0_0 a0_1 a0_2 a0_3 l0_4 a0_5) else (if a0_1 < 0 then (handoffref10_RightOp.j0 k true a0_0 a0_1 a0_2 a0_3 l0_4 a0_5) else (if a0_1 > 8 then (handoffref10_RightOp.j0 k true a0_0 a0_1 a0_2 a0_3 l0_4 a0_5) else (if a0_2 < 0 then (handoffref10_RightOp.j0 k true a0_0 a0_1 a0_2 a0_3 l0_4 a0_5) else (if a0_2 > 4 then (handoffref10_RightOp.j0 k true a0_0 a0_1 a0_2 a0_3 l0_4 a0_5) else (if a0_3 < 0 then (handoffref10_RightOp.j0 k true a0_0 a0_1 a0_2 a0_3 l0_4 a0_5) else (if a0_3 > 255 then (handoffref10_RightOp.j0 k true a0_0 a0_1 a0_2 a0_3 l0_4 a0_5) else (handoffref10_RightOp.j0 k (decide ((l0_4.length : Int) > 6)) a0_0 a0_1 a0_2 a0_3 l0_4 a0_5))))))))
theorem handoffref10_RightOp.mono_l : ∀ k, (∀ y0 y1 y2 y3 y4 y5 y6, LeO (handoffref10_RightOp.j0 k y0 y1 y2 y3 y4 y5 y6) (handoffref10_RightOp.j0 (k + 1) y0 y1 y2 y3 y4 y5 y6)) ∧ (∀ y0 y1 y2 y3 y4 y5 y6, LeO (handoffref10_RightOp.j1 k y0 y1 y2 y3 y4 y5 y6) (handoffref10_RightOp.j1 (k + 1) y0 y1 y2 y3 y4 y5 y6)) ∧ (∀ y0 y1 y2, LeO (handoffref10_RightOp.l0 k y0 y1 y2) (handoffref10_RightOp.l0 (k + 1) y0 y1 y2))
  | 0 => ⟨fun _ _ _ _ _ _ _ r h => by simp [handoffref10_RightOp.j0] at h, fun _ _ _ _ _ _ _ r h => by simp [handoffref10_RightOp.j1] at h, fun _ _ _ r h => by simp [handoffref10_RightOp.l0] at h⟩
  | k + 1 => by
    obtain ⟨ih0, ih1, ih2⟩ := handoffref10_RightOp.mono_l k
    refine ⟨?_, ?_, ?_⟩
    · intro y0 y1 y2 y3 y4 y5 y6
      unfold handoffref10_RightOp.j0
      repeat' first
      | (with_reducible exact ih0 _ _ _ _ _ _ _)
      | (with_reducible exact ih1 _ _ _ _ _ _ _)
      | (with_reducible exact ih2 _ _ _)
      | (with_reducible exact LeO.refl _)
      | (with_reducible exact LeO.none _)
      | (with_reducible refine LeO.ite ?_ ?_)
      | (with_reducible refine LeO.bind ?_ (fun _ => ?_))
      | exact ih0 _ _ _ _ _ _ _
      | exact ih1 _ _ _ _ _ _ _
      | exact ih2 _ _ _
      | exact LeO.none _
      | refine LeO.ite ?_ ?_
      | refine LeO.bind ?_ (fun _ => ?_)
    · intro y0 y1 y2 y3 y4 y5 y6
      unfold handoffref10_RightOp.j1
      repeat' first
      | (with_reducible exact ih0 _ _ _ _ _ _ _)
      | (with_reducible exact ih1 _ _ _ _ _ _ _)
      | (with_reducible exact ih2 _ _ _)
      | (with_reducible exact LeO.refl _)
      | (with_reducible exact LeO.none _)
      | (with_reducible refine LeO.ite ?_ ?_)
      | (with_reducible refine LeO.bind ?_ (fun _ => ?_))
      | exact ih0 _ _ _ _ _ _ _
      | exact ih1 _ _ _ _ _ _ _
      | exact ih2 _ _ _
      | exact LeO.none _
      | refine LeO.ite ?_ ?_
      | refine LeO.bind ?_ (fun _ => ?_)
    · intro y0 y1 y2
      unfold handoffref10_RightOp.l0
      repeat' first
      | (with_reducible exact ih0 _ _ _ _ _ _ _)
      | (with_reducible exact ih1 _ _ _ _ _ _ _)
      | (with_reducible exact ih2 _ _ _)
      | (with_reducible exact LeO.refl _)
      | (with_reducible exact LeO.none _)
      | (with_reducible refine LeO.ite ?_ ?_)
      | (with_reducible refine LeO.bind ?_ (fun _ => ?_))
      | exact ih0 _ _ _ _ _ _ _
      | exact ih1 _ _ _ _ _ _ _
      | exact ih2 _ _ _
      | exact LeO.none _
      | refine LeO.ite ?_ ?_
      | refine LeO.bind ?_ (fun _ => ?_)
theorem handoffref10_RightOp.mono : ∀ a0 a1 a2 a3 a4 a5 k, LeO (handoffref10_RightOp.f k a0 a1 a2 a3 a4 a5) (handoffref10_RightOp.f (k + 1) a0 a1 a2 a3 a4 a5) := by
  intro a0 a1 a2 a3 a4 a5 k
  obtain ⟨ih0, ih1, ih2⟩ := handoffref10_RightOp.mono_l k
  unfold handoffref10_RightOp.f
  repeat' first
      | (with_reducible exact ih0 _ _ _ _ _ _ _)
      | (with_reducible exact ih1 _ _ _ _ _ _ _)
      | (with_reducible exact ih2 _ _ _)
      | (with_reducible exact LeO.refl _)
      | (with_reducible exact LeO.none _)
      | (with_reducible refine LeO.ite ?_ ?_)
      | (with_reducible refine LeO.bind ?_ (fun _ => ?_))
      | exact ih0 _ _ _ _ _ _ _
      | exact ih1 _ _ _ _ _ _ _
      | exact ih2 _ _ _
      | exact LeO.none _
      | refine LeO.ite ?_ ?_
      | refine LeO.bind ?_ (fun _ => ?_)
set_option maxHeartbeats 8000000 in
set_option maxRecDepth 100000 in
theorem handoffref10_RightOp.calls (k : Nat) (a0_0 : Int) (a0_1 : Int) (a0_2 : Int) (a0_3 : Int) (A0_4 : Option Addr) (c0_4 : Nat) (l0_4 : List (S116)) (a0_5 : Bool) (r : Bool) (w : World) (hr0_4 : Kd.C k116 w A0_4 l0_4.length l0_4) (hc0_4 : l0_4.length ≤ c0_4) (h : handoffref10_RightOp.f k a0_0 a0_1 a0_2 a0_3 l0_4 a0_5 = some r) :
    Calls Try.prog 22 #[.agg #[.int .i64 a0_0, .int .i64 a0_1, .int .i64 a0_2, .int .i64 a0_3, .slice A0_4 l0_4.length c0_4, .bool a0_5]] w fun e w' => e = .returned (.bool r) ∧ Below w.heap.size w w' := by
  have hu39 := Try.underlying39
  have hu116 := Try.underlying116
  have HR0_4 := Aside0.mk hr0_4
  have HC0_4 := Aside0.mk hc0_4
  clear hr0_4 hc0_4
  have HB := Aside0.mk (Below.refl w.heap.size w)
  have H : (if a0_0 < 1 then (handoffref10_RightOp.j0 k true a0_0 a0_1 a0_2 a0_3 l0_4 a0_5) else (if a0_0 > 9 then (handoffref10_RightOp.j0 k true a0_0 a0_1 a0_2 a0_3 l0_4 a0_5) else (if a0_1 < 0 then (handoffref10_RightOp.j0 k true a0_0 a0_1 a0_2 a0_3 l0_4 a0_5) else (if a0_1 > 8 then (handoffref10_RightOp.j0 k true a0_0 a0_1 a0_2 a0_3 l0_4 a0_5) else (if a0_2 < 0 then (handoffref10_RightOp.j0 k true a0_0 a0_1 a0_2 a0_3 l0_4 a0_5) else (if a0_2 > 4 then (handoffref10_RightOp.j0 k true a0_0 a0_1 a0_2 a0_3 l0_4 a0_5) else (if a0_3 < 0 then (handoffref10_RightOp.j0 k true a0_0 a0_1 a0_2 a0_3 l0_4 a0_5) else (if a0_3 > 255 then (handoffref10_RightOp.j0 k true a0_0 a0_1 a0_2 a0_3 l0_4 a0_5) else (handoffref10_RightOp.j0 k (decide ((l0_4.length : Int) > 6)) a0_0 a0_1 a0_2 a0_3 l0_4 a0_5))))))))) = some r := h
  clear h
  have HC2 := Aside0.mk H
  clear H
  go_enter Try.func22, Try.ntmps22
  go_upto_region 1 with (first | ((with_reducible refine gate_dst (N := 1) rfl ?_); (try (refine gate_guard (by rfl) ?_; dsimp only)); refine box_event ?hg (N := 1) ?hd (cs := #[.int .i64 a0_0, .int .i64 a0_1, .int .i64 a0_2, .int .i64 a0_3, .slice A0_4 l0_4.length c0_4, .bool a0_5]) (t := 39) ?hr ?_; (case hd => rfl); (case hg => rfl); (case hr => first | (go_simp; done) | (go_simp; rfl)); intro gb164 hg w3 hbox hb; have n0_ := Aside0.mk (below_step (by repeat (first | (with_reducible first | exact HB.out | apply below_alloc | apply pw_below_drewN | apply below_drew1) | exact HB.out)) hb); have n1_ := Aside0.mk (hbox); have n2_ := Aside0.mk ((by rw [hg]; exact (below_size (by repeat (first | (with_reducible first | exact HB.out | apply below_alloc | apply pw_below_drewN | apply below_drew1) | exact HB.out))) : w.heap.size ≤ gb164)); have n3_ := Aside0.mk ((by rw [hg]; exact (below_size (by repeat (first | (with_reducible first | exact HB.out | apply below_alloc | apply pw_below_drewN | apply below_drew1) | exact HB.out))) : w.heap.size ≤ gb164)); clear HB; have HB := n0_; have BK164 := n1_; have GW164 := n2_; have GE164 := n3_; clear n0_ n1_ n2_ n3_; clear hb hbox hg))
  (try simp only [Act.put, List.setIfInBounds_toArray, List.set_cons_zero, List.set_cons_succ])
  go_cut [48] (fun v48 wc => ∃ (kq : Nat) (x48_1 : Bool), v48 = .bool x48_1 ∧ Aside0 (handoffref10_RightOp.j0 kq x48_1 a0_0 a0_1 a0_2 a0_3 l0_4 a0_5 = some r) ∧ Aside0 (kq ≤ k) ∧ Aside0 (wc.heap[gb164]? = some (.cells #[.int .i64 a0_0, .int .i64 a0_1, .int .i64 a0_2, .int .i64 a0_3, (.slice A0_4 l0_4.length c0_4), .bool a0_5] 39 (0, 0))) ∧ Aside0 (Below w.heap.size w wc))
  case first =>
    have H := HC2.out
    clear HC2
    by_cases c4 : a0_0 < 1
    · rw [if_pos c4] at H
      have c4b0 : decide (a0_0 < 1) = true := decide_eq_true c4
      clear c4
      (first | rw [c4b0] | (simp only [i64_w, i32_w]; rw [c4b0]) | skip)
      have H' := Aside0.mk H
      clear H
      have hcz5_0 : w3.cell? ⟨gb164, 0, none⟩ = some (.int .i64 a0_0) := (blk_cell BK164.out 0).trans rfl
      have hcz5_1 : w3.cell? ⟨gb164, 1, none⟩ = some (.int .i64 a0_1) := (blk_cell BK164.out 1).trans rfl
      have hcz5_2 : w3.cell? ⟨gb164, 2, none⟩ = some (.int .i64 a0_2) := (blk_cell BK164.out 2).trans rfl
      have hcz5_3 : w3.cell? ⟨gb164, 3, none⟩ = some (.int .i64 a0_3) := (blk_cell BK164.out 3).trans rfl
      have hcz5_4 : w3.cell? ⟨gb164, 4, none⟩ = some (.slice A0_4 l0_4.length c0_4) := (blk_cell BK164.out 4).trans rfl
      have hcz5_5 : w3.cell? ⟨gb164, 5, none⟩ = some (.bool a0_5) := (blk_cell BK164.out 5).trans rfl
      have hfz5_0 := blk_frozen BK164.out 0
      have hfz5_1 := blk_frozen BK164.out 1
      have hfz5_2 := blk_frozen BK164.out 2
      have hfz5_3 := blk_frozen BK164.out 3
      have hfz5_4 := blk_frozen BK164.out 4
      have hfz5_5 := blk_frozen BK164.out 5
      as_aux_lemma =>
        go_wp2
        go_meet
        case rel => exact ⟨_, (true), (by first | rfl | (simp; done) | (simp [*]; done)), H', ⟨by first | omega | exact Nat.le_refl _⟩, ⟨by (with_reducible repeat (first | refine blk_drewN ?_ _ | refine blk_drew ?_ | refine blk_alloc ?_ _)); exact BK164.out⟩, ⟨by repeat (first | (with_reducible first | exact HB.out | apply below_alloc | apply pw_below_drewN | apply below_drew1 | refine below_set ?_ GE164.out) | exact HB.out)⟩⟩
    · rw [if_neg c4] at H
      have c4b0 : decide (a0_0 < 1) = false := decide_eq_false c4
      clear c4
      (first | rw [c4b0] | (simp only [i64_w, i32_w]; rw [c4b0]) | skip)
      by_cases c6 : a0_0 > 9
      · rw [if_pos c6] at H
        have c6b0 : decide (9 < a0_0) = true := decide_eq_true c6
        clear c6
        have H' := Aside0.mk H
        clear H
        have hcz7_0 : w3.cell? ⟨gb164, 0, none⟩ = some (.int .i64 a0_0) := (blk_cell BK164.out 0).trans rfl
        have hcz7_1 : w3.cell? ⟨gb164, 1, none⟩ = some (.int .i64 a0_1) := (blk_cell BK164.out 1).trans rfl
        have hcz7_2 : w3.cell? ⟨gb164, 2, none⟩ = some (.int .i64 a0_2) := (blk_cell BK164.out 2).trans rfl
        have hcz7_3 : w3.cell? ⟨gb164, 3, none⟩ = some (.int .i64 a0_3) := (blk_cell BK164.out 3).trans rfl
        have hcz7_4 : w3.cell? ⟨gb164, 4, none⟩ = some (.slice A0_4 l0_4.length c0_4) := (blk_cell BK164.out 4).trans rfl
        have hcz7_5 : w3.cell? ⟨gb164, 5, none⟩ = some (.bool a0_5) := (blk_cell BK164.out 5).trans rfl
        have hfz7_0 := blk_frozen BK164.out 0
        have hfz7_1 := blk_frozen BK164.out 1
        have hfz7_2 := blk_frozen BK164.out 2
        have hfz7_3 := blk_frozen BK164.out 3
        have hfz7_4 := blk_frozen BK164.out 4
        have hfz7_5 := blk_frozen BK164.out 5
        as_aux_lemma =>
          go_wp2
          go_meet
          case rel => exact ⟨_, (true), (by first | rfl | (simp; done) | (simp [*]; done)), H', ⟨by first | omega | exact Nat.le_refl _⟩, ⟨by (with_reducible repeat (first | refine blk_drewN ?_ _ | refine blk_drew ?_ | refine blk_alloc ?_ _)); exact BK164.out⟩, ⟨by repeat (first | (with_reducible first | exact HB.out | apply below_alloc | apply pw_below_drewN | apply below_drew1 | refine below_set ?_ GE164.out) | exact HB.out)⟩⟩
      · rw [if_neg c6] at H
        have c6b0 : decide (9 < a0_0) = false := decide_eq_false c6
        clear c6
        by_cases c8 : a0_1 < 0
        · rw [if_pos c8] at H
          have c8b0 : decide (a0_1 < 0) = true := decide_eq_true c8
          clear c8
          have H' := Aside0.mk H
          clear H
          have hcz9_0 : w3.cell? ⟨gb164, 0, none⟩ = some (.int .i64 a0_0) := (blk_cell BK164.out 0).trans rfl
          have hcz9_1 : w3.cell? ⟨gb164, 1, none⟩ = some (.int .i64 a0_1) := (blk_cell BK164.out 1).trans rfl
          have hcz9_2 : w3.cell? ⟨gb164, 2, none⟩ = some (.int .i64 a0_2) := (blk_cell BK164.out 2).trans rfl
          have hcz9_3 : w3.cell? ⟨gb164, 3, none⟩ = some (.int .i64 a0_3) := (blk_cell BK164.out 3).trans rfl
          have hcz9_4 : w3.cell? ⟨gb164, 4, none⟩ = some (.slice A0_4 l0_4.length c0_4) := (blk_cell BK164.out 4).trans rfl
          have hcz9_5 : w3.cell? ⟨gb164, 5, none⟩ = some (.bool a0_5) := (blk_cell BK164.out 5).trans rfl
          have hfz9_0 := blk_frozen BK164.out 0
          have hfz9_1 := blk_frozen BK164.out 1
          have hfz9_2 := blk_frozen BK164.out 2
          have hfz9_3 := blk_frozen BK164.out 3
          have hfz9_4 := blk_frozen BK164.out 4
          have hfz9_5 := blk_frozen BK164.out 5
          as_aux_lemma =>
            go_wp2
            go_meet
            case rel => exact ⟨_, (true), (by first | rfl | (simp; done) | (simp [*]; done)), H', ⟨by first | omega | exact Nat.le_refl _⟩, ⟨by (with_reducible repeat (first | refine blk_drewN ?_ _ | refine blk_drew ?_ | refine blk_alloc ?_ _)); exact BK164.out⟩, ⟨by repeat (first | (with_reducible first | exact HB.out | apply below_alloc | apply pw_below_drewN | apply below_drew1 | refine below_set ?_ GE164.out) | exact HB.out)⟩⟩
        · rw [if_neg c8] at H
          have c8b0 : decide (a0_1 < 0) = false := decide_eq_false c8
          clear c8
          by_cases c10 : a0_1 > 8
          · rw [if_pos c10] at H
            have c10b0 : decide (8 < a0_1) = true := decide_eq_true c10
            clear c10
            have H' := Aside0.mk H
            clear H
            have hcz11_0 : w3.cell? ⟨gb164, 0, none⟩ = some (.int .i64 a0_0) := (blk_cell BK164.out 0).trans rfl
            have hcz11_1 : w3.cell? ⟨gb164, 1, none⟩ = some (.int .i64 a0_1) := (blk_cell BK164.out 1).trans rfl
            have hcz11_2 : w3.cell? ⟨gb164, 2, none⟩ = some (.int .i64 a0_2) := (blk_cell BK164.out 2).trans rfl
            have hcz11_3 : w3.cell? ⟨gb164, 3, none⟩ = some (.int .i64 a0_3) := (blk_cell BK164.out 3).trans rfl
            have hcz11_4 : w3.cell? ⟨gb164, 4, none⟩ = some (.slice A0_4 l0_4.length c0_4) := (blk_cell BK164.out 4).trans rfl
            have hcz11_5 : w3.cell? ⟨gb164, 5, none⟩ = some (.bool a0_5) := (blk_cell BK164.out 5).trans rfl
            have hfz11_0 := blk_frozen BK164.out 0
            have hfz11_1 := blk_frozen BK164.out 1
            have hfz11_2 := blk_frozen BK164.out 2
            have hfz11_3 := blk_frozen BK164.out 3
            have hfz11_4 := blk_frozen BK164.out 4
            have hfz11_5 := blk_frozen BK164.out 5
            as_aux_lemma =>
              go_wp2
              go_meet
              case rel => exact ⟨_, (true), (by first | rfl | (simp; done) | (simp [*]; done)), H', ⟨by first | omega | exact Nat.le_refl _⟩, ⟨by (with_reducible repeat (first | refine blk_drewN ?_ _ | refine blk_drew ?_ | refine blk_alloc ?_ _)); exact BK164.out⟩, ⟨by repeat (first | (with_reducible first | exact HB.out | apply below_alloc | apply pw_below_drewN | apply below_drew1 | refine below_set ?_ GE164.out) | exact HB.out)⟩⟩
          · rw [if_neg c10] at H
            have c10b0 : decide (8 < a0_1) = false := decide_eq_false c10
            clear c10
            by_cases c12 : a0_2 < 0
            · rw [if_pos c12] at H
              have c12b0 : decide (a0_2 < 0) = true := decide_eq_true c12
              clear c12
              have H' := Aside0.mk H
              clear H
              have hcz13_0 : w3.cell? ⟨gb164, 0, none⟩ = some (.int .i64 a0_0) := (blk_cell BK164.out 0).trans rfl
              have hcz13_1 : w3.cell? ⟨gb164, 1, none⟩ = some (.int .i64 a0_1) := (blk_cell BK164.out 1).trans rfl
              have hcz13_2 : w3.cell? ⟨gb164, 2, none⟩ = some (.int .i64 a0_2) := (blk_cell BK164.out 2).trans rfl
              have hcz13_3 : w3.cell? ⟨gb164, 3, none⟩ = some (.int .i64 a0_3) := (blk_cell BK164.out 3).trans rfl
              have hcz13_4 : w3.cell? ⟨gb164, 4, none⟩ = some (.slice A0_4 l0_4.length c0_4) := (blk_cell BK164.out 4).trans rfl
              have hcz13_5 : w3.cell? ⟨gb164, 5, none⟩ = some (.bool a0_5) := (blk_cell BK164.out 5).trans rfl
              have hfz13_0 := blk_frozen BK164.out 0
              have hfz13_1 := blk_frozen BK164.out 1
              have hfz13_2 := blk_frozen BK164.out 2
              have hfz13_3 := blk_frozen BK164.out 3
              have hfz13_4 := blk_frozen BK164.out 4
              have hfz13_5 := blk_frozen BK164.out 5
              as_aux_lemma =>
                go_wp2
                go_meet
                case rel => exact ⟨_, (true), (by first | rfl | (simp; done) | (simp [*]; done)), H', ⟨by first | omega | exact Nat.le_refl _⟩, ⟨by (with_reducible repeat (first | refine blk_drewN ?_ _ | refine blk_drew ?_ | refine blk_alloc ?_ _)); exact BK164.out⟩, ⟨by repeat (first | (with_reducible first | exact HB.out | apply below_alloc | apply pw_below_drewN | apply below_drew1 | refine below_set ?_ GE164.out) | exact HB.out)⟩⟩
            · rw [if_neg c12] at H
              have c12b0 : decide (a0_2 < 0) = false := decide_eq_false c12
              clear c12
              by_cases c14 : a0_2 > 4
              · rw [if_pos c14] at H
                have c14b0 : decide (4 < a0_2) = true := decide_eq_true c14
                clear c14
                have H' := Aside0.mk H
                clear H
                have hcz15_0 : w3.cell? ⟨gb164, 0, none⟩ = some (.int .i64 a0_0) := (blk_cell BK164.out 0).trans rfl
                have hcz15_1 : w3.cell? ⟨gb164, 1, none⟩ = some (.int .i64 a0_1) := (blk_cell BK164.out 1).trans rfl
                have hcz15_2 : w3.cell? ⟨gb164, 2, none⟩ = some (.int .i64 a0_2) := (blk_cell BK164.out 2).trans rfl
                have hcz15_3 : w3.cell? ⟨gb164, 3, none⟩ = some (.int .i64 a0_3) := (blk_cell BK164.out 3).trans rfl
                have hcz15_4 : w3.cell? ⟨gb164, 4, none⟩ = some (.slice A0_4 l0_4.length c0_4) := (blk_cell BK164.out 4).trans rfl
                have hcz15_5 : w3.cell? ⟨gb164, 5, none⟩ = some (.bool a0_5) := (blk_cell BK164.out 5).trans rfl
                have hfz15_0 := blk_frozen BK164.out 0
                have hfz15_1 := blk_frozen BK164.out 1
                have hfz15_2 := blk_frozen BK164.out 2
                have hfz15_3 := blk_frozen BK164.out 3
                have hfz15_4 := blk_frozen BK164.out 4
                have hfz15_5 := blk_frozen BK164.out 5
                as_aux_lemma =>
                  go_wp2
                  go_meet
                  case rel => exact ⟨_, (true), (by first | rfl | (simp; done) | (simp [*]; done)), H', ⟨by first | omega | exact Nat.le_refl _⟩, ⟨by (with_reducible repeat (first | refine blk_drewN ?_ _ | refine blk_drew ?_ | refine blk_alloc ?_ _)); exact BK164.out⟩, ⟨by repeat (first | (with_reducible first | exact HB.out | apply below_alloc | apply pw_below_drewN | apply below_drew1 | refine below_set ?_ GE164.out) | exact HB.out)⟩⟩
              · rw [if_neg c14] at H
                have c14b0 : decide (4 < a0_2) = false := decide_eq_false c14
                clear c14
                by_cases c16 : a0_3 < 0
                · rw [if_pos c16] at H
                  have c16b0 : decide (a0_3 < 0) = true := decide_eq_true c16
                  clear c16
                  have H' := Aside0.mk H
                  clear H
                  have hcz17_0 : w3.cell? ⟨gb164, 0, none⟩ = some (.int .i64 a0_0) := (blk_cell BK164.out 0).trans rfl
                  have hcz17_1 : w3.cell? ⟨gb164, 1, none⟩ = some (.int .i64 a0_1) := (blk_cell BK164.out 1).trans rfl
                  have hcz17_2 : w3.cell? ⟨gb164, 2, none⟩ = some (.int .i64 a0_2) := (blk_cell BK164.out 2).trans rfl
                  have hcz17_3 : w3.cell? ⟨gb164, 3, none⟩ = some (.int .i64 a0_3) := (blk_cell BK164.out 3).trans rfl
                  have hcz17_4 : w3.cell? ⟨gb164, 4, none⟩ = some (.slice A0_4 l0_4.length c0_4) := (blk_cell BK164.out 4).trans rfl
                  have hcz17_5 : w3.cell? ⟨gb164, 5, none⟩ = some (.bool a0_5) := (blk_cell BK164.out 5).trans rfl
                  have hfz17_0 := blk_frozen BK164.out 0
                  have hfz17_1 := blk_frozen BK164.out 1
                  have hfz17_2 := blk_frozen BK164.out 2
                  have hfz17_3 := blk_frozen BK164.out 3
                  have hfz17_4 := blk_frozen BK164.out 4
                  have hfz17_5 := blk_frozen BK164.out 5
                  as_aux_lemma =>
                    go_wp2
                    go_meet
                    case rel => exact ⟨_, (true), (by first | rfl | (simp; done) | (simp [*]; done)), H', ⟨by first | omega | exact Nat.le_refl _⟩, ⟨by (with_reducible repeat (first | refine blk_drewN ?_ _ | refine blk_drew ?_ | refine blk_alloc ?_ _)); exact BK164.out⟩, ⟨by repeat (first | (with_reducible first | exact HB.out | apply below_alloc | apply pw_below_drewN | apply below_drew1 | refine below_set ?_ GE164.out) | exact HB.out)⟩⟩
                · rw [if_neg c16] at H
                  have c16b0 : decide (a0_3 < 0) = false := decide_eq_false c16
                  clear c16
                  by_cases c18 : a0_3 > 255
                  · rw [if_pos c18] at H
                    have c18b0 : decide (255 < a0_3) = true := decide_eq_true c18
                    clear c18
                    have H' := Aside0.mk H
                    clear H
                    have hcz19_0 : w3.cell? ⟨gb164, 0, none⟩ = some (.int .i64 a0_0) := (blk_cell BK164.out 0).trans rfl
                    have hcz19_1 : w3.cell? ⟨gb164, 1, none⟩ = some (.int .i64 a0_1) := (blk_cell BK164.out 1).trans rfl
                    have hcz19_2 : w3.cell? ⟨gb164, 2, none⟩ = some (.int .i64 a0_2) := (blk_cell BK164.out 2).trans rfl
                    have hcz19_3 : w3.cell? ⟨gb164, 3, none⟩ = some (.int .i64 a0_3) := (blk_cell BK164.out 3).trans rfl
                    have hcz19_4 : w3.cell? ⟨gb164, 4, none⟩ = some (.slice A0_4 l0_4.length c0_4) := (blk_cell BK164.out 4).trans rfl
                    have hcz19_5 : w3.cell? ⟨gb164, 5, none⟩ = some (.bool a0_5) := (blk_cell BK164.out 5).trans rfl
                    have hfz19_0 := blk_frozen BK164.out 0
                    have hfz19_1 := blk_frozen BK164.out 1
                    have hfz19_2 := blk_frozen BK164.out 2
                    have hfz19_3 := blk_frozen BK164.out 3
                    have hfz19_4 := blk_frozen BK164.out 4
                    have hfz19_5 := blk_frozen BK164.out 5
                    as_aux_lemma =>
                      go_wp2
                      go_meet
                      case rel => exact ⟨_, (true), (by first | rfl | (simp; done) | (simp [*]; done)), H', ⟨by first | omega | exact Nat.le_refl _⟩, ⟨by (with_reducible repeat (first | refine blk_drewN ?_ _ | refine blk_drew ?_ | refine blk_alloc ?_ _)); exact BK164.out⟩, ⟨by repeat (first | (with_reducible first | exact HB.out | apply below_alloc | apply pw_below_drewN | apply below_drew1 | refine below_set ?_ GE164.out) | exact HB.out)⟩⟩
                  · rw [if_neg c18] at H
                    have c18b0 : decide (255 < a0_3) = false := decide_eq_false c18
                    clear c18
                    have H' := Aside0.mk H
                    clear H
                    have hcz20_0 : w3.cell? ⟨gb164, 0, none⟩ = some (.int .i64 a0_0) := (blk_cell BK164.out 0).trans rfl
                    have hcz20_1 : w3.cell? ⟨gb164, 1, none⟩ = some (.int .i64 a0_1) := (blk_cell BK164.out 1).trans rfl
                    have hcz20_2 : w3.cell? ⟨gb164, 2, none⟩ = some (.int .i64 a0_2) := (blk_cell BK164.out 2).trans rfl
                    have hcz20_3 : w3.cell? ⟨gb164, 3, none⟩ = some (.int .i64 a0_3) := (blk_cell BK164.out 3).trans rfl
                    have hcz20_4 : w3.cell? ⟨gb164, 4, none⟩ = some (.slice A0_4 l0_4.length c0_4) := (blk_cell BK164.out 4).trans rfl
                    have hcz20_5 : w3.cell? ⟨gb164, 5, none⟩ = some (.bool a0_5) := (blk_cell BK164.out 5).trans rfl
                    have hfz20_0 := blk_frozen BK164.out 0
                    have hfz20_1 := blk_frozen BK164.out 1
                    have hfz20_2 := blk_frozen BK164.out 2
                    have hfz20_3 := blk_frozen BK164.out 3
                    have hfz20_4 := blk_frozen BK164.out 4
                    have hfz20_5 := blk_frozen BK164.out 5
                    as_aux_lemma =>
                      go_wp2
                      go_meet
                      case rel => exact ⟨_, (decide ((l0_4.length : Int) > 6)), (by first | rfl | (simp; done) | (simp [*]; done)), H', ⟨by first | omega | exact Nat.le_refl _⟩, ⟨by (with_reducible repeat (first | refine blk_drewN ?_ _ | refine blk_drew ?_ | refine blk_alloc ?_ _)); exact BK164.out⟩, ⟨by repeat (first | (with_reducible first | exact HB.out | apply below_alloc | apply pw_below_drewN | apply below_drew1 | refine below_set ?_ GE164.out) | exact HB.out)⟩⟩
  case rest =>
    clear HC2
    try clear c1
    try clear c2
    try clear p2
    try clear c4
    try clear c4b0
    try clear c6
    try clear c6b0
    try clear c8
    try clear c8b0
    try clear c10
    try clear c10b0
    try clear c12
    try clear c12b0
    try clear c14
    try clear c14b0
    try clear c16
    try clear c16b0
    try clear c18
    try clear c18b0
    try clear hcz11_0
    try clear hcz11_1
    try clear hcz11_2
    try clear hcz11_3
    try clear hcz11_4
    try clear hcz11_5
    try clear hcz13_0
    try clear hcz13_1
    try clear hcz13_2
    try clear hcz13_3
    try clear hcz13_4
    try clear hcz13_5
    try clear hcz15_0
    try clear hcz15_1
    try clear hcz15_2
    try clear hcz15_3
    try clear hcz15_4
    try clear hcz15_5
    try clear hcz17_0
    try clear hcz17_1
    try clear hcz17_2
    try clear hcz17_3
    try clear hcz17_4
    try clear hcz17_5
    try clear hcz19_0
    try clear hcz19_1
    try clear hcz19_2
    try clear hcz19_3
    try clear hcz19_4
    try clear hcz19_5
    try clear hcz20_0
    try clear hcz20_1
    try clear hcz20_2
    try clear hcz20_3
    try clear hcz20_4
    try clear hcz20_5
    try clear hcz5_0
    try clear hcz5_1
    try clear hcz5_2
    try clear hcz5_3
    try clear hcz5_4
    try clear hcz5_5
    try clear hcz7_0
    try clear hcz7_1
    try clear hcz7_2
    try clear hcz7_3
    try clear hcz7_4
    try clear hcz7_5
    try clear hcz9_0
    try clear hcz9_1
    try clear hcz9_2
    try clear hcz9_3
    try clear hcz9_4
    try clear hcz9_5
    try clear hfz11_0
    try clear hfz11_1
    try clear hfz11_2
    try clear hfz11_3
    try clear hfz11_4
    try clear hfz11_5
    try clear hfz13_0
    try clear hfz13_1
    try clear hfz13_2
    try clear hfz13_3
    try clear hfz13_4
    try clear hfz13_5
    try clear hfz15_0
    try clear hfz15_1
    try clear hfz15_2
    try clear hfz15_3
    try clear hfz15_4
    try clear hfz15_5
    try clear hfz17_0
    try clear hfz17_1
    try clear hfz17_2
    try clear hfz17_3
    try clear hfz17_4
    try clear hfz17_5
    try clear hfz19_0
    try clear hfz19_1
    try clear hfz19_2
    try clear hfz19_3
    try clear hfz19_4
    try clear hfz19_5
    try clear hfz20_0
    try clear hfz20_1
    try clear hfz20_2
    try clear hfz20_3
    try clear hfz20_4
    try clear hfz20_5
    try clear hfz5_0
    try clear hfz5_1
    try clear hfz5_2
    try clear hfz5_3
    try clear hfz5_4
    try clear hfz5_5
    try clear hfz7_0
    try clear hfz7_1
    try clear hfz7_2
    try clear hfz7_3
    try clear hfz7_4
    try clear hfz7_5
    try clear hfz9_0
    try clear hfz9_1
    try clear hfz9_2
    try clear hfz9_3
    try clear hfz9_4
    try clear hfz9_5
    obtain ⟨kq, x48_1, rfl, HA, HJ1, BK164, HB⟩ := hcut
    cases kq with
    | zero => exact absurd HA.out (by simp [handoffref10_RightOp.j0])
    | succ kj1 =>
      have H := HA.out
      clear HA
      simp only [handoffref10_RightOp.j0] at H
      by_cases c21 : x48_1 = true
      · subst c21
        have H1 : (some false) = some r := by rw [if_pos rfl] at H; exact H
        clear H
        have H := H1
        clear H1
        obtain rfl := Option.some.inj H
        as_aux_lemma =>
          go_wp2
          go_ret
          exact ⟨by first | rfl | (simp [errW_none, errW_some] <;> rfl) | (simp [*, errW_none, errW_some] <;> rfl), by repeat (first | (with_reducible first | exact HB.out | apply below_alloc | apply pw_below_drewN | apply below_drew1 | refine below_set ?_ GE164.out) | exact HB.out)⟩
      · replace c21 := Bool.eq_false_iff.mpr c21
        subst c21
        have H1 : ((handoffref10_HasCh.f a0_0).bind fun t165 => (if t165 = true then ((handoffref10_HasV.f a0_0).bind fun t166 => (if t166 = true then (if a0_0 = 1 then (if a0_0 = 9 then (handoffref10_RightOp.j1 kj1 false a0_0 a0_1 a0_2 a0_3 l0_4 a0_5) else (if a0_5 = true then (handoffref10_RightOp.j1 kj1 true a0_0 a0_1 a0_2 a0_3 l0_4 a0_5) else (handoffref10_RightOp.j1 kj1 (decide ((l0_4.length : Int) > 0)) a0_0 a0_1 a0_2 a0_3 l0_4 a0_5))) else (if a0_2 = 0 then (if a0_0 = 9 then (handoffref10_RightOp.j1 kj1 false a0_0 a0_1 a0_2 a0_3 l0_4 a0_5) else (if a0_5 = true then (handoffref10_RightOp.j1 kj1 true a0_0 a0_1 a0_2 a0_3 l0_4 a0_5) else (handoffref10_RightOp.j1 kj1 (decide ((l0_4.length : Int) > 0)) a0_0 a0_1 a0_2 a0_3 l0_4 a0_5))) else (handoffref10_RightOp.j1 kj1 true a0_0 a0_1 a0_2 a0_3 l0_4 a0_5))) else (if a0_3 = 0 then (if a0_0 = 1 then (if a0_0 = 9 then (handoffref10_RightOp.j1 kj1 false a0_0 a0_1 a0_2 a0_3 l0_4 a0_5) else (if a0_5 = true then (handoffref10_RightOp.j1 kj1 true a0_0 a0_1 a0_2 a0_3 l0_4 a0_5) else (handoffref10_RightOp.j1 kj1 (decide ((l0_4.length : Int) > 0)) a0_0 a0_1 a0_2 a0_3 l0_4 a0_5))) else (if a0_2 = 0 then (if a0_0 = 9 then (handoffref10_RightOp.j1 kj1 false a0_0 a0_1 a0_2 a0_3 l0_4 a0_5) else (if a0_5 = true then (handoffref10_RightOp.j1 kj1 true a0_0 a0_1 a0_2 a0_3 l0_4 a0_5) else (handoffref10_RightOp.j1 kj1 (decide ((l0_4.length : Int) > 0)) a0_0 a0_1 a0_2 a0_3 l0_4 a0_5))) else (handoffref10_RightOp.j1 kj1 true a0_0 a0_1 a0_2 a0_3 l0_4 a0_5))) else (handoffref10_RightOp.j1 kj1 true a0_0 a0_1 a0_2 a0_3 l0_4 a0_5)))) else (if a0_1 = 0 then ((handoffref10_HasV.f a0_0).bind fun t167 => (if t167 = true then (if a0_0 = 1 then (if a0_0 = 9 then (handoffref10_RightOp.j1 kj1 false a0_0 a0_1 a0_2 a0_3 l0_4 a0_5) else (if a0_5 = true then (handoffref10_RightOp.j1 kj1 true a0_0 a0_1 a0_2 a0_3 l0_4 a0_5) else (handoffref10_RightOp.j1 kj1 (decide ((l0_4.length : Int) > 0)) a0_0 a0_1 a0_2 a0_3 l0_4 a0_5))) else (if a0_2 = 0 then (if a0_0 = 9 then (handoffref10_RightOp.j1 kj1 false a0_0 a0_1 a0_2 a0_3 l0_4 a0_5) else (if a0_5 = true then (handoffref10_RightOp.j1 kj1 true a0_0 a0_1 a0_2 a0_3 l0_4 a0_5) else (handoffref10_RightOp.j1 kj1 (decide ((l0_4.length : Int) > 0)) a0_0 a0_1 a0_2 a0_3 l0_4 a0_5))) else (handoffref10_RightOp.j1 kj1 true a0_0 a0_1 a0_2 a0_3 l0_4 a0_5))) else (if a0_3 = 0 then (if a0_0 = 1 then (if a0_0 = 9 then (handoffref10_RightOp.j1 kj1 false a0_0 a0_1 a0_2 a0_3 l0_4 a0_5) else (if a0_5 = true then (handoffref10_RightOp.j1 kj1 true a0_0 a0_1 a0_2 a0_3 l0_4 a0_5) else (handoffref10_RightOp.j1 kj1 (decide ((l0_4.length : Int) > 0)) a0_0 a0_1 a0_2 a0_3 l0_4 a0_5))) else (if a0_2 = 0 then (if a0_0 = 9 then (handoffref10_RightOp.j1 kj1 false a0_0 a0_1 a0_2 a0_3 l0_4 a0_5) else (if a0_5 = true then (handoffref10_RightOp.j1 kj1 true a0_0 a0_1 a0_2 a0_3 l0_4 a0_5) else (handoffref10_RightOp.j1 kj1 (decide ((l0_4.length : Int) > 0)) a0_0 a0_1 a0_2 a0_3 l0_4 a0_5))) else (handoffref10_RightOp.j1 kj1 true a0_0 a0_1 a0_2 a0_3 l0_4 a0_5))) else (handoffref10_RightOp.j1 kj1 true a0_0 a0_1 a0_2 a0_3 l0_4 a0_5)))) else (handoffref10_RightOp.j1 kj1 true a0_0 a0_1 a0_2 a0_3 l0_4 a0_5)))) = some r := by rw [if_neg (show ¬ (false = true) by decide)] at H; exact H
        clear H
        have H := H1
        clear H1
        have HC22 := Aside0.mk H
        clear H
        go_upto_region 3 with (fail)
        go_cut [93] (fun v93 wc => ∃ (kq : Nat) (x93_21 : Bool), v93 = .bool x93_21 ∧ Aside0 (handoffref10_RightOp.j1 kq x93_21 a0_0 a0_1 a0_2 a0_3 l0_4 a0_5 = some r) ∧ Aside0 (kq ≤ kj1) ∧ Aside0 (wc.heap[gb164]? = some (.cells #[.int .i64 a0_0, .int .i64 a0_1, .int .i64 a0_2, .int .i64 a0_3, (.slice A0_4 l0_4.length c0_4), .bool a0_5] 39 (0, 0))) ∧ Aside0 (Below w.heap.size w wc))
        case first =>
          have H := HC22.out
          clear HC22
          replace H := Option.bind_eq_some_iff.mp H
          obtain ⟨t165, A230, H⟩ := H
          replace H : (if t165 = true then ((handoffref10_HasV.f a0_0).bind fun t166 => (if t166 = true then (if a0_0 = 1 then (if a0_0 = 9 then (handoffref10_RightOp.j1 kj1 false a0_0 a0_1 a0_2 a0_3 l0_4 a0_5) else (if a0_5 = true then (handoffref10_RightOp.j1 kj1 true a0_0 a0_1 a0_2 a0_3 l0_4 a0_5) else (handoffref10_RightOp.j1 kj1 (decide ((l0_4.length : Int) > 0)) a0_0 a0_1 a0_2 a0_3 l0_4 a0_5))) else (if a0_2 = 0 then (if a0_0 = 9 then (handoffref10_RightOp.j1 kj1 false a0_0 a0_1 a0_2 a0_3 l0_4 a0_5) else (if a0_5 = true then (handoffref10_RightOp.j1 kj1 true a0_0 a0_1 a0_2 a0_3 l0_4 a0_5) else (handoffref10_RightOp.j1 kj1 (decide ((l0_4.length : Int) > 0)) a0_0 a0_1 a0_2 a0_3 l0_4 a0_5))) else (handoffref10_RightOp.j1 kj1 true a0_0 a0_1 a0_2 a0_3 l0_4 a0_5))) else (if a0_3 = 0 then (if a0_0 = 1 then (if a0_0 = 9 then (handoffref10_RightOp.j1 kj1 false a0_0 a0_1 a0_2 a0_3 l0_4 a0_5) else (if a0_5 = true then (handoffref10_RightOp.j1 kj1 true a0_0 a0_1 a0_2 a0_3 l0_4 a0_5) else (handoffref10_RightOp.j1 kj1 (decide ((l0_4.length : Int) > 0)) a0_0 a0_1 a0_2 a0_3 l0_4 a0_5))) else (if a0_2 = 0 then (if a0_0 = 9 then (handoffref10_RightOp.j1 kj1 false a0_0 a0_1 a0_2 a0_3 l0_4 a0_5) else (if a0_5 = true then (handoffref10_RightOp.j1 kj1 true a0_0 a0_1 a0_2 a0_3 l0_4 a0_5) else (handoffref10_RightOp.j1 kj1 (decide ((l0_4.length : Int) > 0)) a0_0 a0_1 a0_2 a0_3 l0_4 a0_5))) else (handoffref10_RightOp.j1 kj1 true a0_0 a0_1 a0_2 a0_3 l0_4 a0_5))) else (handoffref10_RightOp.j1 kj1 true a0_0 a0_1 a0_2 a0_3 l0_4 a0_5)))) else (if a0_1 = 0 then ((handoffref10_HasV.f a0_0).bind fun t167 => (if t167 = true then (if a0_0 = 1 then (if a0_0 = 9 then (handoffref10_RightOp.j1 kj1 false a0_0 a0_1 a0_2 a0_3 l0_4 a0_5) else (if a0_5 = true then (handoffref10_RightOp.j1 kj1 true a0_0 a0_1 a0_2 a0_3 l0_4 a0_5) else (handoffref10_RightOp.j1 kj1 (decide ((l0_4.length : Int) > 0)) a0_0 a0_1 a0_2 a0_3 l0_4 a0_5))) else (if a0_2 = 0 then (if a0_0 = 9 then (handoffref10_RightOp.j1 kj1 false a0_0 a0_1 a0_2 a0_3 l0_4 a0_5) else (if a0_5 = true then (handoffref10_RightOp.j1 kj1 true a0_0 a0_1 a0_2 a0_3 l0_4 a0_5) else (handoffref10_RightOp.j1 kj1 (decide ((l0_4.length : Int) > 0)) a0_0 a0_1 a0_2 a0_3 l0_4 a0_5))) else (handoffref10_RightOp.j1 kj1 true a0_0 a0_1 a0_2 a0_3 l0_4 a0_5))) else (if a0_3 = 0 then (if a0_0 = 1 then (if a0_0 = 9 then (handoffref10_RightOp.j1 kj1 false a0_0 a0_1 a0_2 a0_3 l0_4 a0_5) else (if a0_5 = true then (handoffref10_RightOp.j1 kj1 true a0_0 a0_1 a0_2 a0_3 l0_4 a0_5) else (handoffref10_RightOp.j1 kj1 (decide ((l0_4.length : Int) > 0)) a0_0 a0_1 a0_2 a0_3 l0_4 a0_5))) else (if a0_2 = 0 then (if a0_0 = 9 then (handoffref10_RightOp.j1 kj1 false a0_0 a0_1 a0_2 a0_3 l0_4 a0_5) else (if a0_5 = true then (handoffref10_RightOp.j1 kj1 true a0_0 a0_1 a0_2 a0_3 l0_4 a0_5) else (handoffref10_RightOp.j1 kj1 (decide ((l0_4.length : Int) > 0)) a0_0 a0_1 a0_2 a0_3 l0_4 a0_5))) else (handoffref10_RightOp.j1 kj1 true a0_0 a0_1 a0_2 a0_3 l0_4 a0_5))) else (handoffref10_RightOp.j1 kj1 true a0_0 a0_1 a0_2 a0_3 l0_4 a0_5)))) else (handoffref10_RightOp.j1 kj1 true a0_0 a0_1 a0_2 a0_3 l0_4 a0_5))) = some r := H
          have A23 := Aside0.mk A230
          clear A230
          by_cases c24 : t165 = true
          · subst c24
            have H1 : ((handoffref10_HasV.f a0_0).bind fun t166 => (if t166 = true then (if a0_0 = 1 then (if a0_0 = 9 then (handoffref10_RightOp.j1 kj1 false a0_0 a0_1 a0_2 a0_3 l0_4 a0_5) else (if a0_5 = true then (handoffref10_RightOp.j1 kj1 true a0_0 a0_1 a0_2 a0_3 l0_4 a0_5) else (handoffref10_RightOp.j1 kj1 (decide ((l0_4.length : Int) > 0)) a0_0 a0_1 a0_2 a0_3 l0_4 a0_5))) else (if a0_2 = 0 then (if a0_0 = 9 then (handoffref10_RightOp.j1 kj1 false a0_0 a0_1 a0_2 a0_3 l0_4 a0_5) else (if a0_5 = true then (handoffref10_RightOp.j1 kj1 true a0_0 a0_1 a0_2 a0_3 l0_4 a0_5) else (handoffref10_RightOp.j1 kj1 (decide ((l0_4.length : Int) > 0)) a0_0 a0_1 a0_2 a0_3 l0_4 a0_5))) else (handoffref10_RightOp.j1 kj1 true a0_0 a0_1 a0_2 a0_3 l0_4 a0_5))) else (if a0_3 = 0 then (if a0_0 = 1 then (if a0_0 = 9 then (handoffref10_RightOp.j1 kj1 false a0_0 a0_1 a0_2 a0_3 l0_4 a0_5) else (if a0_5 = true then (handoffref10_RightOp.j1 kj1 true a0_0 a0_1 a0_2 a0_3 l0_4 a0_5) else (handoffref10_RightOp.j1 kj1 (decide ((l0_4.length : Int) > 0)) a0_0 a0_1 a0_2 a0_3 l0_4 a0_5))) else (if a0_2 = 0 then (if a0_0 = 9 then (handoffref10_RightOp.j1 kj1 false a0_0 a0_1 a0_2 a0_3 l0_4 a0_5) else (if a0_5 = true then (handoffref10_RightOp.j1 kj1 true a0_0 a0_1 a0_2 a0_3 l0_4 a0_5) else (handoffref10_RightOp.j1 kj1 (decide ((l0_4.length : Int) > 0)) a0_0 a0_1 a0_2 a0_3 l0_4 a0_5))) else (handoffref10_RightOp.j1 kj1 true a0_0 a0_1 a0_2 a0_3 l0_4 a0_5))) else (handoffref10_RightOp.j1 kj1 true a0_0 a0_1 a0_2 a0_3 l0_4 a0_5)))) = some r := by rw [if_pos rfl] at H; exact H
            clear H
            have H := H1
            clear H1
            replace H := Option.bind_eq_some_iff.mp H
            obtain ⟨t166, A250, H⟩ := H
            replace H : (if t166 = true then (if a0_0 = 1 then (if a0_0 = 9 then (handoffref10_RightOp.j1 kj1 false a0_0 a0_1 a0_2 a0_3 l0_4 a0_5) else (if a0_5 = true then (handoffref10_RightOp.j1 kj1 true a0_0 a0_1 a0_2 a0_3 l0_4 a0_5) else (handoffref10_RightOp.j1 kj1 (decide ((l0_4.length : Int) > 0)) a0_0 a0_1 a0_2 a0_3 l0_4 a0_5))) else (if a0_2 = 0 then (if a0_0 = 9 then (handoffref10_RightOp.j1 kj1 false a0_0 a0_1 a0_2 a0_3 l0_4 a0_5) else (if a0_5 = true then (handoffref10_RightOp.j1 kj1 true a0_0 a0_1 a0_2 a0_3 l0_4 a0_5) else (handoffref10_RightOp.j1 kj1 (decide ((l0_4.length : Int) > 0)) a0_0 a0_1 a0_2 a0_3 l0_4 a0_5))) else (handoffref10_RightOp.j1 kj1 true a0_0 a0_1 a0_2 a0_3 l0_4 a0_5))) else (if a0_3 = 0 then (if a0_0 = 1 then (if a0_0 = 9 then (handoffref10_RightOp.j1 kj1 false a0_0 a0_1 a0_2 a0_3 l0_4 a0_5) else (if a0_5 = true then (handoffref10_RightOp.j1 kj1 true a0_0 a0_1 a0_2 a0_3 l0_4 a0_5) else (handoffref10_RightOp.j1 kj1 (decide ((l0_4.length : Int) > 0)) a0_0 a0_1 a0_2 a0_3 l0_4 a0_5))) else (if a0_2 = 0 then (if a0_0 = 9 then (handoffref10_RightOp.j1 kj1 false a0_0 a0_1 a0_2 a0_3 l0_4 a0_5) else (if a0_5 = true then (handoffref10_RightOp.j1 kj1 true a0_0 a0_1 a0_2 a0_3 l0_4 a0_5) else (handoffref10_RightOp.j1 kj1 (decide ((l0_4.length : Int) > 0)) a0_0 a0_1 a0_2 a0_3 l0_4 a0_5))) else (handoffref10_RightOp.j1 kj1 true a0_0 a0_1 a0_2 a0_3 l0_4 a0_5))) else (handoffref10_RightOp.j1 kj1 true a0_0 a0_1 a0_2 a0_3 l0_4 a0_5))) = some r := H
            have A25 := Aside0.mk A250
            clear A250
            by_cases c26 : t166 = true
            · subst c26
              have H1 : (if a0_0 = 1 then (if a0_0 = 9 then (handoffref10_RightOp.j1 kj1 false a0_0 a0_1 a0_2 a0_3 l0_4 a0_5) else (if a0_5 = true then (handoffref10_RightOp.j1 kj1 true a0_0 a0_1 a0_2 a0_3 l0_4 a0_5) else (handoffref10_RightOp.j1 kj1 (decide ((l0_4.length : Int) > 0)) a0_0 a0_1 a0_2 a0_3 l0_4 a0_5))) else (if a0_2 = 0 then (if a0_0 = 9 then (handoffref10_RightOp.j1 kj1 false a0_0 a0_1 a0_2 a0_3 l0_4 a0_5) else (if a0_5 = true then (handoffref10_RightOp.j1 kj1 true a0_0 a0_1 a0_2 a0_3 l0_4 a0_5) else (handoffref10_RightOp.j1 kj1 (decide ((l0_4.length : Int) > 0)) a0_0 a0_1 a0_2 a0_3 l0_4 a0_5))) else (handoffref10_RightOp.j1 kj1 true a0_0 a0_1 a0_2 a0_3 l0_4 a0_5))) = some r := by rw [if_pos rfl] at H; exact H
              clear H
              have H := H1
              clear H1
              by_cases c27 : a0_0 = 1
              · rw [if_pos c27] at H
                have c27b0 : (a0_0 == 1) = true := beq_iff_eq.mpr c27
                have c27b1 : (a0_0 != 1) = false := bne_eq_false_iff_eq.mpr c27
                clear c27
                (first | rw [c27b0] | (simp only [i64_w, i32_w]; rw [c27b0]) | skip)
                by_cases c28 : a0_0 = 9
                · rw [if_pos c28] at H
                  have c28b0 : (a0_0 == 9) = true := beq_iff_eq.mpr c28
                  have c28b1 : (a0_0 != 9) = false := bne_eq_false_iff_eq.mpr c28
                  clear c28
                  have H' := Aside0.mk H
                  clear H
                  have hcz29_0 : wc.cell? ⟨gb164, 0, none⟩ = some (.int .i64 a0_0) := (blk_cell BK164.out 0).trans rfl
                  have hcz29_1 : wc.cell? ⟨gb164, 1, none⟩ = some (.int .i64 a0_1) := (blk_cell BK164.out 1).trans rfl
                  have hcz29_2 : wc.cell? ⟨gb164, 2, none⟩ = some (.int .i64 a0_2) := (blk_cell BK164.out 2).trans rfl
                  have hcz29_3 : wc.cell? ⟨gb164, 3, none⟩ = some (.int .i64 a0_3) := (blk_cell BK164.out 3).trans rfl
                  have hcz29_4 : wc.cell? ⟨gb164, 4, none⟩ = some (.slice A0_4 l0_4.length c0_4) := (blk_cell BK164.out 4).trans rfl
                  have hcz29_5 : wc.cell? ⟨gb164, 5, none⟩ = some (.bool a0_5) := (blk_cell BK164.out 5).trans rfl
                  have hfz29_0 := blk_frozen BK164.out 0
                  have hfz29_1 := blk_frozen BK164.out 1
                  have hfz29_2 := blk_frozen BK164.out 2
                  have hfz29_3 := blk_frozen BK164.out 3
                  have hfz29_4 := blk_frozen BK164.out 4
                  have hfz29_5 := blk_frozen BK164.out 5
                  as_aux_lemma =>
                    go_wp2_with (first | ((with_reducible refine gate_callee (f := 65) rfl ?_); refine goesL_ (some 51) rfl rfl Try.func65 (by kernel_rfl) rfl #[.int .i64 a0_0] rfl (by (try simp only [List.map_toArray, List.map_cons, List.map_nil]); first | done | rfl | (simp only [List.length_drop, List.length_take]; rfl)) ?_; (with_reducible refine (handoffref10_HasCh.calls a0_0 true _ A23.out).mono ?_); rintro e w' ⟨rfl, ⟨nd, rfl⟩⟩; refine ⟨_, rfl, ?_⟩) | (go_at_call 66; (with_reducible refine (handoffref10_HasV.calls a0_0 true _ A25.out).mono ?_); rintro e w' ⟨rfl, ⟨nd, rfl⟩⟩))
                    go_meet
                    case rel => exact ⟨_, (false), (by first | rfl | (simp; done) | (simp [*]; done)), H', ⟨by have := HJ1.out; first | omega | exact Nat.le_refl _⟩, ⟨by (with_reducible repeat (first | refine blk_drewN ?_ _ | refine blk_drew ?_ | refine blk_alloc ?_ _)); exact BK164.out⟩, ⟨by repeat (first | (with_reducible first | exact HB.out | apply below_alloc | apply pw_below_drewN | apply below_drew1 | refine below_set ?_ GE164.out) | exact HB.out)⟩⟩
                · rw [if_neg c28] at H
                  have c28b0 : (a0_0 == 9) = false := beq_eq_false_iff_ne.mpr c28
                  have c28b1 : (a0_0 != 9) = true := bne_iff_ne.mpr c28
                  by_cases c30 : a0_5 = true
                  · subst c30
                    have H1 : (handoffref10_RightOp.j1 kj1 true a0_0 a0_1 a0_2 a0_3 l0_4 true) = some r := by rw [if_pos rfl] at H; exact H
                    clear H
                    have H := H1
                    clear H1
                    have H' := Aside0.mk H
                    clear H
                    have hcz31_0 : wc.cell? ⟨gb164, 0, none⟩ = some (.int .i64 a0_0) := (blk_cell BK164.out 0).trans rfl
                    have hcz31_1 : wc.cell? ⟨gb164, 1, none⟩ = some (.int .i64 a0_1) := (blk_cell BK164.out 1).trans rfl
                    have hcz31_2 : wc.cell? ⟨gb164, 2, none⟩ = some (.int .i64 a0_2) := (blk_cell BK164.out 2).trans rfl
                    have hcz31_3 : wc.cell? ⟨gb164, 3, none⟩ = some (.int .i64 a0_3) := (blk_cell BK164.out 3).trans rfl
                    have hcz31_4 : wc.cell? ⟨gb164, 4, none⟩ = some (.slice A0_4 l0_4.length c0_4) := (blk_cell BK164.out 4).trans rfl
                    have hcz31_5 : wc.cell? ⟨gb164, 5, none⟩ = some (.bool true) := (blk_cell BK164.out 5).trans rfl
                    have hfz31_0 := blk_frozen BK164.out 0
                    have hfz31_1 := blk_frozen BK164.out 1
                    have hfz31_2 := blk_frozen BK164.out 2
                    have hfz31_3 := blk_frozen BK164.out 3
                    have hfz31_4 := blk_frozen BK164.out 4
                    have hfz31_5 := blk_frozen BK164.out 5
                    as_aux_lemma =>
                      go_wp2_with (first | ((with_reducible refine gate_callee (f := 65) rfl ?_); refine goesL_ (some 51) rfl rfl Try.func65 (by kernel_rfl) rfl #[.int .i64 a0_0] rfl (by (try simp only [List.map_toArray, List.map_cons, List.map_nil]); first | done | rfl | (simp only [List.length_drop, List.length_take]; rfl)) ?_; (with_reducible refine (handoffref10_HasCh.calls a0_0 true _ A23.out).mono ?_); rintro e w' ⟨rfl, ⟨nd, rfl⟩⟩; refine ⟨_, rfl, ?_⟩) | (go_at_call 66; (with_reducible refine (handoffref10_HasV.calls a0_0 true _ A25.out).mono ?_); rintro e w' ⟨rfl, ⟨nd, rfl⟩⟩))
                      go_meet
                      case rel => exact ⟨_, (true), (by first | rfl | (simp; done) | (simp [*]; done)), H', ⟨by have := HJ1.out; first | omega | exact Nat.le_refl _⟩, ⟨by (with_reducible repeat (first | refine blk_drewN ?_ _ | refine blk_drew ?_ | refine blk_alloc ?_ _)); exact BK164.out⟩, ⟨by repeat (first | (with_reducible first | exact HB.out | apply below_alloc | apply pw_below_drewN | apply below_drew1 | refine below_set ?_ GE164.out) | exact HB.out)⟩⟩
                  · replace c30 := Bool.eq_false_iff.mpr c30
                    subst c30
                    have H1 : (handoffref10_RightOp.j1 kj1 (decide ((l0_4.length : Int) > 0)) a0_0 a0_1 a0_2 a0_3 l0_4 false) = some r := by rw [if_neg (show ¬ (false = true) by decide)] at H; exact H
                    clear H
                    have H := H1
                    clear H1
                    have H' := Aside0.mk H
                    clear H
                    have hcz32_0 : wc.cell? ⟨gb164, 0, none⟩ = some (.int .i64 a0_0) := (blk_cell BK164.out 0).trans rfl
                    have hcz32_1 : wc.cell? ⟨gb164, 1, none⟩ = some (.int .i64 a0_1) := (blk_cell BK164.out 1).trans rfl
                    have hcz32_2 : wc.cell? ⟨gb164, 2, none⟩ = some (.int .i64 a0_2) := (blk_cell BK164.out 2).trans rfl
                    have hcz32_3 : wc.cell? ⟨gb164, 3, none⟩ = some (.int .i64 a0_3) := (blk_cell BK164.out 3).trans rfl
                    have hcz32_4 : wc.cell? ⟨gb164, 4, none⟩ = some (.slice A0_4 l0_4.length c0_4) := (blk_cell BK164.out 4).trans rfl
                    have hcz32_5 : wc.cell? ⟨gb164, 5, none⟩ = some (.bool false) := (blk_cell BK164.out 5).trans rfl
                    have hfz32_0 := blk_frozen BK164.out 0
                    have hfz32_1 := blk_frozen BK164.out 1
                    have hfz32_2 := blk_frozen BK164.out 2
                    have hfz32_3 := blk_frozen BK164.out 3
                    have hfz32_4 := blk_frozen BK164.out 4
                    have hfz32_5 := blk_frozen BK164.out 5
                    as_aux_lemma =>
                      go_wp2_with (first | ((with_reducible refine gate_callee (f := 65) rfl ?_); refine goesL_ (some 51) rfl rfl Try.func65 (by kernel_rfl) rfl #[.int .i64 a0_0] rfl (by (try simp only [List.map_toArray, List.map_cons, List.map_nil]); first | done | rfl | (simp only [List.length_drop, List.length_take]; rfl)) ?_; (with_reducible refine (handoffref10_HasCh.calls a0_0 true _ A23.out).mono ?_); rintro e w' ⟨rfl, ⟨nd, rfl⟩⟩; refine ⟨_, rfl, ?_⟩) | (go_at_call 66; (with_reducible refine (handoffref10_HasV.calls a0_0 true _ A25.out).mono ?_); rintro e w' ⟨rfl, ⟨nd, rfl⟩⟩))
                      go_meet
                      case rel => exact ⟨_, (decide ((l0_4.length : Int) > 0)), (by first | rfl | (simp; done) | (simp [*]; done)), H', ⟨by have := HJ1.out; first | omega | exact Nat.le_refl _⟩, ⟨by (with_reducible repeat (first | refine blk_drewN ?_ _ | refine blk_drew ?_ | refine blk_alloc ?_ _)); exact BK164.out⟩, ⟨by repeat (first | (with_reducible first | exact HB.out | apply below_alloc | apply pw_below_drewN | apply below_drew1 | refine below_set ?_ GE164.out) | exact HB.out)⟩⟩
              · rw [if_neg c27] at H
                have c27b0 : (a0_0 == 1) = false := beq_eq_false_iff_ne.mpr c27
                have c27b1 : (a0_0 != 1) = true := bne_iff_ne.mpr c27
                (first | rw [c27b0] | (simp only [i64_w, i32_w]; rw [c27b0]) | skip)
                by_cases c33 : a0_2 = 0
                · rw [if_pos c33] at H
                  have c33b0 : (a0_2 == 0) = true := beq_iff_eq.mpr c33
                  have c33b1 : (a0_2 != 0) = false := bne_eq_false_iff_eq.mpr c33
                  clear c33
                  by_cases c34 : a0_0 = 9
                  · rw [if_pos c34] at H
                    have c34b0 : (a0_0 == 9) = true := beq_iff_eq.mpr c34
                    have c34b1 : (a0_0 != 9) = false := bne_eq_false_iff_eq.mpr c34
                    clear c34
                    have H' := Aside0.mk H
                    clear H
                    have hcz35_0 : wc.cell? ⟨gb164, 0, none⟩ = some (.int .i64 a0_0) := (blk_cell BK164.out 0).trans rfl
                    have hcz35_1 : wc.cell? ⟨gb164, 1, none⟩ = some (.int .i64 a0_1) := (blk_cell BK164.out 1).trans rfl
                    have hcz35_2 : wc.cell? ⟨gb164, 2, none⟩ = some (.int .i64 a0_2) := (blk_cell BK164.out 2).trans rfl
                    have hcz35_3 : wc.cell? ⟨gb164, 3, none⟩ = some (.int .i64 a0_3) := (blk_cell BK164.out 3).trans rfl
                    have hcz35_4 : wc.cell? ⟨gb164, 4, none⟩ = some (.slice A0_4 l0_4.length c0_4) := (blk_cell BK164.out 4).trans rfl
                    have hcz35_5 : wc.cell? ⟨gb164, 5, none⟩ = some (.bool a0_5) := (blk_cell BK164.out 5).trans rfl
                    have hfz35_0 := blk_frozen BK164.out 0
                    have hfz35_1 := blk_frozen BK164.out 1
                    have hfz35_2 := blk_frozen BK164.out 2
                    have hfz35_3 := blk_frozen BK164.out 3
                    have hfz35_4 := blk_frozen BK164.out 4
                    have hfz35_5 := blk_frozen BK164.out 5
                    as_aux_lemma =>
                      go_wp2_with (first | ((with_reducible refine gate_callee (f := 65) rfl ?_); refine goesL_ (some 51) rfl rfl Try.func65 (by kernel_rfl) rfl #[.int .i64 a0_0] rfl (by (try simp only [List.map_toArray, List.map_cons, List.map_nil]); first | done | rfl | (simp only [List.length_drop, List.length_take]; rfl)) ?_; (with_reducible refine (handoffref10_HasCh.calls a0_0 true _ A23.out).mono ?_); rintro e w' ⟨rfl, ⟨nd, rfl⟩⟩; refine ⟨_, rfl, ?_⟩) | (go_at_call 66; (with_reducible refine (handoffref10_HasV.calls a0_0 true _ A25.out).mono ?_); rintro e w' ⟨rfl, ⟨nd, rfl⟩⟩))
                      go_meet
                      case rel => exact ⟨_, (false), (by first | rfl | (simp; done) | (simp [*]; done)), H', ⟨by have := HJ1.out; first | omega | exact Nat.le_refl _⟩, ⟨by (with_reducible repeat (first | refine blk_drewN ?_ _ | refine blk_drew ?_ | refine blk_alloc ?_ _)); exact BK164.out⟩, ⟨by repeat (first | (with_reducible first | exact HB.out | apply below_alloc | apply pw_below_drewN | apply below_drew1 | refine below_set ?_ GE164.out) | exact HB.out)⟩⟩
                  · rw [if_neg c34] at H
                    have c34b0 : (a0_0 == 9) = false := beq_eq_false_iff_ne.mpr c34
                    have c34b1 : (a0_0 != 9) = true := bne_iff_ne.mpr c34
                    by_cases c36 : a0_5 = true
                    · subst c36
                      have H1 : (handoffref10_RightOp.j1 kj1 true a0_0 a0_1 a0_2 a0_3 l0_4 true) = some r := by rw [if_pos rfl] at H; exact H
                      clear H
                      have H := H1
                      clear H1
                      have H' := Aside0.mk H
                      clear H
                      have hcz37_0 : wc.cell? ⟨gb164, 0, none⟩ = some (.int .i64 a0_0) := (blk_cell BK164.out 0).trans rfl
                      have hcz37_1 : wc.cell? ⟨gb164, 1, none⟩ = some (.int .i64 a0_1) := (blk_cell BK164.out 1).trans rfl
                      have hcz37_2 : wc.cell? ⟨gb164, 2, none⟩ = some (.int .i64 a0_2) := (blk_cell BK164.out 2).trans rfl
                      have hcz37_3 : wc.cell? ⟨gb164, 3, none⟩ = some (.int .i64 a0_3) := (blk_cell BK164.out 3).trans rfl
                      have hcz37_4 : wc.cell? ⟨gb164, 4, none⟩ = some (.slice A0_4 l0_4.length c0_4) := (blk_cell BK164.out 4).trans rfl
                      have hcz37_5 : wc.cell? ⟨gb164, 5, none⟩ = some (.bool true) := (blk_cell BK164.out 5).trans rfl
                      have hfz37_0 := blk_frozen BK164.out 0
                      have hfz37_1 := blk_frozen BK164.out 1
                      have hfz37_2 := blk_frozen BK164.out 2
                      have hfz37_3 := blk_frozen BK164.out 3
                      have hfz37_4 := blk_frozen BK164.out 4
                      have hfz37_5 := blk_frozen BK164.out 5
                      as_aux_lemma =>
                        go_wp2_with (first | ((with_reducible refine gate_callee (f := 65) rfl ?_); refine goesL_ (some 51) rfl rfl Try.func65 (by kernel_rfl) rfl #[.int .i64 a0_0] rfl (by (try simp only [List.map_toArray, List.map_cons, List.map_nil]); first | done | rfl | (simp only [List.length_drop, List.length_take]; rfl)) ?_; (with_reducible refine (handoffref10_HasCh.calls a0_0 true _ A23.out).mono ?_); rintro e w' ⟨rfl, ⟨nd, rfl⟩⟩; refine ⟨_, rfl, ?_⟩) | (go_at_call 66; (with_reducible refine (handoffref10_HasV.calls a0_0 true _ A25.out).mono ?_); rintro e w' ⟨rfl, ⟨nd, rfl⟩⟩))
                        go_meet
                        case rel => exact ⟨_, (true), (by first | rfl | (simp; done) | (simp [*]; done)), H', ⟨by have := HJ1.out; first | omega | exact Nat.le_refl _⟩, ⟨by (with_reducible repeat (first | refine blk_drewN ?_ _ | refine blk_drew ?_ | refine blk_alloc ?_ _)); exact BK164.out⟩, ⟨by repeat (first | (with_reducible first | exact HB.out | apply below_alloc | apply pw_below_drewN | apply below_drew1 | refine below_set ?_ GE164.out) | exact HB.out)⟩⟩
                    · replace c36 := Bool.eq_false_iff.mpr c36
                      subst c36
                      have H1 : (handoffref10_RightOp.j1 kj1 (decide ((l0_4.length : Int) > 0)) a0_0 a0_1 a0_2 a0_3 l0_4 false) = some r := by rw [if_neg (show ¬ (false = true) by decide)] at H; exact H
                      clear H
                      have H := H1
                      clear H1
                      have H' := Aside0.mk H
                      clear H
                      have hcz38_0 : wc.cell? ⟨gb164, 0, none⟩ = some (.int .i64 a0_0) := (blk_cell BK164.out 0).trans rfl
                      have hcz38_1 : wc.cell? ⟨gb164, 1, none⟩ = some (.int .i64 a0_1) := (blk_cell BK164.out 1).trans rfl
                      have hcz38_2 : wc.cell? ⟨gb164, 2, none⟩ = some (.int .i64 a0_2) := (blk_cell BK164.out 2).trans rfl
                      have hcz38_3 : wc.cell? ⟨gb164, 3, none⟩ = some (.int .i64 a0_3) := (blk_cell BK164.out 3).trans rfl
                      have hcz38_4 : wc.cell? ⟨gb164, 4, none⟩ = some (.slice A0_4 l0_4.length c0_4) := (blk_cell BK164.out 4).trans rfl
                      have hcz38_5 : wc.cell? ⟨gb164, 5, none⟩ = some (.bool false) := (blk_cell BK164.out 5).trans rfl
                      have hfz38_0 := blk_frozen BK164.out 0
                      have hfz38_1 := blk_frozen BK164.out 1
                      have hfz38_2 := blk_frozen BK164.out 2
                      have hfz38_3 := blk_frozen BK164.out 3
                      have hfz38_4 := blk_frozen BK164.out 4
                      have hfz38_5 := blk_frozen BK164.out 5
                      as_aux_lemma =>
                        go_wp2_with (first | ((with_reducible refine gate_callee (f := 65) rfl ?_); refine goesL_ (some 51) rfl rfl Try.func65 (by kernel_rfl) rfl #[.int .i64 a0_0] rfl (by (try simp only [List.map_toArray, List.map_cons, List.map_nil]); first | done | rfl | (simp only [List.length_drop, List.length_take]; rfl)) ?_; (with_reducible refine (handoffref10_HasCh.calls a0_0 true _ A23.out).mono ?_); rintro e w' ⟨rfl, ⟨nd, rfl⟩⟩; refine ⟨_, rfl, ?_⟩) | (go_at_call 66; (with_reducible refine (handoffref10_HasV.calls a0_0 true _ A25.out).mono ?_); rintro e w' ⟨rfl, ⟨nd, rfl⟩⟩))
                        go_meet
                        case rel => exact ⟨_, (decide ((l0_4.length : Int) > 0)), (by first | rfl | (simp; done) | (simp [*]; done)), H', ⟨by have := HJ1.out; first | omega | exact Nat.le_refl _⟩, ⟨by (with_reducible repeat (first | refine blk_drewN ?_ _ | refine blk_drew ?_ | refine blk_alloc ?_ _)); exact BK164.out⟩, ⟨by repeat (first | (with_reducible first | exact HB.out | apply below_alloc | apply pw_below_drewN | apply below_drew1 | refine below_set ?_ GE164.out) | exact HB.out)⟩⟩
                · rw [if_neg c33] at H
                  have c33b0 : (a0_2 == 0) = false := beq_eq_false_iff_ne.mpr c33
                  have c33b1 : (a0_2 != 0) = true := bne_iff_ne.mpr c33
                  have H' := Aside0.mk H
                  clear H
                  have hcz39_0 : wc.cell? ⟨gb164, 0, none⟩ = some (.int .i64 a0_0) := (blk_cell BK164.out 0).trans rfl
                  have hcz39_1 : wc.cell? ⟨gb164, 1, none⟩ = some (.int .i64 a0_1) := (blk_cell BK164.out 1).trans rfl
                  have hcz39_2 : wc.cell? ⟨gb164, 2, none⟩ = some (.int .i64 a0_2) := (blk_cell BK164.out 2).trans rfl
                  have hcz39_3 : wc.cell? ⟨gb164, 3, none⟩ = some (.int .i64 a0_3) := (blk_cell BK164.out 3).trans rfl
                  have hcz39_4 : wc.cell? ⟨gb164, 4, none⟩ = some (.slice A0_4 l0_4.length c0_4) := (blk_cell BK164.out 4).trans rfl
                  have hcz39_5 : wc.cell? ⟨gb164, 5, none⟩ = some (.bool a0_5) := (blk_cell BK164.out 5).trans rfl
                  have hfz39_0 := blk_frozen BK164.out 0
                  have hfz39_1 := blk_frozen BK164.out 1
                  have hfz39_2 := blk_frozen BK164.out 2
                  have hfz39_3 := blk_frozen BK164.out 3
                  have hfz39_4 := blk_frozen BK164.out 4
                  have hfz39_5 := blk_frozen BK164.out 5
                  as_aux_lemma =>
                    go_wp2_with (first | ((with_reducible refine gate_callee (f := 65) rfl ?_); refine goesL_ (some 51) rfl rfl Try.func65 (by kernel_rfl) rfl #[.int .i64 a0_0] rfl (by (try simp only [List.map_toArray, List.map_cons, List.map_nil]); first | done | rfl | (simp only [List.length_drop, List.length_take]; rfl)) ?_; (with_reducible refine (handoffref10_HasCh.calls a0_0 true _ A23.out).mono ?_); rintro e w' ⟨rfl, ⟨nd, rfl⟩⟩; refine ⟨_, rfl, ?_⟩) | (go_at_call 66; (with_reducible refine (handoffref10_HasV.calls a0_0 true _ A25.out).mono ?_); rintro e w' ⟨rfl, ⟨nd, rfl⟩⟩))
                    go_meet
                    case rel => exact ⟨_, (true), (by first | rfl | (simp; done) | (simp [*]; done)), H', ⟨by have := HJ1.out; first | omega | exact Nat.le_refl _⟩, ⟨by (with_reducible repeat (first | refine blk_drewN ?_ _ | refine blk_drew ?_ | refine blk_alloc ?_ _)); exact BK164.out⟩, ⟨by repeat (first | (with_reducible first | exact HB.out | apply below_alloc | apply pw_below_drewN | apply below_drew1 | refine below_set ?_ GE164.out) | exact HB.out)⟩⟩
            · replace c26 := Bool.eq_false_iff.mpr c26
              subst c26
              have H1 : (if a0_3 = 0 then (if a0_0 = 1 then (if a0_0 = 9 then (handoffref10_RightOp.j1 kj1 false a0_0 a0_1 a0_2 a0_3 l0_4 a0_5) else (if a0_5 = true then (handoffref10_RightOp.j1 kj1 true a0_0 a0_1 a0_2 a0_3 l0_4 a0_5) else (handoffref10_RightOp.j1 kj1 (decide ((l0_4.length : Int) > 0)) a0_0 a0_1 a0_2 a0_3 l0_4 a0_5))) else (if a0_2 = 0 then (if a0_0 = 9 then (handoffref10_RightOp.j1 kj1 false a0_0 a0_1 a0_2 a0_3 l0_4 a0_5) else (if a0_5 = true then (handoffref10_RightOp.j1 kj1 true a0_0 a0_1 a0_2 a0_3 l0_4 a0_5) else (handoffref10_RightOp.j1 kj1 (decide ((l0_4.length : Int) > 0)) a0_0 a0_1 a0_2 a0_3 l0_4 a0_5))) else (handoffref10_RightOp.j1 kj1 true a0_0 a0_1 a0_2 a0_3 l0_4 a0_5))) else (handoffref10_RightOp.j1 kj1 true a0_0 a0_1 a0_2 a0_3 l0_4 a0_5)) = some r := by rw [if_neg (show ¬ (false = true) by decide)] at H; exact H
              clear H
              have H := H1
              clear H1
              by_cases c40 : a0_3 = 0
              · rw [if_pos c40] at H
                have c40b0 : (a0_3 == 0) = true := beq_iff_eq.mpr c40
                have c40b1 : (a0_3 != 0) = false := bne_eq_false_iff_eq.mpr c40
                clear c40
                by_cases c41 : a0_0 = 1
                · rw [if_pos c41] at H
                  have c41b0 : (a0_0 == 1) = true := beq_iff_eq.mpr c41
                  have c41b1 : (a0_0 != 1) = false := bne_eq_false_iff_eq.mpr c41
                  clear c41
                  by_cases c42 : a0_0 = 9
                  · rw [if_pos c42] at H
                    have c42b0 : (a0_0 == 9) = true := beq_iff_eq.mpr c42
                    have c42b1 : (a0_0 != 9) = false := bne_eq_false_iff_eq.mpr c42
                    clear c42
                    have H' := Aside0.mk H
                    clear H
                    have hcz43_0 : wc.cell? ⟨gb164, 0, none⟩ = some (.int .i64 a0_0) := (blk_cell BK164.out 0).trans rfl
                    have hcz43_1 : wc.cell? ⟨gb164, 1, none⟩ = some (.int .i64 a0_1) := (blk_cell BK164.out 1).trans rfl
                    have hcz43_2 : wc.cell? ⟨gb164, 2, none⟩ = some (.int .i64 a0_2) := (blk_cell BK164.out 2).trans rfl
                    have hcz43_3 : wc.cell? ⟨gb164, 3, none⟩ = some (.int .i64 a0_3) := (blk_cell BK164.out 3).trans rfl
                    have hcz43_4 : wc.cell? ⟨gb164, 4, none⟩ = some (.slice A0_4 l0_4.length c0_4) := (blk_cell BK164.out 4).trans rfl
                    have hcz43_5 : wc.cell? ⟨gb164, 5, none⟩ = some (.bool a0_5) := (blk_cell BK164.out 5).trans rfl
                    have hfz43_0 := blk_frozen BK164.out 0
                    have hfz43_1 := blk_frozen BK164.out 1
                    have hfz43_2 := blk_frozen BK164.out 2
                    have hfz43_3 := blk_frozen BK164.out 3
                    have hfz43_4 := blk_frozen BK164.out 4
                    have hfz43_5 := blk_frozen BK164.out 5
                    as_aux_lemma =>
                      go_wp2_with (first | ((with_reducible refine gate_callee (f := 65) rfl ?_); refine goesL_ (some 51) rfl rfl Try.func65 (by kernel_rfl) rfl #[.int .i64 a0_0] rfl (by (try simp only [List.map_toArray, List.map_cons, List.map_nil]); first | done | rfl | (simp only [List.length_drop, List.length_take]; rfl)) ?_; (with_reducible refine (handoffref10_HasCh.calls a0_0 true _ A23.out).mono ?_); rintro e w' ⟨rfl, ⟨nd, rfl⟩⟩; refine ⟨_, rfl, ?_⟩) | (go_at_call 66; (with_reducible refine (handoffref10_HasV.calls a0_0 false _ A25.out).mono ?_); rintro e w' ⟨rfl, ⟨nd, rfl⟩⟩))
                      go_meet
                      case rel => exact ⟨_, (false), (by first | rfl | (simp; done) | (simp [*]; done)), H', ⟨by have := HJ1.out; first | omega | exact Nat.le_refl _⟩, ⟨by (with_reducible repeat (first | refine blk_drewN ?_ _ | refine blk_drew ?_ | refine blk_alloc ?_ _)); exact BK164.out⟩, ⟨by repeat (first | (with_reducible first | exact HB.out | apply below_alloc | apply pw_below_drewN | apply below_drew1 | refine below_set ?_ GE164.out) | exact HB.out)⟩⟩
                  · rw [if_neg c42] at H
                    have c42b0 : (a0_0 == 9) = false := beq_eq_false_iff_ne.mpr c42
                    have c42b1 : (a0_0 != 9) = true := bne_iff_ne.mpr c42
                    by_cases c44 : a0_5 = true
                    · subst c44
                      have H1 : (handoffref10_RightOp.j1 kj1 true a0_0 a0_1 a0_2 a0_3 l0_4 true) = some r := by rw [if_pos rfl] at H; exact H
                      clear H
                      have H := H1
                      clear H1
                      have H' := Aside0.mk H
                      clear H
                      have hcz45_0 : wc.cell? ⟨gb164, 0, none⟩ = some (.int .i64 a0_0) := (blk_cell BK164.out 0).trans rfl
                      have hcz45_1 : wc.cell? ⟨gb164, 1, none⟩ = some (.int .i64 a0_1) := (blk_cell BK164.out 1).trans rfl
                      have hcz45_2 : wc.cell? ⟨gb164, 2, none⟩ = some (.int .i64 a0_2) := (blk_cell BK164.out 2).trans rfl
                      have hcz45_3 : wc.cell? ⟨gb164, 3, none⟩ = some (.int .i64 a0_3) := (blk_cell BK164.out 3).trans rfl
                      have hcz45_4 : wc.cell? ⟨gb164, 4, none⟩ = some (.slice A0_4 l0_4.length c0_4) := (blk_cell BK164.out 4).trans rfl
                      have hcz45_5 : wc.cell? ⟨gb164, 5, none⟩ = some (.bool true) := (blk_cell BK164.out 5).trans rfl
                      have hfz45_0 := blk_frozen BK164.out 0
                      have hfz45_1 := blk_frozen BK164.out 1
                      have hfz45_2 := blk_frozen BK164.out 2
                      have hfz45_3 := blk_frozen BK164.out 3
                      have hfz45_4 := blk_frozen BK164.out 4
                      have hfz45_5 := blk_frozen BK164.out 5
                      as_aux_lemma =>
                        go_wp2_with (first | ((with_reducible refine gate_callee (f := 65) rfl ?_); refine goesL_ (some 51) rfl rfl Try.func65 (by kernel_rfl) rfl #[.int .i64 a0_0] rfl (by (try simp only [List.map_toArray, List.map_cons, List.map_nil]); first | done | rfl | (simp only [List.length_drop, List.length_take]; rfl)) ?_; (with_reducible refine (handoffref10_HasCh.calls a0_0 true _ A23.out).mono ?_); rintro e w' ⟨rfl, ⟨nd, rfl⟩⟩; refine ⟨_, rfl, ?_⟩) | (go_at_call 66; (with_reducible refine (handoffref10_HasV.calls a0_0 false _ A25.out).mono ?_); rintro e w' ⟨rfl, ⟨nd, rfl⟩⟩))
                        go_meet
                        case rel => exact ⟨_, (true), (by first | rfl | (simp; done) | (simp [*]; done)), H', ⟨by have := HJ1.out; first | omega | exact Nat.le_refl _⟩, ⟨by (with_reducible repeat (first | refine blk_drewN ?_ _ | refine blk_drew ?_ | refine blk_alloc ?_ _)); exact BK164.out⟩, ⟨by repeat (first | (with_reducible first | exact HB.out | apply below_alloc | apply pw_below_drewN | apply below_drew1 | refine below_set ?_ GE164.out) | exact HB.out)⟩⟩
                    · replace c44 := Bool.eq_false_iff.mpr c44
                      subst c44
                      have H1 : (handoffref10_RightOp.j1 kj1 (decide ((l0_4.length : Int) > 0)) a0_0 a0_1 a0_2 a0_3 l0_4 false) = some r := by rw [if_neg (show ¬ (false = true) by decide)] at H; exact H
                      clear H
                      have H := H1
                      clear H1
                      have H' := Aside0.mk H
                      clear H
                      have hcz46_0 : wc.cell? ⟨gb164, 0, none⟩ = some (.int .i64 a0_0) := (blk_cell BK164.out 0).trans rfl
                      have hcz46_1 : wc.cell? ⟨gb164, 1, none⟩ = some (.int .i64 a0_1) := (blk_cell BK164.out 1).trans rfl
                      have hcz46_2 : wc.cell? ⟨gb164, 2, none⟩ = some (.int .i64 a0_2) := (blk_cell BK164.out 2).trans rfl
                      have hcz46_3 : wc.cell? ⟨gb164, 3, none⟩ = some (.int .i64 a0_3) := (blk_cell BK164.out 3).trans rfl
                      have hcz46_4 : wc.cell? ⟨gb164, 4, none⟩ = some (.slice A0_4 l0_4.length c0_4) := (blk_cell BK164.out 4).trans rfl
                      have hcz46_5 : wc.cell? ⟨gb164, 5, none⟩ = some (.bool false) := (blk_cell BK164.out 5).trans rfl
                      have hfz46_0 := blk_frozen BK164.out 0
                      have hfz46_1 := blk_frozen BK164.out 1
                      have hfz46_2 := blk_frozen BK164.out 2
                      have hfz46_3 := blk_frozen BK164.out 3
                      have hfz46_4 := blk_frozen BK164.out 4
                      have hfz46_5 := blk_frozen BK164.out 5
                      as_aux_lemma =>
                        go_wp2_with (first | ((with_reducible refine gate_callee (f := 65) rfl ?_); refine goesL_ (some 51) rfl rfl Try.func65 (by kernel_rfl) rfl #[.int .i64 a0_0] rfl (by (try simp only [List.map_toArray, List.map_cons, List.map_nil]); first | done | rfl | (simp only [List.length_drop, List.length_take]; rfl)) ?_; (with_reducible refine (handoffref10_HasCh.calls a0_0 true _ A23.out).mono ?_); rintro e w' ⟨rfl, ⟨nd, rfl⟩⟩; refine ⟨_, rfl, ?_⟩) | (go_at_call 66; (with_reducible refine (handoffref10_HasV.calls a0_0 false _ A25.out).mono ?_); rintro e w' ⟨rfl, ⟨nd, rfl⟩⟩))
                        go_meet
                        case rel => exact ⟨_, (decide ((l0_4.length : Int) > 0)), (by first | rfl | (simp; done) | (simp [*]; done)), H', ⟨by have := HJ1.out; first | omega | exact Nat.le_refl _⟩, ⟨by (with_reducible repeat (first | refine blk_drewN ?_ _ | refine blk_drew ?_ | refine blk_alloc ?_ _)); exact BK164.out⟩, ⟨by repeat (first | (with_reducible first | exact HB.out | apply below_alloc | apply pw_below_drewN | apply below_drew1 | refine below_set ?_ GE164.out) | exact HB.out)⟩⟩
                · rw [if_neg c41] at H
                  have c41b0 : (a0_0 == 1) = false := beq_eq_false_iff_ne.mpr c41
                  have c41b1 : (a0_0 != 1) = true := bne_iff_ne.mpr c41
                  by_cases c47 : a0_2 = 0
                  · rw [if_pos c47] at H
                    have c47b0 : (a0_2 == 0) = true := beq_iff_eq.mpr c47
                    have c47b1 : (a0_2 != 0) = false := bne_eq_false_iff_eq.mpr c47
                    clear c47
                    by_cases c48 : a0_0 = 9
                    · rw [if_pos c48] at H
                      have c48b0 : (a0_0 == 9) = true := beq_iff_eq.mpr c48
                      have c48b1 : (a0_0 != 9) = false := bne_eq_false_iff_eq.mpr c48
                      clear c48
                      have H' := Aside0.mk H
                      clear H
                      have hcz49_0 : wc.cell? ⟨gb164, 0, none⟩ = some (.int .i64 a0_0) := (blk_cell BK164.out 0).trans rfl
                      have hcz49_1 : wc.cell? ⟨gb164, 1, none⟩ = some (.int .i64 a0_1) := (blk_cell BK164.out 1).trans rfl
                      have hcz49_2 : wc.cell? ⟨gb164, 2, none⟩ = some (.int .i64 a0_2) := (blk_cell BK164.out 2).trans rfl
                      have hcz49_3 : wc.cell? ⟨gb164, 3, none⟩ = some (.int .i64 a0_3) := (blk_cell BK164.out 3).trans rfl
                      have hcz49_4 : wc.cell? ⟨gb164, 4, none⟩ = some (.slice A0_4 l0_4.length c0_4) := (blk_cell BK164.out 4).trans rfl
                      have hcz49_5 : wc.cell? ⟨gb164, 5, none⟩ = some (.bool a0_5) := (blk_cell BK164.out 5).trans rfl
                      have hfz49_0 := blk_frozen BK164.out 0
                      have hfz49_1 := blk_frozen BK164.out 1
                      have hfz49_2 := blk_frozen BK164.out 2
                      have hfz49_3 := blk_frozen BK164.out 3
                      have hfz49_4 := blk_frozen BK164.out 4
                      have hfz49_5 := blk_frozen BK164.out 5
                      as_aux_lemma =>
                        go_wp2_with (first | ((with_reducible refine gate_callee (f := 65) rfl ?_); refine goesL_ (some 51) rfl rfl Try.func65 (by kernel_rfl) rfl #[.int .i64 a0_0] rfl (by (try simp only [List.map_toArray, List.map_cons, List.map_nil]); first | done | rfl | (simp only [List.length_drop, List.length_take]; rfl)) ?_; (with_reducible refine (handoffref10_HasCh.calls a0_0 true _ A23.out).mono ?_); rintro e w' ⟨rfl, ⟨nd, rfl⟩⟩; refine ⟨_, rfl, ?_⟩) | (go_at_call 66; (with_reducible refine (handoffref10_HasV.calls a0_0 false _ A25.out).mono ?_); rintro e w' ⟨rfl, ⟨nd, rfl⟩⟩))
                        go_meet
                        case rel => exact ⟨_, (false), (by first | rfl | (simp; done) | (simp [*]; done)), H', ⟨by have := HJ1.out; first | omega | exact Nat.le_refl _⟩, ⟨by (with_reducible repeat (first | refine blk_drewN ?_ _ | refine blk_drew ?_ | refine blk_alloc ?_ _)); exact BK164.out⟩, ⟨by repeat (first | (with_reducible first | exact HB.out | apply below_alloc | apply pw_below_drewN | apply below_drew1 | refine below_set ?_ GE164.out) | exact HB.out)⟩⟩
                    · rw [if_neg c48] at H
                      have c48b0 : (a0_0 == 9) = false := beq_eq_false_iff_ne.mpr c48
                      have c48b1 : (a0_0 != 9) = true := bne_iff_ne.mpr c48
                      by_cases c50 : a0_5 = true
                      · subst c50
                        have H1 : (handoffref10_RightOp.j1 kj1 true a0_0 a0_1 a0_2 a0_3 l0_4 true) = some r := by rw [if_pos rfl] at H; exact H
                        clear H
                        have H := H1
                        clear H1
                        have H' := Aside0.mk H
                        clear H
                        have hcz51_0 : wc.cell? ⟨gb164, 0, none⟩ = some (.int .i64 a0_0) := (blk_cell BK164.out 0).trans rfl
                        have hcz51_1 : wc.cell? ⟨gb164, 1, none⟩ = some (.int .i64 a0_1) := (blk_cell BK164.out 1).trans rfl
                        have hcz51_2 : wc.cell? ⟨gb164, 2, none⟩ = some (.int .i64 a0_2) := (blk_cell BK164.out 2).trans rfl
                        have hcz51_3 : wc.cell? ⟨gb164, 3, none⟩ = some (.int .i64 a0_3) := (blk_cell BK164.out 3).trans rfl
                        have hcz51_4 : wc.cell? ⟨gb164, 4, none⟩ = some (.slice A0_4 l0_4.length c0_4) := (blk_cell BK164.out 4).trans rfl
                        have hcz51_5 : wc.cell? ⟨gb164, 5, none⟩ = some (.bool true) := (blk_cell BK164.out 5).trans rfl
                        have hfz51_0 := blk_frozen BK164.out 0
                        have hfz51_1 := blk_frozen BK164.out 1
                        have hfz51_2 := blk_frozen BK164.out 2
                        have hfz51_3 := blk_frozen BK164.out 3
                        have hfz51_4 := blk_frozen BK164.out 4
                        have hfz51_5 := blk_frozen BK164.out 5
                        as_aux_lemma =>
                          go_wp2_with (first | ((with_reducible refine gate_callee (f := 65) rfl ?_); refine goesL_ (some 51) rfl rfl Try.func65 (by kernel_rfl) rfl #[.int .i64 a0_0] rfl (by (try simp only [List.map_toArray, List.map_cons, List.map_nil]); first | done | rfl | (simp only [List.length_drop, List.length_take]; rfl)) ?_; (with_reducible refine (handoffref10_HasCh.calls a0_0 true _ A23.out).mono ?_); rintro e w' ⟨rfl, ⟨nd, rfl⟩⟩; refine ⟨_, rfl, ?_⟩) | (go_at_call 66; (with_reducible refine (handoffref10_HasV.calls a0_0 false _ A25.out).mono ?_); rintro e w' ⟨rfl, ⟨nd, rfl⟩⟩))
                          go_meet
                          case rel => exact ⟨_, (true), (by first | rfl | (simp; done) | (simp [*]; done)), H', ⟨by have := HJ1.out; first | omega | exact Nat.le_refl _⟩, ⟨by (with_reducible repeat (first | refine blk_drewN ?_ _ | refine blk_drew ?_ | refine blk_alloc ?_ _)); exact BK164.out⟩, ⟨by repeat (first | (with_reducible first | exact HB.out | apply below_alloc | apply pw_below_drewN | apply below_drew1 | refine below_set ?_ GE164.out) | exact HB.out)⟩⟩
                      · replace c50 := Bool.eq_false_iff.mpr c50
                        subst c50
                        have H1 : (handoffref10_RightOp.j1 kj1 (decide ((l0_4.length : Int) > 0)) a0_0 a0_1 a0_2 a0_3 l0_4 false) = some r := by rw [if_neg (show ¬ (false = true) by decide)] at H; exact H
                        clear H
                        have H := H1
                        clear H1
                        have H' := Aside0.mk H
                        clear H
                        have hcz52_0 : wc.cell? ⟨gb164, 0, none⟩ = some (.int .i64 a0_0) := (blk_cell BK164.out 0).trans rfl
                        have hcz52_1 : wc.cell? ⟨gb164, 1, none⟩ = some (.int .i64 a0_1) := (blk_cell BK164.out 1).trans rfl
                        have hcz52_2 : wc.cell? ⟨gb164, 2, none⟩ = some (.int .i64 a0_2) := (blk_cell BK164.out 2).trans rfl
                        have hcz52_3 : wc.cell? ⟨gb164, 3, none⟩ = some (.int .i64 a0_3) := (blk_cell BK164.out 3).trans rfl
                        have hcz52_4 : wc.cell? ⟨gb164, 4, none⟩ = some (.slice A0_4 l0_4.length c0_4) := (blk_cell BK164.out 4).trans rfl
                        have hcz52_5 : wc.cell? ⟨gb164, 5, none⟩ = some (.bool false) := (blk_cell BK164.out 5).trans rfl
                        have hfz52_0 := blk_frozen BK164.out 0
                        have hfz52_1 := blk_frozen BK164.out 1
                        have hfz52_2 := blk_frozen BK164.out 2
                        have hfz52_3 := blk_frozen BK164.out 3
                        have hfz52_4 := blk_frozen BK164.out 4
                        have hfz52_5 := blk_frozen BK164.out 5
                        as_aux_lemma =>
                          go_wp2_with (first | ((with_reducible refine gate_callee (f := 65) rfl ?_); refine goesL_ (some 51) rfl rfl Try.func65 (by kernel_rfl) rfl #[.int .i64 a0_0] rfl (by (try simp only [List.map_toArray, List.map_cons, List.map_nil]); first | done | rfl | (simp only [List.length_drop, List.length_take]; rfl)) ?_; (with_reducible refine (handoffref10_HasCh.calls a0_0 true _ A23.out).mono ?_); rintro e w' ⟨rfl, ⟨nd, rfl⟩⟩; refine ⟨_, rfl, ?_⟩) | (go_at_call 66; (with_reducible refine (handoffref10_HasV.calls a0_0 false _ A25.out).mono ?_); rintro e w' ⟨rfl, ⟨nd, rfl⟩⟩))
                          go_meet
                          case rel => exact ⟨_, (decide ((l0_4.length : Int) > 0)), (by first | rfl | (simp; done) | (simp [*]; done)), H', ⟨by have := HJ1.out; first | omega | exact Nat.le_refl _⟩, ⟨by (with_reducible repeat (first | refine blk_drewN ?_ _ | refine blk_drew ?_ | refine blk_alloc ?_ _)); exact BK164.out⟩, ⟨by repeat (first | (with_reducible first | exact HB.out | apply below_alloc | apply pw_below_drewN | apply below_drew1 | refine below_set ?_ GE164.out) | exact HB.out)⟩⟩
                  · rw [if_neg c47] at H
                    have c47b0 : (a0_2 == 0) = false := beq_eq_false_iff_ne.mpr c47
                    have c47b1 : (a0_2 != 0) = true := bne_iff_ne.mpr c47
                    have H' := Aside0.mk H
                    clear H
                    have hcz53_0 : wc.cell? ⟨gb164, 0, none⟩ = some (.int .i64 a0_0) := (blk_cell BK164.out 0).trans rfl
                    have hcz53_1 : wc.cell? ⟨gb164, 1, none⟩ = some (.int .i64 a0_1) := (blk_cell BK164.out 1).trans rfl
                    have hcz53_2 : wc.cell? ⟨gb164, 2, none⟩ = some (.int .i64 a0_2) := (blk_cell BK164.out 2).trans rfl
                    have hcz53_3 : wc.cell? ⟨gb164, 3, none⟩ = some (.int .i64 a0_3) := (blk_cell BK164.out 3).trans rfl
                    have hcz53_4 : wc.cell? ⟨gb164, 4, none⟩ = some (.slice A0_4 l0_4.length c0_4) := (blk_cell BK164.out 4).trans rfl
                    have hcz53_5 : wc.cell? ⟨gb164, 5, none⟩ = some (.bool a0_5) := (blk_cell BK164.out 5).trans rfl
                    have hfz53_0 := blk_frozen BK164.out 0
                    have hfz53_1 := blk_frozen BK164.out 1
                    have hfz53_2 := blk_frozen BK164.out 2
                    have hfz53_3 := blk_frozen BK164.out 3
                    have hfz53_4 := blk_frozen BK164.out 4
                    have hfz53_5 := blk_frozen BK164.out 5
                    as_aux_lemma =>
                      go_wp2_with (first | ((with_reducible refine gate_callee (f := 65) rfl ?_); refine goesL_ (some 51) rfl rfl Try.func65 (by kernel_rfl) rfl #[.int .i64 a0_0] rfl (by (try simp only [List.map_toArray, List.map_cons, List.map_nil]); first | done | rfl | (simp only [List.length_drop, List.length_take]; rfl)) ?_; (with_reducible refine (handoffref10_HasCh.calls a0_0 true _ A23.out).mono ?_); rintro e w' ⟨rfl, ⟨nd, rfl⟩⟩; refine ⟨_, rfl, ?_⟩) | (go_at_call 66; (with_reducible refine (handoffref10_HasV.calls a0_0 false _ A25.out).mono ?_); rintro e w' ⟨rfl, ⟨nd, rfl⟩⟩))
                      go_meet
                      case rel => exact ⟨_, (true), (by first | rfl | (simp; done) | (simp [*]; done)), H', ⟨by have := HJ1.out; first | omega | exact Nat.le_refl _⟩, ⟨by (with_reducible repeat (first | refine blk_drewN ?_ _ | refine blk_drew ?_ | refine blk_alloc ?_ _)); exact BK164.out⟩, ⟨by repeat (first | (with_reducible first | exact HB.out | apply below_alloc | apply pw_below_drewN | apply below_drew1 | refine below_set ?_ GE164.out) | exact HB.out)⟩⟩
              · rw [if_neg c40] at H
                have c40b0 : (a0_3 == 0) = false := beq_eq_false_iff_ne.mpr c40
                have c40b1 : (a0_3 != 0) = true := bne_iff_ne.mpr c40
                have H' := Aside0.mk H
                clear H
                have hcz54_0 : wc.cell? ⟨gb164, 0, none⟩ = some (.int .i64 a0_0) := (blk_cell BK164.out 0).trans rfl
                have hcz54_1 : wc.cell? ⟨gb164, 1, none⟩ = some (.int .i64 a0_1) := (blk_cell BK164.out 1).trans rfl
                have hcz54_2 : wc.cell? ⟨gb164, 2, none⟩ = some (.int .i64 a0_2) := (blk_cell BK164.out 2).trans rfl
                have hcz54_3 : wc.cell? ⟨gb164, 3, none⟩ = some (.int .i64 a0_3) := (blk_cell BK164.out 3).trans rfl
                have hcz54_4 : wc.cell? ⟨gb164, 4, none⟩ = some (.slice A0_4 l0_4.length c0_4) := (blk_cell BK164.out 4).trans rfl
                have hcz54_5 : wc.cell? ⟨gb164, 5, none⟩ = some (.bool a0_5) := (blk_cell BK164.out 5).trans rfl
                have hfz54_0 := blk_frozen BK164.out 0
                have hfz54_1 := blk_frozen BK164.out 1
                have hfz54_2 := blk_frozen BK164.out 2
                have hfz54_3 := blk_frozen BK164.out 3
                have hfz54_4 := blk_frozen BK164.out 4
                have hfz54_5 := blk_frozen BK164.out 5
                as_aux_lemma =>
                  go_wp2_with (first | ((with_reducible refine gate_callee (f := 65) rfl ?_); refine goesL_ (some 51) rfl rfl Try.func65 (by kernel_rfl) rfl #[.int .i64 a0_0] rfl (by (try simp only [List.map_toArray, List.map_cons, List.map_nil]); first | done | rfl | (simp only [List.length_drop, List.length_take]; rfl)) ?_; (with_reducible refine (handoffref10_HasCh.calls a0_0 true _ A23.out).mono ?_); rintro e w' ⟨rfl, ⟨nd, rfl⟩⟩; refine ⟨_, rfl, ?_⟩) | (go_at_call 66; (with_reducible refine (handoffref10_HasV.calls a0_0 false _ A25.out).mono ?_); rintro e w' ⟨rfl, ⟨nd, rfl⟩⟩))
                  go_meet
                  case rel => exact ⟨_, (true), (by first | rfl | (simp; done) | (simp [*]; done)), H', ⟨by have := HJ1.out; first | omega | exact Nat.le_refl _⟩, ⟨by (with_reducible repeat (first | refine blk_drewN ?_ _ | refine blk_drew ?_ | refine blk_alloc ?_ _)); exact BK164.out⟩, ⟨by repeat (first | (with_reducible first | exact HB.out | apply below_alloc | apply pw_below_drewN | apply below_drew1 | refine below_set ?_ GE164.out) | exact HB.out)⟩⟩
          · replace c24 := Bool.eq_false_iff.mpr c24
            subst c24
            have H1 : (if a0_1 = 0 then ((handoffref10_HasV.f a0_0).bind fun t167 => (if t167 = true then (if a0_0 = 1 then (if a0_0 = 9 then (handoffref10_RightOp.j1 kj1 false a0_0 a0_1 a0_2 a0_3 l0_4 a0_5) else (if a0_5 = true then (handoffref10_RightOp.j1 kj1 true a0_0 a0_1 a0_2 a0_3 l0_4 a0_5) else (handoffref10_RightOp.j1 kj1 (decide ((l0_4.length : Int) > 0)) a0_0 a0_1 a0_2 a0_3 l0_4 a0_5))) else (if a0_2 = 0 then (if a0_0 = 9 then (handoffref10_RightOp.j1 kj1 false a0_0 a0_1 a0_2 a0_3 l0_4 a0_5) else (if a0_5 = true then (handoffref10_RightOp.j1 kj1 true a0_0 a0_1 a0_2 a0_3 l0_4 a0_5) else (handoffref10_RightOp.j1 kj1 (decide ((l0_4.length : Int) > 0)) a0_0 a0_1 a0_2 a0_3 l0_4 a0_5))) else (handoffref10_RightOp.j1 kj1 true a0_0 a0_1 a0_2 a0_3 l0_4 a0_5))) else (if a0_3 = 0 then (if a0_0 = 1 then (if a0_0 = 9 then (handoffref10_RightOp.j1 kj1 false a0_0 a0_1 a0_2 a0_3 l0_4 a0_5) else (if a0_5 = true then (handoffref10_RightOp.j1 kj1 true a0_0 a0_1 a0_2 a0_3 l0_4 a0_5) else (handoffref10_RightOp.j1 kj1 (decide ((l0_4.length : Int) > 0)) a0_0 a0_1 a0_2 a0_3 l0_4 a0_5))) else (if a0_2 = 0 then (if a0_0 = 9 then (handoffref10_RightOp.j1 kj1 false a0_0 a0_1 a0_2 a0_3 l0_4 a0_5) else (if a0_5 = true then (handoffref10_RightOp.j1 kj1 true a0_0 a0_1 a0_2 a0_3 l0_4 a0_5) else (handoffref10_RightOp.j1 kj1 (decide ((l0_4.length : Int) > 0)) a0_0 a0_1 a0_2 a0_3 l0_4 a0_5))) else (handoffref10_RightOp.j1 kj1 true a0_0 a0_1 a0_2 a0_3 l0_4 a0_5))) else (handoffref10_RightOp.j1 kj1 true a0_0 a0_1 a0_2 a0_3 l0_4 a0_5)))) else (handoffref10_RightOp.j1 kj1 true a0_0 a0_1 a0_2 a0_3 l0_4 a0_5)) = some r := by rw [if_neg (show ¬ (false = true) by decide)] at H; exact H
            clear H
            have H := H1
            clear H1
            by_cases c55 : a0_1 = 0
            · rw [if_pos c55] at H
              have c55b0 : (a0_1 == 0) = true := beq_iff_eq.mpr c55
              have c55b1 : (a0_1 != 0) = false := bne_eq_false_iff_eq.mpr c55
              clear c55
              replace H := Option.bind_eq_some_iff.mp H
              obtain ⟨t167, A560, H⟩ := H
              replace H : (if t167 = true then (if a0_0 = 1 then (if a0_0 = 9 then (handoffref10_RightOp.j1 kj1 false a0_0 a0_1 a0_2 a0_3 l0_4 a0_5) else (if a0_5 = true then (handoffref10_RightOp.j1 kj1 true a0_0 a0_1 a0_2 a0_3 l0_4 a0_5) else (handoffref10_RightOp.j1 kj1 (decide ((l0_4.length : Int) > 0)) a0_0 a0_1 a0_2 a0_3 l0_4 a0_5))) else (if a0_2 = 0 then (if a0_0 = 9 then (handoffref10_RightOp.j1 kj1 false a0_0 a0_1 a0_2 a0_3 l0_4 a0_5) else (if a0_5 = true then (handoffref10_RightOp.j1 kj1 true a0_0 a0_1 a0_2 a0_3 l0_4 a0_5) else (handoffref10_RightOp.j1 kj1 (decide ((l0_4.length : Int) > 0)) a0_0 a0_1 a0_2 a0_3 l0_4 a0_5))) else (handoffref10_RightOp.j1 kj1 true a0_0 a0_1 a0_2 a0_3 l0_4 a0_5))) else (if a0_3 = 0 then (if a0_0 = 1 then (if a0_0 = 9 then (handoffref10_RightOp.j1 kj1 false a0_0 a0_1 a0_2 a0_3 l0_4 a0_5) else (if a0_5 = true then (handoffref10_RightOp.j1 kj1 true a0_0 a0_1 a0_2 a0_3 l0_4 a0_5) else (handoffref10_RightOp.j1 kj1 (decide ((l0_4.length : Int) > 0)) a0_0 a0_1 a0_2 a0_3 l0_4 a0_5))) else (if a0_2 = 0 then (if a0_0 = 9 then (handoffref10_RightOp.j1 kj1 false a0_0 a0_1 a0_2 a0_3 l0_4 a0_5) else (if a0_5 = true then (handoffref10_RightOp.j1 kj1 true a0_0 a0_1 a0_2 a0_3 l0_4 a0_5) else (handoffref10_RightOp.j1 kj1 (decide ((l0_4.length : Int) > 0)) a0_0 a0_1 a0_2 a0_3 l0_4 a0_5))) else (handoffref10_RightOp.j1 kj1 true a0_0 a0_1 a0_2 a0_3 l0_4 a0_5))) else (handoffref10_RightOp.j1 kj1 true a0_0 a0_1 a0_2 a0_3 l0_4 a0_5))) = some r := H
              have A56 := Aside0.mk A560
              clear A560
              by_cases c57 : t167 = true
              · subst c57
                have H1 : (if a0_0 = 1 then (if a0_0 = 9 then (handoffref10_RightOp.j1 kj1 false a0_0 a0_1 a0_2 a0_3 l0_4 a0_5) else (if a0_5 = true then (handoffref10_RightOp.j1 kj1 true a0_0 a0_1 a0_2 a0_3 l0_4 a0_5) else (handoffref10_RightOp.j1 kj1 (decide ((l0_4.length : Int) > 0)) a0_0 a0_1 a0_2 a0_3 l0_4 a0_5))) else (if a0_2 = 0 then (if a0_0 = 9 then (handoffref10_RightOp.j1 kj1 false a0_0 a0_1 a0_2 a0_3 l0_4 a0_5) else (if a0_5 = true then (handoffref10_RightOp.j1 kj1 true a0_0 a0_1 a0_2 a0_3 l0_4 a0_5) else (handoffref10_RightOp.j1 kj1 (decide ((l0_4.length : Int) > 0)) a0_0 a0_1 a0_2 a0_3 l0_4 a0_5))) else (handoffref10_RightOp.j1 kj1 true a0_0 a0_1 a0_2 a0_3 l0_4 a0_5))) = some r := by rw [if_pos rfl] at H; exact H
                clear H
                have H := H1
                clear H1
                by_cases c58 : a0_0 = 1
                · rw [if_pos c58] at H
                  have c58b0 : (a0_0 == 1) = true := beq_iff_eq.mpr c58
                  have c58b1 : (a0_0 != 1) = false := bne_eq_false_iff_eq.mpr c58
                  clear c58
                  by_cases c59 : a0_0 = 9
                  · rw [if_pos c59] at H
                    have c59b0 : (a0_0 == 9) = true := beq_iff_eq.mpr c59
                    have c59b1 : (a0_0 != 9) = false := bne_eq_false_iff_eq.mpr c59
                    clear c59
                    have H' := Aside0.mk H
                    clear H
                    have hcz60_0 : wc.cell? ⟨gb164, 0, none⟩ = some (.int .i64 a0_0) := (blk_cell BK164.out 0).trans rfl
                    have hcz60_1 : wc.cell? ⟨gb164, 1, none⟩ = some (.int .i64 a0_1) := (blk_cell BK164.out 1).trans rfl
                    have hcz60_2 : wc.cell? ⟨gb164, 2, none⟩ = some (.int .i64 a0_2) := (blk_cell BK164.out 2).trans rfl
                    have hcz60_3 : wc.cell? ⟨gb164, 3, none⟩ = some (.int .i64 a0_3) := (blk_cell BK164.out 3).trans rfl
                    have hcz60_4 : wc.cell? ⟨gb164, 4, none⟩ = some (.slice A0_4 l0_4.length c0_4) := (blk_cell BK164.out 4).trans rfl
                    have hcz60_5 : wc.cell? ⟨gb164, 5, none⟩ = some (.bool a0_5) := (blk_cell BK164.out 5).trans rfl
                    have hfz60_0 := blk_frozen BK164.out 0
                    have hfz60_1 := blk_frozen BK164.out 1
                    have hfz60_2 := blk_frozen BK164.out 2
                    have hfz60_3 := blk_frozen BK164.out 3
                    have hfz60_4 := blk_frozen BK164.out 4
                    have hfz60_5 := blk_frozen BK164.out 5
                    as_aux_lemma =>
                      go_wp2_with (first | ((with_reducible refine gate_callee (f := 65) rfl ?_); refine goesL_ (some 51) rfl rfl Try.func65 (by kernel_rfl) rfl #[.int .i64 a0_0] rfl (by (try simp only [List.map_toArray, List.map_cons, List.map_nil]); first | done | rfl | (simp only [List.length_drop, List.length_take]; rfl)) ?_; (with_reducible refine (handoffref10_HasCh.calls a0_0 false _ A23.out).mono ?_); rintro e w' ⟨rfl, ⟨nd, rfl⟩⟩; refine ⟨_, rfl, ?_⟩) | (go_at_call 66; (with_reducible refine (handoffref10_HasV.calls a0_0 true _ A56.out).mono ?_); rintro e w' ⟨rfl, ⟨nd, rfl⟩⟩))
                      go_meet
                      case rel => exact ⟨_, (false), (by first | rfl | (simp; done) | (simp [*]; done)), H', ⟨by have := HJ1.out; first | omega | exact Nat.le_refl _⟩, ⟨by (with_reducible repeat (first | refine blk_drewN ?_ _ | refine blk_drew ?_ | refine blk_alloc ?_ _)); exact BK164.out⟩, ⟨by repeat (first | (with_reducible first | exact HB.out | apply below_alloc | apply pw_below_drewN | apply below_drew1 | refine below_set ?_ GE164.out) | exact HB.out)⟩⟩
                  · rw [if_neg c59] at H
                    have c59b0 : (a0_0 == 9) = false := beq_eq_false_iff_ne.mpr c59
                    have c59b1 : (a0_0 != 9) = true := bne_iff_ne.mpr c59
                    by_cases c61 : a0_5 = true
                    · subst c61
                      have H1 : (handoffref10_RightOp.j1 kj1 true a0_0 a0_1 a0_2 a0_3 l0_4 true) = some r := by rw [if_pos rfl] at H; exact H
                      clear H
                      have H := H1
                      clear H1
                      have H' := Aside0.mk H
                      clear H
                      have hcz62_0 : wc.cell? ⟨gb164, 0, none⟩ = some (.int .i64 a0_0) := (blk_cell BK164.out 0).trans rfl
                      have hcz62_1 : wc.cell? ⟨gb164, 1, none⟩ = some (.int .i64 a0_1) := (blk_cell BK164.out 1).trans rfl
                      have hcz62_2 : wc.cell? ⟨gb164, 2, none⟩ = some (.int .i64 a0_2) := (blk_cell BK164.out 2).trans rfl
                      have hcz62_3 : wc.cell? ⟨gb164, 3, none⟩ = some (.int .i64 a0_3) := (blk_cell BK164.out 3).trans rfl
                      have hcz62_4 : wc.cell? ⟨gb164, 4, none⟩ = some (.slice A0_4 l0_4.length c0_4) := (blk_cell BK164.out 4).trans rfl
                      have hcz62_5 : wc.cell? ⟨gb164, 5, none⟩ = some (.bool true) := (blk_cell BK164.out 5).trans rfl
                      have hfz62_0 := blk_frozen BK164.out 0
                      have hfz62_1 := blk_frozen BK164.out 1
                      have hfz62_2 := blk_frozen BK164.out 2
                      have hfz62_3 := blk_frozen BK164.out 3
                      have hfz62_4 := blk_frozen BK164.out 4
                      have hfz62_5 := blk_frozen BK164.out 5
                      as_aux_lemma =>
                        go_wp2_with (first | ((with_reducible refine gate_callee (f := 65) rfl ?_); refine goesL_ (some 51) rfl rfl Try.func65 (by kernel_rfl) rfl #[.int .i64 a0_0] rfl (by (try simp only [List.map_toArray, List.map_cons, List.map_nil]); first | done | rfl | (simp only [List.length_drop, List.length_take]; rfl)) ?_; (with_reducible refine (handoffref10_HasCh.calls a0_0 false _ A23.out).mono ?_); rintro e w' ⟨rfl, ⟨nd, rfl⟩⟩; refine ⟨_, rfl, ?_⟩) | (go_at_call 66; (with_reducible refine (handoffref10_HasV.calls a0_0 true _ A56.out).mono ?_); rintro e w' ⟨rfl, ⟨nd, rfl⟩⟩))
                        go_meet
                        case rel => exact ⟨_, (true), (by first | rfl | (simp; done) | (simp [*]; done)), H', ⟨by have := HJ1.out; first | omega | exact Nat.le_refl _⟩, ⟨by (with_reducible repeat (first | refine blk_drewN ?_ _ | refine blk_drew ?_ | refine blk_alloc ?_ _)); exact BK164.out⟩, ⟨by repeat (first | (with_reducible first | exact HB.out | apply below_alloc | apply pw_below_drewN | apply below_drew1 | refine below_set ?_ GE164.out) | exact HB.out)⟩⟩
                    · replace c61 := Bool.eq_false_iff.mpr c61
                      subst c61
                      have H1 : (handoffref10_RightOp.j1 kj1 (decide ((l0_4.length : Int) > 0)) a0_0 a0_1 a0_2 a0_3 l0_4 false) = some r := by rw [if_neg (show ¬ (false = true) by decide)] at H; exact H
                      clear H
                      have H := H1
                      clear H1
                      have H' := Aside0.mk H
                      clear H
                      have hcz63_0 : wc.cell? ⟨gb164, 0, none⟩ = some (.int .i64 a0_0) := (blk_cell BK164.out 0).trans rfl
                      have hcz63_1 : wc.cell? ⟨gb164, 1, none⟩ = some (.int .i64 a0_1) := (blk_cell BK164.out 1).trans rfl
                      have hcz63_2 : wc.cell? ⟨gb164, 2, none⟩ = some (.int .i64 a0_2) := (blk_cell BK164.out 2).trans rfl
                      have hcz63_3 : wc.cell? ⟨gb164, 3, none⟩ = some (.int .i64 a0_3) := (blk_cell BK164.out 3).trans rfl
                      have hcz63_4 : wc.cell? ⟨gb164, 4, none⟩ = some (.slice A0_4 l0_4.length c0_4) := (blk_cell BK164.out 4).trans rfl
                      have hcz63_5 : wc.cell? ⟨gb164, 5, none⟩ = some (.bool false) := (blk_cell BK164.out 5).trans rfl
                      have hfz63_0 := blk_frozen BK164.out 0
                      have hfz63_1 := blk_frozen BK164.out 1
                      have hfz63_2 := blk_frozen BK164.out 2
                      have hfz63_3 := blk_frozen BK164.out 3
                      have hfz63_4 := blk_frozen BK164.out 4
                      have hfz63_5 := blk_frozen BK164.out 5
                      as_aux_lemma =>
                        go_wp2_with (first | ((with_reducible refine gate_callee (f := 65) rfl ?_); refine goesL_ (some 51) rfl rfl Try.func65 (by kernel_rfl) rfl #[.int .i64 a0_0] rfl (by (try simp only [List.map_toArray, List.map_cons, List.map_nil]); first | done | rfl | (simp only [List.length_drop, List.length_take]; rfl)) ?_; (with_reducible refine (handoffref10_HasCh.calls a0_0 false _ A23.out).mono ?_); rintro e w' ⟨rfl, ⟨nd, rfl⟩⟩; refine ⟨_, rfl, ?_⟩) | (go_at_call 66; (with_reducible refine (handoffref10_HasV.calls a0_0 true _ A56.out).mono ?_); rintro e w' ⟨rfl, ⟨nd, rfl⟩⟩))
                        go_meet
                        case rel => exact ⟨_, (decide ((l0_4.length : Int) > 0)), (by first | rfl | (simp; done) | (simp [*]; done)), H', ⟨by have := HJ1.out; first | omega | exact Nat.le_refl _⟩, ⟨by (with_reducible repeat (first | refine blk_drewN ?_ _ | refine blk_drew ?_ | refine blk_alloc ?_ _)); exact BK164.out⟩, ⟨by repeat (first | (with_reducible first | exact HB.out | apply below_alloc | apply pw_below_drewN | apply below_drew1 | refine below_set ?_ GE164.out) | exact HB.out)⟩⟩
                · rw [if_neg c58] at H
                  have c58b0 : (a0_0 == 1) = false := beq_eq_false_iff_ne.mpr c58
                  have c58b1 : (a0_0 != 1) = true := bne_iff_ne.mpr c58
                  by_cases c64 : a0_2 = 0
                  · rw [if_pos c64] at H
                    have c64b0 : (a0_2 == 0) = true := beq_iff_eq.mpr c64
                    have c64b1 : (a0_2 != 0) = false := bne_eq_false_iff_eq.mpr c64
                    clear c64
                    by_cases c65 : a0_0 = 9
                    · rw [if_pos c65] at H
                      have c65b0 : (a0_0 == 9) = true := beq_iff_eq.mpr c65
                      have c65b1 : (a0_0 != 9) = false := bne_eq_false_iff_eq.mpr c65
                      clear c65
                      have H' := Aside0.mk H
                      clear H
                      have hcz66_0 : wc.cell? ⟨gb164, 0, none⟩ = some (.int .i64 a0_0) := (blk_cell BK164.out 0).trans rfl
                      have hcz66_1 : wc.cell? ⟨gb164, 1, none⟩ = some (.int .i64 a0_1) := (blk_cell BK164.out 1).trans rfl
                      have hcz66_2 : wc.cell? ⟨gb164, 2, none⟩ = some (.int .i64 a0_2) := (blk_cell BK164.out 2).trans rfl
                      have hcz66_3 : wc.cell? ⟨gb164, 3, none⟩ = some (.int .i64 a0_3) := (blk_cell BK164.out 3).trans rfl
                      have hcz66_4 : wc.cell? ⟨gb164, 4, none⟩ = some (.slice A0_4 l0_4.length c0_4) := (blk_cell BK164.out 4).trans rfl
                      have hcz66_5 : wc.cell? ⟨gb164, 5, none⟩ = some (.bool a0_5) := (blk_cell BK164.out 5).trans rfl
                      have hfz66_0 := blk_frozen BK164.out 0
                      have hfz66_1 := blk_frozen BK164.out 1
                      have hfz66_2 := blk_frozen BK164.out 2
                      have hfz66_3 := blk_frozen BK164.out 3
                      have hfz66_4 := blk_frozen BK164.out 4
                      have hfz66_5 := blk_frozen BK164.out 5
                      as_aux_lemma =>
                        go_wp2_with (first | ((with_reducible refine gate_callee (f := 65) rfl ?_); refine goesL_ (some 51) rfl rfl Try.func65 (by kernel_rfl) rfl #[.int .i64 a0_0] rfl (by (try simp only [List.map_toArray, List.map_cons, List.map_nil]); first | done | rfl | (simp only [List.length_drop, List.length_take]; rfl)) ?_; (with_reducible refine (handoffref10_HasCh.calls a0_0 false _ A23.out).mono ?_); rintro e w' ⟨rfl, ⟨nd, rfl⟩⟩; refine ⟨_, rfl, ?_⟩) | (go_at_call 66; (with_reducible refine (handoffref10_HasV.calls a0_0 true _ A56.out).mono ?_); rintro e w' ⟨rfl, ⟨nd, rfl⟩⟩))
                        go_meet
                        case rel => exact ⟨_, (false), (by first | rfl | (simp; done) | (simp [*]; done)), H', ⟨by have := HJ1.out; first | omega | exact Nat.le_refl _⟩, ⟨by (with_reducible repeat (first | refine blk_drewN ?_ _ | refine blk_drew ?_ | refine blk_alloc ?_ _)); exact BK164.out⟩, ⟨by repeat (first | (with_reducible first | exact HB.out | apply below_alloc | apply pw_below_drewN | apply below_drew1 | refine below_set ?_ GE164.out) | exact HB.out)⟩⟩
                    · rw [if_neg c65] at H
                      have c65b0 : (a0_0 == 9) = false := beq_eq_false_iff_ne.mpr c65
                      have c65b1 : (a0_0 != 9) = true := bne_iff_ne.mpr c65
                      by_cases c67 : a0_5 = true
                      · subst c67
                        have H1 : (handoffref10_RightOp.j1 kj1 true a0_0 a0_1 a0_2 a0_3 l0_4 true) = some r := by rw [if_pos rfl] at H; exact H
                        clear H
                        have H := H1
                        clear H1
                        have H' := Aside0.mk H
                        clear H
                        have hcz68_0 : wc.cell? ⟨gb164, 0, none⟩ = some (.int .i64 a0_0) := (blk_cell BK164.out 0).trans rfl
                        have hcz68_1 : wc.cell? ⟨gb164, 1, none⟩ = some (.int .i64 a0_1) := (blk_cell BK164.out 1).trans rfl
                        have hcz68_2 : wc.cell? ⟨gb164, 2, none⟩ = some (.int .i64 a0_2) := (blk_cell BK164.out 2).trans rfl
                        have hcz68_3 : wc.cell? ⟨gb164, 3, none⟩ = some (.int .i64 a0_3) := (blk_cell BK164.out 3).trans rfl
                        have hcz68_4 : wc.cell? ⟨gb164, 4, none⟩ = some (.slice A0_4 l0_4.length c0_4) := (blk_cell BK164.out 4).trans rfl
                        have hcz68_5 : wc.cell? ⟨gb164, 5, none⟩ = some (.bool true) := (blk_cell BK164.out 5).trans rfl
                        have hfz68_0 := blk_frozen BK164.out 0
                        have hfz68_1 := blk_frozen BK164.out 1
                        have hfz68_2 := blk_frozen BK164.out 2
                        have hfz68_3 := blk_frozen BK164.out 3
                        have hfz68_4 := blk_frozen BK164.out 4
                        have hfz68_5 := blk_frozen BK164.out 5
                        as_aux_lemma =>
                          go_wp2_with (first | ((with_reducible refine gate_callee (f := 65) rfl ?_); refine goesL_ (some 51) rfl rfl Try.func65 (by kernel_rfl) rfl #[.int .i64 a0_0] rfl (by (try simp only [List.map_toArray, List.map_cons, List.map_nil]); first | done | rfl | (simp only [List.length_drop, List.length_take]; rfl)) ?_; (with_reducible refine (handoffref10_HasCh.calls a0_0 false _ A23.out).mono ?_); rintro e w' ⟨rfl, ⟨nd, rfl⟩⟩; refine ⟨_, rfl, ?_⟩) | (go_at_call 66; (with_reducible refine (handoffref10_HasV.calls a0_0 true _ A56.out).mono ?_); rintro e w' ⟨rfl, ⟨nd, rfl⟩⟩))
                          go_meet
                          case rel => exact ⟨_, (true), (by first | rfl | (simp; done) | (simp [*]; done)), H', ⟨by have := HJ1.out; first | omega | exact Nat.le_refl _⟩, ⟨by (with_reducible repeat (first | refine blk_drewN ?_ _ | refine blk_drew ?_ | refine blk_alloc ?_ _)); exact BK164.out⟩, ⟨by repeat (first | (with_reducible first | exact HB.out | apply below_alloc | apply pw_below_drewN | apply below_drew1 | refine below_set ?_ GE164.out) | exact HB.out)⟩⟩
                      · replace c67 := Bool.eq_false_iff.mpr c67
                        subst c67
                        have H1 : (handoffref10_RightOp.j1 kj1 (decide ((l0_4.length : Int) > 0)) a0_0 a0_1 a0_2 a0_3 l0_4 false) = some r := by rw [if_neg (show ¬ (false = true) by decide)] at H; exact H
                        clear H
                        have H := H1
                        clear H1
                        have H' := Aside0.mk H
                        clear H
                        have hcz69_0 : wc.cell? ⟨gb164, 0, none⟩ = some (.int .i64 a0_0) := (blk_cell BK164.out 0).trans rfl
                        have hcz69_1 : wc.cell? ⟨gb164, 1, none⟩ = some (.int .i64 a0_1) := (blk_cell BK164.out 1).trans rfl
                        have hcz69_2 : wc.cell? ⟨gb164, 2, none⟩ = some (.int .i64 a0_2) := (blk_cell BK164.out 2).trans rfl
                        have hcz69_3 : wc.cell? ⟨gb164, 3, none⟩ = some (.int .i64 a0_3) := (blk_cell BK164.out 3).trans rfl
                        have hcz69_4 : wc.cell? ⟨gb164, 4, none⟩ = some (.slice A0_4 l0_4.length c0_4) := (blk_cell BK164.out 4).trans rfl
                        have hcz69_5 : wc.cell? ⟨gb164, 5, none⟩ = some (.bool false) := (blk_cell BK164.out 5).trans rfl
                        have hfz69_0 := blk_frozen BK164.out 0
                        have hfz69_1 := blk_frozen BK164.out 1
                        have hfz69_2 := blk_frozen BK164.out 2
                        have hfz69_3 := blk_frozen BK164.out 3
                        have hfz69_4 := blk_frozen BK164.out 4
                        have hfz69_5 := blk_frozen BK164.out 5
                        as_aux_lemma =>
                          go_wp2_with (first | ((with_reducible refine gate_callee (f := 65) rfl ?_); refine goesL_ (some 51) rfl rfl Try.func65 (by kernel_rfl) rfl #[.int .i64 a0_0] rfl (by (try simp only [List.map_toArray, List.map_cons, List.map_nil]); first | done | rfl | (simp only [List.length_drop, List.length_take]; rfl)) ?_; (with_reducible refine (handoffref10_HasCh.calls a0_0 false _ A23.out).mono ?_); rintro e w' ⟨rfl, ⟨nd, rfl⟩⟩; refine ⟨_, rfl, ?_⟩) | (go_at_call 66; (with_reducible refine (handoffref10_HasV.calls a0_0 true _ A56.out).mono ?_); rintro e w' ⟨rfl, ⟨nd, rfl⟩⟩))
                          go_meet
                          case rel => exact ⟨_, (decide ((l0_4.length : Int) > 0)), (by first | rfl | (simp; done) | (simp [*]; done)), H', ⟨by have := HJ1.out; first | omega | exact Nat.le_refl _⟩, ⟨by (with_reducible repeat (first | refine blk_drewN ?_ _ | refine blk_drew ?_ | refine blk_alloc ?_ _)); exact BK164.out⟩, ⟨by repeat (first | (with_reducible first | exact HB.out | apply below_alloc | apply pw_below_drewN | apply below_drew1 | refine below_set ?_ GE164.out) | exact HB.out)⟩⟩
                  · rw [if_neg c64] at H
                    have c64b0 : (a0_2 == 0) = false := beq_eq_false_iff_ne.mpr c64
                    have c64b1 : (a0_2 != 0) = true := bne_iff_ne.mpr c64
                    have H' := Aside0.mk H
                    clear H
                    have hcz70_0 : wc.cell? ⟨gb164, 0, none⟩ = some (.int .i64 a0_0) := (blk_cell BK164.out 0).trans rfl
                    have hcz70_1 : wc.cell? ⟨gb164, 1, none⟩ = some (.int .i64 a0_1) := (blk_cell BK164.out 1).trans rfl
                    have hcz70_2 : wc.cell? ⟨gb164, 2, none⟩ = some (.int .i64 a0_2) := (blk_cell BK164.out 2).trans rfl
                    have hcz70_3 : wc.cell? ⟨gb164, 3, none⟩ = some (.int .i64 a0_3) := (blk_cell BK164.out 3).trans rfl
                    have hcz70_4 : wc.cell? ⟨gb164, 4, none⟩ = some (.slice A0_4 l0_4.length c0_4) := (blk_cell BK164.out 4).trans rfl
                    have hcz70_5 : wc.cell? ⟨gb164, 5, none⟩ = some (.bool a0_5) := (blk_cell BK164.out 5).trans rfl
                    have hfz70_0 := blk_frozen BK164.out 0
                    have hfz70_1 := blk_frozen BK164.out 1
                    have hfz70_2 := blk_frozen BK164.out 2
                    have hfz70_3 := blk_frozen BK164.out 3
                    have hfz70_4 := blk_frozen BK164.out 4
                    have hfz70_5 := blk_frozen BK164.out 5
                    as_aux_lemma =>
                      go_wp2_with (first | ((with_reducible refine gate_callee (f := 65) rfl ?_); refine goesL_ (some 51) rfl rfl Try.func65 (by kernel_rfl) rfl #[.int .i64 a0_0] rfl (by (try simp only [List.map_toArray, List.map_cons, List.map_nil]); first | done | rfl | (simp only [List.length_drop, List.length_take]; rfl)) ?_; (with_reducible refine (handoffref10_HasCh.calls a0_0 false _ A23.out).mono ?_); rintro e w' ⟨rfl, ⟨nd, rfl⟩⟩; refine ⟨_, rfl, ?_⟩) | (go_at_call 66; (with_reducible refine (handoffref10_HasV.calls a0_0 true _ A56.out).mono ?_); rintro e w' ⟨rfl, ⟨nd, rfl⟩⟩))
                      go_meet
                      case rel => exact ⟨_, (true), (by first | rfl | (simp; done) | (simp [*]; done)), H', ⟨by have := HJ1.out; first | omega | exact Nat.le_refl _⟩, ⟨by (with_reducible repeat (first | refine blk_drewN ?_ _ | refine blk_drew ?_ | refine blk_alloc ?_ _)); exact BK164.out⟩, ⟨by repeat (first | (with_reducible first | exact HB.out | apply below_alloc | apply pw_below_drewN | apply below_drew1 | refine below_set ?_ GE164.out) | exact HB.out)⟩⟩
              · replace c57 := Bool.eq_false_iff.mpr c57
                subst c57
                have H1 : (if a0_3 = 0 then (if a0_0 = 1 then (if a0_0 = 9 then (handoffref10_RightOp.j1 kj1 false a0_0 a0_1 a0_2 a0_3 l0_4 a0_5) else (if a0_5 = true then (handoffref10_RightOp.j1 kj1 true a0_0 a0_1 a0_2 a0_3 l0_4 a0_5) else (handoffref10_RightOp.j1 kj1 (decide ((l0_4.length : Int) > 0)) a0_0 a0_1 a0_2 a0_3 l0_4 a0_5))) else (if a0_2 = 0 then (if a0_0 = 9 then (handoffref10_RightOp.j1 kj1 false a0_0 a0_1 a0_2 a0_3 l0_4 a0_5) else (if a0_5 = true then (handoffref10_RightOp.j1 kj1 true a0_0 a0_1 a0_2 a0_3 l0_4 a0_5) else (handoffref10_RightOp.j1 kj1 (decide ((l0_4.length : Int) > 0)) a0_0 a0_1 a0_2 a0_3 l0_4 a0_5))) else (handoffref10_RightOp.j1 kj1 true a0_0 a0_1 a0_2 a0_3 l0_4 a0_5))) else (handoffref10_RightOp.j1 kj1 true a0_0 a0_1 a0_2 a0_3 l0_4 a0_5)) = some r := by rw [if_neg (show ¬ (false = true) by decide)] at H; exact H
                clear H
                have H := H1
                clear H1
                by_cases c71 : a0_3 = 0
                · rw [if_pos c71] at H
                  have c71b0 : (a0_3 == 0) = true := beq_iff_eq.mpr c71
                  have c71b1 : (a0_3 != 0) = false := bne_eq_false_iff_eq.mpr c71
                  clear c71
                  by_cases c72 : a0_0 = 1
                  · rw [if_pos c72] at H
                    have c72b0 : (a0_0 == 1) = true := beq_iff_eq.mpr c72
                    have c72b1 : (a0_0 != 1) = false := bne_eq_false_iff_eq.mpr c72
                    clear c72
                    by_cases c73 : a0_0 = 9
                    · rw [if_pos c73] at H
                      have c73b0 : (a0_0 == 9) = true := beq_iff_eq.mpr c73
                      have c73b1 : (a0_0 != 9) = false := bne_eq_false_iff_eq.mpr c73
                      clear c73
                      have H' := Aside0.mk H
                      clear H
                      have hcz74_0 : wc.cell? ⟨gb164, 0, none⟩ = some (.int .i64 a0_0) := (blk_cell BK164.out 0).trans rfl
                      have hcz74_1 : wc.cell? ⟨gb164, 1, none⟩ = some (.int .i64 a0_1) := (blk_cell BK164.out 1).trans rfl
                      have hcz74_2 : wc.cell? ⟨gb164, 2, none⟩ = some (.int .i64 a0_2) := (blk_cell BK164.out 2).trans rfl
                      have hcz74_3 : wc.cell? ⟨gb164, 3, none⟩ = some (.int .i64 a0_3) := (blk_cell BK164.out 3).trans rfl
                      have hcz74_4 : wc.cell? ⟨gb164, 4, none⟩ = some (.slice A0_4 l0_4.length c0_4) := (blk_cell BK164.out 4).trans rfl
                      have hcz74_5 : wc.cell? ⟨gb164, 5, none⟩ = some (.bool a0_5) := (blk_cell BK164.out 5).trans rfl
                      have hfz74_0 := blk_frozen BK164.out 0
                      have hfz74_1 := blk_frozen BK164.out 1
                      have hfz74_2 := blk_frozen BK164.out 2
                      have hfz74_3 := blk_frozen BK164.out 3
                      have hfz74_4 := blk_frozen BK164.out 4
                      have hfz74_5 := blk_frozen BK164.out 5
                      as_aux_lemma =>
                        go_wp2_with (first | ((with_reducible refine gate_callee (f := 65) rfl ?_); refine goesL_ (some 51) rfl rfl Try.func65 (by kernel_rfl) rfl #[.int .i64 a0_0] rfl (by (try simp only [List.map_toArray, List.map_cons, List.map_nil]); first | done | rfl | (simp only [List.length_drop, List.length_take]; rfl)) ?_; (with_reducible refine (handoffref10_HasCh.calls a0_0 false _ A23.out).mono ?_); rintro e w' ⟨rfl, ⟨nd, rfl⟩⟩; refine ⟨_, rfl, ?_⟩) | (go_at_call 66; (with_reducible refine (handoffref10_HasV.calls a0_0 false _ A56.out).mono ?_); rintro e w' ⟨rfl, ⟨nd, rfl⟩⟩))
                        go_meet
                        case rel => exact ⟨_, (false), (by first | rfl | (simp; done) | (simp [*]; done)), H', ⟨by have := HJ1.out; first | omega | exact Nat.le_refl _⟩, ⟨by (with_reducible repeat (first | refine blk_drewN ?_ _ | refine blk_drew ?_ | refine blk_alloc ?_ _)); exact BK164.out⟩, ⟨by repeat (first | (with_reducible first | exact HB.out | apply below_alloc | apply pw_below_drewN | apply below_drew1 | refine below_set ?_ GE164.out) | exact HB.out)⟩⟩
                    · rw [if_neg c73] at H
                      have c73b0 : (a0_0 == 9) = false := beq_eq_false_iff_ne.mpr c73
                      have c73b1 : (a0_0 != 9) = true := bne_iff_ne.mpr c73
                      by_cases c75 : a0_5 = true
                      · subst c75
                        have H1 : (handoffref10_RightOp.j1 kj1 true a0_0 a0_1 a0_2 a0_3 l0_4 true) = some r := by rw [if_pos rfl] at H; exact H
                        clear H
                        have H := H1
                        clear H1
                        have H' := Aside0.mk H
                        clear H
                        have hcz76_0 : wc.cell? ⟨gb164, 0, none⟩ = some (.int .i64 a0_0) := (blk_cell BK164.out 0).trans rfl
                        have hcz76_1 : wc.cell? ⟨gb164, 1, none⟩ = some (.int .i64 a0_1) := (blk_cell BK164.out 1).trans rfl
                        have hcz76_2 : wc.cell? ⟨gb164, 2, none⟩ = some (.int .i64 a0_2) := (blk_cell BK164.out 2).trans rfl
                        have hcz76_3 : wc.cell? ⟨gb164, 3, none⟩ = some (.int .i64 a0_3) := (blk_cell BK164.out 3).trans rfl
                        have hcz76_4 : wc.cell? ⟨gb164, 4, none⟩ = some (.slice A0_4 l0_4.length c0_4) := (blk_cell BK164.out 4).trans rfl
                        have hcz76_5 : wc.cell? ⟨gb164, 5, none⟩ = some (.bool true) := (blk_cell BK164.out 5).trans rfl
                        have hfz76_0 := blk_frozen BK164.out 0
                        have hfz76_1 := blk_frozen BK164.out 1
                        have hfz76_2 := blk_frozen BK164.out 2
                        have hfz76_3 := blk_frozen BK164.out 3
                        have hfz76_4 := blk_frozen BK164.out 4
                        have hfz76_5 := blk_frozen BK164.out 5
                        as_aux_lemma =>
                          go_wp2_with (first | ((with_reducible refine gate_callee (f := 65) rfl ?_); refine goesL_ (some 51) rfl rfl Try.func65 (by kernel_rfl) rfl #[.int .i64 a0_0] rfl (by (try simp only [List.map_toArray, List.map_cons, List.map_nil]); first | done | rfl | (simp only [List.length_drop, List.length_take]; rfl)) ?_; (with_reducible refine (handoffref10_HasCh.calls a0_0 false _ A23.out).mono ?_); rintro e w' ⟨rfl, ⟨nd, rfl⟩⟩; refine ⟨_, rfl, ?_⟩) | (go_at_call 66; (with_reducible refine (handoffref10_HasV.calls a0_0 false _ A56.out).mono ?_); rintro e w' ⟨rfl, ⟨nd, rfl⟩⟩))
                          go_meet
                          case rel => exact ⟨_, (true), (by first | rfl | (simp; done) | (simp [*]; done)), H', ⟨by have := HJ1.out; first | omega | exact Nat.le_refl _⟩, ⟨by (with_reducible repeat (first | refine blk_drewN ?_ _ | refine blk_drew ?_ | refine blk_alloc ?_ _)); exact BK164.out⟩, ⟨by repeat (first | (with_reducible first | exact HB.out | apply below_alloc | apply pw_below_drewN | apply below_drew1 | refine below_set ?_ GE164.out) | exact HB.out)⟩⟩
                      · replace c75 := Bool.eq_false_iff.mpr c75
                        subst c75
                        have H1 : (handoffref10_RightOp.j1 kj1 (decide ((l0_4.length : Int) > 0)) a0_0 a0_1 a0_2 a0_3 l0_4 false) = some r := by rw [if_neg (show ¬ (false = true) by decide)] at H; exact H
                        clear H
                        have H := H1
                        clear H1
                        have H' := Aside0.mk H
                        clear H
                        have hcz77_0 : wc.cell? ⟨gb164, 0, none⟩ = some (.int .i64 a0_0) := (blk_cell BK164.out 0).trans rfl
                        have hcz77_1 : wc.cell? ⟨gb164, 1, none⟩ = some (.int .i64 a0_1) := (blk_cell BK164.out 1).trans rfl
                        have hcz77_2 : wc.cell? ⟨gb164, 2, none⟩ = some (.int .i64 a0_2) := (blk_cell BK164.out 2).trans rfl
                        have hcz77_3 : wc.cell? ⟨gb164, 3, none⟩ = some (.int .i64 a0_3) := (blk_cell BK164.out 3).trans rfl
                        have hcz77_4 : wc.cell? ⟨gb164, 4, none⟩ = some (.slice A0_4 l0_4.length c0_4) := (blk_cell BK164.out 4).trans rfl
                        have hcz77_5 : wc.cell? ⟨gb164, 5, none⟩ = some (.bool false) := (blk_cell BK164.out 5).trans rfl
                        have hfz77_0 := blk_frozen BK164.out 0
                        have hfz77_1 := blk_frozen BK164.out 1
                        have hfz77_2 := blk_frozen BK164.out 2
                        have hfz77_3 := blk_frozen BK164.out 3
                        have hfz77_4 := blk_frozen BK164.out 4
                        have hfz77_5 := blk_frozen BK164.out 5
                        as_aux_lemma =>
                          go_wp2_with (first | ((with_reducible refine gate_callee (f := 65) rfl ?_); refine goesL_ (some 51) rfl rfl Try.func65 (by kernel_rfl) rfl #[.int .i64 a0_0] rfl (by (try simp only [List.map_toArray, List.map_cons, List.map_nil]); first | done | rfl | (simp only [List.length_drop, List.length_take]; rfl)) ?_; (with_reducible refine (handoffref10_HasCh.calls a0_0 false _ A23.out).mono ?_); rintro e w' ⟨rfl, ⟨nd, rfl⟩⟩; refine ⟨_, rfl, ?_⟩) | (go_at_call 66; (with_reducible refine (handoffref10_HasV.calls a0_0 false _ A56.out).mono ?_); rintro e w' ⟨rfl, ⟨nd, rfl⟩⟩))
                          go_meet
                          case rel => exact ⟨_, (decide ((l0_4.length : Int) > 0)), (by first | rfl | (simp; done) | (simp [*]; done)), H', ⟨by have := HJ1.out; first | omega | exact Nat.le_refl _⟩, ⟨by (with_reducible repeat (first | refine blk_drewN ?_ _ | refine blk_drew ?_ | refine blk_alloc ?_ _)); exact BK164.out⟩, ⟨by repeat (first | (with_reducible first | exact HB.out | apply below_alloc | apply pw_below_drewN | apply below_drew1 | refine below_set ?_ GE164.out) | exact HB.out)⟩⟩
                  · rw [if_neg c72] at H
                    have c72b0 : (a0_0 == 1) = false := beq_eq_false_iff_ne.mpr c72
                    have c72b1 : (a0_0 != 1) = true := bne_iff_ne.mpr c72
                    by_cases c78 : a0_2 = 0
                    · rw [if_pos c78] at H
                      have c78b0 : (a0_2 == 0) = true := beq_iff_eq.mpr c78
                      have c78b1 : (a0_2 != 0) = false := bne_eq_false_iff_eq.mpr c78
                      clear c78
                      by_cases c79 : a0_0 = 9
                      · rw [if_pos c79] at H
                        have c79b0 : (a0_0 == 9) = true := beq_iff_eq.mpr c79
                        have c79b1 : (a0_0 != 9) = false := bne_eq_false_iff_eq.mpr c79
                        clear c79
                        have H' := Aside0.mk H
                        clear H
                        have hcz80_0 : wc.cell? ⟨gb164, 0, none⟩ = some (.int .i64 a0_0) := (blk_cell BK164.out 0).trans rfl
                        have hcz80_1 : wc.cell? ⟨gb164, 1, none⟩ = some (.int .i64 a0_1) := (blk_cell BK164.out 1).trans rfl
                        have hcz80_2 : wc.cell? ⟨gb164, 2, none⟩ = some (.int .i64 a0_2) := (blk_cell BK164.out 2).trans rfl
                        have hcz80_3 : wc.cell? ⟨gb164, 3, none⟩ = some (.int .i64 a0_3) := (blk_cell BK164.out 3).trans rfl
                        have hcz80_4 : wc.cell? ⟨gb164, 4, none⟩ = some (.slice A0_4 l0_4.length c0_4) := (blk_cell BK164.out 4).trans rfl
                        have hcz80_5 : wc.cell? ⟨gb164, 5, none⟩ = some (.bool a0_5) := (blk_cell BK164.out 5).trans rfl
                        have hfz80_0 := blk_frozen BK164.out 0
                        have hfz80_1 := blk_frozen BK164.out 1
                        have hfz80_2 := blk_frozen BK164.out 2
                        have hfz80_3 := blk_frozen BK164.out 3
                        have hfz80_4 := blk_frozen BK164.out 4
                        have hfz80_5 := blk_frozen BK164.out 5
                        as_aux_lemma =>
                          go_wp2_with (first | ((with_reducible refine gate_callee (f := 65) rfl ?_); refine goesL_ (some 51) rfl rfl Try.func65 (by kernel_rfl) rfl #[.int .i64 a0_0] rfl (by (try simp only [List.map_toArray, List.map_cons, List.map_nil]); first | done | rfl | (simp only [List.length_drop, List.length_take]; rfl)) ?_; (with_reducible refine (handoffref10_HasCh.calls a0_0 false _ A23.out).mono ?_); rintro e w' ⟨rfl, ⟨nd, rfl⟩⟩; refine ⟨_, rfl, ?_⟩) | (go_at_call 66; (with_reducible refine (handoffref10_HasV.calls a0_0 false _ A56.out).mono ?_); rintro e w' ⟨rfl, ⟨nd, rfl⟩⟩))
                          go_meet
                          case rel => exact ⟨_, (false), (by first | rfl | (simp; done) | (simp [*]; done)), H', ⟨by have := HJ1.out; first | omega | exact Nat.le_refl _⟩, ⟨by (with_reducible repeat (first | refine blk_drewN ?_ _ | refine blk_drew ?_ | refine blk_alloc ?_ _)); exact BK164.out⟩, ⟨by repeat (first | (with_reducible first | exact HB.out | apply below_alloc | apply pw_below_drewN | apply below_drew1 | refine below_set ?_ GE164.out) | exact HB.out)⟩⟩
                      · rw [if_neg c79] at H
                        have c79b0 : (a0_0 == 9) = false := beq_eq_false_iff_ne.mpr c79
                        have c79b1 : (a0_0 != 9) = true := bne_iff_ne.mpr c79
                        by_cases c81 : a0_5 = true
                        · subst c81
                          have H1 : (handoffref10_RightOp.j1 kj1 true a0_0 a0_1 a0_2 a0_3 l0_4 true) = some r := by rw [if_pos rfl] at H; exact H
                          clear H
                          have H := H1
                          clear H1
                          have H' := Aside0.mk H
                          clear H
                          have hcz82_0 : wc.cell? ⟨gb164, 0, none⟩ = some (.int .i64 a0_0) := (blk_cell BK164.out 0).trans rfl
                          have hcz82_1 : wc.cell? ⟨gb164, 1, none⟩ = some (.int .i64 a0_1) := (blk_cell BK164.out 1).trans rfl
                          have hcz82_2 : wc.cell? ⟨gb164, 2, none⟩ = some (.int .i64 a0_2) := (blk_cell BK164.out 2).trans rfl
                          have hcz82_3 : wc.cell? ⟨gb164, 3, none⟩ = some (.int .i64 a0_3) := (blk_cell BK164.out 3).trans rfl
                          have hcz82_4 : wc.cell? ⟨gb164, 4, none⟩ = some (.slice A0_4 l0_4.length c0_4) := (blk_cell BK164.out 4).trans rfl
                          have hcz82_5 : wc.cell? ⟨gb164, 5, none⟩ = some (.bool true) := (blk_cell BK164.out 5).trans rfl
                          have hfz82_0 := blk_frozen BK164.out 0
                          have hfz82_1 := blk_frozen BK164.out 1
                          have hfz82_2 := blk_frozen BK164.out 2
                          have hfz82_3 := blk_frozen BK164.out 3
                          have hfz82_4 := blk_frozen BK164.out 4
                          have hfz82_5 := blk_frozen BK164.out 5
                          as_aux_lemma =>
                            go_wp2_with (first | ((with_reducible refine gate_callee (f := 65) rfl ?_); refine goesL_ (some 51) rfl rfl Try.func65 (by kernel_rfl) rfl #[.int .i64 a0_0] rfl (by (try simp only [List.map_toArray, List.map_cons, List.map_nil]); first | done | rfl | (simp only [List.length_drop, List.length_take]; rfl)) ?_; (with_reducible refine (handoffref10_HasCh.calls a0_0 false _ A23.out).mono ?_); rintro e w' ⟨rfl, ⟨nd, rfl⟩⟩; refine ⟨_, rfl, ?_⟩) | (go_at_call 66; (with_reducible refine (handoffref10_HasV.calls a0_0 false _ A56.out).mono ?_); rintro e w' ⟨rfl, ⟨nd, rfl⟩⟩))
                            go_meet
                            case rel => exact ⟨_, (true), (by first | rfl | (simp; done) | (simp [*]; done)), H', ⟨by have := HJ1.out; first | omega | exact Nat.le_refl _⟩, ⟨by (with_reducible repeat (first | refine blk_drewN ?_ _ | refine blk_drew ?_ | refine blk_alloc ?_ _)); exact BK164.out⟩, ⟨by repeat (first | (with_reducible first | exact HB.out | apply below_alloc | apply pw_below_drewN | apply below_drew1 | refine below_set ?_ GE164.out) | exact HB.out)⟩⟩
                        · replace c81 := Bool.eq_false_iff.mpr c81
                          subst c81
                          have H1 : (handoffref10_RightOp.j1 kj1 (decide ((l0_4.length : Int) > 0)) a0_0 a0_1 a0_2 a0_3 l0_4 false) = some r := by rw [if_neg (show ¬ (false = true) by decide)] at H; exact H
                          clear H
                          have H := H1
                          clear H1
                          have H' := Aside0.mk H
                          clear H
                          have hcz83_0 : wc.cell? ⟨gb164, 0, none⟩ = some (.int .i64 a0_0) := (blk_cell BK164.out 0).trans rfl
                          have hcz83_1 : wc.cell? ⟨gb164, 1, none⟩ = some (.int .i64 a0_1) := (blk_cell BK164.out 1).trans rfl
                          have hcz83_2 : wc.cell? ⟨gb164, 2, none⟩ = some (.int .i64 a0_2) := (blk_cell BK164.out 2).trans rfl
                          have hcz83_3 : wc.cell? ⟨gb164, 3, none⟩ = some (.int .i64 a0_3) := (blk_cell BK164.out 3).trans rfl
                          have hcz83_4 : wc.cell? ⟨gb164, 4, none⟩ = some (.slice A0_4 l0_4.length c0_4) := (blk_cell BK164.out 4).trans rfl
                          have hcz83_5 : wc.cell? ⟨gb164, 5, none⟩ = some (.bool false) := (blk_cell BK164.out 5).trans rfl
                          have hfz83_0 := blk_frozen BK164.out 0
                          have hfz83_1 := blk_frozen BK164.out 1
                          have hfz83_2 := blk_frozen BK164.out 2
                          have hfz83_3 := blk_frozen BK164.out 3
                          have hfz83_4 := blk_frozen BK164.out 4
                          have hfz83_5 := blk_frozen BK164.out 5
                          as_aux_lemma =>
                            go_wp2_with (first | ((with_reducible refine gate_callee (f := 65) rfl ?_); refine goesL_ (some 51) rfl rfl Try.func65 (by kernel_rfl) rfl #[.int .i64 a0_0] rfl (by (try simp only [List.map_toArray, List.map_cons, List.map_nil]); first | done | rfl | (simp only [List.length_drop, List.length_take]; rfl)) ?_; (with_reducible refine (handoffref10_HasCh.calls a0_0 false _ A23.out).mono ?_); rintro e w' ⟨rfl, ⟨nd, rfl⟩⟩; refine ⟨_, rfl, ?_⟩) | (go_at_call 66; (with_reducible refine (handoffref10_HasV.calls a0_0 false _ A56.out).mono ?_); rintro e w' ⟨rfl, ⟨nd, rfl⟩⟩))
                            go_meet
                            case rel => exact ⟨_, (decide ((l0_4.length : Int) > 0)), (by first | rfl | (simp; done) | (simp [*]; done)), H', ⟨by have := HJ1.out; first | omega | exact Nat.le_refl _⟩, ⟨by (with_reducible repeat (first | refine blk_drewN ?_ _ | refine blk_drew ?_ | refine blk_alloc ?_ _)); exact BK164.out⟩, ⟨by repeat (first | (with_reducible first | exact HB.out | apply below_alloc | apply pw_below_drewN | apply below_drew1 | refine below_set ?_ GE164.out) | exact HB.out)⟩⟩
                    · rw [if_neg c78] at H
                      have c78b0 : (a0_2 == 0) = false := beq_eq_false_iff_ne.mpr c78
                      have c78b1 : (a0_2 != 0) = true := bne_iff_ne.mpr c78
                      have H' := Aside0.mk H
                      clear H
                      have hcz84_0 : wc.cell? ⟨gb164, 0, none⟩ = some (.int .i64 a0_0) := (blk_cell BK164.out 0).trans rfl
                      have hcz84_1 : wc.cell? ⟨gb164, 1, none⟩ = some (.int .i64 a0_1) := (blk_cell BK164.out 1).trans rfl
                      have hcz84_2 : wc.cell? ⟨gb164, 2, none⟩ = some (.int .i64 a0_2) := (blk_cell BK164.out 2).trans rfl
                      have hcz84_3 : wc.cell? ⟨gb164, 3, none⟩ = some (.int .i64 a0_3) := (blk_cell BK164.out 3).trans rfl
                      have hcz84_4 : wc.cell? ⟨gb164, 4, none⟩ = some (.slice A0_4 l0_4.length c0_4) := (blk_cell BK164.out 4).trans rfl
                      have hcz84_5 : wc.cell? ⟨gb164, 5, none⟩ = some (.bool a0_5) := (blk_cell BK164.out 5).trans rfl
                      have hfz84_0 := blk_frozen BK164.out 0
                      have hfz84_1 := blk_frozen BK164.out 1
                      have hfz84_2 := blk_frozen BK164.out 2
                      have hfz84_3 := blk_frozen BK164.out 3
                      have hfz84_4 := blk_frozen BK164.out 4
                      have hfz84_5 := blk_frozen BK164.out 5
                      as_aux_lemma =>
                        go_wp2_with (first | ((with_reducible refine gate_callee (f := 65) rfl ?_); refine goesL_ (some 51) rfl rfl Try.func65 (by kernel_rfl) rfl #[.int .i64 a0_0] rfl (by (try simp only [List.map_toArray, List.map_cons, List.map_nil]); first | done | rfl | (simp only [List.length_drop, List.length_take]; rfl)) ?_; (with_reducible refine (handoffref10_HasCh.calls a0_0 false _ A23.out).mono ?_); rintro e w' ⟨rfl, ⟨nd, rfl⟩⟩; refine ⟨_, rfl, ?_⟩) | (go_at_call 66; (with_reducible refine (handoffref10_HasV.calls a0_0 false _ A56.out).mono ?_); rintro e w' ⟨rfl, ⟨nd, rfl⟩⟩))
                        go_meet
                        case rel => exact ⟨_, (true), (by first | rfl | (simp; done) | (simp [*]; done)), H', ⟨by have := HJ1.out; first | omega | exact Nat.le_refl _⟩, ⟨by (with_reducible repeat (first | refine blk_drewN ?_ _ | refine blk_drew ?_ | refine blk_alloc ?_ _)); exact BK164.out⟩, ⟨by repeat (first | (with_reducible first | exact HB.out | apply below_alloc | apply pw_below_drewN | apply below_drew1 | refine below_set ?_ GE164.out) | exact HB.out)⟩⟩
                · rw [if_neg c71] at H
                  have c71b0 : (a0_3 == 0) = false := beq_eq_false_iff_ne.mpr c71
                  have c71b1 : (a0_3 != 0) = true := bne_iff_ne.mpr c71
                  have H' := Aside0.mk H
                  clear H
                  have hcz85_0 : wc.cell? ⟨gb164, 0, none⟩ = some (.int .i64 a0_0) := (blk_cell BK164.out 0).trans rfl
                  have hcz85_1 : wc.cell? ⟨gb164, 1, none⟩ = some (.int .i64 a0_1) := (blk_cell BK164.out 1).trans rfl
                  have hcz85_2 : wc.cell? ⟨gb164, 2, none⟩ = some (.int .i64 a0_2) := (blk_cell BK164.out 2).trans rfl
                  have hcz85_3 : wc.cell? ⟨gb164, 3, none⟩ = some (.int .i64 a0_3) := (blk_cell BK164.out 3).trans rfl
                  have hcz85_4 : wc.cell? ⟨gb164, 4, none⟩ = some (.slice A0_4 l0_4.length c0_4) := (blk_cell BK164.out 4).trans rfl
                  have hcz85_5 : wc.cell? ⟨gb164, 5, none⟩ = some (.bool a0_5) := (blk_cell BK164.out 5).trans rfl
                  have hfz85_0 := blk_frozen BK164.out 0
                  have hfz85_1 := blk_frozen BK164.out 1
                  have hfz85_2 := blk_frozen BK164.out 2
                  have hfz85_3 := blk_frozen BK164.out 3
                  have hfz85_4 := blk_frozen BK164.out 4
                  have hfz85_5 := blk_frozen BK164.out 5
                  as_aux_lemma =>
                    go_wp2_with (first | ((with_reducible refine gate_callee (f := 65) rfl ?_); refine goesL_ (some 51) rfl rfl Try.func65 (by kernel_rfl) rfl #[.int .i64 a0_0] rfl (by (try simp only [List.map_toArray, List.map_cons, List.map_nil]); first | done | rfl | (simp only [List.length_drop, List.length_take]; rfl)) ?_; (with_reducible refine (handoffref10_HasCh.calls a0_0 false _ A23.out).mono ?_); rintro e w' ⟨rfl, ⟨nd, rfl⟩⟩; refine ⟨_, rfl, ?_⟩) | (go_at_call 66; (with_reducible refine (handoffref10_HasV.calls a0_0 false _ A56.out).mono ?_); rintro e w' ⟨rfl, ⟨nd, rfl⟩⟩))
                    go_meet
                    case rel => exact ⟨_, (true), (by first | rfl | (simp; done) | (simp [*]; done)), H', ⟨by have := HJ1.out; first | omega | exact Nat.le_refl _⟩, ⟨by (with_reducible repeat (first | refine blk_drewN ?_ _ | refine blk_drew ?_ | refine blk_alloc ?_ _)); exact BK164.out⟩, ⟨by repeat (first | (with_reducible first | exact HB.out | apply below_alloc | apply pw_below_drewN | apply below_drew1 | refine below_set ?_ GE164.out) | exact HB.out)⟩⟩
            · rw [if_neg c55] at H
              have c55b0 : (a0_1 == 0) = false := beq_eq_false_iff_ne.mpr c55
              have c55b1 : (a0_1 != 0) = true := bne_iff_ne.mpr c55
              have H' := Aside0.mk H
              clear H
              have hcz86_0 : wc.cell? ⟨gb164, 0, none⟩ = some (.int .i64 a0_0) := (blk_cell BK164.out 0).trans rfl
              have hcz86_1 : wc.cell? ⟨gb164, 1, none⟩ = some (.int .i64 a0_1) := (blk_cell BK164.out 1).trans rfl
              have hcz86_2 : wc.cell? ⟨gb164, 2, none⟩ = some (.int .i64 a0_2) := (blk_cell BK164.out 2).trans rfl
              have hcz86_3 : wc.cell? ⟨gb164, 3, none⟩ = some (.int .i64 a0_3) := (blk_cell BK164.out 3).trans rfl
              have hcz86_4 : wc.cell? ⟨gb164, 4, none⟩ = some (.slice A0_4 l0_4.length c0_4) := (blk_cell BK164.out 4).trans rfl
              have hcz86_5 : wc.cell? ⟨gb164, 5, none⟩ = some (.bool a0_5) := (blk_cell BK164.out 5).trans rfl
              have hfz86_0 := blk_frozen BK164.out 0
              have hfz86_1 := blk_frozen BK164.out 1
              have hfz86_2 := blk_frozen BK164.out 2
              have hfz86_3 := blk_frozen BK164.out 3
              have hfz86_4 := blk_frozen BK164.out 4
              have hfz86_5 := blk_frozen BK164.out 5
              as_aux_lemma =>
                go_wp2_with (first | ((with_reducible refine gate_callee (f := 65) rfl ?_); refine goesL_ (some 51) rfl rfl Try.func65 (by kernel_rfl) rfl #[.int .i64 a0_0] rfl (by (try simp only [List.map_toArray, List.map_cons, List.map_nil]); first | done | rfl | (simp only [List.length_drop, List.length_take]; rfl)) ?_; (with_reducible refine (handoffref10_HasCh.calls a0_0 false _ A23.out).mono ?_); rintro e w' ⟨rfl, ⟨nd, rfl⟩⟩; refine ⟨_, rfl, ?_⟩))
                go_meet
                case rel => exact ⟨_, (true), (by first | rfl | (simp; done) | (simp [*]; done)), H', ⟨by have := HJ1.out; first | omega | exact Nat.le_refl _⟩, ⟨by (with_reducible repeat (first | refine blk_drewN ?_ _ | refine blk_drew ?_ | refine blk_alloc ?_ _)); exact BK164.out⟩, ⟨by repeat (first | (with_reducible first | exact HB.out | apply below_alloc | apply pw_below_drewN | apply below_drew1 | refine below_set ?_ GE164.out) | exact HB.out)⟩⟩
        case rest =>
          clear HC22
          try clear c2
          try clear p2
          try clear c4
          try clear c5
          try clear c6
          try clear c7
          try clear c8
          try clear c24
          try clear c40
          try clear c40b0
          try clear c40b1
          try clear c41
          try clear c41b0
          try clear c41b1
          try clear c42
          try clear c42b0
          try clear c42b1
          try clear c44
          try clear c47
          try clear c47b0
          try clear c47b1
          try clear c48
          try clear c48b0
          try clear c48b1
          try clear c50
          try clear c55
          try clear c55b0
          try clear c55b1
          try clear c57
          try clear c58
          try clear c58b0
          try clear c58b1
          try clear c59
          try clear c59b0
          try clear c59b1
          try clear c61
          try clear c64
          try clear c64b0
          try clear c64b1
          try clear c65
          try clear c65b0
          try clear c65b1
          try clear c67
          try clear c71
          try clear c71b0
          try clear c71b1
          try clear c72
          try clear c72b0
          try clear c72b1
          try clear c73
          try clear c73b0
          try clear c73b1
          try clear c75
          try clear c78
          try clear c78b0
          try clear c78b1
          try clear c79
          try clear c79b0
          try clear c79b1
          try clear c81
          try clear hcz45_0
          try clear hcz45_1
          try clear hcz45_2
          try clear hcz45_3
          try clear hcz45_4
          try clear hcz45_5
          try clear hcz46_0
          try clear hcz46_1
          try clear hcz46_2
          try clear hcz46_3
          try clear hcz46_4
          try clear hcz46_5
          try clear hcz49_0
          try clear hcz49_1
          try clear hcz49_2
          try clear hcz49_3
          try clear hcz49_4
          try clear hcz49_5
          try clear hcz51_0
          try clear hcz51_1
          try clear hcz51_2
          try clear hcz51_3
          try clear hcz51_4
          try clear hcz51_5
          try clear hcz52_0
          try clear hcz52_1
          try clear hcz52_2
          try clear hcz52_3
          try clear hcz52_4
          try clear hcz52_5
          try clear hcz53_0
          try clear hcz53_1
          try clear hcz53_2
          try clear hcz53_3
          try clear hcz53_4
          try clear hcz53_5
          try clear hcz54_0
          try clear hcz54_1
          try clear hcz54_2
          try clear hcz54_3
          try clear hcz54_4
          try clear hcz54_5
          try clear hcz60_0
          try clear hcz60_1
          try clear hcz60_2
          try clear hcz60_3
          try clear hcz60_4
          try clear hcz60_5
          try clear hcz62_0
          try clear hcz62_1
          try clear hcz62_2
          try clear hcz62_3
          try clear hcz62_4
          try clear hcz62_5
          try clear hcz63_0
          try clear hcz63_1
          try clear hcz63_2
          try clear hcz63_3
          try clear hcz63_4
          try clear hcz63_5
          try clear hcz66_0
          try clear hcz66_1
          try clear hcz66_2
          try clear hcz66_3
          try clear hcz66_4
          try clear hcz66_5
          try clear hcz68_0
          try clear hcz68_1
          try clear hcz68_2
          try clear hcz68_3
          try clear hcz68_4
          try clear hcz68_5
          try clear hcz69_0
          try clear hcz69_1
          try clear hcz69_2
          try clear hcz69_3
          try clear hcz69_4
          try clear hcz69_5
          try clear hcz70_0
          try clear hcz70_1
          try clear hcz70_2
          try clear hcz70_3
          try clear hcz70_4
          try clear hcz70_5
          try clear hcz74_0
          try clear hcz74_1
          try clear hcz74_2
          try clear hcz74_3
          try clear hcz74_4
          try clear hcz74_5
          try clear hcz76_0
          try clear hcz76_1
          try clear hcz76_2
          try clear hcz76_3
          try clear hcz76_4
          try clear hcz76_5
          try clear hcz77_0
          try clear hcz77_1
          try clear hcz77_2
          try clear hcz77_3
          try clear hcz77_4
          try clear hcz77_5
          try clear hcz80_0
          try clear hcz80_1
          try clear hcz80_2
          try clear hcz80_3
          try clear hcz80_4
          try clear hcz80_5
          try clear hcz82_0
          try clear hcz82_1
          try clear hcz82_2
          try clear hcz82_3
          try clear hcz82_4
          try clear hcz82_5
          try clear hcz83_0
          try clear hcz83_1
          try clear hcz83_2
          try clear hcz83_3
          try clear hcz83_4
          try clear hcz83_5
          try clear hcz84_0
          try clear hcz84_1
          try clear hcz84_2
          try clear hcz84_3
          try clear hcz84_4
          try clear hcz84_5
          try clear hcz85_0
          try clear hcz85_1
          try clear hcz85_2
          try clear hcz85_3
          try clear hcz85_4
          try clear hcz85_5
          try clear hcz86_0
          try clear hcz86_1
          try clear hcz86_2
          try clear hcz86_3
          try clear hcz86_4
          try clear hcz86_5
          try clear hfz43_2
          try clear hfz43_3
          try clear hfz43_4
          try clear hfz43_5
          try clear hfz45_0
          try clear hfz45_1
          try clear hfz45_2
          try clear hfz45_3
          try clear hfz45_4
          try clear hfz45_5
          try clear hfz46_0
          try clear hfz46_1
          try clear hfz46_2
          try clear hfz46_3
          try clear hfz46_4
          try clear hfz46_5
          try clear hfz49_0
          try clear hfz49_1
          try clear hfz49_2
          try clear hfz49_3
          try clear hfz49_4
          try clear hfz49_5
          try clear hfz51_0
          try clear hfz51_1
          try clear hfz51_2
          try clear hfz51_3
          try clear hfz51_4
          try clear hfz51_5
          try clear hfz52_0
          try clear hfz52_1
          try clear hfz52_2
          try clear hfz52_3
          try clear hfz52_4
          try clear hfz52_5
          try clear hfz53_0
          try clear hfz53_1
          try clear hfz53_2
          try clear hfz53_3
          try clear hfz53_4
          try clear hfz53_5
          try clear hfz54_0
          try clear hfz54_1
          try clear hfz54_2
          try clear hfz54_3
          try clear hfz54_4
          try clear hfz54_5
          try clear hfz60_0
          try clear hfz60_1
          try clear hfz60_2
          try clear hfz60_3
          try clear hfz60_4
          try clear hfz60_5
          try clear hfz62_0
          try clear hfz62_1
          try clear hfz62_2
          try clear hfz62_3
          try clear hfz62_4
          try clear hfz62_5
          try clear hfz63_0
          try clear hfz63_1
          try clear hfz63_2
          try clear hfz63_3
          try clear hfz63_4
          try clear hfz63_5
          try clear hfz66_0
          try clear hfz66_1
          try clear hfz66_2
          try clear hfz66_3
          try clear hfz66_4
          try clear hfz66_5
          try clear hfz68_0
          try clear hfz68_1
          try clear hfz68_2
          try clear hfz68_3
          try clear hfz68_4
          try clear hfz68_5
          try clear hfz69_0
          try clear hfz69_1
          try clear hfz69_2
          try clear hfz69_3
          try clear hfz69_4
          try clear hfz69_5
          try clear hfz70_0
          try clear hfz70_1
          try clear hfz70_2
          try clear hfz70_3
          try clear hfz70_4
          try clear hfz70_5
          try clear hfz74_0
          try clear hfz74_1
          try clear hfz74_2
          try clear hfz74_3
          try clear hfz74_4
          try clear hfz74_5
          try clear hfz76_0
          try clear hfz76_1
          try clear hfz76_2
          try clear hfz76_3
          try clear hfz76_4
          try clear hfz76_5
          try clear hfz77_0
          try clear hfz77_1
          try clear hfz77_2
          try clear hfz77_3
          try clear hfz77_4
          try clear hfz77_5
          try clear hfz80_0
          try clear hfz80_1
          try clear hfz80_2
          try clear hfz80_3
          try clear hfz80_4
          try clear hfz80_5
          try clear hfz82_0
          try clear hfz82_1
          try clear hfz82_2
          try clear hfz82_3
          try clear hfz82_4
          try clear hfz82_5
          try clear hfz83_0
          try clear hfz83_1
          try clear hfz83_2
          try clear hfz83_3
          try clear hfz83_4
          try clear hfz83_5
          try clear hfz84_0
          try clear hfz84_1
          try clear hfz84_2
          try clear hfz84_3
          try clear hfz84_4
          try clear hfz84_5
          try clear hfz85_0
          try clear hfz85_1
          try clear hfz85_2
          try clear hfz85_3
          try clear hfz85_4
          try clear hfz85_5
          try clear hfz86_0
          try clear hfz86_1
          try clear hfz86_2
          try clear hfz86_3
          try clear hfz86_4
          try clear hfz86_5
          obtain ⟨kq, x93_21, rfl, HA, HJ21, BK164, HB⟩ := hcut
          cases kq with
          | zero => exact absurd HA.out (by simp [handoffref10_RightOp.j1])
          | succ kj21 =>
            have H := HA.out
            clear HA
            simp only [handoffref10_RightOp.j1] at H
            by_cases c87 : x93_21 = true
            · subst c87
              have H1 : (some false) = some r := by rw [if_pos rfl] at H; exact H
              clear H
              have H := H1
              clear H1
              obtain rfl := Option.some.inj H
              as_aux_lemma =>
                go_wp2
                go_ret
                exact ⟨by first | rfl | (simp [errW_none, errW_some] <;> rfl) | (simp [*, errW_none, errW_some] <;> rfl), by repeat (first | (with_reducible first | exact HB.out | apply below_alloc | apply pw_below_drewN | apply below_drew1 | refine below_set ?_ GE164.out) | exact HB.out)⟩
            · replace c87 := Bool.eq_false_iff.mpr c87
              subst c87
              have H1 : (handoffref10_RightOp.l0 kj21 l0_4 (l0_4.length : Int) 0) = some r := by rw [if_neg (show ¬ (false = true) by decide)] at H; exact H
              clear H
              have H := H1
              clear H1
              have H' := Aside0.mk H
              clear H
              have hcz88_0 : wc.cell? ⟨gb164, 0, none⟩ = some (.int .i64 a0_0) := (blk_cell BK164.out 0).trans rfl
              have hcz88_1 : wc.cell? ⟨gb164, 1, none⟩ = some (.int .i64 a0_1) := (blk_cell BK164.out 1).trans rfl
              have hcz88_2 : wc.cell? ⟨gb164, 2, none⟩ = some (.int .i64 a0_2) := (blk_cell BK164.out 2).trans rfl
              have hcz88_3 : wc.cell? ⟨gb164, 3, none⟩ = some (.int .i64 a0_3) := (blk_cell BK164.out 3).trans rfl
              have hcz88_4 : wc.cell? ⟨gb164, 4, none⟩ = some (.slice A0_4 l0_4.length c0_4) := (blk_cell BK164.out 4).trans rfl
              have hcz88_5 : wc.cell? ⟨gb164, 5, none⟩ = some (.bool a0_5) := (blk_cell BK164.out 5).trans rfl
              have hfz88_0 := blk_frozen BK164.out 0
              have hfz88_1 := blk_frozen BK164.out 1
              have hfz88_2 := blk_frozen BK164.out 2
              have hfz88_3 := blk_frozen BK164.out 3
              have hfz88_4 := blk_frozen BK164.out 4
              have hfz88_5 := blk_frozen BK164.out 5
              as_aux_lemma =>
                go_wp2
                go_loopg [97] kj21 (fun kq v97 w' => ∃ (x97_3 : Int), v97 = .int .i64 x97_3 ∧ Aside0 (handoffref10_RightOp.l0 kq l0_4 (l0_4.length : Int) x97_3 = some r) ∧ Aside0 (kq ≤ kj21) ∧ Aside0 (w'.heap[gb164]? = some (.cells #[.int .i64 a0_0, .int .i64 a0_1, .int .i64 a0_2, .int .i64 a0_3, (.slice A0_4 l0_4.length c0_4), .bool a0_5] 39 (0, 0))) ∧ Aside0 (Below w.heap.size w w'))
                case atStart => exact ⟨(0), (by first | rfl | (simp; done) | (simp [*]; done)), H', ⟨Nat.le_refl _⟩, ⟨by (with_reducible repeat (first | refine blk_drewN ?_ _ | refine blk_drew ?_ | refine blk_alloc ?_ _)); exact BK164.out⟩, ⟨by repeat (first | (with_reducible first | exact HB.out | apply below_alloc | apply pw_below_drewN | apply below_drew1 | refine below_set ?_ GE164.out) | exact HB.out)⟩⟩
                case round =>
                  clear H'
                  try clear c2
                  try clear p2
                  try clear c4
                  try clear c5
                  try clear c6
                  try clear c7
                  try clear c8
                  try clear c24
                  try clear c40
                  try clear c40b0
                  try clear c40b1
                  try clear c41
                  try clear c41b0
                  try clear c41b1
                  try clear c42
                  try clear c42b0
                  try clear c42b1
                  try clear c44
                  try clear c47
                  try clear c47b0
                  try clear c47b1
                  try clear c48
                  try clear c48b0
                  try clear c48b1
                  try clear c50
                  try clear c55
                  try clear c55b0
                  try clear c55b1
                  try clear c57
                  try clear c58
                  try clear c58b0
                  try clear c58b1
                  try clear c59
                  try clear c59b0
                  try clear c59b1
                  try clear c61
                  try clear c64
                  try clear c64b0
                  try clear c64b1
                  try clear c65
                  try clear c65b0
                  try clear c65b1
                  try clear c67
                  try clear c71
                  try clear c71b0
                  try clear c71b1
                  try clear c72
                  try clear c72b0
                  try clear c72b1
                  try clear c73
                  try clear c73b0
                  try clear c73b1
                  try clear c75
                  try clear c78
                  try clear c78b0
                  try clear c78b1
                  try clear c79
                  try clear c79b0
                  try clear c79b1
                  try clear c81
                  try clear c87
                  try clear hcz45_0
                  try clear hcz45_1
                  try clear hcz45_2
                  try clear hcz45_3
                  try clear hcz45_4
                  try clear hcz45_5
                  try clear hcz46_0
                  try clear hcz46_1
                  try clear hcz46_2
                  try clear hcz46_3
                  try clear hcz46_4
                  try clear hcz46_5
                  try clear hcz49_0
                  try clear hcz49_1
                  try clear hcz49_2
                  try clear hcz49_3
                  try clear hcz49_4
                  try clear hcz49_5
                  try clear hcz51_0
                  try clear hcz51_1
                  try clear hcz51_2
                  try clear hcz51_3
                  try clear hcz51_4
                  try clear hcz51_5
                  try clear hcz52_0
                  try clear hcz52_1
                  try clear hcz52_2
                  try clear hcz52_3
                  try clear hcz52_4
                  try clear hcz52_5
                  try clear hcz53_0
                  try clear hcz53_1
                  try clear hcz53_2
                  try clear hcz53_3
                  try clear hcz53_4
                  try clear hcz53_5
                  try clear hcz54_0
                  try clear hcz54_1
                  try clear hcz54_2
                  try clear hcz54_3
                  try clear hcz54_4
                  try clear hcz54_5
                  try clear hcz60_0
                  try clear hcz60_1
                  try clear hcz60_2
                  try clear hcz60_3
                  try clear hcz60_4
                  try clear hcz60_5
                  try clear hcz62_0
                  try clear hcz62_1
                  try clear hcz62_2
                  try clear hcz62_3
                  try clear hcz62_4
                  try clear hcz62_5
                  try clear hcz63_0
                  try clear hcz63_1
                  try clear hcz63_2
                  try clear hcz63_3
                  try clear hcz63_4
                  try clear hcz63_5
                  try clear hcz66_0
                  try clear hcz66_1
                  try clear hcz66_2
                  try clear hcz66_3
                  try clear hcz66_4
                  try clear hcz66_5
                  try clear hcz68_0
                  try clear hcz68_1
                  try clear hcz68_2
                  try clear hcz68_3
                  try clear hcz68_4
                  try clear hcz68_5
                  try clear hcz69_0
                  try clear hcz69_1
                  try clear hcz69_2
                  try clear hcz69_3
                  try clear hcz69_4
                  try clear hcz69_5
                  try clear hcz70_0
                  try clear hcz70_1
                  try clear hcz70_2
                  try clear hcz70_3
                  try clear hcz70_4
                  try clear hcz70_5
                  try clear hcz74_0
                  try clear hcz74_1
                  try clear hcz74_2
                  try clear hcz74_3
                  try clear hcz74_4
                  try clear hcz74_5
                  try clear hcz76_0
                  try clear hcz76_1
                  try clear hcz76_2
                  try clear hcz76_3
                  try clear hcz76_4
                  try clear hcz76_5
                  try clear hcz77_0
                  try clear hcz77_1
                  try clear hcz77_2
                  try clear hcz77_3
                  try clear hcz77_4
                  try clear hcz77_5
                  try clear hcz80_0
                  try clear hcz80_1
                  try clear hcz80_2
                  try clear hcz80_3
                  try clear hcz80_4
                  try clear hcz80_5
                  try clear hcz82_0
                  try clear hcz82_1
                  try clear hcz82_2
                  try clear hcz82_3
                  try clear hcz82_4
                  try clear hcz82_5
                  try clear hcz83_0
                  try clear hcz83_1
                  try clear hcz83_2
                  try clear hcz83_3
                  try clear hcz83_4
                  try clear hcz83_5
                  try clear hcz84_0
                  try clear hcz84_1
                  try clear hcz84_2
                  try clear hcz84_3
                  try clear hcz84_4
                  try clear hcz84_5
                  try clear hcz85_0
                  try clear hcz85_1
                  try clear hcz85_2
                  try clear hcz85_3
                  try clear hcz85_4
                  try clear hcz85_5
                  try clear hcz86_0
                  try clear hcz86_1
                  try clear hcz86_2
                  try clear hcz86_3
                  try clear hcz86_4
                  try clear hcz86_5
                  try clear hcz88_0
                  try clear hcz88_1
                  try clear hcz88_2
                  try clear hcz88_3
                  try clear hcz88_4
                  try clear hcz88_5
                  try clear hfz43_2
                  try clear hfz43_3
                  try clear hfz43_4
                  try clear hfz43_5
                  try clear hfz45_0
                  try clear hfz45_1
                  try clear hfz45_2
                  try clear hfz45_3
                  try clear hfz45_4
                  try clear hfz45_5
                  try clear hfz46_0
                  try clear hfz46_1
                  try clear hfz46_2
                  try clear hfz46_3
                  try clear hfz46_4
                  try clear hfz46_5
                  try clear hfz49_0
                  try clear hfz49_1
                  try clear hfz49_2
                  try clear hfz49_3
                  try clear hfz49_4
                  try clear hfz49_5
                  try clear hfz51_0
                  try clear hfz51_1
                  try clear hfz51_2
                  try clear hfz51_3
                  try clear hfz51_4
                  try clear hfz51_5
                  try clear hfz52_0
                  try clear hfz52_1
                  try clear hfz52_2
                  try clear hfz52_3
                  try clear hfz52_4
                  try clear hfz52_5
                  try clear hfz53_0
                  try clear hfz53_1
                  try clear hfz53_2
                  try clear hfz53_3
                  try clear hfz53_4
                  try clear hfz53_5
                  try clear hfz54_0
                  try clear hfz54_1
                  try clear hfz54_2
                  try clear hfz54_3
                  try clear hfz54_4
                  try clear hfz54_5
                  try clear hfz60_0
                  try clear hfz60_1
                  try clear hfz60_2
                  try clear hfz60_3
                  try clear hfz60_4
                  try clear hfz60_5
                  try clear hfz62_0
                  try clear hfz62_1
                  try clear hfz62_2
                  try clear hfz62_3
                  try clear hfz62_4
                  try clear hfz62_5
                  try clear hfz63_0
                  try clear hfz63_1
                  try clear hfz63_2
                  try clear hfz63_3
                  try clear hfz63_4
                  try clear hfz63_5
                  try clear hfz66_0
                  try clear hfz66_1
                  try clear hfz66_2
                  try clear hfz66_3
                  try clear hfz66_4
                  try clear hfz66_5
                  try clear hfz68_0
                  try clear hfz68_1
                  try clear hfz68_2
                  try clear hfz68_3
                  try clear hfz68_4
                  try clear hfz68_5
                  try clear hfz69_0
                  try clear hfz69_1
                  try clear hfz69_2
                  try clear hfz69_3
                  try clear hfz69_4
                  try clear hfz69_5
                  try clear hfz70_0
                  try clear hfz70_1
                  try clear hfz70_2
                  try clear hfz70_3
                  try clear hfz70_4
                  try clear hfz70_5
                  try clear hfz74_0
                  try clear hfz74_1
                  try clear hfz74_2
                  try clear hfz74_3
                  try clear hfz74_4
                  try clear hfz74_5
                  try clear hfz76_0
                  try clear hfz76_1
                  try clear hfz76_2
                  try clear hfz76_3
                  try clear hfz76_4
                  try clear hfz76_5
                  try clear hfz77_0
                  try clear hfz77_1
                  try clear hfz77_2
                  try clear hfz77_3
                  try clear hfz77_4
                  try clear hfz77_5
                  try clear hfz80_0
                  try clear hfz80_1
                  try clear hfz80_2
                  try clear hfz80_3
                  try clear hfz80_4
                  try clear hfz80_5
                  try clear hfz82_0
                  try clear hfz82_1
                  try clear hfz82_2
                  try clear hfz82_3
                  try clear hfz82_4
                  try clear hfz82_5
                  try clear hfz83_0
                  try clear hfz83_1
                  try clear hfz83_2
                  try clear hfz83_3
                  try clear hfz83_4
                  try clear hfz83_5
                  try clear hfz84_0
                  try clear hfz84_1
                  try clear hfz84_2
                  try clear hfz84_3
                  try clear hfz84_4
                  try clear hfz84_5
                  try clear hfz85_0
                  try clear hfz85_1
                  try clear hfz85_2
                  try clear hfz85_3
                  try clear hfz85_4
                  try clear hfz85_5
                  try clear hfz86_0
                  try clear hfz86_1
                  try clear hfz86_2
                  try clear hfz86_3
                  try clear hfz86_4
                  try clear hfz86_5
                  try clear hfz88_0
                  try clear hfz88_1
                  try clear hfz88_2
                  try clear hfz88_3
                  try clear hfz88_4
                  try clear hfz88_5
                  try clear p2
                  obtain ⟨x97_3, rfl, HA, HK3, BK164, HB⟩ := hrel
                  cases gk with
                  | zero => exact absurd HA.out (by simp [handoffref10_RightOp.l0])
                  | succ k3 =>
                    have H := HA.out
                    clear HA
                    simp only [handoffref10_RightOp.l0] at H
                    by_cases c89 : x97_3 < (l0_4.length : Int)
                    · rw [if_pos c89] at H
                      have c89b0 : decide (x97_3 < (l0_4.length : Int)) = true := decide_eq_true c89
                      clear c89
                      by_cases c90 : 0 ≤ x97_3
                      · rw [if_pos c90] at H
                        have c90b0 : decide (0 ≤ x97_3) = true := decide_eq_true c90
                        clear c90
                        by_cases c91 : x97_3 < (l0_4.length : Int)
                        · rw [if_pos c91] at H
                          have c91b0 : decide (x97_3 < (l0_4.length : Int)) = true := decide_eq_true c91
                          clear c91
                          by_cases c92 : ((rd_T116 l0_4 x97_3).f1) < 0
                          · rw [if_pos c92] at H
                            have c92b0 : decide (((rd_T116 l0_4 x97_3).f1) < 0) = true := decide_eq_true c92
                            clear c92
                            obtain rfl := Option.some.inj H
                            have p168 : 0 ≤ (x97_3 : Int) := of_decide_eq_true (by first | (with_reducible assumption) | assumption)
                            have q168 : x97_3 < (l0_4.length : Int) := of_decide_eq_true (by first | (with_reducible assumption) | assumption)
                            obtain ⟨ad168, e168, hx168_0, hx168_1, hx168_2⟩ := at_T116 HR0_4.out x97_3 p168 q168
                            cases e168
                            replace hx168_0 := (HB.out.cell (World.block_lt_of_cell? w _ hx168_0)).trans hx168_0
                            replace hx168_1 := (HB.out.cell (World.block_lt_of_cell? w _ hx168_1)).trans hx168_1
                            replace hx168_2 := (HB.out.cell (World.block_lt_of_cell? w _ hx168_2)).trans hx168_2
                            replace p168 := eq_true p168
                            replace q168 := eq_true q168
                            go_wp2_with (first | ((with_reducible refine gate_dst (N := 4) rfl ?_); (try (refine gate_guard (by rfl) ?_; dsimp only)); refine box_event ?hg (N := 4) ?hd (cs := #[.bool false, .int .i64 0, .int .i64 0]) (t := 116) ?hr ?_; (case hd => rfl); (case hg => rfl); (case hr => first | (go_simp; done) | (go_simp; rfl)); intro gb169 hg w93 hbox hb; have n0_ := Aside0.mk (blk_below (g := gb164) (o := .cells #[.int .i64 a0_0, .int .i64 a0_1, .int .i64 a0_2, .int .i64 a0_3, .slice (some ad168) l0_4.length c0_4, .bool a0_5] 39 (0, 0)) (by (with_reducible repeat (first | refine blk_drewN ?_ _ | refine blk_drew ?_ | refine blk_alloc ?_ _)); exact BK164.out) hb); have n1_ := Aside0.mk (below_step (by repeat (first | (with_reducible first | exact HB.out | apply below_alloc | apply pw_below_drewN | apply below_drew1 | refine below_set ?_ GE164.out) | exact HB.out)) hb); have n2_ := Aside0.mk (hbox); have n3_ := Aside0.mk ((by rw [hg]; exact (below_size (by repeat (first | (with_reducible first | exact HB.out | apply below_alloc | apply pw_below_drewN | apply below_drew1 | refine below_set ?_ GE164.out) | exact HB.out))) : w.heap.size ≤ gb169)); have n4_ := Aside0.mk ((by rw [hg]; exact (below_size (by repeat (first | (with_reducible first | exact HB.out | apply below_alloc | apply pw_below_drewN | apply below_drew1 | refine below_set ?_ GE164.out) | exact HB.out))) : w.heap.size ≤ gb169)); have n5_ := Aside0.mk ((by rw [hg]; exact Nat.ne_of_lt (blk_lt (g := gb164) (o := .cells #[.int .i64 a0_0, .int .i64 a0_1, .int .i64 a0_2, .int .i64 a0_3, .slice (some ad168) l0_4.length c0_4, .bool a0_5] 39 (0, 0)) (by (with_reducible repeat (first | refine blk_drewN ?_ _ | refine blk_drew ?_ | refine blk_alloc ?_ _)); exact BK164.out)) : gb164 ≠ gb169)); have n6_ := Aside0.mk ((by rw [hg]; exact Nat.ne_of_gt (blk_lt (g := gb164) (o := .cells #[.int .i64 a0_0, .int .i64 a0_1, .int .i64 a0_2, .int .i64 a0_3, .slice (some ad168) l0_4.length c0_4, .bool a0_5] 39 (0, 0)) (by (with_reducible repeat (first | refine blk_drewN ?_ _ | refine blk_drew ?_ | refine blk_alloc ?_ _)); exact BK164.out)) : gb169 ≠ gb164)); clear BK164; clear HB; have BK164 := n0_; have HB := n1_; have BK169 := n2_; have GW169 := n3_; have GE169 := n4_; have NB164_169 := n5_; have NB169_164 := n6_; clear n0_ n1_ n2_ n3_ n4_ n5_ n6_; clear hb hbox hg; have hnb94 := NB169_164.out; have hnc94 := NB164_169.out; have hcz95_0 : w93.cell? ⟨gb169, 0, none⟩ = some (.bool false) := (blk_cell BK169.out 0).trans rfl; have hcz95_1 : w93.cell? ⟨gb169, 1, none⟩ = some (.int .i64 0) := (blk_cell BK169.out 1).trans rfl; have hcz95_2 : w93.cell? ⟨gb169, 2, none⟩ = some (.int .i64 0) := (blk_cell BK169.out 2).trans rfl; have hfz95_0 := blk_frozen BK169.out 0; have hfz95_1 := blk_frozen BK169.out 1; have hfz95_2 := blk_frozen BK169.out 2))
                            go_ret
                            exact ⟨by first | rfl | (simp [errW_none, errW_some] <;> rfl) | (simp [*, errW_none, errW_some] <;> rfl), by repeat (first | (with_reducible first | exact HB.out | apply below_alloc | apply pw_below_drewN | apply below_drew1 | refine below_set ?_ GE164.out | refine below_set ?_ GE169.out) | exact HB.out)⟩
                          · rw [if_neg c92] at H
                            have c92b0 : decide (((rd_T116 l0_4 x97_3).f1) < 0) = false := decide_eq_false c92
                            clear c92
                            by_cases c96 : ((rd_T116 l0_4 x97_3).f1) > 8
                            · rw [if_pos c96] at H
                              have c96b0 : decide (8 < ((rd_T116 l0_4 x97_3).f1)) = true := decide_eq_true c96
                              clear c96
                              obtain rfl := Option.some.inj H
                              have p168 : 0 ≤ (x97_3 : Int) := of_decide_eq_true (by first | (with_reducible assumption) | assumption)
                              have q168 : x97_3 < (l0_4.length : Int) := of_decide_eq_true (by first | (with_reducible assumption) | assumption)
                              obtain ⟨ad168, e168, hx168_0, hx168_1, hx168_2⟩ := at_T116 HR0_4.out x97_3 p168 q168
                              cases e168
                              replace hx168_0 := (HB.out.cell (World.block_lt_of_cell? w _ hx168_0)).trans hx168_0
                              replace hx168_1 := (HB.out.cell (World.block_lt_of_cell? w _ hx168_1)).trans hx168_1
                              replace hx168_2 := (HB.out.cell (World.block_lt_of_cell? w _ hx168_2)).trans hx168_2
                              replace p168 := eq_true p168
                              replace q168 := eq_true q168
                              go_wp2_with (first | ((with_reducible refine gate_dst (N := 4) rfl ?_); (try (refine gate_guard (by rfl) ?_; dsimp only)); refine box_event ?hg (N := 4) ?hd (cs := #[.bool false, .int .i64 0, .int .i64 0]) (t := 116) ?hr ?_; (case hd => rfl); (case hg => rfl); (case hr => first | (go_simp; done) | (go_simp; rfl)); intro gb169 hg w97 hbox hb; have n0_ := Aside0.mk (blk_below (g := gb164) (o := .cells #[.int .i64 a0_0, .int .i64 a0_1, .int .i64 a0_2, .int .i64 a0_3, .slice (some ad168) l0_4.length c0_4, .bool a0_5] 39 (0, 0)) (by (with_reducible repeat (first | refine blk_drewN ?_ _ | refine blk_drew ?_ | refine blk_alloc ?_ _)); exact BK164.out) hb); have n1_ := Aside0.mk (below_step (by repeat (first | (with_reducible first | exact HB.out | apply below_alloc | apply pw_below_drewN | apply below_drew1 | refine below_set ?_ GE164.out) | exact HB.out)) hb); have n2_ := Aside0.mk (hbox); have n3_ := Aside0.mk ((by rw [hg]; exact (below_size (by repeat (first | (with_reducible first | exact HB.out | apply below_alloc | apply pw_below_drewN | apply below_drew1 | refine below_set ?_ GE164.out) | exact HB.out))) : w.heap.size ≤ gb169)); have n4_ := Aside0.mk ((by rw [hg]; exact (below_size (by repeat (first | (with_reducible first | exact HB.out | apply below_alloc | apply pw_below_drewN | apply below_drew1 | refine below_set ?_ GE164.out) | exact HB.out))) : w.heap.size ≤ gb169)); have n5_ := Aside0.mk ((by rw [hg]; exact Nat.ne_of_lt (blk_lt (g := gb164) (o := .cells #[.int .i64 a0_0, .int .i64 a0_1, .int .i64 a0_2, .int .i64 a0_3, .slice (some ad168) l0_4.length c0_4, .bool a0_5] 39 (0, 0)) (by (with_reducible repeat (first | refine blk_drewN ?_ _ | refine blk_drew ?_ | refine blk_alloc ?_ _)); exact BK164.out)) : gb164 ≠ gb169)); have n6_ := Aside0.mk ((by rw [hg]; exact Nat.ne_of_gt (blk_lt (g := gb164) (o := .cells #[.int .i64 a0_0, .int .i64 a0_1, .int .i64 a0_2, .int .i64 a0_3, .slice (some ad168) l0_4.length c0_4, .bool a0_5] 39 (0, 0)) (by (with_reducible repeat (first | refine blk_drewN ?_ _ | refine blk_drew ?_ | refine blk_alloc ?_ _)); exact BK164.out)) : gb169 ≠ gb164)); clear BK164; clear HB; have BK164 := n0_; have HB := n1_; have BK169 := n2_; have GW169 := n3_; have GE169 := n4_; have NB164_169 := n5_; have NB169_164 := n6_; clear n0_ n1_ n2_ n3_ n4_ n5_ n6_; clear hb hbox hg; have hnb98 := NB169_164.out; have hnc98 := NB164_169.out; have hcz99_0 : w97.cell? ⟨gb169, 0, none⟩ = some (.bool false) := (blk_cell BK169.out 0).trans rfl; have hcz99_1 : w97.cell? ⟨gb169, 1, none⟩ = some (.int .i64 0) := (blk_cell BK169.out 1).trans rfl; have hcz99_2 : w97.cell? ⟨gb169, 2, none⟩ = some (.int .i64 0) := (blk_cell BK169.out 2).trans rfl; have hfz99_0 := blk_frozen BK169.out 0; have hfz99_1 := blk_frozen BK169.out 1; have hfz99_2 := blk_frozen BK169.out 2))
                              go_ret
                              exact ⟨by first | rfl | (simp [errW_none, errW_some] <;> rfl) | (simp [*, errW_none, errW_some] <;> rfl), by repeat (first | (with_reducible first | exact HB.out | apply below_alloc | apply pw_below_drewN | apply below_drew1 | refine below_set ?_ GE164.out | refine below_set ?_ GE169.out) | exact HB.out)⟩
                            · rw [if_neg c96] at H
                              have c96b0 : decide (8 < ((rd_T116 l0_4 x97_3).f1)) = false := decide_eq_false c96
                              clear c96
                              by_cases c100 : ((rd_T116 l0_4 x97_3).f2) < 0
                              · rw [if_pos c100] at H
                                have c100b0 : decide (((rd_T116 l0_4 x97_3).f2) < 0) = true := decide_eq_true c100
                                clear c100
                                obtain rfl := Option.some.inj H
                                have p168 : 0 ≤ (x97_3 : Int) := of_decide_eq_true (by first | (with_reducible assumption) | assumption)
                                have q168 : x97_3 < (l0_4.length : Int) := of_decide_eq_true (by first | (with_reducible assumption) | assumption)
                                obtain ⟨ad168, e168, hx168_0, hx168_1, hx168_2⟩ := at_T116 HR0_4.out x97_3 p168 q168
                                cases e168
                                replace hx168_0 := (HB.out.cell (World.block_lt_of_cell? w _ hx168_0)).trans hx168_0
                                replace hx168_1 := (HB.out.cell (World.block_lt_of_cell? w _ hx168_1)).trans hx168_1
                                replace hx168_2 := (HB.out.cell (World.block_lt_of_cell? w _ hx168_2)).trans hx168_2
                                replace p168 := eq_true p168
                                replace q168 := eq_true q168
                                go_wp2_with (first | ((with_reducible refine gate_dst (N := 4) rfl ?_); (try (refine gate_guard (by rfl) ?_; dsimp only)); refine box_event ?hg (N := 4) ?hd (cs := #[.bool false, .int .i64 0, .int .i64 0]) (t := 116) ?hr ?_; (case hd => rfl); (case hg => rfl); (case hr => first | (go_simp; done) | (go_simp; rfl)); intro gb169 hg w101 hbox hb; have n0_ := Aside0.mk (blk_below (g := gb164) (o := .cells #[.int .i64 a0_0, .int .i64 a0_1, .int .i64 a0_2, .int .i64 a0_3, .slice (some ad168) l0_4.length c0_4, .bool a0_5] 39 (0, 0)) (by (with_reducible repeat (first | refine blk_drewN ?_ _ | refine blk_drew ?_ | refine blk_alloc ?_ _)); exact BK164.out) hb); have n1_ := Aside0.mk (below_step (by repeat (first | (with_reducible first | exact HB.out | apply below_alloc | apply pw_below_drewN | apply below_drew1 | refine below_set ?_ GE164.out) | exact HB.out)) hb); have n2_ := Aside0.mk (hbox); have n3_ := Aside0.mk ((by rw [hg]; exact (below_size (by repeat (first | (with_reducible first | exact HB.out | apply below_alloc | apply pw_below_drewN | apply below_drew1 | refine below_set ?_ GE164.out) | exact HB.out))) : w.heap.size ≤ gb169)); have n4_ := Aside0.mk ((by rw [hg]; exact (below_size (by repeat (first | (with_reducible first | exact HB.out | apply below_alloc | apply pw_below_drewN | apply below_drew1 | refine below_set ?_ GE164.out) | exact HB.out))) : w.heap.size ≤ gb169)); have n5_ := Aside0.mk ((by rw [hg]; exact Nat.ne_of_lt (blk_lt (g := gb164) (o := .cells #[.int .i64 a0_0, .int .i64 a0_1, .int .i64 a0_2, .int .i64 a0_3, .slice (some ad168) l0_4.length c0_4, .bool a0_5] 39 (0, 0)) (by (with_reducible repeat (first | refine blk_drewN ?_ _ | refine blk_drew ?_ | refine blk_alloc ?_ _)); exact BK164.out)) : gb164 ≠ gb169)); have n6_ := Aside0.mk ((by rw [hg]; exact Nat.ne_of_gt (blk_lt (g := gb164) (o := .cells #[.int .i64 a0_0, .int .i64 a0_1, .int .i64 a0_2, .int .i64 a0_3, .slice (some ad168) l0_4.length c0_4, .bool a0_5] 39 (0, 0)) (by (with_reducible repeat (first | refine blk_drewN ?_ _ | refine blk_drew ?_ | refine blk_alloc ?_ _)); exact BK164.out)) : gb169 ≠ gb164)); clear BK164; clear HB; have BK164 := n0_; have HB := n1_; have BK169 := n2_; have GW169 := n3_; have GE169 := n4_; have NB164_169 := n5_; have NB169_164 := n6_; clear n0_ n1_ n2_ n3_ n4_ n5_ n6_; clear hb hbox hg; have hnb102 := NB169_164.out; have hnc102 := NB164_169.out; have hcz103_0 : w101.cell? ⟨gb169, 0, none⟩ = some (.bool false) := (blk_cell BK169.out 0).trans rfl; have hcz103_1 : w101.cell? ⟨gb169, 1, none⟩ = some (.int .i64 0) := (blk_cell BK169.out 1).trans rfl; have hcz103_2 : w101.cell? ⟨gb169, 2, none⟩ = some (.int .i64 0) := (blk_cell BK169.out 2).trans rfl; have hfz103_0 := blk_frozen BK169.out 0; have hfz103_1 := blk_frozen BK169.out 1; have hfz103_2 := blk_frozen BK169.out 2))
                                go_ret
                                exact ⟨by first | rfl | (simp [errW_none, errW_some] <;> rfl) | (simp [*, errW_none, errW_some] <;> rfl), by repeat (first | (with_reducible first | exact HB.out | apply below_alloc | apply pw_below_drewN | apply below_drew1 | refine below_set ?_ GE164.out | refine below_set ?_ GE169.out) | exact HB.out)⟩
                              · rw [if_neg c100] at H
                                have c100b0 : decide (((rd_T116 l0_4 x97_3).f2) < 0) = false := decide_eq_false c100
                                clear c100
                                by_cases c104 : ((rd_T116 l0_4 x97_3).f2) > 255
                                · rw [if_pos c104] at H
                                  have c104b0 : decide (255 < ((rd_T116 l0_4 x97_3).f2)) = true := decide_eq_true c104
                                  clear c104
                                  obtain rfl := Option.some.inj H
                                  have p168 : 0 ≤ (x97_3 : Int) := of_decide_eq_true (by first | (with_reducible assumption) | assumption)
                                  have q168 : x97_3 < (l0_4.length : Int) := of_decide_eq_true (by first | (with_reducible assumption) | assumption)
                                  obtain ⟨ad168, e168, hx168_0, hx168_1, hx168_2⟩ := at_T116 HR0_4.out x97_3 p168 q168
                                  cases e168
                                  replace hx168_0 := (HB.out.cell (World.block_lt_of_cell? w _ hx168_0)).trans hx168_0
                                  replace hx168_1 := (HB.out.cell (World.block_lt_of_cell? w _ hx168_1)).trans hx168_1
                                  replace hx168_2 := (HB.out.cell (World.block_lt_of_cell? w _ hx168_2)).trans hx168_2
                                  replace p168 := eq_true p168
                                  replace q168 := eq_true q168
                                  go_wp2_with (first | ((with_reducible refine gate_dst (N := 4) rfl ?_); (try (refine gate_guard (by rfl) ?_; dsimp only)); refine box_event ?hg (N := 4) ?hd (cs := #[.bool false, .int .i64 0, .int .i64 0]) (t := 116) ?hr ?_; (case hd => rfl); (case hg => rfl); (case hr => first | (go_simp; done) | (go_simp; rfl)); intro gb169 hg w105 hbox hb; have n0_ := Aside0.mk (blk_below (g := gb164) (o := .cells #[.int .i64 a0_0, .int .i64 a0_1, .int .i64 a0_2, .int .i64 a0_3, .slice (some ad168) l0_4.length c0_4, .bool a0_5] 39 (0, 0)) (by (with_reducible repeat (first | refine blk_drewN ?_ _ | refine blk_drew ?_ | refine blk_alloc ?_ _)); exact BK164.out) hb); have n1_ := Aside0.mk (below_step (by repeat (first | (with_reducible first | exact HB.out | apply below_alloc | apply pw_below_drewN | apply below_drew1 | refine below_set ?_ GE164.out) | exact HB.out)) hb); have n2_ := Aside0.mk (hbox); have n3_ := Aside0.mk ((by rw [hg]; exact (below_size (by repeat (first | (with_reducible first | exact HB.out | apply below_alloc | apply pw_below_drewN | apply below_drew1 | refine below_set ?_ GE164.out) | exact HB.out))) : w.heap.size ≤ gb169)); have n4_ := Aside0.mk ((by rw [hg]; exact (below_size (by repeat (first | (with_reducible first | exact HB.out | apply below_alloc | apply pw_below_drewN | apply below_drew1 | refine below_set ?_ GE164.out) | exact HB.out))) : w.heap.size ≤ gb169)); have n5_ := Aside0.mk ((by rw [hg]; exact Nat.ne_of_lt (blk_lt (g := gb164) (o := .cells #[.int .i64 a0_0, .int .i64 a0_1, .int .i64 a0_2, .int .i64 a0_3, .slice (some ad168) l0_4.length c0_4, .bool a0_5] 39 (0, 0)) (by (with_reducible repeat (first | refine blk_drewN ?_ _ | refine blk_drew ?_ | refine blk_alloc ?_ _)); exact BK164.out)) : gb164 ≠ gb169)); have n6_ := Aside0.mk ((by rw [hg]; exact Nat.ne_of_gt (blk_lt (g := gb164) (o := .cells #[.int .i64 a0_0, .int .i64 a0_1, .int .i64 a0_2, .int .i64 a0_3, .slice (some ad168) l0_4.length c0_4, .bool a0_5] 39 (0, 0)) (by (with_reducible repeat (first | refine blk_drewN ?_ _ | refine blk_drew ?_ | refine blk_alloc ?_ _)); exact BK164.out)) : gb169 ≠ gb164)); clear BK164; clear HB; have BK164 := n0_; have HB := n1_; have BK169 := n2_; have GW169 := n3_; have GE169 := n4_; have NB164_169 := n5_; have NB169_164 := n6_; clear n0_ n1_ n2_ n3_ n4_ n5_ n6_; clear hb hbox hg; have hnb106 := NB169_164.out; have hnc106 := NB164_169.out; have hcz107_0 : w105.cell? ⟨gb169, 0, none⟩ = some (.bool false) := (blk_cell BK169.out 0).trans rfl; have hcz107_1 : w105.cell? ⟨gb169, 1, none⟩ = some (.int .i64 0) := (blk_cell BK169.out 1).trans rfl; have hcz107_2 : w105.cell? ⟨gb169, 2, none⟩ = some (.int .i64 0) := (blk_cell BK169.out 2).trans rfl; have hfz107_0 := blk_frozen BK169.out 0; have hfz107_1 := blk_frozen BK169.out 1; have hfz107_2 := blk_frozen BK169.out 2))
                                  go_ret
                                  exact ⟨by first | rfl | (simp [errW_none, errW_some] <;> rfl) | (simp [*, errW_none, errW_some] <;> rfl), by repeat (first | (with_reducible first | exact HB.out | apply below_alloc | apply pw_below_drewN | apply below_drew1 | refine below_set ?_ GE164.out | refine below_set ?_ GE169.out) | exact HB.out)⟩
                                · rw [if_neg c104] at H
                                  have c104b0 : decide (255 < ((rd_T116 l0_4 x97_3).f2)) = false := decide_eq_false c104
                                  clear c104
                                  obtain ⟨bq108, hbq108⟩ : ∃ b_ : Bool, b_ = ((rd_T116 l0_4 x97_3).f0) := ⟨_, rfl⟩
                                  replace H : (if (bq108 = true) then (handoffref10_RightOp.l0 k3 l0_4 (l0_4.length : Int) (wrap64 (x97_3 + 1))) else (if ((rd_T116 l0_4 x97_3).f2) = 0 then (handoffref10_RightOp.l0 k3 l0_4 (l0_4.length : Int) (wrap64 (x97_3 + 1))) else (some false))) = some r := by rw [← hbq108] at H; exact H
                                  have Nbq108 := Aside0.mk hbq108
                                  clear hbq108
                                  by_cases c109 : (bq108 = true)
                                  · subst c109
                                    have H1 : (handoffref10_RightOp.l0 k3 l0_4 (l0_4.length : Int) (wrap64 (x97_3 + 1))) = some r := by rw [if_pos rfl] at H; exact H
                                    clear H
                                    have H := H1
                                    clear H1
                                    have H' := Aside0.mk H
                                    clear H
                                    have p168 : 0 ≤ (x97_3 : Int) := of_decide_eq_true (by first | (with_reducible assumption) | assumption)
                                    have q168 : x97_3 < (l0_4.length : Int) := of_decide_eq_true (by first | (with_reducible assumption) | assumption)
                                    obtain ⟨ad168, e168, hx168_0, hx168_1, hx168_2⟩ := at_T116 HR0_4.out x97_3 p168 q168
                                    (try rw [← Nbq108.out] at hx168_0)
                                    cases e168
                                    replace hx168_0 := (HB.out.cell (World.block_lt_of_cell? w _ hx168_0)).trans hx168_0
                                    replace hx168_1 := (HB.out.cell (World.block_lt_of_cell? w _ hx168_1)).trans hx168_1
                                    replace hx168_2 := (HB.out.cell (World.block_lt_of_cell? w _ hx168_2)).trans hx168_2
                                    replace p168 := eq_true p168
                                    replace q168 := eq_true q168
                                    go_wp2_with (first | ((with_reducible refine gate_dst (N := 4) rfl ?_); (try (refine gate_guard (by rfl) ?_; dsimp only)); refine box_event ?hg (N := 4) ?hd (cs := #[.bool false, .int .i64 0, .int .i64 0]) (t := 116) ?hr ?_; (case hd => rfl); (case hg => rfl); (case hr => first | (go_simp; done) | (go_simp; rfl)); intro gb169 hg w110 hbox hb; have n0_ := Aside0.mk (blk_below (g := gb164) (o := .cells #[.int .i64 a0_0, .int .i64 a0_1, .int .i64 a0_2, .int .i64 a0_3, .slice (some ad168) l0_4.length c0_4, .bool a0_5] 39 (0, 0)) (by (with_reducible repeat (first | refine blk_drewN ?_ _ | refine blk_drew ?_ | refine blk_alloc ?_ _)); exact BK164.out) hb); have n1_ := Aside0.mk (below_step (by repeat (first | (with_reducible first | exact HB.out | apply below_alloc | apply pw_below_drewN | apply below_drew1 | refine below_set ?_ GE164.out) | exact HB.out)) hb); have n2_ := Aside0.mk (hbox); have n3_ := Aside0.mk ((by rw [hg]; exact (below_size (by repeat (first | (with_reducible first | exact HB.out | apply below_alloc | apply pw_below_drewN | apply below_drew1 | refine below_set ?_ GE164.out) | exact HB.out))) : w.heap.size ≤ gb169)); have n4_ := Aside0.mk ((by rw [hg]; exact (below_size (by repeat (first | (with_reducible first | exact HB.out | apply below_alloc | apply pw_below_drewN | apply below_drew1 | refine below_set ?_ GE164.out) | exact HB.out))) : w.heap.size ≤ gb169)); have n5_ := Aside0.mk ((by rw [hg]; exact Nat.ne_of_lt (blk_lt (g := gb164) (o := .cells #[.int .i64 a0_0, .int .i64 a0_1, .int .i64 a0_2, .int .i64 a0_3, .slice (some ad168) l0_4.length c0_4, .bool a0_5] 39 (0, 0)) (by (with_reducible repeat (first | refine blk_drewN ?_ _ | refine blk_drew ?_ | refine blk_alloc ?_ _)); exact BK164.out)) : gb164 ≠ gb169)); have n6_ := Aside0.mk ((by rw [hg]; exact Nat.ne_of_gt (blk_lt (g := gb164) (o := .cells #[.int .i64 a0_0, .int .i64 a0_1, .int .i64 a0_2, .int .i64 a0_3, .slice (some ad168) l0_4.length c0_4, .bool a0_5] 39 (0, 0)) (by (with_reducible repeat (first | refine blk_drewN ?_ _ | refine blk_drew ?_ | refine blk_alloc ?_ _)); exact BK164.out)) : gb169 ≠ gb164)); clear BK164; clear HB; have BK164 := n0_; have HB := n1_; have BK169 := n2_; have GW169 := n3_; have GE169 := n4_; have NB164_169 := n5_; have NB169_164 := n6_; clear n0_ n1_ n2_ n3_ n4_ n5_ n6_; clear hb hbox hg; have hnb111 := NB169_164.out; have hnc111 := NB164_169.out; have hcz112_0 : w110.cell? ⟨gb169, 0, none⟩ = some (.bool false) := (blk_cell BK169.out 0).trans rfl; have hcz112_1 : w110.cell? ⟨gb169, 1, none⟩ = some (.int .i64 0) := (blk_cell BK169.out 1).trans rfl; have hcz112_2 : w110.cell? ⟨gb169, 2, none⟩ = some (.int .i64 0) := (blk_cell BK169.out 2).trans rfl; have hfz112_0 := blk_frozen BK169.out 0; have hfz112_1 := blk_frozen BK169.out 1; have hfz112_2 := blk_frozen BK169.out 2))
                                    go_roundg k3
                                    case measure => have := HJ1.out; have := HJ21.out; have := HK3.out; omega
                                    case rel => exact ⟨(wrap64 (x97_3 + 1)), (by first | rfl | (simp; done) | (simp [*]; done)), H', ⟨by have := HJ1.out; have := HJ21.out; have := HK3.out; omega⟩, ⟨by (with_reducible repeat (first | refine blk_drewN ?_ _ | refine blk_drew ?_ | refine blk_alloc ?_ _)); refine blk_far ?_ NB164_169.out _; (with_reducible repeat (first | refine blk_drewN ?_ _ | refine blk_drew ?_ | refine blk_alloc ?_ _)); refine blk_far ?_ NB164_169.out _; (with_reducible repeat (first | refine blk_drewN ?_ _ | refine blk_drew ?_ | refine blk_alloc ?_ _)); refine blk_far ?_ NB164_169.out _; (with_reducible repeat (first | refine blk_drewN ?_ _ | refine blk_drew ?_ | refine blk_alloc ?_ _)); exact BK164.out⟩, ⟨by repeat (first | (with_reducible first | exact HB.out | apply below_alloc | apply pw_below_drewN | apply below_drew1 | refine below_set ?_ GE164.out | refine below_set ?_ GE169.out) | exact HB.out)⟩⟩
                                  · replace c109 := Bool.eq_false_iff.mpr c109
                                    subst c109
                                    have H1 : (if ((rd_T116 l0_4 x97_3).f2) = 0 then (handoffref10_RightOp.l0 k3 l0_4 (l0_4.length : Int) (wrap64 (x97_3 + 1))) else (some false)) = some r := by rw [if_neg (show ¬ (false = true) by decide)] at H; exact H
                                    clear H
                                    have H := H1
                                    clear H1
                                    by_cases c113 : ((rd_T116 l0_4 x97_3).f2) = 0
                                    · rw [if_pos c113] at H
                                      have c113b0 : (((rd_T116 l0_4 x97_3).f2) == 0) = true := beq_iff_eq.mpr c113
                                      have c113b1 : (((rd_T116 l0_4 x97_3).f2) != 0) = false := bne_eq_false_iff_eq.mpr c113
                                      clear c113
                                      have H' := Aside0.mk H
                                      clear H
                                      have p168 : 0 ≤ (x97_3 : Int) := of_decide_eq_true (by first | (with_reducible assumption) | assumption)
                                      have q168 : x97_3 < (l0_4.length : Int) := of_decide_eq_true (by first | (with_reducible assumption) | assumption)
                                      obtain ⟨ad168, e168, hx168_0, hx168_1, hx168_2⟩ := at_T116 HR0_4.out x97_3 p168 q168
                                      (try rw [← Nbq108.out] at hx168_0)
                                      cases e168
                                      replace hx168_0 := (HB.out.cell (World.block_lt_of_cell? w _ hx168_0)).trans hx168_0
                                      replace hx168_1 := (HB.out.cell (World.block_lt_of_cell? w _ hx168_1)).trans hx168_1
                                      replace hx168_2 := (HB.out.cell (World.block_lt_of_cell? w _ hx168_2)).trans hx168_2
                                      replace p168 := eq_true p168
                                      replace q168 := eq_true q168
                                      go_wp2_with (first | ((with_reducible refine gate_dst (N := 4) rfl ?_); (try (refine gate_guard (by rfl) ?_; dsimp only)); refine box_event ?hg (N := 4) ?hd (cs := #[.bool false, .int .i64 0, .int .i64 0]) (t := 116) ?hr ?_; (case hd => rfl); (case hg => rfl); (case hr => first | (go_simp; done) | (go_simp; rfl)); intro gb169 hg w114 hbox hb; have n0_ := Aside0.mk (blk_below (g := gb164) (o := .cells #[.int .i64 a0_0, .int .i64 a0_1, .int .i64 a0_2, .int .i64 a0_3, .slice (some ad168) l0_4.length c0_4, .bool a0_5] 39 (0, 0)) (by (with_reducible repeat (first | refine blk_drewN ?_ _ | refine blk_drew ?_ | refine blk_alloc ?_ _)); exact BK164.out) hb); have n1_ := Aside0.mk (below_step (by repeat (first | (with_reducible first | exact HB.out | apply below_alloc | apply pw_below_drewN | apply below_drew1 | refine below_set ?_ GE164.out) | exact HB.out)) hb); have n2_ := Aside0.mk (hbox); have n3_ := Aside0.mk ((by rw [hg]; exact (below_size (by repeat (first | (with_reducible first | exact HB.out | apply below_alloc | apply pw_below_drewN | apply below_drew1 | refine below_set ?_ GE164.out) | exact HB.out))) : w.heap.size ≤ gb169)); have n4_ := Aside0.mk ((by rw [hg]; exact (below_size (by repeat (first | (with_reducible first | exact HB.out | apply below_alloc | apply pw_below_drewN | apply below_drew1 | refine below_set ?_ GE164.out) | exact HB.out))) : w.heap.size ≤ gb169)); have n5_ := Aside0.mk ((by rw [hg]; exact Nat.ne_of_lt (blk_lt (g := gb164) (o := .cells #[.int .i64 a0_0, .int .i64 a0_1, .int .i64 a0_2, .int .i64 a0_3, .slice (some ad168) l0_4.length c0_4, .bool a0_5] 39 (0, 0)) (by (with_reducible repeat (first | refine blk_drewN ?_ _ | refine blk_drew ?_ | refine blk_alloc ?_ _)); exact BK164.out)) : gb164 ≠ gb169)); have n6_ := Aside0.mk ((by rw [hg]; exact Nat.ne_of_gt (blk_lt (g := gb164) (o := .cells #[.int .i64 a0_0, .int .i64 a0_1, .int .i64 a0_2, .int .i64 a0_3, .slice (some ad168) l0_4.length c0_4, .bool a0_5] 39 (0, 0)) (by (with_reducible repeat (first | refine blk_drewN ?_ _ | refine blk_drew ?_ | refine blk_alloc ?_ _)); exact BK164.out)) : gb169 ≠ gb164)); clear BK164; clear HB; have BK164 := n0_; have HB := n1_; have BK169 := n2_; have GW169 := n3_; have GE169 := n4_; have NB164_169 := n5_; have NB169_164 := n6_; clear n0_ n1_ n2_ n3_ n4_ n5_ n6_; clear hb hbox hg; have hnb115 := NB169_164.out; have hnc115 := NB164_169.out; have hcz116_0 : w114.cell? ⟨gb169, 0, none⟩ = some (.bool false) := (blk_cell BK169.out 0).trans rfl; have hcz116_1 : w114.cell? ⟨gb169, 1, none⟩ = some (.int .i64 0) := (blk_cell BK169.out 1).trans rfl; have hcz116_2 : w114.cell? ⟨gb169, 2, none⟩ = some (.int .i64 0) := (blk_cell BK169.out 2).trans rfl; have hfz116_0 := blk_frozen BK169.out 0; have hfz116_1 := blk_frozen BK169.out 1; have hfz116_2 := blk_frozen BK169.out 2))
                                      go_roundg k3
                                      case measure => have := HJ1.out; have := HJ21.out; have := HK3.out; omega
                                      case rel => exact ⟨(wrap64 (x97_3 + 1)), (by first | rfl | (simp; done) | (simp [*]; done)), H', ⟨by have := HJ1.out; have := HJ21.out; have := HK3.out; omega⟩, ⟨by (with_reducible repeat (first | refine blk_drewN ?_ _ | refine blk_drew ?_ | refine blk_alloc ?_ _)); refine blk_far ?_ NB164_169.out _; (with_reducible repeat (first | refine blk_drewN ?_ _ | refine blk_drew ?_ | refine blk_alloc ?_ _)); refine blk_far ?_ NB164_169.out _; (with_reducible repeat (first | refine blk_drewN ?_ _ | refine blk_drew ?_ | refine blk_alloc ?_ _)); refine blk_far ?_ NB164_169.out _; (with_reducible repeat (first | refine blk_drewN ?_ _ | refine blk_drew ?_ | refine blk_alloc ?_ _)); exact BK164.out⟩, ⟨by repeat (first | (with_reducible first | exact HB.out | apply below_alloc | apply pw_below_drewN | apply below_drew1 | refine below_set ?_ GE164.out | refine below_set ?_ GE169.out) | exact HB.out)⟩⟩
                                    · rw [if_neg c113] at H
                                      have c113b0 : (((rd_T116 l0_4 x97_3).f2) == 0) = false := beq_eq_false_iff_ne.mpr c113
                                      have c113b1 : (((rd_T116 l0_4 x97_3).f2) != 0) = true := bne_iff_ne.mpr c113
                                      obtain rfl := Option.some.inj H
                                      have p168 : 0 ≤ (x97_3 : Int) := of_decide_eq_true (by first | (with_reducible assumption) | assumption)
                                      have q168 : x97_3 < (l0_4.length : Int) := of_decide_eq_true (by first | (with_reducible assumption) | assumption)
                                      obtain ⟨ad168, e168, hx168_0, hx168_1, hx168_2⟩ := at_T116 HR0_4.out x97_3 p168 q168
                                      (try rw [← Nbq108.out] at hx168_0)
                                      cases e168
                                      replace hx168_0 := (HB.out.cell (World.block_lt_of_cell? w _ hx168_0)).trans hx168_0
                                      replace hx168_1 := (HB.out.cell (World.block_lt_of_cell? w _ hx168_1)).trans hx168_1
                                      replace hx168_2 := (HB.out.cell (World.block_lt_of_cell? w _ hx168_2)).trans hx168_2
                                      replace p168 := eq_true p168
                                      replace q168 := eq_true q168
                                      go_wp2_with (first | ((with_reducible refine gate_dst (N := 4) rfl ?_); (try (refine gate_guard (by rfl) ?_; dsimp only)); refine box_event ?hg (N := 4) ?hd (cs := #[.bool false, .int .i64 0, .int .i64 0]) (t := 116) ?hr ?_; (case hd => rfl); (case hg => rfl); (case hr => first | (go_simp; done) | (go_simp; rfl)); intro gb169 hg w117 hbox hb; have n0_ := Aside0.mk (blk_below (g := gb164) (o := .cells #[.int .i64 a0_0, .int .i64 a0_1, .int .i64 a0_2, .int .i64 a0_3, .slice (some ad168) l0_4.length c0_4, .bool a0_5] 39 (0, 0)) (by (with_reducible repeat (first | refine blk_drewN ?_ _ | refine blk_drew ?_ | refine blk_alloc ?_ _)); exact BK164.out) hb); have n1_ := Aside0.mk (below_step (by repeat (first | (with_reducible first | exact HB.out | apply below_alloc | apply pw_below_drewN | apply below_drew1 | refine below_set ?_ GE164.out) | exact HB.out)) hb); have n2_ := Aside0.mk (hbox); have n3_ := Aside0.mk ((by rw [hg]; exact (below_size (by repeat (first | (with_reducible first | exact HB.out | apply below_alloc | apply pw_below_drewN | apply below_drew1 | refine below_set ?_ GE164.out) | exact HB.out))) : w.heap.size ≤ gb169)); have n4_ := Aside0.mk ((by rw [hg]; exact (below_size (by repeat (first | (with_reducible first | exact HB.out | apply below_alloc | apply pw_below_drewN | apply below_drew1 | refine below_set ?_ GE164.out) | exact HB.out))) : w.heap.size ≤ gb169)); have n5_ := Aside0.mk ((by rw [hg]; exact Nat.ne_of_lt (blk_lt (g := gb164) (o := .cells #[.int .i64 a0_0, .int .i64 a0_1, .int .i64 a0_2, .int .i64 a0_3, .slice (some ad168) l0_4.length c0_4, .bool a0_5] 39 (0, 0)) (by (with_reducible repeat (first | refine blk_drewN ?_ _ | refine blk_drew ?_ | refine blk_alloc ?_ _)); exact BK164.out)) : gb164 ≠ gb169)); have n6_ := Aside0.mk ((by rw [hg]; exact Nat.ne_of_gt (blk_lt (g := gb164) (o := .cells #[.int .i64 a0_0, .int .i64 a0_1, .int .i64 a0_2, .int .i64 a0_3, .slice (some ad168) l0_4.length c0_4, .bool a0_5] 39 (0, 0)) (by (with_reducible repeat (first | refine blk_drewN ?_ _ | refine blk_drew ?_ | refine blk_alloc ?_ _)); exact BK164.out)) : gb169 ≠ gb164)); clear BK164; clear HB; have BK164 := n0_; have HB := n1_; have BK169 := n2_; have GW169 := n3_; have GE169 := n4_; have NB164_169 := n5_; have NB169_164 := n6_; clear n0_ n1_ n2_ n3_ n4_ n5_ n6_; clear hb hbox hg; have hnb118 := NB169_164.out; have hnc118 := NB164_169.out; have hcz119_0 : w117.cell? ⟨gb169, 0, none⟩ = some (.bool false) := (blk_cell BK169.out 0).trans rfl; have hcz119_1 : w117.cell? ⟨gb169, 1, none⟩ = some (.int .i64 0) := (blk_cell BK169.out 1).trans rfl; have hcz119_2 : w117.cell? ⟨gb169, 2, none⟩ = some (.int .i64 0) := (blk_cell BK169.out 2).trans rfl; have hfz119_0 := blk_frozen BK169.out 0; have hfz119_1 := blk_frozen BK169.out 1; have hfz119_2 := blk_frozen BK169.out 2))
                                      go_ret
                                      exact ⟨by first | rfl | (simp [errW_none, errW_some] <;> rfl) | (simp [*, errW_none, errW_some] <;> rfl), by repeat (first | (with_reducible first | exact HB.out | apply below_alloc | apply pw_below_drewN | apply below_drew1 | refine below_set ?_ GE164.out | refine below_set ?_ GE169.out) | exact HB.out)⟩
                        · rw [if_neg c91] at H
                          exact absurd H (by simp)
                      · rw [if_neg c90] at H
                        exact absurd H (by simp)
                    · rw [if_neg c89] at H
                      have c89b0 : decide (x97_3 < (l0_4.length : Int)) = false := decide_eq_false c89
                      clear c89
                      obtain rfl := Option.some.inj H
                      go_wp2
                      go_ret
                      exact ⟨by first | rfl | (simp [errW_none, errW_some] <;> rfl) | (simp [*, errW_none, errW_some] <;> rfl), by repeat (first | (with_reducible first | exact HB.out | apply below_alloc | apply pw_below_drewN | apply below_drew1 | refine below_set ?_ GE164.out) | exact HB.out)⟩

end Go.Proofs.Ytjmpaeckpbpclaa.PPlC
