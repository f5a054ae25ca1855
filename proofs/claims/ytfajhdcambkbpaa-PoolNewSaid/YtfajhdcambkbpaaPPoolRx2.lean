-- Out of the translation, by a program of this session.
import Derived.Test.YtfajhdcambkbpaaPPoolRx0
import Derived.Test.YtfajhdcambkbpaaPPoolRx1
namespace Go.Proofs.Ytfajhdcambkbpaa.PPoolR
open Go.RowKit Go.Proofs.YtfajhdcambkbpaaW.PrintWords Go.Proofs.YtfajhdcambkbpaaW.PrintLast Go.Proofs.YtfajhdcambkbpaaW.PrintMore
attribute [local go_sem] max2_int min2_int max_two min_two max_three min_three max_four min_four   -- for this text's walks alone
set_option linter.unusedVariables false
set_option linter.unusedSimpArgs false

/-! ### handoffref05_Take: function 7 -/
mutual
def handoffref05_Take.j0 : Nat → Int → Bool → Int → Int → List (List Int) → List Int → Int → Option (Int × Int × (List (List Int)) × List Int × Int × Int × Bool)
  | 0, _, _, _, _, _, _, _ => none
  | k + 1, x1, x18, x113000, x113001, x113002, x113003, x113004 => if x18 = true then (some (x113000, x113001, x113002, x113003, x113004, 0, false)) else ((some (([] : List Int) : List Int)).bind fun y114 => (if 0 ≤ x1 then (if x1 < (x113002.length : Int) then (if y114.length + (rd_L1 x113002 x1).length < 17592186044416 then ((some (y114 ++ (rd_L1 x113002 x1) : List Int)).bind fun y118 => ((some (([] : List Int) : List Int)).bind fun y121 => (if y121.length + x113003.length < 17592186044416 then ((some (y121 ++ x113003 : List Int)).bind fun y124 => (if (y118.length : Int) = 0 then (handoffref05_Take.l0 k x1 y118 y124 x113000 x113001 x113002 x113003 x113004) else (handoffref05_Take.j2 k x1 y118 y124 x113000 x113001 x113002 x113003 x113004))) else (none)))) else (none)) else (none)) else (none)))
def handoffref05_Take.j2 : Nat → Int → List Int → List Int → Int → Int → List (List Int) → List Int → Int → Option (Int × Int × (List (List Int)) × List Int × Int × Int × Bool)
  | 0, _, _, _, _, _, _, _, _ => none
  | k + 1, x1, x7, x8, x113000, x113001, x113002, x113003, x113004 => if (x7.length : Int) > 0 then (if 0 ≤ (wrap64 ((x7.length : Int) - 1)) then (if (wrap64 ((x7.length : Int) - 1)) < (x7.length : Int) then (if (wrap64 ((x7.length : Int) - 1)) ≤ (x7.length : Int) then ((handoffref05_with.f x113000 x113001 x113002 x8 x113004 x1 (x7.take ((wrap64 ((x7.length : Int) - 1)) : Int).toNat)).bind fun bt147 => (some (bt147.1, bt147.2.1, bt147.2.2.1, bt147.2.2.2.1, bt147.2.2.2.2, rd x7 (wrap64 ((x7.length : Int) - 1)), true))) else (none)) else (none)) else (none)) else (if x113004 < x113000 then (some (x113000, x113001, x113002, x8, wrap64 (x113004 + 1), wrap64 ((wrap64 (x113004 + 1)) - 1), true)) else (some (x113000, x113001, x113002, x8, x113004, 0, false)))
def handoffref05_Take.l0 : Nat → Int → List Int → List Int → Int → Int → List (List Int) → List Int → Int → Option (Int × Int × (List (List Int)) × List Int × Int × Int × Bool)
  | 0, _, _, _, _, _, _, _, _ => none
  | k + 1, x1, x7, x8, x113000, x113001, x113002, x113003, x113004 => if (x8.length : Int) > 0 then (if (x7.length : Int) < (wrap64 (Int.tdiv x113001 2)) then (if 0 ≤ (wrap64 ((x8.length : Int) - 1)) then (if (wrap64 ((x8.length : Int) - 1)) < (x8.length : Int) then (if x7.length < 17592186044416 then (if (wrap64 ((x8.length : Int) - 1)) ≤ (x8.length : Int) then (handoffref05_Take.l0 k x1 (x7 ++ [rd x8 (wrap64 ((x8.length : Int) - 1))]) (x8.take ((wrap64 ((x8.length : Int) - 1)) : Int).toNat) x113000 x113001 x113002 x113003 x113004) else (none)) else (none)) else (none)) else (none)) else (if (x7.length : Int) < 1 then (if 0 ≤ (wrap64 ((x8.length : Int) - 1)) then (if (wrap64 ((x8.length : Int) - 1)) < (x8.length : Int) then (if x7.length < 17592186044416 then (if (wrap64 ((x8.length : Int) - 1)) ≤ (x8.length : Int) then (handoffref05_Take.l0 k x1 (x7 ++ [rd x8 (wrap64 ((x8.length : Int) - 1))]) (x8.take ((wrap64 ((x8.length : Int) - 1)) : Int).toNat) x113000 x113001 x113002 x113003 x113004) else (none)) else (none)) else (none)) else (none)) else (handoffref05_Take.j2 k x1 x7 x8 x113000 x113001 x113002 x113003 x113004))) else (handoffref05_Take.j2 k x1 x7 x8 x113000 x113001 x113002 x113003 x113004)
end
def handoffref05_Take.f (k : Nat) (a0_0 : Int) (a0_1 : Int) (l0_2 : List (List Int)) (l0_3 : List Int) (a0_4 : Int) (a1 : Int) : Option (Int × Int × (List (List Int)) × List Int × Int × Int × Bool) := if a1 < 0 then (handoffref05_Take.j0 k a1 true a0_0 a0_1 l0_2 l0_3 a0_4) else (handoffref05_Take.j0 k a1 (decide (a1 ≥ (l0_2.length : Int))) a0_0 a0_1 l0_2 l0_3 a0_4)
theorem handoffref05_Take.mono_l : ∀ k, (∀ y0 y1 y2 y3 y4 y5 y6, LeO (handoffref05_Take.j0 k y0 y1 y2 y3 y4 y5 y6) (handoffref05_Take.j0 (k + 1) y0 y1 y2 y3 y4 y5 y6)) ∧ (∀ y0 y1 y2 y3 y4 y5 y6 y7, LeO (handoffref05_Take.j2 k y0 y1 y2 y3 y4 y5 y6 y7) (handoffref05_Take.j2 (k + 1) y0 y1 y2 y3 y4 y5 y6 y7)) ∧ (∀ y0 y1 y2 y3 y4 y5 y6 y7, LeO (handoffref05_Take.l0 k y0 y1 y2 y3 y4 y5 y6 y7) (handoffref05_Take.l0 (k + 1) y0 y1 y2 y3 y4 y5 y6 y7))
  | 0 => ⟨fun _ _ _ _ _ _ _ r h => by simp [handoffref05_Take.j0] at h, fun _ _ _ _ _ _ _ _ r h => by simp [handoffref05_Take.j2] at h, fun _ _ _ _ _ _ _ _ r h => by simp [handoffref05_Take.l0] at h⟩
  | k + 1 => by
    obtain ⟨ih0, ih1, ih2⟩ := handoffref05_Take.mono_l k
    refine ⟨?_, ?_, ?_⟩
    · intro y0 y1 y2 y3 y4 y5 y6
      unfold handoffref05_Take.j0
      repeat' first
      | (with_reducible exact ih0 _ _ _ _ _ _ _)
      | (with_reducible exact ih1 _ _ _ _ _ _ _ _)
      | (with_reducible exact ih2 _ _ _ _ _ _ _ _)
      | (with_reducible exact LeO.refl _)
      | (with_reducible exact LeO.none _)
      | (with_reducible refine LeO.ite ?_ ?_)
      | (with_reducible refine LeO.bind ?_ (fun _ => ?_))
      | exact ih0 _ _ _ _ _ _ _
      | exact ih1 _ _ _ _ _ _ _ _
      | exact ih2 _ _ _ _ _ _ _ _
      | exact LeO.none _
      | refine LeO.ite ?_ ?_
      | refine LeO.bind ?_ (fun _ => ?_)
    · intro y0 y1 y2 y3 y4 y5 y6 y7
      unfold handoffref05_Take.j2
      repeat' first
      | (with_reducible exact ih0 _ _ _ _ _ _ _)
      | (with_reducible exact ih1 _ _ _ _ _ _ _ _)
      | (with_reducible exact ih2 _ _ _ _ _ _ _ _)
      | (with_reducible exact LeO.refl _)
      | (with_reducible exact LeO.none _)
      | (with_reducible refine LeO.ite ?_ ?_)
      | (with_reducible refine LeO.bind ?_ (fun _ => ?_))
      | exact ih0 _ _ _ _ _ _ _
      | exact ih1 _ _ _ _ _ _ _ _
      | exact ih2 _ _ _ _ _ _ _ _
      | exact LeO.none _
      | refine LeO.ite ?_ ?_
      | refine LeO.bind ?_ (fun _ => ?_)
    · intro y0 y1 y2 y3 y4 y5 y6 y7
      unfold handoffref05_Take.l0
      repeat' first
      | (with_reducible exact ih0 _ _ _ _ _ _ _)
      | (with_reducible exact ih1 _ _ _ _ _ _ _ _)
      | (with_reducible exact ih2 _ _ _ _ _ _ _ _)
      | (with_reducible exact LeO.refl _)
      | (with_reducible exact LeO.none _)
      | (with_reducible refine LeO.ite ?_ ?_)
      | (with_reducible refine LeO.bind ?_ (fun _ => ?_))
      | exact ih0 _ _ _ _ _ _ _
      | exact ih1 _ _ _ _ _ _ _ _
      | exact ih2 _ _ _ _ _ _ _ _
      | exact LeO.none _
      | refine LeO.ite ?_ ?_
      | refine LeO.bind ?_ (fun _ => ?_)
theorem handoffref05_Take.mono : ∀ a0 a1 a2 a3 a4 a5 k, LeO (handoffref05_Take.f k a0 a1 a2 a3 a4 a5) (handoffref05_Take.f (k + 1) a0 a1 a2 a3 a4 a5) := by
  intro a0 a1 a2 a3 a4 a5 k
  obtain ⟨ih0, ih1, ih2⟩ := handoffref05_Take.mono_l k
  unfold handoffref05_Take.f
  repeat' first
      | (with_reducible exact ih0 _ _ _ _ _ _ _)
      | (with_reducible exact ih1 _ _ _ _ _ _ _ _)
      | (with_reducible exact ih2 _ _ _ _ _ _ _ _)
      | (with_reducible exact LeO.refl _)
      | (with_reducible exact LeO.none _)
      | (with_reducible refine LeO.ite ?_ ?_)
      | (with_reducible refine LeO.bind ?_ (fun _ => ?_))
      | exact ih0 _ _ _ _ _ _ _
      | exact ih1 _ _ _ _ _ _ _ _
      | exact ih2 _ _ _ _ _ _ _ _
      | exact LeO.none _
      | refine LeO.ite ?_ ?_
      | refine LeO.bind ?_ (fun _ => ?_)
def handoffref05_Take.T12 : Bool × List (List Nat × List Nat) := (true, [([], []), ([], []), ([], []), ([], []), ([3], [3]), ([4], [4]), ([2, 5], [2, 5]), ([0, 1, 6], [0, 1, 6]), ([], []), ([7, 7, 0, 1, 2, 3, 4, 5, 6, 7], [7]), ([8, 9, 0, 1, 2, 3, 4, 5, 6, 7, 8, 9], [8]), ([10, 0, 1, 2, 3, 4, 5, 6, 7, 8, 9, 10], [])])
def handoffref05_Take.B12 : List Nat := [0, 0, 0, 0, 8, 24, 60, 127, 0, 255, 1023, 2047]
theorem handoffref05_Take.tab12 : rtab .any (opsOf Try.f7 12) = handoffref05_Take.T12 := by kernel_rfl
theorem handoffref05_Take.bits12 : waitsOk handoffref05_Take.T12.2 handoffref05_Take.B12 = true := by kernel_rfl
set_option maxHeartbeats 8000000 in
set_option maxRecDepth 100000 in
theorem handoffref05_Take.calls (k : Nat) (a0_0 : Int) (a0_1 : Int) (P0_2_ : Nat → Prop) (A0_2 : Option Addr) (c0_2 : Nat) (l0_2 : List (List Int)) (P0_3_ : Nat → Prop) (u9000_ : Value) (l0_3 : List Int) (a0_4 : Int) (a1 : Int) (r1 : Int) (r2 : Int) (r3 : List (List Int)) (r4 : List Int) (r5 : Int) (r6 : Int) (r7 : Bool) (w0 w : World) (hB : Below w0.heap.size w0 w) (hs0_2 : Kd.V (Kd.slice 3 (Kd.int .i64)) 28 w w0.heap.size (fun k_ => P0_2_ k_ ∧ some k_ ≠ (u9000_ : Value).ownBlock) (.slice A0_2 l0_2.length c0_2) l0_2) (ho0_3 : Kd.R (Kd.int .i64) 3 w w0.heap.size P0_3_ u9000_ l0_3) (h : handoffref05_Take.f k a0_0 a0_1 l0_2 l0_3 a0_4 a1 = some (r1, r2, r3, r4, r5, r6, r7)) :
    Calls Try.prog 7 #[.agg #[.int .i64 a0_0, .int .i64 a0_1, .slice A0_2 l0_2.length c0_2, u9000_, .int .i64 a0_4], .int .i64 a1] w fun e w' => ∃ v2_ v3_ : Value, e = .returned (.tuple #[.agg #[.int .i64 r1, .int .i64 r2, v2_, v3_, .int .i64 r5], .int .i64 r6, .bool r7]) ∧ Kd.V (Kd.slice 3 (Kd.int .i64)) 28 w' w0.heap.size (fun k_ => ((P0_3_ k_ ∨ P0_2_ k_) ∨ w.heap.size ≤ k_) ∧ some k_ ≠ (v3_ : Value).ownBlock) v2_ r3 ∧ Kd.R (Kd.int .i64) 3 w' w0.heap.size (fun k_ => (P0_3_ k_ ∨ w.heap.size ≤ k_)) v3_ r4 ∧ Below w0.heap.size w0 w' ∧ Kept w w' (fun k_ => P0_3_ k_) := by
  have hu30 := Try.underlying30
  have HO0_2 := Aside0.mk (show Kd.V (Kd.slice 3 (Kd.int .i64)) 28 w w0.heap.size (fun k_ => ((P0_3_ k_ ∨ P0_2_ k_) ∨ w.heap.size ≤ k_) ∧ some k_ ≠ (u9000_ : Value).ownBlock) (.slice A0_2 l0_2.length c0_2) l0_2 from Kd.V_mono hs0_2 (fun k_ hk => ⟨.inl (.inr hk.1), hk.2⟩))
  have HO0_3 := Aside0.mk (show Kd.R (Kd.int .i64) 3 w w0.heap.size (fun k_ => (P0_3_ k_ ∨ w.heap.size ≤ k_)) u9000_ l0_3 from Kd.R_mono ho0_3 (fun k_ hk => (.inl hk)))
  have HK := Aside0.mk (Kept.refl w (fun k_ => P0_3_ k_))
  have HW0 := Aside0.mk hB.size
  have HB := Aside0.mk hB
  clear hB
  have H : (if a1 < 0 then (handoffref05_Take.j0 k a1 true a0_0 a0_1 l0_2 l0_3 a0_4) else (handoffref05_Take.j0 k a1 (decide (a1 ≥ (l0_2.length : Int))) a0_0 a0_1 l0_2 l0_3 a0_4)) = some (r1, r2, r3, r4, r5, r6, r7) := h
  clear h
  have HC3 := Aside0.mk H
  clear H
  obtain ⟨Ao4, co4, eo4⟩ := Kd.R_slice HO0_3.out
  subst eo4
  go_enter Try.func7, Try.ntmps7
  go_upto_region 1 with (first | ((with_reducible refine gate_dst (N := 2) rfl ?_); (try (refine gate_guard (by rfl) ?_; dsimp only)); refine box_event ?hg (N := 2) ?hd (cs := #[.int .i64 a0_0, .int .i64 a0_1, .slice A0_2 l0_2.length c0_2, .slice Ao4 l0_3.length co4, .int .i64 a0_4]) (t := 30) ?hr ?_; (case hd => rfl); (case hg => rfl); (case hr => first | (go_simp; done) | (go_simp; rfl)); intro gb112 hg w5 hbox hb; have n0_ := Aside0.mk (Kd.R_below (by (with_reducible repeat (first | apply Kd.R_alloc | apply Kd.R_drewN | apply Kd.R_drew)); exact HO0_3.out) hb); have n1_ := Aside0.mk (Kd.V_below (Kd.V_elderB (by (with_reducible repeat (first | apply Kd.V_alloc | apply Kd.V_drewN | apply Kd.V_drew)); exact HO0_2.out) gb112 (Nat.le_of_eq hg.symm)) hb); have n2_ := Aside0.mk (Kept.below (S := (fun k_ => P0_3_ k_)) (by repeat (first | (with_reducible first | exact HK.out | apply Kept.alloc | apply Kept.drewN | apply Kept.drew) | exact HK.out)) hb); have n3_ := Aside0.mk (below_step (by repeat (first | (with_reducible first | exact HB.out | apply below_alloc | apply pw_below_drewN | apply below_drew1) | exact HB.out)) hb); have n4_ := Aside0.mk (hbox); have n5_ := Aside0.mk ((by rw [hg]; exact (by first | exact HK.out.1 | exact (show Kept w _ (fun k_ => P0_3_ k_) from by repeat (first | (with_reducible first | exact HK.out | apply Kept.alloc | apply Kept.drewN | apply Kept.drew) | exact HK.out)).1) : w.heap.size ≤ gb112)); have n6_ := Aside0.mk ((by rw [hg]; exact (below_size (by repeat (first | (with_reducible first | exact HB.out | apply below_alloc | apply pw_below_drewN | apply below_drew1) | exact HB.out))) : w0.heap.size ≤ gb112)); clear HO0_3; clear HO0_2; clear HK; clear HB; have HO0_3 := n0_; have HO0_2 := n1_; have HK := n2_; have HB := n3_; have BK112 := n4_; have GW112 := n5_; have GE112 := n6_; clear n0_ n1_ n2_ n3_ n4_ n5_ n6_; clear hb hbox hg) | ((with_reducible refine gate_dst (N := 4) rfl ?_); (try (refine gate_guard (by rfl) ?_; dsimp only)); refine box_event ?hg (N := 4) ?hd (cs := #[.int .i64 0, .int .i64 0, .slice none 0 0, .slice none 0 0, .int .i64 0]) (t := 30) ?hr ?_; (case hd => rfl); (case hg => rfl); (case hr => first | (go_simp; done) | (go_simp; rfl)); intro gb113 hg w6 hbox hb; have n0_ := Aside0.mk (Kd.R_below (by (with_reducible repeat (first | apply Kd.R_alloc | apply Kd.R_drewN | apply Kd.R_drew)); exact HO0_3.out) hb); have n1_ := Aside0.mk (Kd.V_below (Kd.V_elderB (by (with_reducible repeat (first | apply Kd.V_alloc | apply Kd.V_drewN | apply Kd.V_drew)); exact HO0_2.out) gb113 (Nat.le_of_eq hg.symm)) hb); have n2_ := Aside0.mk (blk_below (g := gb112) (o := .cells #[.int .i64 a0_0, .int .i64 a0_1, .slice A0_2 l0_2.length c0_2, .slice Ao4 l0_3.length co4, .int .i64 a0_4] 30 (0, 0)) (by (with_reducible repeat (first | refine blk_drewN ?_ _ | refine blk_drew ?_ | refine blk_alloc ?_ _)); exact BK112.out) hb); have n3_ := Aside0.mk (Kept.below (S := (fun k_ => P0_3_ k_)) (by repeat (first | (with_reducible first | exact HK.out | apply Kept.alloc | apply Kept.drewN | apply Kept.drew | refine Kept.setCell ?_ (.inr GW112.out) _) | exact HK.out)) hb); have n4_ := Aside0.mk (below_step (by repeat (first | (with_reducible first | exact HB.out | apply below_alloc | apply pw_below_drewN | apply below_drew1 | refine below_set ?_ GE112.out) | exact HB.out)) hb); have n5_ := Aside0.mk (hbox); have n6_ := Aside0.mk ((by rw [hg]; exact (by first | exact HK.out.1 | exact (show Kept w _ (fun k_ => P0_3_ k_) from by repeat (first | (with_reducible first | exact HK.out | apply Kept.alloc | apply Kept.drewN | apply Kept.drew | refine Kept.setCell ?_ (.inr GW112.out) _) | exact HK.out)).1) : w.heap.size ≤ gb113)); have n7_ := Aside0.mk ((by rw [hg]; exact (below_size (by repeat (first | (with_reducible first | exact HB.out | apply below_alloc | apply pw_below_drewN | apply below_drew1 | refine below_set ?_ GE112.out) | exact HB.out))) : w0.heap.size ≤ gb113)); have n8_ := Aside0.mk ((by rw [hg]; exact Nat.ne_of_lt (blk_lt (g := gb112) (o := .cells #[.int .i64 a0_0, .int .i64 a0_1, .slice A0_2 l0_2.length c0_2, .slice Ao4 l0_3.length co4, .int .i64 a0_4] 30 (0, 0)) (by (with_reducible repeat (first | refine blk_drewN ?_ _ | refine blk_drew ?_ | refine blk_alloc ?_ _)); exact BK112.out)) : gb112 ≠ gb113)); have n9_ := Aside0.mk ((by rw [hg]; exact Nat.ne_of_gt (blk_lt (g := gb112) (o := .cells #[.int .i64 a0_0, .int .i64 a0_1, .slice A0_2 l0_2.length c0_2, .slice Ao4 l0_3.length co4, .int .i64 a0_4] 30 (0, 0)) (by (with_reducible repeat (first | refine blk_drewN ?_ _ | refine blk_drew ?_ | refine blk_alloc ?_ _)); exact BK112.out)) : gb113 ≠ gb112)); clear HO0_3; clear HO0_2; clear BK112; clear HK; clear HB; have HO0_3 := n0_; have HO0_2 := n1_; have BK112 := n2_; have HK := n3_; have HB := n4_; have BK113 := n5_; have GW113 := n6_; have GE113 := n7_; have NB112_113 := n8_; have NB113_112 := n9_; clear n0_ n1_ n2_ n3_ n4_ n5_ n6_ n7_ n8_ n9_; clear hb hbox hg))
  (try simp only [Act.put, List.setIfInBounds_toArray, List.set_cons_zero, List.set_cons_succ])
  go_cut [18] (fun v18 wc => ∃ (kq : Nat) (x18_2 : Bool), v18 = .bool x18_2 ∧ Aside0 (handoffref05_Take.j0 kq a1 x18_2 a0_0 a0_1 l0_2 l0_3 a0_4 = some (r1, r2, r3, r4, r5, r6, r7)) ∧ Aside0 (kq ≤ k) ∧ Aside0 (Kd.V (Kd.slice 3 (Kd.int .i64)) 28 wc w0.heap.size (fun k_ => ((P0_3_ k_ ∨ P0_2_ k_) ∨ w.heap.size ≤ k_) ∧ some k_ ≠ ((.slice Ao4 l0_3.length co4) : Value).ownBlock ∧ k_ ≠ gb112 ∧ k_ ≠ gb113) (.slice A0_2 l0_2.length c0_2) l0_2) ∧ Aside0 (Kd.R (Kd.int .i64) 3 wc w0.heap.size (fun k_ => (P0_3_ k_ ∨ w.heap.size ≤ k_)) (.slice Ao4 l0_3.length co4) l0_3) ∧ Aside0 (wc.heap[gb112]? = some (.cells #[.int .i64 a0_0, .int .i64 a0_1, (.slice A0_2 l0_2.length c0_2), (.slice Ao4 l0_3.length co4), .int .i64 a0_4] 30 (0, 0))) ∧ Aside0 (wc.heap[gb113]? = some (.cells #[.int .i64 0, .int .i64 0, (.slice none 0 0), (.slice none 0 0), .int .i64 0] 30 (0, 0))) ∧ Aside0 (Kept w wc (fun k_ => P0_3_ k_)) ∧ Aside0 (Below w0.heap.size w0 wc))
  case first =>
    have H := HC3.out
    clear HC3
    by_cases c7 : a1 < 0
    · rw [if_pos c7] at H
      have c7b0 : decide (a1 < 0) = true := decide_eq_true c7
      clear c7
      (first | rw [c7b0] | (simp only [i64_w, i32_w]; rw [c7b0]) | skip)
      have H' := Aside0.mk H
      clear H
      go_wp2
      go_meet
      case rel => exact ⟨_, (true), (by first | rfl | (simp; done) | (simp [*]; done)), H', ⟨by first | omega | exact Nat.le_refl _⟩, ⟨by (with_reducible repeat (first | apply Kd.V_alloc | apply Kd.V_drewN | apply Kd.V_drew)); exact Kd.V_mono HO0_2.out (fun _ hk => ⟨hk.1.1.1, ⟨hk.1.1.2, ⟨hk.1.2, hk.2⟩⟩⟩)⟩, ⟨by (with_reducible repeat (first | apply Kd.R_alloc | apply Kd.R_drewN | apply Kd.R_drew)); exact HO0_3.out⟩, ⟨by (with_reducible repeat (first | refine blk_drewN ?_ _ | refine blk_drew ?_ | refine blk_alloc ?_ _)); exact BK112.out⟩, ⟨by (with_reducible repeat (first | refine blk_drewN ?_ _ | refine blk_drew ?_ | refine blk_alloc ?_ _)); exact BK113.out⟩, ⟨by repeat (first | (with_reducible first | exact HK.out | apply Kept.alloc | apply Kept.drewN | apply Kept.drew | refine Kept.setCell ?_ (.inr GW112.out) _ | refine Kept.setCell ?_ (.inr GW113.out) _) | exact HK.out)⟩, ⟨by repeat (first | (with_reducible first | exact HB.out | apply below_alloc | apply pw_below_drewN | apply below_drew1 | refine below_set ?_ GE112.out | refine below_set ?_ GE113.out) | exact HB.out)⟩⟩
    · rw [if_neg c7] at H
      have c7b0 : decide (a1 < 0) = false := decide_eq_false c7
      clear c7
      (first | rw [c7b0] | (simp only [i64_w, i32_w]; rw [c7b0]) | skip)
      have H' := Aside0.mk H
      clear H
      have hnb8 := NB112_113.out
      have hnc8 := NB113_112.out
      have hcz9_0 : w6.cell? ⟨gb112, 0, none⟩ = some (.int .i64 a0_0) := (blk_cell BK112.out 0).trans rfl
      have hcz9_1 : w6.cell? ⟨gb112, 1, none⟩ = some (.int .i64 a0_1) := (blk_cell BK112.out 1).trans rfl
      have hcz9_2 : w6.cell? ⟨gb112, 2, none⟩ = some (.slice A0_2 l0_2.length c0_2) := (blk_cell BK112.out 2).trans rfl
      have hcz9_3 : w6.cell? ⟨gb112, 3, none⟩ = some (.slice Ao4 l0_3.length co4) := (blk_cell BK112.out 3).trans rfl
      have hcz9_4 : w6.cell? ⟨gb112, 4, none⟩ = some (.int .i64 a0_4) := (blk_cell BK112.out 4).trans rfl
      have hfz9_0 := blk_frozen BK112.out 0
      have hfz9_1 := blk_frozen BK112.out 1
      have hfz9_2 := blk_frozen BK112.out 2
      have hfz9_3 := blk_frozen BK112.out 3
      have hfz9_4 := blk_frozen BK112.out 4
      go_wp2
      go_meet
      case rel => exact ⟨_, (decide (a1 ≥ (l0_2.length : Int))), (by first | rfl | (simp; done) | (simp [*]; done)), H', ⟨by first | omega | exact Nat.le_refl _⟩, ⟨by (with_reducible repeat (first | apply Kd.V_alloc | apply Kd.V_drewN | apply Kd.V_drew)); exact Kd.V_mono HO0_2.out (fun _ hk => ⟨hk.1.1.1, ⟨hk.1.1.2, ⟨hk.1.2, hk.2⟩⟩⟩)⟩, ⟨by (with_reducible repeat (first | apply Kd.R_alloc | apply Kd.R_drewN | apply Kd.R_drew)); exact HO0_3.out⟩, ⟨by (with_reducible repeat (first | refine blk_drewN ?_ _ | refine blk_drew ?_ | refine blk_alloc ?_ _)); exact BK112.out⟩, ⟨by (with_reducible repeat (first | refine blk_drewN ?_ _ | refine blk_drew ?_ | refine blk_alloc ?_ _)); exact BK113.out⟩, ⟨by repeat (first | (with_reducible first | exact HK.out | apply Kept.alloc | apply Kept.drewN | apply Kept.drew | refine Kept.setCell ?_ (.inr GW112.out) _ | refine Kept.setCell ?_ (.inr GW113.out) _) | exact HK.out)⟩, ⟨by repeat (first | (with_reducible first | exact HB.out | apply below_alloc | apply pw_below_drewN | apply below_drew1 | refine below_set ?_ GE112.out | refine below_set ?_ GE113.out) | exact HB.out)⟩⟩
  case rest =>
    clear HC3
    try clear p2
    try clear c7
    try clear c7b0
    try clear c8
    try clear hcz9_0
    try clear hcz9_1
    try clear hcz9_2
    try clear hcz9_3
    try clear hcz9_4
    try clear hfz9_0
    try clear hfz9_1
    try clear hfz9_2
    try clear hfz9_3
    try clear hfz9_4
    obtain ⟨kq, x18_2, rfl, HA, HJ2, HO_113002, HO_113003, BK112, BK113, HK, HB⟩ := hcut
    cases kq with
    | zero => exact absurd HA.out (by simp [handoffref05_Take.j0])
    | succ kj2 =>
      have H := HA.out
      clear HA
      simp only [handoffref05_Take.j0] at H
      by_cases c10 : x18_2 = true
      · subst c10
        have H1 : (some (a0_0, a0_1, l0_2, l0_3, a0_4, 0, false)) = some (r1, r2, r3, r4, r5, r6, r7) := by rw [if_pos rfl] at H; exact H
        clear H
        have H := H1
        clear H1
        simp only [Option.some.injEq, Prod.mk.injEq] at H
        obtain ⟨rfl, rfl, rfl, rfl, rfl, rfl, rfl⟩ := H
        have hnb11 := NB112_113.out
        have hnc11 := NB113_112.out
        have hcz12_0 : wc.cell? ⟨gb112, 0, none⟩ = some (.int .i64 a0_0) := (blk_cell BK112.out 0).trans rfl
        have hcz12_1 : wc.cell? ⟨gb112, 1, none⟩ = some (.int .i64 a0_1) := (blk_cell BK112.out 1).trans rfl
        have hcz12_2 : wc.cell? ⟨gb112, 2, none⟩ = some (.slice A0_2 l0_2.length c0_2) := (blk_cell BK112.out 2).trans rfl
        have hcz12_3 : wc.cell? ⟨gb112, 3, none⟩ = some (.slice Ao4 l0_3.length co4) := (blk_cell BK112.out 3).trans rfl
        have hcz12_4 : wc.cell? ⟨gb112, 4, none⟩ = some (.int .i64 a0_4) := (blk_cell BK112.out 4).trans rfl
        have hfz12_0 := blk_frozen BK112.out 0
        have hfz12_1 := blk_frozen BK112.out 1
        have hfz12_2 := blk_frozen BK112.out 2
        have hfz12_3 := blk_frozen BK112.out 3
        have hfz12_4 := blk_frozen BK112.out 4
        have hcz13_0 : wc.cell? ⟨gb113, 0, none⟩ = some (.int .i64 0) := (blk_cell BK113.out 0).trans rfl
        have hcz13_1 : wc.cell? ⟨gb113, 1, none⟩ = some (.int .i64 0) := (blk_cell BK113.out 1).trans rfl
        have hcz13_2 : wc.cell? ⟨gb113, 2, none⟩ = some (.slice none 0 0) := (blk_cell BK113.out 2).trans rfl
        have hcz13_3 : wc.cell? ⟨gb113, 3, none⟩ = some (.slice none 0 0) := (blk_cell BK113.out 3).trans rfl
        have hcz13_4 : wc.cell? ⟨gb113, 4, none⟩ = some (.int .i64 0) := (blk_cell BK113.out 4).trans rfl
        have hfz13_0 := blk_frozen BK113.out 0
        have hfz13_1 := blk_frozen BK113.out 1
        have hfz13_2 := blk_frozen BK113.out 2
        have hfz13_3 := blk_frozen BK113.out 3
        have hfz13_4 := blk_frozen BK113.out 4
        go_wp2
        refine bodyPost_ret (results_ctt rfl _ _ gb113 30 #[.int .i64 a0_0, .int .i64 a0_1, .slice A0_2 l0_2.length c0_2, .slice Ao4 l0_3.length co4, .int .i64 a0_4] (0, 0) _ rfl (by (with_reducible repeat (first | refine blk_drewN ?_ _ | refine blk_drew ?_ | refine blk_alloc ?_ _)); refine blk_put (cs := #[.int .i64 a0_0, .int .i64 a0_1, .slice A0_2 l0_2.length c0_2, .slice Ao4 l0_3.length co4, .int .i64 0]) ?_ 4 _ rfl; (with_reducible repeat (first | refine blk_drewN ?_ _ | refine blk_drew ?_ | refine blk_alloc ?_ _)); refine blk_put (cs := #[.int .i64 a0_0, .int .i64 a0_1, .slice A0_2 l0_2.length c0_2, .slice none 0 0, .int .i64 0]) ?_ 3 _ rfl; (with_reducible repeat (first | refine blk_drewN ?_ _ | refine blk_drew ?_ | refine blk_alloc ?_ _)); refine blk_put (cs := #[.int .i64 a0_0, .int .i64 a0_1, .slice none 0 0, .slice none 0 0, .int .i64 0]) ?_ 2 _ rfl; (with_reducible repeat (first | refine blk_drewN ?_ _ | refine blk_drew ?_ | refine blk_alloc ?_ _)); refine blk_put (cs := #[.int .i64 a0_0, .int .i64 0, .slice none 0 0, .slice none 0 0, .int .i64 0]) ?_ 1 _ rfl; (with_reducible repeat (first | refine blk_drewN ?_ _ | refine blk_drew ?_ | refine blk_alloc ?_ _)); refine blk_put (cs := #[.int .i64 0, .int .i64 0, .slice none 0 0, .slice none 0 0, .int .i64 0]) ?_ 0 _ rfl; (with_reducible repeat (first | refine blk_drewN ?_ _ | refine blk_drew ?_ | refine blk_alloc ?_ _)); exact BK113.out) Try.underlying30 rfl (by kernel_rfl)) rfl ?_
        exact ⟨_, _, by first | rfl | (simp [errW_none, errW_some] <;> rfl) | (simp [*, errW_none, errW_some] <;> rfl), by (with_reducible repeat (first | apply Kd.V_alloc | apply Kd.V_drewN | apply Kd.V_drew)); exact Kd.V_mono (Kd.V_far (p := ⟨gb113, 4, none⟩) (Kd.V_far (p := ⟨gb113, 3, none⟩) (Kd.V_far (p := ⟨gb113, 2, none⟩) (Kd.V_far (p := ⟨gb113, 1, none⟩) (Kd.V_far (p := ⟨gb113, 0, none⟩) (Kd.V_mono HO_113002.out (fun k_ hk => (⟨hk, hk.2.2.2⟩ : _ ∧ k_ ≠ gb113))) (fun _ hk => hk.2) (.int .i64 a0_0)) (fun _ hk => hk.2) (.int .i64 a0_1)) (fun _ hk => hk.2) (.slice A0_2 l0_2.length c0_2)) (fun _ hk => hk.2) (.slice Ao4 l0_3.length co4)) (fun _ hk => hk.2) (.int .i64 a0_4)) (fun _ hk => ⟨hk.1.1, hk.1.2.1⟩), by (with_reducible repeat (first | apply Kd.R_alloc | apply Kd.R_drewN | apply Kd.R_drew)); exact Kd.R_mono (Kd.R_far (p := ⟨gb113, 4, none⟩) (Kd.R_far (p := ⟨gb113, 3, none⟩) (Kd.R_far (p := ⟨gb113, 2, none⟩) (Kd.R_far (p := ⟨gb113, 1, none⟩) (Kd.R_far (p := ⟨gb113, 0, none⟩) (Kd.R_types HO_113003.out BK113.out (by decide)) (fun _ hk => hk.2) (.int .i64 a0_0)) (fun _ hk => hk.2) (.int .i64 a0_1)) (fun _ hk => hk.2) (.slice A0_2 l0_2.length c0_2)) (fun _ hk => hk.2) (.slice Ao4 l0_3.length co4)) (fun _ hk => hk.2) (.int .i64 a0_4)) (fun _ hk => hk.1), by repeat (first | (with_reducible first | exact HB.out | apply below_alloc | apply pw_below_drewN | apply below_drew1 | refine below_set ?_ GE112.out | refine below_set ?_ GE113.out) | exact HB.out), by repeat (first | (with_reducible first | exact HK.out | apply Kept.alloc | apply Kept.drewN | apply Kept.drew | refine Kept.setCell ?_ (.inr GW112.out) _ | refine Kept.setCell ?_ (.inr GW113.out) _) | exact HK.out)⟩
      · replace c10 := Bool.eq_false_iff.mpr c10
        subst c10
        have H1 : ((some (([] : List Int) : List Int)).bind fun y114 => (if 0 ≤ a1 then (if a1 < (l0_2.length : Int) then (if y114.length + (rd_L1 l0_2 a1).length < 17592186044416 then ((some (y114 ++ (rd_L1 l0_2 a1) : List Int)).bind fun y118 => ((some (([] : List Int) : List Int)).bind fun y121 => (if y121.length + l0_3.length < 17592186044416 then ((some (y121 ++ l0_3 : List Int)).bind fun y124 => (if (y118.length : Int) = 0 then (handoffref05_Take.l0 kj2 a1 y118 y124 a0_0 a0_1 l0_2 l0_3 a0_4) else (handoffref05_Take.j2 kj2 a1 y118 y124 a0_0 a0_1 l0_2 l0_3 a0_4))) else (none)))) else (none)) else (none)) else (none))) = some (r1, r2, r3, r4, r5, r6, r7) := by rw [if_neg (show ¬ (false = true) by decide)] at H; exact H
        clear H
        have H := H1
        clear H1
        obtain ⟨y114, hy114⟩ : ∃ y_ : List Int, y_ = (([] : List Int)) := ⟨_, rfl⟩
        replace H : (if 0 ≤ a1 then (if a1 < (l0_2.length : Int) then (if y114.length + (rd_L1 l0_2 a1).length < 17592186044416 then ((some (y114 ++ (rd_L1 l0_2 a1) : List Int)).bind fun y118 => ((some (([] : List Int) : List Int)).bind fun y121 => (if y121.length + l0_3.length < 17592186044416 then ((some (y121 ++ l0_3 : List Int)).bind fun y124 => (if (y118.length : Int) = 0 then (handoffref05_Take.l0 kj2 a1 y118 y124 a0_0 a0_1 l0_2 l0_3 a0_4) else (handoffref05_Take.j2 kj2 a1 y118 y124 a0_0 a0_1 l0_2 l0_3 a0_4))) else (none)))) else (none)) else (none)) else (none)) = some (r1, r2, r3, r4, r5, r6, r7) := by first | (rw [hy114]; with_reducible exact H) | (have H2_ := (Option.bind_some _ _).symm.trans H; rw [hy114]; with_reducible exact H2_) | (have H2_ := (Option.bind_some _ _).symm.trans H; with_reducible exact H2_) | with_reducible exact H | (rw [hy114]; exact H) | exact H
        have Ny114 := Aside0.mk hy114
        clear hy114
        by_cases c14 : 0 ≤ a1
        · rw [if_pos c14] at H
          have c14b0 : decide (0 ≤ a1) = true := decide_eq_true c14
          clear c14
          by_cases c15 : a1 < (l0_2.length : Int)
          · rw [if_pos c15] at H
            have c15b0 : decide (a1 < (l0_2.length : Int)) = true := decide_eq_true c15
            clear c15
            by_cases c16 : y114.length + (rd_L1 l0_2 a1).length < 17592186044416
            · rw [if_pos c16] at H
              have LMc16 := Aside0.mk c16
              clear c16
              obtain ⟨y118, hy118⟩ : ∃ y_ : List Int, y_ = (y114 ++ (rd_L1 l0_2 a1)) := ⟨_, rfl⟩
              replace H : ((some (([] : List Int) : List Int)).bind fun y121 => (if y121.length + l0_3.length < 17592186044416 then ((some (y121 ++ l0_3 : List Int)).bind fun y124 => (if (y118.length : Int) = 0 then (handoffref05_Take.l0 kj2 a1 y118 y124 a0_0 a0_1 l0_2 l0_3 a0_4) else (handoffref05_Take.j2 kj2 a1 y118 y124 a0_0 a0_1 l0_2 l0_3 a0_4))) else (none))) = some (r1, r2, r3, r4, r5, r6, r7) := by first | (rw [hy118]; with_reducible exact H) | (have H2_ := (Option.bind_some _ _).symm.trans H; rw [hy118]; with_reducible exact H2_) | (have H2_ := (Option.bind_some _ _).symm.trans H; with_reducible exact H2_) | with_reducible exact H | (rw [hy118]; exact H) | exact H
              have Ny118 := Aside0.mk hy118
              clear hy118
              obtain ⟨y121, hy121⟩ : ∃ y_ : List Int, y_ = (([] : List Int)) := ⟨_, rfl⟩
              replace H : (if y121.length + l0_3.length < 17592186044416 then ((some (y121 ++ l0_3 : List Int)).bind fun y124 => (if (y118.length : Int) = 0 then (handoffref05_Take.l0 kj2 a1 y118 y124 a0_0 a0_1 l0_2 l0_3 a0_4) else (handoffref05_Take.j2 kj2 a1 y118 y124 a0_0 a0_1 l0_2 l0_3 a0_4))) else (none)) = some (r1, r2, r3, r4, r5, r6, r7) := by first | (rw [hy121]; with_reducible exact H) | (have H2_ := (Option.bind_some _ _).symm.trans H; rw [hy121]; with_reducible exact H2_) | (have H2_ := (Option.bind_some _ _).symm.trans H; with_reducible exact H2_) | with_reducible exact H | (rw [hy121]; exact H) | exact H
              have Ny121 := Aside0.mk hy121
              clear hy121
              by_cases c17 : y121.length + l0_3.length < 17592186044416
              · rw [if_pos c17] at H
                have LMc17 := Aside0.mk c17
                clear c17
                obtain ⟨y124, hy124⟩ : ∃ y_ : List Int, y_ = (y121 ++ l0_3) := ⟨_, rfl⟩
                replace H : (if (y118.length : Int) = 0 then (handoffref05_Take.l0 kj2 a1 y118 y124 a0_0 a0_1 l0_2 l0_3 a0_4) else (handoffref05_Take.j2 kj2 a1 y118 y124 a0_0 a0_1 l0_2 l0_3 a0_4)) = some (r1, r2, r3, r4, r5, r6, r7) := by first | (rw [hy124]; with_reducible exact H) | (have H2_ := (Option.bind_some _ _).symm.trans H; rw [hy124]; with_reducible exact H2_) | (have H2_ := (Option.bind_some _ _).symm.trans H; with_reducible exact H2_) | with_reducible exact H | (rw [hy124]; exact H) | exact H
                have Ny124 := Aside0.mk hy124
                clear hy124
                have HC18 := Aside0.mk H
                clear H
                go_upto_if 33 with (first | ((with_reducible refine gate_dst (N := 20) rfl ?_); (try (refine gate_guard (by rfl) ?_; dsimp only)); refine Kd.R_lit (Kd.int .i64) _ 3 ?hg (N := 20) ?hd (xs := ([] : List Int)) (inner := []) (ok := fun _ => True) (okp := fun _ => True) ?hr ?hp (fun _ hk => hk) trivial (Below.refl _ _) (Nat.le_refl _) (by simp) ?_; (case hd => rfl); (case hg => rfl); (case hr => first | (go_simp; done) | (go_simp; rfl)); (case hp => exact (Reps.none _ _)); intro v115 w19 ho20 hb hg_ hnew_; clear hg_ hnew_; (first | rw [← Ny114.out] at ho20 | (simp only [Int.reduceToNat] at ho20; rw [← Ny114.out] at ho20)); have n0_ := Aside0.mk (Kd.V_elder' (by (with_reducible repeat (first | apply Kd.V_alloc | apply Kd.V_drewN | apply Kd.V_drew)); exact HO_113002.out) (Kd.R_base ho20) hb); have n1_ := Aside0.mk (Kd.R_elder' (by (with_reducible repeat (first | apply Kd.R_alloc | apply Kd.R_drewN | apply Kd.R_drew)); exact HO_113003.out) (Kd.R_base ho20) hb); have n2_ := Aside0.mk (Kd.R_lower (Kd.R_new' (Kd.R_newM (M := fun k_ => (P0_3_ k_ ∨ w.heap.size ≤ k_)) ho20 (by first | exact HK.out.1 | exact (show Kept w _ (fun k_ => P0_3_ k_) from by repeat (first | (with_reducible first | exact HK.out | apply Kept.alloc | apply Kept.drewN | apply Kept.drew | refine Kept.setCell ?_ (.inr GW112.out) _ | refine Kept.setCell ?_ (.inr GW113.out) _) | exact HK.out)).1) (fun k_ h_ => .inr h_)) (Kd.R_lt (by (with_reducible repeat (first | apply Kd.R_alloc | apply Kd.R_drewN | apply Kd.R_drew)); exact HO_113003.out))) (below_size (by repeat (first | (with_reducible first | exact HB.out | apply below_alloc | apply pw_below_drewN | apply below_drew1 | refine below_set ?_ GE112.out | refine below_set ?_ GE113.out) | exact HB.out)))); have n3_ := Aside0.mk (blk_below (g := gb112) (o := .cells #[.int .i64 a0_0, .int .i64 a0_1, .slice A0_2 l0_2.length c0_2, .slice Ao4 l0_3.length co4, .int .i64 a0_4] 30 (0, 0)) (by (with_reducible repeat (first | refine blk_drewN ?_ _ | refine blk_drew ?_ | refine blk_alloc ?_ _)); exact BK112.out) hb); have n4_ := Aside0.mk (blk_below (g := gb113) (o := .cells #[.int .i64 0, .int .i64 0, .slice none 0 0, .slice none 0 0, .int .i64 0] 30 (0, 0)) (by (with_reducible repeat (first | refine blk_drewN ?_ _ | refine blk_drew ?_ | refine blk_alloc ?_ _)); exact BK113.out) hb); have n5_ := Aside0.mk (Kept.below (S := (fun k_ => P0_3_ k_)) (by repeat (first | (with_reducible first | exact HK.out | apply Kept.alloc | apply Kept.drewN | apply Kept.drew | refine Kept.setCell ?_ (.inr GW112.out) _ | refine Kept.setCell ?_ (.inr GW113.out) _) | exact HK.out)) hb); have n6_ := Aside0.mk (below_step (by repeat (first | (with_reducible first | exact HB.out | apply below_alloc | apply pw_below_drewN | apply below_drew1 | refine below_set ?_ GE112.out | refine below_set ?_ GE113.out) | exact HB.out)) hb); clear HO_113002; clear HO_113003; clear BK112; clear BK113; clear HK; clear HB; have HO_113002 := n0_; have HO_113003 := n1_; have HO116 := n2_; have BK112 := n3_; have BK113 := n4_; have HK := n5_; have HB := n6_; clear n0_ n1_ n2_ n3_ n4_ n5_ n6_; clear hb ho20; have hnb21 := NB112_113.out; have hnc21 := NB113_112.out; have hcz22_0 : w19.cell? ⟨gb112, 0, none⟩ = some (.int .i64 a0_0) := (blk_cell BK112.out 0).trans rfl; have hcz22_1 : w19.cell? ⟨gb112, 1, none⟩ = some (.int .i64 a0_1) := (blk_cell BK112.out 1).trans rfl; have hcz22_2 : w19.cell? ⟨gb112, 2, none⟩ = some (.slice A0_2 l0_2.length c0_2) := (blk_cell BK112.out 2).trans rfl; have hcz22_3 : w19.cell? ⟨gb112, 3, none⟩ = some (.slice Ao4 l0_3.length co4) := (blk_cell BK112.out 3).trans rfl; have hcz22_4 : w19.cell? ⟨gb112, 4, none⟩ = some (.int .i64 a0_4) := (blk_cell BK112.out 4).trans rfl; have hfz22_0 := blk_frozen BK112.out 0; have hfz22_1 := blk_frozen BK112.out 1; have hfz22_2 := blk_frozen BK112.out 2; have hfz22_3 := blk_frozen BK112.out 3; have hfz22_4 := blk_frozen BK112.out 4; have p117 : 0 ≤ (a1 : Int) := of_decide_eq_true (by first | (with_reducible assumption) | assumption); have q117 : a1 < (l0_2.length : Int) := of_decide_eq_true (by first | (with_reducible assumption) | assumption); obtain ⟨ad117, A117_0, c117_0, e117, hx117_0, hl117_0, hi117_0⟩ := at_L1 (Kd.V_reads' HO_113002.out).2.2 a1 p117 q117; cases e117; obtain ⟨ce117, hce117, hMe117, hcc117⟩ := Kd.V_get HO_113002.out [] a1 p117 (by first | exact q117 | exact of_decide_eq_true (by first | (with_reducible assumption) | assumption) | (have e_ := (Kd.V_reads' HO_113002.out).1; omega)); obtain ⟨ua117_0, uc117_0, rfl, ul117_0, ge117_0⟩ := Kd.FK_slice_open hMe117; have hv117_0 := hcc117 0 _ rfl; rw [Nat.add_zero, show ((Kd.slice 3 (Kd.int .i64))).sz = 1 from rfl, Nat.mul_one] at hv117_0; replace hv117_0 := Option.some.inj (hv117_0.symm.trans hx117_0); injection hv117_0 with hva_ hvn_ hvc_; rw [hva_] at ge117_0; rw [hvc_] at ul117_0; have HL117_0 := Aside0.mk (show Kd.V (Kd.int .i64) 3 _ w0.heap.size _ _ (rd_L1 l0_2 a1) from Kd.V_mk ul117_0 ge117_0); clear hva_ hvn_ hvc_ ge117_0 ul117_0; clear hcc117 hce117; have HR117_0 := Aside0.mk hi117_0; have HC117_0 := Aside0.mk hl117_0; clear hi117_0 hl117_0; replace p117 := eq_true p117; replace q117 := eq_true q117) | ((with_reducible refine gate_builtin (b := .append) (xs := #[.tmp 20, .tmp 25]) rfl ?_); (try (refine gate_guard (by rfl) ?_; dsimp only)); at_builtin; refine Kd.R_append_rows (Kd.int .i64) (w0 := w0) w0.heap.size rfl (.tmp 20) (.tmp 25) 28 3 (.int .i64 0) 8 rfl Try.underlying28 info3 rfl (by decide) (by omega) v115 y114 (rd_L1 l0_2 a1) _ _ _ (fun k_ => (P0_3_ k_ ∨ w.heap.size ≤ k_) ∧ some k_ ≠ (.slice Ao4 l0_3.length co4 : Value).ownBlock) (fun _ => False) rfl rfl ?aO ?aR (fun _ _ h => h) (fun _ h => h.elim) ?aF ?aB ?aS ?aL ?_; (case aR => repeat (first | exact (by repeat (first | (with_reducible exact HR117_0.out) | (with_reducible refine Kd.C_alloc ?_ _) | (with_reducible refine Kd.C_drewN ?_ _) | (with_reducible refine Kd.C_drew ?_) | exact HR117_0.out)) | (with_reducible refine Kd.C_alloc ?_ _) | (with_reducible refine Kd.C_drewN ?_ _) | (with_reducible refine Kd.C_drew ?_))); (case aB => exact (by repeat (first | (with_reducible first | exact HB.out | apply below_alloc | apply pw_below_drewN | apply below_drew1 | refine below_set ?_ GE112.out | refine below_set ?_ GE113.out) | exact HB.out))); (case aF => exact (fun k_ hk => ⟨(.inr (Nat.le_trans (by first | exact HK.out.1 | exact (show Kept w _ (fun k_ => P0_3_ k_) from by repeat (first | (with_reducible first | exact HK.out | apply Kept.alloc | apply Kept.drewN | apply Kept.drew | refine Kept.setCell ?_ (.inr GW112.out) _ | refine Kept.setCell ?_ (.inr GW113.out) _) | exact HK.out)).1) hk)), Kd.fresh' (Kd.R_lt (by (with_reducible repeat (first | apply Kd.R_alloc | apply Kd.R_drewN | apply Kd.R_drew)); exact HO_113003.out)) k_ hk⟩)); (case aO => exact (by (with_reducible repeat (first | apply Kd.R_alloc | apply Kd.R_drewN | apply Kd.R_drew)); exact Kd.R_mono HO116.out (fun _ hk => ⟨hk.1.1, hk.2⟩))); (case aS => exact (below_size (by repeat (first | (with_reducible first | exact HB.out | apply below_alloc | apply pw_below_drewN | apply below_drew1 | refine below_set ?_ GE112.out | refine below_set ?_ GE113.out) | exact HB.out)))); (case aL => have := LMc16.out; omega); intro v119 w23 ho hb hg hat; rw [← Ny118.out] at ho; have n0_ := Aside0.mk (Kd.V_afterv (ok := (fun k_ => ((P0_3_ k_ ∨ P0_2_ k_) ∨ w.heap.size ≤ k_) ∧ some k_ ≠ (.slice Ao4 l0_3.length co4 : Value).ownBlock ∧ k_ ≠ gb112 ∧ k_ ≠ gb113)) (by (with_reducible repeat (first | apply Kd.V_alloc | apply Kd.V_drewN | apply Kd.V_drew)); exact HO_113002.out) hg hat); have n1_ := Aside0.mk (Kd.R_after (ok := (fun k_ => (P0_3_ k_ ∨ w.heap.size ≤ k_))) (by (with_reducible repeat (first | apply Kd.R_alloc | apply Kd.R_drewN | apply Kd.R_drew)); exact HO_113003.out) hg hat); have n2_ := Aside0.mk (blk_grown (g := gb112) (o := .cells #[.int .i64 a0_0, .int .i64 a0_1, .slice (some ad117) l0_2.length c0_2, .slice Ao4 l0_3.length co4, .int .i64 a0_4] 30 (0, 0)) (by (with_reducible repeat (first | refine blk_drewN ?_ _ | refine blk_drew ?_ | refine blk_alloc ?_ _)); exact BK112.out) hg (Kd.R_ne HO116.out BK112.out (by decide))); have n3_ := Aside0.mk (blk_grown (g := gb113) (o := .cells #[.int .i64 0, .int .i64 0, .slice none 0 0, .slice none 0 0, .int .i64 0] 30 (0, 0)) (by (with_reducible repeat (first | refine blk_drewN ?_ _ | refine blk_drew ?_ | refine blk_alloc ?_ _)); exact BK113.out) hg (Kd.R_ne HO116.out BK113.out (by decide))); have n4_ := Aside0.mk (Kd.V_afterv (ok := (fun k_ => ((P0_3_ k_ ∨ P0_2_ k_) ∨ w.heap.size ≤ k_) ∧ some k_ ≠ (.slice Ao4 l0_3.length co4 : Value).ownBlock ∧ k_ ≠ gb112 ∧ k_ ≠ gb113)) (by (with_reducible repeat (first | apply Kd.V_alloc | apply Kd.V_drewN | apply Kd.V_drew)); exact HL117_0.out) hg hat); have n5_ := Aside0.mk (hb); have n6_ := Aside0.mk (Kept.of_grown (S := (fun k_ => P0_3_ k_)) hg (by repeat (first | (with_reducible first | exact HK.out | apply Kept.alloc | apply Kept.drewN | apply Kept.drew | refine Kept.setCell ?_ (.inr GW112.out) _ | refine Kept.setCell ?_ (.inr GW113.out) _) | exact HK.out)) (fun k_ e_ => (HO116.out.1 k_ e_).1.1)); have n7_ := Aside0.mk (ho); clear HO_113002; clear HO_113003; clear BK112; clear BK113; clear HL117_0; clear HB; clear HK; clear HO116; have HO_113002 := n0_; have HO_113003 := n1_; have BK112 := n2_; have BK113 := n3_; have HL117_0 := n4_; have HB := n5_; have HK := n6_; have HO120 := n7_; clear n0_ n1_ n2_ n3_ n4_ n5_ n6_ n7_; clear ho hb hg hat) | ((with_reducible refine gate_dst (N := 27) rfl ?_); (try (refine gate_guard (by rfl) ?_; dsimp only)); refine Kd.R_lit (Kd.int .i64) _ 3 ?hg (N := 27) ?hd (xs := ([] : List Int)) (inner := []) (ok := fun _ => True) (okp := fun _ => True) ?hr ?hp (fun _ hk => hk) trivial (Below.refl _ _) (Nat.le_refl _) (by simp) ?_; (case hd => rfl); (case hg => rfl); (case hr => first | (go_simp; done) | (go_simp; rfl)); (case hp => exact (Reps.none _ _)); intro v122 w24 ho25 hb hg_ hnew_; clear hg_ hnew_; (first | rw [← Ny121.out] at ho25 | (simp only [Int.reduceToNat] at ho25; rw [← Ny121.out] at ho25)); have n0_ := Aside0.mk (Kd.V_elder' (by (with_reducible repeat (first | apply Kd.V_alloc | apply Kd.V_drewN | apply Kd.V_drew)); exact HO_113002.out) (Kd.R_base ho25) hb); have n1_ := Aside0.mk (Kd.R_elder' (by (with_reducible repeat (first | apply Kd.R_alloc | apply Kd.R_drewN | apply Kd.R_drew)); exact HO_113003.out) (Kd.R_base ho25) hb); have n2_ := Aside0.mk (Kd.V_elder' (by (with_reducible repeat (first | apply Kd.V_alloc | apply Kd.V_drewN | apply Kd.V_drew)); exact HL117_0.out) (Kd.R_base ho25) hb); have n3_ := Aside0.mk (Kd.R_elder' (by (with_reducible repeat (first | apply Kd.R_alloc | apply Kd.R_drewN | apply Kd.R_drew)); exact HO120.out) (Kd.R_base ho25) hb); have n4_ := Aside0.mk (Kd.R_lower (Kd.R_new' (Kd.R_new' (Kd.R_newM (M := fun k_ => (P0_3_ k_ ∨ w.heap.size ≤ k_)) ho25 (by first | exact HK.out.1 | exact (show Kept w _ (fun k_ => P0_3_ k_) from by repeat (first | (with_reducible first | exact HK.out | apply Kept.alloc | apply Kept.drewN | apply Kept.drew | refine Kept.setCell ?_ (.inr GW112.out) _ | refine Kept.setCell ?_ (.inr GW113.out) _) | exact HK.out)).1) (fun k_ h_ => .inr h_)) (Kd.R_lt (by (with_reducible repeat (first | apply Kd.R_alloc | apply Kd.R_drewN | apply Kd.R_drew)); exact HO_113003.out))) (Kd.R_lt (by (with_reducible repeat (first | apply Kd.R_alloc | apply Kd.R_drewN | apply Kd.R_drew)); exact HO120.out))) (below_size (by repeat (first | (with_reducible first | exact HB.out | apply below_alloc | apply pw_below_drewN | apply below_drew1 | refine below_set ?_ GE112.out | refine below_set ?_ GE113.out) | exact HB.out)))); have n5_ := Aside0.mk (blk_below (g := gb112) (o := .cells #[.int .i64 a0_0, .int .i64 a0_1, .slice (some ad117) l0_2.length c0_2, .slice Ao4 l0_3.length co4, .int .i64 a0_4] 30 (0, 0)) (by (with_reducible repeat (first | refine blk_drewN ?_ _ | refine blk_drew ?_ | refine blk_alloc ?_ _)); exact BK112.out) hb); have n6_ := Aside0.mk (blk_below (g := gb113) (o := .cells #[.int .i64 0, .int .i64 0, .slice none 0 0, .slice none 0 0, .int .i64 0] 30 (0, 0)) (by (with_reducible repeat (first | refine blk_drewN ?_ _ | refine blk_drew ?_ | refine blk_alloc ?_ _)); exact BK113.out) hb); have n7_ := Aside0.mk (Kept.below (S := (fun k_ => P0_3_ k_)) (by repeat (first | (with_reducible first | exact HK.out | apply Kept.alloc | apply Kept.drewN | apply Kept.drew | refine Kept.setCell ?_ (.inr GW112.out) _ | refine Kept.setCell ?_ (.inr GW113.out) _) | exact HK.out)) hb); have n8_ := Aside0.mk (below_step (by repeat (first | (with_reducible first | exact HB.out | apply below_alloc | apply pw_below_drewN | apply below_drew1 | refine below_set ?_ GE112.out | refine below_set ?_ GE113.out) | exact HB.out)) hb); clear HO_113002; clear HO_113003; clear HL117_0; clear HO120; clear BK112; clear BK113; clear HK; clear HB; have HO_113002 := n0_; have HO_113003 := n1_; have HL117_0 := n2_; have HO120 := n3_; have HO123 := n4_; have BK112 := n5_; have BK113 := n6_; have HK := n7_; have HB := n8_; clear n0_ n1_ n2_ n3_ n4_ n5_ n6_ n7_ n8_; clear hb ho25; have hcz26_0 : w24.cell? ⟨gb112, 0, none⟩ = some (.int .i64 a0_0) := (blk_cell BK112.out 0).trans rfl; have hcz26_1 : w24.cell? ⟨gb112, 1, none⟩ = some (.int .i64 a0_1) := (blk_cell BK112.out 1).trans rfl; have hcz26_2 : w24.cell? ⟨gb112, 2, none⟩ = some (.slice (some ad117) l0_2.length c0_2) := (blk_cell BK112.out 2).trans rfl; have hcz26_3 : w24.cell? ⟨gb112, 3, none⟩ = some (.slice Ao4 l0_3.length co4) := (blk_cell BK112.out 3).trans rfl; have hcz26_4 : w24.cell? ⟨gb112, 4, none⟩ = some (.int .i64 a0_4) := (blk_cell BK112.out 4).trans rfl; have hfz26_0 := blk_frozen BK112.out 0; have hfz26_1 := blk_frozen BK112.out 1; have hfz26_2 := blk_frozen BK112.out 2; have hfz26_3 := blk_frozen BK112.out 3; have hfz26_4 := blk_frozen BK112.out 4) | ((with_reducible refine gate_builtin (b := .append) (xs := #[.tmp 27, .tmp 29]) rfl ?_); (try (refine gate_guard (by rfl) ?_; dsimp only)); at_builtin; refine Kd.R_append_rows (Kd.int .i64) (w0 := w0) w0.heap.size rfl (.tmp 27) (.tmp 29) 28 3 (.int .i64 0) 8 rfl Try.underlying28 info3 rfl (by decide) (by omega) v122 y121 l0_3 _ _ _ (fun k_ => (P0_3_ k_ ∨ w.heap.size ≤ k_) ∧ some k_ ≠ (.slice Ao4 l0_3.length co4 : Value).ownBlock ∧ some k_ ≠ (v119 : Value).ownBlock) (fun _ => False) rfl rfl ?aO ?aR (fun _ _ h => h) (fun _ h => h.elim) ?aF ?aB ?aS ?aL ?_; (case aR => repeat (first | exact (Kd.R_reads' HO_113003.out).2.2 | (with_reducible refine Kd.C_alloc ?_ _) | (with_reducible refine Kd.C_drewN ?_ _) | (with_reducible refine Kd.C_drew ?_))); (case aB => exact (by repeat (first | (with_reducible first | exact HB.out | apply below_alloc | apply pw_below_drewN | apply below_drew1 | refine below_set ?_ GE112.out | refine below_set ?_ GE113.out) | exact HB.out))); (case aF => exact (fun k_ hk => ⟨(.inr (Nat.le_trans (by first | exact HK.out.1 | exact (show Kept w _ (fun k_ => P0_3_ k_) from by repeat (first | (with_reducible first | exact HK.out | apply Kept.alloc | apply Kept.drewN | apply Kept.drew | refine Kept.setCell ?_ (.inr GW112.out) _ | refine Kept.setCell ?_ (.inr GW113.out) _) | exact HK.out)).1) hk)), Kd.fresh' (Kd.R_lt (by (with_reducible repeat (first | apply Kd.R_alloc | apply Kd.R_drewN | apply Kd.R_drew)); exact HO_113003.out)) k_ hk, Kd.fresh' (Kd.R_lt (by (with_reducible repeat (first | apply Kd.R_alloc | apply Kd.R_drewN | apply Kd.R_drew)); exact HO120.out)) k_ hk⟩)); (case aO => exact (by (with_reducible repeat (first | apply Kd.R_alloc | apply Kd.R_drewN | apply Kd.R_drew)); exact Kd.R_mono HO123.out (fun _ hk => ⟨hk.1.1.1, ⟨hk.1.2, hk.2⟩⟩))); (case aS => exact (below_size (by repeat (first | (with_reducible first | exact HB.out | apply below_alloc | apply pw_below_drewN | apply below_drew1 | refine below_set ?_ GE112.out | refine below_set ?_ GE113.out) | exact HB.out)))); (case aL => have := LMc17.out; omega); intro v125 w27 ho hb hg hat; rw [← Ny124.out] at ho; have n0_ := Aside0.mk (Kd.V_afterv (ok := (fun k_ => ((P0_3_ k_ ∨ P0_2_ k_) ∨ w.heap.size ≤ k_) ∧ some k_ ≠ (.slice Ao4 l0_3.length co4 : Value).ownBlock ∧ some k_ ≠ (v119 : Value).ownBlock ∧ k_ ≠ gb112 ∧ k_ ≠ gb113)) (by (with_reducible repeat (first | apply Kd.V_alloc | apply Kd.V_drewN | apply Kd.V_drew)); exact Kd.V_mono HO_113002.out (fun _ hk => ⟨⟨hk.1.1.1, ⟨hk.1.1.2.1, ⟨hk.1.2, ⟨hk.1.1.2.2.1, hk.1.1.2.2.2⟩⟩⟩⟩, hk.2⟩)) hg hat); have n1_ := Aside0.mk (Kd.R_after (ok := (fun k_ => (P0_3_ k_ ∨ w.heap.size ≤ k_) ∧ some k_ ≠ (v119 : Value).ownBlock)) (by (with_reducible repeat (first | apply Kd.R_alloc | apply Kd.R_drewN | apply Kd.R_drew)); exact HO_113003.out) hg hat); have n2_ := Aside0.mk (blk_grown (g := gb112) (o := .cells #[.int .i64 a0_0, .int .i64 a0_1, .slice (some ad117) l0_2.length c0_2, .slice Ao4 l0_3.length co4, .int .i64 a0_4] 30 (0, 0)) (by (with_reducible repeat (first | refine blk_drewN ?_ _ | refine blk_drew ?_ | refine blk_alloc ?_ _)); exact BK112.out) hg (Kd.R_ne HO123.out BK112.out (by decide))); have n3_ := Aside0.mk (blk_grown (g := gb113) (o := .cells #[.int .i64 0, .int .i64 0, .slice none 0 0, .slice none 0 0, .int .i64 0] 30 (0, 0)) (by (with_reducible repeat (first | refine blk_drewN ?_ _ | refine blk_drew ?_ | refine blk_alloc ?_ _)); exact BK113.out) hg (Kd.R_ne HO123.out BK113.out (by decide))); have n4_ := Aside0.mk (Kd.V_afterv (ok := (fun k_ => ((P0_3_ k_ ∨ P0_2_ k_) ∨ w.heap.size ≤ k_) ∧ some k_ ≠ (.slice Ao4 l0_3.length co4 : Value).ownBlock ∧ some k_ ≠ (v119 : Value).ownBlock ∧ k_ ≠ gb112 ∧ k_ ≠ gb113)) (by (with_reducible repeat (first | apply Kd.V_alloc | apply Kd.V_drewN | apply Kd.V_drew)); exact Kd.V_mono HL117_0.out (fun _ hk => ⟨⟨hk.1.1.1, ⟨hk.1.1.2.1, ⟨hk.1.2, ⟨hk.1.1.2.2.1, hk.1.1.2.2.2⟩⟩⟩⟩, hk.2⟩)) hg hat); have n5_ := Aside0.mk (Kd.R_after (ok := (fun k_ => (P0_3_ k_ ∨ w.heap.size ≤ k_) ∧ some k_ ≠ (.slice Ao4 l0_3.length co4 : Value).ownBlock)) (by (with_reducible repeat (first | apply Kd.R_alloc | apply Kd.R_drewN | apply Kd.R_drew)); exact HO120.out) hg hat); have n6_ := Aside0.mk (hb); have n7_ := Aside0.mk (Kept.of_grown (S := (fun k_ => P0_3_ k_)) hg (by repeat (first | (with_reducible first | exact HK.out | apply Kept.alloc | apply Kept.drewN | apply Kept.drew | refine Kept.setCell ?_ (.inr GW112.out) _ | refine Kept.setCell ?_ (.inr GW113.out) _) | exact HK.out)) (fun k_ e_ => (HO123.out.1 k_ e_).1.1.1)); have n8_ := Aside0.mk (ho); clear HO_113002; clear HO_113003; clear BK112; clear BK113; clear HL117_0; clear HO120; clear HB; clear HK; clear HO123; have HO_113002 := n0_; have HO_113003 := n1_; have BK112 := n2_; have BK113 := n3_; have HL117_0 := n4_; have HO120 := n5_; have HB := n6_; have HK := n7_; have HO126 := n8_; clear n0_ n1_ n2_ n3_ n4_ n5_ n6_ n7_ n8_; clear ho hb hg hat; obtain ⟨Ao28, co28, eo28⟩ := Kd.R_slice HO120.out; subst eo28))
                (try simp only [Act.put, List.setIfInBounds_toArray, List.set_cons_zero, List.set_cons_succ])
                go_cut [7, 8, 33] (fun v7 v8 _ wc => ∃ (kq : Nat) (x7_17 : List Int) (x8_17 : List Int), Aside0 (handoffref05_Take.j2 kq a1 x7_17 x8_17 a0_0 a0_1 l0_2 l0_3 a0_4 = some (r1, r2, r3, r4, r5, r6, r7)) ∧ Aside0 (kq ≤ kj2) ∧ Aside0 (Kd.R (Kd.int .i64) 3 wc w0.heap.size (fun k_ => (P0_3_ k_ ∨ w.heap.size ≤ k_) ∧ some k_ ≠ (v8 : Value).ownBlock ∧ some k_ ≠ ((.slice Ao4 l0_3.length co4) : Value).ownBlock) v7 x7_17) ∧ Aside0 (Kd.R (Kd.int .i64) 3 wc w0.heap.size (fun k_ => (P0_3_ k_ ∨ w.heap.size ≤ k_) ∧ some k_ ≠ (v7 : Value).ownBlock ∧ some k_ ≠ ((.slice Ao4 l0_3.length co4) : Value).ownBlock) v8 x8_17) ∧ Aside0 (Kd.V (Kd.slice 3 (Kd.int .i64)) 28 wc w0.heap.size (fun k_ => ((P0_3_ k_ ∨ P0_2_ k_) ∨ w.heap.size ≤ k_) ∧ some k_ ≠ (v7 : Value).ownBlock ∧ some k_ ≠ (v8 : Value).ownBlock ∧ some k_ ≠ ((.slice Ao4 l0_3.length co4) : Value).ownBlock ∧ k_ ≠ gb112 ∧ k_ ≠ gb113) (.slice (some ad117) l0_2.length c0_2) l0_2) ∧ Aside0 (Kd.R (Kd.int .i64) 3 wc w0.heap.size (fun k_ => (P0_3_ k_ ∨ w.heap.size ≤ k_) ∧ some k_ ≠ (v7 : Value).ownBlock ∧ some k_ ≠ (v8 : Value).ownBlock) (.slice Ao4 l0_3.length co4) l0_3) ∧ Aside0 (wc.heap[gb112]? = some (.cells #[.int .i64 a0_0, .int .i64 a0_1, (.slice (some ad117) l0_2.length c0_2), (.slice Ao4 l0_3.length co4), .int .i64 a0_4] 30 (0, 0))) ∧ Aside0 (wc.heap[gb113]? = some (.cells #[.int .i64 0, .int .i64 0, (.slice none 0 0), (.slice none 0 0), .int .i64 0] 30 (0, 0))) ∧ Aside0 (Kept w wc (fun k_ => P0_3_ k_)) ∧ Aside0 (Below w0.heap.size w0 wc))
                case first =>
                  have H := HC18.out
                  clear HC18
                  by_cases c29 : (y118.length : Int) = 0
                  · rw [if_pos c29] at H
                    have c29b0 : ((y118.length : Int) == 0) = true := beq_iff_eq.mpr c29
                    have c29b1 : ((y118.length : Int) != 0) = false := bne_eq_false_iff_eq.mpr c29
                    clear c29
                    (first | rw [c29b0] | (simp only [i64_w, i32_w]; rw [c29b0]) | skip)
                    have H' := Aside0.mk H
                    clear H
                    go_wp2
                    go_loopg [7, 8] kj2 (fun kq v7 v8 w' => ∃ (x7_2 : List Int) (x8_2 : List Int), Aside0 (handoffref05_Take.l0 kq a1 x7_2 x8_2 a0_0 a0_1 l0_2 l0_3 a0_4 = some (r1, r2, r3, r4, r5, r6, r7)) ∧ Aside0 (kq ≤ kj2) ∧ Aside0 (Kd.R (Kd.int .i64) 3 w' w0.heap.size (fun k_ => (P0_3_ k_ ∨ w.heap.size ≤ k_) ∧ some k_ ≠ (v8 : Value).ownBlock ∧ some k_ ≠ ((.slice Ao4 l0_3.length co4) : Value).ownBlock) v7 x7_2) ∧ Aside0 (Kd.R (Kd.int .i64) 3 w' w0.heap.size (fun k_ => (P0_3_ k_ ∨ w.heap.size ≤ k_) ∧ some k_ ≠ (v7 : Value).ownBlock ∧ some k_ ≠ ((.slice Ao4 l0_3.length co4) : Value).ownBlock) v8 x8_2) ∧ Aside0 (Kd.V (Kd.slice 3 (Kd.int .i64)) 28 w' w0.heap.size (fun k_ => ((P0_3_ k_ ∨ P0_2_ k_) ∨ w.heap.size ≤ k_) ∧ some k_ ≠ (v7 : Value).ownBlock ∧ some k_ ≠ (v8 : Value).ownBlock ∧ some k_ ≠ ((.slice Ao4 l0_3.length co4) : Value).ownBlock ∧ k_ ≠ gb112 ∧ k_ ≠ gb113) (.slice (some ad117) l0_2.length c0_2) l0_2) ∧ Aside0 (Kd.R (Kd.int .i64) 3 w' w0.heap.size (fun k_ => (P0_3_ k_ ∨ w.heap.size ≤ k_) ∧ some k_ ≠ (v7 : Value).ownBlock ∧ some k_ ≠ (v8 : Value).ownBlock) (.slice Ao4 l0_3.length co4) l0_3) ∧ Aside0 (w'.heap[gb112]? = some (.cells #[.int .i64 a0_0, .int .i64 a0_1, (.slice (some ad117) l0_2.length c0_2), (.slice Ao4 l0_3.length co4), .int .i64 a0_4] 30 (0, 0))) ∧ Aside0 (w'.heap[gb113]? = some (.cells #[.int .i64 0, .int .i64 0, (.slice none 0 0), (.slice none 0 0), .int .i64 0] 30 (0, 0))) ∧ Aside0 (Kept w w' (fun k_ => P0_3_ k_)) ∧ Aside0 (Below w0.heap.size w0 w'))
                    case atStart => exact ⟨(y118), (y124), H', ⟨Nat.le_refl _⟩, ⟨by (with_reducible repeat (first | apply Kd.R_alloc | apply Kd.R_drewN | apply Kd.R_drew)); exact Kd.R_mono HO120.out (fun _ hk => ⟨hk.1.1, ⟨hk.2, hk.1.2⟩⟩)⟩, ⟨by (with_reducible repeat (first | apply Kd.R_alloc | apply Kd.R_drewN | apply Kd.R_drew)); exact Kd.R_mono HO126.out (fun _ hk => ⟨hk.1, ⟨hk.2.2, hk.2.1⟩⟩)⟩, ⟨by (with_reducible repeat (first | apply Kd.V_alloc | apply Kd.V_drewN | apply Kd.V_drew)); exact Kd.V_mono HO_113002.out (fun _ hk => ⟨hk.1.1, ⟨hk.1.2.2.1, ⟨hk.2, ⟨hk.1.2.1, ⟨hk.1.2.2.2.1, hk.1.2.2.2.2⟩⟩⟩⟩⟩)⟩, ⟨by (with_reducible repeat (first | apply Kd.R_alloc | apply Kd.R_drewN | apply Kd.R_drew)); exact Kd.R_mono HO_113003.out (fun _ hk => ⟨hk.1.1, ⟨hk.1.2, hk.2⟩⟩)⟩, ⟨by (with_reducible repeat (first | refine blk_drewN ?_ _ | refine blk_drew ?_ | refine blk_alloc ?_ _)); exact BK112.out⟩, ⟨by (with_reducible repeat (first | refine blk_drewN ?_ _ | refine blk_drew ?_ | refine blk_alloc ?_ _)); exact BK113.out⟩, ⟨by repeat (first | (with_reducible first | exact HK.out | apply Kept.alloc | apply Kept.drewN | apply Kept.drew | refine Kept.setCell ?_ (.inr GW112.out) _ | refine Kept.setCell ?_ (.inr GW113.out) _) | exact HK.out)⟩, ⟨by repeat (first | (with_reducible first | exact HB.out | apply below_alloc | apply pw_below_drewN | apply below_drew1 | refine below_set ?_ GE112.out | refine below_set ?_ GE113.out) | exact HB.out)⟩⟩
                    case round =>
                      clear H'
                      try clear c1
                      try clear p1
                      try clear q1
                      try clear hx1
                      try clear c2
                      try clear p2
                      try clear c7
                      try clear c7b0
                      try clear c8
                      try clear c10
                      try clear c11
                      try clear p11
                      try clear q11
                      try clear hx11
                      try clear c14
                      try clear c14b0
                      try clear c15
                      try clear c15b0
                      try clear c16
                      try clear c17
                      try clear c21
                      try clear c29
                      try clear c29b0
                      try clear c29b1
                      try clear hcz12_0
                      try clear hcz12_1
                      try clear hcz12_2
                      try clear hcz12_3
                      try clear hcz12_4
                      try clear hcz13_0
                      try clear hcz13_1
                      try clear hcz13_2
                      try clear hcz13_3
                      try clear hcz13_4
                      try clear hcz22_0
                      try clear hcz22_1
                      try clear hcz22_2
                      try clear hcz22_3
                      try clear hcz22_4
                      try clear hcz26_0
                      try clear hcz26_1
                      try clear hcz26_2
                      try clear hcz26_3
                      try clear hcz26_4
                      try clear hcz9_0
                      try clear hcz9_1
                      try clear hcz9_2
                      try clear hcz9_3
                      try clear hcz9_4
                      try clear hfz12_0
                      try clear hfz12_1
                      try clear hfz12_2
                      try clear hfz12_3
                      try clear hfz12_4
                      try clear hfz13_0
                      try clear hfz13_1
                      try clear hfz13_2
                      try clear hfz13_3
                      try clear hfz13_4
                      try clear hfz22_0
                      try clear hfz22_1
                      try clear hfz22_2
                      try clear hfz22_3
                      try clear hfz22_4
                      try clear hfz26_0
                      try clear hfz26_1
                      try clear hfz26_2
                      try clear hfz26_3
                      try clear hfz26_4
                      try clear hfz9_0
                      try clear hfz9_1
                      try clear hfz9_2
                      try clear hfz9_3
                      try clear hfz9_4
                      try clear hx117_0
                      try clear p117
                      try clear p2
                      try clear q117
                      obtain ⟨x7_2, x8_2, HA, HK2, HO_7, HO_8, HO_113002, HO_113003, BK112, BK113, HK, HB⟩ := hrel
                      cases gk with
                      | zero => exact absurd HA.out (by simp [handoffref05_Take.l0])
                      | succ k2 =>
                        have H := HA.out
                        clear HA
                        simp only [handoffref05_Take.l0] at H
                        by_cases c30 : (x8_2.length : Int) > 0
                        · rw [if_pos c30] at H
                          have c30b0 : decide (0 < (x8_2.length : Int)) = true := decide_eq_true c30
                          have c30b1 : decide (0 < x8_2.length) = true := decide_eq_true (by omega)
                          clear c30
                          by_cases c31 : (x7_2.length : Int) < (wrap64 (Int.tdiv a0_1 2))
                          · rw [if_pos c31] at H
                            have c31b0 : decide ((x7_2.length : Int) < (wrap64 (Int.tdiv a0_1 2))) = true := decide_eq_true c31
                            clear c31
                            obtain ⟨ji32, hji32⟩ : ∃ j_ : Int, (wrap64 ((x8_2.length : Int) - 1)) = j_ := ⟨_, rfl⟩
                            replace H : (if 0 ≤ (ji32) then (if (ji32) < (x8_2.length : Int) then (if x7_2.length < 17592186044416 then (if (ji32) ≤ (x8_2.length : Int) then (handoffref05_Take.l0 k2 a1 (x7_2 ++ [rd x8_2 (ji32)]) (x8_2.take ((ji32) : Int).toNat) a0_0 a0_1 l0_2 l0_3 a0_4) else (none)) else (none)) else (none)) else (none)) = some (r1, r2, r3, r4, r5, r6, r7) := by first | (rw [hji32] at H; exact H) | (simp only [hji32] at H ⊢; exact H)
                            have hji32w : (IntKind.i64.wrap ((x8_2.length : Int) - 1)) = ji32 := (i64_w _).trans hji32
                            by_cases c33 : 0 ≤ (ji32)
                            · rw [if_pos c33] at H
                              have c33b0 : decide (0 ≤ (ji32)) = true := decide_eq_true c33
                              clear c33
                              by_cases c34 : (ji32) < (x8_2.length : Int)
                              · rw [if_pos c34] at H
                                have c34b0 : decide ((ji32) < (x8_2.length : Int)) = true := decide_eq_true c34
                                clear c34
                                by_cases c35 : x7_2.length < 17592186044416
                                · rw [if_pos c35] at H
                                  have LMc35 := Aside0.mk c35
                                  clear c35
                                  obtain ⟨y128, hy128⟩ : ∃ y_ : List Int, y_ = (x7_2 ++ [rd x8_2 (ji32)]) := ⟨_, rfl⟩
                                  replace H : (if (ji32) ≤ (x8_2.length : Int) then (handoffref05_Take.l0 k2 a1 y128 (x8_2.take ((ji32) : Int).toNat) a0_0 a0_1 l0_2 l0_3 a0_4) else (none)) = some (r1, r2, r3, r4, r5, r6, r7) := by first | (rw [hy128]; with_reducible exact H) | (have H2_ := (Option.bind_some _ _).symm.trans H; rw [hy128]; with_reducible exact H2_) | (have H2_ := (Option.bind_some _ _).symm.trans H; with_reducible exact H2_) | with_reducible exact H | (rw [hy128]; exact H) | exact H
                                  have Ny128 := Aside0.mk hy128
                                  clear hy128
                                  by_cases c36 : (ji32) ≤ (x8_2.length : Int)
                                  · rw [if_pos c36] at H
                                    have c36b0 := eq_true c36
                                    have c36b1 : decide ((ji32) ≤ (x8_2.length : Int)) = true := decide_eq_true c36
                                    clear c36
                                    obtain ⟨y131, hy131⟩ : ∃ y_ : List Int, y_ = (x8_2.take ((ji32) : Int).toNat) := ⟨_, rfl⟩
                                    replace H : (handoffref05_Take.l0 k2 a1 y128 y131 a0_0 a0_1 l0_2 l0_3 a0_4) = some (r1, r2, r3, r4, r5, r6, r7) := by first | (rw [hy131]; with_reducible exact H) | (have H2_ := (Option.bind_some _ _).symm.trans H; rw [hy131]; with_reducible exact H2_) | (have H2_ := (Option.bind_some _ _).symm.trans H; with_reducible exact H2_) | with_reducible exact H | (rw [hy131]; exact H) | exact H
                                    have Ny131 := Aside0.mk hy131
                                    clear hy131
                                    have H' := Aside0.mk H
                                    clear H
                                    obtain ⟨Ao37, co37, eo37⟩ := Kd.R_slice HO_8.out
                                    subst eo37
                                    obtain ⟨Ao38, co38, eo38⟩ := Kd.R_slice HO_7.out
                                    subst eo38
                                    have hnb39 := NB112_113.out
                                    have hnc39 := NB113_112.out
                                    have hcz40_0 : wr.cell? ⟨gb112, 0, none⟩ = some (.int .i64 a0_0) := (blk_cell BK112.out 0).trans rfl
                                    have hcz40_1 : wr.cell? ⟨gb112, 1, none⟩ = some (.int .i64 a0_1) := (blk_cell BK112.out 1).trans rfl
                                    have hcz40_2 : wr.cell? ⟨gb112, 2, none⟩ = some (.slice (some ad117) l0_2.length c0_2) := (blk_cell BK112.out 2).trans rfl
                                    have hcz40_3 : wr.cell? ⟨gb112, 3, none⟩ = some (.slice Ao4 l0_3.length co4) := (blk_cell BK112.out 3).trans rfl
                                    have hcz40_4 : wr.cell? ⟨gb112, 4, none⟩ = some (.int .i64 a0_4) := (blk_cell BK112.out 4).trans rfl
                                    have hfz40_0 := blk_frozen BK112.out 0
                                    have hfz40_1 := blk_frozen BK112.out 1
                                    have hfz40_2 := blk_frozen BK112.out 2
                                    have hfz40_3 := blk_frozen BK112.out 3
                                    have hfz40_4 := blk_frozen BK112.out 4
                                    have p127 : 0 ≤ ((ji32) : Int) := of_decide_eq_true (by first | (with_reducible assumption) | assumption)
                                    have q127 : (ji32) < (x8_2.length : Int) := of_decide_eq_true (by first | (with_reducible assumption) | assumption)
                                    obtain ⟨ad127, e127, hx127_0⟩ := Kd.at_int (Kd.R_reads' HO_8.out).2.2 (ji32) p127 q127
                                    cases e127
                                    replace p127 := eq_true p127
                                    replace q127 := eq_true q127
                                    go_wp2_with (first | ((with_reducible refine gate_builtin (b := .append) (xs := #[.tmp 50, .tmp 57]) rfl ?_); (try (refine gate_guard (by rfl) ?_; dsimp only)); at_builtin; refine Kd.R_append (Kd.int .i64) (w0 := w0) w0.heap.size rfl (.tmp 50) (.tmp 57) 28 3 (.int .i64 0) 8 rfl Try.underlying28 info3 rfl (by decide) (by omega) (.slice Ao38 x7_2.length co38) x7_2 (rd x8_2 (ji32)) [.int .i64 (rd x8_2 (ji32))] (fun k_ => (P0_3_ k_ ∨ w.heap.size ≤ k_) ∧ some k_ ≠ (.slice (some ad127) x8_2.length co37 : Value).ownBlock ∧ some k_ ≠ (.slice Ao4 l0_3.length co4 : Value).ownBlock) (fun _ => False) rfl rfl ?aP (fun _ hk => hk.elim) ?aF ?aO ?aB ?aS ?aL ?_; (case aP => exact rfl); (case aB => exact (by repeat (first | (with_reducible first | exact HB.out | apply below_alloc | apply pw_below_drewN | apply below_drew1 | refine below_set ?_ GE112.out | refine below_set ?_ GE113.out) | exact HB.out))); (case aF => exact (fun k_ hk => ⟨(.inr (Nat.le_trans (by first | exact HK.out.1 | exact (show Kept w _ (fun k_ => P0_3_ k_) from by repeat (first | (with_reducible first | exact HK.out | apply Kept.alloc | apply Kept.drewN | apply Kept.drew | refine Kept.setCell ?_ (.inr GW112.out) _ | refine Kept.setCell ?_ (.inr GW113.out) _) | exact HK.out)).1) hk)), Kd.fresh' (Kd.R_lt (by (with_reducible repeat (first | apply Kd.R_alloc | apply Kd.R_drewN | apply Kd.R_drew)); exact HO_8.out)) k_ hk, Kd.fresh' (Kd.R_lt (by (with_reducible repeat (first | apply Kd.R_alloc | apply Kd.R_drewN | apply Kd.R_drew)); exact HO_113003.out)) k_ hk⟩)); (case aO => exact (by (with_reducible repeat (first | apply Kd.R_alloc | apply Kd.R_drewN | apply Kd.R_drew)); exact HO_7.out)); (case aS => exact (below_size (by repeat (first | (with_reducible first | exact HB.out | apply below_alloc | apply pw_below_drewN | apply below_drew1 | refine below_set ?_ GE112.out | refine below_set ?_ GE113.out) | exact HB.out)))); (case aL => have := LMc35.out; omega); intro v129 w41 ho hb hg hat; rw [← Ny128.out] at ho; have n0_ := Aside0.mk (Kd.R_after (ok := (fun k_ => (P0_3_ k_ ∨ w.heap.size ≤ k_) ∧ some k_ ≠ (.slice Ao4 l0_3.length co4 : Value).ownBlock)) (by (with_reducible repeat (first | apply Kd.R_alloc | apply Kd.R_drewN | apply Kd.R_drew)); exact Kd.R_mono HO_8.out (fun _ hk => ⟨⟨hk.1, hk.2.2⟩, hk.2.1⟩)) hg hat); have n1_ := Aside0.mk (Kd.V_afterv (ok := (fun k_ => ((P0_3_ k_ ∨ P0_2_ k_) ∨ w.heap.size ≤ k_) ∧ some k_ ≠ (.slice (some ad127) x8_2.length co37 : Value).ownBlock ∧ some k_ ≠ (.slice Ao4 l0_3.length co4 : Value).ownBlock ∧ k_ ≠ gb112 ∧ k_ ≠ gb113)) (by (with_reducible repeat (first | apply Kd.V_alloc | apply Kd.V_drewN | apply Kd.V_drew)); exact Kd.V_mono HO_113002.out (fun _ hk => ⟨⟨hk.1, ⟨hk.2.2.1, ⟨hk.2.2.2.1, ⟨hk.2.2.2.2.1, hk.2.2.2.2.2⟩⟩⟩⟩, hk.2.1⟩)) hg hat); have n2_ := Aside0.mk (Kd.R_after (ok := (fun k_ => (P0_3_ k_ ∨ w.heap.size ≤ k_) ∧ some k_ ≠ (.slice (some ad127) x8_2.length co37 : Value).ownBlock)) (by (with_reducible repeat (first | apply Kd.R_alloc | apply Kd.R_drewN | apply Kd.R_drew)); exact Kd.R_mono HO_113003.out (fun _ hk => ⟨⟨hk.1, hk.2.2⟩, hk.2.1⟩)) hg hat); have n3_ := Aside0.mk (blk_grown (g := gb112) (o := .cells #[.int .i64 a0_0, .int .i64 a0_1, .slice (some ad117) l0_2.length c0_2, .slice Ao4 l0_3.length co4, .int .i64 a0_4] 30 (0, 0)) (by (with_reducible repeat (first | refine blk_drewN ?_ _ | refine blk_drew ?_ | refine blk_alloc ?_ _)); exact BK112.out) hg (Kd.R_ne HO_7.out BK112.out (by decide))); have n4_ := Aside0.mk (blk_grown (g := gb113) (o := .cells #[.int .i64 0, .int .i64 0, .slice none 0 0, .slice none 0 0, .int .i64 0] 30 (0, 0)) (by (with_reducible repeat (first | refine blk_drewN ?_ _ | refine blk_drew ?_ | refine blk_alloc ?_ _)); exact BK113.out) hg (Kd.R_ne HO_7.out BK113.out (by decide))); have n5_ := Aside0.mk (hb); have n6_ := Aside0.mk (Kept.of_grown (S := (fun k_ => P0_3_ k_)) hg (by repeat (first | (with_reducible first | exact HK.out | apply Kept.alloc | apply Kept.drewN | apply Kept.drew | refine Kept.setCell ?_ (.inr GW112.out) _ | refine Kept.setCell ?_ (.inr GW113.out) _) | exact HK.out)) (fun k_ e_ => (HO_7.out.1 k_ e_).1)); have n7_ := Aside0.mk (ho); clear HO_8; clear HO_113002; clear HO_113003; clear BK112; clear BK113; clear HB; clear HK; clear HO_7; have HO_8 := n0_; have HO_113002 := n1_; have HO_113003 := n2_; have BK112 := n3_; have BK113 := n4_; have HB := n5_; have HK := n6_; have HO130 := n7_; clear n0_ n1_ n2_ n3_ n4_ n5_ n6_ n7_; clear ho hb hg hat; have q42 : ((ji32) : Int) ≤ ((x8_2.length : Int) : Int) := of_decide_eq_true (by first | (with_reducible assumption) | assumption); obtain ⟨i042, hi042, _, hsz42, _⟩ := info_parts info3; have hcut42 := cut_to (P := Try.prog) 28 3 .i64 Try.underlying28 hi042 (some ad127) x8_2.length co37 (ji32) (of_decide_eq_true (by first | (with_reducible assumption) | assumption)) q42 (Kd.R_reads' HO_8.out).2.1; have hr42 := Kd.R_take (m := ((ji32) : Int).toNat) HO_8.out (by omega); have hy42 : y131.length = ((ji32) : Int).toNat := (by rw [Ny131.out, List.length_take]; omega); rw [← Ny131.out] at hr42; rw [← hy42] at hr42 hcut42; clear hy42 hi042 hsz42 HO_8; have HO133 := Aside0.mk hr42; clear hr42; replace q42 := eq_true q42))
                                    go_roundg k2
                                    case measure => have := HJ2.out; have := HK2.out; omega
                                    case rel => exact ⟨(y128), (y131), H', ⟨by have := HJ2.out; have := HK2.out; omega⟩, ⟨by (with_reducible repeat (first | apply Kd.R_alloc | apply Kd.R_drewN | apply Kd.R_drew)); exact HO130.out⟩, ⟨by (with_reducible repeat (first | apply Kd.R_alloc | apply Kd.R_drewN | apply Kd.R_drew)); exact Kd.R_mono HO133.out (fun _ hk => ⟨hk.1.1, ⟨hk.2, hk.1.2⟩⟩)⟩, ⟨by (with_reducible repeat (first | apply Kd.V_alloc | apply Kd.V_drewN | apply Kd.V_drew)); exact Kd.V_mono HO_113002.out (fun _ hk => ⟨hk.1.1, ⟨hk.2, ⟨hk.1.2.1, ⟨hk.1.2.2.1, ⟨hk.1.2.2.2.1, hk.1.2.2.2.2⟩⟩⟩⟩⟩)⟩, ⟨by (with_reducible repeat (first | apply Kd.R_alloc | apply Kd.R_drewN | apply Kd.R_drew)); exact Kd.R_mono HO_113003.out (fun _ hk => ⟨hk.1.1, ⟨hk.2, hk.1.2⟩⟩)⟩, ⟨by (with_reducible repeat (first | refine blk_drewN ?_ _ | refine blk_drew ?_ | refine blk_alloc ?_ _)); exact BK112.out⟩, ⟨by (with_reducible repeat (first | refine blk_drewN ?_ _ | refine blk_drew ?_ | refine blk_alloc ?_ _)); exact BK113.out⟩, ⟨by repeat (first | (with_reducible first | exact HK.out | apply Kept.alloc | apply Kept.drewN | apply Kept.drew | refine Kept.setCell ?_ (.inr GW112.out) _ | refine Kept.setCell ?_ (.inr GW113.out) _) | exact HK.out)⟩, ⟨by repeat (first | (with_reducible first | exact HB.out | apply below_alloc | apply pw_below_drewN | apply below_drew1 | refine below_set ?_ GE112.out | refine below_set ?_ GE113.out) | exact HB.out)⟩⟩
                                  · rw [if_neg c36] at H
                                    exact absurd H (by simp)
                                · rw [if_neg c35] at H
                                  exact absurd H (by simp)
                              · rw [if_neg c34] at H
                                exact absurd H (by simp)
                            · rw [if_neg c33] at H
                              exact absurd H (by simp)
                          · rw [if_neg c31] at H
                            have c31b0 : decide ((x7_2.length : Int) < (wrap64 (Int.tdiv a0_1 2))) = false := decide_eq_false c31
                            clear c31
                            by_cases c43 : (x7_2.length : Int) < 1
                            · rw [if_pos c43] at H
                              have c43b0 : decide ((x7_2.length : Int) < 1) = true := decide_eq_true c43
                              have c43b1 : decide (x7_2.length < 1) = true := decide_eq_true (by omega)
                              clear c43
                              obtain ⟨ji44, hji44⟩ : ∃ j_ : Int, (wrap64 ((x8_2.length : Int) - 1)) = j_ := ⟨_, rfl⟩
                              replace H : (if 0 ≤ (ji44) then (if (ji44) < (x8_2.length : Int) then (if x7_2.length < 17592186044416 then (if (ji44) ≤ (x8_2.length : Int) then (handoffref05_Take.l0 k2 a1 (x7_2 ++ [rd x8_2 (ji44)]) (x8_2.take ((ji44) : Int).toNat) a0_0 a0_1 l0_2 l0_3 a0_4) else (none)) else (none)) else (none)) else (none)) = some (r1, r2, r3, r4, r5, r6, r7) := by first | (rw [hji44] at H; exact H) | (simp only [hji44] at H ⊢; exact H)
                              have hji44w : (IntKind.i64.wrap ((x8_2.length : Int) - 1)) = ji44 := (i64_w _).trans hji44
                              by_cases c45 : 0 ≤ (ji44)
                              · rw [if_pos c45] at H
                                have c45b0 : decide (0 ≤ (ji44)) = true := decide_eq_true c45
                                clear c45
                                by_cases c46 : (ji44) < (x8_2.length : Int)
                                · rw [if_pos c46] at H
                                  have c46b0 : decide ((ji44) < (x8_2.length : Int)) = true := decide_eq_true c46
                                  clear c46
                                  by_cases c47 : x7_2.length < 17592186044416
                                  · rw [if_pos c47] at H
                                    have LMc47 := Aside0.mk c47
                                    clear c47
                                    obtain ⟨y135, hy135⟩ : ∃ y_ : List Int, y_ = (x7_2 ++ [rd x8_2 (ji44)]) := ⟨_, rfl⟩
                                    replace H : (if (ji44) ≤ (x8_2.length : Int) then (handoffref05_Take.l0 k2 a1 y135 (x8_2.take ((ji44) : Int).toNat) a0_0 a0_1 l0_2 l0_3 a0_4) else (none)) = some (r1, r2, r3, r4, r5, r6, r7) := by first | (rw [hy135]; with_reducible exact H) | (have H2_ := (Option.bind_some _ _).symm.trans H; rw [hy135]; with_reducible exact H2_) | (have H2_ := (Option.bind_some _ _).symm.trans H; with_reducible exact H2_) | with_reducible exact H | (rw [hy135]; exact H) | exact H
                                    have Ny135 := Aside0.mk hy135
                                    clear hy135
                                    by_cases c48 : (ji44) ≤ (x8_2.length : Int)
                                    · rw [if_pos c48] at H
                                      have c48b0 := eq_true c48
                                      have c48b1 : decide ((ji44) ≤ (x8_2.length : Int)) = true := decide_eq_true c48
                                      clear c48
                                      obtain ⟨y138, hy138⟩ : ∃ y_ : List Int, y_ = (x8_2.take ((ji44) : Int).toNat) := ⟨_, rfl⟩
                                      replace H : (handoffref05_Take.l0 k2 a1 y135 y138 a0_0 a0_1 l0_2 l0_3 a0_4) = some (r1, r2, r3, r4, r5, r6, r7) := by first | (rw [hy138]; with_reducible exact H) | (have H2_ := (Option.bind_some _ _).symm.trans H; rw [hy138]; with_reducible exact H2_) | (have H2_ := (Option.bind_some _ _).symm.trans H; with_reducible exact H2_) | with_reducible exact H | (rw [hy138]; exact H) | exact H
                                      have Ny138 := Aside0.mk hy138
                                      clear hy138
                                      have H' := Aside0.mk H
                                      clear H
                                      obtain ⟨Ao49, co49, eo49⟩ := Kd.R_slice HO_8.out
                                      subst eo49
                                      obtain ⟨Ao50, co50, eo50⟩ := Kd.R_slice HO_7.out
                                      subst eo50
                                      have hnb51 := NB112_113.out
                                      have hnc51 := NB113_112.out
                                      have hcz52_0 : wr.cell? ⟨gb112, 0, none⟩ = some (.int .i64 a0_0) := (blk_cell BK112.out 0).trans rfl
                                      have hcz52_1 : wr.cell? ⟨gb112, 1, none⟩ = some (.int .i64 a0_1) := (blk_cell BK112.out 1).trans rfl
                                      have hcz52_2 : wr.cell? ⟨gb112, 2, none⟩ = some (.slice (some ad117) l0_2.length c0_2) := (blk_cell BK112.out 2).trans rfl
                                      have hcz52_3 : wr.cell? ⟨gb112, 3, none⟩ = some (.slice Ao4 l0_3.length co4) := (blk_cell BK112.out 3).trans rfl
                                      have hcz52_4 : wr.cell? ⟨gb112, 4, none⟩ = some (.int .i64 a0_4) := (blk_cell BK112.out 4).trans rfl
                                      have hfz52_0 := blk_frozen BK112.out 0
                                      have hfz52_1 := blk_frozen BK112.out 1
                                      have hfz52_2 := blk_frozen BK112.out 2
                                      have hfz52_3 := blk_frozen BK112.out 3
                                      have hfz52_4 := blk_frozen BK112.out 4
                                      have p134 : 0 ≤ ((ji44) : Int) := of_decide_eq_true (by first | (with_reducible assumption) | assumption)
                                      have q134 : (ji44) < (x8_2.length : Int) := of_decide_eq_true (by first | (with_reducible assumption) | assumption)
                                      obtain ⟨ad134, e134, hx134_0⟩ := Kd.at_int (Kd.R_reads' HO_8.out).2.2 (ji44) p134 q134
                                      cases e134
                                      replace p134 := eq_true p134
                                      replace q134 := eq_true q134
                                      go_wp2_with (first | ((with_reducible refine gate_builtin (b := .append) (xs := #[.tmp 50, .tmp 57]) rfl ?_); (try (refine gate_guard (by rfl) ?_; dsimp only)); at_builtin; refine Kd.R_append (Kd.int .i64) (w0 := w0) w0.heap.size rfl (.tmp 50) (.tmp 57) 28 3 (.int .i64 0) 8 rfl Try.underlying28 info3 rfl (by decide) (by omega) (.slice Ao50 x7_2.length co50) x7_2 (rd x8_2 (ji44)) [.int .i64 (rd x8_2 (ji44))] (fun k_ => (P0_3_ k_ ∨ w.heap.size ≤ k_) ∧ some k_ ≠ (.slice (some ad134) x8_2.length co49 : Value).ownBlock ∧ some k_ ≠ (.slice Ao4 l0_3.length co4 : Value).ownBlock) (fun _ => False) rfl rfl ?aP (fun _ hk => hk.elim) ?aF ?aO ?aB ?aS ?aL ?_; (case aP => exact rfl); (case aB => exact (by repeat (first | (with_reducible first | exact HB.out | apply below_alloc | apply pw_below_drewN | apply below_drew1 | refine below_set ?_ GE112.out | refine below_set ?_ GE113.out) | exact HB.out))); (case aF => exact (fun k_ hk => ⟨(.inr (Nat.le_trans (by first | exact HK.out.1 | exact (show Kept w _ (fun k_ => P0_3_ k_) from by repeat (first | (with_reducible first | exact HK.out | apply Kept.alloc | apply Kept.drewN | apply Kept.drew | refine Kept.setCell ?_ (.inr GW112.out) _ | refine Kept.setCell ?_ (.inr GW113.out) _) | exact HK.out)).1) hk)), Kd.fresh' (Kd.R_lt (by (with_reducible repeat (first | apply Kd.R_alloc | apply Kd.R_drewN | apply Kd.R_drew)); exact HO_8.out)) k_ hk, Kd.fresh' (Kd.R_lt (by (with_reducible repeat (first | apply Kd.R_alloc | apply Kd.R_drewN | apply Kd.R_drew)); exact HO_113003.out)) k_ hk⟩)); (case aO => exact (by (with_reducible repeat (first | apply Kd.R_alloc | apply Kd.R_drewN | apply Kd.R_drew)); exact HO_7.out)); (case aS => exact (below_size (by repeat (first | (with_reducible first | exact HB.out | apply below_alloc | apply pw_below_drewN | apply below_drew1 | refine below_set ?_ GE112.out | refine below_set ?_ GE113.out) | exact HB.out)))); (case aL => have := LMc47.out; omega); intro v136 w53 ho hb hg hat; rw [← Ny135.out] at ho; have n0_ := Aside0.mk (Kd.R_after (ok := (fun k_ => (P0_3_ k_ ∨ w.heap.size ≤ k_) ∧ some k_ ≠ (.slice Ao4 l0_3.length co4 : Value).ownBlock)) (by (with_reducible repeat (first | apply Kd.R_alloc | apply Kd.R_drewN | apply Kd.R_drew)); exact Kd.R_mono HO_8.out (fun _ hk => ⟨⟨hk.1, hk.2.2⟩, hk.2.1⟩)) hg hat); have n1_ := Aside0.mk (Kd.V_afterv (ok := (fun k_ => ((P0_3_ k_ ∨ P0_2_ k_) ∨ w.heap.size ≤ k_) ∧ some k_ ≠ (.slice (some ad134) x8_2.length co49 : Value).ownBlock ∧ some k_ ≠ (.slice Ao4 l0_3.length co4 : Value).ownBlock ∧ k_ ≠ gb112 ∧ k_ ≠ gb113)) (by (with_reducible repeat (first | apply Kd.V_alloc | apply Kd.V_drewN | apply Kd.V_drew)); exact Kd.V_mono HO_113002.out (fun _ hk => ⟨⟨hk.1, ⟨hk.2.2.1, ⟨hk.2.2.2.1, ⟨hk.2.2.2.2.1, hk.2.2.2.2.2⟩⟩⟩⟩, hk.2.1⟩)) hg hat); have n2_ := Aside0.mk (Kd.R_after (ok := (fun k_ => (P0_3_ k_ ∨ w.heap.size ≤ k_) ∧ some k_ ≠ (.slice (some ad134) x8_2.length co49 : Value).ownBlock)) (by (with_reducible repeat (first | apply Kd.R_alloc | apply Kd.R_drewN | apply Kd.R_drew)); exact Kd.R_mono HO_113003.out (fun _ hk => ⟨⟨hk.1, hk.2.2⟩, hk.2.1⟩)) hg hat); have n3_ := Aside0.mk (blk_grown (g := gb112) (o := .cells #[.int .i64 a0_0, .int .i64 a0_1, .slice (some ad117) l0_2.length c0_2, .slice Ao4 l0_3.length co4, .int .i64 a0_4] 30 (0, 0)) (by (with_reducible repeat (first | refine blk_drewN ?_ _ | refine blk_drew ?_ | refine blk_alloc ?_ _)); exact BK112.out) hg (Kd.R_ne HO_7.out BK112.out (by decide))); have n4_ := Aside0.mk (blk_grown (g := gb113) (o := .cells #[.int .i64 0, .int .i64 0, .slice none 0 0, .slice none 0 0, .int .i64 0] 30 (0, 0)) (by (with_reducible repeat (first | refine blk_drewN ?_ _ | refine blk_drew ?_ | refine blk_alloc ?_ _)); exact BK113.out) hg (Kd.R_ne HO_7.out BK113.out (by decide))); have n5_ := Aside0.mk (hb); have n6_ := Aside0.mk (Kept.of_grown (S := (fun k_ => P0_3_ k_)) hg (by repeat (first | (with_reducible first | exact HK.out | apply Kept.alloc | apply Kept.drewN | apply Kept.drew | refine Kept.setCell ?_ (.inr GW112.out) _ | refine Kept.setCell ?_ (.inr GW113.out) _) | exact HK.out)) (fun k_ e_ => (HO_7.out.1 k_ e_).1)); have n7_ := Aside0.mk (ho); clear HO_8; clear HO_113002; clear HO_113003; clear BK112; clear BK113; clear HB; clear HK; clear HO_7; have HO_8 := n0_; have HO_113002 := n1_; have HO_113003 := n2_; have BK112 := n3_; have BK113 := n4_; have HB := n5_; have HK := n6_; have HO137 := n7_; clear n0_ n1_ n2_ n3_ n4_ n5_ n6_ n7_; clear ho hb hg hat; have q54 : ((ji44) : Int) ≤ ((x8_2.length : Int) : Int) := of_decide_eq_true (by first | (with_reducible assumption) | assumption); obtain ⟨i054, hi054, _, hsz54, _⟩ := info_parts info3; have hcut54 := cut_to (P := Try.prog) 28 3 .i64 Try.underlying28 hi054 (some ad134) x8_2.length co49 (ji44) (of_decide_eq_true (by first | (with_reducible assumption) | assumption)) q54 (Kd.R_reads' HO_8.out).2.1; have hr54 := Kd.R_take (m := ((ji44) : Int).toNat) HO_8.out (by omega); have hy54 : y138.length = ((ji44) : Int).toNat := (by rw [Ny138.out, List.length_take]; omega); rw [← Ny138.out] at hr54; rw [← hy54] at hr54 hcut54; clear hy54 hi054 hsz54 HO_8; have HO140 := Aside0.mk hr54; clear hr54; replace q54 := eq_true q54))
                                      go_roundg k2
                                      case measure => have := HJ2.out; have := HK2.out; omega
                                      case rel => exact ⟨(y135), (y138), H', ⟨by have := HJ2.out; have := HK2.out; omega⟩, ⟨by (with_reducible repeat (first | apply Kd.R_alloc | apply Kd.R_drewN | apply Kd.R_drew)); exact HO137.out⟩, ⟨by (with_reducible repeat (first | apply Kd.R_alloc | apply Kd.R_drewN | apply Kd.R_drew)); exact Kd.R_mono HO140.out (fun _ hk => ⟨hk.1.1, ⟨hk.2, hk.1.2⟩⟩)⟩, ⟨by (with_reducible repeat (first | apply Kd.V_alloc | apply Kd.V_drewN | apply Kd.V_drew)); exact Kd.V_mono HO_113002.out (fun _ hk => ⟨hk.1.1, ⟨hk.2, ⟨hk.1.2.1, ⟨hk.1.2.2.1, ⟨hk.1.2.2.2.1, hk.1.2.2.2.2⟩⟩⟩⟩⟩)⟩, ⟨by (with_reducible repeat (first | apply Kd.R_alloc | apply Kd.R_drewN | apply Kd.R_drew)); exact Kd.R_mono HO_113003.out (fun _ hk => ⟨hk.1.1, ⟨hk.2, hk.1.2⟩⟩)⟩, ⟨by (with_reducible repeat (first | refine blk_drewN ?_ _ | refine blk_drew ?_ | refine blk_alloc ?_ _)); exact BK112.out⟩, ⟨by (with_reducible repeat (first | refine blk_drewN ?_ _ | refine blk_drew ?_ | refine blk_alloc ?_ _)); exact BK113.out⟩, ⟨by repeat (first | (with_reducible first | exact HK.out | apply Kept.alloc | apply Kept.drewN | apply Kept.drew | refine Kept.setCell ?_ (.inr GW112.out) _ | refine Kept.setCell ?_ (.inr GW113.out) _) | exact HK.out)⟩, ⟨by repeat (first | (with_reducible first | exact HB.out | apply below_alloc | apply pw_below_drewN | apply below_drew1 | refine below_set ?_ GE112.out | refine below_set ?_ GE113.out) | exact HB.out)⟩⟩
                                    · rw [if_neg c48] at H
                                      exact absurd H (by simp)
                                  · rw [if_neg c47] at H
                                    exact absurd H (by simp)
                                · rw [if_neg c46] at H
                                  exact absurd H (by simp)
                              · rw [if_neg c45] at H
                                exact absurd H (by simp)
                            · rw [if_neg c43] at H
                              have c43b0 : decide ((x7_2.length : Int) < 1) = false := decide_eq_false c43
                              have c43b1 : decide (x7_2.length < 1) = false := decide_eq_false (by omega)
                              clear c43
                              have H' := Aside0.mk H
                              clear H
                              obtain ⟨Ao55, co55, eo55⟩ := Kd.R_slice HO_8.out
                              subst eo55
                              obtain ⟨Ao56, co56, eo56⟩ := Kd.R_slice HO_7.out
                              subst eo56
                              have hnb57 := NB112_113.out
                              have hnc57 := NB113_112.out
                              have hcz58_0 : wr.cell? ⟨gb112, 0, none⟩ = some (.int .i64 a0_0) := (blk_cell BK112.out 0).trans rfl
                              have hcz58_1 : wr.cell? ⟨gb112, 1, none⟩ = some (.int .i64 a0_1) := (blk_cell BK112.out 1).trans rfl
                              have hcz58_2 : wr.cell? ⟨gb112, 2, none⟩ = some (.slice (some ad117) l0_2.length c0_2) := (blk_cell BK112.out 2).trans rfl
                              have hcz58_3 : wr.cell? ⟨gb112, 3, none⟩ = some (.slice Ao4 l0_3.length co4) := (blk_cell BK112.out 3).trans rfl
                              have hcz58_4 : wr.cell? ⟨gb112, 4, none⟩ = some (.int .i64 a0_4) := (blk_cell BK112.out 4).trans rfl
                              have hfz58_0 := blk_frozen BK112.out 0
                              have hfz58_1 := blk_frozen BK112.out 1
                              have hfz58_2 := blk_frozen BK112.out 2
                              have hfz58_3 := blk_frozen BK112.out 3
                              have hfz58_4 := blk_frozen BK112.out 4
                              go_wp2
                              go_meet
                              case rel => exact ⟨_, (x7_2), (x8_2), H', ⟨by have := HJ2.out; have := HK2.out; first | omega | exact Nat.le_refl _⟩, ⟨by (with_reducible repeat (first | apply Kd.R_alloc | apply Kd.R_drewN | apply Kd.R_drew)); exact HO_7.out⟩, ⟨by (with_reducible repeat (first | apply Kd.R_alloc | apply Kd.R_drewN | apply Kd.R_drew)); exact HO_8.out⟩, ⟨by (with_reducible repeat (first | apply Kd.V_alloc | apply Kd.V_drewN | apply Kd.V_drew)); exact HO_113002.out⟩, ⟨by (with_reducible repeat (first | apply Kd.R_alloc | apply Kd.R_drewN | apply Kd.R_drew)); exact HO_113003.out⟩, ⟨by (with_reducible repeat (first | refine blk_drewN ?_ _ | refine blk_drew ?_ | refine blk_alloc ?_ _)); exact BK112.out⟩, ⟨by (with_reducible repeat (first | refine blk_drewN ?_ _ | refine blk_drew ?_ | refine blk_alloc ?_ _)); exact BK113.out⟩, ⟨by repeat (first | (with_reducible first | exact HK.out | apply Kept.alloc | apply Kept.drewN | apply Kept.drew | refine Kept.setCell ?_ (.inr GW112.out) _ | refine Kept.setCell ?_ (.inr GW113.out) _) | exact HK.out)⟩, ⟨by repeat (first | (with_reducible first | exact HB.out | apply below_alloc | apply pw_below_drewN | apply below_drew1 | refine below_set ?_ GE112.out | refine below_set ?_ GE113.out) | exact HB.out)⟩⟩
                        · rw [if_neg c30] at H
                          have c30b0 : decide (0 < (x8_2.length : Int)) = false := decide_eq_false c30
                          have c30b1 : decide (0 < x8_2.length) = false := decide_eq_false (by omega)
                          clear c30
                          have H' := Aside0.mk H
                          clear H
                          obtain ⟨Ao59, co59, eo59⟩ := Kd.R_slice HO_8.out
                          subst eo59
                          go_wp2
                          go_meet
                          case rel => exact ⟨_, (x7_2), (x8_2), H', ⟨by have := HJ2.out; have := HK2.out; first | omega | exact Nat.le_refl _⟩, ⟨by (with_reducible repeat (first | apply Kd.R_alloc | apply Kd.R_drewN | apply Kd.R_drew)); exact HO_7.out⟩, ⟨by (with_reducible repeat (first | apply Kd.R_alloc | apply Kd.R_drewN | apply Kd.R_drew)); exact HO_8.out⟩, ⟨by (with_reducible repeat (first | apply Kd.V_alloc | apply Kd.V_drewN | apply Kd.V_drew)); exact HO_113002.out⟩, ⟨by (with_reducible repeat (first | apply Kd.R_alloc | apply Kd.R_drewN | apply Kd.R_drew)); exact HO_113003.out⟩, ⟨by (with_reducible repeat (first | refine blk_drewN ?_ _ | refine blk_drew ?_ | refine blk_alloc ?_ _)); exact BK112.out⟩, ⟨by (with_reducible repeat (first | refine blk_drewN ?_ _ | refine blk_drew ?_ | refine blk_alloc ?_ _)); exact BK113.out⟩, ⟨by repeat (first | (with_reducible first | exact HK.out | apply Kept.alloc | apply Kept.drewN | apply Kept.drew | refine Kept.setCell ?_ (.inr GW112.out) _ | refine Kept.setCell ?_ (.inr GW113.out) _) | exact HK.out)⟩, ⟨by repeat (first | (with_reducible first | exact HB.out | apply below_alloc | apply pw_below_drewN | apply below_drew1 | refine below_set ?_ GE112.out | refine below_set ?_ GE113.out) | exact HB.out)⟩⟩
                  · rw [if_neg c29] at H
                    have c29b0 : ((y118.length : Int) == 0) = false := beq_eq_false_iff_ne.mpr c29
                    have c29b1 : ((y118.length : Int) != 0) = true := bne_iff_ne.mpr c29
                    have c29b2 : ¬ (y118 = []) := fun h_ => c29 (by rw [h_]; rfl)
                    (first | rw [c29b0] | (simp only [i64_w, i32_w]; rw [c29b0]) | skip)
                    have H' := Aside0.mk H
                    clear H
                    go_wp2
                    go_meet
                    case rel => exact ⟨_, (y118), (y124), H', ⟨by have := HJ2.out; first | omega | exact Nat.le_refl _⟩, ⟨by (with_reducible repeat (first | apply Kd.R_alloc | apply Kd.R_drewN | apply Kd.R_drew)); exact Kd.R_mono HO120.out (fun _ hk => ⟨hk.1.1, ⟨hk.2, hk.1.2⟩⟩)⟩, ⟨by (with_reducible repeat (first | apply Kd.R_alloc | apply Kd.R_drewN | apply Kd.R_drew)); exact Kd.R_mono HO126.out (fun _ hk => ⟨hk.1, ⟨hk.2.2, hk.2.1⟩⟩)⟩, ⟨by (with_reducible repeat (first | apply Kd.V_alloc | apply Kd.V_drewN | apply Kd.V_drew)); exact Kd.V_mono HO_113002.out (fun _ hk => ⟨hk.1.1, ⟨hk.1.2.2.1, ⟨hk.2, ⟨hk.1.2.1, ⟨hk.1.2.2.2.1, hk.1.2.2.2.2⟩⟩⟩⟩⟩)⟩, ⟨by (with_reducible repeat (first | apply Kd.R_alloc | apply Kd.R_drewN | apply Kd.R_drew)); exact Kd.R_mono HO_113003.out (fun _ hk => ⟨hk.1.1, ⟨hk.1.2, hk.2⟩⟩)⟩, ⟨by (with_reducible repeat (first | refine blk_drewN ?_ _ | refine blk_drew ?_ | refine blk_alloc ?_ _)); exact BK112.out⟩, ⟨by (with_reducible repeat (first | refine blk_drewN ?_ _ | refine blk_drew ?_ | refine blk_alloc ?_ _)); exact BK113.out⟩, ⟨by repeat (first | (with_reducible first | exact HK.out | apply Kept.alloc | apply Kept.drewN | apply Kept.drew | refine Kept.setCell ?_ (.inr GW112.out) _ | refine Kept.setCell ?_ (.inr GW113.out) _) | exact HK.out)⟩, ⟨by repeat (first | (with_reducible first | exact HB.out | apply below_alloc | apply pw_below_drewN | apply below_drew1 | refine below_set ?_ GE112.out | refine below_set ?_ GE113.out) | exact HB.out)⟩⟩
                case rest =>
                  clear HC18
                  try clear c1
                  try clear p1
                  try clear q1
                  try clear hx1
                  try clear c2
                  try clear p2
                  try clear c3
                  try clear c4
                  try clear q4
                  try clear c5
                  try clear q5
                  try clear p6
                  try clear c7
                  try clear c7b0
                  try clear c8
                  try clear c10
                  try clear c11
                  try clear p11
                  try clear q11
                  try clear hx11
                  try clear p12
                  try clear q12
                  try clear hx12
                  try clear p13
                  try clear q13
                  try clear hx13
                  try clear c14
                  try clear c14b0
                  try clear c15
                  try clear c15b0
                  try clear c16
                  try clear c17
                  try clear c21
                  try clear c29
                  try clear c29b0
                  try clear c29b1
                  try clear c29b2
                  try clear c30
                  try clear c30b0
                  try clear c30b1
                  try clear c31
                  try clear c31b0
                  try clear c33
                  try clear c33b0
                  try clear c34
                  try clear c34b0
                  try clear c35
                  try clear c36
                  try clear c36b0
                  try clear c36b1
                  try clear c39
                  try clear q42
                  try clear c43
                  try clear c43b0
                  try clear c43b1
                  try clear c45
                  try clear c45b0
                  try clear c46
                  try clear c46b0
                  try clear c47
                  try clear c48
                  try clear c48b0
                  try clear c48b1
                  try clear c51
                  try clear q54
                  try clear c57
                  try clear hcz12_0
                  try clear hcz12_1
                  try clear hcz12_2
                  try clear hcz12_3
                  try clear hcz12_4
                  try clear hcz13_0
                  try clear hcz13_1
                  try clear hcz13_2
                  try clear hcz13_3
                  try clear hcz13_4
                  try clear hcz22_0
                  try clear hcz22_1
                  try clear hcz22_2
                  try clear hcz22_3
                  try clear hcz22_4
                  try clear hcz26_0
                  try clear hcz26_1
                  try clear hcz26_2
                  try clear hcz26_3
                  try clear hcz26_4
                  try clear hcz40_0
                  try clear hcz40_1
                  try clear hcz40_2
                  try clear hcz40_3
                  try clear hcz40_4
                  try clear hcz52_0
                  try clear hcz52_1
                  try clear hcz52_2
                  try clear hcz52_3
                  try clear hcz52_4
                  try clear hcz58_0
                  try clear hcz58_1
                  try clear hcz58_2
                  try clear hcz58_3
                  try clear hcz58_4
                  try clear hcz9_0
                  try clear hcz9_1
                  try clear hcz9_2
                  try clear hcz9_3
                  try clear hcz9_4
                  try clear hfz12_0
                  try clear hfz12_1
                  try clear hfz12_2
                  try clear hfz12_3
                  try clear hfz12_4
                  try clear hfz13_0
                  try clear hfz13_1
                  try clear hfz13_2
                  try clear hfz13_3
                  try clear hfz13_4
                  try clear hfz22_0
                  try clear hfz22_1
                  try clear hfz22_2
                  try clear hfz22_3
                  try clear hfz22_4
                  try clear hfz26_0
                  try clear hfz26_1
                  try clear hfz26_2
                  try clear hfz26_3
                  try clear hfz26_4
                  try clear hfz40_0
                  try clear hfz40_1
                  try clear hfz40_2
                  try clear hfz40_3
                  try clear hfz40_4
                  try clear hfz52_0
                  try clear hfz52_1
                  try clear hfz52_2
                  try clear hfz52_3
                  try clear hfz52_4
                  try clear hfz58_0
                  try clear hfz58_1
                  try clear hfz58_2
                  try clear hfz58_3
                  try clear hfz58_4
                  try clear hfz9_0
                  try clear hfz9_1
                  try clear hfz9_2
                  try clear hfz9_3
                  try clear hfz9_4
                  try clear hx117_0
                  try clear hx127_0
                  try clear hx134_0
                  try clear p1
                  try clear p11
                  try clear p117
                  try clear p127
                  try clear p134
                  try clear p2
                  try clear q1
                  try clear q11
                  try clear q117
                  try clear q127
                  try clear q134
                  try clear q42
                  try clear q54
                  obtain ⟨kq, x7_17, x8_17, HA, HJ17, HO_7, HO_8, HO_113002, HO_113003, BK112, BK113, HK, HB⟩ := hcut
                  cases kq with
                  | zero => exact absurd HA.out (by simp [handoffref05_Take.j2])
                  | succ kj17 =>
                    have H := HA.out
                    clear HA
                    simp only [handoffref05_Take.j2] at H
                    by_cases c60 : (x7_17.length : Int) > 0
                    · rw [if_pos c60] at H
                      have c60b0 : decide (0 < (x7_17.length : Int)) = true := decide_eq_true c60
                      have c60b1 : decide (0 < x7_17.length) = true := decide_eq_true (by omega)
                      clear c60
                      obtain ⟨ji61, hji61⟩ : ∃ j_ : Int, (wrap64 ((x7_17.length : Int) - 1)) = j_ := ⟨_, rfl⟩
                      replace H : (if 0 ≤ (ji61) then (if (ji61) < (x7_17.length : Int) then (if (ji61) ≤ (x7_17.length : Int) then ((handoffref05_with.f a0_0 a0_1 l0_2 x8_17 a0_4 a1 (x7_17.take ((ji61) : Int).toNat)).bind fun bt147 => (some (bt147.1, bt147.2.1, bt147.2.2.1, bt147.2.2.2.1, bt147.2.2.2.2, rd x7_17 (ji61), true))) else (none)) else (none)) else (none)) = some (r1, r2, r3, r4, r5, r6, r7) := by first | (rw [hji61] at H; exact H) | (simp only [hji61] at H ⊢; exact H)
                      have hji61w : (IntKind.i64.wrap ((x7_17.length : Int) - 1)) = ji61 := (i64_w _).trans hji61
                      by_cases c62 : 0 ≤ (ji61)
                      · rw [if_pos c62] at H
                        have c62b0 : decide (0 ≤ (ji61)) = true := decide_eq_true c62
                        clear c62
                        by_cases c63 : (ji61) < (x7_17.length : Int)
                        · rw [if_pos c63] at H
                          have c63b0 : decide ((ji61) < (x7_17.length : Int)) = true := decide_eq_true c63
                          clear c63
                          have c64b0 := eq_true (of_decide_eq_true (by first | (with_reducible assumption) | assumption) : 0 ≤ (ji61))
                          by_cases c65 : (ji61) ≤ (x7_17.length : Int)
                          · rw [if_pos c65] at H
                            have c65b0 := eq_true c65
                            have c65b1 : decide ((ji61) ≤ (x7_17.length : Int)) = true := decide_eq_true c65
                            clear c65
                            obtain ⟨y142, hy142⟩ : ∃ y_ : List Int, y_ = (x7_17.take ((ji61) : Int).toNat) := ⟨_, rfl⟩
                            replace H : ((handoffref05_with.f a0_0 a0_1 l0_2 x8_17 a0_4 a1 y142).bind fun bt147 => (some (bt147.1, bt147.2.1, bt147.2.2.1, bt147.2.2.2.1, bt147.2.2.2.2, rd x7_17 (ji61), true))) = some (r1, r2, r3, r4, r5, r6, r7) := by first | (rw [hy142]; with_reducible exact H) | (have H2_ := (Option.bind_some _ _).symm.trans H; rw [hy142]; with_reducible exact H2_) | (have H2_ := (Option.bind_some _ _).symm.trans H; with_reducible exact H2_) | with_reducible exact H | (rw [hy142]; exact H) | exact H
                            have Ny142 := Aside0.mk hy142
                            clear hy142
                            replace H := Option.bind_eq_some_iff.mp H
                            obtain ⟨⟨t147, t148, t149, t152, t155⟩, A660, H⟩ := H
                            replace H : (some (t147, t148, t149, t152, t155, rd x7_17 (ji61), true)) = some (r1, r2, r3, r4, r5, r6, r7) := H
                            have A66 := Aside0.mk A660
                            clear A660
                            simp only [Option.some.injEq, Prod.mk.injEq] at H
                            obtain ⟨rfl, rfl, rfl, rfl, rfl, rfl, rfl⟩ := H
                            obtain ⟨Ao67, co67, eo67⟩ := Kd.R_slice HO_8.out
                            subst eo67
                            have hnb68 := NB112_113.out
                            have hnc68 := NB113_112.out
                            have hcz69_0 : wc.cell? ⟨gb112, 0, none⟩ = some (.int .i64 a0_0) := (blk_cell BK112.out 0).trans rfl
                            have hcz69_1 : wc.cell? ⟨gb112, 1, none⟩ = some (.int .i64 a0_1) := (blk_cell BK112.out 1).trans rfl
                            have hcz69_2 : wc.cell? ⟨gb112, 2, none⟩ = some (.slice (some ad117) l0_2.length c0_2) := (blk_cell BK112.out 2).trans rfl
                            have hcz69_3 : wc.cell? ⟨gb112, 3, none⟩ = some (.slice Ao4 l0_3.length co4) := (blk_cell BK112.out 3).trans rfl
                            have hcz69_4 : wc.cell? ⟨gb112, 4, none⟩ = some (.int .i64 a0_4) := (blk_cell BK112.out 4).trans rfl
                            have hfz69_0 := blk_frozen BK112.out 0
                            have hfz69_1 := blk_frozen BK112.out 1
                            have hfz69_2 := blk_frozen BK112.out 2
                            have hfz69_3 := blk_frozen BK112.out 3
                            have hfz69_4 := blk_frozen BK112.out 4
                            obtain ⟨Ao70, co70, eo70⟩ := Kd.R_slice HO_7.out
                            subst eo70
                            have p141 : 0 ≤ ((ji61) : Int) := of_decide_eq_true (by first | (with_reducible assumption) | assumption)
                            have q141 : (ji61) < (x7_17.length : Int) := of_decide_eq_true (by first | (with_reducible assumption) | assumption)
                            obtain ⟨ad141, e141, hx141_0⟩ := Kd.at_int (Kd.R_reads' HO_7.out).2.2 (ji61) p141 q141
                            cases e141
                            have hn141_0 : ad141.block ≠ gb112 := Kd.own_blk (Kd.R_ne HO_7.out BK112.out (by decide))
                            replace hx141_0 := (cell_far (p := ⟨gb112, 3, none⟩) (by first | (rw [add_block]; exact hn141_0) | (show (Addr.add _ _).block ≠ _; rw [add_block]; exact hn141_0) | exact hn141_0) (.slice Ao67 x8_17.length co67)).trans hx141_0
                            clear hn141_0
                            replace p141 := eq_true p141
                            replace q141 := eq_true q141
                            try go_wp2
                            have n0_ : Aside0 (Kd.R (Kd.int .i64) 3 (wc.setCell ⟨gb112, 3, none⟩ (.slice Ao67 x8_17.length co67)) w0.heap.size (fun k_ => (P0_3_ k_ ∨ w.heap.size ≤ k_) ∧ some k_ ≠ (.slice Ao67 x8_17.length co67 : Value).ownBlock ∧ some k_ ≠ (.slice Ao4 l0_3.length co4 : Value).ownBlock) (.slice (some ad141) x7_17.length co70) x7_17) := ⟨by (with_reducible repeat (first | apply Kd.R_alloc | apply Kd.R_drewN | apply Kd.R_drew)); exact Kd.R_mono (Kd.R_far (p := ⟨gb112, 3, none⟩) (Kd.R_types HO_7.out BK112.out (by decide)) (fun _ hk => hk.2) (.slice Ao67 x8_17.length co67)) (fun _ hk => ⟨hk.1.1, ⟨hk.1.2.1, hk.1.2.2⟩⟩)⟩
                            have n1_ : Aside0 (Kd.R (Kd.int .i64) 3 (wc.setCell ⟨gb112, 3, none⟩ (.slice Ao67 x8_17.length co67)) w0.heap.size (fun k_ => (P0_3_ k_ ∨ w.heap.size ≤ k_) ∧ some k_ ≠ (.slice (some ad141) x7_17.length co70 : Value).ownBlock ∧ some k_ ≠ (.slice Ao4 l0_3.length co4 : Value).ownBlock) (.slice Ao67 x8_17.length co67) x8_17) := ⟨by (with_reducible repeat (first | apply Kd.R_alloc | apply Kd.R_drewN | apply Kd.R_drew)); exact Kd.R_mono (Kd.R_far (p := ⟨gb112, 3, none⟩) (Kd.R_types HO_8.out BK112.out (by decide)) (fun _ hk => hk.2) (.slice Ao67 x8_17.length co67)) (fun _ hk => ⟨hk.1.1, ⟨hk.1.2.1, hk.1.2.2⟩⟩)⟩
                            have n2_ : Aside0 (Kd.V (Kd.slice 3 (Kd.int .i64)) 28 (wc.setCell ⟨gb112, 3, none⟩ (.slice Ao67 x8_17.length co67)) w0.heap.size (fun k_ => ((P0_3_ k_ ∨ P0_2_ k_) ∨ w.heap.size ≤ k_) ∧ some k_ ≠ (.slice (some ad141) x7_17.length co70 : Value).ownBlock ∧ some k_ ≠ (.slice Ao67 x8_17.length co67 : Value).ownBlock ∧ some k_ ≠ (.slice Ao4 l0_3.length co4 : Value).ownBlock ∧ k_ ≠ gb112 ∧ k_ ≠ gb113) (.slice (some ad117) l0_2.length c0_2) l0_2) := ⟨by (with_reducible repeat (first | apply Kd.V_alloc | apply Kd.V_drewN | apply Kd.V_drew)); exact Kd.V_mono (Kd.V_far (p := ⟨gb112, 3, none⟩) (Kd.V_mono HO_113002.out (fun k_ hk => (⟨hk, hk.2.2.2.2.1⟩ : _ ∧ k_ ≠ gb112))) (fun _ hk => hk.2) (.slice Ao67 x8_17.length co67)) (fun _ hk => ⟨hk.1.1, ⟨hk.1.2.1, ⟨hk.1.2.2.1, ⟨hk.1.2.2.2.1, ⟨hk.1.2.2.2.2.1, hk.1.2.2.2.2.2⟩⟩⟩⟩⟩)⟩
                            have n3_ : Aside0 (Kd.R (Kd.int .i64) 3 (wc.setCell ⟨gb112, 3, none⟩ (.slice Ao67 x8_17.length co67)) w0.heap.size (fun k_ => (P0_3_ k_ ∨ w.heap.size ≤ k_) ∧ some k_ ≠ (.slice (some ad141) x7_17.length co70 : Value).ownBlock ∧ some k_ ≠ (.slice Ao67 x8_17.length co67 : Value).ownBlock) (.slice Ao4 l0_3.length co4) l0_3) := ⟨by (with_reducible repeat (first | apply Kd.R_alloc | apply Kd.R_drewN | apply Kd.R_drew)); exact Kd.R_mono (Kd.R_far (p := ⟨gb112, 3, none⟩) (Kd.R_types HO_113003.out BK112.out (by decide)) (fun _ hk => hk.2) (.slice Ao67 x8_17.length co67)) (fun _ hk => ⟨hk.1.1, ⟨hk.1.2.1, hk.1.2.2⟩⟩)⟩
                            have n4_ : Aside0 ((wc.setCell ⟨gb112, 3, none⟩ (.slice Ao67 x8_17.length co67)).heap[gb112]? = some (.cells #[.int .i64 a0_0, .int .i64 a0_1, .slice (some ad117) l0_2.length c0_2, .slice Ao67 x8_17.length co67, .int .i64 a0_4] 30 (0, 0))) := ⟨by (with_reducible repeat (first | refine blk_drewN ?_ _ | refine blk_drew ?_ | refine blk_alloc ?_ _)); refine blk_put (cs := #[.int .i64 a0_0, .int .i64 a0_1, .slice (some ad117) l0_2.length c0_2, .slice Ao4 l0_3.length co4, .int .i64 a0_4]) ?_ 3 _ rfl; (with_reducible repeat (first | refine blk_drewN ?_ _ | refine blk_drew ?_ | refine blk_alloc ?_ _)); exact BK112.out⟩
                            have n5_ : Aside0 ((wc.setCell ⟨gb112, 3, none⟩ (.slice Ao67 x8_17.length co67)).heap[gb113]? = some (.cells #[.int .i64 0, .int .i64 0, .slice none 0 0, .slice none 0 0, .int .i64 0] 30 (0, 0))) := ⟨by (with_reducible repeat (first | refine blk_drewN ?_ _ | refine blk_drew ?_ | refine blk_alloc ?_ _)); refine blk_far ?_ NB113_112.out _; (with_reducible repeat (first | refine blk_drewN ?_ _ | refine blk_drew ?_ | refine blk_alloc ?_ _)); exact BK113.out⟩
                            have n6_ : Aside0 (Kept w (wc.setCell ⟨gb112, 3, none⟩ (.slice Ao67 x8_17.length co67)) (fun k_ => P0_3_ k_)) := ⟨by repeat (first | (with_reducible first | exact HK.out | apply Kept.alloc | apply Kept.drewN | apply Kept.drew | refine Kept.setCell ?_ (.inr GW112.out) _ | refine Kept.setCell ?_ (.inr GW113.out) _) | exact HK.out)⟩
                            have n7_ : Aside0 (Below w0.heap.size w0 (wc.setCell ⟨gb112, 3, none⟩ (.slice Ao67 x8_17.length co67))) := ⟨by repeat (first | (with_reducible first | exact HB.out | apply below_alloc | apply pw_below_drewN | apply below_drew1 | refine below_set ?_ GE112.out | refine below_set ?_ GE113.out) | exact HB.out)⟩
                            (try clear HO_7)
                            (try clear HO_8)
                            (try clear HO_113002)
                            (try clear HO_113003)
                            (try clear BK112)
                            (try clear BK113)
                            (try clear HK)
                            (try clear HB)
                            generalize (wc.setCell ⟨gb112, 3, none⟩ (.slice Ao67 x8_17.length co67)) = w71 at n0_ n1_ n2_ n3_ n4_ n5_ n6_ n7_ ⊢
                            have HO_7 := n0_
                            have HO_8 := n1_
                            have HO_113002 := n2_
                            have HO_113003 := n3_
                            have BK112 := n4_
                            have BK113 := n5_
                            have HK := n6_
                            have HB := n7_
                            clear n0_ n1_ n2_ n3_ n4_ n5_ n6_ n7_
                            have n0_ := Aside0.mk (Kd.R_drew HO_7.out)
                            have n1_ := Aside0.mk (Kd.R_drew HO_8.out)
                            have n2_ := Aside0.mk (Kd.V_drew HO_113002.out)
                            have n3_ := Aside0.mk (Kd.R_drew HO_113003.out)
                            have n4_ := Aside0.mk (blk_drew BK112.out)
                            have n5_ := Aside0.mk (blk_drew BK113.out)
                            have n6_ := Aside0.mk (Kept.drew HK.out)
                            have n7_ := Aside0.mk (below_drew1 HB.out)
                            clear HO_7
                            clear HO_8
                            clear HO_113002
                            clear HO_113003
                            clear BK112
                            clear BK113
                            clear HK
                            clear HB
                            have HO_7 := n0_
                            have HO_8 := n1_
                            have HO_113002 := n2_
                            have HO_113003 := n3_
                            have BK112 := n4_
                            have BK113 := n5_
                            have HK := n6_
                            have HB := n7_
                            clear n0_ n1_ n2_ n3_ n4_ n5_ n6_ n7_
                            have q73 : ((ji61) : Int) ≤ ((x7_17.length : Int) : Int) := of_decide_eq_true (by first | (with_reducible assumption) | assumption)
                            obtain ⟨i073, hi073, _, hsz73, _⟩ := info_parts info3
                            have hroom73 : x7_17.length ≤ co70 := (Kd.R_reads' HO_7.out).2.1
                            have hC73 : Kd.F (Kd.int .i64) _ _ (some ad141) x7_17.length x7_17 := (Kd.V_at (base := w0.heap.size) (Kd.V_mono (ok' := (fun k_ => (((((P0_3_ k_ ∨ P0_2_ k_) ∨ w.heap.size ≤ k_) ∧ (some k_ ≠ (.slice Ao67 x8_17.length co67 : Value).ownBlock ∧ some k_ ≠ (.slice Ao4 l0_3.length co4 : Value).ownBlock)) ∧ k_ ≠ gb112) ∧ k_ ≠ gb113))) (Kd.R_V (Kd.R_types (Kd.R_types (HO_7.out) BK112.out (by decide)) BK113.out (by decide))) (fun k_ hk => ⟨⟨⟨(Or.imp_left (fun h_ => (.inl h_)) (hk.1.1.1)), ⟨hk.1.1.2.1, hk.1.1.2.2⟩⟩, hk.1.2⟩, hk.2⟩))).2.2
                            have hcut73 := cut_to (P := Try.prog) 28 3 .i64 Try.underlying28 hi073 (some ad141) x7_17.length co70 (ji61) (of_decide_eq_true (by first | (with_reducible assumption) | assumption)) q73 hroom73
                            have hr73 := Kd.F_take (m := ((ji61) : Int).toNat) hC73 (by omega)
                            have hy73 : y142.length = ((ji61) : Int).toNat := (by rw [Ny142.out, List.length_take]; omega)
                            rw [← Ny142.out] at hr73
                            rw [← hy73] at hcut73
                            have HO146 := Aside0.mk (show Kd.V (Kd.int .i64) 3 _ w0.heap.size _ (.slice (some ad141) y142.length co70) y142 from Kd.V_mk (by omega) hr73)
                            have HC146 := Aside0.mk (show y142.length ≤ co70 from by omega)
                            clear hr73 hC73 hroom73 hi073 hsz73
                            have KY73 := Aside0.mk hy73
                            clear hy73
                            replace q73 := eq_true q73
                            refine start_ (n := 12) (S := fun w' => w'.cell? ⟨gb112, 0, none⟩ = some (.int .i64 a0_0) ∧ w'.cell? ⟨gb112, 1, none⟩ = some (.int .i64 a0_1) ∧ w'.cell? ⟨gb112, 2, none⟩ = some (.slice (some ad117) l0_2.length c0_2) ∧ w'.cell? ⟨gb112, 3, none⟩ = some (.slice Ao67 x8_17.length co67) ∧ w'.cell? ⟨gb112, 4, none⟩ = some (.int .i64 a0_4)) (ds := []) #[false, false, false, false, false, false, false, false, false, false, false, false] (by kernel_rfl) rfl rfl ⟨(blk_cell BK112.out 0).trans rfl, (blk_cell BK112.out 1).trans rfl, (blk_cell BK112.out 2).trans rfl, (blk_cell BK112.out 3).trans rfl, (blk_cell BK112.out 4).trans rfl⟩ (fun hHeld => ?_); refine with_tabW handoffref05_Take.tab12 handoffref05_Take.bits12 (fun HT_ HW_ => ?_)
                            generalize w71.drew = w72 at HO_7 HO_8 HO_113002 HO_113003 BK112 BK113 HK HB HO146 hHeld ⊢
                            refine pure_ (i := 1) (N := some 76) (v := ?_) (a' := ?_) #[false, true, false, false, false, false, false, false, false, false, false, false] rfl rfl (any_of HT_.out (by kernel_rfl)) (fun _ _ _ h => h) (Or.inl ⟨by rfl, ?_⟩) ?_ ?_
                            rotate_left
                            · intro w'
                              go_simp
                              with_reducible rfl
                            rotate_left
                            · simp only [Act.put, List.setIfInBounds_toArray, List.set_cons_zero, List.set_cons_succ, i64_w, i32_w]
                              rfl
                            refine pure_ (i := 2) (N := some 77) (v := ?_) (a' := ?_) #[false, true, true, false, false, false, false, false, false, false, false, false] rfl rfl (any_of HT_.out (by kernel_rfl)) (fun _ _ _ h => h) (Or.inl ⟨by rfl, ?_⟩) ?_ ?_
                            rotate_left
                            · intro w'
                              go_simp
                              with_reducible rfl
                            rotate_left
                            · simp only [Act.put, List.setIfInBounds_toArray, List.set_cons_zero, List.set_cons_succ, i64_w, i32_w]
                              rfl
                            refine pure_ (i := 3) (N := some 78) (v := ?_) (a' := ?_) #[false, true, true, true, false, false, false, false, false, false, false, false] rfl rfl (any_of HT_.out (by kernel_rfl)) (fun _ _ _ h => h) (Or.inl ⟨by rfl, ?_⟩) ?_ ?_
                            rotate_left
                            · intro w'
                              go_simp
                              with_reducible rfl
                            rotate_left
                            · simp only [Act.put, List.setIfInBounds_toArray, List.set_cons_zero, List.set_cons_succ, i64_w, i32_w]
                              rfl
                            refine pure_ (i := 4) (N := some 79) (v := ?_) (a' := ?_) #[false, true, true, true, true, false, false, false, false, false, false, false] rfl rfl (any_of HT_.out (by kernel_rfl)) (fun _ _ _ h => h) (Or.inl ⟨by rfl, ?_⟩) ?_ ?_
                            rotate_left
                            · intro w'
                              go_simp
                              with_reducible rfl
                            rotate_left
                            · simp only [Act.put, List.setIfInBounds_toArray, List.set_cons_zero, List.set_cons_succ, i64_w, i32_w]
                              rfl
                            refine pure_ (i := 5) (N := some 80) (v := ?_) (a' := ?_) #[false, true, true, true, true, true, false, false, false, false, false, false] rfl rfl (any_of HT_.out (by kernel_rfl)) (fun _ _ _ h => h) (Or.inl ⟨by rfl, ?_⟩) ?_ ?_
                            rotate_left
                            · intro w'
                              go_simp
                              with_reducible rfl
                            rotate_left
                            · simp only [Act.put, List.setIfInBounds_toArray, List.set_cons_zero, List.set_cons_succ, i64_w, i32_w]
                              rfl
                            refine pure_ (i := 6) (N := some 81) (v := ?_) (a' := ?_) #[false, true, true, true, true, true, true, false, false, false, false, false] rfl rfl (any_of HT_.out (by kernel_rfl)) (fun _ _ _ h => h) (Or.inl ⟨by rfl, ?_⟩) ?_ ?_
                            rotate_left
                            · intro w'
                              go_simp
                              with_reducible rfl
                            rotate_left
                            · simp only [Act.put, List.setIfInBounds_toArray, List.set_cons_zero, List.set_cons_succ, i64_w, i32_w]
                              rfl
                            refine pure_ (i := 8) (N := some 83) (v := ?_) (a' := ?_) #[false, true, true, true, true, true, true, false, true, false, false, false] rfl rfl (any_of HT_.out (by kernel_rfl)) (fun _ _ _ h => h) (Or.inl ⟨by rfl, ?_⟩) ?_ ?_
                            rotate_left
                            · intro w'
                              go_simp
                              with_reducible rfl
                            rotate_left
                            · simp only [Act.put, List.setIfInBounds_toArray, List.set_cons_zero, List.set_cons_succ, i64_w, i32_w]
                              rfl
                            refine take_ (i := 0) (N := some 75) (v := ?_) (a' := ?_) #[true, true, true, true, true, true, true, false, true, false, false, false] rfl rfl (take_ofW HT_.out HW_.out (by kernel_rfl)) (fun _ _ _ h => h) (Or.inl ⟨by rfl, ?_⟩) hHeld ?_ ?_
                            rotate_left
                            · rintro w' ⟨s0, s1, s2, s3, s4⟩
                              go_simp
                              with_reducible rfl
                            rotate_left
                            · simp only [Act.put, List.setIfInBounds_toArray, List.set_cons_zero, List.set_cons_succ, i64_w, i32_w]
                              rfl
                            refine one_ (i := 7) (N := some 82) #[true, true, true, true, true, true, true, true, true, false, false, false] rfl rfl (one_of HT_.out (by kernel_rfl)) (by decide) (fun K hK => ?_)
                            refine goes_ Try.func22 (by kernel_rfl) rfl #[.agg #[.int .i64 a0_0, .int .i64 a0_1, .slice (some ad117) l0_2.length c0_2, .slice Ao67 x8_17.length co67, .int .i64 a0_4], .int .i64 a1, .slice (some ad141) y142.length co70] (by rfl) rfl rfl (by (try simp only [List.map_toArray, List.map_cons, List.map_nil]); first | done | rfl | (simp only [List.length_drop, List.length_take]; rfl)) ?_
                            with_reducible refine (handoffref05_with.calls a0_0 a0_1 (fun k_ => (((P0_3_ k_ ∨ P0_2_ k_) ∨ w.heap.size ≤ k_) ∧ (some k_ ≠ (.slice (some ad141) x7_17.length co70 : Value).ownBlock ∧ (some k_ ≠ (.slice Ao67 x8_17.length co67 : Value).ownBlock ∧ (some k_ ≠ (.slice Ao4 l0_3.length co4 : Value).ownBlock ∧ (k_ ≠ gb112 ∧ k_ ≠ gb113)))))) _ _ l0_2 (fun k_ => some k_ = (.slice Ao67 x8_17.length co67 : Value).ownBlock) (.slice Ao67 x8_17.length co67) x8_17 a0_4 a1 (fun k_ => (((((P0_3_ k_ ∨ P0_2_ k_) ∨ w.heap.size ≤ k_) ∧ (some k_ ≠ (.slice Ao67 x8_17.length co67 : Value).ownBlock ∧ some k_ ≠ (.slice Ao4 l0_3.length co4 : Value).ownBlock)) ∧ k_ ≠ gb112) ∧ k_ ≠ gb113)) _ _ y142 t147 t148 t149 t152 t155 w0 _ ?side1 ?side2 ?side3 ?side4 A66.out).mono ?_
                            (case side1 => repeat (first | (with_reducible first | exact HB.out | apply below_alloc | apply pw_below_drewN | apply below_drew1 | refine below_set ?_ GE112.out | refine below_set ?_ GE113.out) | exact HB.out))
                            (case side2 => exact Kd.V_mono (HO_113002.out) (fun k_ hk_ => ⟨hk_, hk_.2.2.1⟩))
                            (case side3 => exact Kd.R_tight rfl HO_8.out)
                            (case side4 => exact Kd.V_mono (HO146.out) (fun k_ hk_ => ⟨hk_, hk_.1.1.2.1⟩))
                            rintro e w74 ⟨v150, v153, rfl, ho0, ho1, hb, hkp⟩
                            refine ⟨_, rfl, ?_⟩
                            have n0_ := Aside0.mk (Kd.R_mono (ok' := fun k_ => (P0_3_ k_ ∨ w.heap.size ≤ k_) ∧ some k_ ≠ (.slice Ao4 l0_3.length co4 : Value).ownBlock ∧ some k_ ≠ (v153 : Value).ownBlock) (Kd.R_keptB (HO_7.out) hkp (fun k_ hk_ hs_ => (hk_.2.1) hs_)) (fun k_ hk_ => ⟨hk_.1.1, hk_.1.2.2, fun e_ => Or.elim (ho1.1 k_ e_.symm) (fun hs_ => hk_.2.1 hs_) (fun hn_ => Nat.not_le.2 hk_.2.2 hn_)⟩))
                            have n1_ := Aside0.mk (Kd.V_mono (ok' := fun k_ => ((P0_3_ k_ ∨ P0_2_ k_) ∨ w.heap.size ≤ k_) ∧ some k_ ≠ (.slice (some ad141) x7_17.length co70 : Value).ownBlock ∧ some k_ ≠ (.slice Ao4 l0_3.length co4 : Value).ownBlock ∧ k_ ≠ gb112 ∧ k_ ≠ gb113 ∧ some k_ ≠ (v150 : Value).ownBlock ∧ some k_ ≠ (v153 : Value).ownBlock) (Kd.V_keptB (HO_113002.out) hkp (fun k_ hk_ hs_ => (hk_.2.2.1) hs_)) (fun k_ hk_ => ⟨hk_.1.1, hk_.1.2.1, hk_.1.2.2.2.1, hk_.1.2.2.2.2.1, hk_.1.2.2.2.2.2, fun e_ => Nat.not_le.2 hk_.2.2 (Kd.N_base ho0 k_ e_.symm), fun e_ => Or.elim (ho1.1 k_ e_.symm) (fun hs_ => hk_.2.1 hs_) (fun hn_ => Nat.not_le.2 hk_.2.2 hn_)⟩))
                            have n2_ := Aside0.mk (Kd.R_mono (ok' := fun k_ => (P0_3_ k_ ∨ w.heap.size ≤ k_) ∧ some k_ ≠ (.slice (some ad141) x7_17.length co70 : Value).ownBlock ∧ some k_ ≠ (v153 : Value).ownBlock) (Kd.R_keptB (HO_113003.out) hkp (fun k_ hk_ hs_ => (hk_.2.2) hs_)) (fun k_ hk_ => ⟨hk_.1.1, hk_.1.2.1, fun e_ => Or.elim (ho1.1 k_ e_.symm) (fun hs_ => hk_.2.1 hs_) (fun hn_ => Nat.not_le.2 hk_.2.2 hn_)⟩))
                            have n3_ := Aside0.mk (blk_kept (by (with_reducible repeat (first | refine blk_drewN ?_ _ | refine blk_drew ?_ | refine blk_alloc ?_ _)); exact BK112.out) hkp (fun hs_ => (fun e_ => (Kd.R_ne HO_8.out BK112.out (by decide)) e_) hs_))
                            have n4_ := Aside0.mk (blk_kept (by (with_reducible repeat (first | refine blk_drewN ?_ _ | refine blk_drew ?_ | refine blk_alloc ?_ _)); exact BK113.out) hkp (fun hs_ => (fun e_ => (Kd.R_ne HO_8.out BK113.out (by decide)) e_) hs_))
                            have n5_ := Aside0.mk (Kd.V_mono (ok' := fun k_ => ((P0_3_ k_ ∨ P0_2_ k_) ∨ w.heap.size ≤ k_) ∧ some k_ ≠ (.slice Ao4 l0_3.length co4 : Value).ownBlock ∧ k_ ≠ gb112 ∧ k_ ≠ gb113 ∧ some k_ ≠ (v150 : Value).ownBlock ∧ some k_ ≠ (v153 : Value).ownBlock) (Kd.V_keptB (HO146.out) hkp (fun k_ hk_ hs_ => (hk_.1.1.2.1) hs_)) (fun k_ hk_ => ⟨hk_.1.1.1.1, hk_.1.1.1.2.2, hk_.1.1.2, hk_.1.2, fun e_ => Nat.not_le.2 hk_.2.2 (Kd.N_base ho0 k_ e_.symm), fun e_ => Or.elim (ho1.1 k_ e_.symm) (fun hs_ => hk_.2.1 hs_) (fun hn_ => Nat.not_le.2 hk_.2.2 hn_)⟩))
                            have n6_ := Aside0.mk (Kd.N_lower (Kd.N_mono (ok' := fun k_ => ((P0_3_ k_ ∨ P0_2_ k_) ∨ w.heap.size ≤ k_) ∧ some k_ ≠ (v153 : Value).ownBlock ∧ some k_ ≠ (.slice Ao4 l0_3.length co4 : Value).ownBlock ∧ k_ ≠ gb112 ∧ k_ ≠ gb113) ho0 (fun k_ hk_ => ⟨Or.elim hk_.1 (fun hs_ => Or.elim hs_ (fun hs_ => (Or.imp_left (fun h_ => (.inl h_)) ((HO_8.out.1 k_ (hs_).symm).1))) (fun hs_ => Or.elim hs_ (fun hs_ => hs_.1) (fun hs_ => hs_.1.1.1))) (fun hn_ => (.inr (Nat.le_trans (by first | exact HK.out.1 | exact (show Kept w _ (fun k_ => P0_3_ k_) from by repeat (first | (with_reducible first | exact HK.out | apply Kept.alloc | apply Kept.drewN | apply Kept.drew | refine Kept.setCell ?_ (.inr GW112.out) _ | refine Kept.setCell ?_ (.inr GW113.out) _) | exact HK.out)).1) hn_))), hk_.2, Or.elim hk_.1 (fun hs_ => Or.elim hs_ (fun hs_ => fun e_ => (((HO_113003.out).1 k_ e_.symm).2.2) hs_) (fun hs_ => Or.elim hs_ (fun hs_ => hs_.2.2.2.1) (fun hs_ => hs_.1.1.2.2))) (fun hn_ => (Kd.fresh' (Kd.R_lt (by (with_reducible repeat (first | apply Kd.R_alloc | apply Kd.R_drewN | apply Kd.R_drew)); exact HO_113003.out)) k_ hn_)), Or.elim hk_.1 (fun hs_ => Or.elim hs_ (fun hs_ => fun e_ => (Kd.R_ne HO_8.out BK112.out (by decide)) (by rw [← e_]; exact hs_)) (fun hs_ => Or.elim hs_ (fun hs_ => hs_.2.2.2.2.1) (fun hs_ => hs_.1.2))) (fun hn_ => (Kd.freshB (g := gb112) (o := .cells #[.int .i64 a0_0, .int .i64 a0_1, .slice (some ad117) l0_2.length c0_2, .slice Ao67 x8_17.length co67, .int .i64 a0_4] 30 (0, 0)) (by (with_reducible repeat (first | refine blk_drewN ?_ _ | refine blk_drew ?_ | refine blk_alloc ?_ _)); exact BK112.out) k_ hn_)), Or.elim hk_.1 (fun hs_ => Or.elim hs_ (fun hs_ => fun e_ => (Kd.R_ne HO_8.out BK113.out (by decide)) (by rw [← e_]; exact hs_)) (fun hs_ => Or.elim hs_ (fun hs_ => hs_.2.2.2.2.2) (fun hs_ => hs_.2))) (fun hn_ => (Kd.freshB (g := gb113) (o := .cells #[.int .i64 0, .int .i64 0, .slice none 0 0, .slice none 0 0, .int .i64 0] 30 (0, 0)) (by (with_reducible repeat (first | refine blk_drewN ?_ _ | refine blk_drew ?_ | refine blk_alloc ?_ _)); exact BK113.out) k_ hn_))⟩)) (by first | exact HK.out.1 | exact (show Kept w _ (fun k_ => P0_3_ k_) from by repeat (first | (with_reducible first | exact HK.out | apply Kept.alloc | apply Kept.drewN | apply Kept.drew | refine Kept.setCell ?_ (.inr GW112.out) _ | refine Kept.setCell ?_ (.inr GW113.out) _) | exact HK.out)).1))
                            have n7_ := Aside0.mk (Kd.R_mono (ok' := fun k_ => (P0_3_ k_ ∨ w.heap.size ≤ k_) ∧ some k_ ≠ (.slice (some ad141) x7_17.length co70 : Value).ownBlock ∧ some k_ ≠ (.slice Ao4 l0_3.length co4 : Value).ownBlock) ho1 (fun k_ hk_ => ⟨Or.elim hk_ (fun hs_ => (HO_8.out.1 k_ (hs_).symm).1) (fun hn_ => (.inr (Nat.le_trans (by first | exact HK.out.1 | exact (show Kept w _ (fun k_ => P0_3_ k_) from by repeat (first | (with_reducible first | exact HK.out | apply Kept.alloc | apply Kept.drewN | apply Kept.drew | refine Kept.setCell ?_ (.inr GW112.out) _ | refine Kept.setCell ?_ (.inr GW113.out) _) | exact HK.out)).1) hn_))), Or.elim hk_ (fun hs_ => fun e_ => (((HO_7.out).1 k_ e_.symm).2.1) hs_) (fun hn_ => (Kd.fresh' (Kd.R_lt (by (with_reducible repeat (first | apply Kd.R_alloc | apply Kd.R_drewN | apply Kd.R_drew)); exact HO_7.out)) k_ hn_)), Or.elim hk_ (fun hs_ => fun e_ => (((HO_113003.out).1 k_ e_.symm).2.2) hs_) (fun hn_ => (Kd.fresh' (Kd.R_lt (by (with_reducible repeat (first | apply Kd.R_alloc | apply Kd.R_drewN | apply Kd.R_drew)); exact HO_113003.out)) k_ hn_))⟩))
                            have n8_ := Aside0.mk (Kept.then_ (S := (fun k_ => P0_3_ k_)) (by repeat (first | (with_reducible first | exact HK.out | apply Kept.alloc | apply Kept.drewN | apply Kept.drew | refine Kept.setCell ?_ (.inr GW112.out) _ | refine Kept.setCell ?_ (.inr GW113.out) _) | exact HK.out)) hkp (fun k_ hs_ => (fun e_ => (HO_8.out.1 k_ e_.symm).1) hs_))
                            have n9_ := Aside0.mk (hb)
                            clear HO_7
                            clear HO_113002
                            clear HO_113003
                            clear BK112
                            clear BK113
                            clear HO146
                            clear HK
                            clear HB
                            clear HO_8
                            have HO_7 := n0_
                            have HO_113002 := n1_
                            have HO_113003 := n2_
                            have BK112 := n3_
                            have BK113 := n4_
                            have HO146 := n5_
                            have HO151 := n6_
                            have HO154 := n7_
                            have HK := n8_
                            have HB := n9_
                            clear n0_ n1_ n2_ n3_ n4_ n5_ n6_ n7_ n8_ n9_
                            (try clear hb)
                            (try clear hkp)
                            (try clear ho0)
                            (try clear ho1)
                            obtain ⟨Ao77, co77, eo77⟩ := Kd.N_slice HO151.out
                            (first | subst eo77 | (injection eo77 with f1_ f2_ f3_; have f4_ := f1_.symm; have f5_ := f3_.symm; clear f1_ f2_ f3_; subst f4_; subst f5_))
                            obtain ⟨Ao79, co79, eo79⟩ := Kd.R_slice HO154.out
                            (first | subst eo79 | (injection eo79 with f1_ f2_ f3_; have f4_ := f1_.symm; have f5_ := f3_.symm; clear f1_ f2_ f3_; subst f4_; subst f5_))
                            refine hK.out _ _ ⟨(blk_cell BK112.out 0).trans rfl, (blk_cell BK112.out 1).trans rfl, (blk_cell BK112.out 2).trans rfl, (blk_cell BK112.out 3).trans rfl, (blk_cell BK112.out 4).trans rfl⟩ (fun hHeld => ?_)
                            clear hK K
                            refine norm_ (a' := ?_) ?_ ?_
                            rotate_left
                            · show Act.put _ (some 82) _ = _
                              simp only [Act.put, List.setIfInBounds_toArray, List.set_cons_zero, List.set_cons_succ, i64_w, i32_w]
                              rfl
                            refine one_ (i := 9) (N := none) #[true, true, true, true, true, true, true, true, true, true, false, false] rfl rfl (one_of HT_.out (by kernel_rfl)) (by decide) (fun K hK => ?_)
                            have hs75 : w74.cell? ⟨gb113, 0, none⟩ = some (.int .i64 0) := (blk_cell BK113.out 0).trans rfl
                            have hfs75 := blk_frozen BK113.out 0
                            have hns75_0 := NB112_113.out
                            have hms75_0 := NB113_112.out
                            have hs76 : w74.cell? ⟨gb113, 1, none⟩ = some (.int .i64 0) := (blk_cell BK113.out 1).trans rfl
                            have hfs76 := blk_frozen BK113.out 1
                            have hns76_0 := NB112_113.out
                            have hms76_0 := NB113_112.out
                            have hs78 : w74.cell? ⟨gb113, 2, none⟩ = some (.slice none 0 0) := (blk_cell BK113.out 2).trans rfl
                            have hfs78 := blk_frozen BK113.out 2
                            have hns78_0 := NB112_113.out
                            have hms78_0 := NB113_112.out
                            have hs80 : w74.cell? ⟨gb113, 3, none⟩ = some (.slice none 0 0) := (blk_cell BK113.out 3).trans rfl
                            have hfs80 := blk_frozen BK113.out 3
                            have hns80_0 := NB112_113.out
                            have hms80_0 := NB113_112.out
                            have hs81 : w74.cell? ⟨gb113, 4, none⟩ = some (.int .i64 0) := (blk_cell BK113.out 4).trans rfl
                            have hfs81 := blk_frozen BK113.out 4
                            have hns81_0 := NB112_113.out
                            have hms81_0 := NB113_112.out
                            refine skip_ (w1 := ?_) (by rfl) rfl ?_ ?_
                            rotate_left
                            · go_simp
                              rfl
                            refine hK.out _ _ ⟨((cell_far (p := ⟨gb113, _, none⟩) NB112_113.out _).trans (((cell_far (p := ⟨gb113, _, none⟩) NB112_113.out _).trans (((cell_far (p := ⟨gb113, _, none⟩) NB112_113.out _).trans (((cell_far (p := ⟨gb113, _, none⟩) NB112_113.out _).trans (((cell_far (p := ⟨gb113, _, none⟩) NB112_113.out _).trans (hHeld.1)))))))))), ((cell_far (p := ⟨gb113, _, none⟩) NB112_113.out _).trans (((cell_far (p := ⟨gb113, _, none⟩) NB112_113.out _).trans (((cell_far (p := ⟨gb113, _, none⟩) NB112_113.out _).trans (((cell_far (p := ⟨gb113, _, none⟩) NB112_113.out _).trans (((cell_far (p := ⟨gb113, _, none⟩) NB112_113.out _).trans (hHeld.2.1)))))))))), ((cell_far (p := ⟨gb113, _, none⟩) NB112_113.out _).trans (((cell_far (p := ⟨gb113, _, none⟩) NB112_113.out _).trans (((cell_far (p := ⟨gb113, _, none⟩) NB112_113.out _).trans (((cell_far (p := ⟨gb113, _, none⟩) NB112_113.out _).trans (((cell_far (p := ⟨gb113, _, none⟩) NB112_113.out _).trans (hHeld.2.2.1)))))))))), ((cell_far (p := ⟨gb113, _, none⟩) NB112_113.out _).trans (((cell_far (p := ⟨gb113, _, none⟩) NB112_113.out _).trans (((cell_far (p := ⟨gb113, _, none⟩) NB112_113.out _).trans (((cell_far (p := ⟨gb113, _, none⟩) NB112_113.out _).trans (((cell_far (p := ⟨gb113, _, none⟩) NB112_113.out _).trans (hHeld.2.2.2.1)))))))))), ((cell_far (p := ⟨gb113, _, none⟩) NB112_113.out _).trans (((cell_far (p := ⟨gb113, _, none⟩) NB112_113.out _).trans (((cell_far (p := ⟨gb113, _, none⟩) NB112_113.out _).trans (((cell_far (p := ⟨gb113, _, none⟩) NB112_113.out _).trans (((cell_far (p := ⟨gb113, _, none⟩) NB112_113.out _).trans (hHeld.2.2.2.2))))))))))⟩ (fun hHeld => ?_)
                            clear hK K
                            refine pure_ (i := 10) (N := some 5) (v := ?_) (a' := ?_) #[true, true, true, true, true, true, true, true, true, true, true, false] rfl rfl (any_of HT_.out (by kernel_rfl)) (fun _ _ _ h => h) (Or.inl ⟨by rfl, ?_⟩) ?_ ?_
                            rotate_left
                            · intro w'
                              go_simp
                              with_reducible rfl
                            rotate_left
                            · simp only [Act.put, List.setIfInBounds_toArray, List.set_cons_zero, List.set_cons_succ, i64_w, i32_w]
                              rfl
                            refine pure_ (i := 11) (N := some 6) (v := ?_) (a' := ?_) #[true, true, true, true, true, true, true, true, true, true, true, true] rfl rfl (any_of HT_.out (by kernel_rfl)) (fun _ _ _ h => h) (Or.inl ⟨by rfl, ?_⟩) ?_ ?_
                            rotate_left
                            · intro w'
                              go_simp
                              with_reducible rfl
                            rotate_left
                            · simp only [Act.put, List.setIfInBounds_toArray, List.set_cons_zero, List.set_cons_succ, i64_w, i32_w]
                              rfl
                            refine done_ (done_of HT_.out (by kernel_rfl)) ?_
                            try go_wp2
                            refine bodyPost_ret (results_ctt rfl _ _ gb113 30 #[.int .i64 t147, .int .i64 t148, .slice Ao77 t149.length co77, .slice Ao79 t152.length co79, .int .i64 t155] (0, 0) _ rfl (by (with_reducible repeat (first | refine blk_drewN ?_ _ | refine blk_drew ?_ | refine blk_alloc ?_ _)); refine blk_put (cs := #[.int .i64 t147, .int .i64 t148, .slice Ao77 t149.length co77, .slice Ao79 t152.length co79, .int .i64 0]) ?_ 4 _ rfl; (with_reducible repeat (first | refine blk_drewN ?_ _ | refine blk_drew ?_ | refine blk_alloc ?_ _)); refine blk_put (cs := #[.int .i64 t147, .int .i64 t148, .slice Ao77 t149.length co77, .slice none 0 0, .int .i64 0]) ?_ 3 _ rfl; (with_reducible repeat (first | refine blk_drewN ?_ _ | refine blk_drew ?_ | refine blk_alloc ?_ _)); refine blk_put (cs := #[.int .i64 t147, .int .i64 t148, .slice none 0 0, .slice none 0 0, .int .i64 0]) ?_ 2 _ rfl; (with_reducible repeat (first | refine blk_drewN ?_ _ | refine blk_drew ?_ | refine blk_alloc ?_ _)); refine blk_put (cs := #[.int .i64 t147, .int .i64 0, .slice none 0 0, .slice none 0 0, .int .i64 0]) ?_ 1 _ rfl; (with_reducible repeat (first | refine blk_drewN ?_ _ | refine blk_drew ?_ | refine blk_alloc ?_ _)); refine blk_put (cs := #[.int .i64 0, .int .i64 0, .slice none 0 0, .slice none 0 0, .int .i64 0]) ?_ 0 _ rfl; (with_reducible repeat (first | refine blk_drewN ?_ _ | refine blk_drew ?_ | refine blk_alloc ?_ _)); exact BK113.out) Try.underlying30 rfl (by kernel_rfl)) rfl ?_
                            exact ⟨_, _, by first | rfl | (simp [errW_none, errW_some] <;> rfl) | (simp only [← hji61]; first | rfl | (simp [errW_none, errW_some] <;> rfl)) | (simp [*, errW_none, errW_some] <;> rfl), Kd.N_V (by (with_reducible repeat (first | apply Kd.N_alloc | apply Kd.N_drewN | apply Kd.N_drew)); exact Kd.N_mono (Kd.N_far (p := ⟨gb113, 4, none⟩) (Kd.N_far (p := ⟨gb113, 3, none⟩) (Kd.N_far (p := ⟨gb113, 2, none⟩) (Kd.N_far (p := ⟨gb113, 1, none⟩) (Kd.N_far (p := ⟨gb113, 0, none⟩) (Kd.N_mono HO151.out (fun k_ hk => (⟨hk, hk.2.2.2.2⟩ : _ ∧ k_ ≠ gb113))) (fun _ hk => hk.2) (.int .i64 t147)) (fun _ hk => hk.2) (.int .i64 t148)) (fun _ hk => hk.2) (.slice Ao77 t149.length co77)) (fun _ hk => hk.2) (.slice Ao79 t152.length co79)) (fun _ hk => hk.2) (.int .i64 t155)) (fun _ hk => ⟨hk.1.1, hk.1.2.1⟩)), by (with_reducible repeat (first | apply Kd.R_alloc | apply Kd.R_drewN | apply Kd.R_drew)); exact Kd.R_mono (Kd.R_far (p := ⟨gb113, 4, none⟩) (Kd.R_far (p := ⟨gb113, 3, none⟩) (Kd.R_far (p := ⟨gb113, 2, none⟩) (Kd.R_far (p := ⟨gb113, 1, none⟩) (Kd.R_far (p := ⟨gb113, 0, none⟩) (Kd.R_types HO154.out BK113.out (by decide)) (fun _ hk => hk.2) (.int .i64 t147)) (fun _ hk => hk.2) (.int .i64 t148)) (fun _ hk => hk.2) (.slice Ao77 t149.length co77)) (fun _ hk => hk.2) (.slice Ao79 t152.length co79)) (fun _ hk => hk.2) (.int .i64 t155)) (fun _ hk => hk.1.1), by repeat (first | (with_reducible first | exact HB.out | apply below_alloc | apply pw_below_drewN | apply below_drew1 | refine below_set ?_ GE112.out | refine below_set ?_ GE113.out) | exact HB.out), by repeat (first | (with_reducible first | exact HK.out | apply Kept.alloc | apply Kept.drewN | apply Kept.drew | refine Kept.setCell ?_ (.inr GW112.out) _ | refine Kept.setCell ?_ (.inr GW113.out) _) | exact HK.out)⟩
                          · rw [if_neg c65] at H
                            exact absurd H (by simp)
                        · rw [if_neg c63] at H
                          exact absurd H (by simp)
                      · rw [if_neg c62] at H
                        exact absurd H (by simp)
                    · rw [if_neg c60] at H
                      have c60b0 : decide (0 < (x7_17.length : Int)) = false := decide_eq_false c60
                      have c60b1 : decide (0 < x7_17.length) = false := decide_eq_false (by omega)
                      clear c60
                      by_cases c82 : a0_4 < a0_0
                      · rw [if_pos c82] at H
                        have c82b0 : decide (a0_4 < a0_0) = true := decide_eq_true c82
                        clear c82
                        simp only [Option.some.injEq, Prod.mk.injEq] at H
                        obtain ⟨rfl, rfl, rfl, rfl, rfl, rfl, rfl⟩ := H
                        obtain ⟨Ao83, co83, eo83⟩ := Kd.R_slice HO_8.out
                        subst eo83
                        have hnb84 := NB112_113.out
                        have hnc84 := NB113_112.out
                        have hcz85_0 : wc.cell? ⟨gb112, 0, none⟩ = some (.int .i64 a0_0) := (blk_cell BK112.out 0).trans rfl
                        have hcz85_1 : wc.cell? ⟨gb112, 1, none⟩ = some (.int .i64 a0_1) := (blk_cell BK112.out 1).trans rfl
                        have hcz85_2 : wc.cell? ⟨gb112, 2, none⟩ = some (.slice (some ad117) l0_2.length c0_2) := (blk_cell BK112.out 2).trans rfl
                        have hcz85_3 : wc.cell? ⟨gb112, 3, none⟩ = some (.slice Ao4 l0_3.length co4) := (blk_cell BK112.out 3).trans rfl
                        have hcz85_4 : wc.cell? ⟨gb112, 4, none⟩ = some (.int .i64 a0_4) := (blk_cell BK112.out 4).trans rfl
                        have hfz85_0 := blk_frozen BK112.out 0
                        have hfz85_1 := blk_frozen BK112.out 1
                        have hfz85_2 := blk_frozen BK112.out 2
                        have hfz85_3 := blk_frozen BK112.out 3
                        have hfz85_4 := blk_frozen BK112.out 4
                        obtain ⟨Ao86, co86, eo86⟩ := Kd.R_slice HO_7.out
                        subst eo86
                        try go_wp2
                        have n0_ : Aside0 (Kd.R (Kd.int .i64) 3 ((wc.setCell ⟨gb112, 3, none⟩ (.slice Ao83 x8_17.length co83)).setCell ⟨gb112, 4, none⟩ (.int .i64 (wrap64 (a0_4 + 1)))) w0.heap.size (fun k_ => (P0_3_ k_ ∨ w.heap.size ≤ k_) ∧ some k_ ≠ (.slice Ao83 x8_17.length co83 : Value).ownBlock ∧ some k_ ≠ (.slice Ao4 l0_3.length co4 : Value).ownBlock) (.slice Ao86 x7_17.length co86) x7_17) := ⟨by (with_reducible repeat (first | apply Kd.R_alloc | apply Kd.R_drewN | apply Kd.R_drew)); exact Kd.R_mono (Kd.R_far (p := ⟨gb112, 4, none⟩) (Kd.R_far (p := ⟨gb112, 3, none⟩) (Kd.R_types HO_7.out BK112.out (by decide)) (fun _ hk => hk.2) (.slice Ao83 x8_17.length co83)) (fun _ hk => hk.2) (.int .i64 (wrap64 (a0_4 + 1)))) (fun _ hk => ⟨hk.1.1, ⟨hk.1.2.1, hk.1.2.2⟩⟩)⟩
                        have n1_ : Aside0 (Kd.R (Kd.int .i64) 3 ((wc.setCell ⟨gb112, 3, none⟩ (.slice Ao83 x8_17.length co83)).setCell ⟨gb112, 4, none⟩ (.int .i64 (wrap64 (a0_4 + 1)))) w0.heap.size (fun k_ => (P0_3_ k_ ∨ w.heap.size ≤ k_) ∧ some k_ ≠ (.slice Ao86 x7_17.length co86 : Value).ownBlock ∧ some k_ ≠ (.slice Ao4 l0_3.length co4 : Value).ownBlock) (.slice Ao83 x8_17.length co83) x8_17) := ⟨by (with_reducible repeat (first | apply Kd.R_alloc | apply Kd.R_drewN | apply Kd.R_drew)); exact Kd.R_mono (Kd.R_far (p := ⟨gb112, 4, none⟩) (Kd.R_far (p := ⟨gb112, 3, none⟩) (Kd.R_types HO_8.out BK112.out (by decide)) (fun _ hk => hk.2) (.slice Ao83 x8_17.length co83)) (fun _ hk => hk.2) (.int .i64 (wrap64 (a0_4 + 1)))) (fun _ hk => ⟨hk.1.1, ⟨hk.1.2.1, hk.1.2.2⟩⟩)⟩
                        have n2_ : Aside0 (Kd.V (Kd.slice 3 (Kd.int .i64)) 28 ((wc.setCell ⟨gb112, 3, none⟩ (.slice Ao83 x8_17.length co83)).setCell ⟨gb112, 4, none⟩ (.int .i64 (wrap64 (a0_4 + 1)))) w0.heap.size (fun k_ => ((P0_3_ k_ ∨ P0_2_ k_) ∨ w.heap.size ≤ k_) ∧ some k_ ≠ (.slice Ao86 x7_17.length co86 : Value).ownBlock ∧ some k_ ≠ (.slice Ao83 x8_17.length co83 : Value).ownBlock ∧ some k_ ≠ (.slice Ao4 l0_3.length co4 : Value).ownBlock ∧ k_ ≠ gb112 ∧ k_ ≠ gb113) (.slice (some ad117) l0_2.length c0_2) l0_2) := ⟨by (with_reducible repeat (first | apply Kd.V_alloc | apply Kd.V_drewN | apply Kd.V_drew)); exact Kd.V_mono (Kd.V_far (p := ⟨gb112, 4, none⟩) (Kd.V_far (p := ⟨gb112, 3, none⟩) (Kd.V_mono HO_113002.out (fun k_ hk => (⟨hk, hk.2.2.2.2.1⟩ : _ ∧ k_ ≠ gb112))) (fun _ hk => hk.2) (.slice Ao83 x8_17.length co83)) (fun _ hk => hk.2) (.int .i64 (wrap64 (a0_4 + 1)))) (fun _ hk => ⟨hk.1.1, ⟨hk.1.2.1, ⟨hk.1.2.2.1, ⟨hk.1.2.2.2.1, ⟨hk.1.2.2.2.2.1, hk.1.2.2.2.2.2⟩⟩⟩⟩⟩)⟩
                        have n3_ : Aside0 (Kd.R (Kd.int .i64) 3 ((wc.setCell ⟨gb112, 3, none⟩ (.slice Ao83 x8_17.length co83)).setCell ⟨gb112, 4, none⟩ (.int .i64 (wrap64 (a0_4 + 1)))) w0.heap.size (fun k_ => (P0_3_ k_ ∨ w.heap.size ≤ k_) ∧ some k_ ≠ (.slice Ao86 x7_17.length co86 : Value).ownBlock ∧ some k_ ≠ (.slice Ao83 x8_17.length co83 : Value).ownBlock) (.slice Ao4 l0_3.length co4) l0_3) := ⟨by (with_reducible repeat (first | apply Kd.R_alloc | apply Kd.R_drewN | apply Kd.R_drew)); exact Kd.R_mono (Kd.R_far (p := ⟨gb112, 4, none⟩) (Kd.R_far (p := ⟨gb112, 3, none⟩) (Kd.R_types HO_113003.out BK112.out (by decide)) (fun _ hk => hk.2) (.slice Ao83 x8_17.length co83)) (fun _ hk => hk.2) (.int .i64 (wrap64 (a0_4 + 1)))) (fun _ hk => ⟨hk.1.1, ⟨hk.1.2.1, hk.1.2.2⟩⟩)⟩
                        have n4_ : Aside0 (((wc.setCell ⟨gb112, 3, none⟩ (.slice Ao83 x8_17.length co83)).setCell ⟨gb112, 4, none⟩ (.int .i64 (wrap64 (a0_4 + 1)))).heap[gb112]? = some (.cells #[.int .i64 a0_0, .int .i64 a0_1, .slice (some ad117) l0_2.length c0_2, .slice Ao83 x8_17.length co83, .int .i64 (wrap64 (a0_4 + 1))] 30 (0, 0))) := ⟨by (with_reducible repeat (first | refine blk_drewN ?_ _ | refine blk_drew ?_ | refine blk_alloc ?_ _)); refine blk_put (cs := #[.int .i64 a0_0, .int .i64 a0_1, .slice (some ad117) l0_2.length c0_2, .slice Ao83 x8_17.length co83, .int .i64 a0_4]) ?_ 4 _ rfl; (with_reducible repeat (first | refine blk_drewN ?_ _ | refine blk_drew ?_ | refine blk_alloc ?_ _)); refine blk_put (cs := #[.int .i64 a0_0, .int .i64 a0_1, .slice (some ad117) l0_2.length c0_2, .slice Ao4 l0_3.length co4, .int .i64 a0_4]) ?_ 3 _ rfl; (with_reducible repeat (first | refine blk_drewN ?_ _ | refine blk_drew ?_ | refine blk_alloc ?_ _)); exact BK112.out⟩
                        have n5_ : Aside0 (((wc.setCell ⟨gb112, 3, none⟩ (.slice Ao83 x8_17.length co83)).setCell ⟨gb112, 4, none⟩ (.int .i64 (wrap64 (a0_4 + 1)))).heap[gb113]? = some (.cells #[.int .i64 0, .int .i64 0, .slice none 0 0, .slice none 0 0, .int .i64 0] 30 (0, 0))) := ⟨by (with_reducible repeat (first | refine blk_drewN ?_ _ | refine blk_drew ?_ | refine blk_alloc ?_ _)); refine blk_far ?_ NB113_112.out _; (with_reducible repeat (first | refine blk_drewN ?_ _ | refine blk_drew ?_ | refine blk_alloc ?_ _)); refine blk_far ?_ NB113_112.out _; (with_reducible repeat (first | refine blk_drewN ?_ _ | refine blk_drew ?_ | refine blk_alloc ?_ _)); exact BK113.out⟩
                        have n6_ : Aside0 (Kept w ((wc.setCell ⟨gb112, 3, none⟩ (.slice Ao83 x8_17.length co83)).setCell ⟨gb112, 4, none⟩ (.int .i64 (wrap64 (a0_4 + 1)))) (fun k_ => P0_3_ k_)) := ⟨by repeat (first | (with_reducible first | exact HK.out | apply Kept.alloc | apply Kept.drewN | apply Kept.drew | refine Kept.setCell ?_ (.inr GW112.out) _ | refine Kept.setCell ?_ (.inr GW113.out) _) | exact HK.out)⟩
                        have n7_ : Aside0 (Below w0.heap.size w0 ((wc.setCell ⟨gb112, 3, none⟩ (.slice Ao83 x8_17.length co83)).setCell ⟨gb112, 4, none⟩ (.int .i64 (wrap64 (a0_4 + 1))))) := ⟨by repeat (first | (with_reducible first | exact HB.out | apply below_alloc | apply pw_below_drewN | apply below_drew1 | refine below_set ?_ GE112.out | refine below_set ?_ GE113.out) | exact HB.out)⟩
                        (try clear HO_7)
                        (try clear HO_8)
                        (try clear HO_113002)
                        (try clear HO_113003)
                        (try clear BK112)
                        (try clear BK113)
                        (try clear HK)
                        (try clear HB)
                        generalize ((wc.setCell ⟨gb112, 3, none⟩ (.slice Ao83 x8_17.length co83)).setCell ⟨gb112, 4, none⟩ (.int .i64 (wrap64 (a0_4 + 1)))) = w87 at n0_ n1_ n2_ n3_ n4_ n5_ n6_ n7_ ⊢
                        have HO_7 := n0_
                        have HO_8 := n1_
                        have HO_113002 := n2_
                        have HO_113003 := n3_
                        have BK112 := n4_
                        have BK113 := n5_
                        have HK := n6_
                        have HB := n7_
                        clear n0_ n1_ n2_ n3_ n4_ n5_ n6_ n7_
                        have n0_ := Aside0.mk (Kd.R_drew HO_7.out)
                        have n1_ := Aside0.mk (Kd.R_drew HO_8.out)
                        have n2_ := Aside0.mk (Kd.V_drew HO_113002.out)
                        have n3_ := Aside0.mk (Kd.R_drew HO_113003.out)
                        have n4_ := Aside0.mk (blk_drew BK112.out)
                        have n5_ := Aside0.mk (blk_drew BK113.out)
                        have n6_ := Aside0.mk (Kept.drew HK.out)
                        have n7_ := Aside0.mk (below_drew1 HB.out)
                        clear HO_7
                        clear HO_8
                        clear HO_113002
                        clear HO_113003
                        clear BK112
                        clear BK113
                        clear HK
                        clear HB
                        have HO_7 := n0_
                        have HO_8 := n1_
                        have HO_113002 := n2_
                        have HO_113003 := n3_
                        have BK112 := n4_
                        have BK113 := n5_
                        have HK := n6_
                        have HB := n7_
                        clear n0_ n1_ n2_ n3_ n4_ n5_ n6_ n7_
                        refine start_ (n := 7) (S := fun w' => w'.cell? ⟨gb112, 0, none⟩ = some (.int .i64 a0_0) ∧ w'.cell? ⟨gb112, 1, none⟩ = some (.int .i64 a0_1) ∧ w'.cell? ⟨gb112, 2, none⟩ = some (.slice (some ad117) l0_2.length c0_2) ∧ w'.cell? ⟨gb112, 3, none⟩ = some (.slice Ao83 x8_17.length co83) ∧ w'.cell? ⟨gb112, 4, none⟩ = some (.int .i64 (wrap64 (a0_4 + 1)))) (ds := []) #[false, false, false, false, false, false, false] (by kernel_rfl) rfl rfl ⟨(blk_cell BK112.out 0).trans rfl, (blk_cell BK112.out 1).trans rfl, (blk_cell BK112.out 2).trans rfl, (blk_cell BK112.out 3).trans rfl, (blk_cell BK112.out 4).trans rfl⟩ (fun hHeld => ?_)
                        generalize w87.drew = w88 at HO_7 HO_8 HO_113002 HO_113003 BK112 BK113 HK HB hHeld ⊢
                        refine pure_ (i := 1) (N := some 94) (v := ?_) (a' := ?_) #[false, true, false, false, false, false, false] rfl rfl (by kernel_rfl) (fun _ _ _ h => h) (Or.inl ⟨by rfl, ?_⟩) ?_ ?_
                        rotate_left
                        · intro w'
                          go_simp
                          with_reducible rfl
                        rotate_left
                        · simp only [Act.put, List.setIfInBounds_toArray, List.set_cons_zero, List.set_cons_succ, i64_w, i32_w]
                          rfl
                        refine take_ (i := 0) (N := some 93) (v := ?_) (a' := ?_) #[true, true, false, false, false, false, false] rfl rfl (by kernel_rfl) (fun _ _ _ h => h) (Or.inl ⟨by rfl, ?_⟩) hHeld ?_ ?_
                        rotate_left
                        · rintro w' ⟨s0, s1, s2, s3, s4⟩
                          go_simp
                          with_reducible rfl
                        rotate_left
                        · simp only [Act.put, List.setIfInBounds_toArray, List.set_cons_zero, List.set_cons_succ, i64_w, i32_w]
                          rfl
                        refine take_ (i := 2) (N := some 95) (v := ?_) (a' := ?_) #[true, true, true, false, false, false, false] rfl rfl (by kernel_rfl) (fun _ _ _ h => h) (Or.inl ⟨by rfl, ?_⟩) hHeld ?_ ?_
                        rotate_left
                        · rintro w' ⟨s0, s1, s2, s3, s4⟩
                          go_simp
                          with_reducible rfl
                        rotate_left
                        · simp only [Act.put, List.setIfInBounds_toArray, List.set_cons_zero, List.set_cons_succ, i64_w, i32_w]
                          rfl
                        refine pure_ (i := 3) (N := some 96) (v := ?_) (a' := ?_) #[true, true, true, true, false, false, false] rfl rfl (by kernel_rfl) (fun _ _ _ h => h) (Or.inl ⟨by rfl, ?_⟩) ?_ ?_
                        rotate_left
                        · intro w'
                          go_simp
                          with_reducible rfl
                        rotate_left
                        · simp only [Act.put, List.setIfInBounds_toArray, List.set_cons_zero, List.set_cons_succ, i64_w, i32_w]
                          rfl
                        refine one_ (i := 4) (N := none) #[true, true, true, true, true, false, false] rfl rfl (by kernel_rfl) (by decide) (fun K hK => ?_)
                        have hs89 : w88.cell? ⟨gb113, 0, none⟩ = some (.int .i64 0) := (blk_cell BK113.out 0).trans rfl
                        have hfs89 := blk_frozen BK113.out 0
                        have hns89_0 := NB112_113.out
                        have hms89_0 := NB113_112.out
                        have hs90 : w88.cell? ⟨gb113, 1, none⟩ = some (.int .i64 0) := (blk_cell BK113.out 1).trans rfl
                        have hfs90 := blk_frozen BK113.out 1
                        have hns90_0 := NB112_113.out
                        have hms90_0 := NB113_112.out
                        have hs91 : w88.cell? ⟨gb113, 2, none⟩ = some (.slice none 0 0) := (blk_cell BK113.out 2).trans rfl
                        have hfs91 := blk_frozen BK113.out 2
                        have hns91_0 := NB112_113.out
                        have hms91_0 := NB113_112.out
                        have hs92 : w88.cell? ⟨gb113, 3, none⟩ = some (.slice none 0 0) := (blk_cell BK113.out 3).trans rfl
                        have hfs92 := blk_frozen BK113.out 3
                        have hns92_0 := NB112_113.out
                        have hms92_0 := NB113_112.out
                        have hs93 : w88.cell? ⟨gb113, 4, none⟩ = some (.int .i64 0) := (blk_cell BK113.out 4).trans rfl
                        have hfs93 := blk_frozen BK113.out 4
                        have hns93_0 := NB112_113.out
                        have hms93_0 := NB113_112.out
                        refine skip_ (w1 := ?_) (by rfl) rfl ?_ ?_
                        rotate_left
                        · go_simp
                          rfl
                        refine hK.out _ _ ⟨((cell_far (p := ⟨gb113, _, none⟩) NB112_113.out _).trans (((cell_far (p := ⟨gb113, _, none⟩) NB112_113.out _).trans (((cell_far (p := ⟨gb113, _, none⟩) NB112_113.out _).trans (((cell_far (p := ⟨gb113, _, none⟩) NB112_113.out _).trans (((cell_far (p := ⟨gb113, _, none⟩) NB112_113.out _).trans (hHeld.1)))))))))), ((cell_far (p := ⟨gb113, _, none⟩) NB112_113.out _).trans (((cell_far (p := ⟨gb113, _, none⟩) NB112_113.out _).trans (((cell_far (p := ⟨gb113, _, none⟩) NB112_113.out _).trans (((cell_far (p := ⟨gb113, _, none⟩) NB112_113.out _).trans (((cell_far (p := ⟨gb113, _, none⟩) NB112_113.out _).trans (hHeld.2.1)))))))))), ((cell_far (p := ⟨gb113, _, none⟩) NB112_113.out _).trans (((cell_far (p := ⟨gb113, _, none⟩) NB112_113.out _).trans (((cell_far (p := ⟨gb113, _, none⟩) NB112_113.out _).trans (((cell_far (p := ⟨gb113, _, none⟩) NB112_113.out _).trans (((cell_far (p := ⟨gb113, _, none⟩) NB112_113.out _).trans (hHeld.2.2.1)))))))))), ((cell_far (p := ⟨gb113, _, none⟩) NB112_113.out _).trans (((cell_far (p := ⟨gb113, _, none⟩) NB112_113.out _).trans (((cell_far (p := ⟨gb113, _, none⟩) NB112_113.out _).trans (((cell_far (p := ⟨gb113, _, none⟩) NB112_113.out _).trans (((cell_far (p := ⟨gb113, _, none⟩) NB112_113.out _).trans (hHeld.2.2.2.1)))))))))), ((cell_far (p := ⟨gb113, _, none⟩) NB112_113.out _).trans (((cell_far (p := ⟨gb113, _, none⟩) NB112_113.out _).trans (((cell_far (p := ⟨gb113, _, none⟩) NB112_113.out _).trans (((cell_far (p := ⟨gb113, _, none⟩) NB112_113.out _).trans (((cell_far (p := ⟨gb113, _, none⟩) NB112_113.out _).trans (hHeld.2.2.2.2))))))))))⟩ (fun hHeld => ?_)
                        clear hK K
                        refine pure_ (i := 5) (N := some 5) (v := ?_) (a' := ?_) #[true, true, true, true, true, true, false] rfl rfl (by kernel_rfl) (fun _ _ _ h => h) (Or.inl ⟨by rfl, ?_⟩) ?_ ?_
                        rotate_left
                        · intro w'
                          go_simp
                          with_reducible rfl
                        rotate_left
                        · simp only [Act.put, List.setIfInBounds_toArray, List.set_cons_zero, List.set_cons_succ, i64_w, i32_w]
                          rfl
                        refine pure_ (i := 6) (N := some 6) (v := ?_) (a' := ?_) #[true, true, true, true, true, true, true] rfl rfl (by kernel_rfl) (fun _ _ _ h => h) (Or.inl ⟨by rfl, ?_⟩) ?_ ?_
                        rotate_left
                        · intro w'
                          go_simp
                          with_reducible rfl
                        rotate_left
                        · simp only [Act.put, List.setIfInBounds_toArray, List.set_cons_zero, List.set_cons_succ, i64_w, i32_w]
                          rfl
                        refine done_ (by kernel_rfl) ?_
                        try go_wp2
                        refine bodyPost_ret (results_ctt rfl _ _ gb113 30 #[.int .i64 a0_0, .int .i64 a0_1, .slice (some ad117) l0_2.length c0_2, .slice Ao83 x8_17.length co83, .int .i64 (wrap64 (a0_4 + 1))] (0, 0) _ rfl (by (with_reducible repeat (first | refine blk_drewN ?_ _ | refine blk_drew ?_ | refine blk_alloc ?_ _)); refine blk_put (cs := #[.int .i64 a0_0, .int .i64 a0_1, .slice (some ad117) l0_2.length c0_2, .slice Ao83 x8_17.length co83, .int .i64 0]) ?_ 4 _ rfl; (with_reducible repeat (first | refine blk_drewN ?_ _ | refine blk_drew ?_ | refine blk_alloc ?_ _)); refine blk_put (cs := #[.int .i64 a0_0, .int .i64 a0_1, .slice (some ad117) l0_2.length c0_2, .slice none 0 0, .int .i64 0]) ?_ 3 _ rfl; (with_reducible repeat (first | refine blk_drewN ?_ _ | refine blk_drew ?_ | refine blk_alloc ?_ _)); refine blk_put (cs := #[.int .i64 a0_0, .int .i64 a0_1, .slice none 0 0, .slice none 0 0, .int .i64 0]) ?_ 2 _ rfl; (with_reducible repeat (first | refine blk_drewN ?_ _ | refine blk_drew ?_ | refine blk_alloc ?_ _)); refine blk_put (cs := #[.int .i64 a0_0, .int .i64 0, .slice none 0 0, .slice none 0 0, .int .i64 0]) ?_ 1 _ rfl; (with_reducible repeat (first | refine blk_drewN ?_ _ | refine blk_drew ?_ | refine blk_alloc ?_ _)); refine blk_put (cs := #[.int .i64 0, .int .i64 0, .slice none 0 0, .slice none 0 0, .int .i64 0]) ?_ 0 _ rfl; (with_reducible repeat (first | refine blk_drewN ?_ _ | refine blk_drew ?_ | refine blk_alloc ?_ _)); exact BK113.out) Try.underlying30 rfl (by kernel_rfl)) rfl ?_
                        exact ⟨_, _, by first | rfl | (simp [errW_none, errW_some] <;> rfl) | (simp [*, errW_none, errW_some] <;> rfl), by (with_reducible repeat (first | apply Kd.V_alloc | apply Kd.V_drewN | apply Kd.V_drew)); exact Kd.V_mono (Kd.V_far (p := ⟨gb113, 4, none⟩) (Kd.V_far (p := ⟨gb113, 3, none⟩) (Kd.V_far (p := ⟨gb113, 2, none⟩) (Kd.V_far (p := ⟨gb113, 1, none⟩) (Kd.V_far (p := ⟨gb113, 0, none⟩) (Kd.V_mono HO_113002.out (fun k_ hk => (⟨hk, hk.2.2.2.2.2⟩ : _ ∧ k_ ≠ gb113))) (fun _ hk => hk.2) (.int .i64 a0_0)) (fun _ hk => hk.2) (.int .i64 a0_1)) (fun _ hk => hk.2) (.slice (some ad117) l0_2.length c0_2)) (fun _ hk => hk.2) (.slice Ao83 x8_17.length co83)) (fun _ hk => hk.2) (.int .i64 (wrap64 (a0_4 + 1)))) (fun _ hk => ⟨hk.1.1, hk.1.2.2.1⟩), by (with_reducible repeat (first | apply Kd.R_alloc | apply Kd.R_drewN | apply Kd.R_drew)); exact Kd.R_mono (Kd.R_far (p := ⟨gb113, 4, none⟩) (Kd.R_far (p := ⟨gb113, 3, none⟩) (Kd.R_far (p := ⟨gb113, 2, none⟩) (Kd.R_far (p := ⟨gb113, 1, none⟩) (Kd.R_far (p := ⟨gb113, 0, none⟩) (Kd.R_types HO_8.out BK113.out (by decide)) (fun _ hk => hk.2) (.int .i64 a0_0)) (fun _ hk => hk.2) (.int .i64 a0_1)) (fun _ hk => hk.2) (.slice (some ad117) l0_2.length c0_2)) (fun _ hk => hk.2) (.slice Ao83 x8_17.length co83)) (fun _ hk => hk.2) (.int .i64 (wrap64 (a0_4 + 1)))) (fun _ hk => hk.1.1), by repeat (first | (with_reducible first | exact HB.out | apply below_alloc | apply pw_below_drewN | apply below_drew1 | refine below_set ?_ GE112.out | refine below_set ?_ GE113.out) | exact HB.out), by repeat (first | (with_reducible first | exact HK.out | apply Kept.alloc | apply Kept.drewN | apply Kept.drew | refine Kept.setCell ?_ (.inr GW112.out) _ | refine Kept.setCell ?_ (.inr GW113.out) _) | exact HK.out)⟩
                      · rw [if_neg c82] at H
                        have c82b0 : decide (a0_4 < a0_0) = false := decide_eq_false c82
                        clear c82
                        simp only [Option.some.injEq, Prod.mk.injEq] at H
                        obtain ⟨rfl, rfl, rfl, rfl, rfl, rfl, rfl⟩ := H
                        obtain ⟨Ao94, co94, eo94⟩ := Kd.R_slice HO_8.out
                        subst eo94
                        have hnb95 := NB112_113.out
                        have hnc95 := NB113_112.out
                        have hcz96_0 : wc.cell? ⟨gb112, 0, none⟩ = some (.int .i64 a0_0) := (blk_cell BK112.out 0).trans rfl
                        have hcz96_1 : wc.cell? ⟨gb112, 1, none⟩ = some (.int .i64 a0_1) := (blk_cell BK112.out 1).trans rfl
                        have hcz96_2 : wc.cell? ⟨gb112, 2, none⟩ = some (.slice (some ad117) l0_2.length c0_2) := (blk_cell BK112.out 2).trans rfl
                        have hcz96_3 : wc.cell? ⟨gb112, 3, none⟩ = some (.slice Ao4 l0_3.length co4) := (blk_cell BK112.out 3).trans rfl
                        have hcz96_4 : wc.cell? ⟨gb112, 4, none⟩ = some (.int .i64 a0_4) := (blk_cell BK112.out 4).trans rfl
                        have hfz96_0 := blk_frozen BK112.out 0
                        have hfz96_1 := blk_frozen BK112.out 1
                        have hfz96_2 := blk_frozen BK112.out 2
                        have hfz96_3 := blk_frozen BK112.out 3
                        have hfz96_4 := blk_frozen BK112.out 4
                        obtain ⟨Ao97, co97, eo97⟩ := Kd.R_slice HO_7.out
                        subst eo97
                        have hcz98_0 : wc.cell? ⟨gb113, 0, none⟩ = some (.int .i64 0) := (blk_cell BK113.out 0).trans rfl
                        have hcz98_1 : wc.cell? ⟨gb113, 1, none⟩ = some (.int .i64 0) := (blk_cell BK113.out 1).trans rfl
                        have hcz98_2 : wc.cell? ⟨gb113, 2, none⟩ = some (.slice none 0 0) := (blk_cell BK113.out 2).trans rfl
                        have hcz98_3 : wc.cell? ⟨gb113, 3, none⟩ = some (.slice none 0 0) := (blk_cell BK113.out 3).trans rfl
                        have hcz98_4 : wc.cell? ⟨gb113, 4, none⟩ = some (.int .i64 0) := (blk_cell BK113.out 4).trans rfl
                        have hfz98_0 := blk_frozen BK113.out 0
                        have hfz98_1 := blk_frozen BK113.out 1
                        have hfz98_2 := blk_frozen BK113.out 2
                        have hfz98_3 := blk_frozen BK113.out 3
                        have hfz98_4 := blk_frozen BK113.out 4
                        go_wp2
                        refine bodyPost_ret (results_ctt rfl _ _ gb113 30 #[.int .i64 a0_0, .int .i64 a0_1, .slice (some ad117) l0_2.length c0_2, .slice Ao94 x8_17.length co94, .int .i64 a0_4] (0, 0) _ rfl (by (with_reducible repeat (first | refine blk_drewN ?_ _ | refine blk_drew ?_ | refine blk_alloc ?_ _)); refine blk_put (cs := #[.int .i64 a0_0, .int .i64 a0_1, .slice (some ad117) l0_2.length c0_2, .slice Ao94 x8_17.length co94, .int .i64 0]) ?_ 4 _ rfl; (with_reducible repeat (first | refine blk_drewN ?_ _ | refine blk_drew ?_ | refine blk_alloc ?_ _)); refine blk_put (cs := #[.int .i64 a0_0, .int .i64 a0_1, .slice (some ad117) l0_2.length c0_2, .slice none 0 0, .int .i64 0]) ?_ 3 _ rfl; (with_reducible repeat (first | refine blk_drewN ?_ _ | refine blk_drew ?_ | refine blk_alloc ?_ _)); refine blk_put (cs := #[.int .i64 a0_0, .int .i64 a0_1, .slice none 0 0, .slice none 0 0, .int .i64 0]) ?_ 2 _ rfl; (with_reducible repeat (first | refine blk_drewN ?_ _ | refine blk_drew ?_ | refine blk_alloc ?_ _)); refine blk_put (cs := #[.int .i64 a0_0, .int .i64 0, .slice none 0 0, .slice none 0 0, .int .i64 0]) ?_ 1 _ rfl; (with_reducible repeat (first | refine blk_drewN ?_ _ | refine blk_drew ?_ | refine blk_alloc ?_ _)); refine blk_put (cs := #[.int .i64 0, .int .i64 0, .slice none 0 0, .slice none 0 0, .int .i64 0]) ?_ 0 _ rfl; (with_reducible repeat (first | refine blk_drewN ?_ _ | refine blk_drew ?_ | refine blk_alloc ?_ _)); refine blk_far ?_ NB113_112.out _; (with_reducible repeat (first | refine blk_drewN ?_ _ | refine blk_drew ?_ | refine blk_alloc ?_ _)); exact BK113.out) Try.underlying30 rfl (by kernel_rfl)) rfl ?_
                        exact ⟨_, _, by first | rfl | (simp [errW_none, errW_some] <;> rfl) | (simp [*, errW_none, errW_some] <;> rfl), by (with_reducible repeat (first | apply Kd.V_alloc | apply Kd.V_drewN | apply Kd.V_drew)); exact Kd.V_mono (Kd.V_far (p := ⟨gb113, 4, none⟩) (Kd.V_far (p := ⟨gb113, 3, none⟩) (Kd.V_far (p := ⟨gb113, 2, none⟩) (Kd.V_far (p := ⟨gb113, 1, none⟩) (Kd.V_far (p := ⟨gb113, 0, none⟩) (Kd.V_far (p := ⟨gb112, 3, none⟩) (Kd.V_mono (Kd.V_mono HO_113002.out (fun k_ hk => (⟨hk, hk.2.2.2.2.1⟩ : _ ∧ k_ ≠ gb112))) (fun k_ hk => (⟨hk, hk.1.2.2.2.2.2⟩ : _ ∧ k_ ≠ gb113))) (fun _ hk => hk.1.2) (.slice Ao94 x8_17.length co94)) (fun _ hk => hk.2) (.int .i64 a0_0)) (fun _ hk => hk.2) (.int .i64 a0_1)) (fun _ hk => hk.2) (.slice (some ad117) l0_2.length c0_2)) (fun _ hk => hk.2) (.slice Ao94 x8_17.length co94)) (fun _ hk => hk.2) (.int .i64 a0_4)) (fun _ hk => ⟨hk.1.1.1, hk.1.1.2.2.1⟩), by (with_reducible repeat (first | apply Kd.R_alloc | apply Kd.R_drewN | apply Kd.R_drew)); exact Kd.R_mono (Kd.R_far (p := ⟨gb113, 4, none⟩) (Kd.R_far (p := ⟨gb113, 3, none⟩) (Kd.R_far (p := ⟨gb113, 2, none⟩) (Kd.R_far (p := ⟨gb113, 1, none⟩) (Kd.R_far (p := ⟨gb113, 0, none⟩) (Kd.R_far (p := ⟨gb112, 3, none⟩) (Kd.R_types (Kd.R_types HO_8.out BK112.out (by decide)) BK113.out (by decide)) (fun _ hk => hk.1.2) (.slice Ao94 x8_17.length co94)) (fun _ hk => hk.2) (.int .i64 a0_0)) (fun _ hk => hk.2) (.int .i64 a0_1)) (fun _ hk => hk.2) (.slice (some ad117) l0_2.length c0_2)) (fun _ hk => hk.2) (.slice Ao94 x8_17.length co94)) (fun _ hk => hk.2) (.int .i64 a0_4)) (fun _ hk => hk.1.1.1), by repeat (first | (with_reducible first | exact HB.out | apply below_alloc | apply pw_below_drewN | apply below_drew1 | refine below_set ?_ GE112.out | refine below_set ?_ GE113.out) | exact HB.out), by repeat (first | (with_reducible first | exact HK.out | apply Kept.alloc | apply Kept.drewN | apply Kept.drew | refine Kept.setCell ?_ (.inr GW112.out) _ | refine Kept.setCell ?_ (.inr GW113.out) _) | exact HK.out)⟩
              · rw [if_neg c17] at H
                exact absurd H (by simp)
            · rw [if_neg c16] at H
              exact absurd H (by simp)
          · rw [if_neg c15] at H
            exact absurd H (by simp)
        · rw [if_neg c14] at H
          exact absurd H (by simp)

end Go.Proofs.Ytfajhdcambkbpaa.PPoolR
