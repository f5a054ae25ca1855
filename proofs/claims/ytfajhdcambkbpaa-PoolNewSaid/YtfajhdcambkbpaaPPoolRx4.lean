-- Out of the translation, by a program of this session.
import Derived.Test.YtfajhdcambkbpaaPPoolRx0
import Derived.Test.YtfajhdcambkbpaaPPoolRx1
import Derived.Test.YtfajhdcambkbpaaPPoolRx3
namespace Go.Proofs.Ytfajhdcambkbpaa.PPoolR
open Go.RowKit Go.Proofs.YtfajhdcambkbpaaW.PrintWords Go.Proofs.YtfajhdcambkbpaaW.PrintLast Go.Proofs.YtfajhdcambkbpaaW.PrintMore
attribute [local go_sem] max2_int min2_int max_two min_two max_three min_three max_four min_four   -- for this text's walks alone
set_option linter.unusedVariables false
set_option linter.unusedSimpArgs false

/-! ### handoffref05_Give: function 9 -/
mutual
def handoffref05_Give.j0 : Nat → Int → Int → Bool → Int → Int → List (List Int) → List Int → Int → Option (Int × Int × (List (List Int)) × List Int × Int × Bool)
  | 0, _, _, _, _, _, _, _, _ => none
  | k + 1, x1, x2, x24, x174000, x174001, x174002, x174003, x174004 => if x24 = true then (some (x174000, x174001, x174002, x174003, x174004, false)) else ((some (([] : List Int) : List Int)).bind fun y176 => (if 0 ≤ x1 then (if x1 < (x174002.length : Int) then (if y176.length + (rd_L1 x174002 x1).length < 17592186044416 then ((some (y176 ++ (rd_L1 x174002 x1) : List Int)).bind fun y180 => ((some (([] : List Int) : List Int)).bind fun y183 => (if y183.length + x174003.length < 17592186044416 then ((some (y183 ++ x174003 : List Int)).bind fun y186 => (if (y180.length : Int) = x174001 then (handoffref05_Give.l0 k x1 x2 y180 y186 x174000 x174001 x174002 x174003 x174004) else (if y180.length < 17592186044416 then ((handoffref05_with.f x174000 x174001 x174002 y186 x174004 x1 (y180 ++ [x2])).bind fun bt211 => (some (bt211.1, bt211.2.1, bt211.2.2.1, bt211.2.2.2.1, bt211.2.2.2.2, true))) else (none)))) else (none)))) else (none)) else (none)) else (none)))
def handoffref05_Give.l0 : Nat → Int → Int → List Int → List Int → Int → Int → List (List Int) → List Int → Int → Option (Int × Int × (List (List Int)) × List Int × Int × Bool)
  | 0, _, _, _, _, _, _, _, _, _ => none
  | k + 1, x1, x2, x8, x9, x174000, x174001, x174002, x174003, x174004 => if (x8.length : Int) > (wrap64 (Int.tdiv x174001 2)) then (if 0 ≤ (wrap64 ((x8.length : Int) - 1)) then (if (wrap64 ((x8.length : Int) - 1)) < (x8.length : Int) then (if x9.length < 17592186044416 then (if (wrap64 ((x8.length : Int) - 1)) ≤ (x8.length : Int) then (handoffref05_Give.l0 k x1 x2 (x8.take ((wrap64 ((x8.length : Int) - 1)) : Int).toNat) (x9 ++ [rd x8 (wrap64 ((x8.length : Int) - 1))]) x174000 x174001 x174002 x174003 x174004) else (none)) else (none)) else (none)) else (none)) else (if x8.length < 17592186044416 then ((handoffref05_with.f x174000 x174001 x174002 x9 x174004 x1 (x8 ++ [x2])).bind fun bt199 => (some (bt199.1, bt199.2.1, bt199.2.2.1, bt199.2.2.2.1, bt199.2.2.2.2, true))) else (none))
end
def handoffref05_Give.f (k : Nat) (a0_0 : Int) (a0_1 : Int) (l0_2 : List (List Int)) (l0_3 : List Int) (a0_4 : Int) (a1 : Int) (a2 : Int) : Option (Int × Int × (List (List Int)) × List Int × Int × Bool) := if a1 < 0 then (handoffref05_Give.j0 k a1 a2 true a0_0 a0_1 l0_2 l0_3 a0_4) else (if a1 ≥ (l0_2.length : Int) then (handoffref05_Give.j0 k a1 a2 true a0_0 a0_1 l0_2 l0_3 a0_4) else ((handoffref05_Live.f k a0_0 a0_1 l0_2 l0_3 a0_4 a2).bind fun t175 => (handoffref05_Give.j0 k a1 a2 (!t175) a0_0 a0_1 l0_2 l0_3 a0_4)))
theorem handoffref05_Give.mono_l : ∀ k, (∀ y0 y1 y2 y3 y4 y5 y6 y7, LeO (handoffref05_Give.j0 k y0 y1 y2 y3 y4 y5 y6 y7) (handoffref05_Give.j0 (k + 1) y0 y1 y2 y3 y4 y5 y6 y7)) ∧ (∀ y0 y1 y2 y3 y4 y5 y6 y7 y8, LeO (handoffref05_Give.l0 k y0 y1 y2 y3 y4 y5 y6 y7 y8) (handoffref05_Give.l0 (k + 1) y0 y1 y2 y3 y4 y5 y6 y7 y8))
  | 0 => ⟨fun _ _ _ _ _ _ _ _ r h => by simp [handoffref05_Give.j0] at h, fun _ _ _ _ _ _ _ _ _ r h => by simp [handoffref05_Give.l0] at h⟩
  | k + 1 => by
    obtain ⟨ih0, ih1⟩ := handoffref05_Give.mono_l k
    refine ⟨?_, ?_⟩
    · intro y0 y1 y2 y3 y4 y5 y6 y7
      unfold handoffref05_Give.j0
      repeat' first
      | (with_reducible exact ih0 _ _ _ _ _ _ _ _)
      | (with_reducible exact ih1 _ _ _ _ _ _ _ _ _)
      | (with_reducible exact handoffref05_Live.mono _ _ _ _ _ _ _)
      | (with_reducible exact LeO.refl _)
      | (with_reducible exact LeO.none _)
      | (with_reducible refine LeO.ite ?_ ?_)
      | (with_reducible refine LeO.bind ?_ (fun _ => ?_))
      | exact ih0 _ _ _ _ _ _ _ _
      | exact ih1 _ _ _ _ _ _ _ _ _
      | exact handoffref05_Live.mono _ _ _ _ _ _ _
      | exact LeO.none _
      | refine LeO.ite ?_ ?_
      | refine LeO.bind ?_ (fun _ => ?_)
    · intro y0 y1 y2 y3 y4 y5 y6 y7 y8
      unfold handoffref05_Give.l0
      repeat' first
      | (with_reducible exact ih0 _ _ _ _ _ _ _ _)
      | (with_reducible exact ih1 _ _ _ _ _ _ _ _ _)
      | (with_reducible exact handoffref05_Live.mono _ _ _ _ _ _ _)
      | (with_reducible exact LeO.refl _)
      | (with_reducible exact LeO.none _)
      | (with_reducible refine LeO.ite ?_ ?_)
      | (with_reducible refine LeO.bind ?_ (fun _ => ?_))
      | exact ih0 _ _ _ _ _ _ _ _
      | exact ih1 _ _ _ _ _ _ _ _ _
      | exact handoffref05_Live.mono _ _ _ _ _ _ _
      | exact LeO.none _
      | refine LeO.ite ?_ ?_
      | refine LeO.bind ?_ (fun _ => ?_)
theorem handoffref05_Give.mono : ∀ a0 a1 a2 a3 a4 a5 a6 k, LeO (handoffref05_Give.f k a0 a1 a2 a3 a4 a5 a6) (handoffref05_Give.f (k + 1) a0 a1 a2 a3 a4 a5 a6) := by
  intro a0 a1 a2 a3 a4 a5 a6 k
  obtain ⟨ih0, ih1⟩ := handoffref05_Give.mono_l k
  unfold handoffref05_Give.f
  repeat' first
      | (with_reducible exact ih0 _ _ _ _ _ _ _ _)
      | (with_reducible exact ih1 _ _ _ _ _ _ _ _ _)
      | (with_reducible exact handoffref05_Live.mono _ _ _ _ _ _ _)
      | (with_reducible exact LeO.refl _)
      | (with_reducible exact LeO.none _)
      | (with_reducible refine LeO.ite ?_ ?_)
      | (with_reducible refine LeO.bind ?_ (fun _ => ?_))
      | exact ih0 _ _ _ _ _ _ _ _
      | exact ih1 _ _ _ _ _ _ _ _ _
      | exact handoffref05_Live.mono _ _ _ _ _ _ _
      | exact LeO.none _
      | refine LeO.ite ?_ ?_
      | refine LeO.bind ?_ (fun _ => ?_)
def handoffref05_Give.T10 : Bool × List (List Nat × List Nat) := (true, [([], []), ([], []), ([], []), ([], []), ([3], [3]), ([2, 4], [2, 4]), ([0, 1, 5, 5], [0, 1, 5]), ([6, 6, 0, 1, 2, 3, 4, 5, 6], [6]), ([7, 0, 1, 2, 3, 4, 5, 6, 7], [])])
def handoffref05_Give.B10 : List Nat := [0, 0, 0, 0, 8, 28, 63, 127, 255]
theorem handoffref05_Give.tab10 : rtab .any (opsOf Try.f9 10) = handoffref05_Give.T10 := by kernel_rfl
theorem handoffref05_Give.bits10 : waitsOk handoffref05_Give.T10.2 handoffref05_Give.B10 = true := by kernel_rfl
set_option maxHeartbeats 8000000 in
set_option maxRecDepth 100000 in
theorem handoffref05_Give.calls (k : Nat) (a0_0 : Int) (a0_1 : Int) (P0_2_ : Nat → Prop) (A0_2 : Option Addr) (c0_2 : Nat) (l0_2 : List (List Int)) (P0_3_ : Nat → Prop) (u9000_ : Value) (l0_3 : List Int) (a0_4 : Int) (a1 : Int) (a2 : Int) (r1 : Int) (r2 : Int) (r3 : List (List Int)) (r4 : List Int) (r5 : Int) (r6 : Bool) (w0 w : World) (hB : Below w0.heap.size w0 w) (hs0_2 : Kd.V (Kd.slice 3 (Kd.int .i64)) 28 w w0.heap.size (fun k_ => P0_2_ k_ ∧ some k_ ≠ (u9000_ : Value).ownBlock) (.slice A0_2 l0_2.length c0_2) l0_2) (ho0_3 : Kd.R (Kd.int .i64) 3 w w0.heap.size P0_3_ u9000_ l0_3) (h : handoffref05_Give.f k a0_0 a0_1 l0_2 l0_3 a0_4 a1 a2 = some (r1, r2, r3, r4, r5, r6)) :
    Calls Try.prog 9 #[.agg #[.int .i64 a0_0, .int .i64 a0_1, .slice A0_2 l0_2.length c0_2, u9000_, .int .i64 a0_4], .int .i64 a1, .int .i64 a2] w fun e w' => ∃ v2_ v3_ : Value, e = .returned (.tuple #[.agg #[.int .i64 r1, .int .i64 r2, v2_, v3_, .int .i64 r5], .bool r6]) ∧ Kd.V (Kd.slice 3 (Kd.int .i64)) 28 w' w0.heap.size (fun k_ => ((P0_3_ k_ ∨ P0_2_ k_) ∨ w.heap.size ≤ k_) ∧ some k_ ≠ (v3_ : Value).ownBlock) v2_ r3 ∧ Kd.R (Kd.int .i64) 3 w' w0.heap.size (fun k_ => (P0_3_ k_ ∨ w.heap.size ≤ k_)) v3_ r4 ∧ Below w0.heap.size w0 w' ∧ Kept w w' (fun k_ => P0_3_ k_) := by
  have hu30 := Try.underlying30
  have HO0_2 := Aside0.mk (show Kd.V (Kd.slice 3 (Kd.int .i64)) 28 w w0.heap.size (fun k_ => ((P0_3_ k_ ∨ P0_2_ k_) ∨ w.heap.size ≤ k_) ∧ some k_ ≠ (u9000_ : Value).ownBlock) (.slice A0_2 l0_2.length c0_2) l0_2 from Kd.V_mono hs0_2 (fun k_ hk => ⟨.inl (.inr hk.1), hk.2⟩))
  have HO0_3 := Aside0.mk (show Kd.R (Kd.int .i64) 3 w w0.heap.size (fun k_ => (P0_3_ k_ ∨ w.heap.size ≤ k_)) u9000_ l0_3 from Kd.R_mono ho0_3 (fun k_ hk => (.inl hk)))
  have HK := Aside0.mk (Kept.refl w (fun k_ => P0_3_ k_))
  have HW0 := Aside0.mk hB.size
  have HB := Aside0.mk hB
  clear hB
  have H : (if a1 < 0 then (handoffref05_Give.j0 k a1 a2 true a0_0 a0_1 l0_2 l0_3 a0_4) else (if a1 ≥ (l0_2.length : Int) then (handoffref05_Give.j0 k a1 a2 true a0_0 a0_1 l0_2 l0_3 a0_4) else ((handoffref05_Live.f k a0_0 a0_1 l0_2 l0_3 a0_4 a2).bind fun t175 => (handoffref05_Give.j0 k a1 a2 (!t175) a0_0 a0_1 l0_2 l0_3 a0_4)))) = some (r1, r2, r3, r4, r5, r6) := h
  clear h
  have HC4 := Aside0.mk H
  clear H
  obtain ⟨Ao5, co5, eo5⟩ := Kd.R_slice HO0_3.out
  subst eo5
  go_enter Try.func9, Try.ntmps9
  go_upto_region 1 with (first | ((with_reducible refine gate_dst (N := 3) rfl ?_); (try (refine gate_guard (by rfl) ?_; dsimp only)); refine box_event ?hg (N := 3) ?hd (cs := #[.int .i64 a0_0, .int .i64 a0_1, .slice A0_2 l0_2.length c0_2, .slice Ao5 l0_3.length co5, .int .i64 a0_4]) (t := 30) ?hr ?_; (case hd => rfl); (case hg => rfl); (case hr => first | (go_simp; done) | (go_simp; rfl)); intro gb173 hg w6 hbox hb; have n0_ := Aside0.mk (Kd.R_below (by (with_reducible repeat (first | apply Kd.R_alloc | apply Kd.R_drewN | apply Kd.R_drew)); exact HO0_3.out) hb); have n1_ := Aside0.mk (Kd.V_below (Kd.V_elderB (by (with_reducible repeat (first | apply Kd.V_alloc | apply Kd.V_drewN | apply Kd.V_drew)); exact HO0_2.out) gb173 (Nat.le_of_eq hg.symm)) hb); have n2_ := Aside0.mk (Kept.below (S := (fun k_ => P0_3_ k_)) (by repeat (first | (with_reducible first | exact HK.out | apply Kept.alloc | apply Kept.drewN | apply Kept.drew) | exact HK.out)) hb); have n3_ := Aside0.mk (below_step (by repeat (first | (with_reducible first | exact HB.out | apply below_alloc | apply pw_below_drewN | apply below_drew1) | exact HB.out)) hb); have n4_ := Aside0.mk (hbox); have n5_ := Aside0.mk ((by rw [hg]; exact (by first | exact HK.out.1 | exact (show Kept w _ (fun k_ => P0_3_ k_) from by repeat (first | (with_reducible first | exact HK.out | apply Kept.alloc | apply Kept.drewN | apply Kept.drew) | exact HK.out)).1) : w.heap.size ≤ gb173)); have n6_ := Aside0.mk ((by rw [hg]; exact (below_size (by repeat (first | (with_reducible first | exact HB.out | apply below_alloc | apply pw_below_drewN | apply below_drew1) | exact HB.out))) : w0.heap.size ≤ gb173)); clear HO0_3; clear HO0_2; clear HK; clear HB; have HO0_3 := n0_; have HO0_2 := n1_; have HK := n2_; have HB := n3_; have BK173 := n4_; have GW173 := n5_; have GE173 := n6_; clear n0_ n1_ n2_ n3_ n4_ n5_ n6_; clear hb hbox hg) | ((with_reducible refine gate_dst (N := 6) rfl ?_); (try (refine gate_guard (by rfl) ?_; dsimp only)); refine box_event ?hg (N := 6) ?hd (cs := #[.int .i64 0, .int .i64 0, .slice none 0 0, .slice none 0 0, .int .i64 0]) (t := 30) ?hr ?_; (case hd => rfl); (case hg => rfl); (case hr => first | (go_simp; done) | (go_simp; rfl)); intro gb174 hg w7 hbox hb; have n0_ := Aside0.mk (Kd.R_below (by (with_reducible repeat (first | apply Kd.R_alloc | apply Kd.R_drewN | apply Kd.R_drew)); exact HO0_3.out) hb); have n1_ := Aside0.mk (Kd.V_below (Kd.V_elderB (by (with_reducible repeat (first | apply Kd.V_alloc | apply Kd.V_drewN | apply Kd.V_drew)); exact HO0_2.out) gb174 (Nat.le_of_eq hg.symm)) hb); have n2_ := Aside0.mk (blk_below (g := gb173) (o := .cells #[.int .i64 a0_0, .int .i64 a0_1, .slice A0_2 l0_2.length c0_2, .slice Ao5 l0_3.length co5, .int .i64 a0_4] 30 (0, 0)) (by (with_reducible repeat (first | refine blk_drewN ?_ _ | refine blk_drew ?_ | refine blk_alloc ?_ _)); exact BK173.out) hb); have n3_ := Aside0.mk (Kept.below (S := (fun k_ => P0_3_ k_)) (by repeat (first | (with_reducible first | exact HK.out | apply Kept.alloc | apply Kept.drewN | apply Kept.drew | refine Kept.setCell ?_ (.inr GW173.out) _) | exact HK.out)) hb); have n4_ := Aside0.mk (below_step (by repeat (first | (with_reducible first | exact HB.out | apply below_alloc | apply pw_below_drewN | apply below_drew1 | refine below_set ?_ GE173.out) | exact HB.out)) hb); have n5_ := Aside0.mk (hbox); have n6_ := Aside0.mk ((by rw [hg]; exact (by first | exact HK.out.1 | exact (show Kept w _ (fun k_ => P0_3_ k_) from by repeat (first | (with_reducible first | exact HK.out | apply Kept.alloc | apply Kept.drewN | apply Kept.drew | refine Kept.setCell ?_ (.inr GW173.out) _) | exact HK.out)).1) : w.heap.size ≤ gb174)); have n7_ := Aside0.mk ((by rw [hg]; exact (below_size (by repeat (first | (with_reducible first | exact HB.out | apply below_alloc | apply pw_below_drewN | apply below_drew1 | refine below_set ?_ GE173.out) | exact HB.out))) : w0.heap.size ≤ gb174)); have n8_ := Aside0.mk ((by rw [hg]; exact Nat.ne_of_lt (blk_lt (g := gb173) (o := .cells #[.int .i64 a0_0, .int .i64 a0_1, .slice A0_2 l0_2.length c0_2, .slice Ao5 l0_3.length co5, .int .i64 a0_4] 30 (0, 0)) (by (with_reducible repeat (first | refine blk_drewN ?_ _ | refine blk_drew ?_ | refine blk_alloc ?_ _)); exact BK173.out)) : gb173 ≠ gb174)); have n9_ := Aside0.mk ((by rw [hg]; exact Nat.ne_of_gt (blk_lt (g := gb173) (o := .cells #[.int .i64 a0_0, .int .i64 a0_1, .slice A0_2 l0_2.length c0_2, .slice Ao5 l0_3.length co5, .int .i64 a0_4] 30 (0, 0)) (by (with_reducible repeat (first | refine blk_drewN ?_ _ | refine blk_drew ?_ | refine blk_alloc ?_ _)); exact BK173.out)) : gb174 ≠ gb173)); clear HO0_3; clear HO0_2; clear BK173; clear HK; clear HB; have HO0_3 := n0_; have HO0_2 := n1_; have BK173 := n2_; have HK := n3_; have HB := n4_; have BK174 := n5_; have GW174 := n6_; have GE174 := n7_; have NB173_174 := n8_; have NB174_173 := n9_; clear n0_ n1_ n2_ n3_ n4_ n5_ n6_ n7_ n8_ n9_; clear hb hbox hg))
  (try simp only [Act.put, List.setIfInBounds_toArray, List.set_cons_zero, List.set_cons_succ])
  go_cut [24] (fun v24 wc => ∃ (kq : Nat) (x24_3 : Bool), v24 = .bool x24_3 ∧ Aside0 (handoffref05_Give.j0 kq a1 a2 x24_3 a0_0 a0_1 l0_2 l0_3 a0_4 = some (r1, r2, r3, r4, r5, r6)) ∧ Aside0 (kq ≤ k) ∧ Aside0 (Kd.V (Kd.slice 3 (Kd.int .i64)) 28 wc w0.heap.size (fun k_ => ((P0_3_ k_ ∨ P0_2_ k_) ∨ w.heap.size ≤ k_) ∧ some k_ ≠ ((.slice Ao5 l0_3.length co5) : Value).ownBlock ∧ k_ ≠ gb173 ∧ k_ ≠ gb174) (.slice A0_2 l0_2.length c0_2) l0_2) ∧ Aside0 (Kd.R (Kd.int .i64) 3 wc w0.heap.size (fun k_ => (P0_3_ k_ ∨ w.heap.size ≤ k_)) (.slice Ao5 l0_3.length co5) l0_3) ∧ Aside0 (wc.heap[gb173]? = some (.cells #[.int .i64 a0_0, .int .i64 a0_1, (.slice A0_2 l0_2.length c0_2), (.slice Ao5 l0_3.length co5), .int .i64 a0_4] 30 (0, 0))) ∧ Aside0 (wc.heap[gb174]? = some (.cells #[.int .i64 0, .int .i64 0, (.slice none 0 0), (.slice none 0 0), .int .i64 0] 30 (0, 0))) ∧ Aside0 (Kept w wc (fun k_ => P0_3_ k_)) ∧ Aside0 (Below w0.heap.size w0 wc))
  case first =>
    have H := HC4.out
    clear HC4
    by_cases c8 : a1 < 0
    · rw [if_pos c8] at H
      have c8b0 : decide (a1 < 0) = true := decide_eq_true c8
      clear c8
      (first | rw [c8b0] | (simp only [i64_w, i32_w]; rw [c8b0]) | skip)
      have H' := Aside0.mk H
      clear H
      go_wp2
      go_meet
      case rel => exact ⟨_, (true), (by first | rfl | (simp; done) | (simp [*]; done)), H', ⟨by first | omega | exact Nat.le_refl _⟩, ⟨by (with_reducible repeat (first | apply Kd.V_alloc | apply Kd.V_drewN | apply Kd.V_drew)); exact Kd.V_mono HO0_2.out (fun _ hk => ⟨hk.1.1.1, ⟨hk.1.1.2, ⟨hk.1.2, hk.2⟩⟩⟩)⟩, ⟨by (with_reducible repeat (first | apply Kd.R_alloc | apply Kd.R_drewN | apply Kd.R_drew)); exact HO0_3.out⟩, ⟨by (with_reducible repeat (first | refine blk_drewN ?_ _ | refine blk_drew ?_ | refine blk_alloc ?_ _)); exact BK173.out⟩, ⟨by (with_reducible repeat (first | refine blk_drewN ?_ _ | refine blk_drew ?_ | refine blk_alloc ?_ _)); exact BK174.out⟩, ⟨by repeat (first | (with_reducible first | exact HK.out | apply Kept.alloc | apply Kept.drewN | apply Kept.drew | refine Kept.setCell ?_ (.inr GW173.out) _ | refine Kept.setCell ?_ (.inr GW174.out) _) | exact HK.out)⟩, ⟨by repeat (first | (with_reducible first | exact HB.out | apply below_alloc | apply pw_below_drewN | apply below_drew1 | refine below_set ?_ GE173.out | refine below_set ?_ GE174.out) | exact HB.out)⟩⟩
    · rw [if_neg c8] at H
      have c8b0 : decide (a1 < 0) = false := decide_eq_false c8
      clear c8
      (first | rw [c8b0] | (simp only [i64_w, i32_w]; rw [c8b0]) | skip)
      by_cases c9 : a1 ≥ (l0_2.length : Int)
      · rw [if_pos c9] at H
        have c9b0 : decide ((l0_2.length : Int) ≤ a1) = true := decide_eq_true c9
        clear c9
        have H' := Aside0.mk H
        clear H
        have hnb10 := NB173_174.out
        have hnc10 := NB174_173.out
        have hcz11_0 : w7.cell? ⟨gb173, 0, none⟩ = some (.int .i64 a0_0) := (blk_cell BK173.out 0).trans rfl
        have hcz11_1 : w7.cell? ⟨gb173, 1, none⟩ = some (.int .i64 a0_1) := (blk_cell BK173.out 1).trans rfl
        have hcz11_2 : w7.cell? ⟨gb173, 2, none⟩ = some (.slice A0_2 l0_2.length c0_2) := (blk_cell BK173.out 2).trans rfl
        have hcz11_3 : w7.cell? ⟨gb173, 3, none⟩ = some (.slice Ao5 l0_3.length co5) := (blk_cell BK173.out 3).trans rfl
        have hcz11_4 : w7.cell? ⟨gb173, 4, none⟩ = some (.int .i64 a0_4) := (blk_cell BK173.out 4).trans rfl
        have hfz11_0 := blk_frozen BK173.out 0
        have hfz11_1 := blk_frozen BK173.out 1
        have hfz11_2 := blk_frozen BK173.out 2
        have hfz11_3 := blk_frozen BK173.out 3
        have hfz11_4 := blk_frozen BK173.out 4
        go_wp2
        go_meet
        case rel => exact ⟨_, (true), (by first | rfl | (simp; done) | (simp [*]; done)), H', ⟨by first | omega | exact Nat.le_refl _⟩, ⟨by (with_reducible repeat (first | apply Kd.V_alloc | apply Kd.V_drewN | apply Kd.V_drew)); exact Kd.V_mono HO0_2.out (fun _ hk => ⟨hk.1.1.1, ⟨hk.1.1.2, ⟨hk.1.2, hk.2⟩⟩⟩)⟩, ⟨by (with_reducible repeat (first | apply Kd.R_alloc | apply Kd.R_drewN | apply Kd.R_drew)); exact HO0_3.out⟩, ⟨by (with_reducible repeat (first | refine blk_drewN ?_ _ | refine blk_drew ?_ | refine blk_alloc ?_ _)); exact BK173.out⟩, ⟨by (with_reducible repeat (first | refine blk_drewN ?_ _ | refine blk_drew ?_ | refine blk_alloc ?_ _)); exact BK174.out⟩, ⟨by repeat (first | (with_reducible first | exact HK.out | apply Kept.alloc | apply Kept.drewN | apply Kept.drew | refine Kept.setCell ?_ (.inr GW173.out) _ | refine Kept.setCell ?_ (.inr GW174.out) _) | exact HK.out)⟩, ⟨by repeat (first | (with_reducible first | exact HB.out | apply below_alloc | apply pw_below_drewN | apply below_drew1 | refine below_set ?_ GE173.out | refine below_set ?_ GE174.out) | exact HB.out)⟩⟩
      · rw [if_neg c9] at H
        have c9b0 : decide ((l0_2.length : Int) ≤ a1) = false := decide_eq_false c9
        clear c9
        replace H := Option.bind_eq_some_iff.mp H
        obtain ⟨t175, A120, H⟩ := H
        replace H : (handoffref05_Give.j0 k a1 a2 (!t175) a0_0 a0_1 l0_2 l0_3 a0_4) = some (r1, r2, r3, r4, r5, r6) := H
        have A12 := Aside0.mk A120
        clear A120
        have H' := Aside0.mk H
        clear H
        have hnb13 := NB173_174.out
        have hnc13 := NB174_173.out
        have hcz14_0 : w7.cell? ⟨gb173, 0, none⟩ = some (.int .i64 a0_0) := (blk_cell BK173.out 0).trans rfl
        have hcz14_1 : w7.cell? ⟨gb173, 1, none⟩ = some (.int .i64 a0_1) := (blk_cell BK173.out 1).trans rfl
        have hcz14_2 : w7.cell? ⟨gb173, 2, none⟩ = some (.slice A0_2 l0_2.length c0_2) := (blk_cell BK173.out 2).trans rfl
        have hcz14_3 : w7.cell? ⟨gb173, 3, none⟩ = some (.slice Ao5 l0_3.length co5) := (blk_cell BK173.out 3).trans rfl
        have hcz14_4 : w7.cell? ⟨gb173, 4, none⟩ = some (.int .i64 a0_4) := (blk_cell BK173.out 4).trans rfl
        have hfz14_0 := blk_frozen BK173.out 0
        have hfz14_1 := blk_frozen BK173.out 1
        have hfz14_2 := blk_frozen BK173.out 2
        have hfz14_3 := blk_frozen BK173.out 3
        have hfz14_4 := blk_frozen BK173.out 4
        go_wp2_with (first | (go_at_call 13; (with_reducible refine (handoffref05_Live.calls k a0_0 a0_1 _ _ l0_2 _ _ l0_3 a0_4 a2 t175 _ ?side1 ?side2 ?side3 ?side4 A12.out).mono ?_); (case side1 => repeat (first | exact (Kd.V_reads' HO0_2.out).2.2 | (with_reducible refine Kd.C_alloc ?_ _) | (with_reducible refine Kd.C_drewN ?_ _) | (with_reducible refine Kd.C_drew ?_))); (case side2 => exact (Kd.V_reads' HO0_2.out).2.1); (case side3 => repeat (first | exact (Kd.R_reads' HO0_3.out).2.2 | (with_reducible refine Kd.C_alloc ?_ _) | (with_reducible refine Kd.C_drewN ?_ _) | (with_reducible refine Kd.C_drew ?_))); (case side4 => exact (Kd.R_reads' HO0_3.out).2.1); rintro e w15 ⟨rfl, hb⟩; have n0_ := Aside0.mk (Kd.R_below (by (with_reducible repeat (first | apply Kd.R_alloc | apply Kd.R_drewN | apply Kd.R_drew)); exact HO0_3.out) hb); have n1_ := Aside0.mk (Kd.V_below (by (with_reducible repeat (first | apply Kd.V_alloc | apply Kd.V_drewN | apply Kd.V_drew)); exact HO0_2.out) hb); have n2_ := Aside0.mk (blk_below (g := gb173) (o := .cells #[.int .i64 a0_0, .int .i64 a0_1, .slice A0_2 l0_2.length c0_2, .slice Ao5 l0_3.length co5, .int .i64 a0_4] 30 (0, 0)) (by (with_reducible repeat (first | refine blk_drewN ?_ _ | refine blk_drew ?_ | refine blk_alloc ?_ _)); exact BK173.out) hb); have n3_ := Aside0.mk (blk_below (g := gb174) (o := .cells #[.int .i64 0, .int .i64 0, .slice none 0 0, .slice none 0 0, .int .i64 0] 30 (0, 0)) (by (with_reducible repeat (first | refine blk_drewN ?_ _ | refine blk_drew ?_ | refine blk_alloc ?_ _)); exact BK174.out) hb); have n4_ := Aside0.mk (Kept.below (S := (fun k_ => P0_3_ k_)) (by repeat (first | (with_reducible first | exact HK.out | apply Kept.alloc | apply Kept.drewN | apply Kept.drew | refine Kept.setCell ?_ (.inr GW173.out) _ | refine Kept.setCell ?_ (.inr GW174.out) _) | exact HK.out)) hb); have n5_ := Aside0.mk (below_step (by repeat (first | (with_reducible first | exact HB.out | apply below_alloc | apply pw_below_drewN | apply below_drew1 | refine below_set ?_ GE173.out | refine below_set ?_ GE174.out) | exact HB.out)) hb); clear HO0_3; clear HO0_2; clear BK173; clear BK174; clear HK; clear HB; have HO0_3 := n0_; have HO0_2 := n1_; have BK173 := n2_; have BK174 := n3_; have HK := n4_; have HB := n5_; clear n0_ n1_ n2_ n3_ n4_ n5_; (try clear hb); (try clear hb2); (try clear hk); (try clear hi)))
        go_meet
        case rel => exact ⟨_, (!t175), (by first | rfl | (simp; done) | (simp [*]; done)), H', ⟨by first | omega | exact Nat.le_refl _⟩, ⟨by (with_reducible repeat (first | apply Kd.V_alloc | apply Kd.V_drewN | apply Kd.V_drew)); exact Kd.V_mono HO0_2.out (fun _ hk => ⟨hk.1.1.1, ⟨hk.1.1.2, ⟨hk.1.2, hk.2⟩⟩⟩)⟩, ⟨by (with_reducible repeat (first | apply Kd.R_alloc | apply Kd.R_drewN | apply Kd.R_drew)); exact HO0_3.out⟩, ⟨by (with_reducible repeat (first | refine blk_drewN ?_ _ | refine blk_drew ?_ | refine blk_alloc ?_ _)); exact BK173.out⟩, ⟨by (with_reducible repeat (first | refine blk_drewN ?_ _ | refine blk_drew ?_ | refine blk_alloc ?_ _)); exact BK174.out⟩, ⟨by repeat (first | (with_reducible first | exact HK.out | apply Kept.alloc | apply Kept.drewN | apply Kept.drew | refine Kept.setCell ?_ (.inr GW173.out) _ | refine Kept.setCell ?_ (.inr GW174.out) _) | exact HK.out)⟩, ⟨by repeat (first | (with_reducible first | exact HB.out | apply below_alloc | apply pw_below_drewN | apply below_drew1 | refine below_set ?_ GE173.out | refine below_set ?_ GE174.out) | exact HB.out)⟩⟩
  case rest =>
    clear HC4
    try clear c1
    try clear p2
    try clear c8
    try clear c8b0
    try clear c9
    try clear c9b0
    try clear c10
    try clear c13
    try clear hcz11_0
    try clear hcz11_1
    try clear hcz11_2
    try clear hcz11_3
    try clear hcz11_4
    try clear hcz14_0
    try clear hcz14_1
    try clear hcz14_2
    try clear hcz14_3
    try clear hcz14_4
    try clear hfz11_0
    try clear hfz11_1
    try clear hfz11_2
    try clear hfz11_3
    try clear hfz11_4
    try clear hfz14_0
    try clear hfz14_1
    try clear hfz14_2
    try clear hfz14_3
    try clear hfz14_4
    obtain ⟨kq, x24_3, rfl, HA, HJ3, HO_174002, HO_174003, BK173, BK174, HK, HB⟩ := hcut
    cases kq with
    | zero => exact absurd HA.out (by simp [handoffref05_Give.j0])
    | succ kj3 =>
      have H := HA.out
      clear HA
      simp only [handoffref05_Give.j0] at H
      by_cases c16 : x24_3 = true
      · subst c16
        have H1 : (some (a0_0, a0_1, l0_2, l0_3, a0_4, false)) = some (r1, r2, r3, r4, r5, r6) := by rw [if_pos rfl] at H; exact H
        clear H
        have H := H1
        clear H1
        simp only [Option.some.injEq, Prod.mk.injEq] at H
        obtain ⟨rfl, rfl, rfl, rfl, rfl, rfl⟩ := H
        have hnb17 := NB173_174.out
        have hnc17 := NB174_173.out
        have hcz18_0 : wc.cell? ⟨gb173, 0, none⟩ = some (.int .i64 a0_0) := (blk_cell BK173.out 0).trans rfl
        have hcz18_1 : wc.cell? ⟨gb173, 1, none⟩ = some (.int .i64 a0_1) := (blk_cell BK173.out 1).trans rfl
        have hcz18_2 : wc.cell? ⟨gb173, 2, none⟩ = some (.slice A0_2 l0_2.length c0_2) := (blk_cell BK173.out 2).trans rfl
        have hcz18_3 : wc.cell? ⟨gb173, 3, none⟩ = some (.slice Ao5 l0_3.length co5) := (blk_cell BK173.out 3).trans rfl
        have hcz18_4 : wc.cell? ⟨gb173, 4, none⟩ = some (.int .i64 a0_4) := (blk_cell BK173.out 4).trans rfl
        have hfz18_0 := blk_frozen BK173.out 0
        have hfz18_1 := blk_frozen BK173.out 1
        have hfz18_2 := blk_frozen BK173.out 2
        have hfz18_3 := blk_frozen BK173.out 3
        have hfz18_4 := blk_frozen BK173.out 4
        have hcz19_0 : wc.cell? ⟨gb174, 0, none⟩ = some (.int .i64 0) := (blk_cell BK174.out 0).trans rfl
        have hcz19_1 : wc.cell? ⟨gb174, 1, none⟩ = some (.int .i64 0) := (blk_cell BK174.out 1).trans rfl
        have hcz19_2 : wc.cell? ⟨gb174, 2, none⟩ = some (.slice none 0 0) := (blk_cell BK174.out 2).trans rfl
        have hcz19_3 : wc.cell? ⟨gb174, 3, none⟩ = some (.slice none 0 0) := (blk_cell BK174.out 3).trans rfl
        have hcz19_4 : wc.cell? ⟨gb174, 4, none⟩ = some (.int .i64 0) := (blk_cell BK174.out 4).trans rfl
        have hfz19_0 := blk_frozen BK174.out 0
        have hfz19_1 := blk_frozen BK174.out 1
        have hfz19_2 := blk_frozen BK174.out 2
        have hfz19_3 := blk_frozen BK174.out 3
        have hfz19_4 := blk_frozen BK174.out 4
        go_wp2
        refine bodyPost_ret (results_ct rfl _ _ gb174 30 #[.int .i64 a0_0, .int .i64 a0_1, .slice A0_2 l0_2.length c0_2, .slice Ao5 l0_3.length co5, .int .i64 a0_4] (0, 0) _ rfl (by (with_reducible repeat (first | refine blk_drewN ?_ _ | refine blk_drew ?_ | refine blk_alloc ?_ _)); refine blk_put (cs := #[.int .i64 a0_0, .int .i64 a0_1, .slice A0_2 l0_2.length c0_2, .slice Ao5 l0_3.length co5, .int .i64 0]) ?_ 4 _ rfl; (with_reducible repeat (first | refine blk_drewN ?_ _ | refine blk_drew ?_ | refine blk_alloc ?_ _)); refine blk_put (cs := #[.int .i64 a0_0, .int .i64 a0_1, .slice A0_2 l0_2.length c0_2, .slice none 0 0, .int .i64 0]) ?_ 3 _ rfl; (with_reducible repeat (first | refine blk_drewN ?_ _ | refine blk_drew ?_ | refine blk_alloc ?_ _)); refine blk_put (cs := #[.int .i64 a0_0, .int .i64 a0_1, .slice none 0 0, .slice none 0 0, .int .i64 0]) ?_ 2 _ rfl; (with_reducible repeat (first | refine blk_drewN ?_ _ | refine blk_drew ?_ | refine blk_alloc ?_ _)); refine blk_put (cs := #[.int .i64 a0_0, .int .i64 0, .slice none 0 0, .slice none 0 0, .int .i64 0]) ?_ 1 _ rfl; (with_reducible repeat (first | refine blk_drewN ?_ _ | refine blk_drew ?_ | refine blk_alloc ?_ _)); refine blk_put (cs := #[.int .i64 0, .int .i64 0, .slice none 0 0, .slice none 0 0, .int .i64 0]) ?_ 0 _ rfl; (with_reducible repeat (first | refine blk_drewN ?_ _ | refine blk_drew ?_ | refine blk_alloc ?_ _)); exact BK174.out) Try.underlying30 rfl (by kernel_rfl)) rfl ?_
        exact ⟨_, _, by first | rfl | (simp [errW_none, errW_some] <;> rfl) | (simp [*, errW_none, errW_some] <;> rfl), by (with_reducible repeat (first | apply Kd.V_alloc | apply Kd.V_drewN | apply Kd.V_drew)); exact Kd.V_mono (Kd.V_far (p := ⟨gb174, 4, none⟩) (Kd.V_far (p := ⟨gb174, 3, none⟩) (Kd.V_far (p := ⟨gb174, 2, none⟩) (Kd.V_far (p := ⟨gb174, 1, none⟩) (Kd.V_far (p := ⟨gb174, 0, none⟩) (Kd.V_mono HO_174002.out (fun k_ hk => (⟨hk, hk.2.2.2⟩ : _ ∧ k_ ≠ gb174))) (fun _ hk => hk.2) (.int .i64 a0_0)) (fun _ hk => hk.2) (.int .i64 a0_1)) (fun _ hk => hk.2) (.slice A0_2 l0_2.length c0_2)) (fun _ hk => hk.2) (.slice Ao5 l0_3.length co5)) (fun _ hk => hk.2) (.int .i64 a0_4)) (fun _ hk => ⟨hk.1.1, hk.1.2.1⟩), by (with_reducible repeat (first | apply Kd.R_alloc | apply Kd.R_drewN | apply Kd.R_drew)); exact Kd.R_mono (Kd.R_far (p := ⟨gb174, 4, none⟩) (Kd.R_far (p := ⟨gb174, 3, none⟩) (Kd.R_far (p := ⟨gb174, 2, none⟩) (Kd.R_far (p := ⟨gb174, 1, none⟩) (Kd.R_far (p := ⟨gb174, 0, none⟩) (Kd.R_types HO_174003.out BK174.out (by decide)) (fun _ hk => hk.2) (.int .i64 a0_0)) (fun _ hk => hk.2) (.int .i64 a0_1)) (fun _ hk => hk.2) (.slice A0_2 l0_2.length c0_2)) (fun _ hk => hk.2) (.slice Ao5 l0_3.length co5)) (fun _ hk => hk.2) (.int .i64 a0_4)) (fun _ hk => hk.1), by repeat (first | (with_reducible first | exact HB.out | apply below_alloc | apply pw_below_drewN | apply below_drew1 | refine below_set ?_ GE173.out | refine below_set ?_ GE174.out) | exact HB.out), by repeat (first | (with_reducible first | exact HK.out | apply Kept.alloc | apply Kept.drewN | apply Kept.drew | refine Kept.setCell ?_ (.inr GW173.out) _ | refine Kept.setCell ?_ (.inr GW174.out) _) | exact HK.out)⟩
      · replace c16 := Bool.eq_false_iff.mpr c16
        subst c16
        have H1 : ((some (([] : List Int) : List Int)).bind fun y176 => (if 0 ≤ a1 then (if a1 < (l0_2.length : Int) then (if y176.length + (rd_L1 l0_2 a1).length < 17592186044416 then ((some (y176 ++ (rd_L1 l0_2 a1) : List Int)).bind fun y180 => ((some (([] : List Int) : List Int)).bind fun y183 => (if y183.length + l0_3.length < 17592186044416 then ((some (y183 ++ l0_3 : List Int)).bind fun y186 => (if (y180.length : Int) = a0_1 then (handoffref05_Give.l0 kj3 a1 a2 y180 y186 a0_0 a0_1 l0_2 l0_3 a0_4) else (if y180.length < 17592186044416 then ((handoffref05_with.f a0_0 a0_1 l0_2 y186 a0_4 a1 (y180 ++ [a2])).bind fun bt211 => (some (bt211.1, bt211.2.1, bt211.2.2.1, bt211.2.2.2.1, bt211.2.2.2.2, true))) else (none)))) else (none)))) else (none)) else (none)) else (none))) = some (r1, r2, r3, r4, r5, r6) := by rw [if_neg (show ¬ (false = true) by decide)] at H; exact H
        clear H
        have H := H1
        clear H1
        obtain ⟨y176, hy176⟩ : ∃ y_ : List Int, y_ = (([] : List Int)) := ⟨_, rfl⟩
        replace H : (if 0 ≤ a1 then (if a1 < (l0_2.length : Int) then (if y176.length + (rd_L1 l0_2 a1).length < 17592186044416 then ((some (y176 ++ (rd_L1 l0_2 a1) : List Int)).bind fun y180 => ((some (([] : List Int) : List Int)).bind fun y183 => (if y183.length + l0_3.length < 17592186044416 then ((some (y183 ++ l0_3 : List Int)).bind fun y186 => (if (y180.length : Int) = a0_1 then (handoffref05_Give.l0 kj3 a1 a2 y180 y186 a0_0 a0_1 l0_2 l0_3 a0_4) else (if y180.length < 17592186044416 then ((handoffref05_with.f a0_0 a0_1 l0_2 y186 a0_4 a1 (y180 ++ [a2])).bind fun bt211 => (some (bt211.1, bt211.2.1, bt211.2.2.1, bt211.2.2.2.1, bt211.2.2.2.2, true))) else (none)))) else (none)))) else (none)) else (none)) else (none)) = some (r1, r2, r3, r4, r5, r6) := by first | (rw [hy176]; with_reducible exact H) | (have H2_ := (Option.bind_some _ _).symm.trans H; rw [hy176]; with_reducible exact H2_) | (have H2_ := (Option.bind_some _ _).symm.trans H; with_reducible exact H2_) | with_reducible exact H | (rw [hy176]; exact H) | exact H
        have Ny176 := Aside0.mk hy176
        clear hy176
        by_cases c20 : 0 ≤ a1
        · rw [if_pos c20] at H
          have c20b0 : decide (0 ≤ a1) = true := decide_eq_true c20
          clear c20
          by_cases c21 : a1 < (l0_2.length : Int)
          · rw [if_pos c21] at H
            have c21b0 : decide (a1 < (l0_2.length : Int)) = true := decide_eq_true c21
            clear c21
            by_cases c22 : y176.length + (rd_L1 l0_2 a1).length < 17592186044416
            · rw [if_pos c22] at H
              have LMc22 := Aside0.mk c22
              clear c22
              obtain ⟨y180, hy180⟩ : ∃ y_ : List Int, y_ = (y176 ++ (rd_L1 l0_2 a1)) := ⟨_, rfl⟩
              replace H : ((some (([] : List Int) : List Int)).bind fun y183 => (if y183.length + l0_3.length < 17592186044416 then ((some (y183 ++ l0_3 : List Int)).bind fun y186 => (if (y180.length : Int) = a0_1 then (handoffref05_Give.l0 kj3 a1 a2 y180 y186 a0_0 a0_1 l0_2 l0_3 a0_4) else (if y180.length < 17592186044416 then ((handoffref05_with.f a0_0 a0_1 l0_2 y186 a0_4 a1 (y180 ++ [a2])).bind fun bt211 => (some (bt211.1, bt211.2.1, bt211.2.2.1, bt211.2.2.2.1, bt211.2.2.2.2, true))) else (none)))) else (none))) = some (r1, r2, r3, r4, r5, r6) := by first | (rw [hy180]; with_reducible exact H) | (have H2_ := (Option.bind_some _ _).symm.trans H; rw [hy180]; with_reducible exact H2_) | (have H2_ := (Option.bind_some _ _).symm.trans H; with_reducible exact H2_) | with_reducible exact H | (rw [hy180]; exact H) | exact H
              have Ny180 := Aside0.mk hy180
              clear hy180
              obtain ⟨y183, hy183⟩ : ∃ y_ : List Int, y_ = (([] : List Int)) := ⟨_, rfl⟩
              replace H : (if y183.length + l0_3.length < 17592186044416 then ((some (y183 ++ l0_3 : List Int)).bind fun y186 => (if (y180.length : Int) = a0_1 then (handoffref05_Give.l0 kj3 a1 a2 y180 y186 a0_0 a0_1 l0_2 l0_3 a0_4) else (if y180.length < 17592186044416 then ((handoffref05_with.f a0_0 a0_1 l0_2 y186 a0_4 a1 (y180 ++ [a2])).bind fun bt211 => (some (bt211.1, bt211.2.1, bt211.2.2.1, bt211.2.2.2.1, bt211.2.2.2.2, true))) else (none)))) else (none)) = some (r1, r2, r3, r4, r5, r6) := by first | (rw [hy183]; with_reducible exact H) | (have H2_ := (Option.bind_some _ _).symm.trans H; rw [hy183]; with_reducible exact H2_) | (have H2_ := (Option.bind_some _ _).symm.trans H; with_reducible exact H2_) | with_reducible exact H | (rw [hy183]; exact H) | exact H
              have Ny183 := Aside0.mk hy183
              clear hy183
              by_cases c23 : y183.length + l0_3.length < 17592186044416
              · rw [if_pos c23] at H
                have LMc23 := Aside0.mk c23
                clear c23
                obtain ⟨y186, hy186⟩ : ∃ y_ : List Int, y_ = (y183 ++ l0_3) := ⟨_, rfl⟩
                replace H : (if (y180.length : Int) = a0_1 then (handoffref05_Give.l0 kj3 a1 a2 y180 y186 a0_0 a0_1 l0_2 l0_3 a0_4) else (if y180.length < 17592186044416 then ((handoffref05_with.f a0_0 a0_1 l0_2 y186 a0_4 a1 (y180 ++ [a2])).bind fun bt211 => (some (bt211.1, bt211.2.1, bt211.2.2.1, bt211.2.2.2.1, bt211.2.2.2.2, true))) else (none))) = some (r1, r2, r3, r4, r5, r6) := by first | (rw [hy186]; with_reducible exact H) | (have H2_ := (Option.bind_some _ _).symm.trans H; rw [hy186]; with_reducible exact H2_) | (have H2_ := (Option.bind_some _ _).symm.trans H; with_reducible exact H2_) | with_reducible exact H | (rw [hy186]; exact H) | exact H
                have Ny186 := Aside0.mk hy186
                clear hy186
                by_cases c24 : (y180.length : Int) = a0_1
                · rw [if_pos c24] at H
                  have c24b0 : ((y180.length : Int) == a0_1) = true := beq_iff_eq.mpr c24
                  have c24b1 : ((y180.length : Int) != a0_1) = false := bne_eq_false_iff_eq.mpr c24
                  clear c24
                  have H' := Aside0.mk H
                  clear H
                  go_wp2_with (first | ((with_reducible refine gate_dst (N := 26) rfl ?_); (try (refine gate_guard (by rfl) ?_; dsimp only)); refine Kd.R_lit (Kd.int .i64) _ 3 ?hg (N := 26) ?hd (xs := ([] : List Int)) (inner := []) (ok := fun _ => True) (okp := fun _ => True) ?hr ?hp (fun _ hk => hk) trivial (Below.refl _ _) (Nat.le_refl _) (by simp) ?_; (case hd => rfl); (case hg => rfl); (case hr => first | (go_simp; done) | (go_simp; rfl)); (case hp => exact (Reps.none _ _)); intro v177 w25 ho26 hb hg_ hnew_; clear hg_ hnew_; (first | rw [← Ny176.out] at ho26 | (simp only [Int.reduceToNat] at ho26; rw [← Ny176.out] at ho26)); have n0_ := Aside0.mk (Kd.V_elder' (by (with_reducible repeat (first | apply Kd.V_alloc | apply Kd.V_drewN | apply Kd.V_drew)); exact HO_174002.out) (Kd.R_base ho26) hb); have n1_ := Aside0.mk (Kd.R_elder' (by (with_reducible repeat (first | apply Kd.R_alloc | apply Kd.R_drewN | apply Kd.R_drew)); exact HO_174003.out) (Kd.R_base ho26) hb); have n2_ := Aside0.mk (Kd.R_lower (Kd.R_new' (Kd.R_newM (M := fun k_ => (P0_3_ k_ ∨ w.heap.size ≤ k_)) ho26 (by first | exact HK.out.1 | exact (show Kept w _ (fun k_ => P0_3_ k_) from by repeat (first | (with_reducible first | exact HK.out | apply Kept.alloc | apply Kept.drewN | apply Kept.drew | refine Kept.setCell ?_ (.inr GW173.out) _ | refine Kept.setCell ?_ (.inr GW174.out) _) | exact HK.out)).1) (fun k_ h_ => .inr h_)) (Kd.R_lt (by (with_reducible repeat (first | apply Kd.R_alloc | apply Kd.R_drewN | apply Kd.R_drew)); exact HO_174003.out))) (below_size (by repeat (first | (with_reducible first | exact HB.out | apply below_alloc | apply pw_below_drewN | apply below_drew1 | refine below_set ?_ GE173.out | refine below_set ?_ GE174.out) | exact HB.out)))); have n3_ := Aside0.mk (blk_below (g := gb173) (o := .cells #[.int .i64 a0_0, .int .i64 a0_1, .slice A0_2 l0_2.length c0_2, .slice Ao5 l0_3.length co5, .int .i64 a0_4] 30 (0, 0)) (by (with_reducible repeat (first | refine blk_drewN ?_ _ | refine blk_drew ?_ | refine blk_alloc ?_ _)); exact BK173.out) hb); have n4_ := Aside0.mk (blk_below (g := gb174) (o := .cells #[.int .i64 0, .int .i64 0, .slice none 0 0, .slice none 0 0, .int .i64 0] 30 (0, 0)) (by (with_reducible repeat (first | refine blk_drewN ?_ _ | refine blk_drew ?_ | refine blk_alloc ?_ _)); exact BK174.out) hb); have n5_ := Aside0.mk (Kept.below (S := (fun k_ => P0_3_ k_)) (by repeat (first | (with_reducible first | exact HK.out | apply Kept.alloc | apply Kept.drewN | apply Kept.drew | refine Kept.setCell ?_ (.inr GW173.out) _ | refine Kept.setCell ?_ (.inr GW174.out) _) | exact HK.out)) hb); have n6_ := Aside0.mk (below_step (by repeat (first | (with_reducible first | exact HB.out | apply below_alloc | apply pw_below_drewN | apply below_drew1 | refine below_set ?_ GE173.out | refine below_set ?_ GE174.out) | exact HB.out)) hb); clear HO_174002; clear HO_174003; clear BK173; clear BK174; clear HK; clear HB; have HO_174002 := n0_; have HO_174003 := n1_; have HO178 := n2_; have BK173 := n3_; have BK174 := n4_; have HK := n5_; have HB := n6_; clear n0_ n1_ n2_ n3_ n4_ n5_ n6_; clear hb ho26; have hnb27 := NB173_174.out; have hnc27 := NB174_173.out; have hcz28_0 : w25.cell? ⟨gb173, 0, none⟩ = some (.int .i64 a0_0) := (blk_cell BK173.out 0).trans rfl; have hcz28_1 : w25.cell? ⟨gb173, 1, none⟩ = some (.int .i64 a0_1) := (blk_cell BK173.out 1).trans rfl; have hcz28_2 : w25.cell? ⟨gb173, 2, none⟩ = some (.slice A0_2 l0_2.length c0_2) := (blk_cell BK173.out 2).trans rfl; have hcz28_3 : w25.cell? ⟨gb173, 3, none⟩ = some (.slice Ao5 l0_3.length co5) := (blk_cell BK173.out 3).trans rfl; have hcz28_4 : w25.cell? ⟨gb173, 4, none⟩ = some (.int .i64 a0_4) := (blk_cell BK173.out 4).trans rfl; have hfz28_0 := blk_frozen BK173.out 0; have hfz28_1 := blk_frozen BK173.out 1; have hfz28_2 := blk_frozen BK173.out 2; have hfz28_3 := blk_frozen BK173.out 3; have hfz28_4 := blk_frozen BK173.out 4; have p179 : 0 ≤ (a1 : Int) := of_decide_eq_true (by first | (with_reducible assumption) | assumption); have q179 : a1 < (l0_2.length : Int) := of_decide_eq_true (by first | (with_reducible assumption) | assumption); obtain ⟨ad179, A179_0, c179_0, e179, hx179_0, hl179_0, hi179_0⟩ := at_L1 (Kd.V_reads' HO_174002.out).2.2 a1 p179 q179; cases e179; obtain ⟨ce179, hce179, hMe179, hcc179⟩ := Kd.V_get HO_174002.out [] a1 p179 (by first | exact q179 | exact of_decide_eq_true (by first | (with_reducible assumption) | assumption) | (have e_ := (Kd.V_reads' HO_174002.out).1; omega)); obtain ⟨ua179_0, uc179_0, rfl, ul179_0, ge179_0⟩ := Kd.FK_slice_open hMe179; have hv179_0 := hcc179 0 _ rfl; rw [Nat.add_zero, show ((Kd.slice 3 (Kd.int .i64))).sz = 1 from rfl, Nat.mul_one] at hv179_0; replace hv179_0 := Option.some.inj (hv179_0.symm.trans hx179_0); injection hv179_0 with hva_ hvn_ hvc_; rw [hva_] at ge179_0; rw [hvc_] at ul179_0; have HL179_0 := Aside0.mk (show Kd.V (Kd.int .i64) 3 _ w0.heap.size _ _ (rd_L1 l0_2 a1) from Kd.V_mk ul179_0 ge179_0); clear hva_ hvn_ hvc_ ge179_0 ul179_0; clear hcc179 hce179; have HR179_0 := Aside0.mk hi179_0; have HC179_0 := Aside0.mk hl179_0; clear hi179_0 hl179_0; replace p179 := eq_true p179; replace q179 := eq_true q179) | ((with_reducible refine gate_builtin (b := .append) (xs := #[.tmp 26, .tmp 31]) rfl ?_); (try (refine gate_guard (by rfl) ?_; dsimp only)); at_builtin; refine Kd.R_append_rows (Kd.int .i64) (w0 := w0) w0.heap.size rfl (.tmp 26) (.tmp 31) 28 3 (.int .i64 0) 8 rfl Try.underlying28 info3 rfl (by decide) (by omega) v177 y176 (rd_L1 l0_2 a1) _ _ _ (fun k_ => (P0_3_ k_ ∨ w.heap.size ≤ k_) ∧ some k_ ≠ (.slice Ao5 l0_3.length co5 : Value).ownBlock) (fun _ => False) rfl rfl ?aO ?aR (fun _ _ h => h) (fun _ h => h.elim) ?aF ?aB ?aS ?aL ?_; (case aR => repeat (first | exact (by repeat (first | (with_reducible exact HR179_0.out) | (with_reducible refine Kd.C_alloc ?_ _) | (with_reducible refine Kd.C_drewN ?_ _) | (with_reducible refine Kd.C_drew ?_) | exact HR179_0.out)) | (with_reducible refine Kd.C_alloc ?_ _) | (with_reducible refine Kd.C_drewN ?_ _) | (with_reducible refine Kd.C_drew ?_))); (case aB => exact (by repeat (first | (with_reducible first | exact HB.out | apply below_alloc | apply pw_below_drewN | apply below_drew1 | refine below_set ?_ GE173.out | refine below_set ?_ GE174.out) | exact HB.out))); (case aF => exact (fun k_ hk => ⟨(.inr (Nat.le_trans (by first | exact HK.out.1 | exact (show Kept w _ (fun k_ => P0_3_ k_) from by repeat (first | (with_reducible first | exact HK.out | apply Kept.alloc | apply Kept.drewN | apply Kept.drew | refine Kept.setCell ?_ (.inr GW173.out) _ | refine Kept.setCell ?_ (.inr GW174.out) _) | exact HK.out)).1) hk)), Kd.fresh' (Kd.R_lt (by (with_reducible repeat (first | apply Kd.R_alloc | apply Kd.R_drewN | apply Kd.R_drew)); exact HO_174003.out)) k_ hk⟩)); (case aO => exact (by (with_reducible repeat (first | apply Kd.R_alloc | apply Kd.R_drewN | apply Kd.R_drew)); exact Kd.R_mono HO178.out (fun _ hk => ⟨hk.1.1, hk.2⟩))); (case aS => exact (below_size (by repeat (first | (with_reducible first | exact HB.out | apply below_alloc | apply pw_below_drewN | apply below_drew1 | refine below_set ?_ GE173.out | refine below_set ?_ GE174.out) | exact HB.out)))); (case aL => have := LMc22.out; omega); intro v181 w29 ho hb hg hat; rw [← Ny180.out] at ho; have n0_ := Aside0.mk (Kd.V_afterv (ok := (fun k_ => ((P0_3_ k_ ∨ P0_2_ k_) ∨ w.heap.size ≤ k_) ∧ some k_ ≠ (.slice Ao5 l0_3.length co5 : Value).ownBlock ∧ k_ ≠ gb173 ∧ k_ ≠ gb174)) (by (with_reducible repeat (first | apply Kd.V_alloc | apply Kd.V_drewN | apply Kd.V_drew)); exact HO_174002.out) hg hat); have n1_ := Aside0.mk (Kd.R_after (ok := (fun k_ => (P0_3_ k_ ∨ w.heap.size ≤ k_))) (by (with_reducible repeat (first | apply Kd.R_alloc | apply Kd.R_drewN | apply Kd.R_drew)); exact HO_174003.out) hg hat); have n2_ := Aside0.mk (blk_grown (g := gb173) (o := .cells #[.int .i64 a0_0, .int .i64 a0_1, .slice (some ad179) l0_2.length c0_2, .slice Ao5 l0_3.length co5, .int .i64 a0_4] 30 (0, 0)) (by (with_reducible repeat (first | refine blk_drewN ?_ _ | refine blk_drew ?_ | refine blk_alloc ?_ _)); exact BK173.out) hg (Kd.R_ne HO178.out BK173.out (by decide))); have n3_ := Aside0.mk (blk_grown (g := gb174) (o := .cells #[.int .i64 0, .int .i64 0, .slice none 0 0, .slice none 0 0, .int .i64 0] 30 (0, 0)) (by (with_reducible repeat (first | refine blk_drewN ?_ _ | refine blk_drew ?_ | refine blk_alloc ?_ _)); exact BK174.out) hg (Kd.R_ne HO178.out BK174.out (by decide))); have n4_ := Aside0.mk (Kd.V_afterv (ok := (fun k_ => ((P0_3_ k_ ∨ P0_2_ k_) ∨ w.heap.size ≤ k_) ∧ some k_ ≠ (.slice Ao5 l0_3.length co5 : Value).ownBlock ∧ k_ ≠ gb173 ∧ k_ ≠ gb174)) (by (with_reducible repeat (first | apply Kd.V_alloc | apply Kd.V_drewN | apply Kd.V_drew)); exact HL179_0.out) hg hat); have n5_ := Aside0.mk (hb); have n6_ := Aside0.mk (Kept.of_grown (S := (fun k_ => P0_3_ k_)) hg (by repeat (first | (with_reducible first | exact HK.out | apply Kept.alloc | apply Kept.drewN | apply Kept.drew | refine Kept.setCell ?_ (.inr GW173.out) _ | refine Kept.setCell ?_ (.inr GW174.out) _) | exact HK.out)) (fun k_ e_ => (HO178.out.1 k_ e_).1.1)); have n7_ := Aside0.mk (ho); clear HO_174002; clear HO_174003; clear BK173; clear BK174; clear HL179_0; clear HB; clear HK; clear HO178; have HO_174002 := n0_; have HO_174003 := n1_; have BK173 := n2_; have BK174 := n3_; have HL179_0 := n4_; have HB := n5_; have HK := n6_; have HO182 := n7_; clear n0_ n1_ n2_ n3_ n4_ n5_ n6_ n7_; clear ho hb hg hat) | ((with_reducible refine gate_dst (N := 33) rfl ?_); (try (refine gate_guard (by rfl) ?_; dsimp only)); refine Kd.R_lit (Kd.int .i64) _ 3 ?hg (N := 33) ?hd (xs := ([] : List Int)) (inner := []) (ok := fun _ => True) (okp := fun _ => True) ?hr ?hp (fun _ hk => hk) trivial (Below.refl _ _) (Nat.le_refl _) (by simp) ?_; (case hd => rfl); (case hg => rfl); (case hr => first | (go_simp; done) | (go_simp; rfl)); (case hp => exact (Reps.none _ _)); intro v184 w30 ho31 hb hg_ hnew_; clear hg_ hnew_; (first | rw [← Ny183.out] at ho31 | (simp only [Int.reduceToNat] at ho31; rw [← Ny183.out] at ho31)); have n0_ := Aside0.mk (Kd.V_elder' (by (with_reducible repeat (first | apply Kd.V_alloc | apply Kd.V_drewN | apply Kd.V_drew)); exact HO_174002.out) (Kd.R_base ho31) hb); have n1_ := Aside0.mk (Kd.R_elder' (by (with_reducible repeat (first | apply Kd.R_alloc | apply Kd.R_drewN | apply Kd.R_drew)); exact HO_174003.out) (Kd.R_base ho31) hb); have n2_ := Aside0.mk (Kd.V_elder' (by (with_reducible repeat (first | apply Kd.V_alloc | apply Kd.V_drewN | apply Kd.V_drew)); exact HL179_0.out) (Kd.R_base ho31) hb); have n3_ := Aside0.mk (Kd.R_elder' (by (with_reducible repeat (first | apply Kd.R_alloc | apply Kd.R_drewN | apply Kd.R_drew)); exact HO182.out) (Kd.R_base ho31) hb); have n4_ := Aside0.mk (Kd.R_lower (Kd.R_new' (Kd.R_new' (Kd.R_newM (M := fun k_ => (P0_3_ k_ ∨ w.heap.size ≤ k_)) ho31 (by first | exact HK.out.1 | exact (show Kept w _ (fun k_ => P0_3_ k_) from by repeat (first | (with_reducible first | exact HK.out | apply Kept.alloc | apply Kept.drewN | apply Kept.drew | refine Kept.setCell ?_ (.inr GW173.out) _ | refine Kept.setCell ?_ (.inr GW174.out) _) | exact HK.out)).1) (fun k_ h_ => .inr h_)) (Kd.R_lt (by (with_reducible repeat (first | apply Kd.R_alloc | apply Kd.R_drewN | apply Kd.R_drew)); exact HO_174003.out))) (Kd.R_lt (by (with_reducible repeat (first | apply Kd.R_alloc | apply Kd.R_drewN | apply Kd.R_drew)); exact HO182.out))) (below_size (by repeat (first | (with_reducible first | exact HB.out | apply below_alloc | apply pw_below_drewN | apply below_drew1 | refine below_set ?_ GE173.out | refine below_set ?_ GE174.out) | exact HB.out)))); have n5_ := Aside0.mk (blk_below (g := gb173) (o := .cells #[.int .i64 a0_0, .int .i64 a0_1, .slice (some ad179) l0_2.length c0_2, .slice Ao5 l0_3.length co5, .int .i64 a0_4] 30 (0, 0)) (by (with_reducible repeat (first | refine blk_drewN ?_ _ | refine blk_drew ?_ | refine blk_alloc ?_ _)); exact BK173.out) hb); have n6_ := Aside0.mk (blk_below (g := gb174) (o := .cells #[.int .i64 0, .int .i64 0, .slice none 0 0, .slice none 0 0, .int .i64 0] 30 (0, 0)) (by (with_reducible repeat (first | refine blk_drewN ?_ _ | refine blk_drew ?_ | refine blk_alloc ?_ _)); exact BK174.out) hb); have n7_ := Aside0.mk (Kept.below (S := (fun k_ => P0_3_ k_)) (by repeat (first | (with_reducible first | exact HK.out | apply Kept.alloc | apply Kept.drewN | apply Kept.drew | refine Kept.setCell ?_ (.inr GW173.out) _ | refine Kept.setCell ?_ (.inr GW174.out) _) | exact HK.out)) hb); have n8_ := Aside0.mk (below_step (by repeat (first | (with_reducible first | exact HB.out | apply below_alloc | apply pw_below_drewN | apply below_drew1 | refine below_set ?_ GE173.out | refine below_set ?_ GE174.out) | exact HB.out)) hb); clear HO_174002; clear HO_174003; clear HL179_0; clear HO182; clear BK173; clear BK174; clear HK; clear HB; have HO_174002 := n0_; have HO_174003 := n1_; have HL179_0 := n2_; have HO182 := n3_; have HO185 := n4_; have BK173 := n5_; have BK174 := n6_; have HK := n7_; have HB := n8_; clear n0_ n1_ n2_ n3_ n4_ n5_ n6_ n7_ n8_; clear hb ho31; have hcz32_0 : w30.cell? ⟨gb173, 0, none⟩ = some (.int .i64 a0_0) := (blk_cell BK173.out 0).trans rfl; have hcz32_1 : w30.cell? ⟨gb173, 1, none⟩ = some (.int .i64 a0_1) := (blk_cell BK173.out 1).trans rfl; have hcz32_2 : w30.cell? ⟨gb173, 2, none⟩ = some (.slice (some ad179) l0_2.length c0_2) := (blk_cell BK173.out 2).trans rfl; have hcz32_3 : w30.cell? ⟨gb173, 3, none⟩ = some (.slice Ao5 l0_3.length co5) := (blk_cell BK173.out 3).trans rfl; have hcz32_4 : w30.cell? ⟨gb173, 4, none⟩ = some (.int .i64 a0_4) := (blk_cell BK173.out 4).trans rfl; have hfz32_0 := blk_frozen BK173.out 0; have hfz32_1 := blk_frozen BK173.out 1; have hfz32_2 := blk_frozen BK173.out 2; have hfz32_3 := blk_frozen BK173.out 3; have hfz32_4 := blk_frozen BK173.out 4) | ((with_reducible refine gate_builtin (b := .append) (xs := #[.tmp 33, .tmp 35]) rfl ?_); (try (refine gate_guard (by rfl) ?_; dsimp only)); at_builtin; refine Kd.R_append_rows (Kd.int .i64) (w0 := w0) w0.heap.size rfl (.tmp 33) (.tmp 35) 28 3 (.int .i64 0) 8 rfl Try.underlying28 info3 rfl (by decide) (by omega) v184 y183 l0_3 _ _ _ (fun k_ => (P0_3_ k_ ∨ w.heap.size ≤ k_) ∧ some k_ ≠ (.slice Ao5 l0_3.length co5 : Value).ownBlock ∧ some k_ ≠ (v181 : Value).ownBlock) (fun _ => False) rfl rfl ?aO ?aR (fun _ _ h => h) (fun _ h => h.elim) ?aF ?aB ?aS ?aL ?_; (case aR => repeat (first | exact (Kd.R_reads' HO_174003.out).2.2 | (with_reducible refine Kd.C_alloc ?_ _) | (with_reducible refine Kd.C_drewN ?_ _) | (with_reducible refine Kd.C_drew ?_))); (case aB => exact (by repeat (first | (with_reducible first | exact HB.out | apply below_alloc | apply pw_below_drewN | apply below_drew1 | refine below_set ?_ GE173.out | refine below_set ?_ GE174.out) | exact HB.out))); (case aF => exact (fun k_ hk => ⟨(.inr (Nat.le_trans (by first | exact HK.out.1 | exact (show Kept w _ (fun k_ => P0_3_ k_) from by repeat (first | (with_reducible first | exact HK.out | apply Kept.alloc | apply Kept.drewN | apply Kept.drew | refine Kept.setCell ?_ (.inr GW173.out) _ | refine Kept.setCell ?_ (.inr GW174.out) _) | exact HK.out)).1) hk)), Kd.fresh' (Kd.R_lt (by (with_reducible repeat (first | apply Kd.R_alloc | apply Kd.R_drewN | apply Kd.R_drew)); exact HO_174003.out)) k_ hk, Kd.fresh' (Kd.R_lt (by (with_reducible repeat (first | apply Kd.R_alloc | apply Kd.R_drewN | apply Kd.R_drew)); exact HO182.out)) k_ hk⟩)); (case aO => exact (by (with_reducible repeat (first | apply Kd.R_alloc | apply Kd.R_drewN | apply Kd.R_drew)); exact Kd.R_mono HO185.out (fun _ hk => ⟨hk.1.1.1, ⟨hk.1.2, hk.2⟩⟩))); (case aS => exact (below_size (by repeat (first | (with_reducible first | exact HB.out | apply below_alloc | apply pw_below_drewN | apply below_drew1 | refine below_set ?_ GE173.out | refine below_set ?_ GE174.out) | exact HB.out)))); (case aL => have := LMc23.out; omega); intro v187 w33 ho hb hg hat; rw [← Ny186.out] at ho; have n0_ := Aside0.mk (Kd.V_afterv (ok := (fun k_ => ((P0_3_ k_ ∨ P0_2_ k_) ∨ w.heap.size ≤ k_) ∧ some k_ ≠ (.slice Ao5 l0_3.length co5 : Value).ownBlock ∧ some k_ ≠ (v181 : Value).ownBlock ∧ k_ ≠ gb173 ∧ k_ ≠ gb174)) (by (with_reducible repeat (first | apply Kd.V_alloc | apply Kd.V_drewN | apply Kd.V_drew)); exact Kd.V_mono HO_174002.out (fun _ hk => ⟨⟨hk.1.1.1, ⟨hk.1.1.2.1, ⟨hk.1.2, ⟨hk.1.1.2.2.1, hk.1.1.2.2.2⟩⟩⟩⟩, hk.2⟩)) hg hat); have n1_ := Aside0.mk (Kd.R_after (ok := (fun k_ => (P0_3_ k_ ∨ w.heap.size ≤ k_) ∧ some k_ ≠ (v181 : Value).ownBlock)) (by (with_reducible repeat (first | apply Kd.R_alloc | apply Kd.R_drewN | apply Kd.R_drew)); exact HO_174003.out) hg hat); have n2_ := Aside0.mk (blk_grown (g := gb173) (o := .cells #[.int .i64 a0_0, .int .i64 a0_1, .slice (some ad179) l0_2.length c0_2, .slice Ao5 l0_3.length co5, .int .i64 a0_4] 30 (0, 0)) (by (with_reducible repeat (first | refine blk_drewN ?_ _ | refine blk_drew ?_ | refine blk_alloc ?_ _)); exact BK173.out) hg (Kd.R_ne HO185.out BK173.out (by decide))); have n3_ := Aside0.mk (blk_grown (g := gb174) (o := .cells #[.int .i64 0, .int .i64 0, .slice none 0 0, .slice none 0 0, .int .i64 0] 30 (0, 0)) (by (with_reducible repeat (first | refine blk_drewN ?_ _ | refine blk_drew ?_ | refine blk_alloc ?_ _)); exact BK174.out) hg (Kd.R_ne HO185.out BK174.out (by decide))); have n4_ := Aside0.mk (Kd.V_afterv (ok := (fun k_ => ((P0_3_ k_ ∨ P0_2_ k_) ∨ w.heap.size ≤ k_) ∧ some k_ ≠ (.slice Ao5 l0_3.length co5 : Value).ownBlock ∧ some k_ ≠ (v181 : Value).ownBlock ∧ k_ ≠ gb173 ∧ k_ ≠ gb174)) (by (with_reducible repeat (first | apply Kd.V_alloc | apply Kd.V_drewN | apply Kd.V_drew)); exact Kd.V_mono HL179_0.out (fun _ hk => ⟨⟨hk.1.1.1, ⟨hk.1.1.2.1, ⟨hk.1.2, ⟨hk.1.1.2.2.1, hk.1.1.2.2.2⟩⟩⟩⟩, hk.2⟩)) hg hat); have n5_ := Aside0.mk (Kd.R_after (ok := (fun k_ => (P0_3_ k_ ∨ w.heap.size ≤ k_) ∧ some k_ ≠ (.slice Ao5 l0_3.length co5 : Value).ownBlock)) (by (with_reducible repeat (first | apply Kd.R_alloc | apply Kd.R_drewN | apply Kd.R_drew)); exact HO182.out) hg hat); have n6_ := Aside0.mk (hb); have n7_ := Aside0.mk (Kept.of_grown (S := (fun k_ => P0_3_ k_)) hg (by repeat (first | (with_reducible first | exact HK.out | apply Kept.alloc | apply Kept.drewN | apply Kept.drew | refine Kept.setCell ?_ (.inr GW173.out) _ | refine Kept.setCell ?_ (.inr GW174.out) _) | exact HK.out)) (fun k_ e_ => (HO185.out.1 k_ e_).1.1.1)); have n8_ := Aside0.mk (ho); clear HO_174002; clear HO_174003; clear BK173; clear BK174; clear HL179_0; clear HO182; clear HB; clear HK; clear HO185; have HO_174002 := n0_; have HO_174003 := n1_; have BK173 := n2_; have BK174 := n3_; have HL179_0 := n4_; have HO182 := n5_; have HB := n6_; have HK := n7_; have HO188 := n8_; clear n0_ n1_ n2_ n3_ n4_ n5_ n6_ n7_ n8_; clear ho hb hg hat; obtain ⟨Ao34, co34, eo34⟩ := Kd.R_slice HO182.out; subst eo34; have hcz35_0 : w33.cell? ⟨gb173, 0, none⟩ = some (.int .i64 a0_0) := (blk_cell BK173.out 0).trans rfl; have hcz35_1 : w33.cell? ⟨gb173, 1, none⟩ = some (.int .i64 a0_1) := (blk_cell BK173.out 1).trans rfl; have hcz35_2 : w33.cell? ⟨gb173, 2, none⟩ = some (.slice (some ad179) l0_2.length c0_2) := (blk_cell BK173.out 2).trans rfl; have hcz35_3 : w33.cell? ⟨gb173, 3, none⟩ = some (.slice Ao5 l0_3.length co5) := (blk_cell BK173.out 3).trans rfl; have hcz35_4 : w33.cell? ⟨gb173, 4, none⟩ = some (.int .i64 a0_4) := (blk_cell BK173.out 4).trans rfl; have hfz35_0 := blk_frozen BK173.out 0; have hfz35_1 := blk_frozen BK173.out 1; have hfz35_2 := blk_frozen BK173.out 2; have hfz35_3 := blk_frozen BK173.out 3; have hfz35_4 := blk_frozen BK173.out 4))
                  go_loopg [8, 9] kj3 (fun kq v8 v9 w' => ∃ (x8_2 : List Int) (x9_2 : List Int), Aside0 (handoffref05_Give.l0 kq a1 a2 x8_2 x9_2 a0_0 a0_1 l0_2 l0_3 a0_4 = some (r1, r2, r3, r4, r5, r6)) ∧ Aside0 (kq ≤ kj3) ∧ Aside0 (Kd.R (Kd.int .i64) 3 w' w0.heap.size (fun k_ => (P0_3_ k_ ∨ w.heap.size ≤ k_) ∧ some k_ ≠ (v9 : Value).ownBlock ∧ some k_ ≠ ((.slice Ao5 l0_3.length co5) : Value).ownBlock) v8 x8_2) ∧ Aside0 (Kd.R (Kd.int .i64) 3 w' w0.heap.size (fun k_ => (P0_3_ k_ ∨ w.heap.size ≤ k_) ∧ some k_ ≠ (v8 : Value).ownBlock ∧ some k_ ≠ ((.slice Ao5 l0_3.length co5) : Value).ownBlock) v9 x9_2) ∧ Aside0 (Kd.V (Kd.slice 3 (Kd.int .i64)) 28 w' w0.heap.size (fun k_ => ((P0_3_ k_ ∨ P0_2_ k_) ∨ w.heap.size ≤ k_) ∧ some k_ ≠ (v8 : Value).ownBlock ∧ some k_ ≠ (v9 : Value).ownBlock ∧ some k_ ≠ ((.slice Ao5 l0_3.length co5) : Value).ownBlock ∧ k_ ≠ gb173 ∧ k_ ≠ gb174) (.slice (some ad179) l0_2.length c0_2) l0_2) ∧ Aside0 (Kd.R (Kd.int .i64) 3 w' w0.heap.size (fun k_ => (P0_3_ k_ ∨ w.heap.size ≤ k_) ∧ some k_ ≠ (v8 : Value).ownBlock ∧ some k_ ≠ (v9 : Value).ownBlock) (.slice Ao5 l0_3.length co5) l0_3) ∧ Aside0 (w'.heap[gb173]? = some (.cells #[.int .i64 a0_0, .int .i64 a0_1, (.slice (some ad179) l0_2.length c0_2), (.slice Ao5 l0_3.length co5), .int .i64 a0_4] 30 (0, 0))) ∧ Aside0 (w'.heap[gb174]? = some (.cells #[.int .i64 0, .int .i64 0, (.slice none 0 0), (.slice none 0 0), .int .i64 0] 30 (0, 0))) ∧ Aside0 (Kept w w' (fun k_ => P0_3_ k_)) ∧ Aside0 (Below w0.heap.size w0 w'))
                  case atStart => exact ⟨(y180), (y186), H', ⟨Nat.le_refl _⟩, ⟨by (with_reducible repeat (first | apply Kd.R_alloc | apply Kd.R_drewN | apply Kd.R_drew)); exact Kd.R_mono HO182.out (fun _ hk => ⟨hk.1.1, ⟨hk.2, hk.1.2⟩⟩)⟩, ⟨by (with_reducible repeat (first | apply Kd.R_alloc | apply Kd.R_drewN | apply Kd.R_drew)); exact Kd.R_mono HO188.out (fun _ hk => ⟨hk.1, ⟨hk.2.2, hk.2.1⟩⟩)⟩, ⟨by (with_reducible repeat (first | apply Kd.V_alloc | apply Kd.V_drewN | apply Kd.V_drew)); exact Kd.V_mono HO_174002.out (fun _ hk => ⟨hk.1.1, ⟨hk.1.2.2.1, ⟨hk.2, ⟨hk.1.2.1, ⟨hk.1.2.2.2.1, hk.1.2.2.2.2⟩⟩⟩⟩⟩)⟩, ⟨by (with_reducible repeat (first | apply Kd.R_alloc | apply Kd.R_drewN | apply Kd.R_drew)); exact Kd.R_mono HO_174003.out (fun _ hk => ⟨hk.1.1, ⟨hk.1.2, hk.2⟩⟩)⟩, ⟨by (with_reducible repeat (first | refine blk_drewN ?_ _ | refine blk_drew ?_ | refine blk_alloc ?_ _)); exact BK173.out⟩, ⟨by (with_reducible repeat (first | refine blk_drewN ?_ _ | refine blk_drew ?_ | refine blk_alloc ?_ _)); exact BK174.out⟩, ⟨by repeat (first | (with_reducible first | exact HK.out | apply Kept.alloc | apply Kept.drewN | apply Kept.drew | refine Kept.setCell ?_ (.inr GW173.out) _ | refine Kept.setCell ?_ (.inr GW174.out) _) | exact HK.out)⟩, ⟨by repeat (first | (with_reducible first | exact HB.out | apply below_alloc | apply pw_below_drewN | apply below_drew1 | refine below_set ?_ GE173.out | refine below_set ?_ GE174.out) | exact HB.out)⟩⟩
                  case round =>
                    clear H'
                    try clear c1
                    try clear p1
                    try clear q1
                    try clear hx1
                    try clear c2
                    try clear p2
                    try clear c8
                    try clear c8b0
                    try clear c9
                    try clear c9b0
                    try clear c10
                    try clear c13
                    try clear c16
                    try clear c17
                    try clear p17
                    try clear q17
                    try clear hx17
                    try clear c20
                    try clear c20b0
                    try clear c21
                    try clear c21b0
                    try clear c22
                    try clear c23
                    try clear c24
                    try clear c24b0
                    try clear c24b1
                    try clear c27
                    try clear hcz11_0
                    try clear hcz11_1
                    try clear hcz11_2
                    try clear hcz11_3
                    try clear hcz11_4
                    try clear hcz14_0
                    try clear hcz14_1
                    try clear hcz14_2
                    try clear hcz14_3
                    try clear hcz14_4
                    try clear hcz18_0
                    try clear hcz18_1
                    try clear hcz18_2
                    try clear hcz18_3
                    try clear hcz18_4
                    try clear hcz19_0
                    try clear hcz19_1
                    try clear hcz19_2
                    try clear hcz19_3
                    try clear hcz19_4
                    try clear hcz28_0
                    try clear hcz28_1
                    try clear hcz28_2
                    try clear hcz28_3
                    try clear hcz28_4
                    try clear hcz32_0
                    try clear hcz32_1
                    try clear hcz32_2
                    try clear hcz32_3
                    try clear hcz32_4
                    try clear hcz35_0
                    try clear hcz35_1
                    try clear hcz35_2
                    try clear hcz35_3
                    try clear hcz35_4
                    try clear hfz11_0
                    try clear hfz11_1
                    try clear hfz11_2
                    try clear hfz11_3
                    try clear hfz11_4
                    try clear hfz14_0
                    try clear hfz14_1
                    try clear hfz14_2
                    try clear hfz14_3
                    try clear hfz14_4
                    try clear hfz18_0
                    try clear hfz18_1
                    try clear hfz18_2
                    try clear hfz18_3
                    try clear hfz18_4
                    try clear hfz19_0
                    try clear hfz19_1
                    try clear hfz19_2
                    try clear hfz19_3
                    try clear hfz19_4
                    try clear hfz28_0
                    try clear hfz28_1
                    try clear hfz28_2
                    try clear hfz28_3
                    try clear hfz28_4
                    try clear hfz32_0
                    try clear hfz32_1
                    try clear hfz32_2
                    try clear hfz32_3
                    try clear hfz32_4
                    try clear hfz35_0
                    try clear hfz35_1
                    try clear hfz35_2
                    try clear hfz35_3
                    try clear hfz35_4
                    try clear hx179_0
                    try clear p179
                    try clear p2
                    try clear q179
                    obtain ⟨x8_2, x9_2, HA, HK2, HO_8, HO_9, HO_174002, HO_174003, BK173, BK174, HK, HB⟩ := hrel
                    cases gk with
                    | zero => exact absurd HA.out (by simp [handoffref05_Give.l0])
                    | succ k2 =>
                      have H := HA.out
                      clear HA
                      simp only [handoffref05_Give.l0] at H
                      by_cases c36 : (x8_2.length : Int) > (wrap64 (Int.tdiv a0_1 2))
                      · rw [if_pos c36] at H
                        have c36b0 : decide ((wrap64 (Int.tdiv a0_1 2)) < (x8_2.length : Int)) = true := decide_eq_true c36
                        clear c36
                        obtain ⟨ji37, hji37⟩ : ∃ j_ : Int, (wrap64 ((x8_2.length : Int) - 1)) = j_ := ⟨_, rfl⟩
                        replace H : (if 0 ≤ (ji37) then (if (ji37) < (x8_2.length : Int) then (if x9_2.length < 17592186044416 then (if (ji37) ≤ (x8_2.length : Int) then (handoffref05_Give.l0 k2 a1 a2 (x8_2.take ((ji37) : Int).toNat) (x9_2 ++ [rd x8_2 (ji37)]) a0_0 a0_1 l0_2 l0_3 a0_4) else (none)) else (none)) else (none)) else (none)) = some (r1, r2, r3, r4, r5, r6) := by first | (rw [hji37] at H; exact H) | (simp only [hji37] at H ⊢; exact H)
                        have hji37w : (IntKind.i64.wrap ((x8_2.length : Int) - 1)) = ji37 := (i64_w _).trans hji37
                        by_cases c38 : 0 ≤ (ji37)
                        · rw [if_pos c38] at H
                          have c38b0 : decide (0 ≤ (ji37)) = true := decide_eq_true c38
                          clear c38
                          by_cases c39 : (ji37) < (x8_2.length : Int)
                          · rw [if_pos c39] at H
                            have c39b0 : decide ((ji37) < (x8_2.length : Int)) = true := decide_eq_true c39
                            clear c39
                            by_cases c40 : x9_2.length < 17592186044416
                            · rw [if_pos c40] at H
                              have LMc40 := Aside0.mk c40
                              clear c40
                              obtain ⟨y190, hy190⟩ : ∃ y_ : List Int, y_ = (x9_2 ++ [rd x8_2 (ji37)]) := ⟨_, rfl⟩
                              replace H : (if (ji37) ≤ (x8_2.length : Int) then (handoffref05_Give.l0 k2 a1 a2 (x8_2.take ((ji37) : Int).toNat) y190 a0_0 a0_1 l0_2 l0_3 a0_4) else (none)) = some (r1, r2, r3, r4, r5, r6) := by first | (rw [hy190]; with_reducible exact H) | (have H2_ := (Option.bind_some _ _).symm.trans H; rw [hy190]; with_reducible exact H2_) | (have H2_ := (Option.bind_some _ _).symm.trans H; with_reducible exact H2_) | with_reducible exact H | (rw [hy190]; exact H) | exact H
                              have Ny190 := Aside0.mk hy190
                              clear hy190
                              by_cases c41 : (ji37) ≤ (x8_2.length : Int)
                              · rw [if_pos c41] at H
                                have c41b0 := eq_true c41
                                have c41b1 : decide ((ji37) ≤ (x8_2.length : Int)) = true := decide_eq_true c41
                                clear c41
                                obtain ⟨y193, hy193⟩ : ∃ y_ : List Int, y_ = (x8_2.take ((ji37) : Int).toNat) := ⟨_, rfl⟩
                                replace H : (handoffref05_Give.l0 k2 a1 a2 y193 y190 a0_0 a0_1 l0_2 l0_3 a0_4) = some (r1, r2, r3, r4, r5, r6) := by first | (rw [hy193]; with_reducible exact H) | (have H2_ := (Option.bind_some _ _).symm.trans H; rw [hy193]; with_reducible exact H2_) | (have H2_ := (Option.bind_some _ _).symm.trans H; with_reducible exact H2_) | with_reducible exact H | (rw [hy193]; exact H) | exact H
                                have Ny193 := Aside0.mk hy193
                                clear hy193
                                have H' := Aside0.mk H
                                clear H
                                obtain ⟨Ao42, co42, eo42⟩ := Kd.R_slice HO_8.out
                                subst eo42
                                have hnb43 := NB173_174.out
                                have hnc43 := NB174_173.out
                                have hcz44_0 : wr.cell? ⟨gb173, 0, none⟩ = some (.int .i64 a0_0) := (blk_cell BK173.out 0).trans rfl
                                have hcz44_1 : wr.cell? ⟨gb173, 1, none⟩ = some (.int .i64 a0_1) := (blk_cell BK173.out 1).trans rfl
                                have hcz44_2 : wr.cell? ⟨gb173, 2, none⟩ = some (.slice (some ad179) l0_2.length c0_2) := (blk_cell BK173.out 2).trans rfl
                                have hcz44_3 : wr.cell? ⟨gb173, 3, none⟩ = some (.slice Ao5 l0_3.length co5) := (blk_cell BK173.out 3).trans rfl
                                have hcz44_4 : wr.cell? ⟨gb173, 4, none⟩ = some (.int .i64 a0_4) := (blk_cell BK173.out 4).trans rfl
                                have hfz44_0 := blk_frozen BK173.out 0
                                have hfz44_1 := blk_frozen BK173.out 1
                                have hfz44_2 := blk_frozen BK173.out 2
                                have hfz44_3 := blk_frozen BK173.out 3
                                have hfz44_4 := blk_frozen BK173.out 4
                                have p189 : 0 ≤ ((ji37) : Int) := of_decide_eq_true (by first | (with_reducible assumption) | assumption)
                                have q189 : (ji37) < (x8_2.length : Int) := of_decide_eq_true (by first | (with_reducible assumption) | assumption)
                                obtain ⟨ad189, e189, hx189_0⟩ := Kd.at_int (Kd.R_reads' HO_8.out).2.2 (ji37) p189 q189
                                cases e189
                                replace p189 := eq_true p189
                                replace q189 := eq_true q189
                                go_wp2_with (first | ((with_reducible refine gate_builtin (b := .append) (xs := #[.tmp 48, .tmp 55]) rfl ?_); (try (refine gate_guard (by rfl) ?_; dsimp only)); at_builtin; refine Kd.R_append (Kd.int .i64) (w0 := w0) w0.heap.size rfl (.tmp 48) (.tmp 55) 28 3 (.int .i64 0) 8 rfl Try.underlying28 info3 rfl (by decide) (by omega) u9 x9_2 (rd x8_2 (ji37)) [.int .i64 (rd x8_2 (ji37))] (fun k_ => (P0_3_ k_ ∨ w.heap.size ≤ k_) ∧ some k_ ≠ (.slice (some ad189) x8_2.length co42 : Value).ownBlock ∧ some k_ ≠ (.slice Ao5 l0_3.length co5 : Value).ownBlock) (fun _ => False) rfl rfl ?aP (fun _ hk => hk.elim) ?aF ?aO ?aB ?aS ?aL ?_; (case aP => exact rfl); (case aB => exact (by repeat (first | (with_reducible first | exact HB.out | apply below_alloc | apply pw_below_drewN | apply below_drew1 | refine below_set ?_ GE173.out | refine below_set ?_ GE174.out) | exact HB.out))); (case aF => exact (fun k_ hk => ⟨(.inr (Nat.le_trans (by first | exact HK.out.1 | exact (show Kept w _ (fun k_ => P0_3_ k_) from by repeat (first | (with_reducible first | exact HK.out | apply Kept.alloc | apply Kept.drewN | apply Kept.drew | refine Kept.setCell ?_ (.inr GW173.out) _ | refine Kept.setCell ?_ (.inr GW174.out) _) | exact HK.out)).1) hk)), Kd.fresh' (Kd.R_lt (by (with_reducible repeat (first | apply Kd.R_alloc | apply Kd.R_drewN | apply Kd.R_drew)); exact HO_8.out)) k_ hk, Kd.fresh' (Kd.R_lt (by (with_reducible repeat (first | apply Kd.R_alloc | apply Kd.R_drewN | apply Kd.R_drew)); exact HO_174003.out)) k_ hk⟩)); (case aO => exact (by (with_reducible repeat (first | apply Kd.R_alloc | apply Kd.R_drewN | apply Kd.R_drew)); exact HO_9.out)); (case aS => exact (below_size (by repeat (first | (with_reducible first | exact HB.out | apply below_alloc | apply pw_below_drewN | apply below_drew1 | refine below_set ?_ GE173.out | refine below_set ?_ GE174.out) | exact HB.out)))); (case aL => have := LMc40.out; omega); intro v191 w45 ho hb hg hat; rw [← Ny190.out] at ho; have n0_ := Aside0.mk (Kd.R_after (ok := (fun k_ => (P0_3_ k_ ∨ w.heap.size ≤ k_) ∧ some k_ ≠ (.slice Ao5 l0_3.length co5 : Value).ownBlock)) (by (with_reducible repeat (first | apply Kd.R_alloc | apply Kd.R_drewN | apply Kd.R_drew)); exact Kd.R_mono HO_8.out (fun _ hk => ⟨⟨hk.1, hk.2.2⟩, hk.2.1⟩)) hg hat); have n1_ := Aside0.mk (Kd.V_afterv (ok := (fun k_ => ((P0_3_ k_ ∨ P0_2_ k_) ∨ w.heap.size ≤ k_) ∧ some k_ ≠ (.slice (some ad189) x8_2.length co42 : Value).ownBlock ∧ some k_ ≠ (.slice Ao5 l0_3.length co5 : Value).ownBlock ∧ k_ ≠ gb173 ∧ k_ ≠ gb174)) (by (with_reducible repeat (first | apply Kd.V_alloc | apply Kd.V_drewN | apply Kd.V_drew)); exact Kd.V_mono HO_174002.out (fun _ hk => ⟨⟨hk.1, ⟨hk.2.1, ⟨hk.2.2.2.1, ⟨hk.2.2.2.2.1, hk.2.2.2.2.2⟩⟩⟩⟩, hk.2.2.1⟩)) hg hat); have n2_ := Aside0.mk (Kd.R_after (ok := (fun k_ => (P0_3_ k_ ∨ w.heap.size ≤ k_) ∧ some k_ ≠ (.slice (some ad189) x8_2.length co42 : Value).ownBlock)) (by (with_reducible repeat (first | apply Kd.R_alloc | apply Kd.R_drewN | apply Kd.R_drew)); exact Kd.R_mono HO_174003.out (fun _ hk => ⟨⟨hk.1, hk.2.1⟩, hk.2.2⟩)) hg hat); have n3_ := Aside0.mk (blk_grown (g := gb173) (o := .cells #[.int .i64 a0_0, .int .i64 a0_1, .slice (some ad179) l0_2.length c0_2, .slice Ao5 l0_3.length co5, .int .i64 a0_4] 30 (0, 0)) (by (with_reducible repeat (first | refine blk_drewN ?_ _ | refine blk_drew ?_ | refine blk_alloc ?_ _)); exact BK173.out) hg (Kd.R_ne HO_9.out BK173.out (by decide))); have n4_ := Aside0.mk (blk_grown (g := gb174) (o := .cells #[.int .i64 0, .int .i64 0, .slice none 0 0, .slice none 0 0, .int .i64 0] 30 (0, 0)) (by (with_reducible repeat (first | refine blk_drewN ?_ _ | refine blk_drew ?_ | refine blk_alloc ?_ _)); exact BK174.out) hg (Kd.R_ne HO_9.out BK174.out (by decide))); have n5_ := Aside0.mk (hb); have n6_ := Aside0.mk (Kept.of_grown (S := (fun k_ => P0_3_ k_)) hg (by repeat (first | (with_reducible first | exact HK.out | apply Kept.alloc | apply Kept.drewN | apply Kept.drew | refine Kept.setCell ?_ (.inr GW173.out) _ | refine Kept.setCell ?_ (.inr GW174.out) _) | exact HK.out)) (fun k_ e_ => (HO_9.out.1 k_ e_).1)); have n7_ := Aside0.mk (ho); clear HO_8; clear HO_174002; clear HO_174003; clear BK173; clear BK174; clear HB; clear HK; clear HO_9; have HO_8 := n0_; have HO_174002 := n1_; have HO_174003 := n2_; have BK173 := n3_; have BK174 := n4_; have HB := n5_; have HK := n6_; have HO192 := n7_; clear n0_ n1_ n2_ n3_ n4_ n5_ n6_ n7_; clear ho hb hg hat; have q46 : ((ji37) : Int) ≤ ((x8_2.length : Int) : Int) := of_decide_eq_true (by first | (with_reducible assumption) | assumption); obtain ⟨i046, hi046, _, hsz46, _⟩ := info_parts info3; have hcut46 := cut_to (P := Try.prog) 28 3 .i64 Try.underlying28 hi046 (some ad189) x8_2.length co42 (ji37) (of_decide_eq_true (by first | (with_reducible assumption) | assumption)) q46 (Kd.R_reads' HO_8.out).2.1; have hr46 := Kd.R_take (m := ((ji37) : Int).toNat) HO_8.out (by omega); have hy46 : y193.length = ((ji37) : Int).toNat := (by rw [Ny193.out, List.length_take]; omega); rw [← Ny193.out] at hr46; rw [← hy46] at hr46 hcut46; clear hy46 hi046 hsz46 HO_8; have HO195 := Aside0.mk hr46; clear hr46; replace q46 := eq_true q46))
                                go_roundg k2
                                case measure => have := HJ3.out; have := HK2.out; omega
                                case rel => exact ⟨(y193), (y190), H', ⟨by have := HJ3.out; have := HK2.out; omega⟩, ⟨by (with_reducible repeat (first | apply Kd.R_alloc | apply Kd.R_drewN | apply Kd.R_drew)); exact Kd.R_mono HO195.out (fun _ hk => ⟨hk.1.1, ⟨hk.2, hk.1.2⟩⟩)⟩, ⟨by (with_reducible repeat (first | apply Kd.R_alloc | apply Kd.R_drewN | apply Kd.R_drew)); exact HO192.out⟩, ⟨by (with_reducible repeat (first | apply Kd.V_alloc | apply Kd.V_drewN | apply Kd.V_drew)); exact Kd.V_mono HO_174002.out (fun _ hk => ⟨hk.1.1, ⟨hk.1.2.1, ⟨hk.2, ⟨hk.1.2.2.1, ⟨hk.1.2.2.2.1, hk.1.2.2.2.2⟩⟩⟩⟩⟩)⟩, ⟨by (with_reducible repeat (first | apply Kd.R_alloc | apply Kd.R_drewN | apply Kd.R_drew)); exact Kd.R_mono HO_174003.out (fun _ hk => ⟨hk.1.1, ⟨hk.1.2, hk.2⟩⟩)⟩, ⟨by (with_reducible repeat (first | refine blk_drewN ?_ _ | refine blk_drew ?_ | refine blk_alloc ?_ _)); exact BK173.out⟩, ⟨by (with_reducible repeat (first | refine blk_drewN ?_ _ | refine blk_drew ?_ | refine blk_alloc ?_ _)); exact BK174.out⟩, ⟨by repeat (first | (with_reducible first | exact HK.out | apply Kept.alloc | apply Kept.drewN | apply Kept.drew | refine Kept.setCell ?_ (.inr GW173.out) _ | refine Kept.setCell ?_ (.inr GW174.out) _) | exact HK.out)⟩, ⟨by repeat (first | (with_reducible first | exact HB.out | apply below_alloc | apply pw_below_drewN | apply below_drew1 | refine below_set ?_ GE173.out | refine below_set ?_ GE174.out) | exact HB.out)⟩⟩
                              · rw [if_neg c41] at H
                                exact absurd H (by simp)
                            · rw [if_neg c40] at H
                              exact absurd H (by simp)
                          · rw [if_neg c39] at H
                            exact absurd H (by simp)
                        · rw [if_neg c38] at H
                          exact absurd H (by simp)
                      · rw [if_neg c36] at H
                        have c36b0 : decide ((wrap64 (Int.tdiv a0_1 2)) < (x8_2.length : Int)) = false := decide_eq_false c36
                        clear c36
                        by_cases c47 : x8_2.length < 17592186044416
                        · rw [if_pos c47] at H
                          have LMc47 := Aside0.mk c47
                          clear c47
                          obtain ⟨y196, hy196⟩ : ∃ y_ : List Int, y_ = (x8_2 ++ [a2]) := ⟨_, rfl⟩
                          replace H : ((handoffref05_with.f a0_0 a0_1 l0_2 x9_2 a0_4 a1 y196).bind fun bt199 => (some (bt199.1, bt199.2.1, bt199.2.2.1, bt199.2.2.2.1, bt199.2.2.2.2, true))) = some (r1, r2, r3, r4, r5, r6) := by first | (rw [hy196]; with_reducible exact H) | (have H2_ := (Option.bind_some _ _).symm.trans H; rw [hy196]; with_reducible exact H2_) | (have H2_ := (Option.bind_some _ _).symm.trans H; with_reducible exact H2_) | with_reducible exact H | (rw [hy196]; exact H) | exact H
                          have Ny196 := Aside0.mk hy196
                          clear hy196
                          replace H := Option.bind_eq_some_iff.mp H
                          obtain ⟨⟨t199, t200, t201, t204, t207⟩, A480, H⟩ := H
                          replace H : (some (t199, t200, t201, t204, t207, true)) = some (r1, r2, r3, r4, r5, r6) := H
                          have A48 := Aside0.mk A480
                          clear A480
                          simp only [Option.some.injEq, Prod.mk.injEq] at H
                          obtain ⟨rfl, rfl, rfl, rfl, rfl, rfl⟩ := H
                          obtain ⟨Ao49, co49, eo49⟩ := Kd.R_slice HO_8.out
                          subst eo49
                          have hnb50 := NB173_174.out
                          have hnc50 := NB174_173.out
                          have hcz51_0 : wr.cell? ⟨gb173, 0, none⟩ = some (.int .i64 a0_0) := (blk_cell BK173.out 0).trans rfl
                          have hcz51_1 : wr.cell? ⟨gb173, 1, none⟩ = some (.int .i64 a0_1) := (blk_cell BK173.out 1).trans rfl
                          have hcz51_2 : wr.cell? ⟨gb173, 2, none⟩ = some (.slice (some ad179) l0_2.length c0_2) := (blk_cell BK173.out 2).trans rfl
                          have hcz51_3 : wr.cell? ⟨gb173, 3, none⟩ = some (.slice Ao5 l0_3.length co5) := (blk_cell BK173.out 3).trans rfl
                          have hcz51_4 : wr.cell? ⟨gb173, 4, none⟩ = some (.int .i64 a0_4) := (blk_cell BK173.out 4).trans rfl
                          have hfz51_0 := blk_frozen BK173.out 0
                          have hfz51_1 := blk_frozen BK173.out 1
                          have hfz51_2 := blk_frozen BK173.out 2
                          have hfz51_3 := blk_frozen BK173.out 3
                          have hfz51_4 := blk_frozen BK173.out 4
                          obtain ⟨Ao52, co52, eo52⟩ := Kd.R_slice HO_9.out
                          subst eo52
                          try go_wp2
                          have n0_ : Aside0 (Kd.R (Kd.int .i64) 3 (wr.setCell ⟨gb173, 3, none⟩ (.slice Ao52 x9_2.length co52)) w0.heap.size (fun k_ => (P0_3_ k_ ∨ w.heap.size ≤ k_) ∧ some k_ ≠ (.slice Ao52 x9_2.length co52 : Value).ownBlock ∧ some k_ ≠ (.slice Ao5 l0_3.length co5 : Value).ownBlock) (.slice Ao49 x8_2.length co49) x8_2) := ⟨by (with_reducible repeat (first | apply Kd.R_alloc | apply Kd.R_drewN | apply Kd.R_drew)); exact Kd.R_mono (Kd.R_far (p := ⟨gb173, 3, none⟩) (Kd.R_types HO_8.out BK173.out (by decide)) (fun _ hk => hk.2) (.slice Ao52 x9_2.length co52)) (fun _ hk => ⟨hk.1.1, ⟨hk.1.2.1, hk.1.2.2⟩⟩)⟩
                          have n1_ : Aside0 (Kd.R (Kd.int .i64) 3 (wr.setCell ⟨gb173, 3, none⟩ (.slice Ao52 x9_2.length co52)) w0.heap.size (fun k_ => (P0_3_ k_ ∨ w.heap.size ≤ k_) ∧ some k_ ≠ (.slice Ao49 x8_2.length co49 : Value).ownBlock ∧ some k_ ≠ (.slice Ao5 l0_3.length co5 : Value).ownBlock) (.slice Ao52 x9_2.length co52) x9_2) := ⟨by (with_reducible repeat (first | apply Kd.R_alloc | apply Kd.R_drewN | apply Kd.R_drew)); exact Kd.R_mono (Kd.R_far (p := ⟨gb173, 3, none⟩) (Kd.R_types HO_9.out BK173.out (by decide)) (fun _ hk => hk.2) (.slice Ao52 x9_2.length co52)) (fun _ hk => ⟨hk.1.1, ⟨hk.1.2.1, hk.1.2.2⟩⟩)⟩
                          have n2_ : Aside0 (Kd.V (Kd.slice 3 (Kd.int .i64)) 28 (wr.setCell ⟨gb173, 3, none⟩ (.slice Ao52 x9_2.length co52)) w0.heap.size (fun k_ => ((P0_3_ k_ ∨ P0_2_ k_) ∨ w.heap.size ≤ k_) ∧ some k_ ≠ (.slice Ao49 x8_2.length co49 : Value).ownBlock ∧ some k_ ≠ (.slice Ao52 x9_2.length co52 : Value).ownBlock ∧ some k_ ≠ (.slice Ao5 l0_3.length co5 : Value).ownBlock ∧ k_ ≠ gb173 ∧ k_ ≠ gb174) (.slice (some ad179) l0_2.length c0_2) l0_2) := ⟨by (with_reducible repeat (first | apply Kd.V_alloc | apply Kd.V_drewN | apply Kd.V_drew)); exact Kd.V_mono (Kd.V_far (p := ⟨gb173, 3, none⟩) (Kd.V_mono HO_174002.out (fun k_ hk => (⟨hk, hk.2.2.2.2.1⟩ : _ ∧ k_ ≠ gb173))) (fun _ hk => hk.2) (.slice Ao52 x9_2.length co52)) (fun _ hk => ⟨hk.1.1, ⟨hk.1.2.1, ⟨hk.1.2.2.1, ⟨hk.1.2.2.2.1, ⟨hk.1.2.2.2.2.1, hk.1.2.2.2.2.2⟩⟩⟩⟩⟩)⟩
                          have n3_ : Aside0 (Kd.R (Kd.int .i64) 3 (wr.setCell ⟨gb173, 3, none⟩ (.slice Ao52 x9_2.length co52)) w0.heap.size (fun k_ => (P0_3_ k_ ∨ w.heap.size ≤ k_) ∧ some k_ ≠ (.slice Ao49 x8_2.length co49 : Value).ownBlock ∧ some k_ ≠ (.slice Ao52 x9_2.length co52 : Value).ownBlock) (.slice Ao5 l0_3.length co5) l0_3) := ⟨by (with_reducible repeat (first | apply Kd.R_alloc | apply Kd.R_drewN | apply Kd.R_drew)); exact Kd.R_mono (Kd.R_far (p := ⟨gb173, 3, none⟩) (Kd.R_types HO_174003.out BK173.out (by decide)) (fun _ hk => hk.2) (.slice Ao52 x9_2.length co52)) (fun _ hk => ⟨hk.1.1, ⟨hk.1.2.1, hk.1.2.2⟩⟩)⟩
                          have n4_ : Aside0 ((wr.setCell ⟨gb173, 3, none⟩ (.slice Ao52 x9_2.length co52)).heap[gb173]? = some (.cells #[.int .i64 a0_0, .int .i64 a0_1, .slice (some ad179) l0_2.length c0_2, .slice Ao52 x9_2.length co52, .int .i64 a0_4] 30 (0, 0))) := ⟨by (with_reducible repeat (first | refine blk_drewN ?_ _ | refine blk_drew ?_ | refine blk_alloc ?_ _)); refine blk_put (cs := #[.int .i64 a0_0, .int .i64 a0_1, .slice (some ad179) l0_2.length c0_2, .slice Ao5 l0_3.length co5, .int .i64 a0_4]) ?_ 3 _ rfl; (with_reducible repeat (first | refine blk_drewN ?_ _ | refine blk_drew ?_ | refine blk_alloc ?_ _)); exact BK173.out⟩
                          have n5_ : Aside0 ((wr.setCell ⟨gb173, 3, none⟩ (.slice Ao52 x9_2.length co52)).heap[gb174]? = some (.cells #[.int .i64 0, .int .i64 0, .slice none 0 0, .slice none 0 0, .int .i64 0] 30 (0, 0))) := ⟨by (with_reducible repeat (first | refine blk_drewN ?_ _ | refine blk_drew ?_ | refine blk_alloc ?_ _)); refine blk_far ?_ NB174_173.out _; (with_reducible repeat (first | refine blk_drewN ?_ _ | refine blk_drew ?_ | refine blk_alloc ?_ _)); exact BK174.out⟩
                          have n6_ : Aside0 (Kept w (wr.setCell ⟨gb173, 3, none⟩ (.slice Ao52 x9_2.length co52)) (fun k_ => P0_3_ k_)) := ⟨by repeat (first | (with_reducible first | exact HK.out | apply Kept.alloc | apply Kept.drewN | apply Kept.drew | refine Kept.setCell ?_ (.inr GW173.out) _ | refine Kept.setCell ?_ (.inr GW174.out) _) | exact HK.out)⟩
                          have n7_ : Aside0 (Below w0.heap.size w0 (wr.setCell ⟨gb173, 3, none⟩ (.slice Ao52 x9_2.length co52))) := ⟨by repeat (first | (with_reducible first | exact HB.out | apply below_alloc | apply pw_below_drewN | apply below_drew1 | refine below_set ?_ GE173.out | refine below_set ?_ GE174.out) | exact HB.out)⟩
                          (try clear HO_8)
                          (try clear HO_9)
                          (try clear HO_174002)
                          (try clear HO_174003)
                          (try clear BK173)
                          (try clear BK174)
                          (try clear HK)
                          (try clear HB)
                          generalize (wr.setCell ⟨gb173, 3, none⟩ (.slice Ao52 x9_2.length co52)) = w53 at n0_ n1_ n2_ n3_ n4_ n5_ n6_ n7_ ⊢
                          have HO_8 := n0_
                          have HO_9 := n1_
                          have HO_174002 := n2_
                          have HO_174003 := n3_
                          have BK173 := n4_
                          have BK174 := n5_
                          have HK := n6_
                          have HB := n7_
                          clear n0_ n1_ n2_ n3_ n4_ n5_ n6_ n7_
                          have n0_ := Aside0.mk (Kd.R_drew HO_8.out)
                          have n1_ := Aside0.mk (Kd.R_drew HO_9.out)
                          have n2_ := Aside0.mk (Kd.V_drew HO_174002.out)
                          have n3_ := Aside0.mk (Kd.R_drew HO_174003.out)
                          have n4_ := Aside0.mk (blk_drew BK173.out)
                          have n5_ := Aside0.mk (blk_drew BK174.out)
                          have n6_ := Aside0.mk (Kept.drew HK.out)
                          have n7_ := Aside0.mk (below_drew1 HB.out)
                          clear HO_8
                          clear HO_9
                          clear HO_174002
                          clear HO_174003
                          clear BK173
                          clear BK174
                          clear HK
                          clear HB
                          have HO_8 := n0_
                          have HO_9 := n1_
                          have HO_174002 := n2_
                          have HO_174003 := n3_
                          have BK173 := n4_
                          have BK174 := n5_
                          have HK := n6_
                          have HB := n7_
                          clear n0_ n1_ n2_ n3_ n4_ n5_ n6_ n7_
                          refine start_ (n := 9) (S := fun w' => w'.cell? ⟨gb173, 0, none⟩ = some (.int .i64 a0_0) ∧ w'.cell? ⟨gb173, 1, none⟩ = some (.int .i64 a0_1) ∧ w'.cell? ⟨gb173, 2, none⟩ = some (.slice (some ad179) l0_2.length c0_2) ∧ w'.cell? ⟨gb173, 3, none⟩ = some (.slice Ao52 x9_2.length co52) ∧ w'.cell? ⟨gb173, 4, none⟩ = some (.int .i64 a0_4)) (ds := []) #[false, false, false, false, false, false, false, false, false] (by kernel_rfl) rfl rfl ⟨(blk_cell BK173.out 0).trans rfl, (blk_cell BK173.out 1).trans rfl, (blk_cell BK173.out 2).trans rfl, (blk_cell BK173.out 3).trans rfl, (blk_cell BK173.out 4).trans rfl⟩ (fun hHeld => ?_); refine with_tabW handoffref05_Give.tab10 handoffref05_Give.bits10 (fun HT_ HW_ => ?_)
                          generalize w53.drew = w54 at HO_8 HO_9 HO_174002 HO_174003 BK173 BK174 HK HB hHeld ⊢
                          refine pure_ (i := 1) (N := some 65) (v := ?_) (a' := ?_) #[false, true, false, false, false, false, false, false, false] rfl rfl (any_of HT_.out (by kernel_rfl)) (fun _ _ _ h => h) (Or.inl ⟨by rfl, ?_⟩) ?_ ?_
                          rotate_left
                          · intro w'
                            go_simp
                            with_reducible rfl
                          rotate_left
                          · simp only [Act.put, List.setIfInBounds_toArray, List.set_cons_zero, List.set_cons_succ, i64_w, i32_w]
                            rfl
                          refine pure_ (i := 2) (N := some 66) (v := ?_) (a' := ?_) #[false, true, true, false, false, false, false, false, false] rfl rfl (any_of HT_.out (by kernel_rfl)) (fun _ _ _ h => h) (Or.inl ⟨by rfl, ?_⟩) ?_ ?_
                          rotate_left
                          · intro w'
                            go_simp
                            with_reducible rfl
                          rotate_left
                          · simp only [Act.put, List.setIfInBounds_toArray, List.set_cons_zero, List.set_cons_succ, i64_w, i32_w]
                            rfl
                          refine pure_ (i := 3) (N := some 67) (v := ?_) (a' := ?_) #[false, true, true, true, false, false, false, false, false] rfl rfl (any_of HT_.out (by kernel_rfl)) (fun _ _ _ h => h) (Or.inl ⟨by rfl, ?_⟩) ?_ ?_
                          rotate_left
                          · intro w'
                            go_simp
                            with_reducible rfl
                          rotate_left
                          · simp only [Act.put, List.setIfInBounds_toArray, List.set_cons_zero, List.set_cons_succ, i64_w, i32_w]
                            rfl
                          refine take_ (i := 0) (N := some 64) (v := ?_) (a' := ?_) #[true, true, true, true, false, false, false, false, false] rfl rfl (take_ofW HT_.out HW_.out (by kernel_rfl)) (fun _ _ _ h => h) (Or.inl ⟨by rfl, ?_⟩) hHeld ?_ ?_
                          rotate_left
                          · rintro w' ⟨s0, s1, s2, s3, s4⟩
                            go_simp
                            with_reducible rfl
                          rotate_left
                          · simp only [Act.put, List.setIfInBounds_toArray, List.set_cons_zero, List.set_cons_succ, i64_w, i32_w]
                            rfl
                          refine one_ (i := 4) (N := some 68) #[true, true, true, true, true, false, false, false, false] rfl rfl (one_of HT_.out (by kernel_rfl)) (by decide) (fun K hK => ?_)
                          refine value_ (w1 := ?_) (v := ?_) (by rfl) rfl ?_ ?_
                          rotate_left 2
                          · go_simp
                            constructor
                            · rfl
                            · rfl
                          refine hK.out _ _ ⟨(blk_cell (blk_alloc BK173.out _) 0).trans rfl, (blk_cell (blk_alloc BK173.out _) 1).trans rfl, (blk_cell (blk_alloc BK173.out _) 2).trans rfl, (blk_cell (blk_alloc BK173.out _) 3).trans rfl, (blk_cell (blk_alloc BK173.out _) 4).trans rfl⟩ (fun hHeld => ?_)
                          clear hK K
                          refine norm_ (a' := ?_) ?_ ?_
                          rotate_left
                          · show Act.put _ (some 68) _ = _
                            simp only [Act.put, List.setIfInBounds_toArray, List.set_cons_zero, List.set_cons_succ, i64_w, i32_w]
                            rfl
                          refine one_ (i := 5) (N := some 69) #[true, true, true, true, true, true, false, false, false] rfl rfl (one_of HT_.out (by kernel_rfl)) (by decide) (fun K hK => ?_)
                          refine Kd.R_append_step (Kd.int .i64) (w0 := w0) w0.heap.size (by rfl) (.tmp 66) (.tmp 68) 28 3 (.int .i64 0) 8 rfl Try.underlying28 info3 rfl (by decide) (by omega) (.slice Ao49 x8_2.length co49) x8_2 a2 [.int .i64 a2] (fun k_ => (P0_3_ k_ ∨ w.heap.size ≤ k_) ∧ some k_ ≠ (.slice Ao52 x9_2.length co52 : Value).ownBlock ∧ some k_ ≠ (.slice Ao5 l0_3.length co5 : Value).ownBlock) (fun _ => False) rfl rfl ?aP (fun _ hk => hk.elim) ?aF ?aO ?aB ?aS ?aL ?_
                          (case aP => exact rfl)
                          (case aB => exact (by repeat (first | (with_reducible first | exact HB.out | apply below_alloc | apply pw_below_drewN | apply below_drew1 | refine below_set ?_ GE173.out | refine below_set ?_ GE174.out) | exact HB.out)))
                          (case aF => exact (fun k_ hk => ⟨(.inr (Nat.le_trans (by first | exact HK.out.1 | exact (show Kept w _ (fun k_ => P0_3_ k_) from by repeat (first | (with_reducible first | exact HK.out | apply Kept.alloc | apply Kept.drewN | apply Kept.drew | refine Kept.setCell ?_ (.inr GW173.out) _ | refine Kept.setCell ?_ (.inr GW174.out) _) | exact HK.out)).1) hk)), Kd.fresh' (Kd.R_lt (by (with_reducible repeat (first | apply Kd.R_alloc | apply Kd.R_drewN | apply Kd.R_drew)); exact HO_9.out)) k_ hk, Kd.fresh' (Kd.R_lt (by (with_reducible repeat (first | apply Kd.R_alloc | apply Kd.R_drewN | apply Kd.R_drew)); exact HO_174003.out)) k_ hk⟩))
                          (case aO => exact (by (with_reducible repeat (first | apply Kd.R_alloc | apply Kd.R_drewN | apply Kd.R_drew)); exact HO_8.out))
                          (case aS => exact (below_size (by repeat (first | (with_reducible first | exact HB.out | apply below_alloc | apply pw_below_drewN | apply below_drew1 | refine below_set ?_ GE173.out | refine below_set ?_ GE174.out) | exact HB.out))))
                          (case aL => have := LMc47.out; omega)
                          intro v197 w55 ho hb hg hat
                          rw [← Ny196.out] at ho
                          have n0_ := Aside0.mk (Kd.R_after (ok := (fun k_ => (P0_3_ k_ ∨ w.heap.size ≤ k_) ∧ some k_ ≠ (.slice Ao5 l0_3.length co5 : Value).ownBlock)) (by (with_reducible repeat (first | apply Kd.R_alloc | apply Kd.R_drewN | apply Kd.R_drew)); exact Kd.R_mono HO_9.out (fun _ hk => ⟨⟨hk.1, hk.2.2⟩, hk.2.1⟩)) hg hat)
                          have n1_ := Aside0.mk (Kd.V_afterv (ok := (fun k_ => ((P0_3_ k_ ∨ P0_2_ k_) ∨ w.heap.size ≤ k_) ∧ some k_ ≠ (.slice Ao52 x9_2.length co52 : Value).ownBlock ∧ some k_ ≠ (.slice Ao5 l0_3.length co5 : Value).ownBlock ∧ k_ ≠ gb173 ∧ k_ ≠ gb174)) (by (with_reducible repeat (first | apply Kd.V_alloc | apply Kd.V_drewN | apply Kd.V_drew)); exact Kd.V_mono HO_174002.out (fun _ hk => ⟨⟨hk.1, ⟨hk.2.2.1, ⟨hk.2.2.2.1, ⟨hk.2.2.2.2.1, hk.2.2.2.2.2⟩⟩⟩⟩, hk.2.1⟩)) hg hat)
                          have n2_ := Aside0.mk (Kd.R_after (ok := (fun k_ => (P0_3_ k_ ∨ w.heap.size ≤ k_) ∧ some k_ ≠ (.slice Ao52 x9_2.length co52 : Value).ownBlock)) (by (with_reducible repeat (first | apply Kd.R_alloc | apply Kd.R_drewN | apply Kd.R_drew)); exact Kd.R_mono HO_174003.out (fun _ hk => ⟨⟨hk.1, hk.2.2⟩, hk.2.1⟩)) hg hat)
                          have n3_ := Aside0.mk (blk_grown (g := gb173) (o := .cells #[.int .i64 a0_0, .int .i64 a0_1, .slice (some ad179) l0_2.length c0_2, .slice Ao52 x9_2.length co52, .int .i64 a0_4] 30 (0, 0)) (by (with_reducible repeat (first | refine blk_drewN ?_ _ | refine blk_drew ?_ | refine blk_alloc ?_ _)); exact BK173.out) hg (Kd.R_ne HO_8.out BK173.out (by decide)))
                          have n4_ := Aside0.mk (blk_grown (g := gb174) (o := .cells #[.int .i64 0, .int .i64 0, .slice none 0 0, .slice none 0 0, .int .i64 0] 30 (0, 0)) (by (with_reducible repeat (first | refine blk_drewN ?_ _ | refine blk_drew ?_ | refine blk_alloc ?_ _)); exact BK174.out) hg (Kd.R_ne HO_8.out BK174.out (by decide)))
                          have n5_ := Aside0.mk (hb)
                          have n6_ := Aside0.mk (Kept.of_grown (S := (fun k_ => P0_3_ k_)) hg (by repeat (first | (with_reducible first | exact HK.out | apply Kept.alloc | apply Kept.drewN | apply Kept.drew | refine Kept.setCell ?_ (.inr GW173.out) _ | refine Kept.setCell ?_ (.inr GW174.out) _) | exact HK.out)) (fun k_ e_ => (HO_8.out.1 k_ e_).1))
                          have n7_ := Aside0.mk (ho)
                          clear HO_9
                          clear HO_174002
                          clear HO_174003
                          clear BK173
                          clear BK174
                          clear HB
                          clear HK
                          clear HO_8
                          have HO_9 := n0_
                          have HO_174002 := n1_
                          have HO_174003 := n2_
                          have BK173 := n3_
                          have BK174 := n4_
                          have HB := n5_
                          have HK := n6_
                          have HO198 := n7_
                          clear n0_ n1_ n2_ n3_ n4_ n5_ n6_ n7_
                          clear ho hb hg hat
                          obtain ⟨Ao56, co56, eo56⟩ := Kd.R_slice HO198.out
                          (first | subst eo56 | (injection eo56 with f1_ f2_ f3_; have f4_ := f1_.symm; have f5_ := f3_.symm; clear f1_ f2_ f3_; subst f4_; subst f5_))
                          refine hK.out _ _ ⟨(blk_cell BK173.out 0).trans rfl, (blk_cell BK173.out 1).trans rfl, (blk_cell BK173.out 2).trans rfl, (blk_cell BK173.out 3).trans rfl, (blk_cell BK173.out 4).trans rfl⟩ (fun hHeld => ?_)
                          clear hK K
                          refine norm_ (a' := ?_) ?_ ?_
                          rotate_left
                          · show Act.put _ (some 69) _ = _
                            simp only [Act.put, List.setIfInBounds_toArray, List.set_cons_zero, List.set_cons_succ, i64_w, i32_w]
                            rfl
                          refine one_ (i := 6) (N := some 70) #[true, true, true, true, true, true, true, false, false] rfl rfl (one_of HT_.out (by kernel_rfl)) (by decide) (fun K hK => ?_)
                          refine goes_ Try.func22 (by kernel_rfl) rfl #[.agg #[.int .i64 a0_0, .int .i64 a0_1, .slice (some ad179) l0_2.length c0_2, .slice Ao52 x9_2.length co52, .int .i64 a0_4], .int .i64 a1, .slice Ao56 y196.length co56] (by rfl) rfl rfl (by (try simp only [List.map_toArray, List.map_cons, List.map_nil]); first | done | rfl | (simp only [List.length_drop, List.length_take]; rfl)) ?_
                          with_reducible refine (handoffref05_with.calls a0_0 a0_1 (fun k_ => ((((P0_3_ k_ ∨ P0_2_ k_) ∨ w.heap.size ≤ k_) ∧ (some k_ ≠ (.slice Ao52 x9_2.length co52 : Value).ownBlock ∧ (some k_ ≠ (.slice Ao5 l0_3.length co5 : Value).ownBlock ∧ (k_ ≠ gb173 ∧ k_ ≠ gb174)))) ∧ some k_ ≠ (.slice Ao56 y196.length co56 : Value).ownBlock)) _ _ l0_2 (fun k_ => some k_ = (.slice Ao52 x9_2.length co52 : Value).ownBlock) (.slice Ao52 x9_2.length co52) x9_2 a0_4 a1 (fun k_ => some k_ = (.slice Ao56 y196.length co56 : Value).ownBlock) _ _ y196 t199 t200 t201 t204 t207 w0 _ ?side1 ?side2 ?side3 ?side4 A48.out).mono ?_
                          (case side1 => repeat (first | (with_reducible first | exact HB.out | apply below_alloc | apply pw_below_drewN | apply below_drew1 | refine below_set ?_ GE173.out | refine below_set ?_ GE174.out) | exact HB.out))
                          (case side2 => exact Kd.V_mono (HO_174002.out) (fun k_ hk_ => ⟨hk_, hk_.1.2.1⟩))
                          (case side3 => exact Kd.R_tight rfl HO_9.out)
                          (case side4 => exact Kd.V_mono (Kd.R_V (Kd.R_tight rfl (Kd.R_types (Kd.R_types (HO198.out) BK173.out (by decide)) BK174.out (by decide)))) (fun k_ hk_ => ⟨hk_, ((Kd.R_types (Kd.R_types (HO198.out) BK173.out (by decide)) BK174.out (by decide)).1 k_ hk_.symm).1.1.2.1⟩))
                          rintro e w57 ⟨v202, v205, rfl, ho0, ho1, hb, hkp⟩
                          refine ⟨_, rfl, ?_⟩
                          have n0_ := Aside0.mk (Kd.V_mono (ok' := fun k_ => ((P0_3_ k_ ∨ P0_2_ k_) ∨ w.heap.size ≤ k_) ∧ some k_ ≠ (.slice Ao5 l0_3.length co5 : Value).ownBlock ∧ some k_ ≠ (.slice Ao56 y196.length co56 : Value).ownBlock ∧ k_ ≠ gb173 ∧ k_ ≠ gb174 ∧ some k_ ≠ (v202 : Value).ownBlock ∧ some k_ ≠ (v205 : Value).ownBlock) (Kd.V_keptB (HO_174002.out) hkp (fun k_ hk_ hs_ => (hk_.1.2.1) hs_)) (fun k_ hk_ => ⟨hk_.1.1.1, hk_.1.1.2.2.1, hk_.1.2, hk_.1.1.2.2.2.1, hk_.1.1.2.2.2.2, fun e_ => Nat.not_le.2 hk_.2.2 (Kd.N_base ho0 k_ e_.symm), fun e_ => Or.elim (ho1.1 k_ e_.symm) (fun hs_ => hk_.2.1 hs_) (fun hn_ => Nat.not_le.2 hk_.2.2 hn_)⟩))
                          have n1_ := Aside0.mk (Kd.R_mono (ok' := fun k_ => (P0_3_ k_ ∨ w.heap.size ≤ k_) ∧ some k_ ≠ (.slice Ao56 y196.length co56 : Value).ownBlock ∧ some k_ ≠ (v205 : Value).ownBlock) (Kd.R_keptB (HO_174003.out) hkp (fun k_ hk_ hs_ => (hk_.1.2) hs_)) (fun k_ hk_ => ⟨hk_.1.1.1, hk_.1.2, fun e_ => Or.elim (ho1.1 k_ e_.symm) (fun hs_ => hk_.2.1 hs_) (fun hn_ => Nat.not_le.2 hk_.2.2 hn_)⟩))
                          have n2_ := Aside0.mk (blk_kept (by (with_reducible repeat (first | refine blk_drewN ?_ _ | refine blk_drew ?_ | refine blk_alloc ?_ _)); exact BK173.out) hkp (fun hs_ => (fun e_ => (Kd.R_ne HO_9.out BK173.out (by decide)) e_) hs_))
                          have n3_ := Aside0.mk (blk_kept (by (with_reducible repeat (first | refine blk_drewN ?_ _ | refine blk_drew ?_ | refine blk_alloc ?_ _)); exact BK174.out) hkp (fun hs_ => (fun e_ => (Kd.R_ne HO_9.out BK174.out (by decide)) e_) hs_))
                          have n4_ := Aside0.mk (Kd.R_mono (ok' := fun k_ => (P0_3_ k_ ∨ w.heap.size ≤ k_) ∧ some k_ ≠ (.slice Ao5 l0_3.length co5 : Value).ownBlock ∧ some k_ ≠ (v205 : Value).ownBlock) (Kd.R_keptB (HO198.out) hkp (fun k_ hk_ hs_ => (hk_.2.1) hs_)) (fun k_ hk_ => ⟨hk_.1.1, hk_.1.2.2, fun e_ => Or.elim (ho1.1 k_ e_.symm) (fun hs_ => hk_.2.1 hs_) (fun hn_ => Nat.not_le.2 hk_.2.2 hn_)⟩))
                          have n5_ := Aside0.mk (Kd.N_lower (Kd.N_mono (ok' := fun k_ => ((P0_3_ k_ ∨ P0_2_ k_) ∨ w.heap.size ≤ k_) ∧ some k_ ≠ (v205 : Value).ownBlock ∧ some k_ ≠ (.slice Ao5 l0_3.length co5 : Value).ownBlock ∧ k_ ≠ gb173 ∧ k_ ≠ gb174) ho0 (fun k_ hk_ => ⟨Or.elim hk_.1 (fun hs_ => Or.elim hs_ (fun hs_ => (Or.imp_left (fun h_ => (.inl h_)) ((HO_9.out.1 k_ (hs_).symm).1.1))) (fun hs_ => Or.elim hs_ (fun hs_ => hs_.1.1) (fun hs_ => (Or.imp_left (fun h_ => (.inl h_)) (((Kd.R_types (Kd.R_types (HO198.out) BK173.out (by decide)) BK174.out (by decide)).1 k_ hs_.symm).1.1.1))))) (fun hn_ => (.inr (Nat.le_trans (by first | exact HK.out.1 | exact (show Kept w _ (fun k_ => P0_3_ k_) from by repeat (first | (with_reducible first | exact HK.out | apply Kept.alloc | apply Kept.drewN | apply Kept.drew | refine Kept.setCell ?_ (.inr GW173.out) _ | refine Kept.setCell ?_ (.inr GW174.out) _) | exact HK.out)).1) hn_))), hk_.2, Or.elim hk_.1 (fun hs_ => Or.elim hs_ (fun hs_ => fun e_ => (((HO_174003.out).1 k_ e_.symm).1.2) hs_) (fun hs_ => Or.elim hs_ (fun hs_ => hs_.1.2.2.1) (fun hs_ => ((Kd.R_types (Kd.R_types (HO198.out) BK173.out (by decide)) BK174.out (by decide)).1 k_ hs_.symm).1.1.2.2))) (fun hn_ => (Kd.fresh' (Kd.R_lt (by (with_reducible repeat (first | apply Kd.R_alloc | apply Kd.R_drewN | apply Kd.R_drew)); exact HO_174003.out)) k_ hn_)), Or.elim hk_.1 (fun hs_ => Or.elim hs_ (fun hs_ => fun e_ => (Kd.R_ne HO_9.out BK173.out (by decide)) (by rw [← e_]; exact hs_)) (fun hs_ => Or.elim hs_ (fun hs_ => hs_.1.2.2.2.1) (fun hs_ => ((Kd.R_types (Kd.R_types (HO198.out) BK173.out (by decide)) BK174.out (by decide)).1 k_ hs_.symm).1.2))) (fun hn_ => (Kd.freshB (g := gb173) (o := .cells #[.int .i64 a0_0, .int .i64 a0_1, .slice (some ad179) l0_2.length c0_2, .slice Ao52 x9_2.length co52, .int .i64 a0_4] 30 (0, 0)) (by (with_reducible repeat (first | refine blk_drewN ?_ _ | refine blk_drew ?_ | refine blk_alloc ?_ _)); exact BK173.out) k_ hn_)), Or.elim hk_.1 (fun hs_ => Or.elim hs_ (fun hs_ => fun e_ => (Kd.R_ne HO_9.out BK174.out (by decide)) (by rw [← e_]; exact hs_)) (fun hs_ => Or.elim hs_ (fun hs_ => hs_.1.2.2.2.2) (fun hs_ => ((Kd.R_types (Kd.R_types (HO198.out) BK173.out (by decide)) BK174.out (by decide)).1 k_ hs_.symm).2))) (fun hn_ => (Kd.freshB (g := gb174) (o := .cells #[.int .i64 0, .int .i64 0, .slice none 0 0, .slice none 0 0, .int .i64 0] 30 (0, 0)) (by (with_reducible repeat (first | refine blk_drewN ?_ _ | refine blk_drew ?_ | refine blk_alloc ?_ _)); exact BK174.out) k_ hn_))⟩)) (by first | exact HK.out.1 | exact (show Kept w _ (fun k_ => P0_3_ k_) from by repeat (first | (with_reducible first | exact HK.out | apply Kept.alloc | apply Kept.drewN | apply Kept.drew | refine Kept.setCell ?_ (.inr GW173.out) _ | refine Kept.setCell ?_ (.inr GW174.out) _) | exact HK.out)).1))
                          have n6_ := Aside0.mk (Kd.R_mono (ok' := fun k_ => (P0_3_ k_ ∨ w.heap.size ≤ k_) ∧ some k_ ≠ (.slice Ao5 l0_3.length co5 : Value).ownBlock) ho1 (fun k_ hk_ => ⟨Or.elim hk_ (fun hs_ => (HO_9.out.1 k_ (hs_).symm).1.1) (fun hn_ => (.inr (Nat.le_trans (by first | exact HK.out.1 | exact (show Kept w _ (fun k_ => P0_3_ k_) from by repeat (first | (with_reducible first | exact HK.out | apply Kept.alloc | apply Kept.drewN | apply Kept.drew | refine Kept.setCell ?_ (.inr GW173.out) _ | refine Kept.setCell ?_ (.inr GW174.out) _) | exact HK.out)).1) hn_))), Or.elim hk_ (fun hs_ => fun e_ => (((HO_174003.out).1 k_ e_.symm).1.2) hs_) (fun hn_ => (Kd.fresh' (Kd.R_lt (by (with_reducible repeat (first | apply Kd.R_alloc | apply Kd.R_drewN | apply Kd.R_drew)); exact HO_174003.out)) k_ hn_))⟩))
                          have n7_ := Aside0.mk (Kept.then_ (S := (fun k_ => P0_3_ k_)) (by repeat (first | (with_reducible first | exact HK.out | apply Kept.alloc | apply Kept.drewN | apply Kept.drew | refine Kept.setCell ?_ (.inr GW173.out) _ | refine Kept.setCell ?_ (.inr GW174.out) _) | exact HK.out)) hkp (fun k_ hs_ => (fun e_ => (HO_9.out.1 k_ e_.symm).1.1) hs_))
                          have n8_ := Aside0.mk (hb)
                          clear HO_174002
                          clear HO_174003
                          clear BK173
                          clear BK174
                          clear HO198
                          clear HK
                          clear HB
                          clear HO_9
                          have HO_174002 := n0_
                          have HO_174003 := n1_
                          have BK173 := n2_
                          have BK174 := n3_
                          have HO198 := n4_
                          have HO203 := n5_
                          have HO206 := n6_
                          have HK := n7_
                          have HB := n8_
                          clear n0_ n1_ n2_ n3_ n4_ n5_ n6_ n7_ n8_
                          (try clear hb)
                          (try clear hkp)
                          (try clear ho0)
                          (try clear ho1)
                          obtain ⟨Ao60, co60, eo60⟩ := Kd.N_slice HO203.out
                          (first | subst eo60 | (injection eo60 with f1_ f2_ f3_; have f4_ := f1_.symm; have f5_ := f3_.symm; clear f1_ f2_ f3_; subst f4_; subst f5_))
                          obtain ⟨Ao62, co62, eo62⟩ := Kd.R_slice HO206.out
                          (first | subst eo62 | (injection eo62 with f1_ f2_ f3_; have f4_ := f1_.symm; have f5_ := f3_.symm; clear f1_ f2_ f3_; subst f4_; subst f5_))
                          refine hK.out _ _ ⟨(blk_cell BK173.out 0).trans rfl, (blk_cell BK173.out 1).trans rfl, (blk_cell BK173.out 2).trans rfl, (blk_cell BK173.out 3).trans rfl, (blk_cell BK173.out 4).trans rfl⟩ (fun hHeld => ?_)
                          clear hK K
                          refine norm_ (a' := ?_) ?_ ?_
                          rotate_left
                          · show Act.put _ (some 70) _ = _
                            simp only [Act.put, List.setIfInBounds_toArray, List.set_cons_zero, List.set_cons_succ, i64_w, i32_w]
                            rfl
                          refine one_ (i := 7) (N := none) #[true, true, true, true, true, true, true, true, false] rfl rfl (one_of HT_.out (by kernel_rfl)) (by decide) (fun K hK => ?_)
                          have hs58 : w57.cell? ⟨gb174, 0, none⟩ = some (.int .i64 0) := (blk_cell BK174.out 0).trans rfl
                          have hfs58 := blk_frozen BK174.out 0
                          have hns58_0 := NB173_174.out
                          have hms58_0 := NB174_173.out
                          have hs59 : w57.cell? ⟨gb174, 1, none⟩ = some (.int .i64 0) := (blk_cell BK174.out 1).trans rfl
                          have hfs59 := blk_frozen BK174.out 1
                          have hns59_0 := NB173_174.out
                          have hms59_0 := NB174_173.out
                          have hs61 : w57.cell? ⟨gb174, 2, none⟩ = some (.slice none 0 0) := (blk_cell BK174.out 2).trans rfl
                          have hfs61 := blk_frozen BK174.out 2
                          have hns61_0 := NB173_174.out
                          have hms61_0 := NB174_173.out
                          have hs63 : w57.cell? ⟨gb174, 3, none⟩ = some (.slice none 0 0) := (blk_cell BK174.out 3).trans rfl
                          have hfs63 := blk_frozen BK174.out 3
                          have hns63_0 := NB173_174.out
                          have hms63_0 := NB174_173.out
                          have hs64 : w57.cell? ⟨gb174, 4, none⟩ = some (.int .i64 0) := (blk_cell BK174.out 4).trans rfl
                          have hfs64 := blk_frozen BK174.out 4
                          have hns64_0 := NB173_174.out
                          have hms64_0 := NB174_173.out
                          refine skip_ (w1 := ?_) (by rfl) rfl ?_ ?_
                          rotate_left
                          · go_simp
                            rfl
                          refine hK.out _ _ ⟨((cell_far (p := ⟨gb174, _, none⟩) NB173_174.out _).trans (((cell_far (p := ⟨gb174, _, none⟩) NB173_174.out _).trans (((cell_far (p := ⟨gb174, _, none⟩) NB173_174.out _).trans (((cell_far (p := ⟨gb174, _, none⟩) NB173_174.out _).trans (((cell_far (p := ⟨gb174, _, none⟩) NB173_174.out _).trans (hHeld.1)))))))))), ((cell_far (p := ⟨gb174, _, none⟩) NB173_174.out _).trans (((cell_far (p := ⟨gb174, _, none⟩) NB173_174.out _).trans (((cell_far (p := ⟨gb174, _, none⟩) NB173_174.out _).trans (((cell_far (p := ⟨gb174, _, none⟩) NB173_174.out _).trans (((cell_far (p := ⟨gb174, _, none⟩) NB173_174.out _).trans (hHeld.2.1)))))))))), ((cell_far (p := ⟨gb174, _, none⟩) NB173_174.out _).trans (((cell_far (p := ⟨gb174, _, none⟩) NB173_174.out _).trans (((cell_far (p := ⟨gb174, _, none⟩) NB173_174.out _).trans (((cell_far (p := ⟨gb174, _, none⟩) NB173_174.out _).trans (((cell_far (p := ⟨gb174, _, none⟩) NB173_174.out _).trans (hHeld.2.2.1)))))))))), ((cell_far (p := ⟨gb174, _, none⟩) NB173_174.out _).trans (((cell_far (p := ⟨gb174, _, none⟩) NB173_174.out _).trans (((cell_far (p := ⟨gb174, _, none⟩) NB173_174.out _).trans (((cell_far (p := ⟨gb174, _, none⟩) NB173_174.out _).trans (((cell_far (p := ⟨gb174, _, none⟩) NB173_174.out _).trans (hHeld.2.2.2.1)))))))))), ((cell_far (p := ⟨gb174, _, none⟩) NB173_174.out _).trans (((cell_far (p := ⟨gb174, _, none⟩) NB173_174.out _).trans (((cell_far (p := ⟨gb174, _, none⟩) NB173_174.out _).trans (((cell_far (p := ⟨gb174, _, none⟩) NB173_174.out _).trans (((cell_far (p := ⟨gb174, _, none⟩) NB173_174.out _).trans (hHeld.2.2.2.2))))))))))⟩ (fun hHeld => ?_)
                          clear hK K
                          refine pure_ (i := 8) (N := some 7) (v := ?_) (a' := ?_) #[true, true, true, true, true, true, true, true, true] rfl rfl (any_of HT_.out (by kernel_rfl)) (fun _ _ _ h => h) (Or.inl ⟨by rfl, ?_⟩) ?_ ?_
                          rotate_left
                          · intro w'
                            go_simp
                            with_reducible rfl
                          rotate_left
                          · simp only [Act.put, List.setIfInBounds_toArray, List.set_cons_zero, List.set_cons_succ, i64_w, i32_w]
                            rfl
                          refine done_ (done_of HT_.out (by kernel_rfl)) ?_
                          try go_wp2
                          refine bodyPost_ret (results_ct rfl _ _ gb174 30 #[.int .i64 t199, .int .i64 t200, .slice Ao60 t201.length co60, .slice Ao62 t204.length co62, .int .i64 t207] (0, 0) _ rfl (by (with_reducible repeat (first | refine blk_drewN ?_ _ | refine blk_drew ?_ | refine blk_alloc ?_ _)); refine blk_put (cs := #[.int .i64 t199, .int .i64 t200, .slice Ao60 t201.length co60, .slice Ao62 t204.length co62, .int .i64 0]) ?_ 4 _ rfl; (with_reducible repeat (first | refine blk_drewN ?_ _ | refine blk_drew ?_ | refine blk_alloc ?_ _)); refine blk_put (cs := #[.int .i64 t199, .int .i64 t200, .slice Ao60 t201.length co60, .slice none 0 0, .int .i64 0]) ?_ 3 _ rfl; (with_reducible repeat (first | refine blk_drewN ?_ _ | refine blk_drew ?_ | refine blk_alloc ?_ _)); refine blk_put (cs := #[.int .i64 t199, .int .i64 t200, .slice none 0 0, .slice none 0 0, .int .i64 0]) ?_ 2 _ rfl; (with_reducible repeat (first | refine blk_drewN ?_ _ | refine blk_drew ?_ | refine blk_alloc ?_ _)); refine blk_put (cs := #[.int .i64 t199, .int .i64 0, .slice none 0 0, .slice none 0 0, .int .i64 0]) ?_ 1 _ rfl; (with_reducible repeat (first | refine blk_drewN ?_ _ | refine blk_drew ?_ | refine blk_alloc ?_ _)); refine blk_put (cs := #[.int .i64 0, .int .i64 0, .slice none 0 0, .slice none 0 0, .int .i64 0]) ?_ 0 _ rfl; (with_reducible repeat (first | refine blk_drewN ?_ _ | refine blk_drew ?_ | refine blk_alloc ?_ _)); exact BK174.out) Try.underlying30 rfl (by kernel_rfl)) rfl ?_
                          exact ⟨_, _, by first | rfl | (simp [errW_none, errW_some] <;> rfl) | (simp [*, errW_none, errW_some] <;> rfl), Kd.N_V (by (with_reducible repeat (first | apply Kd.N_alloc | apply Kd.N_drewN | apply Kd.N_drew)); exact Kd.N_mono (Kd.N_far (p := ⟨gb174, 4, none⟩) (Kd.N_far (p := ⟨gb174, 3, none⟩) (Kd.N_far (p := ⟨gb174, 2, none⟩) (Kd.N_far (p := ⟨gb174, 1, none⟩) (Kd.N_far (p := ⟨gb174, 0, none⟩) (Kd.N_mono HO203.out (fun k_ hk => (⟨hk, hk.2.2.2.2⟩ : _ ∧ k_ ≠ gb174))) (fun _ hk => hk.2) (.int .i64 t199)) (fun _ hk => hk.2) (.int .i64 t200)) (fun _ hk => hk.2) (.slice Ao60 t201.length co60)) (fun _ hk => hk.2) (.slice Ao62 t204.length co62)) (fun _ hk => hk.2) (.int .i64 t207)) (fun _ hk => ⟨hk.1.1, hk.1.2.1⟩)), by (with_reducible repeat (first | apply Kd.R_alloc | apply Kd.R_drewN | apply Kd.R_drew)); exact Kd.R_mono (Kd.R_far (p := ⟨gb174, 4, none⟩) (Kd.R_far (p := ⟨gb174, 3, none⟩) (Kd.R_far (p := ⟨gb174, 2, none⟩) (Kd.R_far (p := ⟨gb174, 1, none⟩) (Kd.R_far (p := ⟨gb174, 0, none⟩) (Kd.R_types HO206.out BK174.out (by decide)) (fun _ hk => hk.2) (.int .i64 t199)) (fun _ hk => hk.2) (.int .i64 t200)) (fun _ hk => hk.2) (.slice Ao60 t201.length co60)) (fun _ hk => hk.2) (.slice Ao62 t204.length co62)) (fun _ hk => hk.2) (.int .i64 t207)) (fun _ hk => hk.1.1), by repeat (first | (with_reducible first | exact HB.out | apply below_alloc | apply pw_below_drewN | apply below_drew1 | refine below_set ?_ GE173.out | refine below_set ?_ GE174.out) | exact HB.out), by repeat (first | (with_reducible first | exact HK.out | apply Kept.alloc | apply Kept.drewN | apply Kept.drew | refine Kept.setCell ?_ (.inr GW173.out) _ | refine Kept.setCell ?_ (.inr GW174.out) _) | exact HK.out)⟩
                        · rw [if_neg c47] at H
                          exact absurd H (by simp)
                · rw [if_neg c24] at H
                  have c24b0 : ((y180.length : Int) == a0_1) = false := beq_eq_false_iff_ne.mpr c24
                  have c24b1 : ((y180.length : Int) != a0_1) = true := bne_iff_ne.mpr c24
                  by_cases c65 : y180.length < 17592186044416
                  · rw [if_pos c65] at H
                    have LMc65 := Aside0.mk c65
                    clear c65
                    obtain ⟨y208, hy208⟩ : ∃ y_ : List Int, y_ = (y180 ++ [a2]) := ⟨_, rfl⟩
                    replace H : ((handoffref05_with.f a0_0 a0_1 l0_2 y186 a0_4 a1 y208).bind fun bt211 => (some (bt211.1, bt211.2.1, bt211.2.2.1, bt211.2.2.2.1, bt211.2.2.2.2, true))) = some (r1, r2, r3, r4, r5, r6) := by first | (rw [hy208]; with_reducible exact H) | (have H2_ := (Option.bind_some _ _).symm.trans H; rw [hy208]; with_reducible exact H2_) | (have H2_ := (Option.bind_some _ _).symm.trans H; with_reducible exact H2_) | with_reducible exact H | (rw [hy208]; exact H) | exact H
                    have Ny208 := Aside0.mk hy208
                    clear hy208
                    replace H := Option.bind_eq_some_iff.mp H
                    obtain ⟨⟨t211, t212, t213, t216, t219⟩, A660, H⟩ := H
                    replace H : (some (t211, t212, t213, t216, t219, true)) = some (r1, r2, r3, r4, r5, r6) := H
                    have A66 := Aside0.mk A660
                    clear A660
                    simp only [Option.some.injEq, Prod.mk.injEq] at H
                    obtain ⟨rfl, rfl, rfl, rfl, rfl, rfl⟩ := H
                    try go_wp2_with (first | ((with_reducible refine gate_dst (N := 26) rfl ?_); (try (refine gate_guard (by rfl) ?_; dsimp only)); refine Kd.R_lit (Kd.int .i64) _ 3 ?hg (N := 26) ?hd (xs := ([] : List Int)) (inner := []) (ok := fun _ => True) (okp := fun _ => True) ?hr ?hp (fun _ hk => hk) trivial (Below.refl _ _) (Nat.le_refl _) (by simp) ?_; (case hd => rfl); (case hg => rfl); (case hr => first | (go_simp; done) | (go_simp; rfl)); (case hp => exact (Reps.none _ _)); intro v177 w67 ho68 hb hg_ hnew_; clear hg_ hnew_; (first | rw [← Ny176.out] at ho68 | (simp only [Int.reduceToNat] at ho68; rw [← Ny176.out] at ho68)); have n0_ := Aside0.mk (Kd.V_elder' (by (with_reducible repeat (first | apply Kd.V_alloc | apply Kd.V_drewN | apply Kd.V_drew)); exact HO_174002.out) (Kd.R_base ho68) hb); have n1_ := Aside0.mk (Kd.R_elder' (by (with_reducible repeat (first | apply Kd.R_alloc | apply Kd.R_drewN | apply Kd.R_drew)); exact HO_174003.out) (Kd.R_base ho68) hb); have n2_ := Aside0.mk (Kd.R_lower (Kd.R_new' (Kd.R_newM (M := fun k_ => (P0_3_ k_ ∨ w.heap.size ≤ k_)) ho68 (by first | exact HK.out.1 | exact (show Kept w _ (fun k_ => P0_3_ k_) from by repeat (first | (with_reducible first | exact HK.out | apply Kept.alloc | apply Kept.drewN | apply Kept.drew | refine Kept.setCell ?_ (.inr GW173.out) _ | refine Kept.setCell ?_ (.inr GW174.out) _) | exact HK.out)).1) (fun k_ h_ => .inr h_)) (Kd.R_lt (by (with_reducible repeat (first | apply Kd.R_alloc | apply Kd.R_drewN | apply Kd.R_drew)); exact HO_174003.out))) (below_size (by repeat (first | (with_reducible first | exact HB.out | apply below_alloc | apply pw_below_drewN | apply below_drew1 | refine below_set ?_ GE173.out | refine below_set ?_ GE174.out) | exact HB.out)))); have n3_ := Aside0.mk (blk_below (g := gb173) (o := .cells #[.int .i64 a0_0, .int .i64 a0_1, .slice A0_2 l0_2.length c0_2, .slice Ao5 l0_3.length co5, .int .i64 a0_4] 30 (0, 0)) (by (with_reducible repeat (first | refine blk_drewN ?_ _ | refine blk_drew ?_ | refine blk_alloc ?_ _)); exact BK173.out) hb); have n4_ := Aside0.mk (blk_below (g := gb174) (o := .cells #[.int .i64 0, .int .i64 0, .slice none 0 0, .slice none 0 0, .int .i64 0] 30 (0, 0)) (by (with_reducible repeat (first | refine blk_drewN ?_ _ | refine blk_drew ?_ | refine blk_alloc ?_ _)); exact BK174.out) hb); have n5_ := Aside0.mk (Kept.below (S := (fun k_ => P0_3_ k_)) (by repeat (first | (with_reducible first | exact HK.out | apply Kept.alloc | apply Kept.drewN | apply Kept.drew | refine Kept.setCell ?_ (.inr GW173.out) _ | refine Kept.setCell ?_ (.inr GW174.out) _) | exact HK.out)) hb); have n6_ := Aside0.mk (below_step (by repeat (first | (with_reducible first | exact HB.out | apply below_alloc | apply pw_below_drewN | apply below_drew1 | refine below_set ?_ GE173.out | refine below_set ?_ GE174.out) | exact HB.out)) hb); clear HO_174002; clear HO_174003; clear BK173; clear BK174; clear HK; clear HB; have HO_174002 := n0_; have HO_174003 := n1_; have HO178 := n2_; have BK173 := n3_; have BK174 := n4_; have HK := n5_; have HB := n6_; clear n0_ n1_ n2_ n3_ n4_ n5_ n6_; clear hb ho68; have hnb69 := NB173_174.out; have hnc69 := NB174_173.out; have hcz70_0 : w67.cell? ⟨gb173, 0, none⟩ = some (.int .i64 a0_0) := (blk_cell BK173.out 0).trans rfl; have hcz70_1 : w67.cell? ⟨gb173, 1, none⟩ = some (.int .i64 a0_1) := (blk_cell BK173.out 1).trans rfl; have hcz70_2 : w67.cell? ⟨gb173, 2, none⟩ = some (.slice A0_2 l0_2.length c0_2) := (blk_cell BK173.out 2).trans rfl; have hcz70_3 : w67.cell? ⟨gb173, 3, none⟩ = some (.slice Ao5 l0_3.length co5) := (blk_cell BK173.out 3).trans rfl; have hcz70_4 : w67.cell? ⟨gb173, 4, none⟩ = some (.int .i64 a0_4) := (blk_cell BK173.out 4).trans rfl; have hfz70_0 := blk_frozen BK173.out 0; have hfz70_1 := blk_frozen BK173.out 1; have hfz70_2 := blk_frozen BK173.out 2; have hfz70_3 := blk_frozen BK173.out 3; have hfz70_4 := blk_frozen BK173.out 4; have p179 : 0 ≤ (a1 : Int) := of_decide_eq_true (by first | (with_reducible assumption) | assumption); have q179 : a1 < (l0_2.length : Int) := of_decide_eq_true (by first | (with_reducible assumption) | assumption); obtain ⟨ad179, A179_0, c179_0, e179, hx179_0, hl179_0, hi179_0⟩ := at_L1 (Kd.V_reads' HO_174002.out).2.2 a1 p179 q179; cases e179; obtain ⟨ce179, hce179, hMe179, hcc179⟩ := Kd.V_get HO_174002.out [] a1 p179 (by first | exact q179 | exact of_decide_eq_true (by first | (with_reducible assumption) | assumption) | (have e_ := (Kd.V_reads' HO_174002.out).1; omega)); obtain ⟨ua179_0, uc179_0, rfl, ul179_0, ge179_0⟩ := Kd.FK_slice_open hMe179; have hv179_0 := hcc179 0 _ rfl; rw [Nat.add_zero, show ((Kd.slice 3 (Kd.int .i64))).sz = 1 from rfl, Nat.mul_one] at hv179_0; replace hv179_0 := Option.some.inj (hv179_0.symm.trans hx179_0); injection hv179_0 with hva_ hvn_ hvc_; rw [hva_] at ge179_0; rw [hvc_] at ul179_0; have HL179_0 := Aside0.mk (show Kd.V (Kd.int .i64) 3 _ w0.heap.size _ _ (rd_L1 l0_2 a1) from Kd.V_mk ul179_0 ge179_0); clear hva_ hvn_ hvc_ ge179_0 ul179_0; clear hcc179 hce179; have HR179_0 := Aside0.mk hi179_0; have HC179_0 := Aside0.mk hl179_0; clear hi179_0 hl179_0; replace p179 := eq_true p179; replace q179 := eq_true q179) | ((with_reducible refine gate_builtin (b := .append) (xs := #[.tmp 26, .tmp 31]) rfl ?_); (try (refine gate_guard (by rfl) ?_; dsimp only)); at_builtin; refine Kd.R_append_rows (Kd.int .i64) (w0 := w0) w0.heap.size rfl (.tmp 26) (.tmp 31) 28 3 (.int .i64 0) 8 rfl Try.underlying28 info3 rfl (by decide) (by omega) v177 y176 (rd_L1 l0_2 a1) _ _ _ (fun k_ => (P0_3_ k_ ∨ w.heap.size ≤ k_) ∧ some k_ ≠ (.slice Ao5 l0_3.length co5 : Value).ownBlock) (fun _ => False) rfl rfl ?aO ?aR (fun _ _ h => h) (fun _ h => h.elim) ?aF ?aB ?aS ?aL ?_; (case aR => repeat (first | exact (by repeat (first | (with_reducible exact HR179_0.out) | (with_reducible refine Kd.C_alloc ?_ _) | (with_reducible refine Kd.C_drewN ?_ _) | (with_reducible refine Kd.C_drew ?_) | exact HR179_0.out)) | (with_reducible refine Kd.C_alloc ?_ _) | (with_reducible refine Kd.C_drewN ?_ _) | (with_reducible refine Kd.C_drew ?_))); (case aB => exact (by repeat (first | (with_reducible first | exact HB.out | apply below_alloc | apply pw_below_drewN | apply below_drew1 | refine below_set ?_ GE173.out | refine below_set ?_ GE174.out) | exact HB.out))); (case aF => exact (fun k_ hk => ⟨(.inr (Nat.le_trans (by first | exact HK.out.1 | exact (show Kept w _ (fun k_ => P0_3_ k_) from by repeat (first | (with_reducible first | exact HK.out | apply Kept.alloc | apply Kept.drewN | apply Kept.drew | refine Kept.setCell ?_ (.inr GW173.out) _ | refine Kept.setCell ?_ (.inr GW174.out) _) | exact HK.out)).1) hk)), Kd.fresh' (Kd.R_lt (by (with_reducible repeat (first | apply Kd.R_alloc | apply Kd.R_drewN | apply Kd.R_drew)); exact HO_174003.out)) k_ hk⟩)); (case aO => exact (by (with_reducible repeat (first | apply Kd.R_alloc | apply Kd.R_drewN | apply Kd.R_drew)); exact Kd.R_mono HO178.out (fun _ hk => ⟨hk.1.1, hk.2⟩))); (case aS => exact (below_size (by repeat (first | (with_reducible first | exact HB.out | apply below_alloc | apply pw_below_drewN | apply below_drew1 | refine below_set ?_ GE173.out | refine below_set ?_ GE174.out) | exact HB.out)))); (case aL => have := LMc22.out; omega); intro v181 w71 ho hb hg hat; rw [← Ny180.out] at ho; have n0_ := Aside0.mk (Kd.V_afterv (ok := (fun k_ => ((P0_3_ k_ ∨ P0_2_ k_) ∨ w.heap.size ≤ k_) ∧ some k_ ≠ (.slice Ao5 l0_3.length co5 : Value).ownBlock ∧ k_ ≠ gb173 ∧ k_ ≠ gb174)) (by (with_reducible repeat (first | apply Kd.V_alloc | apply Kd.V_drewN | apply Kd.V_drew)); exact HO_174002.out) hg hat); have n1_ := Aside0.mk (Kd.R_after (ok := (fun k_ => (P0_3_ k_ ∨ w.heap.size ≤ k_))) (by (with_reducible repeat (first | apply Kd.R_alloc | apply Kd.R_drewN | apply Kd.R_drew)); exact HO_174003.out) hg hat); have n2_ := Aside0.mk (blk_grown (g := gb173) (o := .cells #[.int .i64 a0_0, .int .i64 a0_1, .slice (some ad179) l0_2.length c0_2, .slice Ao5 l0_3.length co5, .int .i64 a0_4] 30 (0, 0)) (by (with_reducible repeat (first | refine blk_drewN ?_ _ | refine blk_drew ?_ | refine blk_alloc ?_ _)); exact BK173.out) hg (Kd.R_ne HO178.out BK173.out (by decide))); have n3_ := Aside0.mk (blk_grown (g := gb174) (o := .cells #[.int .i64 0, .int .i64 0, .slice none 0 0, .slice none 0 0, .int .i64 0] 30 (0, 0)) (by (with_reducible repeat (first | refine blk_drewN ?_ _ | refine blk_drew ?_ | refine blk_alloc ?_ _)); exact BK174.out) hg (Kd.R_ne HO178.out BK174.out (by decide))); have n4_ := Aside0.mk (Kd.V_afterv (ok := (fun k_ => ((P0_3_ k_ ∨ P0_2_ k_) ∨ w.heap.size ≤ k_) ∧ some k_ ≠ (.slice Ao5 l0_3.length co5 : Value).ownBlock ∧ k_ ≠ gb173 ∧ k_ ≠ gb174)) (by (with_reducible repeat (first | apply Kd.V_alloc | apply Kd.V_drewN | apply Kd.V_drew)); exact HL179_0.out) hg hat); have n5_ := Aside0.mk (hb); have n6_ := Aside0.mk (Kept.of_grown (S := (fun k_ => P0_3_ k_)) hg (by repeat (first | (with_reducible first | exact HK.out | apply Kept.alloc | apply Kept.drewN | apply Kept.drew | refine Kept.setCell ?_ (.inr GW173.out) _ | refine Kept.setCell ?_ (.inr GW174.out) _) | exact HK.out)) (fun k_ e_ => (HO178.out.1 k_ e_).1.1)); have n7_ := Aside0.mk (ho); clear HO_174002; clear HO_174003; clear BK173; clear BK174; clear HL179_0; clear HB; clear HK; clear HO178; have HO_174002 := n0_; have HO_174003 := n1_; have BK173 := n2_; have BK174 := n3_; have HL179_0 := n4_; have HB := n5_; have HK := n6_; have HO182 := n7_; clear n0_ n1_ n2_ n3_ n4_ n5_ n6_ n7_; clear ho hb hg hat) | ((with_reducible refine gate_dst (N := 33) rfl ?_); (try (refine gate_guard (by rfl) ?_; dsimp only)); refine Kd.R_lit (Kd.int .i64) _ 3 ?hg (N := 33) ?hd (xs := ([] : List Int)) (inner := []) (ok := fun _ => True) (okp := fun _ => True) ?hr ?hp (fun _ hk => hk) trivial (Below.refl _ _) (Nat.le_refl _) (by simp) ?_; (case hd => rfl); (case hg => rfl); (case hr => first | (go_simp; done) | (go_simp; rfl)); (case hp => exact (Reps.none _ _)); intro v184 w72 ho73 hb hg_ hnew_; clear hg_ hnew_; (first | rw [← Ny183.out] at ho73 | (simp only [Int.reduceToNat] at ho73; rw [← Ny183.out] at ho73)); have n0_ := Aside0.mk (Kd.V_elder' (by (with_reducible repeat (first | apply Kd.V_alloc | apply Kd.V_drewN | apply Kd.V_drew)); exact HO_174002.out) (Kd.R_base ho73) hb); have n1_ := Aside0.mk (Kd.R_elder' (by (with_reducible repeat (first | apply Kd.R_alloc | apply Kd.R_drewN | apply Kd.R_drew)); exact HO_174003.out) (Kd.R_base ho73) hb); have n2_ := Aside0.mk (Kd.V_elder' (by (with_reducible repeat (first | apply Kd.V_alloc | apply Kd.V_drewN | apply Kd.V_drew)); exact HL179_0.out) (Kd.R_base ho73) hb); have n3_ := Aside0.mk (Kd.R_elder' (by (with_reducible repeat (first | apply Kd.R_alloc | apply Kd.R_drewN | apply Kd.R_drew)); exact HO182.out) (Kd.R_base ho73) hb); have n4_ := Aside0.mk (Kd.R_lower (Kd.R_new' (Kd.R_new' (Kd.R_newM (M := fun k_ => (P0_3_ k_ ∨ w.heap.size ≤ k_)) ho73 (by first | exact HK.out.1 | exact (show Kept w _ (fun k_ => P0_3_ k_) from by repeat (first | (with_reducible first | exact HK.out | apply Kept.alloc | apply Kept.drewN | apply Kept.drew | refine Kept.setCell ?_ (.inr GW173.out) _ | refine Kept.setCell ?_ (.inr GW174.out) _) | exact HK.out)).1) (fun k_ h_ => .inr h_)) (Kd.R_lt (by (with_reducible repeat (first | apply Kd.R_alloc | apply Kd.R_drewN | apply Kd.R_drew)); exact HO_174003.out))) (Kd.R_lt (by (with_reducible repeat (first | apply Kd.R_alloc | apply Kd.R_drewN | apply Kd.R_drew)); exact HO182.out))) (below_size (by repeat (first | (with_reducible first | exact HB.out | apply below_alloc | apply pw_below_drewN | apply below_drew1 | refine below_set ?_ GE173.out | refine below_set ?_ GE174.out) | exact HB.out)))); have n5_ := Aside0.mk (blk_below (g := gb173) (o := .cells #[.int .i64 a0_0, .int .i64 a0_1, .slice (some ad179) l0_2.length c0_2, .slice Ao5 l0_3.length co5, .int .i64 a0_4] 30 (0, 0)) (by (with_reducible repeat (first | refine blk_drewN ?_ _ | refine blk_drew ?_ | refine blk_alloc ?_ _)); exact BK173.out) hb); have n6_ := Aside0.mk (blk_below (g := gb174) (o := .cells #[.int .i64 0, .int .i64 0, .slice none 0 0, .slice none 0 0, .int .i64 0] 30 (0, 0)) (by (with_reducible repeat (first | refine blk_drewN ?_ _ | refine blk_drew ?_ | refine blk_alloc ?_ _)); exact BK174.out) hb); have n7_ := Aside0.mk (Kept.below (S := (fun k_ => P0_3_ k_)) (by repeat (first | (with_reducible first | exact HK.out | apply Kept.alloc | apply Kept.drewN | apply Kept.drew | refine Kept.setCell ?_ (.inr GW173.out) _ | refine Kept.setCell ?_ (.inr GW174.out) _) | exact HK.out)) hb); have n8_ := Aside0.mk (below_step (by repeat (first | (with_reducible first | exact HB.out | apply below_alloc | apply pw_below_drewN | apply below_drew1 | refine below_set ?_ GE173.out | refine below_set ?_ GE174.out) | exact HB.out)) hb); clear HO_174002; clear HO_174003; clear HL179_0; clear HO182; clear BK173; clear BK174; clear HK; clear HB; have HO_174002 := n0_; have HO_174003 := n1_; have HL179_0 := n2_; have HO182 := n3_; have HO185 := n4_; have BK173 := n5_; have BK174 := n6_; have HK := n7_; have HB := n8_; clear n0_ n1_ n2_ n3_ n4_ n5_ n6_ n7_ n8_; clear hb ho73; have hcz74_0 : w72.cell? ⟨gb173, 0, none⟩ = some (.int .i64 a0_0) := (blk_cell BK173.out 0).trans rfl; have hcz74_1 : w72.cell? ⟨gb173, 1, none⟩ = some (.int .i64 a0_1) := (blk_cell BK173.out 1).trans rfl; have hcz74_2 : w72.cell? ⟨gb173, 2, none⟩ = some (.slice (some ad179) l0_2.length c0_2) := (blk_cell BK173.out 2).trans rfl; have hcz74_3 : w72.cell? ⟨gb173, 3, none⟩ = some (.slice Ao5 l0_3.length co5) := (blk_cell BK173.out 3).trans rfl; have hcz74_4 : w72.cell? ⟨gb173, 4, none⟩ = some (.int .i64 a0_4) := (blk_cell BK173.out 4).trans rfl; have hfz74_0 := blk_frozen BK173.out 0; have hfz74_1 := blk_frozen BK173.out 1; have hfz74_2 := blk_frozen BK173.out 2; have hfz74_3 := blk_frozen BK173.out 3; have hfz74_4 := blk_frozen BK173.out 4) | ((with_reducible refine gate_builtin (b := .append) (xs := #[.tmp 33, .tmp 35]) rfl ?_); (try (refine gate_guard (by rfl) ?_; dsimp only)); at_builtin; refine Kd.R_append_rows (Kd.int .i64) (w0 := w0) w0.heap.size rfl (.tmp 33) (.tmp 35) 28 3 (.int .i64 0) 8 rfl Try.underlying28 info3 rfl (by decide) (by omega) v184 y183 l0_3 _ _ _ (fun k_ => (P0_3_ k_ ∨ w.heap.size ≤ k_) ∧ some k_ ≠ (.slice Ao5 l0_3.length co5 : Value).ownBlock ∧ some k_ ≠ (v181 : Value).ownBlock) (fun _ => False) rfl rfl ?aO ?aR (fun _ _ h => h) (fun _ h => h.elim) ?aF ?aB ?aS ?aL ?_; (case aR => repeat (first | exact (Kd.R_reads' HO_174003.out).2.2 | (with_reducible refine Kd.C_alloc ?_ _) | (with_reducible refine Kd.C_drewN ?_ _) | (with_reducible refine Kd.C_drew ?_))); (case aB => exact (by repeat (first | (with_reducible first | exact HB.out | apply below_alloc | apply pw_below_drewN | apply below_drew1 | refine below_set ?_ GE173.out | refine below_set ?_ GE174.out) | exact HB.out))); (case aF => exact (fun k_ hk => ⟨(.inr (Nat.le_trans (by first | exact HK.out.1 | exact (show Kept w _ (fun k_ => P0_3_ k_) from by repeat (first | (with_reducible first | exact HK.out | apply Kept.alloc | apply Kept.drewN | apply Kept.drew | refine Kept.setCell ?_ (.inr GW173.out) _ | refine Kept.setCell ?_ (.inr GW174.out) _) | exact HK.out)).1) hk)), Kd.fresh' (Kd.R_lt (by (with_reducible repeat (first | apply Kd.R_alloc | apply Kd.R_drewN | apply Kd.R_drew)); exact HO_174003.out)) k_ hk, Kd.fresh' (Kd.R_lt (by (with_reducible repeat (first | apply Kd.R_alloc | apply Kd.R_drewN | apply Kd.R_drew)); exact HO182.out)) k_ hk⟩)); (case aO => exact (by (with_reducible repeat (first | apply Kd.R_alloc | apply Kd.R_drewN | apply Kd.R_drew)); exact Kd.R_mono HO185.out (fun _ hk => ⟨hk.1.1.1, ⟨hk.1.2, hk.2⟩⟩))); (case aS => exact (below_size (by repeat (first | (with_reducible first | exact HB.out | apply below_alloc | apply pw_below_drewN | apply below_drew1 | refine below_set ?_ GE173.out | refine below_set ?_ GE174.out) | exact HB.out)))); (case aL => have := LMc23.out; omega); intro v187 w75 ho hb hg hat; rw [← Ny186.out] at ho; have n0_ := Aside0.mk (Kd.V_afterv (ok := (fun k_ => ((P0_3_ k_ ∨ P0_2_ k_) ∨ w.heap.size ≤ k_) ∧ some k_ ≠ (.slice Ao5 l0_3.length co5 : Value).ownBlock ∧ some k_ ≠ (v181 : Value).ownBlock ∧ k_ ≠ gb173 ∧ k_ ≠ gb174)) (by (with_reducible repeat (first | apply Kd.V_alloc | apply Kd.V_drewN | apply Kd.V_drew)); exact Kd.V_mono HO_174002.out (fun _ hk => ⟨⟨hk.1.1.1, ⟨hk.1.1.2.1, ⟨hk.1.2, ⟨hk.1.1.2.2.1, hk.1.1.2.2.2⟩⟩⟩⟩, hk.2⟩)) hg hat); have n1_ := Aside0.mk (Kd.R_after (ok := (fun k_ => (P0_3_ k_ ∨ w.heap.size ≤ k_) ∧ some k_ ≠ (v181 : Value).ownBlock)) (by (with_reducible repeat (first | apply Kd.R_alloc | apply Kd.R_drewN | apply Kd.R_drew)); exact HO_174003.out) hg hat); have n2_ := Aside0.mk (blk_grown (g := gb173) (o := .cells #[.int .i64 a0_0, .int .i64 a0_1, .slice (some ad179) l0_2.length c0_2, .slice Ao5 l0_3.length co5, .int .i64 a0_4] 30 (0, 0)) (by (with_reducible repeat (first | refine blk_drewN ?_ _ | refine blk_drew ?_ | refine blk_alloc ?_ _)); exact BK173.out) hg (Kd.R_ne HO185.out BK173.out (by decide))); have n3_ := Aside0.mk (blk_grown (g := gb174) (o := .cells #[.int .i64 0, .int .i64 0, .slice none 0 0, .slice none 0 0, .int .i64 0] 30 (0, 0)) (by (with_reducible repeat (first | refine blk_drewN ?_ _ | refine blk_drew ?_ | refine blk_alloc ?_ _)); exact BK174.out) hg (Kd.R_ne HO185.out BK174.out (by decide))); have n4_ := Aside0.mk (Kd.V_afterv (ok := (fun k_ => ((P0_3_ k_ ∨ P0_2_ k_) ∨ w.heap.size ≤ k_) ∧ some k_ ≠ (.slice Ao5 l0_3.length co5 : Value).ownBlock ∧ some k_ ≠ (v181 : Value).ownBlock ∧ k_ ≠ gb173 ∧ k_ ≠ gb174)) (by (with_reducible repeat (first | apply Kd.V_alloc | apply Kd.V_drewN | apply Kd.V_drew)); exact Kd.V_mono HL179_0.out (fun _ hk => ⟨⟨hk.1.1.1, ⟨hk.1.1.2.1, ⟨hk.1.2, ⟨hk.1.1.2.2.1, hk.1.1.2.2.2⟩⟩⟩⟩, hk.2⟩)) hg hat); have n5_ := Aside0.mk (Kd.R_after (ok := (fun k_ => (P0_3_ k_ ∨ w.heap.size ≤ k_) ∧ some k_ ≠ (.slice Ao5 l0_3.length co5 : Value).ownBlock)) (by (with_reducible repeat (first | apply Kd.R_alloc | apply Kd.R_drewN | apply Kd.R_drew)); exact HO182.out) hg hat); have n6_ := Aside0.mk (hb); have n7_ := Aside0.mk (Kept.of_grown (S := (fun k_ => P0_3_ k_)) hg (by repeat (first | (with_reducible first | exact HK.out | apply Kept.alloc | apply Kept.drewN | apply Kept.drew | refine Kept.setCell ?_ (.inr GW173.out) _ | refine Kept.setCell ?_ (.inr GW174.out) _) | exact HK.out)) (fun k_ e_ => (HO185.out.1 k_ e_).1.1.1)); have n8_ := Aside0.mk (ho); clear HO_174002; clear HO_174003; clear BK173; clear BK174; clear HL179_0; clear HO182; clear HB; clear HK; clear HO185; have HO_174002 := n0_; have HO_174003 := n1_; have BK173 := n2_; have BK174 := n3_; have HL179_0 := n4_; have HO182 := n5_; have HB := n6_; have HK := n7_; have HO188 := n8_; clear n0_ n1_ n2_ n3_ n4_ n5_ n6_ n7_ n8_; clear ho hb hg hat; obtain ⟨Ao76, co76, eo76⟩ := Kd.R_slice HO182.out; subst eo76; have hcz77_0 : w75.cell? ⟨gb173, 0, none⟩ = some (.int .i64 a0_0) := (blk_cell BK173.out 0).trans rfl; have hcz77_1 : w75.cell? ⟨gb173, 1, none⟩ = some (.int .i64 a0_1) := (blk_cell BK173.out 1).trans rfl; have hcz77_2 : w75.cell? ⟨gb173, 2, none⟩ = some (.slice (some ad179) l0_2.length c0_2) := (blk_cell BK173.out 2).trans rfl; have hcz77_3 : w75.cell? ⟨gb173, 3, none⟩ = some (.slice Ao5 l0_3.length co5) := (blk_cell BK173.out 3).trans rfl; have hcz77_4 : w75.cell? ⟨gb173, 4, none⟩ = some (.int .i64 a0_4) := (blk_cell BK173.out 4).trans rfl; have hfz77_0 := blk_frozen BK173.out 0; have hfz77_1 := blk_frozen BK173.out 1; have hfz77_2 := blk_frozen BK173.out 2; have hfz77_3 := blk_frozen BK173.out 3; have hfz77_4 := blk_frozen BK173.out 4; obtain ⟨Ao78, co78, eo78⟩ := Kd.R_slice HO188.out; subst eo78))
                    have n0_ : Aside0 (Kd.V (Kd.slice 3 (Kd.int .i64)) 28 (w75.setCell ⟨gb173, 3, none⟩ (.slice Ao78 y186.length co78)) w0.heap.size (fun k_ => ((P0_3_ k_ ∨ P0_2_ k_) ∨ w.heap.size ≤ k_) ∧ some k_ ≠ (.slice Ao5 l0_3.length co5 : Value).ownBlock ∧ some k_ ≠ (.slice Ao76 y180.length co76 : Value).ownBlock ∧ some k_ ≠ (.slice Ao78 y186.length co78 : Value).ownBlock ∧ k_ ≠ gb173 ∧ k_ ≠ gb174) (.slice (some ad179) l0_2.length c0_2) l0_2) := ⟨by (with_reducible repeat (first | apply Kd.V_alloc | apply Kd.V_drewN | apply Kd.V_drew)); exact Kd.V_mono (Kd.V_far (p := ⟨gb173, 3, none⟩) (Kd.V_mono HO_174002.out (fun k_ hk => (⟨hk, hk.1.2.2.2.1⟩ : _ ∧ k_ ≠ gb173))) (fun _ hk => hk.2) (.slice Ao78 y186.length co78)) (fun _ hk => ⟨hk.1.1.1, ⟨hk.1.1.2.1, ⟨hk.1.1.2.2.1, ⟨hk.1.2, ⟨hk.1.1.2.2.2.1, hk.1.1.2.2.2.2⟩⟩⟩⟩⟩)⟩
                    have n1_ : Aside0 (Kd.R (Kd.int .i64) 3 (w75.setCell ⟨gb173, 3, none⟩ (.slice Ao78 y186.length co78)) w0.heap.size (fun k_ => (P0_3_ k_ ∨ w.heap.size ≤ k_) ∧ some k_ ≠ (.slice Ao76 y180.length co76 : Value).ownBlock ∧ some k_ ≠ (.slice Ao78 y186.length co78 : Value).ownBlock) (.slice Ao5 l0_3.length co5) l0_3) := ⟨by (with_reducible repeat (first | apply Kd.R_alloc | apply Kd.R_drewN | apply Kd.R_drew)); exact Kd.R_mono (Kd.R_far (p := ⟨gb173, 3, none⟩) (Kd.R_types HO_174003.out BK173.out (by decide)) (fun _ hk => hk.2) (.slice Ao78 y186.length co78)) (fun _ hk => ⟨hk.1.1.1, ⟨hk.1.1.2, hk.1.2⟩⟩)⟩
                    have n2_ : Aside0 (Kd.V (Kd.int .i64) 3 (w75.setCell ⟨gb173, 3, none⟩ (.slice Ao78 y186.length co78)) w0.heap.size (fun k_ => ((P0_3_ k_ ∨ P0_2_ k_) ∨ w.heap.size ≤ k_) ∧ some k_ ≠ (.slice Ao5 l0_3.length co5 : Value).ownBlock ∧ some k_ ≠ (.slice Ao76 y180.length co76 : Value).ownBlock ∧ some k_ ≠ (.slice Ao78 y186.length co78 : Value).ownBlock ∧ k_ ≠ gb173 ∧ k_ ≠ gb174) (.slice A179_0 (rd_L1 l0_2 a1).length c179_0) (rd_L1 l0_2 a1)) := ⟨by (with_reducible repeat (first | apply Kd.V_alloc | apply Kd.V_drewN | apply Kd.V_drew)); exact Kd.V_mono (Kd.V_far (p := ⟨gb173, 3, none⟩) (Kd.V_mono HL179_0.out (fun k_ hk => (⟨hk, hk.1.2.2.2.1⟩ : _ ∧ k_ ≠ gb173))) (fun _ hk => hk.2) (.slice Ao78 y186.length co78)) (fun _ hk => ⟨hk.1.1.1, ⟨hk.1.1.2.1, ⟨hk.1.1.2.2.1, ⟨hk.1.2, ⟨hk.1.1.2.2.2.1, hk.1.1.2.2.2.2⟩⟩⟩⟩⟩)⟩
                    have n3_ : Aside0 (Kd.R (Kd.int .i64) 3 (w75.setCell ⟨gb173, 3, none⟩ (.slice Ao78 y186.length co78)) w0.heap.size (fun k_ => (P0_3_ k_ ∨ w.heap.size ≤ k_) ∧ some k_ ≠ (.slice Ao5 l0_3.length co5 : Value).ownBlock ∧ some k_ ≠ (.slice Ao78 y186.length co78 : Value).ownBlock) (.slice Ao76 y180.length co76) y180) := ⟨by (with_reducible repeat (first | apply Kd.R_alloc | apply Kd.R_drewN | apply Kd.R_drew)); exact Kd.R_mono (Kd.R_far (p := ⟨gb173, 3, none⟩) (Kd.R_types HO182.out BK173.out (by decide)) (fun _ hk => hk.2) (.slice Ao78 y186.length co78)) (fun _ hk => ⟨hk.1.1.1, ⟨hk.1.1.2, hk.1.2⟩⟩)⟩
                    have n4_ : Aside0 (Kd.R (Kd.int .i64) 3 (w75.setCell ⟨gb173, 3, none⟩ (.slice Ao78 y186.length co78)) w0.heap.size (fun k_ => (P0_3_ k_ ∨ w.heap.size ≤ k_) ∧ some k_ ≠ (.slice Ao5 l0_3.length co5 : Value).ownBlock ∧ some k_ ≠ (.slice Ao76 y180.length co76 : Value).ownBlock) (.slice Ao78 y186.length co78) y186) := ⟨by (with_reducible repeat (first | apply Kd.R_alloc | apply Kd.R_drewN | apply Kd.R_drew)); exact Kd.R_mono (Kd.R_far (p := ⟨gb173, 3, none⟩) (Kd.R_types HO188.out BK173.out (by decide)) (fun _ hk => hk.2) (.slice Ao78 y186.length co78)) (fun _ hk => ⟨hk.1.1, ⟨hk.1.2.1, hk.1.2.2⟩⟩)⟩
                    have n5_ : Aside0 ((w75.setCell ⟨gb173, 3, none⟩ (.slice Ao78 y186.length co78)).heap[gb173]? = some (.cells #[.int .i64 a0_0, .int .i64 a0_1, .slice (some ad179) l0_2.length c0_2, .slice Ao78 y186.length co78, .int .i64 a0_4] 30 (0, 0))) := ⟨by (with_reducible repeat (first | refine blk_drewN ?_ _ | refine blk_drew ?_ | refine blk_alloc ?_ _)); refine blk_put (cs := #[.int .i64 a0_0, .int .i64 a0_1, .slice (some ad179) l0_2.length c0_2, .slice Ao5 l0_3.length co5, .int .i64 a0_4]) ?_ 3 _ rfl; (with_reducible repeat (first | refine blk_drewN ?_ _ | refine blk_drew ?_ | refine blk_alloc ?_ _)); exact BK173.out⟩
                    have n6_ : Aside0 ((w75.setCell ⟨gb173, 3, none⟩ (.slice Ao78 y186.length co78)).heap[gb174]? = some (.cells #[.int .i64 0, .int .i64 0, .slice none 0 0, .slice none 0 0, .int .i64 0] 30 (0, 0))) := ⟨by (with_reducible repeat (first | refine blk_drewN ?_ _ | refine blk_drew ?_ | refine blk_alloc ?_ _)); refine blk_far ?_ NB174_173.out _; (with_reducible repeat (first | refine blk_drewN ?_ _ | refine blk_drew ?_ | refine blk_alloc ?_ _)); exact BK174.out⟩
                    have n7_ : Aside0 (Kept w (w75.setCell ⟨gb173, 3, none⟩ (.slice Ao78 y186.length co78)) (fun k_ => P0_3_ k_)) := ⟨by repeat (first | (with_reducible first | exact HK.out | apply Kept.alloc | apply Kept.drewN | apply Kept.drew | refine Kept.setCell ?_ (.inr GW173.out) _ | refine Kept.setCell ?_ (.inr GW174.out) _) | exact HK.out)⟩
                    have n8_ : Aside0 (Below w0.heap.size w0 (w75.setCell ⟨gb173, 3, none⟩ (.slice Ao78 y186.length co78))) := ⟨by repeat (first | (with_reducible first | exact HB.out | apply below_alloc | apply pw_below_drewN | apply below_drew1 | refine below_set ?_ GE173.out | refine below_set ?_ GE174.out) | exact HB.out)⟩
                    (try clear HO_174002)
                    (try clear HO_174003)
                    (try clear HL179_0)
                    (try clear HO182)
                    (try clear HO188)
                    (try clear BK173)
                    (try clear BK174)
                    (try clear HK)
                    (try clear HB)
                    generalize (w75.setCell ⟨gb173, 3, none⟩ (.slice Ao78 y186.length co78)) = w79 at n0_ n1_ n2_ n3_ n4_ n5_ n6_ n7_ n8_ ⊢
                    have HO_174002 := n0_
                    have HO_174003 := n1_
                    have HL179_0 := n2_
                    have HO182 := n3_
                    have HO188 := n4_
                    have BK173 := n5_
                    have BK174 := n6_
                    have HK := n7_
                    have HB := n8_
                    clear n0_ n1_ n2_ n3_ n4_ n5_ n6_ n7_ n8_
                    have n0_ := Aside0.mk (Kd.V_drew HO_174002.out)
                    have n1_ := Aside0.mk (Kd.R_drew HO_174003.out)
                    have n2_ := Aside0.mk (Kd.V_drew HL179_0.out)
                    have n3_ := Aside0.mk (Kd.R_drew HO182.out)
                    have n4_ := Aside0.mk (Kd.R_drew HO188.out)
                    have n5_ := Aside0.mk (blk_drew BK173.out)
                    have n6_ := Aside0.mk (blk_drew BK174.out)
                    have n7_ := Aside0.mk (Kept.drew HK.out)
                    have n8_ := Aside0.mk (below_drew1 HB.out)
                    clear HO_174002
                    clear HO_174003
                    clear HL179_0
                    clear HO182
                    clear HO188
                    clear BK173
                    clear BK174
                    clear HK
                    clear HB
                    have HO_174002 := n0_
                    have HO_174003 := n1_
                    have HL179_0 := n2_
                    have HO182 := n3_
                    have HO188 := n4_
                    have BK173 := n5_
                    have BK174 := n6_
                    have HK := n7_
                    have HB := n8_
                    clear n0_ n1_ n2_ n3_ n4_ n5_ n6_ n7_ n8_
                    refine start_ (n := 9) (S := fun w' => w'.cell? ⟨gb173, 0, none⟩ = some (.int .i64 a0_0) ∧ w'.cell? ⟨gb173, 1, none⟩ = some (.int .i64 a0_1) ∧ w'.cell? ⟨gb173, 2, none⟩ = some (.slice (some ad179) l0_2.length c0_2) ∧ w'.cell? ⟨gb173, 3, none⟩ = some (.slice Ao78 y186.length co78) ∧ w'.cell? ⟨gb173, 4, none⟩ = some (.int .i64 a0_4)) (ds := []) #[false, false, false, false, false, false, false, false, false] (by kernel_rfl) rfl rfl ⟨(blk_cell BK173.out 0).trans rfl, (blk_cell BK173.out 1).trans rfl, (blk_cell BK173.out 2).trans rfl, (blk_cell BK173.out 3).trans rfl, (blk_cell BK173.out 4).trans rfl⟩ (fun hHeld => ?_); refine with_tabW handoffref05_Give.tab10 handoffref05_Give.bits10 (fun HT_ HW_ => ?_)
                    generalize w79.drew = w80 at HO_174002 HO_174003 HL179_0 HO182 HO188 BK173 BK174 HK HB hHeld ⊢
                    refine pure_ (i := 1) (N := some 65) (v := ?_) (a' := ?_) #[false, true, false, false, false, false, false, false, false] rfl rfl (any_of HT_.out (by kernel_rfl)) (fun _ _ _ h => h) (Or.inl ⟨by rfl, ?_⟩) ?_ ?_
                    rotate_left
                    · intro w'
                      go_simp
                      with_reducible rfl
                    rotate_left
                    · simp only [Act.put, List.setIfInBounds_toArray, List.set_cons_zero, List.set_cons_succ, i64_w, i32_w]
                      rfl
                    refine pure_ (i := 2) (N := some 66) (v := ?_) (a' := ?_) #[false, true, true, false, false, false, false, false, false] rfl rfl (any_of HT_.out (by kernel_rfl)) (fun _ _ _ h => h) (Or.inl ⟨by rfl, ?_⟩) ?_ ?_
                    rotate_left
                    · intro w'
                      go_simp
                      with_reducible rfl
                    rotate_left
                    · simp only [Act.put, List.setIfInBounds_toArray, List.set_cons_zero, List.set_cons_succ, i64_w, i32_w]
                      rfl
                    refine pure_ (i := 3) (N := some 67) (v := ?_) (a' := ?_) #[false, true, true, true, false, false, false, false, false] rfl rfl (any_of HT_.out (by kernel_rfl)) (fun _ _ _ h => h) (Or.inl ⟨by rfl, ?_⟩) ?_ ?_
                    rotate_left
                    · intro w'
                      go_simp
                      with_reducible rfl
                    rotate_left
                    · simp only [Act.put, List.setIfInBounds_toArray, List.set_cons_zero, List.set_cons_succ, i64_w, i32_w]
                      rfl
                    refine take_ (i := 0) (N := some 64) (v := ?_) (a' := ?_) #[true, true, true, true, false, false, false, false, false] rfl rfl (take_ofW HT_.out HW_.out (by kernel_rfl)) (fun _ _ _ h => h) (Or.inl ⟨by rfl, ?_⟩) hHeld ?_ ?_
                    rotate_left
                    · rintro w' ⟨s0, s1, s2, s3, s4⟩
                      go_simp
                      with_reducible rfl
                    rotate_left
                    · simp only [Act.put, List.setIfInBounds_toArray, List.set_cons_zero, List.set_cons_succ, i64_w, i32_w]
                      rfl
                    refine one_ (i := 4) (N := some 68) #[true, true, true, true, true, false, false, false, false] rfl rfl (one_of HT_.out (by kernel_rfl)) (by decide) (fun K hK => ?_)
                    refine value_ (w1 := ?_) (v := ?_) (by rfl) rfl ?_ ?_
                    rotate_left 2
                    · go_simp
                      constructor
                      · rfl
                      · rfl
                    refine hK.out _ _ ⟨(blk_cell (blk_alloc BK173.out _) 0).trans rfl, (blk_cell (blk_alloc BK173.out _) 1).trans rfl, (blk_cell (blk_alloc BK173.out _) 2).trans rfl, (blk_cell (blk_alloc BK173.out _) 3).trans rfl, (blk_cell (blk_alloc BK173.out _) 4).trans rfl⟩ (fun hHeld => ?_)
                    clear hK K
                    refine norm_ (a' := ?_) ?_ ?_
                    rotate_left
                    · show Act.put _ (some 68) _ = _
                      simp only [Act.put, List.setIfInBounds_toArray, List.set_cons_zero, List.set_cons_succ, i64_w, i32_w]
                      rfl
                    refine one_ (i := 5) (N := some 69) #[true, true, true, true, true, true, false, false, false] rfl rfl (one_of HT_.out (by kernel_rfl)) (by decide) (fun K hK => ?_)
                    refine Kd.R_append_step (Kd.int .i64) (w0 := w0) w0.heap.size (by rfl) (.tmp 66) (.tmp 68) 28 3 (.int .i64 0) 8 rfl Try.underlying28 info3 rfl (by decide) (by omega) (.slice Ao76 y180.length co76) y180 a2 [.int .i64 a2] (fun k_ => (P0_3_ k_ ∨ w.heap.size ≤ k_) ∧ some k_ ≠ (.slice Ao5 l0_3.length co5 : Value).ownBlock ∧ some k_ ≠ (.slice Ao78 y186.length co78 : Value).ownBlock) (fun _ => False) rfl rfl ?aP (fun _ hk => hk.elim) ?aF ?aO ?aB ?aS ?aL ?_
                    (case aP => exact rfl)
                    (case aB => exact (by repeat (first | (with_reducible first | exact HB.out | apply below_alloc | apply pw_below_drewN | apply below_drew1 | refine below_set ?_ GE173.out | refine below_set ?_ GE174.out) | exact HB.out)))
                    (case aF => exact (fun k_ hk => ⟨(.inr (Nat.le_trans (by first | exact HK.out.1 | exact (show Kept w _ (fun k_ => P0_3_ k_) from by repeat (first | (with_reducible first | exact HK.out | apply Kept.alloc | apply Kept.drewN | apply Kept.drew | refine Kept.setCell ?_ (.inr GW173.out) _ | refine Kept.setCell ?_ (.inr GW174.out) _) | exact HK.out)).1) hk)), Kd.fresh' (Kd.R_lt (by (with_reducible repeat (first | apply Kd.R_alloc | apply Kd.R_drewN | apply Kd.R_drew)); exact HO_174003.out)) k_ hk, Kd.fresh' (Kd.R_lt (by (with_reducible repeat (first | apply Kd.R_alloc | apply Kd.R_drewN | apply Kd.R_drew)); exact HO188.out)) k_ hk⟩))
                    (case aO => exact (by (with_reducible repeat (first | apply Kd.R_alloc | apply Kd.R_drewN | apply Kd.R_drew)); exact HO182.out))
                    (case aS => exact (below_size (by repeat (first | (with_reducible first | exact HB.out | apply below_alloc | apply pw_below_drewN | apply below_drew1 | refine below_set ?_ GE173.out | refine below_set ?_ GE174.out) | exact HB.out))))
                    (case aL => have := LMc65.out; omega)
                    intro v209 w81 ho hb hg hat
                    rw [← Ny208.out] at ho
                    have n0_ := Aside0.mk (Kd.V_afterv (ok := (fun k_ => ((P0_3_ k_ ∨ P0_2_ k_) ∨ w.heap.size ≤ k_) ∧ some k_ ≠ (.slice Ao5 l0_3.length co5 : Value).ownBlock ∧ some k_ ≠ (.slice Ao78 y186.length co78 : Value).ownBlock ∧ k_ ≠ gb173 ∧ k_ ≠ gb174)) (by (with_reducible repeat (first | apply Kd.V_alloc | apply Kd.V_drewN | apply Kd.V_drew)); exact Kd.V_mono HO_174002.out (fun _ hk => ⟨⟨hk.1, ⟨hk.2.1, ⟨hk.2.2.2.1, ⟨hk.2.2.2.2.1, hk.2.2.2.2.2⟩⟩⟩⟩, hk.2.2.1⟩)) hg hat)
                    have n1_ := Aside0.mk (Kd.R_after (ok := (fun k_ => (P0_3_ k_ ∨ w.heap.size ≤ k_) ∧ some k_ ≠ (.slice Ao78 y186.length co78 : Value).ownBlock)) (by (with_reducible repeat (first | apply Kd.R_alloc | apply Kd.R_drewN | apply Kd.R_drew)); exact Kd.R_mono HO_174003.out (fun _ hk => ⟨⟨hk.1, hk.2.2⟩, hk.2.1⟩)) hg hat)
                    have n2_ := Aside0.mk (blk_grown (g := gb173) (o := .cells #[.int .i64 a0_0, .int .i64 a0_1, .slice (some ad179) l0_2.length c0_2, .slice Ao78 y186.length co78, .int .i64 a0_4] 30 (0, 0)) (by (with_reducible repeat (first | refine blk_drewN ?_ _ | refine blk_drew ?_ | refine blk_alloc ?_ _)); exact BK173.out) hg (Kd.R_ne HO182.out BK173.out (by decide)))
                    have n3_ := Aside0.mk (blk_grown (g := gb174) (o := .cells #[.int .i64 0, .int .i64 0, .slice none 0 0, .slice none 0 0, .int .i64 0] 30 (0, 0)) (by (with_reducible repeat (first | refine blk_drewN ?_ _ | refine blk_drew ?_ | refine blk_alloc ?_ _)); exact BK174.out) hg (Kd.R_ne HO182.out BK174.out (by decide)))
                    have n4_ := Aside0.mk (Kd.V_afterv (ok := (fun k_ => ((P0_3_ k_ ∨ P0_2_ k_) ∨ w.heap.size ≤ k_) ∧ some k_ ≠ (.slice Ao5 l0_3.length co5 : Value).ownBlock ∧ some k_ ≠ (.slice Ao78 y186.length co78 : Value).ownBlock ∧ k_ ≠ gb173 ∧ k_ ≠ gb174)) (by (with_reducible repeat (first | apply Kd.V_alloc | apply Kd.V_drewN | apply Kd.V_drew)); exact Kd.V_mono HL179_0.out (fun _ hk => ⟨⟨hk.1, ⟨hk.2.1, ⟨hk.2.2.2.1, ⟨hk.2.2.2.2.1, hk.2.2.2.2.2⟩⟩⟩⟩, hk.2.2.1⟩)) hg hat)
                    have n5_ := Aside0.mk (Kd.R_after (ok := (fun k_ => (P0_3_ k_ ∨ w.heap.size ≤ k_) ∧ some k_ ≠ (.slice Ao5 l0_3.length co5 : Value).ownBlock)) (by (with_reducible repeat (first | apply Kd.R_alloc | apply Kd.R_drewN | apply Kd.R_drew)); exact Kd.R_mono HO188.out (fun _ hk => ⟨⟨hk.1, hk.2.1⟩, hk.2.2⟩)) hg hat)
                    have n6_ := Aside0.mk (hb)
                    have n7_ := Aside0.mk (Kept.of_grown (S := (fun k_ => P0_3_ k_)) hg (by repeat (first | (with_reducible first | exact HK.out | apply Kept.alloc | apply Kept.drewN | apply Kept.drew | refine Kept.setCell ?_ (.inr GW173.out) _ | refine Kept.setCell ?_ (.inr GW174.out) _) | exact HK.out)) (fun k_ e_ => (HO182.out.1 k_ e_).1))
                    have n8_ := Aside0.mk (ho)
                    clear HO_174002
                    clear HO_174003
                    clear BK173
                    clear BK174
                    clear HL179_0
                    clear HO188
                    clear HB
                    clear HK
                    clear HO182
                    have HO_174002 := n0_
                    have HO_174003 := n1_
                    have BK173 := n2_
                    have BK174 := n3_
                    have HL179_0 := n4_
                    have HO188 := n5_
                    have HB := n6_
                    have HK := n7_
                    have HO210 := n8_
                    clear n0_ n1_ n2_ n3_ n4_ n5_ n6_ n7_ n8_
                    clear ho hb hg hat
                    obtain ⟨Ao82, co82, eo82⟩ := Kd.R_slice HO210.out
                    (first | subst eo82 | (injection eo82 with f1_ f2_ f3_; have f4_ := f1_.symm; have f5_ := f3_.symm; clear f1_ f2_ f3_; subst f4_; subst f5_))
                    refine hK.out _ _ ⟨(blk_cell BK173.out 0).trans rfl, (blk_cell BK173.out 1).trans rfl, (blk_cell BK173.out 2).trans rfl, (blk_cell BK173.out 3).trans rfl, (blk_cell BK173.out 4).trans rfl⟩ (fun hHeld => ?_)
                    clear hK K
                    refine norm_ (a' := ?_) ?_ ?_
                    rotate_left
                    · show Act.put _ (some 69) _ = _
                      simp only [Act.put, List.setIfInBounds_toArray, List.set_cons_zero, List.set_cons_succ, i64_w, i32_w]
                      rfl
                    refine one_ (i := 6) (N := some 70) #[true, true, true, true, true, true, true, false, false] rfl rfl (one_of HT_.out (by kernel_rfl)) (by decide) (fun K hK => ?_)
                    refine goes_ Try.func22 (by kernel_rfl) rfl #[.agg #[.int .i64 a0_0, .int .i64 a0_1, .slice (some ad179) l0_2.length c0_2, .slice Ao78 y186.length co78, .int .i64 a0_4], .int .i64 a1, .slice Ao82 y208.length co82] (by rfl) rfl rfl (by (try simp only [List.map_toArray, List.map_cons, List.map_nil]); first | done | rfl | (simp only [List.length_drop, List.length_take]; rfl)) ?_
                    with_reducible refine (handoffref05_with.calls a0_0 a0_1 (fun k_ => ((((P0_3_ k_ ∨ P0_2_ k_) ∨ w.heap.size ≤ k_) ∧ (some k_ ≠ (.slice Ao5 l0_3.length co5 : Value).ownBlock ∧ (some k_ ≠ (.slice Ao78 y186.length co78 : Value).ownBlock ∧ (k_ ≠ gb173 ∧ k_ ≠ gb174)))) ∧ some k_ ≠ (.slice Ao82 y208.length co82 : Value).ownBlock)) _ _ l0_2 (fun k_ => some k_ = (.slice Ao78 y186.length co78 : Value).ownBlock) (.slice Ao78 y186.length co78) y186 a0_4 a1 (fun k_ => some k_ = (.slice Ao82 y208.length co82 : Value).ownBlock) _ _ y208 t211 t212 t213 t216 t219 w0 _ ?side1 ?side2 ?side3 ?side4 A66.out).mono ?_
                    (case side1 => repeat (first | (with_reducible first | exact HB.out | apply below_alloc | apply pw_below_drewN | apply below_drew1 | refine below_set ?_ GE173.out | refine below_set ?_ GE174.out) | exact HB.out))
                    (case side2 => exact Kd.V_mono (HO_174002.out) (fun k_ hk_ => ⟨hk_, hk_.1.2.2.1⟩))
                    (case side3 => exact Kd.R_tight rfl HO188.out)
                    (case side4 => exact Kd.V_mono (Kd.R_V (Kd.R_tight rfl (Kd.R_types (Kd.R_types (HO210.out) BK173.out (by decide)) BK174.out (by decide)))) (fun k_ hk_ => ⟨hk_, ((Kd.R_types (Kd.R_types (HO210.out) BK173.out (by decide)) BK174.out (by decide)).1 k_ hk_.symm).1.1.2.2⟩))
                    rintro e w83 ⟨v214, v217, rfl, ho0, ho1, hb, hkp⟩
                    refine ⟨_, rfl, ?_⟩
                    have n0_ := Aside0.mk (Kd.V_mono (ok' := fun k_ => ((P0_3_ k_ ∨ P0_2_ k_) ∨ w.heap.size ≤ k_) ∧ some k_ ≠ (.slice Ao5 l0_3.length co5 : Value).ownBlock ∧ some k_ ≠ (.slice Ao82 y208.length co82 : Value).ownBlock ∧ k_ ≠ gb173 ∧ k_ ≠ gb174 ∧ some k_ ≠ (v214 : Value).ownBlock ∧ some k_ ≠ (v217 : Value).ownBlock) (Kd.V_keptB (HO_174002.out) hkp (fun k_ hk_ hs_ => (hk_.1.2.2.1) hs_)) (fun k_ hk_ => ⟨hk_.1.1.1, hk_.1.1.2.1, hk_.1.2, hk_.1.1.2.2.2.1, hk_.1.1.2.2.2.2, fun e_ => Nat.not_le.2 hk_.2.2 (Kd.N_base ho0 k_ e_.symm), fun e_ => Or.elim (ho1.1 k_ e_.symm) (fun hs_ => hk_.2.1 hs_) (fun hn_ => Nat.not_le.2 hk_.2.2 hn_)⟩))
                    have n1_ := Aside0.mk (Kd.R_mono (ok' := fun k_ => (P0_3_ k_ ∨ w.heap.size ≤ k_) ∧ some k_ ≠ (.slice Ao82 y208.length co82 : Value).ownBlock ∧ some k_ ≠ (v217 : Value).ownBlock) (Kd.R_keptB (HO_174003.out) hkp (fun k_ hk_ hs_ => (hk_.1.2) hs_)) (fun k_ hk_ => ⟨hk_.1.1.1, hk_.1.2, fun e_ => Or.elim (ho1.1 k_ e_.symm) (fun hs_ => hk_.2.1 hs_) (fun hn_ => Nat.not_le.2 hk_.2.2 hn_)⟩))
                    have n2_ := Aside0.mk (blk_kept (by (with_reducible repeat (first | refine blk_drewN ?_ _ | refine blk_drew ?_ | refine blk_alloc ?_ _)); exact BK173.out) hkp (fun hs_ => (fun e_ => (Kd.R_ne HO188.out BK173.out (by decide)) e_) hs_))
                    have n3_ := Aside0.mk (blk_kept (by (with_reducible repeat (first | refine blk_drewN ?_ _ | refine blk_drew ?_ | refine blk_alloc ?_ _)); exact BK174.out) hkp (fun hs_ => (fun e_ => (Kd.R_ne HO188.out BK174.out (by decide)) e_) hs_))
                    have n4_ := Aside0.mk (Kd.R_mono (ok' := fun k_ => (P0_3_ k_ ∨ w.heap.size ≤ k_) ∧ some k_ ≠ (.slice Ao5 l0_3.length co5 : Value).ownBlock ∧ some k_ ≠ (v217 : Value).ownBlock) (Kd.R_keptB (HO210.out) hkp (fun k_ hk_ hs_ => (hk_.2.2) hs_)) (fun k_ hk_ => ⟨hk_.1.1, hk_.1.2.1, fun e_ => Or.elim (ho1.1 k_ e_.symm) (fun hs_ => hk_.2.1 hs_) (fun hn_ => Nat.not_le.2 hk_.2.2 hn_)⟩))
                    have n5_ := Aside0.mk (Kd.N_lower (Kd.N_mono (ok' := fun k_ => ((P0_3_ k_ ∨ P0_2_ k_) ∨ w.heap.size ≤ k_) ∧ some k_ ≠ (v217 : Value).ownBlock ∧ some k_ ≠ (.slice Ao5 l0_3.length co5 : Value).ownBlock ∧ k_ ≠ gb173 ∧ k_ ≠ gb174) ho0 (fun k_ hk_ => ⟨Or.elim hk_.1 (fun hs_ => Or.elim hs_ (fun hs_ => (Or.imp_left (fun h_ => (.inl h_)) ((HO188.out.1 k_ (hs_).symm).1.1))) (fun hs_ => Or.elim hs_ (fun hs_ => hs_.1.1) (fun hs_ => (Or.imp_left (fun h_ => (.inl h_)) (((Kd.R_types (Kd.R_types (HO210.out) BK173.out (by decide)) BK174.out (by decide)).1 k_ hs_.symm).1.1.1))))) (fun hn_ => (.inr (Nat.le_trans (by first | exact HK.out.1 | exact (show Kept w _ (fun k_ => P0_3_ k_) from by repeat (first | (with_reducible first | exact HK.out | apply Kept.alloc | apply Kept.drewN | apply Kept.drew | refine Kept.setCell ?_ (.inr GW173.out) _ | refine Kept.setCell ?_ (.inr GW174.out) _) | exact HK.out)).1) hn_))), hk_.2, Or.elim hk_.1 (fun hs_ => Or.elim hs_ (fun hs_ => fun e_ => (((HO_174003.out).1 k_ e_.symm).1.2) hs_) (fun hs_ => Or.elim hs_ (fun hs_ => hs_.1.2.1) (fun hs_ => ((Kd.R_types (Kd.R_types (HO210.out) BK173.out (by decide)) BK174.out (by decide)).1 k_ hs_.symm).1.1.2.1))) (fun hn_ => (Kd.fresh' (Kd.R_lt (by (with_reducible repeat (first | apply Kd.R_alloc | apply Kd.R_drewN | apply Kd.R_drew)); exact HO_174003.out)) k_ hn_)), Or.elim hk_.1 (fun hs_ => Or.elim hs_ (fun hs_ => fun e_ => (Kd.R_ne HO188.out BK173.out (by decide)) (by rw [← e_]; exact hs_)) (fun hs_ => Or.elim hs_ (fun hs_ => hs_.1.2.2.2.1) (fun hs_ => ((Kd.R_types (Kd.R_types (HO210.out) BK173.out (by decide)) BK174.out (by decide)).1 k_ hs_.symm).1.2))) (fun hn_ => (Kd.freshB (g := gb173) (o := .cells #[.int .i64 a0_0, .int .i64 a0_1, .slice (some ad179) l0_2.length c0_2, .slice Ao78 y186.length co78, .int .i64 a0_4] 30 (0, 0)) (by (with_reducible repeat (first | refine blk_drewN ?_ _ | refine blk_drew ?_ | refine blk_alloc ?_ _)); exact BK173.out) k_ hn_)), Or.elim hk_.1 (fun hs_ => Or.elim hs_ (fun hs_ => fun e_ => (Kd.R_ne HO188.out BK174.out (by decide)) (by rw [← e_]; exact hs_)) (fun hs_ => Or.elim hs_ (fun hs_ => hs_.1.2.2.2.2) (fun hs_ => ((Kd.R_types (Kd.R_types (HO210.out) BK173.out (by decide)) BK174.out (by decide)).1 k_ hs_.symm).2))) (fun hn_ => (Kd.freshB (g := gb174) (o := .cells #[.int .i64 0, .int .i64 0, .slice none 0 0, .slice none 0 0, .int .i64 0] 30 (0, 0)) (by (with_reducible repeat (first | refine blk_drewN ?_ _ | refine blk_drew ?_ | refine blk_alloc ?_ _)); exact BK174.out) k_ hn_))⟩)) (by first | exact HK.out.1 | exact (show Kept w _ (fun k_ => P0_3_ k_) from by repeat (first | (with_reducible first | exact HK.out | apply Kept.alloc | apply Kept.drewN | apply Kept.drew | refine Kept.setCell ?_ (.inr GW173.out) _ | refine Kept.setCell ?_ (.inr GW174.out) _) | exact HK.out)).1))
                    have n6_ := Aside0.mk (Kd.R_mono (ok' := fun k_ => (P0_3_ k_ ∨ w.heap.size ≤ k_) ∧ some k_ ≠ (.slice Ao5 l0_3.length co5 : Value).ownBlock) ho1 (fun k_ hk_ => ⟨Or.elim hk_ (fun hs_ => (HO188.out.1 k_ (hs_).symm).1.1) (fun hn_ => (.inr (Nat.le_trans (by first | exact HK.out.1 | exact (show Kept w _ (fun k_ => P0_3_ k_) from by repeat (first | (with_reducible first | exact HK.out | apply Kept.alloc | apply Kept.drewN | apply Kept.drew | refine Kept.setCell ?_ (.inr GW173.out) _ | refine Kept.setCell ?_ (.inr GW174.out) _) | exact HK.out)).1) hn_))), Or.elim hk_ (fun hs_ => fun e_ => (((HO_174003.out).1 k_ e_.symm).1.2) hs_) (fun hn_ => (Kd.fresh' (Kd.R_lt (by (with_reducible repeat (first | apply Kd.R_alloc | apply Kd.R_drewN | apply Kd.R_drew)); exact HO_174003.out)) k_ hn_))⟩))
                    have n7_ := Aside0.mk (Kept.then_ (S := (fun k_ => P0_3_ k_)) (by repeat (first | (with_reducible first | exact HK.out | apply Kept.alloc | apply Kept.drewN | apply Kept.drew | refine Kept.setCell ?_ (.inr GW173.out) _ | refine Kept.setCell ?_ (.inr GW174.out) _) | exact HK.out)) hkp (fun k_ hs_ => (fun e_ => (HO188.out.1 k_ e_.symm).1.1) hs_))
                    have n8_ := Aside0.mk (hb)
                    clear HO_174002
                    clear HO_174003
                    clear BK173
                    clear BK174
                    clear HO210
                    clear HK
                    clear HB
                    clear HO188
                    clear HL179_0
                    have HO_174002 := n0_
                    have HO_174003 := n1_
                    have BK173 := n2_
                    have BK174 := n3_
                    have HO210 := n4_
                    have HO215 := n5_
                    have HO218 := n6_
                    have HK := n7_
                    have HB := n8_
                    clear n0_ n1_ n2_ n3_ n4_ n5_ n6_ n7_ n8_
                    (try clear hb)
                    (try clear hkp)
                    (try clear ho0)
                    (try clear ho1)
                    obtain ⟨Ao86, co86, eo86⟩ := Kd.N_slice HO215.out
                    (first | subst eo86 | (injection eo86 with f1_ f2_ f3_; have f4_ := f1_.symm; have f5_ := f3_.symm; clear f1_ f2_ f3_; subst f4_; subst f5_))
                    obtain ⟨Ao88, co88, eo88⟩ := Kd.R_slice HO218.out
                    (first | subst eo88 | (injection eo88 with f1_ f2_ f3_; have f4_ := f1_.symm; have f5_ := f3_.symm; clear f1_ f2_ f3_; subst f4_; subst f5_))
                    refine hK.out _ _ ⟨(blk_cell BK173.out 0).trans rfl, (blk_cell BK173.out 1).trans rfl, (blk_cell BK173.out 2).trans rfl, (blk_cell BK173.out 3).trans rfl, (blk_cell BK173.out 4).trans rfl⟩ (fun hHeld => ?_)
                    clear hK K
                    refine norm_ (a' := ?_) ?_ ?_
                    rotate_left
                    · show Act.put _ (some 70) _ = _
                      simp only [Act.put, List.setIfInBounds_toArray, List.set_cons_zero, List.set_cons_succ, i64_w, i32_w]
                      rfl
                    refine one_ (i := 7) (N := none) #[true, true, true, true, true, true, true, true, false] rfl rfl (one_of HT_.out (by kernel_rfl)) (by decide) (fun K hK => ?_)
                    have hs84 : w83.cell? ⟨gb174, 0, none⟩ = some (.int .i64 0) := (blk_cell BK174.out 0).trans rfl
                    have hfs84 := blk_frozen BK174.out 0
                    have hns84_0 := NB173_174.out
                    have hms84_0 := NB174_173.out
                    have hs85 : w83.cell? ⟨gb174, 1, none⟩ = some (.int .i64 0) := (blk_cell BK174.out 1).trans rfl
                    have hfs85 := blk_frozen BK174.out 1
                    have hns85_0 := NB173_174.out
                    have hms85_0 := NB174_173.out
                    have hs87 : w83.cell? ⟨gb174, 2, none⟩ = some (.slice none 0 0) := (blk_cell BK174.out 2).trans rfl
                    have hfs87 := blk_frozen BK174.out 2
                    have hns87_0 := NB173_174.out
                    have hms87_0 := NB174_173.out
                    have hs89 : w83.cell? ⟨gb174, 3, none⟩ = some (.slice none 0 0) := (blk_cell BK174.out 3).trans rfl
                    have hfs89 := blk_frozen BK174.out 3
                    have hns89_0 := NB173_174.out
                    have hms89_0 := NB174_173.out
                    have hs90 : w83.cell? ⟨gb174, 4, none⟩ = some (.int .i64 0) := (blk_cell BK174.out 4).trans rfl
                    have hfs90 := blk_frozen BK174.out 4
                    have hns90_0 := NB173_174.out
                    have hms90_0 := NB174_173.out
                    refine skip_ (w1 := ?_) (by rfl) rfl ?_ ?_
                    rotate_left
                    · go_simp
                      rfl
                    refine hK.out _ _ ⟨((cell_far (p := ⟨gb174, _, none⟩) NB173_174.out _).trans (((cell_far (p := ⟨gb174, _, none⟩) NB173_174.out _).trans (((cell_far (p := ⟨gb174, _, none⟩) NB173_174.out _).trans (((cell_far (p := ⟨gb174, _, none⟩) NB173_174.out _).trans (((cell_far (p := ⟨gb174, _, none⟩) NB173_174.out _).trans (hHeld.1)))))))))), ((cell_far (p := ⟨gb174, _, none⟩) NB173_174.out _).trans (((cell_far (p := ⟨gb174, _, none⟩) NB173_174.out _).trans (((cell_far (p := ⟨gb174, _, none⟩) NB173_174.out _).trans (((cell_far (p := ⟨gb174, _, none⟩) NB173_174.out _).trans (((cell_far (p := ⟨gb174, _, none⟩) NB173_174.out _).trans (hHeld.2.1)))))))))), ((cell_far (p := ⟨gb174, _, none⟩) NB173_174.out _).trans (((cell_far (p := ⟨gb174, _, none⟩) NB173_174.out _).trans (((cell_far (p := ⟨gb174, _, none⟩) NB173_174.out _).trans (((cell_far (p := ⟨gb174, _, none⟩) NB173_174.out _).trans (((cell_far (p := ⟨gb174, _, none⟩) NB173_174.out _).trans (hHeld.2.2.1)))))))))), ((cell_far (p := ⟨gb174, _, none⟩) NB173_174.out _).trans (((cell_far (p := ⟨gb174, _, none⟩) NB173_174.out _).trans (((cell_far (p := ⟨gb174, _, none⟩) NB173_174.out _).trans (((cell_far (p := ⟨gb174, _, none⟩) NB173_174.out _).trans (((cell_far (p := ⟨gb174, _, none⟩) NB173_174.out _).trans (hHeld.2.2.2.1)))))))))), ((cell_far (p := ⟨gb174, _, none⟩) NB173_174.out _).trans (((cell_far (p := ⟨gb174, _, none⟩) NB173_174.out _).trans (((cell_far (p := ⟨gb174, _, none⟩) NB173_174.out _).trans (((cell_far (p := ⟨gb174, _, none⟩) NB173_174.out _).trans (((cell_far (p := ⟨gb174, _, none⟩) NB173_174.out _).trans (hHeld.2.2.2.2))))))))))⟩ (fun hHeld => ?_)
                    clear hK K
                    refine pure_ (i := 8) (N := some 7) (v := ?_) (a' := ?_) #[true, true, true, true, true, true, true, true, true] rfl rfl (any_of HT_.out (by kernel_rfl)) (fun _ _ _ h => h) (Or.inl ⟨by rfl, ?_⟩) ?_ ?_
                    rotate_left
                    · intro w'
                      go_simp
                      with_reducible rfl
                    rotate_left
                    · simp only [Act.put, List.setIfInBounds_toArray, List.set_cons_zero, List.set_cons_succ, i64_w, i32_w]
                      rfl
                    refine done_ (done_of HT_.out (by kernel_rfl)) ?_
                    try go_wp2
                    refine bodyPost_ret (results_ct rfl _ _ gb174 30 #[.int .i64 t211, .int .i64 t212, .slice Ao86 t213.length co86, .slice Ao88 t216.length co88, .int .i64 t219] (0, 0) _ rfl (by (with_reducible repeat (first | refine blk_drewN ?_ _ | refine blk_drew ?_ | refine blk_alloc ?_ _)); refine blk_put (cs := #[.int .i64 t211, .int .i64 t212, .slice Ao86 t213.length co86, .slice Ao88 t216.length co88, .int .i64 0]) ?_ 4 _ rfl; (with_reducible repeat (first | refine blk_drewN ?_ _ | refine blk_drew ?_ | refine blk_alloc ?_ _)); refine blk_put (cs := #[.int .i64 t211, .int .i64 t212, .slice Ao86 t213.length co86, .slice none 0 0, .int .i64 0]) ?_ 3 _ rfl; (with_reducible repeat (first | refine blk_drewN ?_ _ | refine blk_drew ?_ | refine blk_alloc ?_ _)); refine blk_put (cs := #[.int .i64 t211, .int .i64 t212, .slice none 0 0, .slice none 0 0, .int .i64 0]) ?_ 2 _ rfl; (with_reducible repeat (first | refine blk_drewN ?_ _ | refine blk_drew ?_ | refine blk_alloc ?_ _)); refine blk_put (cs := #[.int .i64 t211, .int .i64 0, .slice none 0 0, .slice none 0 0, .int .i64 0]) ?_ 1 _ rfl; (with_reducible repeat (first | refine blk_drewN ?_ _ | refine blk_drew ?_ | refine blk_alloc ?_ _)); refine blk_put (cs := #[.int .i64 0, .int .i64 0, .slice none 0 0, .slice none 0 0, .int .i64 0]) ?_ 0 _ rfl; (with_reducible repeat (first | refine blk_drewN ?_ _ | refine blk_drew ?_ | refine blk_alloc ?_ _)); exact BK174.out) Try.underlying30 rfl (by kernel_rfl)) rfl ?_
                    exact ⟨_, _, by first | rfl | (simp [errW_none, errW_some] <;> rfl) | (simp [*, errW_none, errW_some] <;> rfl), Kd.N_V (by (with_reducible repeat (first | apply Kd.N_alloc | apply Kd.N_drewN | apply Kd.N_drew)); exact Kd.N_mono (Kd.N_far (p := ⟨gb174, 4, none⟩) (Kd.N_far (p := ⟨gb174, 3, none⟩) (Kd.N_far (p := ⟨gb174, 2, none⟩) (Kd.N_far (p := ⟨gb174, 1, none⟩) (Kd.N_far (p := ⟨gb174, 0, none⟩) (Kd.N_mono HO215.out (fun k_ hk => (⟨hk, hk.2.2.2.2⟩ : _ ∧ k_ ≠ gb174))) (fun _ hk => hk.2) (.int .i64 t211)) (fun _ hk => hk.2) (.int .i64 t212)) (fun _ hk => hk.2) (.slice Ao86 t213.length co86)) (fun _ hk => hk.2) (.slice Ao88 t216.length co88)) (fun _ hk => hk.2) (.int .i64 t219)) (fun _ hk => ⟨hk.1.1, hk.1.2.1⟩)), by (with_reducible repeat (first | apply Kd.R_alloc | apply Kd.R_drewN | apply Kd.R_drew)); exact Kd.R_mono (Kd.R_far (p := ⟨gb174, 4, none⟩) (Kd.R_far (p := ⟨gb174, 3, none⟩) (Kd.R_far (p := ⟨gb174, 2, none⟩) (Kd.R_far (p := ⟨gb174, 1, none⟩) (Kd.R_far (p := ⟨gb174, 0, none⟩) (Kd.R_types HO218.out BK174.out (by decide)) (fun _ hk => hk.2) (.int .i64 t211)) (fun _ hk => hk.2) (.int .i64 t212)) (fun _ hk => hk.2) (.slice Ao86 t213.length co86)) (fun _ hk => hk.2) (.slice Ao88 t216.length co88)) (fun _ hk => hk.2) (.int .i64 t219)) (fun _ hk => hk.1.1), by repeat (first | (with_reducible first | exact HB.out | apply below_alloc | apply pw_below_drewN | apply below_drew1 | refine below_set ?_ GE173.out | refine below_set ?_ GE174.out) | exact HB.out), by repeat (first | (with_reducible first | exact HK.out | apply Kept.alloc | apply Kept.drewN | apply Kept.drew | refine Kept.setCell ?_ (.inr GW173.out) _ | refine Kept.setCell ?_ (.inr GW174.out) _) | exact HK.out)⟩
                  · rw [if_neg c65] at H
                    exact absurd H (by simp)
              · rw [if_neg c23] at H
                exact absurd H (by simp)
            · rw [if_neg c22] at H
              exact absurd H (by simp)
          · rw [if_neg c21] at H
            exact absurd H (by simp)
        · rw [if_neg c20] at H
          exact absurd H (by simp)

end Go.Proofs.Ytfajhdcambkbpaa.PPoolR
