-- Out of the translation, by a program of this session.
import Derived.Test.YtjmpaeckpbpclaaWShort
import Derived.Test.YtjmpaeckpbpclaaPPlKx0
import Derived.Test.YtjmpaeckpbpclaaPPlKx1
namespace Go.Proofs.Ytjmpaeckpbpclaa.PPlK
open Go.RowKit Go.Proofs.YtjmpaeckpbpclaaW.PrintWords Go.Proofs.YtjmpaeckpbpclaaW.PrintLast Go.Proofs.YtjmpaeckpbpclaaW.PrintMore
attribute [local go_sem] max2_int min2_int max_two min_two max_three min_three max_four min_four   -- for this text's walks alone
set_option linter.unusedVariables false
set_option linter.unusedSimpArgs false

attribute [local go_sem high] eqA116
/-! ### handoffref10_SameOp: function 24 -/
mutual
def handoffref10_SameOp.j0 : Nat → Bool → Int → Int → Int → Int → List (S116) → Bool → Int → Int → Int → Int → List (S116) → Bool → Option (Bool)
  | 0, _, _, _, _, _, _, _, _, _, _, _, _, _ => none
  | k + 1, x47, x171000, x171001, x171002, x171003, x171004, x171005, x172000, x172001, x172002, x172003, x172004, x172005 => if x47 = true then (some false) else (handoffref10_SameOp.l0 k (x171004.length : Int) 0 x171000 x171001 x171002 x171003 x171004 x171005 x172000 x172001 x172002 x172003 x172004 x172005)
def handoffref10_SameOp.l0 : Nat → Int → Int → Int → Int → Int → Int → List (S116) → Bool → Int → Int → Int → Int → List (S116) → Bool → Option (Bool)
  | 0, _, _, _, _, _, _, _, _, _, _, _, _, _, _ => none
  | k + 1, x50, x51, x171000, x171001, x171002, x171003, x171004, x171005, x172000, x172001, x172002, x172003, x172004, x172005 => if x51 < x50 then (if 0 ≤ x51 then (if x51 < (x171004.length : Int) then (if x51 < (x172004.length : Int) then (if (!(((rd_T116 x171004 x51).f0) == ((rd_T116 x172004 x51).f0)) || (!(((rd_T116 x171004 x51).f1) == ((rd_T116 x172004 x51).f1)) || (!(((rd_T116 x171004 x51).f2) == ((rd_T116 x172004 x51).f2))))) = true then (some false) else (handoffref10_SameOp.l0 k x50 (wrap64 (x51 + 1)) x171000 x171001 x171002 x171003 x171004 x171005 x172000 x172001 x172002 x172003 x172004 x172005)) else (none)) else (none)) else (none)) else (some true)
end
def handoffref10_SameOp.f (k : Nat) (a0_0 : Int) (a0_1 : Int) (a0_2 : Int) (a0_3 : Int) (l0_4 : List (S116)) (a0_5 : Bool) (a1_0 : Int) (a1_1 : Int) (a1_2 : Int) (a1_3 : Int) (l1_4 : List (S116)) (a1_5 : Bool) : Option (Bool) := if a0_0 = a1_0 then (if a0_1 = a1_1 then (if a0_2 = a1_2 then (if a0_3 = a1_3 then (if (a0_5 != a1_5) = true then (handoffref10_SameOp.j0 k true a0_0 a0_1 a0_2 a0_3 l0_4 a0_5 a1_0 a1_1 a1_2 a1_3 l1_4 a1_5) else (handoffref10_SameOp.j0 k ((l0_4.length : Int) != (l1_4.length : Int)) a0_0 a0_1 a0_2 a0_3 l0_4 a0_5 a1_0 a1_1 a1_2 a1_3 l1_4 a1_5)) else (handoffref10_SameOp.j0 k true a0_0 a0_1 a0_2 a0_3 l0_4 a0_5 a1_0 a1_1 a1_2 a1_3 l1_4 a1_5)) else (handoffref10_SameOp.j0 k true a0_0 a0_1 a0_2 a0_3 l0_4 a0_5 a1_0 a1_1 a1_2 a1_3 l1_4 a1_5)) else (handoffref10_SameOp.j0 k true a0_0 a0_1 a0_2 a0_3 l0_4 a0_5 a1_0 a1_1 a1_2 a1_3 l1_4 a1_5)) else (handoffref10_SameOp.j0 k true a0_0 a0_1 a0_2 a0_3 l0_4 a0_5 a1_0 a1_1 a1_2 a1_3 l1_4 a1_5)
theorem handoffref10_SameOp.mono_l : ∀ k, (∀ y0 y1 y2 y3 y4 y5 y6 y7 y8 y9 y10 y11 y12, LeO (handoffref10_SameOp.j0 k y0 y1 y2 y3 y4 y5 y6 y7 y8 y9 y10 y11 y12) (handoffref10_SameOp.j0 (k + 1) y0 y1 y2 y3 y4 y5 y6 y7 y8 y9 y10 y11 y12)) ∧ (∀ y0 y1 y2 y3 y4 y5 y6 y7 y8 y9 y10 y11 y12 y13, LeO (handoffref10_SameOp.l0 k y0 y1 y2 y3 y4 y5 y6 y7 y8 y9 y10 y11 y12 y13) (handoffref10_SameOp.l0 (k + 1) y0 y1 y2 y3 y4 y5 y6 y7 y8 y9 y10 y11 y12 y13))
 | 0 => ⟨fun _ _ _ _ _ _ _ _ _ _ _ _ _ r h => by simp [handoffref10_SameOp.j0] at h, fun _ _ _ _ _ _ _ _ _ _ _ _ _ _ r h => by simp [handoffref10_SameOp.l0] at h⟩
 | k + 1 => by
  obtain ⟨ih0, ih1⟩ := handoffref10_SameOp.mono_l k
  refine ⟨?_, ?_⟩
  all_goals intros
  all_goals first | unfold handoffref10_SameOp.j0 | unfold handoffref10_SameOp.l0
  all_goals (repeat' first | with_reducible first | apply ih0 | apply ih1 | exact LeO.refl _ | exact LeO.none _ | refine LeO.ite ?_ ?_ | refine LeO.bind ?_ (fun _ => ?_) | apply ih0 | apply ih1 | exact LeO.none _ | refine LeO.ite ?_ ?_ | refine LeO.bind ?_ (fun _ => ?_))
theorem handoffref10_SameOp.mono : ∀ a0 a1 a2 a3 a4 a5 a6 a7 a8 a9 a10 a11 k, LeO (handoffref10_SameOp.f k a0 a1 a2 a3 a4 a5 a6 a7 a8 a9 a10 a11) (handoffref10_SameOp.f (k + 1) a0 a1 a2 a3 a4 a5 a6 a7 a8 a9 a10 a11) := by
 intro a0 a1 a2 a3 a4 a5 a6 a7 a8 a9 a10 a11 k
 obtain ⟨ih0, ih1⟩ := handoffref10_SameOp.mono_l k
 unfold handoffref10_SameOp.f
 repeat' first | with_reducible first | apply ih0 | apply ih1 | exact LeO.refl _ | exact LeO.none _ | refine LeO.ite ?_ ?_ | refine LeO.bind ?_ (fun _ => ?_) | apply ih0 | apply ih1 | exact LeO.none _ | refine LeO.ite ?_ ?_ | refine LeO.bind ?_ (fun _ => ?_)
set_option maxHeartbeats 8000000 in
set_option maxRecDepth 100000 in
theorem handoffref10_SameOp.calls (k : Nat) (a0_0 : Int) (a0_1 : Int) (a0_2 : Int) (a0_3 : Int) (A0_4 : Option Addr) (c0_4 : Nat) (l0_4 : List (S116)) (a0_5 : Bool) (a1_0 : Int) (a1_1 : Int) (a1_2 : Int) (a1_3 : Int) (A1_4 : Option Addr) (c1_4 : Nat) (l1_4 : List (S116)) (a1_5 : Bool) (r : Bool) (w : World) (hr0_4 : Kd.C k116 w A0_4 l0_4.length l0_4) (hc0_4 : l0_4.length ≤ c0_4) (hr1_4 : Kd.C k116 w A1_4 l1_4.length l1_4) (hc1_4 : l1_4.length ≤ c1_4) (h : handoffref10_SameOp.f k a0_0 a0_1 a0_2 a0_3 l0_4 a0_5 a1_0 a1_1 a1_2 a1_3 l1_4 a1_5 = some r) :
  Calls Try.prog 24 #[.agg #[.int .i64 a0_0, .int .i64 a0_1, .int .i64 a0_2, .int .i64 a0_3, .slice A0_4 l0_4.length c0_4, .bool a0_5], .agg #[.int .i64 a1_0, .int .i64 a1_1, .int .i64 a1_2, .int .i64 a1_3, .slice A1_4 l1_4.length c1_4, .bool a1_5]] w fun e w' => e = .returned (.bool r) ∧ Below w.heap.size w w' := by
 have hu39 := Try.underlying39
 have hu116 := Try.underlying116
 have HR0_4 := Aside0.mk hr0_4
 have HC0_4 := Aside0.mk hc0_4
 clear hr0_4 hc0_4
 have HR1_4 := Aside0.mk hr1_4
 have HC1_4 := Aside0.mk hc1_4
 clear hr1_4 hc1_4
 have HB := Aside0.mk (Below.refl w.heap.size w)
 have H : (if a0_0 = a1_0 then (if a0_1 = a1_1 then (if a0_2 = a1_2 then (if a0_3 = a1_3 then (if (a0_5 != a1_5) = true then (handoffref10_SameOp.j0 k true a0_0 a0_1 a0_2 a0_3 l0_4 a0_5 a1_0 a1_1 a1_2 a1_3 l1_4 a1_5) else (handoffref10_SameOp.j0 k ((l0_4.length : Int) != (l1_4.length : Int)) a0_0 a0_1 a0_2 a0_3 l0_4 a0_5 a1_0 a1_1 a1_2 a1_3 l1_4 a1_5)) else (handoffref10_SameOp.j0 k true a0_0 a0_1 a0_2 a0_3 l0_4 a0_5 a1_0 a1_1 a1_2 a1_3 l1_4 a1_5)) else (handoffref10_SameOp.j0 k true a0_0 a0_1 a0_2 a0_3 l0_4 a0_5 a1_0 a1_1 a1_2 a1_3 l1_4 a1_5)) else (handoffref10_SameOp.j0 k true a0_0 a0_1 a0_2 a0_3 l0_4 a0_5 a1_0 a1_1 a1_2 a1_3 l1_4 a1_5)) else (handoffref10_SameOp.j0 k true a0_0 a0_1 a0_2 a0_3 l0_4 a0_5 a1_0 a1_1 a1_2 a1_3 l1_4 a1_5)) = some r := h
 clear h
 have HC3 := Aside0.mk H
 clear H
 go_enter Try.func24, Try.ntmps24
 go_upto_region 1 with (first | ((with_reducible refine gate_dst (N := 2) rfl ?_); (try (refine gate_guard (by rfl) ?_; dsimp only)); refine box_event ?hg (N := 2) ?hd (cs := #[.int .i64 a0_0, .int .i64 a0_1, .int .i64 a0_2, .int .i64 a0_3, .slice A0_4 l0_4.length c0_4, .bool a0_5]) (t := 39) ?hr ?_; (case hd => rfl); (case hg => rfl); (case hr => first | (go_simp; done) | (go_simp; rfl)); intro gb170 hg w4 hbox hb; have n0_ := Aside0.mk (below_step (below_w HB.out) hb); have n1_ := Aside0.mk (hbox); have n2_ := Aside0.mk ((by rw [hg]; exact (below_size (below_w HB.out)) : w.heap.size ≤ gb170)); have n3_ := Aside0.mk ((by rw [hg]; exact (below_size (below_w HB.out)) : w.heap.size ≤ gb170)); clear HB; have HB := n0_; have BK170 := n1_; have GW170 := n2_; have GE170 := n3_; clear n0_ n1_ n2_ n3_; clear hb hbox hg) | ((with_reducible refine gate_dst (N := 3) rfl ?_); (try (refine gate_guard (by rfl) ?_; dsimp only)); refine box_event ?hg (N := 3) ?hd (cs := #[.int .i64 a1_0, .int .i64 a1_1, .int .i64 a1_2, .int .i64 a1_3, .slice A1_4 l1_4.length c1_4, .bool a1_5]) (t := 39) ?hr ?_; (case hd => rfl); (case hg => rfl); (case hr => first | (go_simp; done) | (go_simp; rfl)); intro gb171 hg w5 hbox hb; have n0_ := Aside0.mk (blk_below (g := gb170) (o := .cells #[.int .i64 a0_0, .int .i64 a0_1, .int .i64 a0_2, .int .i64 a0_3, .slice A0_4 l0_4.length c0_4, .bool a0_5] 39 (0, 0)) (by exact blk_w BK170.out) hb); have n1_ := Aside0.mk (below_step (by repeat (with_reducible first | exact HB.out | apply below_t | refine below_set ?_ GE170.out)) hb); have n2_ := Aside0.mk (hbox); have n3_ := Aside0.mk ((by rw [hg]; exact (below_size (by repeat (with_reducible first | exact HB.out | apply below_t | refine below_set ?_ GE170.out))) : w.heap.size ≤ gb171)); have n4_ := Aside0.mk ((by rw [hg]; exact (below_size (by repeat (with_reducible first | exact HB.out | apply below_t | refine below_set ?_ GE170.out))) : w.heap.size ≤ gb171)); have n5_ := Aside0.mk ((by rw [hg]; exact Nat.ne_of_lt (blk_lt (g := gb170) (o := .cells #[.int .i64 a0_0, .int .i64 a0_1, .int .i64 a0_2, .int .i64 a0_3, .slice A0_4 l0_4.length c0_4, .bool a0_5] 39 (0, 0)) (by exact blk_w BK170.out)) : gb170 ≠ gb171)); have n6_ := Aside0.mk ((by rw [hg]; exact Nat.ne_of_gt (blk_lt (g := gb170) (o := .cells #[.int .i64 a0_0, .int .i64 a0_1, .int .i64 a0_2, .int .i64 a0_3, .slice A0_4 l0_4.length c0_4, .bool a0_5] 39 (0, 0)) (by exact blk_w BK170.out)) : gb171 ≠ gb170)); clear BK170; clear HB; have BK170 := n0_; have HB := n1_; have BK171 := n2_; have GW171 := n3_; have GE171 := n4_; have NB170_171 := n5_; have NB171_170 := n6_; clear n0_ n1_ n2_ n3_ n4_ n5_ n6_; clear hb hbox hg))
 repeat (go_quiet (first | ((with_reducible refine gate_dst (N := 2) rfl ?_); (try (refine gate_guard (by rfl) ?_; dsimp only)); refine box_event ?hg (N := 2) ?hd (cs := #[.int .i64 a0_0, .int .i64 a0_1, .int .i64 a0_2, .int .i64 a0_3, .slice A0_4 l0_4.length c0_4, .bool a0_5]) (t := 39) ?hr ?_; (case hd => rfl); (case hg => rfl); (case hr => first | (go_simp; done) | (go_simp; rfl)); intro gb170 hg w4 hbox hb; have n0_ := Aside0.mk (below_step (below_w HB.out) hb); have n1_ := Aside0.mk (hbox); have n2_ := Aside0.mk ((by rw [hg]; exact (below_size (below_w HB.out)) : w.heap.size ≤ gb170)); have n3_ := Aside0.mk ((by rw [hg]; exact (below_size (below_w HB.out)) : w.heap.size ≤ gb170)); clear HB; have HB := n0_; have BK170 := n1_; have GW170 := n2_; have GE170 := n3_; clear n0_ n1_ n2_ n3_; clear hb hbox hg) | ((with_reducible refine gate_dst (N := 3) rfl ?_); (try (refine gate_guard (by rfl) ?_; dsimp only)); refine box_event ?hg (N := 3) ?hd (cs := #[.int .i64 a1_0, .int .i64 a1_1, .int .i64 a1_2, .int .i64 a1_3, .slice A1_4 l1_4.length c1_4, .bool a1_5]) (t := 39) ?hr ?_; (case hd => rfl); (case hg => rfl); (case hr => first | (go_simp; done) | (go_simp; rfl)); intro gb171 hg w5 hbox hb; have n0_ := Aside0.mk (blk_below (g := gb170) (o := .cells #[.int .i64 a0_0, .int .i64 a0_1, .int .i64 a0_2, .int .i64 a0_3, .slice A0_4 l0_4.length c0_4, .bool a0_5] 39 (0, 0)) (by exact blk_w BK170.out) hb); have n1_ := Aside0.mk (below_step (by repeat (with_reducible first | exact HB.out | apply below_t | refine below_set ?_ GE170.out)) hb); have n2_ := Aside0.mk (hbox); have n3_ := Aside0.mk ((by rw [hg]; exact (below_size (by repeat (with_reducible first | exact HB.out | apply below_t | refine below_set ?_ GE170.out))) : w.heap.size ≤ gb171)); have n4_ := Aside0.mk ((by rw [hg]; exact (below_size (by repeat (with_reducible first | exact HB.out | apply below_t | refine below_set ?_ GE170.out))) : w.heap.size ≤ gb171)); have n5_ := Aside0.mk ((by rw [hg]; exact Nat.ne_of_lt (blk_lt (g := gb170) (o := .cells #[.int .i64 a0_0, .int .i64 a0_1, .int .i64 a0_2, .int .i64 a0_3, .slice A0_4 l0_4.length c0_4, .bool a0_5] 39 (0, 0)) (by exact blk_w BK170.out)) : gb170 ≠ gb171)); have n6_ := Aside0.mk ((by rw [hg]; exact Nat.ne_of_gt (blk_lt (g := gb170) (o := .cells #[.int .i64 a0_0, .int .i64 a0_1, .int .i64 a0_2, .int .i64 a0_3, .slice A0_4 l0_4.length c0_4, .bool a0_5] 39 (0, 0)) (by exact blk_w BK170.out)) : gb171 ≠ gb170)); clear BK170; clear HB; have BK170 := n0_; have HB := n1_; have BK171 := n2_; have GW171 := n3_; have GE171 := n4_; have NB170_171 := n5_; have NB171_170 := n6_; clear n0_ n1_ n2_ n3_ n4_ n5_ n6_; clear hb hbox hg)); go_upto_region 1 with (first | ((with_reducible refine gate_dst (N := 2) rfl ?_); (try (refine gate_guard (by rfl) ?_; dsimp only)); refine box_event ?hg (N := 2) ?hd (cs := #[.int .i64 a0_0, .int .i64 a0_1, .int .i64 a0_2, .int .i64 a0_3, .slice A0_4 l0_4.length c0_4, .bool a0_5]) (t := 39) ?hr ?_; (case hd => rfl); (case hg => rfl); (case hr => first | (go_simp; done) | (go_simp; rfl)); intro gb170 hg w4 hbox hb; have n0_ := Aside0.mk (below_step (below_w HB.out) hb); have n1_ := Aside0.mk (hbox); have n2_ := Aside0.mk ((by rw [hg]; exact (below_size (below_w HB.out)) : w.heap.size ≤ gb170)); have n3_ := Aside0.mk ((by rw [hg]; exact (below_size (below_w HB.out)) : w.heap.size ≤ gb170)); clear HB; have HB := n0_; have BK170 := n1_; have GW170 := n2_; have GE170 := n3_; clear n0_ n1_ n2_ n3_; clear hb hbox hg) | ((with_reducible refine gate_dst (N := 3) rfl ?_); (try (refine gate_guard (by rfl) ?_; dsimp only)); refine box_event ?hg (N := 3) ?hd (cs := #[.int .i64 a1_0, .int .i64 a1_1, .int .i64 a1_2, .int .i64 a1_3, .slice A1_4 l1_4.length c1_4, .bool a1_5]) (t := 39) ?hr ?_; (case hd => rfl); (case hg => rfl); (case hr => first | (go_simp; done) | (go_simp; rfl)); intro gb171 hg w5 hbox hb; have n0_ := Aside0.mk (blk_below (g := gb170) (o := .cells #[.int .i64 a0_0, .int .i64 a0_1, .int .i64 a0_2, .int .i64 a0_3, .slice A0_4 l0_4.length c0_4, .bool a0_5] 39 (0, 0)) (by exact blk_w BK170.out) hb); have n1_ := Aside0.mk (below_step (by repeat (with_reducible first | exact HB.out | apply below_t | refine below_set ?_ GE170.out)) hb); have n2_ := Aside0.mk (hbox); have n3_ := Aside0.mk ((by rw [hg]; exact (below_size (by repeat (with_reducible first | exact HB.out | apply below_t | refine below_set ?_ GE170.out))) : w.heap.size ≤ gb171)); have n4_ := Aside0.mk ((by rw [hg]; exact (below_size (by repeat (with_reducible first | exact HB.out | apply below_t | refine below_set ?_ GE170.out))) : w.heap.size ≤ gb171)); have n5_ := Aside0.mk ((by rw [hg]; exact Nat.ne_of_lt (blk_lt (g := gb170) (o := .cells #[.int .i64 a0_0, .int .i64 a0_1, .int .i64 a0_2, .int .i64 a0_3, .slice A0_4 l0_4.length c0_4, .bool a0_5] 39 (0, 0)) (by exact blk_w BK170.out)) : gb170 ≠ gb171)); have n6_ := Aside0.mk ((by rw [hg]; exact Nat.ne_of_gt (blk_lt (g := gb170) (o := .cells #[.int .i64 a0_0, .int .i64 a0_1, .int .i64 a0_2, .int .i64 a0_3, .slice A0_4 l0_4.length c0_4, .bool a0_5] 39 (0, 0)) (by exact blk_w BK170.out)) : gb171 ≠ gb170)); clear BK170; clear HB; have BK170 := n0_; have HB := n1_; have BK171 := n2_; have GW171 := n3_; have GE171 := n4_; have NB170_171 := n5_; have NB171_170 := n6_; clear n0_ n1_ n2_ n3_ n4_ n5_ n6_; clear hb hbox hg)))
 (try simp only [Act.put, List.setIfInBounds_toArray, List.set_cons_zero, List.set_cons_succ])
 go_cut [47] (fun v47 wc => ∃ (kq : Nat) (x47_2 : Bool), v47 = .bool x47_2 ∧ Aside0 (handoffref10_SameOp.j0 kq x47_2 a0_0 a0_1 a0_2 a0_3 l0_4 a0_5 a1_0 a1_1 a1_2 a1_3 l1_4 a1_5 = some r) ∧ Aside0 (kq ≤ k) ∧ Aside0 (wc.heap[gb170]? = some (.cells #[.int .i64 a0_0, .int .i64 a0_1, .int .i64 a0_2, .int .i64 a0_3, (.slice A0_4 l0_4.length c0_4), .bool a0_5] 39 (0, 0))) ∧ Aside0 (wc.heap[gb171]? = some (.cells #[.int .i64 a1_0, .int .i64 a1_1, .int .i64 a1_2, .int .i64 a1_3, (.slice A1_4 l1_4.length c1_4), .bool a1_5] 39 (0, 0))) ∧ Aside0 (Below w.heap.size w wc))
 case first =>
  have H := HC3.out
  clear HC3
  by_cases c6 : a0_0 = a1_0
  ·rw [if_pos c6] at H
   have c6b0 : (a0_0 == a1_0) = true := beq_iff_eq.mpr c6
   have c6b1 : (a0_0 != a1_0) = false := bne_eq_false_iff_eq.mpr c6
   clear c6
   (first | rw [c6b0] | (simp only [i64_w, i32_w]; rw [c6b0]) | skip)
   by_cases c7 : a0_1 = a1_1
   ·rw [if_pos c7] at H
    have c7b0 : (a0_1 == a1_1) = true := beq_iff_eq.mpr c7
    have c7b1 : (a0_1 != a1_1) = false := bne_eq_false_iff_eq.mpr c7
    clear c7
    by_cases c8 : a0_2 = a1_2
    ·rw [if_pos c8] at H
     have c8b0 : (a0_2 == a1_2) = true := beq_iff_eq.mpr c8
     have c8b1 : (a0_2 != a1_2) = false := bne_eq_false_iff_eq.mpr c8
     clear c8
     by_cases c9 : a0_3 = a1_3
     ·rw [if_pos c9] at H
      have c9b0 : (a0_3 == a1_3) = true := beq_iff_eq.mpr c9
      have c9b1 : (a0_3 != a1_3) = false := bne_eq_false_iff_eq.mpr c9
      clear c9
      by_cases c10 : (a0_5 != a1_5) = true
      ·rw [if_pos c10] at H
       have c10b0 : (a0_5 != a1_5) = true := c10
       (try (have c10b1 : decide (a0_5 = a1_5) = false := by simpa using c10))
       (try (have c10b2 : (a0_5 == a1_5) = false := by simpa using c10))
       (try (have c10b3 : ¬ (a0_5 = a1_5) := by simpa using c10))
       clear c10
       have H' := Aside0.mk H
       clear H
       have hnb11 := NB170_171.out
       have hnc11 := NB171_170.out
       have hcz12 := blk6 BK170.out
       have hcz13 := blk6 BK171.out
       go_wp2
       repeat (go_quiet (fail); try go_wp2)
       go_meet
       case rel => exact ⟨_, (true), (by first | rfl | (simp; done) | (simp [*]; done)), H', ⟨by first | omega | exact Nat.le_refl _⟩, ⟨by exact blk_w BK170.out⟩, ⟨by exact blk_w BK171.out⟩, ⟨by repeat (with_reducible first | exact HB.out | apply below_t | refine below_set ?_ GE170.out | refine below_set ?_ GE171.out)⟩⟩
      ·rw [if_neg c10] at H
       have c10b0 : (a0_5 != a1_5) = false := by simpa using c10
       (try (have c10b1 : decide (a0_5 = a1_5) = true := by simpa using c10))
       (try (have c10b2 : (a0_5 == a1_5) = true := by simpa using c10))
       clear c10
       have H' := Aside0.mk H
       clear H
       have hnb14 := NB170_171.out
       have hnc14 := NB171_170.out
       have hcz15 := blk6 BK170.out
       have hcz16 := blk6 BK171.out
       go_wp2
       repeat (go_quiet (fail); try go_wp2)
       go_meet
       case rel => exact ⟨_, (((l0_4.length : Int) != (l1_4.length : Int))), (by first | rfl | (simp; done) | (simp [*]; done)), H', ⟨by first | omega | exact Nat.le_refl _⟩, ⟨by exact blk_w BK170.out⟩, ⟨by exact blk_w BK171.out⟩, ⟨by repeat (with_reducible first | exact HB.out | apply below_t | refine below_set ?_ GE170.out | refine below_set ?_ GE171.out)⟩⟩
     ·rw [if_neg c9] at H
      have c9b0 : (a0_3 == a1_3) = false := beq_eq_false_iff_ne.mpr c9
      have c9b1 : (a0_3 != a1_3) = true := bne_iff_ne.mpr c9
      have H' := Aside0.mk H
      clear H
      have hnb17 := NB170_171.out
      have hnc17 := NB171_170.out
      have hcz18 := blk6 BK170.out
      have hcz19 := blk6 BK171.out
      go_wp2
      repeat (go_quiet (fail); try go_wp2)
      go_meet
      case rel => exact ⟨_, (true), (by first | rfl | (simp; done) | (simp [*]; done)), H', ⟨by first | omega | exact Nat.le_refl _⟩, ⟨by exact blk_w BK170.out⟩, ⟨by exact blk_w BK171.out⟩, ⟨by repeat (with_reducible first | exact HB.out | apply below_t | refine below_set ?_ GE170.out | refine below_set ?_ GE171.out)⟩⟩
    ·rw [if_neg c8] at H
     have c8b0 : (a0_2 == a1_2) = false := beq_eq_false_iff_ne.mpr c8
     have c8b1 : (a0_2 != a1_2) = true := bne_iff_ne.mpr c8
     have H' := Aside0.mk H
     clear H
     have hnb20 := NB170_171.out
     have hnc20 := NB171_170.out
     have hcz21 := blk6 BK170.out
     have hcz22 := blk6 BK171.out
     go_wp2
     repeat (go_quiet (fail); try go_wp2)
     go_meet
     case rel => exact ⟨_, (true), (by first | rfl | (simp; done) | (simp [*]; done)), H', ⟨by first | omega | exact Nat.le_refl _⟩, ⟨by exact blk_w BK170.out⟩, ⟨by exact blk_w BK171.out⟩, ⟨by repeat (with_reducible first | exact HB.out | apply below_t | refine below_set ?_ GE170.out | refine below_set ?_ GE171.out)⟩⟩
   ·rw [if_neg c7] at H
    have c7b0 : (a0_1 == a1_1) = false := beq_eq_false_iff_ne.mpr c7
    have c7b1 : (a0_1 != a1_1) = true := bne_iff_ne.mpr c7
    have H' := Aside0.mk H
    clear H
    have hnb23 := NB170_171.out
    have hnc23 := NB171_170.out
    have hcz24 := blk6 BK170.out
    have hcz25 := blk6 BK171.out
    go_wp2
    repeat (go_quiet (fail); try go_wp2)
    go_meet
    case rel => exact ⟨_, (true), (by first | rfl | (simp; done) | (simp [*]; done)), H', ⟨by first | omega | exact Nat.le_refl _⟩, ⟨by exact blk_w BK170.out⟩, ⟨by exact blk_w BK171.out⟩, ⟨by repeat (with_reducible first | exact HB.out | apply below_t | refine below_set ?_ GE170.out | refine below_set ?_ GE171.out)⟩⟩
  ·rw [if_neg c6] at H
   have c6b0 : (a0_0 == a1_0) = false := beq_eq_false_iff_ne.mpr c6
   have c6b1 : (a0_0 != a1_0) = true := bne_iff_ne.mpr c6
   (first | rw [c6b0] | (simp only [i64_w, i32_w]; rw [c6b0]) | skip)
   have H' := Aside0.mk H
   clear H
   have hnb26 := NB170_171.out
   have hnc26 := NB171_170.out
   have hcz27 := blk6 BK170.out
   have hcz28 := blk6 BK171.out
   go_wp2
   repeat (go_quiet (fail); try go_wp2)
   go_meet
   case rel => exact ⟨_, (true), (by first | rfl | (simp; done) | (simp [*]; done)), H', ⟨by first | omega | exact Nat.le_refl _⟩, ⟨by exact blk_w BK170.out⟩, ⟨by exact blk_w BK171.out⟩, ⟨by repeat (with_reducible first | exact HB.out | apply below_t | refine below_set ?_ GE170.out | refine below_set ?_ GE171.out)⟩⟩
 case rest =>
  clear HC3
  obtain ⟨kq, x47_2, rfl, HA, HJ2, BK170, BK171, HB⟩ := hcut
  cases kq with
  | zero => exact absurd HA.out (by simp [handoffref10_SameOp.j0])
  | succ kj2 =>
   have H := HA.out
   clear HA
   simp only [handoffref10_SameOp.j0] at H
   by_cases c29 : x47_2 = true
   ·subst c29
    have H1 : (some false) = some r := by rw [if_pos rfl] at H; exact H
    clear H
    have H := H1
    clear H1
    obtain rfl := Option.some.inj H
    go_wp2
    repeat (go_quiet (fail); try go_wp2)
    go_ret
    exact ⟨by first | rfl | (simp [errW_none, errW_some] <;> rfl) | (simp [*, errW_none, errW_some] <;> rfl), by repeat (with_reducible first | exact HB.out | apply below_t | refine below_set ?_ GE170.out | refine below_set ?_ GE171.out)⟩
   ·replace c29 := Bool.eq_false_iff.mpr c29
    subst c29
    have H1 : (handoffref10_SameOp.l0 kj2 (l0_4.length : Int) 0 a0_0 a0_1 a0_2 a0_3 l0_4 a0_5 a1_0 a1_1 a1_2 a1_3 l1_4 a1_5) = some r := by rw [if_neg (show ¬ (false = true) by decide)] at H; exact H
    clear H
    have H := H1
    clear H1
    have H' := Aside0.mk H
    clear H
    have hnb30 := NB170_171.out
    have hnc30 := NB171_170.out
    have hcz31 := blk6 BK170.out
    go_wp2
    repeat (go_quiet (fail); try go_wp2)
    go_loopg [51] kj2 (fun kq v51 w' => ∃ (x51_2 : Int), v51 = .int .i64 x51_2 ∧ Aside0 (handoffref10_SameOp.l0 kq (l0_4.length : Int) x51_2 a0_0 a0_1 a0_2 a0_3 l0_4 a0_5 a1_0 a1_1 a1_2 a1_3 l1_4 a1_5 = some r) ∧ Aside0 (kq ≤ kj2) ∧ Aside0 (w'.heap[gb170]? = some (.cells #[.int .i64 a0_0, .int .i64 a0_1, .int .i64 a0_2, .int .i64 a0_3, (.slice A0_4 l0_4.length c0_4), .bool a0_5] 39 (0, 0))) ∧ Aside0 (w'.heap[gb171]? = some (.cells #[.int .i64 a1_0, .int .i64 a1_1, .int .i64 a1_2, .int .i64 a1_3, (.slice A1_4 l1_4.length c1_4), .bool a1_5] 39 (0, 0))) ∧ Aside0 (Below w.heap.size w w'))
    case atStart => exact ⟨(0), (by first | rfl | (simp; done) | (simp [*]; done)), H', ⟨Nat.le_refl _⟩, ⟨by exact blk_w BK170.out⟩, ⟨by exact blk_w BK171.out⟩, ⟨by repeat (with_reducible first | exact HB.out | apply below_t | refine below_set ?_ GE170.out | refine below_set ?_ GE171.out)⟩⟩
    case round =>
     clear H'
     (try clear c29); (try clear hcz31); (try clear hcz31)
     obtain ⟨x51_2, rfl, HA, HK2, BK170, BK171, HB⟩ := hrel
     cases gk with
     | zero => exact absurd HA.out (by simp [handoffref10_SameOp.l0])
     | succ k2 =>
      have H := HA.out
      clear HA
      simp only [handoffref10_SameOp.l0] at H
      by_cases c32 : x51_2 < (l0_4.length : Int)
      ·rw [if_pos c32] at H
       have c32b0 : decide (x51_2 < (l0_4.length : Int)) = true := decide_eq_true c32
       clear c32
       by_cases c33 : 0 ≤ x51_2
       ·rw [if_pos c33] at H
        have c33b0 : decide (0 ≤ x51_2) = true := decide_eq_true c33
        clear c33
        by_cases c34 : x51_2 < (l0_4.length : Int)
        ·rw [if_pos c34] at H
         have c34b0 : decide (x51_2 < (l0_4.length : Int)) = true := decide_eq_true c34
         clear c34
         by_cases c35 : x51_2 < (l1_4.length : Int)
         ·rw [if_pos c35] at H
          have c35b0 : decide (x51_2 < (l1_4.length : Int)) = true := decide_eq_true c35
          clear c35
          by_cases c36 : (!(((rd_T116 l0_4 x51_2).f0) == ((rd_T116 l1_4 x51_2).f0)) || (!(((rd_T116 l0_4 x51_2).f1) == ((rd_T116 l1_4 x51_2).f1)) || (!(((rd_T116 l0_4 x51_2).f2) == ((rd_T116 l1_4 x51_2).f2))))) = true
          ·rw [if_pos c36] at H
           have c36b0 : (!(((rd_T116 l0_4 x51_2).f0) == ((rd_T116 l1_4 x51_2).f0)) || (!(((rd_T116 l0_4 x51_2).f1) == ((rd_T116 l1_4 x51_2).f1)) || (!(((rd_T116 l0_4 x51_2).f2) == ((rd_T116 l1_4 x51_2).f2))))) = true := c36
           clear c36
           obtain rfl := Option.some.inj H
           have hnb37 := NB170_171.out
           have hnc37 := NB171_170.out
           have hcz38 := blk6 BK170.out
           have p172 : 0 ≤ (x51_2 : Int) := of_decide_eq_true (by first | (with_reducible assumption) | assumption)
           have q172 : x51_2 < (l0_4.length : Int) := of_decide_eq_true (by first | (with_reducible assumption) | assumption)
           obtain ⟨ad172, e172, hx172_0, hx172_1, hx172_2⟩ := at_T116 HR0_4.out x51_2 p172 q172
           cases e172
           replace hx172_0 := (HB.out.cell (World.block_lt_of_cell? w _ hx172_0)).trans hx172_0
           replace hx172_1 := (HB.out.cell (World.block_lt_of_cell? w _ hx172_1)).trans hx172_1
           replace hx172_2 := (HB.out.cell (World.block_lt_of_cell? w _ hx172_2)).trans hx172_2
           replace p172 := eq_true p172
           replace q172 := eq_true q172
           have hcz39 := blk6 BK171.out
           have p173 : 0 ≤ (x51_2 : Int) := of_decide_eq_true (by first | (with_reducible assumption) | assumption)
           have q173 : x51_2 < (l1_4.length : Int) := of_decide_eq_true (by first | (with_reducible assumption) | assumption)
           obtain ⟨ad173, e173, hx173_0, hx173_1, hx173_2⟩ := at_T116 HR1_4.out x51_2 p173 q173
           cases e173
           replace hx173_0 := (HB.out.cell (World.block_lt_of_cell? w _ hx173_0)).trans hx173_0
           replace hx173_1 := (HB.out.cell (World.block_lt_of_cell? w _ hx173_1)).trans hx173_1
           replace hx173_2 := (HB.out.cell (World.block_lt_of_cell? w _ hx173_2)).trans hx173_2
           replace p173 := eq_true p173
           replace q173 := eq_true q173
           go_wp2
           repeat (go_quiet (fail); try go_wp2)
           go_ret
           exact ⟨by first | rfl | (simp [errW_none, errW_some] <;> rfl) | (simp [*, errW_none, errW_some] <;> rfl), by repeat (with_reducible first | exact HB.out | apply below_t | refine below_set ?_ GE170.out | refine below_set ?_ GE171.out)⟩
          ·rw [if_neg c36] at H
           have c36b0 : (!(((rd_T116 l0_4 x51_2).f0) == ((rd_T116 l1_4 x51_2).f0)) || (!(((rd_T116 l0_4 x51_2).f1) == ((rd_T116 l1_4 x51_2).f1)) || (!(((rd_T116 l0_4 x51_2).f2) == ((rd_T116 l1_4 x51_2).f2))))) = false := by simpa using c36
           clear c36
           have H' := Aside0.mk H
           clear H
           have hnb40 := NB170_171.out
           have hnc40 := NB171_170.out
           have hcz41 := blk6 BK170.out
           have p172 : 0 ≤ (x51_2 : Int) := of_decide_eq_true (by first | (with_reducible assumption) | assumption)
           have q172 : x51_2 < (l0_4.length : Int) := of_decide_eq_true (by first | (with_reducible assumption) | assumption)
           obtain ⟨ad172, e172, hx172_0, hx172_1, hx172_2⟩ := at_T116 HR0_4.out x51_2 p172 q172
           cases e172
           replace hx172_0 := (HB.out.cell (World.block_lt_of_cell? w _ hx172_0)).trans hx172_0
           replace hx172_1 := (HB.out.cell (World.block_lt_of_cell? w _ hx172_1)).trans hx172_1
           replace hx172_2 := (HB.out.cell (World.block_lt_of_cell? w _ hx172_2)).trans hx172_2
           replace p172 := eq_true p172
           replace q172 := eq_true q172
           have hcz42 := blk6 BK171.out
           have p173 : 0 ≤ (x51_2 : Int) := of_decide_eq_true (by first | (with_reducible assumption) | assumption)
           have q173 : x51_2 < (l1_4.length : Int) := of_decide_eq_true (by first | (with_reducible assumption) | assumption)
           obtain ⟨ad173, e173, hx173_0, hx173_1, hx173_2⟩ := at_T116 HR1_4.out x51_2 p173 q173
           cases e173
           replace hx173_0 := (HB.out.cell (World.block_lt_of_cell? w _ hx173_0)).trans hx173_0
           replace hx173_1 := (HB.out.cell (World.block_lt_of_cell? w _ hx173_1)).trans hx173_1
           replace hx173_2 := (HB.out.cell (World.block_lt_of_cell? w _ hx173_2)).trans hx173_2
           replace p173 := eq_true p173
           replace q173 := eq_true q173
           go_wp2
           repeat (go_quiet (fail); try go_wp2)
           go_roundg k2
           case measure => have := HJ2.out; have := HK2.out; omega
           case rel => exact ⟨(wrap64 (x51_2 + 1)), (by first | rfl | (simp; done) | (simp [*]; done)), H', ⟨by have := HJ2.out; have := HK2.out; omega⟩, ⟨by exact blk_w BK170.out⟩, ⟨by exact blk_w BK171.out⟩, ⟨by repeat (with_reducible first | exact HB.out | apply below_t | refine below_set ?_ GE170.out | refine below_set ?_ GE171.out)⟩⟩
         ·rw [if_neg c35] at H
          exact absurd H (by simp)
        ·rw [if_neg c34] at H
         exact absurd H (by simp)
       ·rw [if_neg c33] at H
        exact absurd H (by simp)
      ·rw [if_neg c32] at H
       have c32b0 : decide (x51_2 < (l0_4.length : Int)) = false := decide_eq_false c32
       clear c32
       obtain rfl := Option.some.inj H
       go_wp2
       repeat (go_quiet (fail); try go_wp2)
       go_ret
       exact ⟨by first | rfl | (simp [errW_none, errW_some] <;> rfl) | (simp [*, errW_none, errW_some] <;> rfl), by repeat (with_reducible first | exact HB.out | apply below_t | refine below_set ?_ GE170.out | refine below_set ?_ GE171.out)⟩

end Go.Proofs.Ytjmpaeckpbpclaa.PPlK
