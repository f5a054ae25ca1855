-- Out of the translation, by a program of this session.
import Derived.Test.YtjmpaeckpbpclaaWShort
import Derived.Test.YtjmpaeckpbpclaaPPlKx0
import Derived.Test.YtjmpaeckpbpclaaPPlKx6
namespace Go.Proofs.Ytjmpaeckpbpclaa.PPlK
open Go.RowKit Go.Proofs.YtjmpaeckpbpclaaW.PrintWords Go.Proofs.YtjmpaeckpbpclaaW.PrintLast Go.Proofs.YtjmpaeckpbpclaaW.PrintMore
attribute [local go_sem] max2_int min2_int max_two min_two max_three min_three max_four min_four   -- for this text's walks alone
set_option linter.unusedVariables false
set_option linter.unusedSimpArgs false

/-! ### handoffref10_at: function 72 -/
def handoffref10_at.f (l0 : List Int) (a1 : Int) : Option (Int) := if a1 ≥ (l0.length : Int) then (some 0) else (if 0 ≤ a1 then (if a1 < (l0.length : Int) then (some (wrap64 (rd l0 a1))) else (none)) else (none))
set_option maxHeartbeats 8000000 in
set_option maxRecDepth 100000 in
theorem handoffref10_at.calls0 (A0 : Option Addr) (c0 : Nat) (l0 : List Int) (a1 : Int) (r : Int) (w : World) (hr0 : Kd.C (Kd.int .u8) w A0 l0.length l0) (hc0 : l0.length ≤ c0) (h : handoffref10_at.f l0 a1 = some r) :
  Calls Try.prog 72 #[.slice A0 l0.length c0, .int .i64 a1] w fun e w' => e = .returned (.int .i64 r) ∧ Drawn0 w w' := by
 have HR0 := Aside0.mk hr0
 have HC0 := Aside0.mk hc0
 clear hr0 hc0
 have H : (if a1 ≥ (l0.length : Int) then (some 0) else (if 0 ≤ a1 then (if a1 < (l0.length : Int) then (some (wrap64 (rd l0 a1))) else (none)) else (none))) = some r := h
 clear h
 by_cases c3 : a1 ≥ (l0.length : Int)
 ·rw [if_pos c3] at H
  have c3b0 : decide ((l0.length : Int) ≤ a1) = true := decide_eq_true c3
  clear c3
  obtain rfl := Option.some.inj H
  go_enter Try.func72, Try.ntmps72
  go_wp2
  go_ret
  exact ⟨by first | rfl | (simp; done) | (simp [*]; done), by repeat (first | exact Drawn0.refl _ | apply Drawn0.step)⟩
 ·rw [if_neg c3] at H
  have c3b0 : decide ((l0.length : Int) ≤ a1) = false := decide_eq_false c3
  clear c3
  by_cases c4 : 0 ≤ a1
  ·rw [if_pos c4] at H
   have c4b0 : decide (0 ≤ a1) = true := decide_eq_true c4
   clear c4
   by_cases c5 : a1 < (l0.length : Int)
   ·rw [if_pos c5] at H
    have c5b0 : decide (a1 < (l0.length : Int)) = true := decide_eq_true c5
    clear c5
    obtain rfl := Option.some.inj H
    have p282 : 0 ≤ (a1 : Int) := of_decide_eq_true (by first | (with_reducible assumption) | assumption)
    have q282 : a1 < (l0.length : Int) := of_decide_eq_true (by first | (with_reducible assumption) | assumption)
    obtain ⟨ad282, e282, hx282_0⟩ := Kd.at_int HR0.out a1 p282 q282
    cases e282
    replace p282 := eq_true p282
    replace q282 := eq_true q282
    go_enter Try.func72, Try.ntmps72
    go_wp2
    go_ret
    exact ⟨by first | rfl | (simp; done) | (simp [*]; done), by repeat (first | exact Drawn0.refl _ | apply Drawn0.step)⟩
   ·rw [if_neg c5] at H
    exact absurd H (by simp)
  ·rw [if_neg c4] at H
   exact absurd H (by simp)

theorem handoffref10_at.calls (A0 : Option Addr) (c0 : Nat) (l0 : List Int) (a1 : Int) (r : Int) (w : World) (hr0 : Kd.C (Kd.int .u8) w A0 l0.length l0) (hc0 : l0.length ≤ c0) (h : handoffref10_at.f l0 a1 = some r) :
  Calls Try.prog 72 #[.slice A0 l0.length c0, .int .i64 a1] w fun e w' => e = .returned (.int .i64 r) ∧ Below w.heap.size w w' :=
 (handoffref10_at.calls0 A0 c0 l0 a1 r w hr0 hc0 h).mono fun _ _ ⟨he, ⟨⟨nd, hw⟩⟩⟩ => ⟨he, hw ▸ pw_below_drewN (Below.refl _ _) nd⟩

/-! ### handoffref10_one: function 73 -/
mutual
def handoffref10_one.j0 : Nat → List Int → Int → Int → Int → Int → Int → Bool → Option (Int × Int × Int × Int × (List (S116)) × Bool × Int)
  | 0, _, _, _, _, _, _, _ => none
  | k + 1, x0, x1, x286000, x286001, x286002, x286003, x286005 => if x286000 = 1 then ((handoffref10_at.f x0 x1).bind fun t288 => (handoffref10_one.j1 k x0 (wrap64 (x1 + 1)) x286000 x286001 (Int.tmod t288 5) x286003 x286005)) else (handoffref10_one.j1 k x0 x1 x286000 x286001 x286002 x286003 x286005)
def handoffref10_one.j1 : Nat → List Int → Int → Int → Int → Int → Int → Bool → Option (Int × Int × Int × Int × (List (S116)) × Bool × Int)
  | 0, _, _, _, _, _, _, _ => none
  | k + 1, x0, x1, x286000, x286001, x286002, x286003, x286005 => (handoffref10_HasV.f x286000).bind fun t289 => (if t289 = true then ((handoffref10_at.f x0 x1).bind fun t290 => (handoffref10_one.j2 k x0 (wrap64 (x1 + 1)) x286000 x286001 x286002 t290 x286005)) else (handoffref10_one.j2 k x0 x1 x286000 x286001 x286002 x286003 x286005))
def handoffref10_one.j2 : Nat → List Int → Int → Int → Int → Int → Int → Bool → Option (Int × Int × Int × Int × (List (S116)) × Bool × Int)
  | 0, _, _, _, _, _, _, _ => none
  | k + 1, x0, x1, x286000, x286001, x286002, x286003, x286005 => if x286000 = 9 then ((handoffref10_at.f x0 x1).bind fun t291 => ((handoffref10_at.f x0 (wrap64 (x1 + 1))).bind fun t292 => (handoffref10_one.l0 k x0 (wrap64 (x1 + 2)) (Int.tmod t291 7) 0 x286000 x286001 x286002 x286003 ([] : List (S116)) ((Int.tmod t292 2) == 1)))) else (some (x286000, x286001, x286002, x286003, ([] : List (S116)), x286005, x1))
def handoffref10_one.l0 : Nat → List Int → Int → Int → Int → Int → Int → Int → Int → List (S116) → Bool → Option (Int × Int × Int × Int × (List (S116)) × Bool × Int)
  | 0, _, _, _, _, _, _, _, _, _, _ => none
  | k + 1, x0, x1, x7, x8, x286000, x286001, x286002, x286003, x286004, x286005 => if x8 < x7 then ((handoffref10_at.f x0 x1).bind fun t293 => ((handoffref10_at.f x0 (wrap64 (x1 + 1))).bind fun t294 => (if (Int.tmod t293 2) = 1 then ((handoffref10_at.f x0 (wrap64 (x1 + 2))).bind fun t296 => (if x286004.length < 5864062014805 then (handoffref10_one.l0 k x0 (wrap64 ((wrap64 (x1 + 2)) + 1)) x7 (wrap64 (x8 + 1)) x286000 x286001 x286002 x286003 (x286004 ++ [(⟨((Int.tmod t293 2) == 1), Int.tmod t294 9, t296⟩ : S116)]) x286005) else (none))) else (if x286004.length < 5864062014805 then (handoffref10_one.l0 k x0 (wrap64 (x1 + 2)) x7 (wrap64 (x8 + 1)) x286000 x286001 x286002 x286003 (x286004 ++ [(⟨((Int.tmod t293 2) == 1), Int.tmod t294 9, 0⟩ : S116)]) x286005) else (none))))) else (some (x286000, x286001, x286002, x286003, x286004, x286005, x1))
end
def handoffref10_one.f (k : Nat) (l0 : List Int) (a1 : Int) : Option (Int × Int × Int × Int × (List (S116)) × Bool × Int) := (handoffref10_at.f l0 a1).bind fun t284 => ((handoffref10_HasCh.f (wrap64 ((Int.tmod t284 9) + 1))).bind fun t286 => (if t286 = true then ((handoffref10_at.f l0 (wrap64 (a1 + 1))).bind fun t287 => (handoffref10_one.j0 k l0 (wrap64 ((wrap64 (a1 + 1)) + 1)) (wrap64 ((Int.tmod t284 9) + 1)) (Int.tmod t287 9) 0 0 false)) else (handoffref10_one.j0 k l0 (wrap64 (a1 + 1)) (wrap64 ((Int.tmod t284 9) + 1)) 0 0 0 false)))
theorem handoffref10_one.mono_l : ∀ k, (∀ y0 y1 y2 y3 y4 y5 y6, LeO (handoffref10_one.j0 k y0 y1 y2 y3 y4 y5 y6) (handoffref10_one.j0 (k + 1) y0 y1 y2 y3 y4 y5 y6)) ∧ (∀ y0 y1 y2 y3 y4 y5 y6, LeO (handoffref10_one.j1 k y0 y1 y2 y3 y4 y5 y6) (handoffref10_one.j1 (k + 1) y0 y1 y2 y3 y4 y5 y6)) ∧ (∀ y0 y1 y2 y3 y4 y5 y6, LeO (handoffref10_one.j2 k y0 y1 y2 y3 y4 y5 y6) (handoffref10_one.j2 (k + 1) y0 y1 y2 y3 y4 y5 y6)) ∧ (∀ y0 y1 y2 y3 y4 y5 y6 y7 y8 y9, LeO (handoffref10_one.l0 k y0 y1 y2 y3 y4 y5 y6 y7 y8 y9) (handoffref10_one.l0 (k + 1) y0 y1 y2 y3 y4 y5 y6 y7 y8 y9))
 | 0 => ⟨fun _ _ _ _ _ _ _ r h => by simp [handoffref10_one.j0] at h, fun _ _ _ _ _ _ _ r h => by simp [handoffref10_one.j1] at h, fun _ _ _ _ _ _ _ r h => by simp [handoffref10_one.j2] at h, fun _ _ _ _ _ _ _ _ _ _ r h => by simp [handoffref10_one.l0] at h⟩
 | k + 1 => by
  obtain ⟨ih0, ih1, ih2, ih3⟩ := handoffref10_one.mono_l k
  refine ⟨?_, ?_, ?_, ?_⟩
  all_goals intros
  all_goals first | unfold handoffref10_one.j0 | unfold handoffref10_one.j1 | unfold handoffref10_one.j2 | unfold handoffref10_one.l0
  all_goals (repeat' first | with_reducible first | apply ih0 | apply ih1 | apply ih2 | apply ih3 | exact LeO.refl _ | exact LeO.none _ | refine LeO.ite ?_ ?_ | refine LeO.bind ?_ (fun _ => ?_) | apply ih0 | apply ih1 | apply ih2 | apply ih3 | exact LeO.none _ | refine LeO.ite ?_ ?_ | refine LeO.bind ?_ (fun _ => ?_))
theorem handoffref10_one.mono : ∀ a0 a1 k, LeO (handoffref10_one.f k a0 a1) (handoffref10_one.f (k + 1) a0 a1) := by
 intro a0 a1 k
 obtain ⟨ih0, ih1, ih2, ih3⟩ := handoffref10_one.mono_l k
 unfold handoffref10_one.f
 repeat' first | with_reducible first | apply ih0 | apply ih1 | apply ih2 | apply ih3 | exact LeO.refl _ | exact LeO.none _ | refine LeO.ite ?_ ?_ | refine LeO.bind ?_ (fun _ => ?_) | apply ih0 | apply ih1 | apply ih2 | apply ih3 | exact LeO.none _ | refine LeO.ite ?_ ?_ | refine LeO.bind ?_ (fun _ => ?_)
set_option maxHeartbeats 8000000 in
set_option maxRecDepth 100000 in
theorem handoffref10_one.calls (k : Nat) (A0 : Option Addr) (c0 : Nat) (l0 : List Int) (a1 : Int) (r1 : Int) (r2 : Int) (r3 : Int) (r4 : Int) (r5 : List (S116)) (r6 : Bool) (r7 : Int) (w : World) (hr0 : Kd.C (Kd.int .u8) w A0 l0.length l0) (hc0 : l0.length ≤ c0) (h : handoffref10_one.f k l0 a1 = some (r1, r2, r3, r4, r5, r6, r7)) :
  Calls Try.prog 73 #[.slice A0 l0.length c0, .int .i64 a1] w fun e w' => ∃ v4_ : Value, e = .returned (.tuple #[.agg #[.int .i64 r1, .int .i64 r2, .int .i64 r3, .int .i64 r4, v4_, .bool r6], .int .i64 r7]) ∧ Kd.R k116 116 w' w.heap.size (fun _ => True) v4_ r5 ∧ Below w.heap.size w w' := by
 have hu39 := Try.underlying39
 have hu116 := Try.underlying116
 have HR0 := Aside0.mk hr0
 have HC0 := Aside0.mk hc0
 clear hr0 hc0
 have HB := Aside0.mk (Below.refl w.heap.size w)
 have H : ((handoffref10_at.f l0 a1).bind fun t284 => ((handoffref10_HasCh.f (wrap64 ((Int.tmod t284 9) + 1))).bind fun t286 => (if t286 = true then ((handoffref10_at.f l0 (wrap64 (a1 + 1))).bind fun t287 => (handoffref10_one.j0 k l0 (wrap64 ((wrap64 (a1 + 1)) + 1)) (wrap64 ((Int.tmod t284 9) + 1)) (Int.tmod t287 9) 0 0 false)) else (handoffref10_one.j0 k l0 (wrap64 (a1 + 1)) (wrap64 ((Int.tmod t284 9) + 1)) 0 0 0 false)))) = some (r1, r2, r3, r4, r5, r6, r7) := h
 clear h
 replace H := Option.bind_eq_some_iff.mp H
 obtain ⟨t284, A30, H⟩ := H
 try dsimp only at H
 have A3 := Aside0.mk A30
 clear A30
 replace H := Option.bind_eq_some_iff.mp H
 obtain ⟨t286, A40, H⟩ := H
 try dsimp only at H
 have A4 := Aside0.mk A40
 clear A40
 have HC5 := Aside0.mk H
 clear H
 go_enter Try.func73, Try.ntmps73
 go_upto_if 20 with (first | ((with_reducible refine gate_dst (N := 4) rfl ?_); refine box_event ?hg (N := 4) ?hd (cs := #[.int .i64 0, .int .i64 0, .int .i64 0, .int .i64 0, .slice none 0 0, .bool false]) (t := 39) ?hr ?_; (case hd => rfl); (case hg => rfl); (case hr => first | (go_simp; done) | (go_simp; rfl)); intro gb283 hg w6 hbox hb; have n0_ := Aside0.mk (below_step (below_w HB.out) hb); have n1_ := Aside0.mk (hbox); have n2_ := Aside0.mk ((by rw [hg]; exact (below_size (below_w HB.out)) : w.heap.size ≤ gb283)); have n3_ := Aside0.mk ((by rw [hg]; exact (below_size (below_w HB.out)) : w.heap.size ≤ gb283)); clear HB; have HB := n0_; have BK283 := n1_; have GW283 := n2_; have GE283 := n3_; clear n0_ n1_ n2_ n3_; clear hb hbox hg) | ((with_reducible refine gate_callee (f := 72) rfl ?_); refine goesL_ (some 12) rfl rfl Try.func72 (by kernel_rfl) rfl #[.slice A0 l0.length c0, .int .i64 a1] rfl (by (try simp only [List.map_toArray, List.map_cons, List.map_nil]); first | done | rfl | simp) ?_; (with_reducible refine (handoffref10_at.calls _ _ l0 a1 t284 _ ?side1 ?side2 A3.out).mono ?_); (case side1 => exact Kd.C_w (Kd.C_below HR0.out HB.out)); (case side2 => exact HC0.out); rintro e w7 ⟨rfl, hb⟩; refine ⟨_, rfl, ?_⟩; have n0_ := Aside0.mk (blk_below (g := gb283) (o := .cells #[.int .i64 0, .int .i64 0, .int .i64 0, .int .i64 0, .slice none 0 0, .bool false] 39 (0, 0)) (by exact blk_w BK283.out) hb); have n1_ := Aside0.mk (below_step (by repeat (with_reducible first | exact HB.out | apply below_t | refine below_set ?_ GE283.out)) hb); clear BK283; clear HB; have BK283 := n0_; have HB := n1_; clear n0_ n1_; (try clear hb); (try clear hb2); (try clear hk); (try clear hi)) | ((with_reducible refine gate_dst (N := 6) rfl ?_); refine box_event ?hg (N := 6) ?hd (cs := #[.int .i64 0, .int .i64 0, .int .i64 0, .int .i64 0, .slice none 0 0, .bool false]) (t := 39) ?hr ?_; (case hd => rfl); (case hg => rfl); (case hr => first | (go_simp; done) | (go_simp; rfl)); intro gb285 hg w8 hbox hb; have n0_ := Aside0.mk (blk_below (g := gb283) (o := .cells #[.int .i64 0, .int .i64 0, .int .i64 0, .int .i64 0, .slice none 0 0, .bool false] 39 (0, 0)) (by exact blk_w BK283.out) hb); have n1_ := Aside0.mk (below_step (by repeat (with_reducible first | exact HB.out | apply below_t | refine below_set ?_ GE283.out)) hb); have n2_ := Aside0.mk (hbox); have n3_ := Aside0.mk ((by rw [hg]; exact (below_size (by repeat (with_reducible first | exact HB.out | apply below_t | refine below_set ?_ GE283.out))) : w.heap.size ≤ gb285)); have n4_ := Aside0.mk ((by rw [hg]; exact (below_size (by repeat (with_reducible first | exact HB.out | apply below_t | refine below_set ?_ GE283.out))) : w.heap.size ≤ gb285)); have n5_ := Aside0.mk ((by rw [hg]; exact Nat.ne_of_lt (blk_lt (g := gb283) (o := .cells #[.int .i64 0, .int .i64 0, .int .i64 0, .int .i64 0, .slice none 0 0, .bool false] 39 (0, 0)) (by exact blk_w BK283.out)) : gb283 ≠ gb285)); have n6_ := Aside0.mk ((by rw [hg]; exact Nat.ne_of_gt (blk_lt (g := gb283) (o := .cells #[.int .i64 0, .int .i64 0, .int .i64 0, .int .i64 0, .slice none 0 0, .bool false] 39 (0, 0)) (by exact blk_w BK283.out)) : gb285 ≠ gb283)); clear BK283; clear HB; have BK283 := n0_; have HB := n1_; have BK285 := n2_; have GW285 := n3_; have GE285 := n4_; have NB283_285 := n5_; have NB285_283 := n6_; clear n0_ n1_ n2_ n3_ n4_ n5_ n6_; clear hb hbox hg; have hnb9 := NB285_283.out; have hnc9 := NB283_285.out; have hcz10 := blk6 BK285.out) | ((with_reducible refine gate_callee (f := 65) rfl ?_); refine goesL_ (some 20) rfl rfl Try.func65 (by kernel_rfl) rfl #[.int .i64 (wrap64 ((Int.tmod t284 9) + 1))] rfl (by (try simp only [List.map_toArray, List.map_cons, List.map_nil]); first | done | rfl | simp) ?_; (with_reducible refine (handoffref10_HasCh.calls (wrap64 ((Int.tmod t284 9) + 1)) t286 _ A4.out).mono ?_); rintro e w' ⟨rfl, ⟨nd, rfl⟩⟩; refine ⟨_, rfl, ?_⟩))
 (try simp only [Act.put, List.setIfInBounds_toArray, List.set_cons_zero, List.set_cons_succ])
 go_cut [1] (fun v1 wc => ∃ (kq : Nat) (x1_4 : Int) (x286001_4 : Int), v1 = .int .i64 x1_4 ∧ Aside0 (handoffref10_one.j0 kq l0 x1_4 (wrap64 ((Int.tmod t284 9) + 1)) x286001_4 0 0 false = some (r1, r2, r3, r4, r5, r6, r7)) ∧ Aside0 (kq ≤ k) ∧ Aside0 (wc.heap[gb283]? = some (.cells #[.int .i64 0, .int .i64 0, .int .i64 0, .int .i64 0, (.slice none 0 0), .bool false] 39 (0, 0))) ∧ Aside0 (wc.heap[gb285]? = some (.cells #[.int .i64 (wrap64 ((Int.tmod t284 9) + 1)), .int .i64 x286001_4, .int .i64 0, .int .i64 0, (.slice none 0 0), .bool false] 39 (0, 0))) ∧ Aside0 (Below w.heap.size w wc))
 case first =>
  have H := HC5.out
  clear HC5
  by_cases c11 : t286 = true
  ·subst c11
   have H1 : ((handoffref10_at.f l0 (wrap64 (a1 + 1))).bind fun t287 => (handoffref10_one.j0 k l0 (wrap64 ((wrap64 (a1 + 1)) + 1)) (wrap64 ((Int.tmod t284 9) + 1)) (Int.tmod t287 9) 0 0 false)) = some (r1, r2, r3, r4, r5, r6, r7) := by rw [if_pos rfl] at H; exact H
   clear H
   have H := H1
   clear H1
   replace H := Option.bind_eq_some_iff.mp H
   obtain ⟨t287, A120, H⟩ := H
   try dsimp only at H
   have A12 := Aside0.mk A120
   clear A120
   have H' := Aside0.mk H
   clear H
   go_wp2_with (first | ((with_reducible refine gate_callee (f := 72) rfl ?_); refine goesL_ (some 23) rfl rfl Try.func72 (by kernel_rfl) rfl #[.slice A0 l0.length c0, .int .i64 (wrap64 (a1 + 1))] rfl (by (try simp only [List.map_toArray, List.map_cons, List.map_nil]); first | done | rfl | simp) ?_; (with_reducible refine (handoffref10_at.calls _ _ l0 (wrap64 (a1 + 1)) t287 _ ?side1 ?side2 A12.out).mono ?_); (case side1 => exact Kd.C_below HR0.out (by repeat (with_reducible first | exact HB.out | apply below_t | refine below_set ?_ GE283.out | refine below_set ?_ GE285.out))); (case side2 => exact HC0.out); rintro e w13 ⟨rfl, hb⟩; refine ⟨_, rfl, ?_⟩; have n0_ := Aside0.mk (blk_below (g := gb283) (o := .cells #[.int .i64 0, .int .i64 0, .int .i64 0, .int .i64 0, .slice none 0 0, .bool false] 39 (0, 0)) (by refine blk_w ?_; refine blk_far (blk_w ?_) NB283_285.out _; refine blk_far (blk_w ?_) NB283_285.out _; refine blk_far (blk_w ?_) NB283_285.out _; refine blk_far (blk_w ?_) NB283_285.out _; refine blk_far (blk_w ?_) NB283_285.out _; exact blk_far (blk_w BK283.out) NB283_285.out _) hb); have n1_ := Aside0.mk (blk_below (g := gb285) (o := .cells #[.int .i64 (wrap64 ((Int.tmod t284 9) + 1)), .int .i64 0, .int .i64 0, .int .i64 0, .slice none 0 0, .bool false] 39 (0, 0)) (by refine blk_w ?_; refine blk_put (cs := #[.int .i64 (wrap64 ((Int.tmod t284 9) + 1)), .int .i64 0, .int .i64 0, .int .i64 0, .slice none 0 0, .bool false]) ?_ 5 _ rfl; refine blk_w ?_; refine blk_put (cs := #[.int .i64 (wrap64 ((Int.tmod t284 9) + 1)), .int .i64 0, .int .i64 0, .int .i64 0, .slice none 0 0, .bool false]) ?_ 4 _ rfl; refine blk_w ?_; refine blk_put (cs := #[.int .i64 (wrap64 ((Int.tmod t284 9) + 1)), .int .i64 0, .int .i64 0, .int .i64 0, .slice none 0 0, .bool false]) ?_ 3 _ rfl; refine blk_w ?_; refine blk_put (cs := #[.int .i64 (wrap64 ((Int.tmod t284 9) + 1)), .int .i64 0, .int .i64 0, .int .i64 0, .slice none 0 0, .bool false]) ?_ 2 _ rfl; refine blk_w ?_; refine blk_put (cs := #[.int .i64 (wrap64 ((Int.tmod t284 9) + 1)), .int .i64 0, .int .i64 0, .int .i64 0, .slice none 0 0, .bool false]) ?_ 1 _ rfl; refine blk_w ?_; refine blk_put (cs := #[.int .i64 0, .int .i64 0, .int .i64 0, .int .i64 0, .slice none 0 0, .bool false]) ?_ 0 _ rfl; exact blk_w BK285.out) hb); have n2_ := Aside0.mk (below_step (by repeat (with_reducible first | exact HB.out | apply below_t | refine below_set ?_ GE283.out | refine below_set ?_ GE285.out)) hb); clear BK283; clear BK285; clear HB; have BK283 := n0_; have BK285 := n1_; have HB := n2_; clear n0_ n1_ n2_; (try clear hb); (try clear hb2); (try clear hk); (try clear hi); have hnb14 := NB285_283.out; have hnc14 := NB283_285.out; have hcz15 := blk6 BK285.out))
   go_meet
   case rel => exact ⟨_, (wrap64 ((wrap64 (a1 + 1)) + 1)), (Int.tmod t287 9), (by first | rfl | (simp; done) | (simp [*]; done)), H', ⟨by first | omega | exact Nat.le_refl _⟩, ⟨by refine blk_w ?_; exact blk_far (blk_w BK283.out) NB283_285.out _⟩, ⟨by refine blk_w ?_; refine blk_put (cs := #[.int .i64 (wrap64 ((Int.tmod t284 9) + 1)), .int .i64 0, .int .i64 0, .int .i64 0, .slice none 0 0, .bool false]) ?_ 1 _ rfl; exact blk_w BK285.out⟩, ⟨by repeat (with_reducible first | exact HB.out | apply below_t | refine below_set ?_ GE283.out | refine below_set ?_ GE285.out)⟩⟩
  ·replace c11 := Bool.eq_false_iff.mpr c11
   subst c11
   have H1 : (handoffref10_one.j0 k l0 (wrap64 (a1 + 1)) (wrap64 ((Int.tmod t284 9) + 1)) 0 0 0 false) = some (r1, r2, r3, r4, r5, r6, r7) := by rw [if_neg (show ¬ (false = true) by decide)] at H; exact H
   clear H
   have H := H1
   clear H1
   have H' := Aside0.mk H
   clear H
   go_wp2
   go_meet
   case rel => exact ⟨_, (wrap64 (a1 + 1)), (0), (by first | rfl | (simp; done) | (simp [*]; done)), H', ⟨by first | omega | exact Nat.le_refl _⟩, ⟨by refine blk_w ?_; refine blk_far (blk_w ?_) NB283_285.out _; refine blk_far (blk_w ?_) NB283_285.out _; refine blk_far (blk_w ?_) NB283_285.out _; refine blk_far (blk_w ?_) NB283_285.out _; refine blk_far (blk_w ?_) NB283_285.out _; exact blk_far (blk_w BK283.out) NB283_285.out _⟩, ⟨by refine blk_w ?_; refine blk_put (cs := #[.int .i64 (wrap64 ((Int.tmod t284 9) + 1)), .int .i64 0, .int .i64 0, .int .i64 0, .slice none 0 0, .bool false]) ?_ 5 _ rfl; refine blk_w ?_; refine blk_put (cs := #[.int .i64 (wrap64 ((Int.tmod t284 9) + 1)), .int .i64 0, .int .i64 0, .int .i64 0, .slice none 0 0, .bool false]) ?_ 4 _ rfl; refine blk_w ?_; refine blk_put (cs := #[.int .i64 (wrap64 ((Int.tmod t284 9) + 1)), .int .i64 0, .int .i64 0, .int .i64 0, .slice none 0 0, .bool false]) ?_ 3 _ rfl; refine blk_w ?_; refine blk_put (cs := #[.int .i64 (wrap64 ((Int.tmod t284 9) + 1)), .int .i64 0, .int .i64 0, .int .i64 0, .slice none 0 0, .bool false]) ?_ 2 _ rfl; refine blk_w ?_; refine blk_put (cs := #[.int .i64 (wrap64 ((Int.tmod t284 9) + 1)), .int .i64 0, .int .i64 0, .int .i64 0, .slice none 0 0, .bool false]) ?_ 1 _ rfl; refine blk_w ?_; refine blk_put (cs := #[.int .i64 0, .int .i64 0, .int .i64 0, .int .i64 0, .slice none 0 0, .bool false]) ?_ 0 _ rfl; exact blk_w BK285.out⟩, ⟨by repeat (with_reducible first | exact HB.out | apply below_t | refine below_set ?_ GE283.out | refine below_set ?_ GE285.out)⟩⟩
 case rest =>
  clear HC5
  (try clear hcz10); (try clear hcz10)
  obtain ⟨kq, x1_4, x286001_4, rfl, HA, HJ4, BK283, BK285, HB⟩ := hcut
  cases kq with
  | zero => exact absurd HA.out (by simp [handoffref10_one.j0])
  | succ kj4 =>
   have H := HA.out
   clear HA
   simp only [handoffref10_one.j0] at H
   have HC16 := Aside0.mk H
   clear H
   have hnb17 := NB285_283.out
   have hnc17 := NB283_285.out
   have hcz18 := blk6 BK285.out
   go_upto_if 30 with (fail)
   go_cut [1] (fun v1 wc => ∃ (kq : Nat) (x1_15 : Int) (x286002_15 : Int), v1 = .int .i64 x1_15 ∧ Aside0 (handoffref10_one.j1 kq l0 x1_15 (wrap64 ((Int.tmod t284 9) + 1)) x286001_4 x286002_15 0 false = some (r1, r2, r3, r4, r5, r6, r7)) ∧ Aside0 (kq ≤ kj4) ∧ Aside0 (wc.heap[gb283]? = some (.cells #[.int .i64 0, .int .i64 0, .int .i64 0, .int .i64 0, (.slice none 0 0), .bool false] 39 (0, 0))) ∧ Aside0 (wc.heap[gb285]? = some (.cells #[.int .i64 (wrap64 ((Int.tmod t284 9) + 1)), .int .i64 x286001_4, .int .i64 x286002_15, .int .i64 0, (.slice none 0 0), .bool false] 39 (0, 0))) ∧ Aside0 (Below w.heap.size w wc))
   case first =>
    have H := HC16.out
    clear HC16
    by_cases c19 : (wrap64 ((Int.tmod t284 9) + 1)) = 1
    ·rw [if_pos c19] at H
     have c19b0 : ((wrap64 ((Int.tmod t284 9) + 1)) == 1) = true := beq_iff_eq.mpr c19
     have c19b1 : ((wrap64 ((Int.tmod t284 9) + 1)) != 1) = false := bne_eq_false_iff_eq.mpr c19
     clear c19
     (first | rw [c19b0] | (simp only [i64_w, i32_w]; rw [c19b0]) | skip)
     replace H := Option.bind_eq_some_iff.mp H
     obtain ⟨t288, A200, H⟩ := H
     try dsimp only at H
     have A20 := Aside0.mk A200
     clear A200
     have H' := Aside0.mk H
     clear H
     go_wp2_with (first | ((with_reducible refine gate_callee (f := 72) rfl ?_); refine goesL_ (some 33) rfl rfl Try.func72 (by kernel_rfl) rfl #[.slice A0 l0.length c0, .int .i64 x1_4] rfl (by (try simp only [List.map_toArray, List.map_cons, List.map_nil]); first | done | rfl | simp) ?_; (with_reducible refine (handoffref10_at.calls _ _ l0 x1_4 t288 _ ?side1 ?side2 A20.out).mono ?_); (case side1 => exact Kd.C_w (Kd.C_below HR0.out HB.out)); (case side2 => exact HC0.out); rintro e w21 ⟨rfl, hb⟩; refine ⟨_, rfl, ?_⟩; have n0_ := Aside0.mk (blk_below (g := gb283) (o := .cells #[.int .i64 0, .int .i64 0, .int .i64 0, .int .i64 0, .slice none 0 0, .bool false] 39 (0, 0)) (by exact blk_w BK283.out) hb); have n1_ := Aside0.mk (blk_below (g := gb285) (o := .cells #[.int .i64 (wrap64 ((Int.tmod t284 9) + 1)), .int .i64 x286001_4, .int .i64 0, .int .i64 0, .slice none 0 0, .bool false] 39 (0, 0)) (by exact blk_w BK285.out) hb); have n2_ := Aside0.mk (below_step (by repeat (with_reducible first | exact HB.out | apply below_t | refine below_set ?_ GE283.out | refine below_set ?_ GE285.out)) hb); clear BK283; clear BK285; clear HB; have BK283 := n0_; have BK285 := n1_; have HB := n2_; clear n0_ n1_ n2_; (try clear hb); (try clear hb2); (try clear hk); (try clear hi); have hnb22 := NB285_283.out; have hnc22 := NB283_285.out; have hcz23 := blk6 BK285.out))
     go_meet
     case rel => exact ⟨_, (wrap64 (x1_4 + 1)), (Int.tmod t288 5), (by first | rfl | (simp; done) | (simp [*]; done)), H', ⟨by have := HJ4.out; first | omega | exact Nat.le_refl _⟩, ⟨by refine blk_w ?_; exact blk_far (blk_w BK283.out) NB283_285.out _⟩, ⟨by refine blk_w ?_; refine blk_put (cs := #[.int .i64 (wrap64 ((Int.tmod t284 9) + 1)), .int .i64 x286001_4, .int .i64 0, .int .i64 0, .slice none 0 0, .bool false]) ?_ 2 _ rfl; exact blk_w BK285.out⟩, ⟨by repeat (with_reducible first | exact HB.out | apply below_t | refine below_set ?_ GE283.out | refine below_set ?_ GE285.out)⟩⟩
    ·rw [if_neg c19] at H
     have c19b0 : ((wrap64 ((Int.tmod t284 9) + 1)) == 1) = false := beq_eq_false_iff_ne.mpr c19
     have c19b1 : ((wrap64 ((Int.tmod t284 9) + 1)) != 1) = true := bne_iff_ne.mpr c19
     (first | rw [c19b0] | (simp only [i64_w, i32_w]; rw [c19b0]) | skip)
     have H' := Aside0.mk H
     clear H
     go_wp2
     go_meet
     case rel => exact ⟨_, (x1_4), (0), (by first | rfl | (simp; done) | (simp [*]; done)), H', ⟨by have := HJ4.out; first | omega | exact Nat.le_refl _⟩, ⟨by exact blk_w BK283.out⟩, ⟨by exact blk_w BK285.out⟩, ⟨by repeat (with_reducible first | exact HB.out | apply below_t | refine below_set ?_ GE283.out | refine below_set ?_ GE285.out)⟩⟩
   case rest =>
    clear HC16
    (try clear hcz10); (try clear hcz18); (try clear hcz10); (try clear hcz18)
    obtain ⟨kq, x1_15, x286002_15, rfl, HA, HJ15, BK283, BK285, HB⟩ := hcut
    cases kq with
    | zero => exact absurd HA.out (by simp [handoffref10_one.j1])
    | succ kj15 =>
     have H := HA.out
     clear HA
     simp only [handoffref10_one.j1] at H
     replace H := Option.bind_eq_some_iff.mp H
     obtain ⟨t289, A240, H⟩ := H
     try dsimp only at H
     have A24 := Aside0.mk A240
     clear A240
     have HC25 := Aside0.mk H
     clear H
     have hnb26 := NB285_283.out
     have hnc26 := NB283_285.out
     have hcz27 := blk6 BK285.out
     go_upto_if 40 with (first | ((with_reducible refine gate_callee (f := 66) rfl ?_); refine goesL_ (some 40) rfl rfl Try.func66 (by kernel_rfl) rfl #[.int .i64 (wrap64 ((Int.tmod t284 9) + 1))] rfl (by (try simp only [List.map_toArray, List.map_cons, List.map_nil]); first | done | rfl | simp) ?_; (with_reducible refine (handoffref10_HasV.calls (wrap64 ((Int.tmod t284 9) + 1)) t289 _ A24.out).mono ?_); rintro e w' ⟨rfl, ⟨nd, rfl⟩⟩; refine ⟨_, rfl, ?_⟩))
     (try simp only [Act.put, List.setIfInBounds_toArray, List.set_cons_zero, List.set_cons_succ])
     go_cut [1] (fun v1 wc => ∃ (kq : Nat) (x1_24 : Int) (x286003_24 : Int), v1 = .int .i64 x1_24 ∧ Aside0 (handoffref10_one.j2 kq l0 x1_24 (wrap64 ((Int.tmod t284 9) + 1)) x286001_4 x286002_15 x286003_24 false = some (r1, r2, r3, r4, r5, r6, r7)) ∧ Aside0 (kq ≤ kj15) ∧ Aside0 (wc.heap[gb283]? = some (.cells #[.int .i64 0, .int .i64 0, .int .i64 0, .int .i64 0, (.slice none 0 0), .bool false] 39 (0, 0))) ∧ Aside0 (wc.heap[gb285]? = some (.cells #[.int .i64 (wrap64 ((Int.tmod t284 9) + 1)), .int .i64 x286001_4, .int .i64 x286002_15, .int .i64 x286003_24, (.slice none 0 0), .bool false] 39 (0, 0))) ∧ Aside0 (Below w.heap.size w wc))
     case first =>
      have H := HC25.out
      clear HC25
      by_cases c28 : t289 = true
      ·subst c28
       have H1 : ((handoffref10_at.f l0 x1_15).bind fun t290 => (handoffref10_one.j2 kj15 l0 (wrap64 (x1_15 + 1)) (wrap64 ((Int.tmod t284 9) + 1)) x286001_4 x286002_15 t290 false)) = some (r1, r2, r3, r4, r5, r6, r7) := by rw [if_pos rfl] at H; exact H
       clear H
       have H := H1
       clear H1
       replace H := Option.bind_eq_some_iff.mp H
       obtain ⟨t290, A290, H⟩ := H
       try dsimp only at H
       have A29 := Aside0.mk A290
       clear A290
       have H' := Aside0.mk H
       clear H
       go_wp2_with (first | ((with_reducible refine gate_callee (f := 72) rfl ?_); refine goesL_ (some 43) rfl rfl Try.func72 (by kernel_rfl) rfl #[.slice A0 l0.length c0, .int .i64 x1_15] rfl (by (try simp only [List.map_toArray, List.map_cons, List.map_nil]); first | done | rfl | simp) ?_; (with_reducible refine (handoffref10_at.calls _ _ l0 x1_15 t290 _ ?side1 ?side2 A29.out).mono ?_); (case side1 => exact Kd.C_w (Kd.C_below HR0.out HB.out)); (case side2 => exact HC0.out); rintro e w30 ⟨rfl, hb⟩; refine ⟨_, rfl, ?_⟩; have n0_ := Aside0.mk (blk_below (g := gb283) (o := .cells #[.int .i64 0, .int .i64 0, .int .i64 0, .int .i64 0, .slice none 0 0, .bool false] 39 (0, 0)) (by exact blk_w BK283.out) hb); have n1_ := Aside0.mk (blk_below (g := gb285) (o := .cells #[.int .i64 (wrap64 ((Int.tmod t284 9) + 1)), .int .i64 x286001_4, .int .i64 x286002_15, .int .i64 0, .slice none 0 0, .bool false] 39 (0, 0)) (by exact blk_w BK285.out) hb); have n2_ := Aside0.mk (below_step (by repeat (with_reducible first | exact HB.out | apply below_t | refine below_set ?_ GE283.out | refine below_set ?_ GE285.out)) hb); clear BK283; clear BK285; clear HB; have BK283 := n0_; have BK285 := n1_; have HB := n2_; clear n0_ n1_ n2_; (try clear hb); (try clear hb2); (try clear hk); (try clear hi); have hnb31 := NB285_283.out; have hnc31 := NB283_285.out; have hcz32 := blk6 BK285.out))
       go_meet
       case rel => exact ⟨_, (wrap64 (x1_15 + 1)), (t290), (by first | rfl | (simp; done) | (simp [*]; done)), H', ⟨by have := HJ4.out; have := HJ15.out; first | omega | exact Nat.le_refl _⟩, ⟨by refine blk_w ?_; exact blk_far (blk_w BK283.out) NB283_285.out _⟩, ⟨by refine blk_w ?_; refine blk_put (cs := #[.int .i64 (wrap64 ((Int.tmod t284 9) + 1)), .int .i64 x286001_4, .int .i64 x286002_15, .int .i64 0, .slice none 0 0, .bool false]) ?_ 3 _ rfl; exact blk_w BK285.out⟩, ⟨by repeat (with_reducible first | exact HB.out | apply below_t | refine below_set ?_ GE283.out | refine below_set ?_ GE285.out)⟩⟩
      ·replace c28 := Bool.eq_false_iff.mpr c28
       subst c28
       have H1 : (handoffref10_one.j2 kj15 l0 x1_15 (wrap64 ((Int.tmod t284 9) + 1)) x286001_4 x286002_15 0 false) = some (r1, r2, r3, r4, r5, r6, r7) := by rw [if_neg (show ¬ (false = true) by decide)] at H; exact H
       clear H
       have H := H1
       clear H1
       have H' := Aside0.mk H
       clear H
       go_wp2
       go_meet
       case rel => exact ⟨_, (x1_15), (0), (by first | rfl | (simp; done) | (simp [*]; done)), H', ⟨by have := HJ4.out; have := HJ15.out; first | omega | exact Nat.le_refl _⟩, ⟨by exact blk_w BK283.out⟩, ⟨by exact blk_w BK285.out⟩, ⟨by repeat (with_reducible first | exact HB.out | apply below_t | refine below_set ?_ GE283.out | refine below_set ?_ GE285.out)⟩⟩
     case rest =>
      clear HC25
      (try clear hcz10); (try clear hcz18); (try clear hcz27); (try clear hcz10); (try clear hcz18); (try clear hcz27)
      obtain ⟨kq, x1_24, x286003_24, rfl, HA, HJ24, BK283, BK285, HB⟩ := hcut
      cases kq with
      | zero => exact absurd HA.out (by simp [handoffref10_one.j2])
      | succ kj24 =>
       have H := HA.out
       clear HA
       simp only [handoffref10_one.j2] at H
       by_cases c33 : (wrap64 ((Int.tmod t284 9) + 1)) = 9
       ·rw [if_pos c33] at H
        have c33b0 : ((wrap64 ((Int.tmod t284 9) + 1)) == 9) = true := beq_iff_eq.mpr c33
        have c33b1 : ((wrap64 ((Int.tmod t284 9) + 1)) != 9) = false := bne_eq_false_iff_eq.mpr c33
        clear c33
        replace H := Option.bind_eq_some_iff.mp H
        obtain ⟨t291, A340, H⟩ := H
        try dsimp only at H
        have A34 := Aside0.mk A340
        clear A340
        replace H := Option.bind_eq_some_iff.mp H
        obtain ⟨t292, A350, H⟩ := H
        try dsimp only at H
        have A35 := Aside0.mk A350
        clear A350
        have H' := Aside0.mk H
        clear H
        have hnb36 := NB285_283.out
        have hnc36 := NB283_285.out
        have hcz37 := blk6 BK285.out
        go_wp2_with (first | ((with_reducible refine gate_callee (f := 72) rfl ?_); refine goesL_ (some 54) rfl rfl Try.func72 (by kernel_rfl) rfl #[.slice A0 l0.length c0, .int .i64 x1_24] rfl (by (try simp only [List.map_toArray, List.map_cons, List.map_nil]); first | done | rfl | simp) ?_; (with_reducible refine (handoffref10_at.calls _ _ l0 x1_24 t291 _ ?side1 ?side2 A34.out).mono ?_); (case side1 => exact Kd.C_w (Kd.C_below HR0.out HB.out)); (case side2 => exact HC0.out); rintro e w38 ⟨rfl, hb⟩; refine ⟨_, rfl, ?_⟩; have n0_ := Aside0.mk (blk_below (g := gb283) (o := .cells #[.int .i64 0, .int .i64 0, .int .i64 0, .int .i64 0, .slice none 0 0, .bool false] 39 (0, 0)) (by exact blk_w BK283.out) hb); have n1_ := Aside0.mk (blk_below (g := gb285) (o := .cells #[.int .i64 (wrap64 ((Int.tmod t284 9) + 1)), .int .i64 x286001_4, .int .i64 x286002_15, .int .i64 x286003_24, .slice none 0 0, .bool false] 39 (0, 0)) (by exact blk_w BK285.out) hb); have n2_ := Aside0.mk (below_step (by repeat (with_reducible first | exact HB.out | apply below_t | refine below_set ?_ GE283.out | refine below_set ?_ GE285.out)) hb); clear BK283; clear BK285; clear HB; have BK283 := n0_; have BK285 := n1_; have HB := n2_; clear n0_ n1_ n2_; (try clear hb); (try clear hb2); (try clear hk); (try clear hi)) | ((with_reducible refine gate_callee (f := 72) rfl ?_); refine goesL_ (some 59) rfl rfl Try.func72 (by kernel_rfl) rfl #[.slice A0 l0.length c0, .int .i64 (wrap64 (x1_24 + 1))] rfl (by (try simp only [List.map_toArray, List.map_cons, List.map_nil]); first | done | rfl | simp) ?_; (with_reducible refine (handoffref10_at.calls _ _ l0 (wrap64 (x1_24 + 1)) t292 _ ?side1 ?side2 A35.out).mono ?_); (case side1 => exact Kd.C_w (Kd.C_below HR0.out HB.out)); (case side2 => exact HC0.out); rintro e w39 ⟨rfl, hb⟩; refine ⟨_, rfl, ?_⟩; have n0_ := Aside0.mk (blk_below (g := gb283) (o := .cells #[.int .i64 0, .int .i64 0, .int .i64 0, .int .i64 0, .slice none 0 0, .bool false] 39 (0, 0)) (by exact blk_w BK283.out) hb); have n1_ := Aside0.mk (blk_below (g := gb285) (o := .cells #[.int .i64 (wrap64 ((Int.tmod t284 9) + 1)), .int .i64 x286001_4, .int .i64 x286002_15, .int .i64 x286003_24, .slice none 0 0, .bool false] 39 (0, 0)) (by exact blk_w BK285.out) hb); have n2_ := Aside0.mk (below_step (by repeat (with_reducible first | exact HB.out | apply below_t | refine below_set ?_ GE283.out | refine below_set ?_ GE285.out)) hb); clear BK283; clear BK285; clear HB; have BK283 := n0_; have BK285 := n1_; have HB := n2_; clear n0_ n1_ n2_; (try clear hb); (try clear hb2); (try clear hk); (try clear hi); have hcz40 := blk6 BK285.out))
        go_loopg [1, 8] kj24 (fun kq v1 v8 w' => ∃ (x1_4 : Int) (x8_4 : Int) (x286004_4 : List (S116)) (u286004 : Value), v1 = .int .i64 x1_4 ∧ v8 = .int .i64 x8_4 ∧ Aside0 (handoffref10_one.l0 kq l0 x1_4 (Int.tmod t291 7) x8_4 (wrap64 ((Int.tmod t284 9) + 1)) x286001_4 x286002_15 x286003_24 x286004_4 ((Int.tmod t292 2) == 1) = some (r1, r2, r3, r4, r5, r6, r7)) ∧ Aside0 (kq ≤ kj24) ∧ Aside0 (Kd.R k116 116 w' w.heap.size (fun _ => True) u286004 x286004_4) ∧ Aside0 (w'.heap[gb283]? = some (.cells #[.int .i64 0, .int .i64 0, .int .i64 0, .int .i64 0, (.slice none 0 0), .bool false] 39 (0, 0))) ∧ Aside0 (w'.heap[gb285]? = some (.cells #[.int .i64 (wrap64 ((Int.tmod t284 9) + 1)), .int .i64 x286001_4, .int .i64 x286002_15, .int .i64 x286003_24, u286004, .bool ((Int.tmod t292 2) == 1)] 39 (0, 0))) ∧ Aside0 (Below w.heap.size w w'))
        case atStart => exact ⟨(wrap64 (x1_24 + 2)), (0), (([] : List (S116))), (.slice none 0 0), (by first | rfl | (simp; done) | (simp [*]; done)), (by first | rfl | (simp; done) | (simp [*]; done)), H', ⟨Nat.le_refl _⟩, ⟨by first | exact Kd.R_nil _ _ _ _ _ | exact Kd.N_nil _ _ _ _ _ | exact Kd.V_nil _ _ _ _ _ | exact Kd.Q_nil _ _ _ _ _ | exact Kd.S_nil _ _ _ _ _⟩, ⟨by refine blk_w ?_; exact blk_far (blk_w BK283.out) NB283_285.out _⟩, ⟨by refine blk_w ?_; refine blk_put (cs := #[.int .i64 (wrap64 ((Int.tmod t284 9) + 1)), .int .i64 x286001_4, .int .i64 x286002_15, .int .i64 x286003_24, .slice none 0 0, .bool false]) ?_ 5 _ rfl; exact blk_w BK285.out⟩, ⟨by repeat (with_reducible first | exact HB.out | apply below_t | refine below_set ?_ GE283.out | refine below_set ?_ GE285.out)⟩⟩
        case round =>
         clear H'
         (try clear c33b0); (try clear c33b1); (try clear hcz10); (try clear hcz18); (try clear hcz27); (try clear hcz37); (try clear hcz40); (try clear hcz10); (try clear hcz18); (try clear hcz27); (try clear hcz37); (try clear hcz40)
         obtain ⟨x1_4, x8_4, x286004_4, u286004, rfl, rfl, HA, HK4, HO_286004, BK283, BK285, HB⟩ := hrel
         cases gk with
         | zero => exact absurd HA.out (by simp [handoffref10_one.l0])
         | succ k4 =>
          have H := HA.out
          clear HA
          simp only [handoffref10_one.l0] at H
          by_cases c41 : x8_4 < (Int.tmod t291 7)
          ·rw [if_pos c41] at H
           have c41b0 : decide (x8_4 < (Int.tmod t291 7)) = true := decide_eq_true c41
           clear c41
           replace H := Option.bind_eq_some_iff.mp H
           obtain ⟨t293, A420, H⟩ := H
           try dsimp only at H
           have A42 := Aside0.mk A420
           clear A420
           replace H := Option.bind_eq_some_iff.mp H
           obtain ⟨t294, A430, H⟩ := H
           try dsimp only at H
           have A43 := Aside0.mk A430
           clear A430
           by_cases c44 : (Int.tmod t293 2) = 1
           ·rw [if_pos c44] at H
            have c44b0 : ((Int.tmod t293 2) == 1) = true := beq_iff_eq.mpr c44
            try rw [c44b0] at H
            have c44b1 : ((Int.tmod t293 2) != 1) = false := bne_eq_false_iff_eq.mpr c44
            clear c44
            replace H := Option.bind_eq_some_iff.mp H
            obtain ⟨t296, A450, H⟩ := H
            try dsimp only at H
            have A45 := Aside0.mk A450
            clear A450
            by_cases c46 : x286004_4.length < 5864062014805
            ·rw [if_pos c46] at H
             have LMc46 := Aside0.mk c46
             clear c46
             obtain ⟨y297, hy297⟩ : ∃ y_ : List (S116), y_ = (x286004_4 ++ [(⟨true, Int.tmod t294 9, t296⟩ : S116)]) := ⟨_, rfl⟩
             replace H : (handoffref10_one.l0 k4 l0 (wrap64 ((wrap64 (x1_4 + 2)) + 1)) (Int.tmod t291 7) (wrap64 (x8_4 + 1)) (wrap64 ((Int.tmod t284 9) + 1)) x286001_4 x286002_15 x286003_24 y297 ((Int.tmod t292 2) == 1)) = some (r1, r2, r3, r4, r5, r6, r7) := by first | (rw [hy297]; with_reducible exact H) | (have H2_ := (Option.bind_some _ _).symm.trans H; rw [hy297]; with_reducible exact H2_) | (have H2_ := (Option.bind_some _ _).symm.trans H; with_reducible exact H2_) | with_reducible exact H | (rw [hy297]; exact H) | exact H
             have Ny297 := Aside0.mk hy297
             clear hy297
             have H' := Aside0.mk H
             clear H
             go_wp2_with (first | ((with_reducible refine gate_callee (f := 72) rfl ?_); refine goesL_ (some 72) rfl rfl Try.func72 (by kernel_rfl) rfl #[.slice A0 l0.length c0, .int .i64 x1_4] rfl (by (try simp only [List.map_toArray, List.map_cons, List.map_nil]); first | done | rfl | simp) ?_; (with_reducible refine (handoffref10_at.calls _ _ l0 x1_4 t293 _ ?side1 ?side2 A42.out).mono ?_); (case side1 => exact Kd.C_w (Kd.C_below HR0.out HB.out)); (case side2 => exact HC0.out); rintro e w47 ⟨rfl, hb⟩; refine ⟨_, rfl, ?_⟩; have n0_ := Aside0.mk (Kd.R_below (by exact Kd.R_w HO_286004.out) hb); have n1_ := Aside0.mk (blk_below (g := gb283) (o := .cells #[.int .i64 0, .int .i64 0, .int .i64 0, .int .i64 0, .slice none 0 0, .bool false] 39 (0, 0)) (by exact blk_w BK283.out) hb); have n2_ := Aside0.mk (blk_below (g := gb285) (o := .cells #[.int .i64 (wrap64 ((Int.tmod t284 9) + 1)), .int .i64 x286001_4, .int .i64 x286002_15, .int .i64 x286003_24, u286004, .bool ((Int.tmod t292 2) == 1)] 39 (0, 0)) (by exact blk_w BK285.out) hb); have n3_ := Aside0.mk (below_step (by repeat (with_reducible first | exact HB.out | apply below_t | refine below_set ?_ GE283.out | refine below_set ?_ GE285.out)) hb); clear HO_286004; clear BK283; clear BK285; clear HB; have HO_286004 := n0_; have BK283 := n1_; have BK285 := n2_; have HB := n3_; clear n0_ n1_ n2_ n3_; (try clear hb); (try clear hb2); (try clear hk); (try clear hi)) | ((with_reducible refine gate_callee (f := 72) rfl ?_); refine goesL_ (some 78) rfl rfl Try.func72 (by kernel_rfl) rfl #[.slice A0 l0.length c0, .int .i64 (wrap64 (x1_4 + 1))] rfl (by (try simp only [List.map_toArray, List.map_cons, List.map_nil]); first | done | rfl | simp) ?_; (with_reducible refine (handoffref10_at.calls _ _ l0 (wrap64 (x1_4 + 1)) t294 _ ?side1 ?side2 A43.out).mono ?_); (case side1 => exact Kd.C_w (Kd.C_below HR0.out HB.out)); (case side2 => exact HC0.out); rintro e w48 ⟨rfl, hb⟩; refine ⟨_, rfl, ?_⟩; have n0_ := Aside0.mk (Kd.R_below (by exact Kd.R_w HO_286004.out) hb); have n1_ := Aside0.mk (blk_below (g := gb283) (o := .cells #[.int .i64 0, .int .i64 0, .int .i64 0, .int .i64 0, .slice none 0 0, .bool false] 39 (0, 0)) (by exact blk_w BK283.out) hb); have n2_ := Aside0.mk (blk_below (g := gb285) (o := .cells #[.int .i64 (wrap64 ((Int.tmod t284 9) + 1)), .int .i64 x286001_4, .int .i64 x286002_15, .int .i64 x286003_24, u286004, .bool ((Int.tmod t292 2) == 1)] 39 (0, 0)) (by exact blk_w BK285.out) hb); have n3_ := Aside0.mk (below_step (by repeat (with_reducible first | exact HB.out | apply below_t | refine below_set ?_ GE283.out | refine below_set ?_ GE285.out)) hb); clear HO_286004; clear BK283; clear BK285; clear HB; have HO_286004 := n0_; have BK283 := n1_; have BK285 := n2_; have HB := n3_; clear n0_ n1_ n2_ n3_; (try clear hb); (try clear hb2); (try clear hk); (try clear hi)) | ((with_reducible refine gate_dst (N := 9) rfl ?_); refine box_event ?hg (N := 9) ?hd (cs := #[.bool false, .int .i64 0, .int .i64 0]) (t := 116) ?hr ?_; (case hd => rfl); (case hg => rfl); (case hr => first | (go_simp; done) | (go_simp; rfl)); intro gb295 hg w49 hbox hb; have n0_ := Aside0.mk (Kd.R_below (Kd.R_elderB (by exact Kd.R_w HO_286004.out) gb295 (Nat.le_of_eq hg.symm)) hb); have n1_ := Aside0.mk (blk_below (g := gb283) (o := .cells #[.int .i64 0, .int .i64 0, .int .i64 0, .int .i64 0, .slice none 0 0, .bool false] 39 (0, 0)) (by exact blk_w BK283.out) hb); have n2_ := Aside0.mk (blk_below (g := gb285) (o := .cells #[.int .i64 (wrap64 ((Int.tmod t284 9) + 1)), .int .i64 x286001_4, .int .i64 x286002_15, .int .i64 x286003_24, u286004, .bool ((Int.tmod t292 2) == 1)] 39 (0, 0)) (by exact blk_w BK285.out) hb); have n3_ := Aside0.mk (below_step (by repeat (with_reducible first | exact HB.out | apply below_t | refine below_set ?_ GE283.out | refine below_set ?_ GE285.out)) hb); have n4_ := Aside0.mk (hbox); have n5_ := Aside0.mk ((by rw [hg]; exact (below_size (by repeat (with_reducible first | exact HB.out | apply below_t | refine below_set ?_ GE283.out | refine below_set ?_ GE285.out))) : w.heap.size ≤ gb295)); have n6_ := Aside0.mk ((by rw [hg]; exact (below_size (by repeat (with_reducible first | exact HB.out | apply below_t | refine below_set ?_ GE283.out | refine below_set ?_ GE285.out))) : w.heap.size ≤ gb295)); have n7_ := Aside0.mk ((by rw [hg]; exact Nat.ne_of_lt (blk_lt (g := gb283) (o := .cells #[.int .i64 0, .int .i64 0, .int .i64 0, .int .i64 0, .slice none 0 0, .bool false] 39 (0, 0)) (by exact blk_w BK283.out)) : gb283 ≠ gb295)); have n8_ := Aside0.mk ((by rw [hg]; exact Nat.ne_of_gt (blk_lt (g := gb283) (o := .cells #[.int .i64 0, .int .i64 0, .int .i64 0, .int .i64 0, .slice none 0 0, .bool false] 39 (0, 0)) (by exact blk_w BK283.out)) : gb295 ≠ gb283)); have n9_ := Aside0.mk ((by rw [hg]; exact Nat.ne_of_lt (blk_lt (g := gb285) (o := .cells #[.int .i64 (wrap64 ((Int.tmod t284 9) + 1)), .int .i64 x286001_4, .int .i64 x286002_15, .int .i64 x286003_24, u286004, .bool ((Int.tmod t292 2) == 1)] 39 (0, 0)) (by exact blk_w BK285.out)) : gb285 ≠ gb295)); have n10_ := Aside0.mk ((by rw [hg]; exact Nat.ne_of_gt (blk_lt (g := gb285) (o := .cells #[.int .i64 (wrap64 ((Int.tmod t284 9) + 1)), .int .i64 x286001_4, .int .i64 x286002_15, .int .i64 x286003_24, u286004, .bool ((Int.tmod t292 2) == 1)] 39 (0, 0)) (by exact blk_w BK285.out)) : gb295 ≠ gb285)); clear HO_286004; clear BK283; clear BK285; clear HB; have HO_286004 := n0_; have BK283 := n1_; have BK285 := n2_; have HB := n3_; have BK295 := n4_; have GW295 := n5_; have GE295 := n6_; have NB283_295 := n7_; have NB295_283 := n8_; have NB285_295 := n9_; have NB295_285 := n10_; clear n0_ n1_ n2_ n3_ n4_ n5_ n6_ n7_ n8_ n9_ n10_; clear hb hbox hg; have hnb50 := NB295_283.out; have hnc50 := NB283_295.out; have hnb51 := NB295_285.out; have hnc51 := NB285_295.out; have hcz52 := blk3 BK295.out) | ((with_reducible refine gate_callee (f := 72) rfl ?_); refine goesL_ (some 87) rfl rfl Try.func72 (by kernel_rfl) rfl #[.slice A0 l0.length c0, .int .i64 (wrap64 (x1_4 + 2))] rfl (by (try simp only [List.map_toArray, List.map_cons, List.map_nil]); first | done | rfl | simp) ?_; (with_reducible refine (handoffref10_at.calls _ _ l0 (wrap64 (x1_4 + 2)) t296 _ ?side1 ?side2 A45.out).mono ?_); (case side1 => exact Kd.C_below HR0.out (by repeat (with_reducible first | exact HB.out | apply below_t | refine below_set ?_ GE283.out | refine below_set ?_ GE285.out | refine below_set ?_ GE295.out))); (case side2 => exact HC0.out); rintro e w53 ⟨rfl, hb⟩; refine ⟨_, rfl, ?_⟩; have n0_ := Aside0.mk (Kd.R_below (by apply Kd.R_w; exact (Kd.R_mono (Kd.R_far (p := ⟨gb295, 2, none⟩) (Kd.R_far (p := ⟨gb295, 1, none⟩) (Kd.R_far (p := ⟨gb295, 0, none⟩) (Kd.R_mono HO_286004.out (fun k_ hk => (⟨hk, hk.2⟩ : _ ∧ k_ ≠ gb295))) (fun _ hk => hk.2) (.bool true)) (fun _ hk => hk.2) (.int .i64 (Int.tmod t294 9))) (fun _ hk => hk.2) (.int .i64 0)) (fun _ h_ => h_.1))) hb); have n1_ := Aside0.mk (blk_below (g := gb283) (o := .cells #[.int .i64 0, .int .i64 0, .int .i64 0, .int .i64 0, .slice none 0 0, .bool false] 39 (0, 0)) (by refine blk_w ?_; refine blk_far (blk_w ?_) NB283_295.out _; refine blk_far (blk_w ?_) NB283_295.out _; exact blk_far (blk_w BK283.out) NB283_295.out _) hb); have n2_ := Aside0.mk (blk_below (g := gb285) (o := .cells #[.int .i64 (wrap64 ((Int.tmod t284 9) + 1)), .int .i64 x286001_4, .int .i64 x286002_15, .int .i64 x286003_24, u286004, .bool ((Int.tmod t292 2) == 1)] 39 (0, 0)) (by refine blk_w ?_; refine blk_far (blk_w ?_) NB285_295.out _; refine blk_far (blk_w ?_) NB285_295.out _; exact blk_far (blk_w BK285.out) NB285_295.out _) hb); have n3_ := Aside0.mk (blk_below (g := gb295) (o := .cells #[.bool true, .int .i64 (Int.tmod t294 9), .int .i64 0] 116 (0, 0)) (by refine blk_w ?_; refine blk_put (cs := #[.bool true, .int .i64 (Int.tmod t294 9), .int .i64 0]) ?_ 2 _ rfl; refine blk_w ?_; refine blk_put (cs := #[.bool true, .int .i64 0, .int .i64 0]) ?_ 1 _ rfl; refine blk_w ?_; refine blk_put (cs := #[.bool false, .int .i64 0, .int .i64 0]) ?_ 0 _ rfl; exact blk_w BK295.out) hb); have n4_ := Aside0.mk (below_step (by repeat (with_reducible first | exact HB.out | apply below_t | refine below_set ?_ GE283.out | refine below_set ?_ GE285.out | refine below_set ?_ GE295.out)) hb); clear HO_286004; clear BK283; clear BK285; clear BK295; clear HB; have HO_286004 := n0_; have BK283 := n1_; have BK285 := n2_; have BK295 := n3_; have HB := n4_; clear n0_ n1_ n2_ n3_ n4_; (try clear hb); (try clear hb2); (try clear hk); (try clear hi); have hcz54 := blk3 BK295.out; have hnb55 := NB285_283.out; have hnc55 := NB283_285.out; have hcz56 := blk6 BK285.out) | ((with_reducible refine gate_builtin (b := .append) (xs := #[.tmp 92, .tmp 94]) rfl ?_); at_builtin; refine Kd.R_append k116 (w0 := w) w.heap.size rfl (.tmp 92) (.tmp 94) 37 116 (.agg #[(.bool false), (.int .i64 0), (.int .i64 0)]) 24 rfl Try.underlying37 info116 rfl (by decide) (by omega) u286004 x286004_4 (⟨true, Int.tmod t294 9, t296⟩ : S116) [.bool true, .int .i64 (Int.tmod t294 9), .int .i64 t296] (fun k_ => k_ ≠ gb295) (fun _ => False) rfl (by first | (go_simp; done) | (go_simp; rfl)) ?aP (fun _ hk => hk.elim) ?aF ?aO ?aB ?aS ?aL ?_; (case aP => exact k116_mkM _ _ _ (⟨true, Int.tmod t294 9, t296⟩ : S116)); (case aB => exact (by repeat (with_reducible first | exact HB.out | apply below_t | refine below_set ?_ GE283.out | refine below_set ?_ GE285.out | refine below_set ?_ GE295.out))); (case aF => exact (fun k_ hk => Kd.freshB (g := gb295) (o := .cells #[.bool true, .int .i64 (Int.tmod t294 9), .int .i64 t296] 116 (0, 0)) (by refine blk_w ?_; refine blk_put (cs := #[.bool true, .int .i64 (Int.tmod t294 9), .int .i64 0]) ?_ 2 _ rfl; exact blk_w BK295.out) k_ hk)); (case aO => exact (by apply Kd.R_w; exact Kd.R_mono (Kd.R_far (p := ⟨gb295, 2, none⟩) (Kd.R_mono HO_286004.out (fun k_ hk => (⟨hk, hk.2⟩ : _ ∧ k_ ≠ gb295))) (fun _ hk => hk.2) (.int .i64 t296)) (fun _ hk => hk.1.2))); (case aS => exact (below_size (by repeat (with_reducible first | exact HB.out | apply below_t | refine below_set ?_ GE283.out | refine below_set ?_ GE285.out | refine below_set ?_ GE295.out)))); (case aL => have := LMc46.out; omega); intro v298 w57 ho hb hg hat; rw [← Ny297.out] at ho; have n0_ := Aside0.mk (blk_grown (g := gb283) (o := .cells #[.int .i64 0, .int .i64 0, .int .i64 0, .int .i64 0, .slice none 0 0, .bool false] 39 (0, 0)) (by refine blk_w ?_; exact blk_far (blk_w BK283.out) NB283_295.out _) hg (Kd.R_ne HO_286004.out BK283.out (by decide))); have n1_ := Aside0.mk (blk_grown (g := gb285) (o := .cells #[.int .i64 (wrap64 ((Int.tmod t284 9) + 1)), .int .i64 x286001_4, .int .i64 x286002_15, .int .i64 x286003_24, u286004, .bool ((Int.tmod t292 2) == 1)] 39 (0, 0)) (by refine blk_w ?_; exact blk_far (blk_w BK285.out) NB285_295.out _) hg (Kd.R_ne HO_286004.out BK285.out (by decide))); have n2_ := Aside0.mk (blk_grown (g := gb295) (o := .cells #[.bool true, .int .i64 (Int.tmod t294 9), .int .i64 t296] 116 (0, 0)) (by refine blk_w ?_; refine blk_put (cs := #[.bool true, .int .i64 (Int.tmod t294 9), .int .i64 0]) ?_ 2 _ rfl; exact blk_w BK295.out) hg (Kd.R_away HO_286004.out (fun _ hk => hk.2))); have n3_ := Aside0.mk (hb); have n4_ := Aside0.mk (ho); clear BK283; clear BK285; clear BK295; clear HB; clear HO_286004; have BK283 := n0_; have BK285 := n1_; have BK295 := n2_; have HB := n3_; have HO299 := n4_; clear n0_ n1_ n2_ n3_ n4_; clear ho hb hg hat; obtain ⟨Ao58, co58, eo58⟩ := Kd.R_slice HO299.out; subst eo58; have hcz59 := blk6 BK285.out))
             go_roundg k4
             case measure => have := HJ4.out; have := HJ15.out; have := HJ24.out; have := HK4.out; omega
             case rel => exact ⟨(wrap64 ((wrap64 (x1_4 + 2)) + 1)), (wrap64 (x8_4 + 1)), (y297), (.slice Ao58 y297.length co58), (by first | rfl | (simp; done) | (simp [*]; done)), (by first | rfl | (simp; done) | (simp [*]; done)), H', ⟨by have := HJ4.out; have := HJ15.out; have := HJ24.out; have := HK4.out; omega⟩, ⟨by apply Kd.R_w; exact Kd.R_mono (Kd.R_far (p := ⟨gb285, 4, none⟩) (Kd.R_types HO299.out BK285.out (by decide)) (fun _ hk => hk.2) (.slice Ao58 y297.length co58)) (fun _ hk => trivial)⟩, ⟨by refine blk_w ?_; exact blk_far (blk_w BK283.out) NB283_285.out _⟩, ⟨by refine blk_w ?_; refine blk_put (cs := #[.int .i64 (wrap64 ((Int.tmod t284 9) + 1)), .int .i64 x286001_4, .int .i64 x286002_15, .int .i64 x286003_24, u286004, .bool ((Int.tmod t292 2) == 1)]) ?_ 4 _ rfl; exact blk_w BK285.out⟩, ⟨by repeat (with_reducible first | exact HB.out | apply below_t | refine below_set ?_ GE283.out | refine below_set ?_ GE285.out | refine below_set ?_ GE295.out)⟩⟩
            ·rw [if_neg c46] at H
             exact absurd H (by simp)
           ·rw [if_neg c44] at H
            have c44b0 : ((Int.tmod t293 2) == 1) = false := beq_eq_false_iff_ne.mpr c44
            try rw [c44b0] at H
            have c44b1 : ((Int.tmod t293 2) != 1) = true := bne_iff_ne.mpr c44
            by_cases c60 : x286004_4.length < 5864062014805
            ·rw [if_pos c60] at H
             have LMc60 := Aside0.mk c60
             clear c60
             obtain ⟨y300, hy300⟩ : ∃ y_ : List (S116), y_ = (x286004_4 ++ [(⟨false, Int.tmod t294 9, 0⟩ : S116)]) := ⟨_, rfl⟩
             replace H : (handoffref10_one.l0 k4 l0 (wrap64 (x1_4 + 2)) (Int.tmod t291 7) (wrap64 (x8_4 + 1)) (wrap64 ((Int.tmod t284 9) + 1)) x286001_4 x286002_15 x286003_24 y300 ((Int.tmod t292 2) == 1)) = some (r1, r2, r3, r4, r5, r6, r7) := by first | (rw [hy300]; with_reducible exact H) | (have H2_ := (Option.bind_some _ _).symm.trans H; rw [hy300]; with_reducible exact H2_) | (have H2_ := (Option.bind_some _ _).symm.trans H; with_reducible exact H2_) | with_reducible exact H | (rw [hy300]; exact H) | exact H
             have Ny300 := Aside0.mk hy300
             clear hy300
             have H' := Aside0.mk H
             clear H
             go_wp2_with (first | ((with_reducible refine gate_callee (f := 72) rfl ?_); refine goesL_ (some 72) rfl rfl Try.func72 (by kernel_rfl) rfl #[.slice A0 l0.length c0, .int .i64 x1_4] rfl (by (try simp only [List.map_toArray, List.map_cons, List.map_nil]); first | done | rfl | simp) ?_; (with_reducible refine (handoffref10_at.calls _ _ l0 x1_4 t293 _ ?side1 ?side2 A42.out).mono ?_); (case side1 => exact Kd.C_w (Kd.C_below HR0.out HB.out)); (case side2 => exact HC0.out); rintro e w61 ⟨rfl, hb⟩; refine ⟨_, rfl, ?_⟩; have n0_ := Aside0.mk (Kd.R_below (by exact Kd.R_w HO_286004.out) hb); have n1_ := Aside0.mk (blk_below (g := gb283) (o := .cells #[.int .i64 0, .int .i64 0, .int .i64 0, .int .i64 0, .slice none 0 0, .bool false] 39 (0, 0)) (by exact blk_w BK283.out) hb); have n2_ := Aside0.mk (blk_below (g := gb285) (o := .cells #[.int .i64 (wrap64 ((Int.tmod t284 9) + 1)), .int .i64 x286001_4, .int .i64 x286002_15, .int .i64 x286003_24, u286004, .bool ((Int.tmod t292 2) == 1)] 39 (0, 0)) (by exact blk_w BK285.out) hb); have n3_ := Aside0.mk (below_step (by repeat (with_reducible first | exact HB.out | apply below_t | refine below_set ?_ GE283.out | refine below_set ?_ GE285.out)) hb); clear HO_286004; clear BK283; clear BK285; clear HB; have HO_286004 := n0_; have BK283 := n1_; have BK285 := n2_; have HB := n3_; clear n0_ n1_ n2_ n3_; (try clear hb); (try clear hb2); (try clear hk); (try clear hi)) | ((with_reducible refine gate_callee (f := 72) rfl ?_); refine goesL_ (some 78) rfl rfl Try.func72 (by kernel_rfl) rfl #[.slice A0 l0.length c0, .int .i64 (wrap64 (x1_4 + 1))] rfl (by (try simp only [List.map_toArray, List.map_cons, List.map_nil]); first | done | rfl | simp) ?_; (with_reducible refine (handoffref10_at.calls _ _ l0 (wrap64 (x1_4 + 1)) t294 _ ?side1 ?side2 A43.out).mono ?_); (case side1 => exact Kd.C_w (Kd.C_below HR0.out HB.out)); (case side2 => exact HC0.out); rintro e w62 ⟨rfl, hb⟩; refine ⟨_, rfl, ?_⟩; have n0_ := Aside0.mk (Kd.R_below (by exact Kd.R_w HO_286004.out) hb); have n1_ := Aside0.mk (blk_below (g := gb283) (o := .cells #[.int .i64 0, .int .i64 0, .int .i64 0, .int .i64 0, .slice none 0 0, .bool false] 39 (0, 0)) (by exact blk_w BK283.out) hb); have n2_ := Aside0.mk (blk_below (g := gb285) (o := .cells #[.int .i64 (wrap64 ((Int.tmod t284 9) + 1)), .int .i64 x286001_4, .int .i64 x286002_15, .int .i64 x286003_24, u286004, .bool ((Int.tmod t292 2) == 1)] 39 (0, 0)) (by exact blk_w BK285.out) hb); have n3_ := Aside0.mk (below_step (by repeat (with_reducible first | exact HB.out | apply below_t | refine below_set ?_ GE283.out | refine below_set ?_ GE285.out)) hb); clear HO_286004; clear BK283; clear BK285; clear HB; have HO_286004 := n0_; have BK283 := n1_; have BK285 := n2_; have HB := n3_; clear n0_ n1_ n2_ n3_; (try clear hb); (try clear hb2); (try clear hk); (try clear hi)) | ((with_reducible refine gate_dst (N := 9) rfl ?_); refine box_event ?hg (N := 9) ?hd (cs := #[.bool false, .int .i64 0, .int .i64 0]) (t := 116) ?hr ?_; (case hd => rfl); (case hg => rfl); (case hr => first | (go_simp; done) | (go_simp; rfl)); intro gb295 hg w63 hbox hb; have n0_ := Aside0.mk (Kd.R_below (Kd.R_elderB (by exact Kd.R_w HO_286004.out) gb295 (Nat.le_of_eq hg.symm)) hb); have n1_ := Aside0.mk (blk_below (g := gb283) (o := .cells #[.int .i64 0, .int .i64 0, .int .i64 0, .int .i64 0, .slice none 0 0, .bool false] 39 (0, 0)) (by exact blk_w BK283.out) hb); have n2_ := Aside0.mk (blk_below (g := gb285) (o := .cells #[.int .i64 (wrap64 ((Int.tmod t284 9) + 1)), .int .i64 x286001_4, .int .i64 x286002_15, .int .i64 x286003_24, u286004, .bool ((Int.tmod t292 2) == 1)] 39 (0, 0)) (by exact blk_w BK285.out) hb); have n3_ := Aside0.mk (below_step (by repeat (with_reducible first | exact HB.out | apply below_t | refine below_set ?_ GE283.out | refine below_set ?_ GE285.out)) hb); have n4_ := Aside0.mk (hbox); have n5_ := Aside0.mk ((by rw [hg]; exact (below_size (by repeat (with_reducible first | exact HB.out | apply below_t | refine below_set ?_ GE283.out | refine below_set ?_ GE285.out))) : w.heap.size ≤ gb295)); have n6_ := Aside0.mk ((by rw [hg]; exact (below_size (by repeat (with_reducible first | exact HB.out | apply below_t | refine below_set ?_ GE283.out | refine below_set ?_ GE285.out))) : w.heap.size ≤ gb295)); have n7_ := Aside0.mk ((by rw [hg]; exact Nat.ne_of_lt (blk_lt (g := gb283) (o := .cells #[.int .i64 0, .int .i64 0, .int .i64 0, .int .i64 0, .slice none 0 0, .bool false] 39 (0, 0)) (by exact blk_w BK283.out)) : gb283 ≠ gb295)); have n8_ := Aside0.mk ((by rw [hg]; exact Nat.ne_of_gt (blk_lt (g := gb283) (o := .cells #[.int .i64 0, .int .i64 0, .int .i64 0, .int .i64 0, .slice none 0 0, .bool false] 39 (0, 0)) (by exact blk_w BK283.out)) : gb295 ≠ gb283)); have n9_ := Aside0.mk ((by rw [hg]; exact Nat.ne_of_lt (blk_lt (g := gb285) (o := .cells #[.int .i64 (wrap64 ((Int.tmod t284 9) + 1)), .int .i64 x286001_4, .int .i64 x286002_15, .int .i64 x286003_24, u286004, .bool ((Int.tmod t292 2) == 1)] 39 (0, 0)) (by exact blk_w BK285.out)) : gb285 ≠ gb295)); have n10_ := Aside0.mk ((by rw [hg]; exact Nat.ne_of_gt (blk_lt (g := gb285) (o := .cells #[.int .i64 (wrap64 ((Int.tmod t284 9) + 1)), .int .i64 x286001_4, .int .i64 x286002_15, .int .i64 x286003_24, u286004, .bool ((Int.tmod t292 2) == 1)] 39 (0, 0)) (by exact blk_w BK285.out)) : gb295 ≠ gb285)); clear HO_286004; clear BK283; clear BK285; clear HB; have HO_286004 := n0_; have BK283 := n1_; have BK285 := n2_; have HB := n3_; have BK295 := n4_; have GW295 := n5_; have GE295 := n6_; have NB283_295 := n7_; have NB295_283 := n8_; have NB285_295 := n9_; have NB295_285 := n10_; clear n0_ n1_ n2_ n3_ n4_ n5_ n6_ n7_ n8_ n9_ n10_; clear hb hbox hg; have hnb64 := NB295_283.out; have hnc64 := NB283_295.out; have hnb65 := NB295_285.out; have hnc65 := NB285_295.out; have hcz66 := blk3 BK295.out; have hnb67 := NB285_283.out; have hnc67 := NB283_285.out; have hcz68 := blk6 BK285.out) | ((with_reducible refine gate_builtin (b := .append) (xs := #[.tmp 92, .tmp 94]) rfl ?_); at_builtin; refine Kd.R_append k116 (w0 := w) w.heap.size rfl (.tmp 92) (.tmp 94) 37 116 (.agg #[(.bool false), (.int .i64 0), (.int .i64 0)]) 24 rfl Try.underlying37 info116 rfl (by decide) (by omega) u286004 x286004_4 (⟨false, Int.tmod t294 9, 0⟩ : S116) [.bool false, .int .i64 (Int.tmod t294 9), .int .i64 0] (fun k_ => k_ ≠ gb295) (fun _ => False) rfl (by first | (go_simp; done) | (go_simp; rfl)) ?aP (fun _ hk => hk.elim) ?aF ?aO ?aB ?aS ?aL ?_; (case aP => exact k116_mkM _ _ _ (⟨false, Int.tmod t294 9, 0⟩ : S116)); (case aB => exact (by repeat (with_reducible first | exact HB.out | apply below_t | refine below_set ?_ GE283.out | refine below_set ?_ GE285.out | refine below_set ?_ GE295.out))); (case aF => exact (fun k_ hk => Kd.freshB (g := gb295) (o := .cells #[.bool false, .int .i64 (Int.tmod t294 9), .int .i64 0] 116 (0, 0)) (by refine blk_w ?_; refine blk_put (cs := #[.bool false, .int .i64 (Int.tmod t294 9), .int .i64 0]) ?_ 2 _ rfl; refine blk_w ?_; refine blk_put (cs := #[.bool false, .int .i64 0, .int .i64 0]) ?_ 1 _ rfl; refine blk_w ?_; refine blk_put (cs := #[.bool false, .int .i64 0, .int .i64 0]) ?_ 0 _ rfl; exact blk_w BK295.out) k_ hk)); (case aO => exact (by apply Kd.R_w; exact Kd.R_mono (Kd.R_far (p := ⟨gb295, 2, none⟩) (Kd.R_far (p := ⟨gb295, 1, none⟩) (Kd.R_far (p := ⟨gb295, 0, none⟩) (Kd.R_mono HO_286004.out (fun k_ hk => (⟨hk, hk.2⟩ : _ ∧ k_ ≠ gb295))) (fun _ hk => hk.2) (.bool false)) (fun _ hk => hk.2) (.int .i64 (Int.tmod t294 9))) (fun _ hk => hk.2) (.int .i64 0)) (fun _ hk => hk.1.2))); (case aS => exact (below_size (by repeat (with_reducible first | exact HB.out | apply below_t | refine below_set ?_ GE283.out | refine below_set ?_ GE285.out | refine below_set ?_ GE295.out)))); (case aL => have := LMc60.out; omega); intro v301 w69 ho hb hg hat; rw [← Ny300.out] at ho; have n0_ := Aside0.mk (blk_grown (g := gb283) (o := .cells #[.int .i64 0, .int .i64 0, .int .i64 0, .int .i64 0, .slice none 0 0, .bool false] 39 (0, 0)) (by refine blk_w ?_; refine blk_far (blk_w ?_) NB283_295.out _; refine blk_far (blk_w ?_) NB283_295.out _; exact blk_far (blk_w BK283.out) NB283_295.out _) hg (Kd.R_ne HO_286004.out BK283.out (by decide))); have n1_ := Aside0.mk (blk_grown (g := gb285) (o := .cells #[.int .i64 (wrap64 ((Int.tmod t284 9) + 1)), .int .i64 x286001_4, .int .i64 x286002_15, .int .i64 x286003_24, u286004, .bool ((Int.tmod t292 2) == 1)] 39 (0, 0)) (by refine blk_w ?_; refine blk_far (blk_w ?_) NB285_295.out _; refine blk_far (blk_w ?_) NB285_295.out _; exact blk_far (blk_w BK285.out) NB285_295.out _) hg (Kd.R_ne HO_286004.out BK285.out (by decide))); have n2_ := Aside0.mk (blk_grown (g := gb295) (o := .cells #[.bool false, .int .i64 (Int.tmod t294 9), .int .i64 0] 116 (0, 0)) (by refine blk_w ?_; refine blk_put (cs := #[.bool false, .int .i64 (Int.tmod t294 9), .int .i64 0]) ?_ 2 _ rfl; refine blk_w ?_; refine blk_put (cs := #[.bool false, .int .i64 0, .int .i64 0]) ?_ 1 _ rfl; refine blk_w ?_; refine blk_put (cs := #[.bool false, .int .i64 0, .int .i64 0]) ?_ 0 _ rfl; exact blk_w BK295.out) hg (Kd.R_away HO_286004.out (fun _ hk => hk.2))); have n3_ := Aside0.mk (hb); have n4_ := Aside0.mk (ho); clear BK283; clear BK285; clear BK295; clear HB; clear HO_286004; have BK283 := n0_; have BK285 := n1_; have BK295 := n2_; have HB := n3_; have HO302 := n4_; clear n0_ n1_ n2_ n3_ n4_; clear ho hb hg hat; obtain ⟨Ao70, co70, eo70⟩ := Kd.R_slice HO302.out; subst eo70; have hcz71 := blk6 BK285.out))
             go_roundg k4
             case measure => have := HJ4.out; have := HJ15.out; have := HJ24.out; have := HK4.out; omega
             case rel => exact ⟨(wrap64 (x1_4 + 2)), (wrap64 (x8_4 + 1)), (y300), (.slice Ao70 y300.length co70), (by first | rfl | (simp; done) | (simp [*]; done)), (by first | rfl | (simp; done) | (simp [*]; done)), H', ⟨by have := HJ4.out; have := HJ15.out; have := HJ24.out; have := HK4.out; omega⟩, ⟨by apply Kd.R_w; exact Kd.R_mono (Kd.R_far (p := ⟨gb285, 4, none⟩) (Kd.R_types HO302.out BK285.out (by decide)) (fun _ hk => hk.2) (.slice Ao70 y300.length co70)) (fun _ hk => trivial)⟩, ⟨by refine blk_w ?_; exact blk_far (blk_w BK283.out) NB283_285.out _⟩, ⟨by refine blk_w ?_; refine blk_put (cs := #[.int .i64 (wrap64 ((Int.tmod t284 9) + 1)), .int .i64 x286001_4, .int .i64 x286002_15, .int .i64 x286003_24, u286004, .bool ((Int.tmod t292 2) == 1)]) ?_ 4 _ rfl; exact blk_w BK285.out⟩, ⟨by repeat (with_reducible first | exact HB.out | apply below_t | refine below_set ?_ GE283.out | refine below_set ?_ GE285.out | refine below_set ?_ GE295.out)⟩⟩
            ·rw [if_neg c60] at H
             exact absurd H (by simp)
          ·rw [if_neg c41] at H
           have c41b0 : decide (x8_4 < (Int.tmod t291 7)) = false := decide_eq_false c41
           clear c41
           simp only [Option.some.injEq, Prod.mk.injEq] at H
           obtain ⟨rfl, rfl, rfl, rfl, rfl, rfl, rfl⟩ := H
           have hnb72 := NB285_283.out
           have hnc72 := NB283_285.out
           have hcz73 := blk6 BK285.out
           have hcz74 := blk6 BK283.out
           obtain ⟨Ao75, co75, eo75⟩ := Kd.R_slice HO_286004.out
           subst eo75
           go_wp2
           refine bodyPost_ret (results_ct rfl _ _ gb283 39 #[.int .i64 (wrap64 ((Int.tmod t284 9) + 1)), .int .i64 x286001_4, .int .i64 x286002_15, .int .i64 x286003_24, .slice Ao75 x286004_4.length co75, .bool ((Int.tmod t292 2) == 1)] (0, 0) _ rfl (by refine blk_w ?_; refine blk_put (cs := #[.int .i64 (wrap64 ((Int.tmod t284 9) + 1)), .int .i64 x286001_4, .int .i64 x286002_15, .int .i64 x286003_24, .slice Ao75 x286004_4.length co75, .bool false]) ?_ 5 _ rfl; refine blk_w ?_; refine blk_put (cs := #[.int .i64 (wrap64 ((Int.tmod t284 9) + 1)), .int .i64 x286001_4, .int .i64 x286002_15, .int .i64 x286003_24, .slice none 0 0, .bool false]) ?_ 4 _ rfl; refine blk_w ?_; refine blk_put (cs := #[.int .i64 (wrap64 ((Int.tmod t284 9) + 1)), .int .i64 x286001_4, .int .i64 x286002_15, .int .i64 0, .slice none 0 0, .bool false]) ?_ 3 _ rfl; refine blk_w ?_; refine blk_put (cs := #[.int .i64 (wrap64 ((Int.tmod t284 9) + 1)), .int .i64 x286001_4, .int .i64 0, .int .i64 0, .slice none 0 0, .bool false]) ?_ 2 _ rfl; refine blk_w ?_; refine blk_put (cs := #[.int .i64 (wrap64 ((Int.tmod t284 9) + 1)), .int .i64 0, .int .i64 0, .int .i64 0, .slice none 0 0, .bool false]) ?_ 1 _ rfl; refine blk_w ?_; refine blk_put (cs := #[.int .i64 0, .int .i64 0, .int .i64 0, .int .i64 0, .slice none 0 0, .bool false]) ?_ 0 _ rfl; exact blk_w BK283.out) Try.underlying39 rfl (by kernel_rfl)) rfl ?_
           exact ⟨_, by first | rfl | (simp [errW_none, errW_some] <;> rfl) | (simp [*, errW_none, errW_some] <;> rfl), by apply Kd.R_w; exact Kd.R_mono (Kd.R_far (p := ⟨gb283, 5, none⟩) (Kd.R_far (p := ⟨gb283, 4, none⟩) (Kd.R_far (p := ⟨gb283, 3, none⟩) (Kd.R_far (p := ⟨gb283, 2, none⟩) (Kd.R_far (p := ⟨gb283, 1, none⟩) (Kd.R_far (p := ⟨gb283, 0, none⟩) (Kd.R_types HO_286004.out BK283.out (by decide)) (fun _ hk => hk.2) (.int .i64 (wrap64 ((Int.tmod t284 9) + 1)))) (fun _ hk => hk.2) (.int .i64 x286001_4)) (fun _ hk => hk.2) (.int .i64 x286002_15)) (fun _ hk => hk.2) (.int .i64 x286003_24)) (fun _ hk => hk.2) (.slice Ao75 x286004_4.length co75)) (fun _ hk => hk.2) (.bool ((Int.tmod t292 2) == 1))) (fun _ hk => trivial), by repeat (with_reducible first | exact HB.out | apply below_t | refine below_set ?_ GE283.out | refine below_set ?_ GE285.out)⟩
       ·rw [if_neg c33] at H
        have c33b0 : ((wrap64 ((Int.tmod t284 9) + 1)) == 9) = false := beq_eq_false_iff_ne.mpr c33
        have c33b1 : ((wrap64 ((Int.tmod t284 9) + 1)) != 9) = true := bne_iff_ne.mpr c33
        simp only [Option.some.injEq, Prod.mk.injEq] at H
        obtain ⟨rfl, rfl, rfl, rfl, rfl, rfl, rfl⟩ := H
        have hnb76 := NB285_283.out
        have hnc76 := NB283_285.out
        have hcz77 := blk6 BK285.out
        have hcz78 := blk6 BK283.out
        go_wp2
        refine bodyPost_ret (results_ct rfl _ _ gb283 39 #[.int .i64 (wrap64 ((Int.tmod t284 9) + 1)), .int .i64 x286001_4, .int .i64 x286002_15, .int .i64 x286003_24, .slice none 0 0, .bool false] (0, 0) _ rfl (by refine blk_w ?_; refine blk_put (cs := #[.int .i64 (wrap64 ((Int.tmod t284 9) + 1)), .int .i64 x286001_4, .int .i64 x286002_15, .int .i64 x286003_24, .slice none 0 0, .bool false]) ?_ 5 _ rfl; refine blk_w ?_; refine blk_put (cs := #[.int .i64 (wrap64 ((Int.tmod t284 9) + 1)), .int .i64 x286001_4, .int .i64 x286002_15, .int .i64 x286003_24, .slice none 0 0, .bool false]) ?_ 4 _ rfl; refine blk_w ?_; refine blk_put (cs := #[.int .i64 (wrap64 ((Int.tmod t284 9) + 1)), .int .i64 x286001_4, .int .i64 x286002_15, .int .i64 0, .slice none 0 0, .bool false]) ?_ 3 _ rfl; refine blk_w ?_; refine blk_put (cs := #[.int .i64 (wrap64 ((Int.tmod t284 9) + 1)), .int .i64 x286001_4, .int .i64 0, .int .i64 0, .slice none 0 0, .bool false]) ?_ 2 _ rfl; refine blk_w ?_; refine blk_put (cs := #[.int .i64 (wrap64 ((Int.tmod t284 9) + 1)), .int .i64 0, .int .i64 0, .int .i64 0, .slice none 0 0, .bool false]) ?_ 1 _ rfl; refine blk_w ?_; refine blk_put (cs := #[.int .i64 0, .int .i64 0, .int .i64 0, .int .i64 0, .slice none 0 0, .bool false]) ?_ 0 _ rfl; exact blk_w BK283.out) Try.underlying39 rfl (by kernel_rfl)) rfl ?_
        exact ⟨_, by first | rfl | (simp [errW_none, errW_some] <;> rfl) | (simp [*, errW_none, errW_some] <;> rfl), by first | exact Kd.R_nil _ _ _ _ _ | exact Kd.N_nil _ _ _ _ _ | exact Kd.V_nil _ _ _ _ _ | exact Kd.Q_nil _ _ _ _ _ | exact Kd.S_nil _ _ _ _ _, by repeat (with_reducible first | exact HB.out | apply below_t | refine below_set ?_ GE283.out | refine below_set ?_ GE285.out)⟩

end Go.Proofs.Ytjmpaeckpbpclaa.PPlK
