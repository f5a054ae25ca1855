-- Out of the translation, by a program of this session.
import Derived.Test.YtjmpaeckpbpclaaWShort
import Derived.Test.YtjmpaeckpbpclaaPPlKx0
import Derived.Test.YtjmpaeckpbpclaaPPlKx2
import Derived.Test.YtjmpaeckpbpclaaPPlKx4
namespace Go.Proofs.Ytjmpaeckpbpclaa.PPlK
open Go.RowKit Go.Proofs.YtjmpaeckpbpclaaW.PrintWords Go.Proofs.YtjmpaeckpbpclaaW.PrintLast Go.Proofs.YtjmpaeckpbpclaaW.PrintMore
attribute [local go_sem] max2_int min2_int max_two min_two max_three min_three max_four min_four   -- for this text's walks alone
set_option linter.unusedVariables false
set_option linter.unusedSimpArgs false

/-! ### plan_RightOp: function 21 -/
mutual
def plan_RightOp.j0 : Nat → Bool → Int → Int → Int → Int → List (S116) → Bool → Option (Bool)
  | 0, _, _, _, _, _, _, _ => none
  | k + 1, x13, x152000, x152001, x152002, x152003, x152004, x152005 => if x13 = true then (some false) else ((plan_fields.f x152000).bind fun bt152 => (if bt152.2.2.2 = true then (plan_RightOp.j1 k (decide ((x152004.length : Int) > 6)) x152000 x152001 x152002 x152003 x152004 x152005 bt152.1 bt152.2.1 bt152.2.2.1 bt152.2.2.2) else (if (x152004.length : Int) > 0 then (plan_RightOp.j1 k true x152000 x152001 x152002 x152003 x152004 x152005 bt152.1 bt152.2.1 bt152.2.2.1 bt152.2.2.2) else (if x152005 = true then (plan_RightOp.j1 k true x152000 x152001 x152002 x152003 x152004 x152005 bt152.1 bt152.2.1 bt152.2.2.1 bt152.2.2.2) else (plan_RightOp.j1 k (decide ((x152004.length : Int) > 6)) x152000 x152001 x152002 x152003 x152004 x152005 bt152.1 bt152.2.1 bt152.2.2.1 bt152.2.2.2)))))
def plan_RightOp.j1 : Nat → Bool → Int → Int → Int → Int → List (S116) → Bool → Bool → Bool → Bool → Bool → Option (Bool)
  | 0, _, _, _, _, _, _, _, _, _, _, _ => none
  | k + 1, x35, x152000, x152001, x152002, x152003, x152004, x152005, x157000, x157001, x157002, x157003 => if x35 = true then (some false) else (plan_RightOp.l0 k x152004 (x152004.length : Int) 0 x152000 x152001 x152002 x152003 x152004 x152005 x157000 x157001 x157002 x157003)
def plan_RightOp.l0 : Nat → List (S116) → Int → Int → Int → Int → Int → Int → List (S116) → Bool → Bool → Bool → Bool → Bool → Option (Bool)
  | 0, _, _, _, _, _, _, _, _, _, _, _, _, _ => none
  | k + 1, x37, x38, x39, x152000, x152001, x152002, x152003, x152004, x152005, x157000, x157001, x157002, x157003 => if x39 < x38 then (if 0 ≤ x39 then (if x39 < (x37.length : Int) then ((plan_within.f true ((rd_T116 x37 x39).f1) 8).bind fun t162 => (if t162 = true then ((plan_value.f ((rd_T116 x37 x39).f0) ((rd_T116 x37 x39).f2)).bind fun t163 => (if t163 = true then (plan_RightOp.l0 k x37 x38 (wrap64 (x39 + 1)) x152000 x152001 x152002 x152003 x152004 x152005 x157000 x157001 x157002 x157003) else (some false))) else (some false))) else (none)) else (none)) else ((plan_within.f x157000 x152001 8).bind fun t157 => (if t157 = true then ((plan_within.f x157001 x152002 4).bind fun t158 => (if t158 = true then ((plan_value.f x157002 x152003).bind fun t159 => (some t159)) else (some false))) else (some false)))
end
def plan_RightOp.f (k : Nat) (a0_0 : Int) (a0_1 : Int) (a0_2 : Int) (a0_3 : Int) (l0_4 : List (S116)) (a0_5 : Bool) : Option (Bool) := if a0_0 < 1 then (plan_RightOp.j0 k true a0_0 a0_1 a0_2 a0_3 l0_4 a0_5) else (plan_RightOp.j0 k (decide (a0_0 > 9)) a0_0 a0_1 a0_2 a0_3 l0_4 a0_5)
theorem plan_RightOp.mono_l : ∀ k, (∀ y0 y1 y2 y3 y4 y5 y6, LeO (plan_RightOp.j0 k y0 y1 y2 y3 y4 y5 y6) (plan_RightOp.j0 (k + 1) y0 y1 y2 y3 y4 y5 y6)) ∧ (∀ y0 y1 y2 y3 y4 y5 y6 y7 y8 y9 y10, LeO (plan_RightOp.j1 k y0 y1 y2 y3 y4 y5 y6 y7 y8 y9 y10) (plan_RightOp.j1 (k + 1) y0 y1 y2 y3 y4 y5 y6 y7 y8 y9 y10)) ∧ (∀ y0 y1 y2 y3 y4 y5 y6 y7 y8 y9 y10 y11 y12, LeO (plan_RightOp.l0 k y0 y1 y2 y3 y4 y5 y6 y7 y8 y9 y10 y11 y12) (plan_RightOp.l0 (k + 1) y0 y1 y2 y3 y4 y5 y6 y7 y8 y9 y10 y11 y12))
 | 0 => ⟨fun _ _ _ _ _ _ _ r h => by simp [plan_RightOp.j0] at h, fun _ _ _ _ _ _ _ _ _ _ _ r h => by simp [plan_RightOp.j1] at h, fun _ _ _ _ _ _ _ _ _ _ _ _ _ r h => by simp [plan_RightOp.l0] at h⟩
 | k + 1 => by
  obtain ⟨ih0, ih1, ih2⟩ := plan_RightOp.mono_l k
  refine ⟨?_, ?_, ?_⟩
  all_goals intros
  all_goals first | unfold plan_RightOp.j0 | unfold plan_RightOp.j1 | unfold plan_RightOp.l0
  all_goals (repeat' first | with_reducible first | apply ih0 | apply ih1 | apply ih2 | exact LeO.refl _ | exact LeO.none _ | refine LeO.ite ?_ ?_ | refine LeO.bind ?_ (fun _ => ?_) | apply ih0 | apply ih1 | apply ih2 | exact LeO.none _ | refine LeO.ite ?_ ?_ | refine LeO.bind ?_ (fun _ => ?_))
theorem plan_RightOp.mono : ∀ a0 a1 a2 a3 a4 a5 k, LeO (plan_RightOp.f k a0 a1 a2 a3 a4 a5) (plan_RightOp.f (k + 1) a0 a1 a2 a3 a4 a5) := by
 intro a0 a1 a2 a3 a4 a5 k
 obtain ⟨ih0, ih1, ih2⟩ := plan_RightOp.mono_l k
 unfold plan_RightOp.f
 repeat' first | with_reducible first | apply ih0 | apply ih1 | apply ih2 | exact LeO.refl _ | exact LeO.none _ | refine LeO.ite ?_ ?_ | refine LeO.bind ?_ (fun _ => ?_) | apply ih0 | apply ih1 | apply ih2 | exact LeO.none _ | refine LeO.ite ?_ ?_ | refine LeO.bind ?_ (fun _ => ?_)
set_option maxHeartbeats 8000000 in
set_option maxRecDepth 100000 in
theorem plan_RightOp.calls (k : Nat) (a0_0 : Int) (a0_1 : Int) (a0_2 : Int) (a0_3 : Int) (A0_4 : Option Addr) (c0_4 : Nat) (l0_4 : List (S116)) (a0_5 : Bool) (r : Bool) (w : World) (hr0_4 : Kd.C k116 w A0_4 l0_4.length l0_4) (hc0_4 : l0_4.length ≤ c0_4) (h : plan_RightOp.f k a0_0 a0_1 a0_2 a0_3 l0_4 a0_5 = some r) :
  Calls Try.prog 21 #[.agg #[.int .i64 a0_0, .int .i64 a0_1, .int .i64 a0_2, .int .i64 a0_3, .slice A0_4 l0_4.length c0_4, .bool a0_5]] w fun e w' => e = .returned (.bool r) ∧ Below w.heap.size w w' := by
 have hu39 := Try.underlying39
 have hu113 := Try.underlying113
 have hu116 := Try.underlying116
 have HR0_4 := Aside0.mk hr0_4
 have HC0_4 := Aside0.mk hc0_4
 clear hr0_4 hc0_4
 have HB := Aside0.mk (Below.refl w.heap.size w)
 have H : (if a0_0 < 1 then (plan_RightOp.j0 k true a0_0 a0_1 a0_2 a0_3 l0_4 a0_5) else (plan_RightOp.j0 k (decide (a0_0 > 9)) a0_0 a0_1 a0_2 a0_3 l0_4 a0_5)) = some r := h
 clear h
 have HC2 := Aside0.mk H
 clear H
 go_enter Try.func21, Try.ntmps21
 go_upto_region 1 with (first | ((with_reducible refine gate_dst (N := 1) rfl ?_); (try (refine gate_guard (by rfl) ?_; dsimp only)); refine box_event ?hg (N := 1) ?hd (cs := #[.int .i64 a0_0, .int .i64 a0_1, .int .i64 a0_2, .int .i64 a0_3, .slice A0_4 l0_4.length c0_4, .bool a0_5]) (t := 39) ?hr ?_; (case hd => rfl); (case hg => rfl); (case hr => first | (go_simp; done) | (go_simp; rfl)); intro gb151 hg w3 hbox hb; have n0_ := Aside0.mk (below_step (below_w HB.out) hb); have n1_ := Aside0.mk (hbox); have n2_ := Aside0.mk ((by rw [hg]; exact (below_size (below_w HB.out)) : w.heap.size ≤ gb151)); have n3_ := Aside0.mk ((by rw [hg]; exact (below_size (below_w HB.out)) : w.heap.size ≤ gb151)); clear HB; have HB := n0_; have BK151 := n1_; have GW151 := n2_; have GE151 := n3_; clear n0_ n1_ n2_ n3_; clear hb hbox hg))
 (try simp only [Act.put, List.setIfInBounds_toArray, List.set_cons_zero, List.set_cons_succ])
 go_cut [13] (fun v13 wc => ∃ (kq : Nat) (x13_1 : Bool), v13 = .bool x13_1 ∧ Aside0 (plan_RightOp.j0 kq x13_1 a0_0 a0_1 a0_2 a0_3 l0_4 a0_5 = some r) ∧ Aside0 (kq ≤ k) ∧ Aside0 (wc.heap[gb151]? = some (.cells #[.int .i64 a0_0, .int .i64 a0_1, .int .i64 a0_2, .int .i64 a0_3, (.slice A0_4 l0_4.length c0_4), .bool a0_5] 39 (0, 0))) ∧ Aside0 (Below w.heap.size w wc))
 case first =>
  have H := HC2.out
  clear HC2
  by_cases c4 : a0_0 < 1
  ·rw [if_pos c4] at H
   have c4b0 : decide (a0_0 < 1) = true := decide_eq_true c4
   clear c4
   (first | rw [c4b0] | (simp only [i64_w, i32_w]; rw [c4b0]) | skip)
   have H' := Aside0.mk H
   clear H
   have hcz5 := blk6 BK151.out
   go_wp2
   go_meet
   case rel => exact ⟨_, (true), (by first | rfl | (simp; done) | (simp [*]; done)), H', ⟨by first | omega | exact Nat.le_refl _⟩, ⟨by exact blk_w BK151.out⟩, ⟨by repeat (with_reducible first | exact HB.out | apply below_t | refine below_set ?_ GE151.out)⟩⟩
  ·rw [if_neg c4] at H
   have c4b0 : decide (a0_0 < 1) = false := decide_eq_false c4
   clear c4
   (first | rw [c4b0] | (simp only [i64_w, i32_w]; rw [c4b0]) | skip)
   have H' := Aside0.mk H
   clear H
   have hcz6 := blk6 BK151.out
   go_wp2
   go_meet
   case rel => exact ⟨_, (decide (a0_0 > 9)), (by first | rfl | (simp; done) | (simp [*]; done)), H', ⟨by first | omega | exact Nat.le_refl _⟩, ⟨by exact blk_w BK151.out⟩, ⟨by repeat (with_reducible first | exact HB.out | apply below_t | refine below_set ?_ GE151.out)⟩⟩
 case rest =>
  clear HC2
  obtain ⟨kq, x13_1, rfl, HA, HJ1, BK151, HB⟩ := hcut
  cases kq with
  | zero => exact absurd HA.out (by simp [plan_RightOp.j0])
  | succ kj1 =>
   have H := HA.out
   clear HA
   simp only [plan_RightOp.j0] at H
   by_cases c7 : x13_1 = true
   ·subst c7
    have H1 : (some false) = some r := by rw [if_pos rfl] at H; exact H
    clear H
    have H := H1
    clear H1
    obtain rfl := Option.some.inj H
    go_wp2
    go_ret
    exact ⟨by first | rfl | (simp [errW_none, errW_some] <;> rfl) | (simp [*, errW_none, errW_some] <;> rfl), by repeat (with_reducible first | exact HB.out | apply below_t | refine below_set ?_ GE151.out)⟩
   ·replace c7 := Bool.eq_false_iff.mpr c7
    subst c7
    have H1 : ((plan_fields.f a0_0).bind fun bt152 => (if bt152.2.2.2 = true then (plan_RightOp.j1 kj1 (decide ((l0_4.length : Int) > 6)) a0_0 a0_1 a0_2 a0_3 l0_4 a0_5 bt152.1 bt152.2.1 bt152.2.2.1 bt152.2.2.2) else (if (l0_4.length : Int) > 0 then (plan_RightOp.j1 kj1 true a0_0 a0_1 a0_2 a0_3 l0_4 a0_5 bt152.1 bt152.2.1 bt152.2.2.1 bt152.2.2.2) else (if a0_5 = true then (plan_RightOp.j1 kj1 true a0_0 a0_1 a0_2 a0_3 l0_4 a0_5 bt152.1 bt152.2.1 bt152.2.2.1 bt152.2.2.2) else (plan_RightOp.j1 kj1 (decide ((l0_4.length : Int) > 6)) a0_0 a0_1 a0_2 a0_3 l0_4 a0_5 bt152.1 bt152.2.1 bt152.2.2.1 bt152.2.2.2))))) = some r := by rw [if_neg (show ¬ (false = true) by decide)] at H; exact H
    clear H
    have H := H1
    clear H1
    replace H := Option.bind_eq_some_iff.mp H
    obtain ⟨⟨t152, t153, t154, t155⟩, A80, H⟩ := H
    try dsimp only at H
    have A8 := Aside0.mk A80
    clear A80
    have HC9 := Aside0.mk H
    clear H
    have hcz10 := blk6 BK151.out
    go_upto_region 4 with (first | ((with_reducible refine gate_callee (f := 62) rfl ?_); refine goesL_ (some 16) rfl rfl Try.func62 (by kernel_rfl) rfl #[.int .i64 a0_0] rfl (by (try simp only [List.map_toArray, List.map_cons, List.map_nil]); first | done | rfl | simp) ?_; (with_reducible refine (plan_fields.calls a0_0 t152 t153 t154 t155 _ A8.out).mono ?_); rintro e w11 ⟨rfl, hb⟩; refine ⟨_, rfl, ?_⟩; have n0_ := Aside0.mk (blk_below (g := gb151) (o := .cells #[.int .i64 a0_0, .int .i64 a0_1, .int .i64 a0_2, .int .i64 a0_3, .slice A0_4 l0_4.length c0_4, .bool a0_5] 39 (0, 0)) (by exact blk_w BK151.out) hb); have n1_ := Aside0.mk (below_step (by repeat (with_reducible first | exact HB.out | apply below_t | refine below_set ?_ GE151.out)) hb); clear BK151; clear HB; have BK151 := n0_; have HB := n1_; clear n0_ n1_; (try clear hb); (try clear hb2); (try clear hk); (try clear hi)) | ((with_reducible refine gate_dst (N := 3) rfl ?_); (try (refine gate_guard (by rfl) ?_; dsimp only)); refine box_event ?hg (N := 3) ?hd (cs := #[.bool false, .bool false, .bool false, .bool false]) (t := 113) ?hr ?_; (case hd => rfl); (case hg => rfl); (case hr => first | (go_simp; done) | (go_simp; rfl)); intro gb156 hg w12 hbox hb; have n0_ := Aside0.mk (blk_below (g := gb151) (o := .cells #[.int .i64 a0_0, .int .i64 a0_1, .int .i64 a0_2, .int .i64 a0_3, .slice A0_4 l0_4.length c0_4, .bool a0_5] 39 (0, 0)) (by exact blk_w BK151.out) hb); have n1_ := Aside0.mk (below_step (by repeat (with_reducible first | exact HB.out | apply below_t | refine below_set ?_ GE151.out)) hb); have n2_ := Aside0.mk (hbox); have n3_ := Aside0.mk ((by rw [hg]; exact (below_size (by repeat (with_reducible first | exact HB.out | apply below_t | refine below_set ?_ GE151.out))) : w.heap.size ≤ gb156)); have n4_ := Aside0.mk ((by rw [hg]; exact (below_size (by repeat (with_reducible first | exact HB.out | apply below_t | refine below_set ?_ GE151.out))) : w.heap.size ≤ gb156)); have n5_ := Aside0.mk ((by rw [hg]; exact Nat.ne_of_lt (blk_lt (g := gb151) (o := .cells #[.int .i64 a0_0, .int .i64 a0_1, .int .i64 a0_2, .int .i64 a0_3, .slice A0_4 l0_4.length c0_4, .bool a0_5] 39 (0, 0)) (by exact blk_w BK151.out)) : gb151 ≠ gb156)); have n6_ := Aside0.mk ((by rw [hg]; exact Nat.ne_of_gt (blk_lt (g := gb151) (o := .cells #[.int .i64 a0_0, .int .i64 a0_1, .int .i64 a0_2, .int .i64 a0_3, .slice A0_4 l0_4.length c0_4, .bool a0_5] 39 (0, 0)) (by exact blk_w BK151.out)) : gb156 ≠ gb151)); clear BK151; clear HB; have BK151 := n0_; have HB := n1_; have BK156 := n2_; have GW156 := n3_; have GE156 := n4_; have NB151_156 := n5_; have NB156_151 := n6_; clear n0_ n1_ n2_ n3_ n4_ n5_ n6_; clear hb hbox hg; have hnb13 := NB156_151.out; have hnc13 := NB151_156.out; have hcz14 := blk4 BK156.out))
    (try simp only [Act.put, List.setIfInBounds_toArray, List.set_cons_zero, List.set_cons_succ])
    go_cut [35] (fun v35 wc => ∃ (kq : Nat) (x35_8 : Bool), v35 = .bool x35_8 ∧ Aside0 (plan_RightOp.j1 kq x35_8 a0_0 a0_1 a0_2 a0_3 l0_4 a0_5 t152 t153 t154 t155 = some r) ∧ Aside0 (kq ≤ kj1) ∧ Aside0 (wc.heap[gb151]? = some (.cells #[.int .i64 a0_0, .int .i64 a0_1, .int .i64 a0_2, .int .i64 a0_3, (.slice A0_4 l0_4.length c0_4), .bool a0_5] 39 (0, 0))) ∧ Aside0 (wc.heap[gb156]? = some (.cells #[.bool t152, .bool t153, .bool t154, .bool t155] 113 (0, 0))) ∧ Aside0 (Below w.heap.size w wc))
    case first =>
     have H := HC9.out
     clear HC9
     by_cases c15 : t155 = true
     ·subst c15
      have H1 : (plan_RightOp.j1 kj1 (decide ((l0_4.length : Int) > 6)) a0_0 a0_1 a0_2 a0_3 l0_4 a0_5 t152 t153 t154 true) = some r := by rw [if_pos rfl] at H; exact H
      clear H
      have H := H1
      clear H1
      have H' := Aside0.mk H
      clear H
      have hnb16 := NB156_151.out
      have hnc16 := NB151_156.out
      have hcz17 := blk4 BK156.out
      have hcz18 := blk6 BK151.out
      go_wp2
      go_meet
      case rel => exact ⟨_, (decide ((l0_4.length : Int) > 6)), (by first | rfl | (simp; done) | (simp [*]; done)), H', ⟨by have := HJ1.out; first | omega | exact Nat.le_refl _⟩, ⟨by refine blk_w ?_; refine blk_far (blk_w ?_) NB151_156.out _; refine blk_far (blk_w ?_) NB151_156.out _; refine blk_far (blk_w ?_) NB151_156.out _; exact blk_far (blk_w BK151.out) NB151_156.out _⟩, ⟨by refine blk_w ?_; refine blk_put (cs := #[.bool t152, .bool t153, .bool t154, .bool false]) ?_ 3 _ rfl; refine blk_w ?_; refine blk_put (cs := #[.bool t152, .bool t153, .bool false, .bool false]) ?_ 2 _ rfl; refine blk_w ?_; refine blk_put (cs := #[.bool t152, .bool false, .bool false, .bool false]) ?_ 1 _ rfl; refine blk_w ?_; refine blk_put (cs := #[.bool false, .bool false, .bool false, .bool false]) ?_ 0 _ rfl; exact blk_w BK156.out⟩, ⟨by repeat (with_reducible first | exact HB.out | apply below_t | refine below_set ?_ GE151.out | refine below_set ?_ GE156.out)⟩⟩
     ·replace c15 := Bool.eq_false_iff.mpr c15
      subst c15
      have H1 : (if (l0_4.length : Int) > 0 then (plan_RightOp.j1 kj1 true a0_0 a0_1 a0_2 a0_3 l0_4 a0_5 t152 t153 t154 false) else (if a0_5 = true then (plan_RightOp.j1 kj1 true a0_0 a0_1 a0_2 a0_3 l0_4 a0_5 t152 t153 t154 false) else (plan_RightOp.j1 kj1 (decide ((l0_4.length : Int) > 6)) a0_0 a0_1 a0_2 a0_3 l0_4 a0_5 t152 t153 t154 false))) = some r := by rw [if_neg (show ¬ (false = true) by decide)] at H; exact H
      clear H
      have H := H1
      clear H1
      by_cases c19 : (l0_4.length : Int) > 0
      ·rw [if_pos c19] at H
       have c19b0 : decide (0 < (l0_4.length : Int)) = true := decide_eq_true c19
       have c19b1 : decide (0 < l0_4.length) = true := decide_eq_true (by omega)
       clear c19
       (first | rw [c19b0] | (simp only [i64_w, i32_w]; rw [c19b0]) | skip)
       have H' := Aside0.mk H
       clear H
       have hnb20 := NB156_151.out
       have hnc20 := NB151_156.out
       have hcz21 := blk4 BK156.out
       have hcz22 := blk6 BK151.out
       go_wp2
       go_meet
       case rel => exact ⟨_, (true), (by first | rfl | (simp; done) | (simp [*]; done)), H', ⟨by have := HJ1.out; first | omega | exact Nat.le_refl _⟩, ⟨by refine blk_w ?_; refine blk_far (blk_w ?_) NB151_156.out _; refine blk_far (blk_w ?_) NB151_156.out _; refine blk_far (blk_w ?_) NB151_156.out _; exact blk_far (blk_w BK151.out) NB151_156.out _⟩, ⟨by refine blk_w ?_; refine blk_put (cs := #[.bool t152, .bool t153, .bool t154, .bool false]) ?_ 3 _ rfl; refine blk_w ?_; refine blk_put (cs := #[.bool t152, .bool t153, .bool false, .bool false]) ?_ 2 _ rfl; refine blk_w ?_; refine blk_put (cs := #[.bool t152, .bool false, .bool false, .bool false]) ?_ 1 _ rfl; refine blk_w ?_; refine blk_put (cs := #[.bool false, .bool false, .bool false, .bool false]) ?_ 0 _ rfl; exact blk_w BK156.out⟩, ⟨by repeat (with_reducible first | exact HB.out | apply below_t | refine below_set ?_ GE151.out | refine below_set ?_ GE156.out)⟩⟩
      ·rw [if_neg c19] at H
       have c19b0 : decide (0 < (l0_4.length : Int)) = false := decide_eq_false c19
       have c19b1 : decide (0 < l0_4.length) = false := decide_eq_false (by omega)
       clear c19
       (first | rw [c19b0] | (simp only [i64_w, i32_w]; rw [c19b0]) | skip)
       by_cases c23 : a0_5 = true
       ·subst c23
        have H1 : (plan_RightOp.j1 kj1 true a0_0 a0_1 a0_2 a0_3 l0_4 true t152 t153 t154 false) = some r := by rw [if_pos rfl] at H; exact H
        clear H
        have H := H1
        clear H1
        have H' := Aside0.mk H
        clear H
        have hnb24 := NB156_151.out
        have hnc24 := NB151_156.out
        have hcz25 := blk4 BK156.out
        have hcz26 := blk6 BK151.out
        go_wp2
        go_meet
        case rel => exact ⟨_, (true), (by first | rfl | (simp; done) | (simp [*]; done)), H', ⟨by have := HJ1.out; first | omega | exact Nat.le_refl _⟩, ⟨by refine blk_w ?_; refine blk_far (blk_w ?_) NB151_156.out _; refine blk_far (blk_w ?_) NB151_156.out _; refine blk_far (blk_w ?_) NB151_156.out _; exact blk_far (blk_w BK151.out) NB151_156.out _⟩, ⟨by refine blk_w ?_; refine blk_put (cs := #[.bool t152, .bool t153, .bool t154, .bool false]) ?_ 3 _ rfl; refine blk_w ?_; refine blk_put (cs := #[.bool t152, .bool t153, .bool false, .bool false]) ?_ 2 _ rfl; refine blk_w ?_; refine blk_put (cs := #[.bool t152, .bool false, .bool false, .bool false]) ?_ 1 _ rfl; refine blk_w ?_; refine blk_put (cs := #[.bool false, .bool false, .bool false, .bool false]) ?_ 0 _ rfl; exact blk_w BK156.out⟩, ⟨by repeat (with_reducible first | exact HB.out | apply below_t | refine below_set ?_ GE151.out | refine below_set ?_ GE156.out)⟩⟩
       ·replace c23 := Bool.eq_false_iff.mpr c23
        subst c23
        have H1 : (plan_RightOp.j1 kj1 (decide ((l0_4.length : Int) > 6)) a0_0 a0_1 a0_2 a0_3 l0_4 false t152 t153 t154 false) = some r := by rw [if_neg (show ¬ (false = true) by decide)] at H; exact H
        clear H
        have H := H1
        clear H1
        have H' := Aside0.mk H
        clear H
        have hnb27 := NB156_151.out
        have hnc27 := NB151_156.out
        have hcz28 := blk4 BK156.out
        have hcz29 := blk6 BK151.out
        go_wp2
        go_meet
        case rel => exact ⟨_, (decide ((l0_4.length : Int) > 6)), (by first | rfl | (simp; done) | (simp [*]; done)), H', ⟨by have := HJ1.out; first | omega | exact Nat.le_refl _⟩, ⟨by refine blk_w ?_; refine blk_far (blk_w ?_) NB151_156.out _; refine blk_far (blk_w ?_) NB151_156.out _; refine blk_far (blk_w ?_) NB151_156.out _; exact blk_far (blk_w BK151.out) NB151_156.out _⟩, ⟨by refine blk_w ?_; refine blk_put (cs := #[.bool t152, .bool t153, .bool t154, .bool false]) ?_ 3 _ rfl; refine blk_w ?_; refine blk_put (cs := #[.bool t152, .bool t153, .bool false, .bool false]) ?_ 2 _ rfl; refine blk_w ?_; refine blk_put (cs := #[.bool t152, .bool false, .bool false, .bool false]) ?_ 1 _ rfl; refine blk_w ?_; refine blk_put (cs := #[.bool false, .bool false, .bool false, .bool false]) ?_ 0 _ rfl; exact blk_w BK156.out⟩, ⟨by repeat (with_reducible first | exact HB.out | apply below_t | refine below_set ?_ GE151.out | refine below_set ?_ GE156.out)⟩⟩
    case rest =>
     clear HC9
     (try clear c7); (try clear hcz10); (try clear hcz14); (try clear hcz10); (try clear hcz14)
     obtain ⟨kq, x35_8, rfl, HA, HJ8, BK151, BK156, HB⟩ := hcut
     cases kq with
     | zero => exact absurd HA.out (by simp [plan_RightOp.j1])
     | succ kj8 =>
      have H := HA.out
      clear HA
      simp only [plan_RightOp.j1] at H
      by_cases c30 : x35_8 = true
      ·subst c30
       have H1 : (some false) = some r := by rw [if_pos rfl] at H; exact H
       clear H
       have H := H1
       clear H1
       obtain rfl := Option.some.inj H
       go_wp2
       go_ret
       exact ⟨by first | rfl | (simp [errW_none, errW_some] <;> rfl) | (simp [*, errW_none, errW_some] <;> rfl), by repeat (with_reducible first | exact HB.out | apply below_t | refine below_set ?_ GE151.out | refine below_set ?_ GE156.out)⟩
      ·replace c30 := Bool.eq_false_iff.mpr c30
       subst c30
       have H1 : (plan_RightOp.l0 kj8 l0_4 (l0_4.length : Int) 0 a0_0 a0_1 a0_2 a0_3 l0_4 a0_5 t152 t153 t154 t155) = some r := by rw [if_neg (show ¬ (false = true) by decide)] at H; exact H
       clear H
       have H := H1
       clear H1
       have H' := Aside0.mk H
       clear H
       have hnb31 := NB151_156.out
       have hnc31 := NB156_151.out
       have hcz32 := blk6 BK151.out
       go_wp2
       go_loopg [39] kj8 (fun kq v39 w' => ∃ (x39_3 : Int), v39 = .int .i64 x39_3 ∧ Aside0 (plan_RightOp.l0 kq l0_4 (l0_4.length : Int) x39_3 a0_0 a0_1 a0_2 a0_3 l0_4 a0_5 t152 t153 t154 t155 = some r) ∧ Aside0 (kq ≤ kj8) ∧ Aside0 (w'.heap[gb151]? = some (.cells #[.int .i64 a0_0, .int .i64 a0_1, .int .i64 a0_2, .int .i64 a0_3, (.slice A0_4 l0_4.length c0_4), .bool a0_5] 39 (0, 0))) ∧ Aside0 (w'.heap[gb156]? = some (.cells #[.bool t152, .bool t153, .bool t154, .bool t155] 113 (0, 0))) ∧ Aside0 (Below w.heap.size w w'))
       case atStart => exact ⟨(0), (by first | rfl | (simp; done) | (simp [*]; done)), H', ⟨Nat.le_refl _⟩, ⟨by exact blk_w BK151.out⟩, ⟨by exact blk_w BK156.out⟩, ⟨by repeat (with_reducible first | exact HB.out | apply below_t | refine below_set ?_ GE151.out | refine below_set ?_ GE156.out)⟩⟩
       case round =>
        clear H'
        (try clear c7); (try clear c30); (try clear hcz10); (try clear hcz14); (try clear hcz32); (try clear hcz10); (try clear hcz14); (try clear hcz32)
        obtain ⟨x39_3, rfl, HA, HK3, BK151, BK156, HB⟩ := hrel
        cases gk with
        | zero => exact absurd HA.out (by simp [plan_RightOp.l0])
        | succ k3 =>
         have H := HA.out
         clear HA
         simp only [plan_RightOp.l0] at H
         by_cases c33 : x39_3 < (l0_4.length : Int)
         ·rw [if_pos c33] at H
          have c33b0 : decide (x39_3 < (l0_4.length : Int)) = true := decide_eq_true c33
          clear c33
          by_cases c34 : 0 ≤ x39_3
          ·rw [if_pos c34] at H
           have c34b0 : decide (0 ≤ x39_3) = true := decide_eq_true c34
           clear c34
           by_cases c35 : x39_3 < (l0_4.length : Int)
           ·rw [if_pos c35] at H
            have c35b0 : decide (x39_3 < (l0_4.length : Int)) = true := decide_eq_true c35
            clear c35
            replace H := Option.bind_eq_some_iff.mp H
            obtain ⟨t162, A360, H⟩ := H
            try dsimp only at H
            have A36 := Aside0.mk A360
            clear A360
            by_cases c37 : t162 = true
            ·subst c37
             have H1 : ((plan_value.f ((rd_T116 l0_4 x39_3).f0) ((rd_T116 l0_4 x39_3).f2)).bind fun t163 => (if t163 = true then (plan_RightOp.l0 k3 l0_4 (l0_4.length : Int) (wrap64 (x39_3 + 1)) a0_0 a0_1 a0_2 a0_3 l0_4 a0_5 t152 t153 t154 t155) else (some false))) = some r := by rw [if_pos rfl] at H; exact H
             clear H
             have H := H1
             clear H1
             replace H := Option.bind_eq_some_iff.mp H
             obtain ⟨t163, A380, H⟩ := H
             try dsimp only at H
             have A38 := Aside0.mk A380
             clear A380
             by_cases c39 : t163 = true
             ·subst c39
              have H1 : (plan_RightOp.l0 k3 l0_4 (l0_4.length : Int) (wrap64 (x39_3 + 1)) a0_0 a0_1 a0_2 a0_3 l0_4 a0_5 t152 t153 t154 t155) = some r := by rw [if_pos rfl] at H; exact H
              clear H
              have H := H1
              clear H1
              have H' := Aside0.mk H
              clear H
              have p160 : 0 ≤ (x39_3 : Int) := of_decide_eq_true (by first | (with_reducible assumption) | assumption)
              have q160 : x39_3 < (l0_4.length : Int) := of_decide_eq_true (by first | (with_reducible assumption) | assumption)
              obtain ⟨ad160, e160, hx160_0, hx160_1, hx160_2⟩ := at_T116 HR0_4.out x39_3 p160 q160
              cases e160
              replace hx160_0 := (HB.out.cell (World.block_lt_of_cell? w _ hx160_0)).trans hx160_0
              replace hx160_1 := (HB.out.cell (World.block_lt_of_cell? w _ hx160_1)).trans hx160_1
              replace hx160_2 := (HB.out.cell (World.block_lt_of_cell? w _ hx160_2)).trans hx160_2
              replace p160 := eq_true p160
              replace q160 := eq_true q160
              go_wp2_with (first | ((with_reducible refine gate_dst (N := 5) rfl ?_); (try (refine gate_guard (by rfl) ?_; dsimp only)); refine box_event ?hg (N := 5) ?hd (cs := #[.bool false, .int .i64 0, .int .i64 0]) (t := 116) ?hr ?_; (case hd => rfl); (case hg => rfl); (case hr => first | (go_simp; done) | (go_simp; rfl)); intro gb161 hg w40 hbox hb; have n0_ := Aside0.mk (blk_below (g := gb151) (o := .cells #[.int .i64 a0_0, .int .i64 a0_1, .int .i64 a0_2, .int .i64 a0_3, .slice (some ad160) l0_4.length c0_4, .bool a0_5] 39 (0, 0)) (by exact blk_w BK151.out) hb); have n1_ := Aside0.mk (blk_below (g := gb156) (o := .cells #[.bool t152, .bool t153, .bool t154, .bool t155] 113 (0, 0)) (by exact blk_w BK156.out) hb); have n2_ := Aside0.mk (below_step (by repeat (with_reducible first | exact HB.out | apply below_t | refine below_set ?_ GE151.out | refine below_set ?_ GE156.out)) hb); have n3_ := Aside0.mk (hbox); have n4_ := Aside0.mk ((by rw [hg]; exact (below_size (by repeat (with_reducible first | exact HB.out | apply below_t | refine below_set ?_ GE151.out | refine below_set ?_ GE156.out))) : w.heap.size ≤ gb161)); have n5_ := Aside0.mk ((by rw [hg]; exact (below_size (by repeat (with_reducible first | exact HB.out | apply below_t | refine below_set ?_ GE151.out | refine below_set ?_ GE156.out))) : w.heap.size ≤ gb161)); have n6_ := Aside0.mk ((by rw [hg]; exact Nat.ne_of_lt (blk_lt (g := gb151) (o := .cells #[.int .i64 a0_0, .int .i64 a0_1, .int .i64 a0_2, .int .i64 a0_3, .slice (some ad160) l0_4.length c0_4, .bool a0_5] 39 (0, 0)) (by exact blk_w BK151.out)) : gb151 ≠ gb161)); have n7_ := Aside0.mk ((by rw [hg]; exact Nat.ne_of_gt (blk_lt (g := gb151) (o := .cells #[.int .i64 a0_0, .int .i64 a0_1, .int .i64 a0_2, .int .i64 a0_3, .slice (some ad160) l0_4.length c0_4, .bool a0_5] 39 (0, 0)) (by exact blk_w BK151.out)) : gb161 ≠ gb151)); have n8_ := Aside0.mk ((by rw [hg]; exact Nat.ne_of_lt (blk_lt (g := gb156) (o := .cells #[.bool t152, .bool t153, .bool t154, .bool t155] 113 (0, 0)) (by exact blk_w BK156.out)) : gb156 ≠ gb161)); have n9_ := Aside0.mk ((by rw [hg]; exact Nat.ne_of_gt (blk_lt (g := gb156) (o := .cells #[.bool t152, .bool t153, .bool t154, .bool t155] 113 (0, 0)) (by exact blk_w BK156.out)) : gb161 ≠ gb156)); clear BK151; clear BK156; clear HB; have BK151 := n0_; have BK156 := n1_; have HB := n2_; have BK161 := n3_; have GW161 := n4_; have GE161 := n5_; have NB151_161 := n6_; have NB161_151 := n7_; have NB156_161 := n8_; have NB161_156 := n9_; clear n0_ n1_ n2_ n3_ n4_ n5_ n6_ n7_ n8_ n9_; clear hb hbox hg; have hnb41 := NB161_151.out; have hnc41 := NB151_161.out; have hnb42 := NB161_156.out; have hnc42 := NB156_161.out; have hcz43 := blk3 BK161.out) | ((with_reducible refine gate_callee (f := 63) rfl ?_); refine goesL_ (some 45) rfl rfl Try.func63 (by kernel_rfl) rfl #[.bool true, .int .i64 ((rd_T116 l0_4 x39_3).f1), .int .i64 8] rfl (by (try simp only [List.map_toArray, List.map_cons, List.map_nil]); first | done | rfl | simp) ?_; (with_reducible refine (plan_within.calls true ((rd_T116 l0_4 x39_3).f1) 8 true _ A36.out).mono ?_); rintro e w' ⟨rfl, ⟨nd, rfl⟩⟩; refine ⟨_, rfl, ?_⟩) | (go_at_call 64; (with_reducible refine (plan_value.calls ((rd_T116 l0_4 x39_3).f0) ((rd_T116 l0_4 x39_3).f2) true _ A38.out).mono ?_); rintro e w' ⟨rfl, ⟨nd, rfl⟩⟩))
              go_roundg k3
              case measure => have := HJ1.out; have := HJ8.out; have := HK3.out; omega
              case rel => exact ⟨(wrap64 (x39_3 + 1)), (by first | rfl | (simp; done) | (simp [*]; done)), H', ⟨by have := HJ1.out; have := HJ8.out; have := HK3.out; omega⟩, ⟨by refine blk_w ?_; refine blk_far (blk_w ?_) NB151_161.out _; refine blk_far (blk_w ?_) NB151_161.out _; exact blk_far (blk_w BK151.out) NB151_161.out _⟩, ⟨by refine blk_w ?_; refine blk_far (blk_w ?_) NB156_161.out _; refine blk_far (blk_w ?_) NB156_161.out _; exact blk_far (blk_w BK156.out) NB156_161.out _⟩, ⟨by repeat (with_reducible first | exact HB.out | apply below_t | refine below_set ?_ GE151.out | refine below_set ?_ GE156.out | refine below_set ?_ GE161.out)⟩⟩
             ·replace c39 := Bool.eq_false_iff.mpr c39
              subst c39
              have H1 : (some false) = some r := by rw [if_neg (show ¬ (false = true) by decide)] at H; exact H
              clear H
              have H := H1
              clear H1
              obtain rfl := Option.some.inj H
              have p160 : 0 ≤ (x39_3 : Int) := of_decide_eq_true (by first | (with_reducible assumption) | assumption)
              have q160 : x39_3 < (l0_4.length : Int) := of_decide_eq_true (by first | (with_reducible assumption) | assumption)
              obtain ⟨ad160, e160, hx160_0, hx160_1, hx160_2⟩ := at_T116 HR0_4.out x39_3 p160 q160
              cases e160
              replace hx160_0 := (HB.out.cell (World.block_lt_of_cell? w _ hx160_0)).trans hx160_0
              replace hx160_1 := (HB.out.cell (World.block_lt_of_cell? w _ hx160_1)).trans hx160_1
              replace hx160_2 := (HB.out.cell (World.block_lt_of_cell? w _ hx160_2)).trans hx160_2
              replace p160 := eq_true p160
              replace q160 := eq_true q160
              go_wp2_with (first | ((with_reducible refine gate_dst (N := 5) rfl ?_); (try (refine gate_guard (by rfl) ?_; dsimp only)); refine box_event ?hg (N := 5) ?hd (cs := #[.bool false, .int .i64 0, .int .i64 0]) (t := 116) ?hr ?_; (case hd => rfl); (case hg => rfl); (case hr => first | (go_simp; done) | (go_simp; rfl)); intro gb161 hg w44 hbox hb; have n0_ := Aside0.mk (blk_below (g := gb151) (o := .cells #[.int .i64 a0_0, .int .i64 a0_1, .int .i64 a0_2, .int .i64 a0_3, .slice (some ad160) l0_4.length c0_4, .bool a0_5] 39 (0, 0)) (by exact blk_w BK151.out) hb); have n1_ := Aside0.mk (blk_below (g := gb156) (o := .cells #[.bool t152, .bool t153, .bool t154, .bool t155] 113 (0, 0)) (by exact blk_w BK156.out) hb); have n2_ := Aside0.mk (below_step (by repeat (with_reducible first | exact HB.out | apply below_t | refine below_set ?_ GE151.out | refine below_set ?_ GE156.out)) hb); have n3_ := Aside0.mk (hbox); have n4_ := Aside0.mk ((by rw [hg]; exact (below_size (by repeat (with_reducible first | exact HB.out | apply below_t | refine below_set ?_ GE151.out | refine below_set ?_ GE156.out))) : w.heap.size ≤ gb161)); have n5_ := Aside0.mk ((by rw [hg]; exact (below_size (by repeat (with_reducible first | exact HB.out | apply below_t | refine below_set ?_ GE151.out | refine below_set ?_ GE156.out))) : w.heap.size ≤ gb161)); have n6_ := Aside0.mk ((by rw [hg]; exact Nat.ne_of_lt (blk_lt (g := gb151) (o := .cells #[.int .i64 a0_0, .int .i64 a0_1, .int .i64 a0_2, .int .i64 a0_3, .slice (some ad160) l0_4.length c0_4, .bool a0_5] 39 (0, 0)) (by exact blk_w BK151.out)) : gb151 ≠ gb161)); have n7_ := Aside0.mk ((by rw [hg]; exact Nat.ne_of_gt (blk_lt (g := gb151) (o := .cells #[.int .i64 a0_0, .int .i64 a0_1, .int .i64 a0_2, .int .i64 a0_3, .slice (some ad160) l0_4.length c0_4, .bool a0_5] 39 (0, 0)) (by exact blk_w BK151.out)) : gb161 ≠ gb151)); have n8_ := Aside0.mk ((by rw [hg]; exact Nat.ne_of_lt (blk_lt (g := gb156) (o := .cells #[.bool t152, .bool t153, .bool t154, .bool t155] 113 (0, 0)) (by exact blk_w BK156.out)) : gb156 ≠ gb161)); have n9_ := Aside0.mk ((by rw [hg]; exact Nat.ne_of_gt (blk_lt (g := gb156) (o := .cells #[.bool t152, .bool t153, .bool t154, .bool t155] 113 (0, 0)) (by exact blk_w BK156.out)) : gb161 ≠ gb156)); clear BK151; clear BK156; clear HB; have BK151 := n0_; have BK156 := n1_; have HB := n2_; have BK161 := n3_; have GW161 := n4_; have GE161 := n5_; have NB151_161 := n6_; have NB161_151 := n7_; have NB156_161 := n8_; have NB161_156 := n9_; clear n0_ n1_ n2_ n3_ n4_ n5_ n6_ n7_ n8_ n9_; clear hb hbox hg; have hnb45 := NB161_151.out; have hnc45 := NB151_161.out; have hnb46 := NB161_156.out; have hnc46 := NB156_161.out; have hcz47 := blk3 BK161.out) | ((with_reducible refine gate_callee (f := 63) rfl ?_); refine goesL_ (some 45) rfl rfl Try.func63 (by kernel_rfl) rfl #[.bool true, .int .i64 ((rd_T116 l0_4 x39_3).f1), .int .i64 8] rfl (by (try simp only [List.map_toArray, List.map_cons, List.map_nil]); first | done | rfl | simp) ?_; (with_reducible refine (plan_within.calls true ((rd_T116 l0_4 x39_3).f1) 8 true _ A36.out).mono ?_); rintro e w' ⟨rfl, ⟨nd, rfl⟩⟩; refine ⟨_, rfl, ?_⟩) | (go_at_call 64; (with_reducible refine (plan_value.calls ((rd_T116 l0_4 x39_3).f0) ((rd_T116 l0_4 x39_3).f2) false _ A38.out).mono ?_); rintro e w' ⟨rfl, ⟨nd, rfl⟩⟩))
              go_ret
              exact ⟨by first | rfl | (simp [errW_none, errW_some] <;> rfl) | (simp [*, errW_none, errW_some] <;> rfl), by repeat (with_reducible first | exact HB.out | apply below_t | refine below_set ?_ GE151.out | refine below_set ?_ GE156.out | refine below_set ?_ GE161.out)⟩
            ·replace c37 := Bool.eq_false_iff.mpr c37
             subst c37
             have H1 : (some false) = some r := by rw [if_neg (show ¬ (false = true) by decide)] at H; exact H
             clear H
             have H := H1
             clear H1
             obtain rfl := Option.some.inj H
             have p160 : 0 ≤ (x39_3 : Int) := of_decide_eq_true (by first | (with_reducible assumption) | assumption)
             have q160 : x39_3 < (l0_4.length : Int) := of_decide_eq_true (by first | (with_reducible assumption) | assumption)
             obtain ⟨ad160, e160, hx160_0, hx160_1, hx160_2⟩ := at_T116 HR0_4.out x39_3 p160 q160
             cases e160
             replace hx160_0 := (HB.out.cell (World.block_lt_of_cell? w _ hx160_0)).trans hx160_0
             replace hx160_1 := (HB.out.cell (World.block_lt_of_cell? w _ hx160_1)).trans hx160_1
             replace hx160_2 := (HB.out.cell (World.block_lt_of_cell? w _ hx160_2)).trans hx160_2
             replace p160 := eq_true p160
             replace q160 := eq_true q160
             go_wp2_with (first | ((with_reducible refine gate_dst (N := 5) rfl ?_); (try (refine gate_guard (by rfl) ?_; dsimp only)); refine box_event ?hg (N := 5) ?hd (cs := #[.bool false, .int .i64 0, .int .i64 0]) (t := 116) ?hr ?_; (case hd => rfl); (case hg => rfl); (case hr => first | (go_simp; done) | (go_simp; rfl)); intro gb161 hg w48 hbox hb; have n0_ := Aside0.mk (blk_below (g := gb151) (o := .cells #[.int .i64 a0_0, .int .i64 a0_1, .int .i64 a0_2, .int .i64 a0_3, .slice (some ad160) l0_4.length c0_4, .bool a0_5] 39 (0, 0)) (by exact blk_w BK151.out) hb); have n1_ := Aside0.mk (blk_below (g := gb156) (o := .cells #[.bool t152, .bool t153, .bool t154, .bool t155] 113 (0, 0)) (by exact blk_w BK156.out) hb); have n2_ := Aside0.mk (below_step (by repeat (with_reducible first | exact HB.out | apply below_t | refine below_set ?_ GE151.out | refine below_set ?_ GE156.out)) hb); have n3_ := Aside0.mk (hbox); have n4_ := Aside0.mk ((by rw [hg]; exact (below_size (by repeat (with_reducible first | exact HB.out | apply below_t | refine below_set ?_ GE151.out | refine below_set ?_ GE156.out))) : w.heap.size ≤ gb161)); have n5_ := Aside0.mk ((by rw [hg]; exact (below_size (by repeat (with_reducible first | exact HB.out | apply below_t | refine below_set ?_ GE151.out | refine below_set ?_ GE156.out))) : w.heap.size ≤ gb161)); have n6_ := Aside0.mk ((by rw [hg]; exact Nat.ne_of_lt (blk_lt (g := gb151) (o := .cells #[.int .i64 a0_0, .int .i64 a0_1, .int .i64 a0_2, .int .i64 a0_3, .slice (some ad160) l0_4.length c0_4, .bool a0_5] 39 (0, 0)) (by exact blk_w BK151.out)) : gb151 ≠ gb161)); have n7_ := Aside0.mk ((by rw [hg]; exact Nat.ne_of_gt (blk_lt (g := gb151) (o := .cells #[.int .i64 a0_0, .int .i64 a0_1, .int .i64 a0_2, .int .i64 a0_3, .slice (some ad160) l0_4.length c0_4, .bool a0_5] 39 (0, 0)) (by exact blk_w BK151.out)) : gb161 ≠ gb151)); have n8_ := Aside0.mk ((by rw [hg]; exact Nat.ne_of_lt (blk_lt (g := gb156) (o := .cells #[.bool t152, .bool t153, .bool t154, .bool t155] 113 (0, 0)) (by exact blk_w BK156.out)) : gb156 ≠ gb161)); have n9_ := Aside0.mk ((by rw [hg]; exact Nat.ne_of_gt (blk_lt (g := gb156) (o := .cells #[.bool t152, .bool t153, .bool t154, .bool t155] 113 (0, 0)) (by exact blk_w BK156.out)) : gb161 ≠ gb156)); clear BK151; clear BK156; clear HB; have BK151 := n0_; have BK156 := n1_; have HB := n2_; have BK161 := n3_; have GW161 := n4_; have GE161 := n5_; have NB151_161 := n6_; have NB161_151 := n7_; have NB156_161 := n8_; have NB161_156 := n9_; clear n0_ n1_ n2_ n3_ n4_ n5_ n6_ n7_ n8_ n9_; clear hb hbox hg; have hnb49 := NB161_151.out; have hnc49 := NB151_161.out; have hnb50 := NB161_156.out; have hnc50 := NB156_161.out; have hcz51 := blk3 BK161.out) | ((with_reducible refine gate_callee (f := 63) rfl ?_); refine goesL_ (some 45) rfl rfl Try.func63 (by kernel_rfl) rfl #[.bool true, .int .i64 ((rd_T116 l0_4 x39_3).f1), .int .i64 8] rfl (by (try simp only [List.map_toArray, List.map_cons, List.map_nil]); first | done | rfl | simp) ?_; (with_reducible refine (plan_within.calls true ((rd_T116 l0_4 x39_3).f1) 8 false _ A36.out).mono ?_); rintro e w' ⟨rfl, ⟨nd, rfl⟩⟩; refine ⟨_, rfl, ?_⟩))
             go_ret
             exact ⟨by first | rfl | (simp [errW_none, errW_some] <;> rfl) | (simp [*, errW_none, errW_some] <;> rfl), by repeat (with_reducible first | exact HB.out | apply below_t | refine below_set ?_ GE151.out | refine below_set ?_ GE156.out | refine below_set ?_ GE161.out)⟩
           ·rw [if_neg c35] at H
            exact absurd H (by simp)
          ·rw [if_neg c34] at H
           exact absurd H (by simp)
         ·rw [if_neg c33] at H
          have c33b0 : decide (x39_3 < (l0_4.length : Int)) = false := decide_eq_false c33
          clear c33
          replace H := Option.bind_eq_some_iff.mp H
          obtain ⟨t157, A520, H⟩ := H
          try dsimp only at H
          have A52 := Aside0.mk A520
          clear A520
          by_cases c53 : t157 = true
          ·subst c53
           have H1 : ((plan_within.f t153 a0_2 4).bind fun t158 => (if t158 = true then ((plan_value.f t154 a0_3).bind fun t159 => (some t159)) else (some false))) = some r := by rw [if_pos rfl] at H; exact H
           clear H
           have H := H1
           clear H1
           replace H := Option.bind_eq_some_iff.mp H
           obtain ⟨t158, A540, H⟩ := H
           try dsimp only at H
           have A54 := Aside0.mk A540
           clear A540
           by_cases c55 : t158 = true
           ·subst c55
            have H1 : ((plan_value.f t154 a0_3).bind fun t159 => (some t159)) = some r := by rw [if_pos rfl] at H; exact H
            clear H
            have H := H1
            clear H1
            replace H := Option.bind_eq_some_iff.mp H
            obtain ⟨t159, A560, H⟩ := H
            try dsimp only at H
            have A56 := Aside0.mk A560
            clear A560
            obtain rfl := Option.some.inj H
            have hnb57 := NB156_151.out
            have hnc57 := NB151_156.out
            have hcz58 := blk4 BK156.out
            have hcz59 := blk6 BK151.out
            go_wp2_with (first | ((with_reducible refine gate_callee (f := 63) rfl ?_); refine goesL_ (some 60) rfl rfl Try.func63 (by kernel_rfl) rfl #[.bool t152, .int .i64 a0_1, .int .i64 8] rfl (by (try simp only [List.map_toArray, List.map_cons, List.map_nil]); first | done | rfl | simp) ?_; (with_reducible refine (plan_within.calls t152 a0_1 8 true _ A52.out).mono ?_); rintro e w' ⟨rfl, ⟨nd, rfl⟩⟩; refine ⟨_, rfl, ?_⟩) | (go_at_call 63; (with_reducible refine (plan_within.calls t153 a0_2 4 true _ A54.out).mono ?_); rintro e w' ⟨rfl, ⟨nd, rfl⟩⟩) | (go_at_call 64; (with_reducible refine (plan_value.calls t154 a0_3 t159 _ A56.out).mono ?_); rintro e w' ⟨rfl, ⟨nd, rfl⟩⟩))
            go_ret
            exact ⟨by first | rfl | (simp [errW_none, errW_some] <;> rfl) | (simp [*, errW_none, errW_some] <;> rfl), by repeat (with_reducible first | exact HB.out | apply below_t | refine below_set ?_ GE151.out | refine below_set ?_ GE156.out)⟩
           ·replace c55 := Bool.eq_false_iff.mpr c55
            subst c55
            have H1 : (some false) = some r := by rw [if_neg (show ¬ (false = true) by decide)] at H; exact H
            clear H
            have H := H1
            clear H1
            obtain rfl := Option.some.inj H
            have hnb60 := NB156_151.out
            have hnc60 := NB151_156.out
            have hcz61 := blk4 BK156.out
            have hcz62 := blk6 BK151.out
            go_wp2_with (first | ((with_reducible refine gate_callee (f := 63) rfl ?_); refine goesL_ (some 60) rfl rfl Try.func63 (by kernel_rfl) rfl #[.bool t152, .int .i64 a0_1, .int .i64 8] rfl (by (try simp only [List.map_toArray, List.map_cons, List.map_nil]); first | done | rfl | simp) ?_; (with_reducible refine (plan_within.calls t152 a0_1 8 true _ A52.out).mono ?_); rintro e w' ⟨rfl, ⟨nd, rfl⟩⟩; refine ⟨_, rfl, ?_⟩) | (go_at_call 63; (with_reducible refine (plan_within.calls t153 a0_2 4 false _ A54.out).mono ?_); rintro e w' ⟨rfl, ⟨nd, rfl⟩⟩))
            go_ret
            exact ⟨by first | rfl | (simp [errW_none, errW_some] <;> rfl) | (simp [*, errW_none, errW_some] <;> rfl), by repeat (with_reducible first | exact HB.out | apply below_t | refine below_set ?_ GE151.out | refine below_set ?_ GE156.out)⟩
          ·replace c53 := Bool.eq_false_iff.mpr c53
           subst c53
           have H1 : (some false) = some r := by rw [if_neg (show ¬ (false = true) by decide)] at H; exact H
           clear H
           have H := H1
           clear H1
           obtain rfl := Option.some.inj H
           have hnb63 := NB156_151.out
           have hnc63 := NB151_156.out
           have hcz64 := blk4 BK156.out
           have hcz65 := blk6 BK151.out
           go_wp2_with (first | ((with_reducible refine gate_callee (f := 63) rfl ?_); refine goesL_ (some 60) rfl rfl Try.func63 (by kernel_rfl) rfl #[.bool t152, .int .i64 a0_1, .int .i64 8] rfl (by (try simp only [List.map_toArray, List.map_cons, List.map_nil]); first | done | rfl | simp) ?_; (with_reducible refine (plan_within.calls t152 a0_1 8 false _ A52.out).mono ?_); rintro e w' ⟨rfl, ⟨nd, rfl⟩⟩; refine ⟨_, rfl, ?_⟩))
           go_ret
           exact ⟨by first | rfl | (simp [errW_none, errW_some] <;> rfl) | (simp [*, errW_none, errW_some] <;> rfl), by repeat (with_reducible first | exact HB.out | apply below_t | refine below_set ?_ GE151.out | refine below_set ?_ GE156.out)⟩

end Go.Proofs.Ytjmpaeckpbpclaa.PPlK
