-- Out of the translation, by a program of this session.
import Derived.Test.YtjmpaeckpbpclaaWShort
import Derived.Test.YtjmpaeckpbpclaaPPlKx0
import Derived.Test.YtjmpaeckpbpclaaPPlKx6
import Derived.Test.YtjmpaeckpbpclaaPPlKx12
namespace Go.Proofs.Ytjmpaeckpbpclaa.PPlK
open Go.RowKit Go.Proofs.YtjmpaeckpbpclaaW.PrintWords Go.Proofs.YtjmpaeckpbpclaaW.PrintLast Go.Proofs.YtjmpaeckpbpclaaW.PrintMore
attribute [local go_sem] max2_int min2_int max_two min_two max_three min_three max_four min_four   -- for this text's walks alone
set_option linter.unusedVariables false
set_option linter.unusedSimpArgs false

/-! ### handoffref10_Encode: function 27 -/
mutual
def handoffref10_Encode.l0 : Nat → List Int → List (List (S39)) → Int → Int → Option (List Int × Int)
  | 0, _, _, _, _ => none
  | k + 1, x4, x19, x20, x21 => if x21 < x20 then (if 0 ≤ x21 then (if x21 < (x19.length : Int) then (if x4.length < 140737488355328 then (handoffref10_Encode.l1 k (x4 ++ [(((rd_L7 x19 x21).length : Int)) % 256]) x19 x20 x21 (rd_L7 x19 x21) ((rd_L7 x19 x21).length : Int) 0) else (none)) else (none)) else (none)) else (some (x4, 0))
def handoffref10_Encode.l1 : Nat → List Int → List (List (S39)) → Int → Int → List (S39) → Int → Int → Option (List Int × Int)
  | 0, _, _, _, _, _, _, _ => none
  | k + 1, x4, x19, x20, x21, x31, x32, x33 => if x33 < x32 then (if 0 ≤ x33 then (if x33 < (x31.length : Int) then (if x4.length < 140737488355328 then ((some (x4 ++ [(wrap64 (((rd_T39 x31 x33).f0) - 1)) % 256] : List Int)).bind fun y249 => ((handoffref10_HasCh.f ((rd_T39 x31 x33).f0)).bind fun t252 => (if t252 = true then (if y249.length < 140737488355328 then (handoffref10_Encode.j2 k (y249 ++ [((rd_T39 x31 x33).f1) % 256]) x19 x20 x21 x31 x32 x33 ((rd_T39 x31 x33).f0) ((rd_T39 x31 x33).f1) ((rd_T39 x31 x33).f2) ((rd_T39 x31 x33).f3) ((rd_T39 x31 x33).f4) ((rd_T39 x31 x33).f5)) else (none)) else (handoffref10_Encode.j2 k y249 x19 x20 x21 x31 x32 x33 ((rd_T39 x31 x33).f0) ((rd_T39 x31 x33).f1) ((rd_T39 x31 x33).f2) ((rd_T39 x31 x33).f3) ((rd_T39 x31 x33).f4) ((rd_T39 x31 x33).f5))))) else (none)) else (none)) else (none)) else (handoffref10_Encode.l0 k x4 x19 x20 (wrap64 (x21 + 1)))
def handoffref10_Encode.j2 : Nat → List Int → List (List (S39)) → Int → Int → List (S39) → Int → Int → Int → Int → Int → Int → List (S116) → Bool → Option (List Int × Int)
  | 0, _, _, _, _, _, _, _, _, _, _, _, _, _ => none
  | k + 1, x4, x19, x20, x21, x31, x32, x33, x249000, x249001, x249002, x249003, x249004, x249005 => if x249000 = 1 then (if x4.length < 140737488355328 then (handoffref10_Encode.j3 k (x4 ++ [(x249002) % 256]) x19 x20 x21 x31 x32 x33 x249000 x249001 x249002 x249003 x249004 x249005) else (none)) else (handoffref10_Encode.j3 k x4 x19 x20 x21 x31 x32 x33 x249000 x249001 x249002 x249003 x249004 x249005)
def handoffref10_Encode.j3 : Nat → List Int → List (List (S39)) → Int → Int → List (S39) → Int → Int → Int → Int → Int → Int → List (S116) → Bool → Option (List Int × Int)
  | 0, _, _, _, _, _, _, _, _, _, _, _, _, _ => none
  | k + 1, x4, x19, x20, x21, x31, x32, x33, x249000, x249001, x249002, x249003, x249004, x249005 => (handoffref10_HasV.f x249000).bind fun t259 => (if t259 = true then (if x4.length < 140737488355328 then (handoffref10_Encode.j4 k (x4 ++ [(x249003) % 256]) x19 x20 x21 x31 x32 x33 x249000 x249001 x249002 x249003 x249004 x249005) else (none)) else (handoffref10_Encode.j4 k x4 x19 x20 x21 x31 x32 x33 x249000 x249001 x249002 x249003 x249004 x249005))
def handoffref10_Encode.j4 : Nat → List Int → List (List (S39)) → Int → Int → List (S39) → Int → Int → Int → Int → Int → Int → List (S116) → Bool → Option (List Int × Int)
  | 0, _, _, _, _, _, _, _, _, _, _, _, _, _ => none
  | k + 1, x4, x19, x20, x21, x31, x32, x33, x249000, x249001, x249002, x249003, x249004, x249005 => if x249000 = 9 then ((handoffref10_flag.f x249005).bind fun t263 => ((some (([((x249004.length : Int)) % 256, t263] : List Int) : List Int)).bind fun y264 => (if x4.length + y264.length < 140737488355328 then (handoffref10_Encode.j5 k (x4 ++ y264) x19 x20 x21 x31 x32 x33 x249000 x249001 x249002 x249003 x249004 x249005) else (none)))) else (handoffref10_Encode.j5 k x4 x19 x20 x21 x31 x32 x33 x249000 x249001 x249002 x249003 x249004 x249005)
def handoffref10_Encode.j5 : Nat → List Int → List (List (S39)) → Int → Int → List (S39) → Int → Int → Int → Int → Int → Int → List (S116) → Bool → Option (List Int × Int)
  | 0, _, _, _, _, _, _, _, _, _, _, _, _, _ => none
  | k + 1, x4, x19, x20, x21, x31, x32, x33, x249000, x249001, x249002, x249003, x249004, x249005 => handoffref10_Encode.l2 k x4 x19 x20 x21 x31 x32 x33 x249004 (x249004.length : Int) 0
def handoffref10_Encode.l2 : Nat → List Int → List (List (S39)) → Int → Int → List (S39) → Int → Int → List (S116) → Int → Int → Option (List Int × Int)
  | 0, _, _, _, _, _, _, _, _, _, _ => none
  | k + 1, x4, x19, x20, x21, x31, x32, x33, x85, x86, x87 => if x87 < x86 then (if 0 ≤ x87 then (if x87 < (x85.length : Int) then ((handoffref10_flag.f ((rd_T116 x85 x87).f0)).bind fun t272 => ((some (([t272, ((rd_T116 x85 x87).f1) % 256] : List Int) : List Int)).bind fun y273 => (if x4.length + y273.length < 140737488355328 then ((some (x4 ++ y273 : List Int)).bind fun y276 => (if (rd_T116 x85 x87).f0 = true then (if y276.length < 140737488355328 then (handoffref10_Encode.l2 k (y276 ++ [((rd_T116 x85 x87).f2) % 256]) x19 x20 x21 x31 x32 x33 x85 x86 (wrap64 (x87 + 1))) else (none)) else (handoffref10_Encode.l2 k y276 x19 x20 x21 x31 x32 x33 x85 x86 (wrap64 (x87 + 1))))) else (none)))) else (none)) else (none)) else (handoffref10_Encode.l1 k x4 x19 x20 x21 x31 x32 (wrap64 (x33 + 1)))
end
def handoffref10_Encode.f (k : Nat) (l0 : List (List (S39))) : Option (List Int × Int) := (handoffref10_Right.f k l0).bind fun t239 => (if t239 = true then (handoffref10_Encode.l0 k (([(wrap64 ((l0.length : Int) - 1)) % 256] : List Int)) l0 (l0.length : Int) 0) else (some (([] : List Int), 3)))
theorem handoffref10_Encode.mono_l : ∀ k, (∀ y0 y1 y2 y3, LeO (handoffref10_Encode.l0 k y0 y1 y2 y3) (handoffref10_Encode.l0 (k + 1) y0 y1 y2 y3)) ∧ (∀ y0 y1 y2 y3 y4 y5 y6, LeO (handoffref10_Encode.l1 k y0 y1 y2 y3 y4 y5 y6) (handoffref10_Encode.l1 (k + 1) y0 y1 y2 y3 y4 y5 y6)) ∧ (∀ y0 y1 y2 y3 y4 y5 y6 y7 y8 y9 y10 y11 y12, LeO (handoffref10_Encode.j2 k y0 y1 y2 y3 y4 y5 y6 y7 y8 y9 y10 y11 y12) (handoffref10_Encode.j2 (k + 1) y0 y1 y2 y3 y4 y5 y6 y7 y8 y9 y10 y11 y12)) ∧ (∀ y0 y1 y2 y3 y4 y5 y6 y7 y8 y9 y10 y11 y12, LeO (handoffref10_Encode.j3 k y0 y1 y2 y3 y4 y5 y6 y7 y8 y9 y10 y11 y12) (handoffref10_Encode.j3 (k + 1) y0 y1 y2 y3 y4 y5 y6 y7 y8 y9 y10 y11 y12)) ∧ (∀ y0 y1 y2 y3 y4 y5 y6 y7 y8 y9 y10 y11 y12, LeO (handoffref10_Encode.j4 k y0 y1 y2 y3 y4 y5 y6 y7 y8 y9 y10 y11 y12) (handoffref10_Encode.j4 (k + 1) y0 y1 y2 y3 y4 y5 y6 y7 y8 y9 y10 y11 y12)) ∧ (∀ y0 y1 y2 y3 y4 y5 y6 y7 y8 y9 y10 y11 y12, LeO (handoffref10_Encode.j5 k y0 y1 y2 y3 y4 y5 y6 y7 y8 y9 y10 y11 y12) (handoffref10_Encode.j5 (k + 1) y0 y1 y2 y3 y4 y5 y6 y7 y8 y9 y10 y11 y12)) ∧ (∀ y0 y1 y2 y3 y4 y5 y6 y7 y8 y9, LeO (handoffref10_Encode.l2 k y0 y1 y2 y3 y4 y5 y6 y7 y8 y9) (handoffref10_Encode.l2 (k + 1) y0 y1 y2 y3 y4 y5 y6 y7 y8 y9))
 | 0 => ⟨fun _ _ _ _ r h => by simp [handoffref10_Encode.l0] at h, fun _ _ _ _ _ _ _ r h => by simp [handoffref10_Encode.l1] at h, fun _ _ _ _ _ _ _ _ _ _ _ _ _ r h => by simp [handoffref10_Encode.j2] at h, fun _ _ _ _ _ _ _ _ _ _ _ _ _ r h => by simp [handoffref10_Encode.j3] at h, fun _ _ _ _ _ _ _ _ _ _ _ _ _ r h => by simp [handoffref10_Encode.j4] at h, fun _ _ _ _ _ _ _ _ _ _ _ _ _ r h => by simp [handoffref10_Encode.j5] at h, fun _ _ _ _ _ _ _ _ _ _ r h => by simp [handoffref10_Encode.l2] at h⟩
 | k + 1 => by
  obtain ⟨ih0, ih1, ih2, ih3, ih4, ih5, ih6⟩ := handoffref10_Encode.mono_l k
  refine ⟨?_, ?_, ?_, ?_, ?_, ?_, ?_⟩
  all_goals intros
  all_goals first | unfold handoffref10_Encode.l0 | unfold handoffref10_Encode.l1 | unfold handoffref10_Encode.j2 | unfold handoffref10_Encode.j3 | unfold handoffref10_Encode.j4 | unfold handoffref10_Encode.j5 | unfold handoffref10_Encode.l2
  all_goals (repeat' first | with_reducible first | apply ih0 | apply ih1 | apply ih2 | apply ih3 | apply ih4 | apply ih5 | apply ih6 | exact handoffref10_Right.mono _ _ | exact LeO.refl _ | exact LeO.none _ | refine LeO.ite ?_ ?_ | refine LeO.bind ?_ (fun _ => ?_) | apply ih0 | apply ih1 | apply ih2 | apply ih3 | apply ih4 | apply ih5 | apply ih6 | exact handoffref10_Right.mono _ _ | exact LeO.none _ | refine LeO.ite ?_ ?_ | refine LeO.bind ?_ (fun _ => ?_))
theorem handoffref10_Encode.mono : ∀ a0 k, LeO (handoffref10_Encode.f k a0) (handoffref10_Encode.f (k + 1) a0) := by
 intro a0 k
 obtain ⟨ih0, ih1, ih2, ih3, ih4, ih5, ih6⟩ := handoffref10_Encode.mono_l k
 unfold handoffref10_Encode.f
 repeat' first | with_reducible first | apply ih0 | apply ih1 | apply ih2 | apply ih3 | apply ih4 | apply ih5 | apply ih6 | exact handoffref10_Right.mono _ _ | exact LeO.refl _ | exact LeO.none _ | refine LeO.ite ?_ ?_ | refine LeO.bind ?_ (fun _ => ?_) | apply ih0 | apply ih1 | apply ih2 | apply ih3 | apply ih4 | apply ih5 | apply ih6 | exact handoffref10_Right.mono _ _ | exact LeO.none _ | refine LeO.ite ?_ ?_ | refine LeO.bind ?_ (fun _ => ?_)
def handoffref10_Encode.T19 : Bool × List (List Nat × List Nat) := (true, [([], []), ([], []), ([1], [1]), ([2], [2]), ([3], [3]), ([], []), ([5], [5]), ([6], [6]), ([4, 7], [4, 7]), ([0, 8, 7], [0, 8]), ([9, 9, 0, 1, 2, 3, 4, 5, 6, 7, 8, 9], [0, 9])])
def handoffref10_Encode.B19 : List Nat := [0, 0, 2, 6, 14, 0, 32, 96, 254, 511, 1023]
theorem handoffref10_Encode.tab19 : rtab .any (opsOf Try.f27 19) = handoffref10_Encode.T19 := by kernel_rfl
theorem handoffref10_Encode.bits19 : waitsOk handoffref10_Encode.T19.2 handoffref10_Encode.B19 = true := by kernel_rfl
def handoffref10_Encode.T23 : Bool × List (List Nat × List Nat) := (true, [([], []), ([], []), ([1], [1]), ([2], [2]), ([], []), ([4], [4]), ([5], [5]), ([3, 6], [3, 6]), ([0, 7, 3], [0, 7]), ([8, 8, 0, 1, 2, 3, 4, 5, 6, 7, 8], [0, 8])])
def handoffref10_Encode.B23 : List Nat := [0, 0, 2, 6, 0, 16, 48, 126, 255, 511]
theorem handoffref10_Encode.tab23 : rtab .any (opsOf Try.f27 23) = handoffref10_Encode.T23 := by kernel_rfl
theorem handoffref10_Encode.bits23 : waitsOk handoffref10_Encode.T23.2 handoffref10_Encode.B23 = true := by kernel_rfl
set_option maxHeartbeats 8000000 in
set_option maxRecDepth 100000 in
theorem handoffref10_Encode.calls (k : Nat) (A0 : Option Addr) (c0 : Nat) (l0 : List (List (S39))) (r1 : List Int) (r2 : Int) (w : World) (hr0 : Kd.C (Kd.slice 39 k39) w A0 l0.length l0) (hc0 : l0.length ≤ c0) (h : handoffref10_Encode.f k l0 = some (r1, r2)) :
  Calls Try.prog 27 #[.slice A0 l0.length c0] w fun e w' => ∃ v0_ : Value, e = .returned (.tuple #[v0_, .int .i64 r2]) ∧ Kd.R (Kd.int .u8) 5 w' w.heap.size (fun _ => True) v0_ r1 ∧ Below w.heap.size w w' := by
 have hu39 := Try.underlying39
 have hu116 := Try.underlying116
 have HR0 := Aside0.mk hr0
 have HC0 := Aside0.mk hc0
 clear hr0 hc0
 have HB := Aside0.mk (Below.refl w.heap.size w)
 have H : ((handoffref10_Right.f k l0).bind fun t239 => (if t239 = true then (handoffref10_Encode.l0 k (([(wrap64 ((l0.length : Int) - 1)) % 256] : List Int)) l0 (l0.length : Int) 0) else (some (([] : List Int), 3)))) = some (r1, r2) := h
 clear h
 replace H := Option.bind_eq_some_iff.mp H
 obtain ⟨t239, A20, H⟩ := H
 try dsimp only at H
 have A2 := Aside0.mk A20
 clear A20
 by_cases c3 : t239 = true
 ·subst c3
  have H1 : (handoffref10_Encode.l0 k (([(wrap64 ((l0.length : Int) - 1)) % 256] : List Int)) l0 (l0.length : Int) 0) = some (r1, r2) := by rw [if_pos rfl] at H; exact H
  clear H
  have H := H1
  clear H1
  obtain ⟨y240, hy240⟩ : ∃ y_ : List Int, y_ = (([(wrap64 ((l0.length : Int) - 1)) % 256] : List Int)) := ⟨_, rfl⟩
  replace H : (handoffref10_Encode.l0 k y240 l0 (l0.length : Int) 0) = some (r1, r2) := by first | (rw [hy240]; with_reducible exact H) | (have H2_ := (Option.bind_some _ _).symm.trans H; rw [hy240]; with_reducible exact H2_) | (have H2_ := (Option.bind_some _ _).symm.trans H; with_reducible exact H2_) | with_reducible exact H | (rw [hy240]; exact H) | exact H
  have Ny240 := Aside0.mk hy240
  clear hy240
  have H' := Aside0.mk H
  clear H
  go_enter Try.func27, Try.ntmps27
  go_wp2_with (first | ((with_reducible refine gate_callee (f := 31) rfl ?_); refine goesL_ (some 12) rfl rfl Try.func31 (by kernel_rfl) rfl #[.slice A0 l0.length c0] rfl (by (try simp only [List.map_toArray, List.map_cons, List.map_nil]); first | done | rfl | simp) ?_; (with_reducible refine (handoffref10_Right.calls k _ _ l0 true _ ?side1 ?side2 A2.out).mono ?_); (case side1 => exact Kd.C_w HR0.out); (case side2 => exact HC0.out); rintro e w4 ⟨rfl, hb⟩; refine ⟨_, rfl, ?_⟩; have n0_ := Aside0.mk (below_step (below_w HB.out) hb); clear HB; have HB := n0_; clear n0_; (try clear hb); (try clear hb2); (try clear hk); (try clear hi)) | ((with_reducible refine gate_dst (N := 18) rfl ?_); refine Kd.R_lit (Kd.int .u8) _ 5 ?hg (N := 18) ?hd (xs := ([(wrap64 ((l0.length : Int) - 1)) % 256] : List Int)) (inner := [.int .u8 ((wrap64 ((l0.length : Int) - 1)) % 256)]) (ok := fun _ => True) (okp := fun _ => True) ?hr ?hp (fun _ hk => hk) trivial (Below.refl _ _) (Nat.le_refl _) (by simp) ?_; (case hd => rfl); (case hg => rfl); (case hr => first | (go_simp; done) | (go_simp; rfl)); (case hp => exact (Reps.one (show Kd.M (Kd.int .u8) _ _ _ ((wrap64 ((l0.length : Int) - 1)) % 256) [.int .u8 ((wrap64 ((l0.length : Int) - 1)) % 256)] from rfl) (Reps.none _ _))); intro v241 w5 ho6 hb hg_ hnew_; clear hg_ hnew_; (first | rw [← Ny240.out] at ho6 | (simp only [Int.reduceToNat] at ho6; rw [← Ny240.out] at ho6)); have n0_ := Aside0.mk (Kd.R_lower ho6 (below_size (below_w HB.out))); have n1_ := Aside0.mk (below_step (below_w HB.out) hb); clear HB; have HO242 := n0_; have HB := n1_; clear n0_ n1_; clear hb ho6))
  go_loopg [4, 21] k (fun kq v4 v21 w' => ∃ (x4_1 : List Int) (x21_1 : Int), v21 = .int .i64 x21_1 ∧ Aside0 (handoffref10_Encode.l0 kq x4_1 l0 (l0.length : Int) x21_1 = some (r1, r2)) ∧ Aside0 (kq ≤ k) ∧ Aside0 (Kd.R (Kd.int .u8) 5 w' w.heap.size (fun _ => True) v4 x4_1) ∧ Aside0 (Below w.heap.size w w'))
  case atStart => exact ⟨(y240), (0), (by first | rfl | (simp; done) | (simp [*]; done)), H', ⟨Nat.le_refl _⟩, ⟨by exact Kd.R_w HO242.out⟩, ⟨below_w HB.out⟩⟩
  case round =>
   clear H'
   try clear c3
   obtain ⟨x4_1, x21_1, rfl, HA, HK1, HO_4, HB⟩ := hrel
   cases gk with
   | zero => exact absurd HA.out (by simp [handoffref10_Encode.l0])
   | succ k1 =>
    have H := HA.out
    clear HA
    simp only [handoffref10_Encode.l0] at H
    by_cases c7 : x21_1 < (l0.length : Int)
    ·rw [if_pos c7] at H
     have c7b0 : decide (x21_1 < (l0.length : Int)) = true := decide_eq_true c7
     clear c7
     by_cases c8 : 0 ≤ x21_1
     ·rw [if_pos c8] at H
      have c8b0 : decide (0 ≤ x21_1) = true := decide_eq_true c8
      clear c8
      by_cases c9 : x21_1 < (l0.length : Int)
      ·rw [if_pos c9] at H
       have c9b0 : decide (x21_1 < (l0.length : Int)) = true := decide_eq_true c9
       clear c9
       by_cases c10 : x4_1.length < 140737488355328
       ·rw [if_pos c10] at H
        have LMc10 := Aside0.mk c10
        clear c10
        obtain ⟨y244, hy244⟩ : ∃ y_ : List Int, y_ = (x4_1 ++ [(((rd_L7 l0 x21_1).length : Int)) % 256]) := ⟨_, rfl⟩
        replace H : (handoffref10_Encode.l1 k1 y244 l0 (l0.length : Int) x21_1 (rd_L7 l0 x21_1) ((rd_L7 l0 x21_1).length : Int) 0) = some (r1, r2) := by first | (rw [hy244]; with_reducible exact H) | (have H2_ := (Option.bind_some _ _).symm.trans H; rw [hy244]; with_reducible exact H2_) | (have H2_ := (Option.bind_some _ _).symm.trans H; with_reducible exact H2_) | with_reducible exact H | (rw [hy244]; exact H) | exact H
        have Ny244 := Aside0.mk hy244
        clear hy244
        have H' := Aside0.mk H
        clear H
        have p243 : 0 ≤ (x21_1 : Int) := of_decide_eq_true (by first | (with_reducible assumption) | assumption)
        have q243 : x21_1 < (l0.length : Int) := of_decide_eq_true (by first | (with_reducible assumption) | assumption)
        obtain ⟨ad243, A243_0, c243_0, e243, hx243_0, hl243_0, hi243_0⟩ := at_L7 HR0.out x21_1 p243 q243
        cases e243
        replace hx243_0 := (HB.out.cell (World.block_lt_of_cell? w _ hx243_0)).trans hx243_0
        have HR243_0 := Aside0.mk hi243_0
        have HC243_0 := Aside0.mk hl243_0
        clear hi243_0 hl243_0
        replace p243 := eq_true p243
        replace q243 := eq_true q243
        go_wp2_with (first | ((with_reducible refine gate_builtin (b := .append) (xs := #[.tmp 25, .tmp 29]) rfl ?_); at_builtin; refine Kd.R_append (Kd.int .u8) (w0 := w) w.heap.size rfl (.tmp 25) (.tmp 29) 42 5 (.int .u8 0) 1 rfl Try.underlying42 info5 rfl (by decide) (by omega) u4 x4_1 ((((rd_L7 l0 x21_1).length : Int)) % 256) [.int .u8 ((((rd_L7 l0 x21_1).length : Int)) % 256)] (fun _ => True) (fun _ => False) rfl rfl ?aP (fun _ hk => hk.elim) ?aF ?aO ?aB ?aS ?aL ?_; (case aP => exact rfl); (case aB => exact (below_w HB.out)); (case aF => exact (fun _ _ => trivial)); (case aO => exact (by exact Kd.R_w HO_4.out)); (case aS => exact (below_size (below_w HB.out))); (case aL => have := LMc10.out; omega); intro v245 w11 ho hb hg hat; rw [← Ny244.out] at ho; have n0_ := Aside0.mk (hb); have n1_ := Aside0.mk (ho); clear HB; clear HO_4; have HB := n0_; have HO246 := n1_; clear n0_ n1_; clear ho hb hg hat))
        go_loopg [4, 33] k1 (fun kq v4 v33 w' => ∃ (x4_2 : List Int) (x33_2 : Int), v33 = .int .i64 x33_2 ∧ Aside0 (handoffref10_Encode.l1 kq x4_2 l0 (l0.length : Int) x21_1 (rd_L7 l0 x21_1) ((rd_L7 l0 x21_1).length : Int) x33_2 = some (r1, r2)) ∧ Aside0 (kq ≤ k1) ∧ Aside0 (Kd.R (Kd.int .u8) 5 w' w.heap.size (fun _ => True) v4 x4_2) ∧ Aside0 (Below w.heap.size w w'))
        case atStart => exact ⟨(y244), (0), (by first | rfl | (simp; done) | (simp [*]; done)), H', ⟨Nat.le_refl _⟩, ⟨by exact Kd.R_w HO246.out⟩, ⟨below_w HB.out⟩⟩
        case round =>
         clear H'
         (try clear c3); (try clear c7b0); (try clear c8b0); (try clear c9b0); (try clear hx243_0); (try clear p243); (try clear q243)
         obtain ⟨x4_2, x33_2, rfl, HA, HK2, HO_4, HB⟩ := hrel
         cases gk with
         | zero => exact absurd HA.out (by simp [handoffref10_Encode.l1])
         | succ k2 =>
          have H := HA.out
          clear HA
          simp only [handoffref10_Encode.l1] at H
          by_cases c12 : x33_2 < ((rd_L7 l0 x21_1).length : Int)
          ·rw [if_pos c12] at H
           have c12b0 : decide (x33_2 < ((rd_L7 l0 x21_1).length : Int)) = true := decide_eq_true c12
           clear c12
           by_cases c13 : 0 ≤ x33_2
           ·rw [if_pos c13] at H
            have c13b0 : decide (0 ≤ x33_2) = true := decide_eq_true c13
            clear c13
            by_cases c14 : x33_2 < ((rd_L7 l0 x21_1).length : Int)
            ·rw [if_pos c14] at H
             have c14b0 : decide (x33_2 < ((rd_L7 l0 x21_1).length : Int)) = true := decide_eq_true c14
             clear c14
             by_cases c15 : x4_2.length < 140737488355328
             ·rw [if_pos c15] at H
              have LMc15 := Aside0.mk c15
              clear c15
              obtain ⟨y249, hy249⟩ : ∃ y_ : List Int, y_ = (x4_2 ++ [(wrap64 (((rd_T39 (rd_L7 l0 x21_1) x33_2).f0) - 1)) % 256]) := ⟨_, rfl⟩
              replace H : ((handoffref10_HasCh.f ((rd_T39 (rd_L7 l0 x21_1) x33_2).f0)).bind fun t252 => (if t252 = true then (if y249.length < 140737488355328 then (handoffref10_Encode.j2 k2 (y249 ++ [((rd_T39 (rd_L7 l0 x21_1) x33_2).f1) % 256]) l0 (l0.length : Int) x21_1 (rd_L7 l0 x21_1) ((rd_L7 l0 x21_1).length : Int) x33_2 ((rd_T39 (rd_L7 l0 x21_1) x33_2).f0) ((rd_T39 (rd_L7 l0 x21_1) x33_2).f1) ((rd_T39 (rd_L7 l0 x21_1) x33_2).f2) ((rd_T39 (rd_L7 l0 x21_1) x33_2).f3) ((rd_T39 (rd_L7 l0 x21_1) x33_2).f4) ((rd_T39 (rd_L7 l0 x21_1) x33_2).f5)) else (none)) else (handoffref10_Encode.j2 k2 y249 l0 (l0.length : Int) x21_1 (rd_L7 l0 x21_1) ((rd_L7 l0 x21_1).length : Int) x33_2 ((rd_T39 (rd_L7 l0 x21_1) x33_2).f0) ((rd_T39 (rd_L7 l0 x21_1) x33_2).f1) ((rd_T39 (rd_L7 l0 x21_1) x33_2).f2) ((rd_T39 (rd_L7 l0 x21_1) x33_2).f3) ((rd_T39 (rd_L7 l0 x21_1) x33_2).f4) ((rd_T39 (rd_L7 l0 x21_1) x33_2).f5)))) = some (r1, r2) := by first | (rw [hy249]; with_reducible exact H) | (have H2_ := (Option.bind_some _ _).symm.trans H; rw [hy249]; with_reducible exact H2_) | (have H2_ := (Option.bind_some _ _).symm.trans H; with_reducible exact H2_) | with_reducible exact H | (rw [hy249]; exact H) | exact H
              have Ny249 := Aside0.mk hy249
              clear hy249
              replace H := Option.bind_eq_some_iff.mp H
              obtain ⟨t252, A160, H⟩ := H
              try dsimp only at H
              have A16 := Aside0.mk A160
              clear A160
              have HC17 := Aside0.mk H
              clear H
              have p247 : 0 ≤ (x33_2 : Int) := of_decide_eq_true (by first | (with_reducible assumption) | assumption)
              have q247 : x33_2 < ((rd_L7 l0 x21_1).length : Int) := of_decide_eq_true (by first | (with_reducible assumption) | assumption)
              obtain ⟨ad247, A247_4, c247_4, e247, hx247_0, hx247_1, hx247_2, hx247_3, hx247_4, hx247_5, hl247_4, hi247_4⟩ := at_T39 HR243_0.out x33_2 p247 q247
              cases e247
              replace hx247_0 := (HB.out.cell (World.block_lt_of_cell? w _ hx247_0)).trans hx247_0
              replace hx247_1 := (HB.out.cell (World.block_lt_of_cell? w _ hx247_1)).trans hx247_1
              replace hx247_2 := (HB.out.cell (World.block_lt_of_cell? w _ hx247_2)).trans hx247_2
              replace hx247_3 := (HB.out.cell (World.block_lt_of_cell? w _ hx247_3)).trans hx247_3
              replace hx247_4 := (HB.out.cell (World.block_lt_of_cell? w _ hx247_4)).trans hx247_4
              replace hx247_5 := (HB.out.cell (World.block_lt_of_cell? w _ hx247_5)).trans hx247_5
              have HR247_4 := Aside0.mk hi247_4
              have HC247_4 := Aside0.mk hl247_4
              clear hi247_4 hl247_4
              replace p247 := eq_true p247
              replace q247 := eq_true q247
              go_upto_if 46 with (first | ((with_reducible refine gate_dst (N := 8) rfl ?_); refine box_event ?hg (N := 8) ?hd (cs := #[.int .i64 0, .int .i64 0, .int .i64 0, .int .i64 0, .slice none 0 0, .bool false]) (t := 39) ?hr ?_; (case hd => rfl); (case hg => rfl); (case hr => first | (go_simp; done) | (go_simp; rfl)); intro gb248 hg w18 hbox hb; have n0_ := Aside0.mk (Kd.R_below (by exact Kd.R_w HO_4.out) hb); have n1_ := Aside0.mk (below_step (below_w HB.out) hb); have n2_ := Aside0.mk (hbox); have n3_ := Aside0.mk ((by rw [hg]; exact (below_size (below_w HB.out)) : w.heap.size ≤ gb248)); have n4_ := Aside0.mk ((by rw [hg]; exact (below_size (below_w HB.out)) : w.heap.size ≤ gb248)); clear HO_4; clear HB; have HO_4 := n0_; have HB := n1_; have BK248 := n2_; have GW248 := n3_; have GE248 := n4_; clear n0_ n1_ n2_ n3_ n4_; clear hb hbox hg; have hcz19 := blk6 BK248.out) | ((with_reducible refine gate_builtin (b := .append) (xs := #[.tmp 37, .tmp 42]) rfl ?_); at_builtin; refine Kd.R_append (Kd.int .u8) (w0 := w) w.heap.size rfl (.tmp 37) (.tmp 42) 42 5 (.int .u8 0) 1 rfl Try.underlying42 info5 rfl (by decide) (by omega) u4 x4_2 ((wrap64 (((rd_T39 (rd_L7 l0 x21_1) x33_2).f0) - 1)) % 256) [.int .u8 ((wrap64 (((rd_T39 (rd_L7 l0 x21_1) x33_2).f0) - 1)) % 256)] (fun _ => True) (fun _ => False) rfl (by first | (go_simp; done) | (go_simp; rfl)) ?aP (fun _ hk => hk.elim) ?aF ?aO ?aB ?aS ?aL ?_; (case aP => exact rfl); (case aB => exact (by repeat (with_reducible first | exact HB.out | apply below_t | refine below_set ?_ GE248.out))); (case aF => exact (fun _ _ => trivial)); (case aO => exact (by apply Kd.R_w; exact Kd.R_mono (Kd.R_far (p := ⟨gb248, 5, none⟩) (Kd.R_far (p := ⟨gb248, 4, none⟩) (Kd.R_far (p := ⟨gb248, 3, none⟩) (Kd.R_far (p := ⟨gb248, 2, none⟩) (Kd.R_far (p := ⟨gb248, 1, none⟩) (Kd.R_far (p := ⟨gb248, 0, none⟩) (Kd.R_types HO_4.out BK248.out (by decide)) (fun _ hk => hk.2) (.int .i64 ((rd_T39 (rd_L7 l0 x21_1) x33_2).f0))) (fun _ hk => hk.2) (.int .i64 ((rd_T39 (rd_L7 l0 x21_1) x33_2).f1))) (fun _ hk => hk.2) (.int .i64 ((rd_T39 (rd_L7 l0 x21_1) x33_2).f2))) (fun _ hk => hk.2) (.int .i64 ((rd_T39 (rd_L7 l0 x21_1) x33_2).f3))) (fun _ hk => hk.2) (.slice A247_4 ((rd_T39 (rd_L7 l0 x21_1) x33_2).f4).length c247_4)) (fun _ hk => hk.2) (.bool ((rd_T39 (rd_L7 l0 x21_1) x33_2).f5))) (fun _ hk => trivial))); (case aS => exact (below_size (by repeat (with_reducible first | exact HB.out | apply below_t | refine below_set ?_ GE248.out)))); (case aL => have := LMc15.out; omega); intro v250 w20 ho hb hg hat; rw [← Ny249.out] at ho; have n0_ := Aside0.mk (blk_grown (g := gb248) (o := .cells #[.int .i64 ((rd_T39 (rd_L7 l0 x21_1) x33_2).f0), .int .i64 ((rd_T39 (rd_L7 l0 x21_1) x33_2).f1), .int .i64 ((rd_T39 (rd_L7 l0 x21_1) x33_2).f2), .int .i64 ((rd_T39 (rd_L7 l0 x21_1) x33_2).f3), .slice A247_4 ((rd_T39 (rd_L7 l0 x21_1) x33_2).f4).length c247_4, .bool ((rd_T39 (rd_L7 l0 x21_1) x33_2).f5)] 39 (0, 0)) (by refine blk_w ?_; refine blk_put (cs := #[.int .i64 ((rd_T39 (rd_L7 l0 x21_1) x33_2).f0), .int .i64 ((rd_T39 (rd_L7 l0 x21_1) x33_2).f1), .int .i64 ((rd_T39 (rd_L7 l0 x21_1) x33_2).f2), .int .i64 ((rd_T39 (rd_L7 l0 x21_1) x33_2).f3), .slice A247_4 ((rd_T39 (rd_L7 l0 x21_1) x33_2).f4).length c247_4, .bool false]) ?_ 5 _ rfl; refine blk_w ?_; refine blk_put (cs := #[.int .i64 ((rd_T39 (rd_L7 l0 x21_1) x33_2).f0), .int .i64 ((rd_T39 (rd_L7 l0 x21_1) x33_2).f1), .int .i64 ((rd_T39 (rd_L7 l0 x21_1) x33_2).f2), .int .i64 ((rd_T39 (rd_L7 l0 x21_1) x33_2).f3), .slice none 0 0, .bool false]) ?_ 4 _ rfl; refine blk_w ?_; refine blk_put (cs := #[.int .i64 ((rd_T39 (rd_L7 l0 x21_1) x33_2).f0), .int .i64 ((rd_T39 (rd_L7 l0 x21_1) x33_2).f1), .int .i64 ((rd_T39 (rd_L7 l0 x21_1) x33_2).f2), .int .i64 0, .slice none 0 0, .bool false]) ?_ 3 _ rfl; refine blk_w ?_; refine blk_put (cs := #[.int .i64 ((rd_T39 (rd_L7 l0 x21_1) x33_2).f0), .int .i64 ((rd_T39 (rd_L7 l0 x21_1) x33_2).f1), .int .i64 0, .int .i64 0, .slice none 0 0, .bool false]) ?_ 2 _ rfl; refine blk_w ?_; refine blk_put (cs := #[.int .i64 ((rd_T39 (rd_L7 l0 x21_1) x33_2).f0), .int .i64 0, .int .i64 0, .int .i64 0, .slice none 0 0, .bool false]) ?_ 1 _ rfl; refine blk_w ?_; refine blk_put (cs := #[.int .i64 0, .int .i64 0, .int .i64 0, .int .i64 0, .slice none 0 0, .bool false]) ?_ 0 _ rfl; exact blk_w BK248.out) hg (Kd.R_ne HO_4.out BK248.out (by decide))); have n1_ := Aside0.mk (hb); have n2_ := Aside0.mk (ho); clear BK248; clear HB; clear HO_4; have BK248 := n0_; have HB := n1_; have HO251 := n2_; clear n0_ n1_ n2_; clear ho hb hg hat; have hcz21 := blk6 BK248.out) | ((with_reducible refine gate_callee (f := 65) rfl ?_); refine goesL_ (some 46) rfl rfl Try.func65 (by kernel_rfl) rfl #[.int .i64 ((rd_T39 (rd_L7 l0 x21_1) x33_2).f0)] rfl (by (try simp only [List.map_toArray, List.map_cons, List.map_nil]); first | done | rfl | simp) ?_; (with_reducible refine (handoffref10_HasCh.calls ((rd_T39 (rd_L7 l0 x21_1) x33_2).f0) t252 _ A16.out).mono ?_); rintro e w' ⟨rfl, ⟨nd, rfl⟩⟩; refine ⟨_, rfl, ?_⟩))
              (try simp only [Act.put, List.setIfInBounds_toArray, List.set_cons_zero, List.set_cons_succ])
              go_cut [4] (fun v4 wc => ∃ (kq : Nat) (x4_16 : List Int), Aside0 (handoffref10_Encode.j2 kq x4_16 l0 (l0.length : Int) x21_1 (rd_L7 l0 x21_1) ((rd_L7 l0 x21_1).length : Int) x33_2 ((rd_T39 (rd_L7 l0 x21_1) x33_2).f0) ((rd_T39 (rd_L7 l0 x21_1) x33_2).f1) ((rd_T39 (rd_L7 l0 x21_1) x33_2).f2) ((rd_T39 (rd_L7 l0 x21_1) x33_2).f3) ((rd_T39 (rd_L7 l0 x21_1) x33_2).f4) ((rd_T39 (rd_L7 l0 x21_1) x33_2).f5) = some (r1, r2)) ∧ Aside0 (kq ≤ k2) ∧ Aside0 (Kd.R (Kd.int .u8) 5 wc w.heap.size (fun _ => True) v4 x4_16) ∧ Aside0 (wc.heap[gb248]? = some (.cells #[.int .i64 ((rd_T39 (rd_L7 l0 x21_1) x33_2).f0), .int .i64 ((rd_T39 (rd_L7 l0 x21_1) x33_2).f1), .int .i64 ((rd_T39 (rd_L7 l0 x21_1) x33_2).f2), .int .i64 ((rd_T39 (rd_L7 l0 x21_1) x33_2).f3), (.slice A247_4 ((rd_T39 (rd_L7 l0 x21_1) x33_2).f4).length c247_4), .bool ((rd_T39 (rd_L7 l0 x21_1) x33_2).f5)] 39 (0, 0))) ∧ Aside0 (Below w.heap.size w wc))
              case first =>
               have H := HC17.out
               clear HC17
               by_cases c22 : t252 = true
               ·subst c22
                have H1 : (if y249.length < 140737488355328 then (handoffref10_Encode.j2 k2 (y249 ++ [((rd_T39 (rd_L7 l0 x21_1) x33_2).f1) % 256]) l0 (l0.length : Int) x21_1 (rd_L7 l0 x21_1) ((rd_L7 l0 x21_1).length : Int) x33_2 ((rd_T39 (rd_L7 l0 x21_1) x33_2).f0) ((rd_T39 (rd_L7 l0 x21_1) x33_2).f1) ((rd_T39 (rd_L7 l0 x21_1) x33_2).f2) ((rd_T39 (rd_L7 l0 x21_1) x33_2).f3) ((rd_T39 (rd_L7 l0 x21_1) x33_2).f4) ((rd_T39 (rd_L7 l0 x21_1) x33_2).f5)) else (none)) = some (r1, r2) := by rw [if_pos rfl] at H; exact H
                clear H
                have H := H1
                clear H1
                by_cases c23 : y249.length < 140737488355328
                ·rw [if_pos c23] at H
                 have LMc23 := Aside0.mk c23
                 clear c23
                 obtain ⟨y253, hy253⟩ : ∃ y_ : List Int, y_ = (y249 ++ [((rd_T39 (rd_L7 l0 x21_1) x33_2).f1) % 256]) := ⟨_, rfl⟩
                 replace H : (handoffref10_Encode.j2 k2 y253 l0 (l0.length : Int) x21_1 (rd_L7 l0 x21_1) ((rd_L7 l0 x21_1).length : Int) x33_2 ((rd_T39 (rd_L7 l0 x21_1) x33_2).f0) ((rd_T39 (rd_L7 l0 x21_1) x33_2).f1) ((rd_T39 (rd_L7 l0 x21_1) x33_2).f2) ((rd_T39 (rd_L7 l0 x21_1) x33_2).f3) ((rd_T39 (rd_L7 l0 x21_1) x33_2).f4) ((rd_T39 (rd_L7 l0 x21_1) x33_2).f5)) = some (r1, r2) := by first | (rw [hy253]; with_reducible exact H) | (have H2_ := (Option.bind_some _ _).symm.trans H; rw [hy253]; with_reducible exact H2_) | (have H2_ := (Option.bind_some _ _).symm.trans H; with_reducible exact H2_) | with_reducible exact H | (rw [hy253]; exact H) | exact H
                 have Ny253 := Aside0.mk hy253
                 clear hy253
                 have H' := Aside0.mk H
                 clear H
                 have hcz24 := blk6 BK248.out
                 go_wp2_with (first | ((with_reducible refine gate_builtin (b := .append) (xs := #[.tmp 47, .tmp 51]) rfl ?_); at_builtin; refine Kd.R_append (Kd.int .u8) (w0 := w) w.heap.size rfl (.tmp 47) (.tmp 51) 42 5 (.int .u8 0) 1 rfl Try.underlying42 info5 rfl (by decide) (by omega) v250 y249 (((rd_T39 (rd_L7 l0 x21_1) x33_2).f1) % 256) [.int .u8 (((rd_T39 (rd_L7 l0 x21_1) x33_2).f1) % 256)] (fun _ => True) (fun _ => False) rfl rfl ?aP (fun _ hk => hk.elim) ?aF ?aO ?aB ?aS ?aL ?_; (case aP => exact rfl); (case aB => exact (by repeat (with_reducible first | exact HB.out | apply below_t | refine below_set ?_ GE248.out))); (case aF => exact (fun _ _ => trivial)); (case aO => exact (by exact Kd.R_w HO251.out)); (case aS => exact (below_size (by repeat (with_reducible first | exact HB.out | apply below_t | refine below_set ?_ GE248.out)))); (case aL => have := LMc23.out; omega); intro v254 w25 ho hb hg hat; rw [← Ny253.out] at ho; have n0_ := Aside0.mk (blk_grown (g := gb248) (o := .cells #[.int .i64 ((rd_T39 (rd_L7 l0 x21_1) x33_2).f0), .int .i64 ((rd_T39 (rd_L7 l0 x21_1) x33_2).f1), .int .i64 ((rd_T39 (rd_L7 l0 x21_1) x33_2).f2), .int .i64 ((rd_T39 (rd_L7 l0 x21_1) x33_2).f3), .slice A247_4 ((rd_T39 (rd_L7 l0 x21_1) x33_2).f4).length c247_4, .bool ((rd_T39 (rd_L7 l0 x21_1) x33_2).f5)] 39 (0, 0)) (by exact blk_w BK248.out) hg (Kd.R_ne HO251.out BK248.out (by decide))); have n1_ := Aside0.mk (hb); have n2_ := Aside0.mk (ho); clear BK248; clear HB; clear HO251; have BK248 := n0_; have HB := n1_; have HO255 := n2_; clear n0_ n1_ n2_; clear ho hb hg hat))
                 go_meet
                 case rel => exact ⟨_, (y253), H', ⟨by have := HK1.out; have := HK2.out; first | omega | exact Nat.le_refl _⟩, ⟨by exact Kd.R_w HO255.out⟩, ⟨by exact blk_w BK248.out⟩, ⟨by repeat (with_reducible first | exact HB.out | apply below_t | refine below_set ?_ GE248.out)⟩⟩
                ·rw [if_neg c23] at H
                 exact absurd H (by simp)
               ·replace c22 := Bool.eq_false_iff.mpr c22
                subst c22
                have H1 : (handoffref10_Encode.j2 k2 y249 l0 (l0.length : Int) x21_1 (rd_L7 l0 x21_1) ((rd_L7 l0 x21_1).length : Int) x33_2 ((rd_T39 (rd_L7 l0 x21_1) x33_2).f0) ((rd_T39 (rd_L7 l0 x21_1) x33_2).f1) ((rd_T39 (rd_L7 l0 x21_1) x33_2).f2) ((rd_T39 (rd_L7 l0 x21_1) x33_2).f3) ((rd_T39 (rd_L7 l0 x21_1) x33_2).f4) ((rd_T39 (rd_L7 l0 x21_1) x33_2).f5)) = some (r1, r2) := by rw [if_neg (show ¬ (false = true) by decide)] at H; exact H
                clear H
                have H := H1
                clear H1
                have H' := Aside0.mk H
                clear H
                go_wp2
                go_meet
                case rel => exact ⟨_, (y249), H', ⟨by have := HK1.out; have := HK2.out; first | omega | exact Nat.le_refl _⟩, ⟨by exact Kd.R_w HO251.out⟩, ⟨by exact blk_w BK248.out⟩, ⟨by repeat (with_reducible first | exact HB.out | apply below_t | refine below_set ?_ GE248.out)⟩⟩
              case rest =>
               clear HC17
               (try clear c3); (try clear c7b0); (try clear c8b0); (try clear c9b0); (try clear c12b0); (try clear c13b0); (try clear c14b0); (try clear hcz19); (try clear hcz21); (try clear hcz19); (try clear hcz21); (try clear hx243_0); (try clear hx247_0); (try clear hx247_1); (try clear hx247_2); (try clear hx247_3); (try clear hx247_4); (try clear hx247_5); (try clear p243); (try clear p247); (try clear q243); (try clear q247)
               obtain ⟨kq, x4_16, HA, HJ16, HO_4, BK248, HB⟩ := hcut
               cases kq with
               | zero => exact absurd HA.out (by simp [handoffref10_Encode.j2])
               | succ kj16 =>
                have H := HA.out
                clear HA
                simp only [handoffref10_Encode.j2] at H
                have HC26 := Aside0.mk H
                clear H
                have hcz27 := blk6 BK248.out
                go_upto_if 55 with (fail)
                go_cut [4] (fun v4 wc => ∃ (kq : Nat) (x4_25 : List Int), Aside0 (handoffref10_Encode.j3 kq x4_25 l0 (l0.length : Int) x21_1 (rd_L7 l0 x21_1) ((rd_L7 l0 x21_1).length : Int) x33_2 ((rd_T39 (rd_L7 l0 x21_1) x33_2).f0) ((rd_T39 (rd_L7 l0 x21_1) x33_2).f1) ((rd_T39 (rd_L7 l0 x21_1) x33_2).f2) ((rd_T39 (rd_L7 l0 x21_1) x33_2).f3) ((rd_T39 (rd_L7 l0 x21_1) x33_2).f4) ((rd_T39 (rd_L7 l0 x21_1) x33_2).f5) = some (r1, r2)) ∧ Aside0 (kq ≤ kj16) ∧ Aside0 (Kd.R (Kd.int .u8) 5 wc w.heap.size (fun _ => True) v4 x4_25) ∧ Aside0 (wc.heap[gb248]? = some (.cells #[.int .i64 ((rd_T39 (rd_L7 l0 x21_1) x33_2).f0), .int .i64 ((rd_T39 (rd_L7 l0 x21_1) x33_2).f1), .int .i64 ((rd_T39 (rd_L7 l0 x21_1) x33_2).f2), .int .i64 ((rd_T39 (rd_L7 l0 x21_1) x33_2).f3), (.slice A247_4 ((rd_T39 (rd_L7 l0 x21_1) x33_2).f4).length c247_4), .bool ((rd_T39 (rd_L7 l0 x21_1) x33_2).f5)] 39 (0, 0))) ∧ Aside0 (Below w.heap.size w wc))
                case first =>
                 have H := HC26.out
                 clear HC26
                 by_cases c28 : ((rd_T39 (rd_L7 l0 x21_1) x33_2).f0) = 1
                 ·rw [if_pos c28] at H
                  have c28b0 : (((rd_T39 (rd_L7 l0 x21_1) x33_2).f0) == 1) = true := beq_iff_eq.mpr c28
                  have c28b1 : (((rd_T39 (rd_L7 l0 x21_1) x33_2).f0) != 1) = false := bne_eq_false_iff_eq.mpr c28
                  clear c28
                  (first | rw [c28b0] | (simp only [i64_w, i32_w]; rw [c28b0]) | skip)
                  by_cases c29 : x4_16.length < 140737488355328
                  ·rw [if_pos c29] at H
                   have LMc29 := Aside0.mk c29
                   clear c29
                   obtain ⟨y256, hy256⟩ : ∃ y_ : List Int, y_ = (x4_16 ++ [(((rd_T39 (rd_L7 l0 x21_1) x33_2).f2)) % 256]) := ⟨_, rfl⟩
                   replace H : (handoffref10_Encode.j3 kj16 y256 l0 (l0.length : Int) x21_1 (rd_L7 l0 x21_1) ((rd_L7 l0 x21_1).length : Int) x33_2 ((rd_T39 (rd_L7 l0 x21_1) x33_2).f0) ((rd_T39 (rd_L7 l0 x21_1) x33_2).f1) ((rd_T39 (rd_L7 l0 x21_1) x33_2).f2) ((rd_T39 (rd_L7 l0 x21_1) x33_2).f3) ((rd_T39 (rd_L7 l0 x21_1) x33_2).f4) ((rd_T39 (rd_L7 l0 x21_1) x33_2).f5)) = some (r1, r2) := by first | (rw [hy256]; with_reducible exact H) | (have H2_ := (Option.bind_some _ _).symm.trans H; rw [hy256]; with_reducible exact H2_) | (have H2_ := (Option.bind_some _ _).symm.trans H; with_reducible exact H2_) | with_reducible exact H | (rw [hy256]; exact H) | exact H
                   have Ny256 := Aside0.mk hy256
                   clear hy256
                   have H' := Aside0.mk H
                   clear H
                   have hcz30 := blk6 BK248.out
                   go_wp2_with (first | ((with_reducible refine gate_builtin (b := .append) (xs := #[.tmp 56, .tmp 60]) rfl ?_); at_builtin; refine Kd.R_append (Kd.int .u8) (w0 := w) w.heap.size rfl (.tmp 56) (.tmp 60) 42 5 (.int .u8 0) 1 rfl Try.underlying42 info5 rfl (by decide) (by omega) u4 x4_16 ((((rd_T39 (rd_L7 l0 x21_1) x33_2).f2)) % 256) [.int .u8 ((((rd_T39 (rd_L7 l0 x21_1) x33_2).f2)) % 256)] (fun _ => True) (fun _ => False) rfl rfl ?aP (fun _ hk => hk.elim) ?aF ?aO ?aB ?aS ?aL ?_; (case aP => exact rfl); (case aB => exact (by repeat (with_reducible first | exact HB.out | apply below_t | refine below_set ?_ GE248.out))); (case aF => exact (fun _ _ => trivial)); (case aO => exact (by exact Kd.R_w HO_4.out)); (case aS => exact (below_size (by repeat (with_reducible first | exact HB.out | apply below_t | refine below_set ?_ GE248.out)))); (case aL => have := LMc29.out; omega); intro v257 w31 ho hb hg hat; rw [← Ny256.out] at ho; have n0_ := Aside0.mk (blk_grown (g := gb248) (o := .cells #[.int .i64 ((rd_T39 (rd_L7 l0 x21_1) x33_2).f0), .int .i64 ((rd_T39 (rd_L7 l0 x21_1) x33_2).f1), .int .i64 ((rd_T39 (rd_L7 l0 x21_1) x33_2).f2), .int .i64 ((rd_T39 (rd_L7 l0 x21_1) x33_2).f3), .slice A247_4 ((rd_T39 (rd_L7 l0 x21_1) x33_2).f4).length c247_4, .bool ((rd_T39 (rd_L7 l0 x21_1) x33_2).f5)] 39 (0, 0)) (by exact blk_w BK248.out) hg (Kd.R_ne HO_4.out BK248.out (by decide))); have n1_ := Aside0.mk (hb); have n2_ := Aside0.mk (ho); clear BK248; clear HB; clear HO_4; have BK248 := n0_; have HB := n1_; have HO258 := n2_; clear n0_ n1_ n2_; clear ho hb hg hat))
                   go_meet
                   case rel => exact ⟨_, (y256), H', ⟨by have := HK1.out; have := HK2.out; have := HJ16.out; first | omega | exact Nat.le_refl _⟩, ⟨by exact Kd.R_w HO258.out⟩, ⟨by exact blk_w BK248.out⟩, ⟨by repeat (with_reducible first | exact HB.out | apply below_t | refine below_set ?_ GE248.out)⟩⟩
                  ·rw [if_neg c29] at H
                   exact absurd H (by simp)
                 ·rw [if_neg c28] at H
                  have c28b0 : (((rd_T39 (rd_L7 l0 x21_1) x33_2).f0) == 1) = false := beq_eq_false_iff_ne.mpr c28
                  have c28b1 : (((rd_T39 (rd_L7 l0 x21_1) x33_2).f0) != 1) = true := bne_iff_ne.mpr c28
                  (first | rw [c28b0] | (simp only [i64_w, i32_w]; rw [c28b0]) | skip)
                  have H' := Aside0.mk H
                  clear H
                  go_wp2
                  go_meet
                  case rel => exact ⟨_, (x4_16), H', ⟨by have := HK1.out; have := HK2.out; have := HJ16.out; first | omega | exact Nat.le_refl _⟩, ⟨by exact Kd.R_w HO_4.out⟩, ⟨by exact blk_w BK248.out⟩, ⟨by repeat (with_reducible first | exact HB.out | apply below_t | refine below_set ?_ GE248.out)⟩⟩
                case rest =>
                 clear HC26
                 (try clear c3); (try clear c7b0); (try clear c8b0); (try clear c9b0); (try clear c12b0); (try clear c13b0); (try clear c14b0); (try clear hcz19); (try clear hcz21); (try clear hcz27); (try clear hcz19); (try clear hcz21); (try clear hcz27); (try clear hx243_0); (try clear hx247_0); (try clear hx247_1); (try clear hx247_2); (try clear hx247_3); (try clear hx247_4); (try clear hx247_5); (try clear p243); (try clear p247); (try clear q243); (try clear q247)
                 obtain ⟨kq, x4_25, HA, HJ25, HO_4, BK248, HB⟩ := hcut
                 cases kq with
                 | zero => exact absurd HA.out (by simp [handoffref10_Encode.j3])
                 | succ kj25 =>
                  have H := HA.out
                  clear HA
                  simp only [handoffref10_Encode.j3] at H
                  replace H := Option.bind_eq_some_iff.mp H
                  obtain ⟨t259, A320, H⟩ := H
                  try dsimp only at H
                  have A32 := Aside0.mk A320
                  clear A320
                  have HC33 := Aside0.mk H
                  clear H
                  have hcz34 := blk6 BK248.out
                  go_upto_if 64 with (first | ((with_reducible refine gate_callee (f := 66) rfl ?_); refine goesL_ (some 64) rfl rfl Try.func66 (by kernel_rfl) rfl #[.int .i64 ((rd_T39 (rd_L7 l0 x21_1) x33_2).f0)] rfl (by (try simp only [List.map_toArray, List.map_cons, List.map_nil]); first | done | rfl | simp) ?_; (with_reducible refine (handoffref10_HasV.calls ((rd_T39 (rd_L7 l0 x21_1) x33_2).f0) t259 _ A32.out).mono ?_); rintro e w' ⟨rfl, ⟨nd, rfl⟩⟩; refine ⟨_, rfl, ?_⟩))
                  (try simp only [Act.put, List.setIfInBounds_toArray, List.set_cons_zero, List.set_cons_succ])
                  go_cut [4] (fun v4 wc => ∃ (kq : Nat) (x4_32 : List Int), Aside0 (handoffref10_Encode.j4 kq x4_32 l0 (l0.length : Int) x21_1 (rd_L7 l0 x21_1) ((rd_L7 l0 x21_1).length : Int) x33_2 ((rd_T39 (rd_L7 l0 x21_1) x33_2).f0) ((rd_T39 (rd_L7 l0 x21_1) x33_2).f1) ((rd_T39 (rd_L7 l0 x21_1) x33_2).f2) ((rd_T39 (rd_L7 l0 x21_1) x33_2).f3) ((rd_T39 (rd_L7 l0 x21_1) x33_2).f4) ((rd_T39 (rd_L7 l0 x21_1) x33_2).f5) = some (r1, r2)) ∧ Aside0 (kq ≤ kj25) ∧ Aside0 (Kd.R (Kd.int .u8) 5 wc w.heap.size (fun _ => True) v4 x4_32) ∧ Aside0 (wc.heap[gb248]? = some (.cells #[.int .i64 ((rd_T39 (rd_L7 l0 x21_1) x33_2).f0), .int .i64 ((rd_T39 (rd_L7 l0 x21_1) x33_2).f1), .int .i64 ((rd_T39 (rd_L7 l0 x21_1) x33_2).f2), .int .i64 ((rd_T39 (rd_L7 l0 x21_1) x33_2).f3), (.slice A247_4 ((rd_T39 (rd_L7 l0 x21_1) x33_2).f4).length c247_4), .bool ((rd_T39 (rd_L7 l0 x21_1) x33_2).f5)] 39 (0, 0))) ∧ Aside0 (Below w.heap.size w wc))
                  case first =>
                   have H := HC33.out
                   clear HC33
                   by_cases c35 : t259 = true
                   ·subst c35
                    have H1 : (if x4_25.length < 140737488355328 then (handoffref10_Encode.j4 kj25 (x4_25 ++ [(((rd_T39 (rd_L7 l0 x21_1) x33_2).f3)) % 256]) l0 (l0.length : Int) x21_1 (rd_L7 l0 x21_1) ((rd_L7 l0 x21_1).length : Int) x33_2 ((rd_T39 (rd_L7 l0 x21_1) x33_2).f0) ((rd_T39 (rd_L7 l0 x21_1) x33_2).f1) ((rd_T39 (rd_L7 l0 x21_1) x33_2).f2) ((rd_T39 (rd_L7 l0 x21_1) x33_2).f3) ((rd_T39 (rd_L7 l0 x21_1) x33_2).f4) ((rd_T39 (rd_L7 l0 x21_1) x33_2).f5)) else (none)) = some (r1, r2) := by rw [if_pos rfl] at H; exact H
                    clear H
                    have H := H1
                    clear H1
                    by_cases c36 : x4_25.length < 140737488355328
                    ·rw [if_pos c36] at H
                     have LMc36 := Aside0.mk c36
                     clear c36
                     obtain ⟨y260, hy260⟩ : ∃ y_ : List Int, y_ = (x4_25 ++ [(((rd_T39 (rd_L7 l0 x21_1) x33_2).f3)) % 256]) := ⟨_, rfl⟩
                     replace H : (handoffref10_Encode.j4 kj25 y260 l0 (l0.length : Int) x21_1 (rd_L7 l0 x21_1) ((rd_L7 l0 x21_1).length : Int) x33_2 ((rd_T39 (rd_L7 l0 x21_1) x33_2).f0) ((rd_T39 (rd_L7 l0 x21_1) x33_2).f1) ((rd_T39 (rd_L7 l0 x21_1) x33_2).f2) ((rd_T39 (rd_L7 l0 x21_1) x33_2).f3) ((rd_T39 (rd_L7 l0 x21_1) x33_2).f4) ((rd_T39 (rd_L7 l0 x21_1) x33_2).f5)) = some (r1, r2) := by first | (rw [hy260]; with_reducible exact H) | (have H2_ := (Option.bind_some _ _).symm.trans H; rw [hy260]; with_reducible exact H2_) | (have H2_ := (Option.bind_some _ _).symm.trans H; with_reducible exact H2_) | with_reducible exact H | (rw [hy260]; exact H) | exact H
                     have Ny260 := Aside0.mk hy260
                     clear hy260
                     have H' := Aside0.mk H
                     clear H
                     have hcz37 := blk6 BK248.out
                     go_wp2_with (first | ((with_reducible refine gate_builtin (b := .append) (xs := #[.tmp 65, .tmp 69]) rfl ?_); at_builtin; refine Kd.R_append (Kd.int .u8) (w0 := w) w.heap.size rfl (.tmp 65) (.tmp 69) 42 5 (.int .u8 0) 1 rfl Try.underlying42 info5 rfl (by decide) (by omega) u4 x4_25 ((((rd_T39 (rd_L7 l0 x21_1) x33_2).f3)) % 256) [.int .u8 ((((rd_T39 (rd_L7 l0 x21_1) x33_2).f3)) % 256)] (fun _ => True) (fun _ => False) rfl rfl ?aP (fun _ hk => hk.elim) ?aF ?aO ?aB ?aS ?aL ?_; (case aP => exact rfl); (case aB => exact (by repeat (with_reducible first | exact HB.out | apply below_t | refine below_set ?_ GE248.out))); (case aF => exact (fun _ _ => trivial)); (case aO => exact (by exact Kd.R_w HO_4.out)); (case aS => exact (below_size (by repeat (with_reducible first | exact HB.out | apply below_t | refine below_set ?_ GE248.out)))); (case aL => have := LMc36.out; omega); intro v261 w38 ho hb hg hat; rw [← Ny260.out] at ho; have n0_ := Aside0.mk (blk_grown (g := gb248) (o := .cells #[.int .i64 ((rd_T39 (rd_L7 l0 x21_1) x33_2).f0), .int .i64 ((rd_T39 (rd_L7 l0 x21_1) x33_2).f1), .int .i64 ((rd_T39 (rd_L7 l0 x21_1) x33_2).f2), .int .i64 ((rd_T39 (rd_L7 l0 x21_1) x33_2).f3), .slice A247_4 ((rd_T39 (rd_L7 l0 x21_1) x33_2).f4).length c247_4, .bool ((rd_T39 (rd_L7 l0 x21_1) x33_2).f5)] 39 (0, 0)) (by exact blk_w BK248.out) hg (Kd.R_ne HO_4.out BK248.out (by decide))); have n1_ := Aside0.mk (hb); have n2_ := Aside0.mk (ho); clear BK248; clear HB; clear HO_4; have BK248 := n0_; have HB := n1_; have HO262 := n2_; clear n0_ n1_ n2_; clear ho hb hg hat))
                     go_meet
                     case rel => exact ⟨_, (y260), H', ⟨by have := HK1.out; have := HK2.out; have := HJ16.out; have := HJ25.out; first | omega | exact Nat.le_refl _⟩, ⟨by exact Kd.R_w HO262.out⟩, ⟨by exact blk_w BK248.out⟩, ⟨by repeat (with_reducible first | exact HB.out | apply below_t | refine below_set ?_ GE248.out)⟩⟩
                    ·rw [if_neg c36] at H
                     exact absurd H (by simp)
                   ·replace c35 := Bool.eq_false_iff.mpr c35
                    subst c35
                    have H1 : (handoffref10_Encode.j4 kj25 x4_25 l0 (l0.length : Int) x21_1 (rd_L7 l0 x21_1) ((rd_L7 l0 x21_1).length : Int) x33_2 ((rd_T39 (rd_L7 l0 x21_1) x33_2).f0) ((rd_T39 (rd_L7 l0 x21_1) x33_2).f1) ((rd_T39 (rd_L7 l0 x21_1) x33_2).f2) ((rd_T39 (rd_L7 l0 x21_1) x33_2).f3) ((rd_T39 (rd_L7 l0 x21_1) x33_2).f4) ((rd_T39 (rd_L7 l0 x21_1) x33_2).f5)) = some (r1, r2) := by rw [if_neg (show ¬ (false = true) by decide)] at H; exact H
                    clear H
                    have H := H1
                    clear H1
                    have H' := Aside0.mk H
                    clear H
                    go_wp2
                    go_meet
                    case rel => exact ⟨_, (x4_25), H', ⟨by have := HK1.out; have := HK2.out; have := HJ16.out; have := HJ25.out; first | omega | exact Nat.le_refl _⟩, ⟨by exact Kd.R_w HO_4.out⟩, ⟨by exact blk_w BK248.out⟩, ⟨by repeat (with_reducible first | exact HB.out | apply below_t | refine below_set ?_ GE248.out)⟩⟩
                  case rest =>
                   clear HC33
                   (try clear c3); (try clear c7b0); (try clear c8b0); (try clear c9b0); (try clear c12b0); (try clear c13b0); (try clear c14b0); (try clear hcz19); (try clear hcz21); (try clear hcz27); (try clear hcz34); (try clear hcz19); (try clear hcz21); (try clear hcz27); (try clear hcz34); (try clear hx243_0); (try clear hx247_0); (try clear hx247_1); (try clear hx247_2); (try clear hx247_3); (try clear hx247_4); (try clear hx247_5); (try clear p243); (try clear p247); (try clear q243); (try clear q247)
                   obtain ⟨kq, x4_32, HA, HJ32, HO_4, BK248, HB⟩ := hcut
                   cases kq with
                   | zero => exact absurd HA.out (by simp [handoffref10_Encode.j4])
                   | succ kj32 =>
                    have H := HA.out
                    clear HA
                    simp only [handoffref10_Encode.j4] at H
                    have HC39 := Aside0.mk H
                    clear H
                    have hcz40 := blk6 BK248.out
                    go_upto_if 73 with (fail)
                    go_cut [4] (fun v4 wc => ∃ (kq : Nat) (x4_38 : List Int), Aside0 (handoffref10_Encode.j5 kq x4_38 l0 (l0.length : Int) x21_1 (rd_L7 l0 x21_1) ((rd_L7 l0 x21_1).length : Int) x33_2 ((rd_T39 (rd_L7 l0 x21_1) x33_2).f0) ((rd_T39 (rd_L7 l0 x21_1) x33_2).f1) ((rd_T39 (rd_L7 l0 x21_1) x33_2).f2) ((rd_T39 (rd_L7 l0 x21_1) x33_2).f3) ((rd_T39 (rd_L7 l0 x21_1) x33_2).f4) ((rd_T39 (rd_L7 l0 x21_1) x33_2).f5) = some (r1, r2)) ∧ Aside0 (kq ≤ kj32) ∧ Aside0 (Kd.R (Kd.int .u8) 5 wc w.heap.size (fun _ => True) v4 x4_38) ∧ Aside0 (wc.heap[gb248]? = some (.cells #[.int .i64 ((rd_T39 (rd_L7 l0 x21_1) x33_2).f0), .int .i64 ((rd_T39 (rd_L7 l0 x21_1) x33_2).f1), .int .i64 ((rd_T39 (rd_L7 l0 x21_1) x33_2).f2), .int .i64 ((rd_T39 (rd_L7 l0 x21_1) x33_2).f3), (.slice A247_4 ((rd_T39 (rd_L7 l0 x21_1) x33_2).f4).length c247_4), .bool ((rd_T39 (rd_L7 l0 x21_1) x33_2).f5)] 39 (0, 0))) ∧ Aside0 (Below w.heap.size w wc))
                    case first =>
                     have H := HC39.out
                     clear HC39
                     by_cases c41 : ((rd_T39 (rd_L7 l0 x21_1) x33_2).f0) = 9
                     ·rw [if_pos c41] at H
                      have c41b0 : (((rd_T39 (rd_L7 l0 x21_1) x33_2).f0) == 9) = true := beq_iff_eq.mpr c41
                      have c41b1 : (((rd_T39 (rd_L7 l0 x21_1) x33_2).f0) != 9) = false := bne_eq_false_iff_eq.mpr c41
                      clear c41
                      (first | rw [c41b0] | (simp only [i64_w, i32_w]; rw [c41b0]) | skip)
                      replace H := Option.bind_eq_some_iff.mp H
                      obtain ⟨t263, A420, H⟩ := H
                      try dsimp only at H
                      have A42 := Aside0.mk A420
                      clear A420
                      obtain ⟨y264, hy264⟩ : ∃ y_ : List Int, y_ = (([((((rd_T39 (rd_L7 l0 x21_1) x33_2).f4).length : Int)) % 256, t263] : List Int)) := ⟨_, rfl⟩
                      replace H : (if x4_32.length + y264.length < 140737488355328 then (handoffref10_Encode.j5 kj32 (x4_32 ++ y264) l0 (l0.length : Int) x21_1 (rd_L7 l0 x21_1) ((rd_L7 l0 x21_1).length : Int) x33_2 ((rd_T39 (rd_L7 l0 x21_1) x33_2).f0) ((rd_T39 (rd_L7 l0 x21_1) x33_2).f1) ((rd_T39 (rd_L7 l0 x21_1) x33_2).f2) ((rd_T39 (rd_L7 l0 x21_1) x33_2).f3) ((rd_T39 (rd_L7 l0 x21_1) x33_2).f4) ((rd_T39 (rd_L7 l0 x21_1) x33_2).f5)) else (none)) = some (r1, r2) := by first | (rw [hy264]; with_reducible exact H) | (have H2_ := (Option.bind_some _ _).symm.trans H; rw [hy264]; with_reducible exact H2_) | (have H2_ := (Option.bind_some _ _).symm.trans H; with_reducible exact H2_) | with_reducible exact H | (rw [hy264]; exact H) | exact H
                      have Ny264 := Aside0.mk hy264
                      clear hy264
                      by_cases c43 : x4_32.length + y264.length < 140737488355328
                      ·rw [if_pos c43] at H
                       have LMc43 := Aside0.mk c43
                       clear c43
                       obtain ⟨y267, hy267⟩ : ∃ y_ : List Int, y_ = (x4_32 ++ y264) := ⟨_, rfl⟩
                       replace H : (handoffref10_Encode.j5 kj32 y267 l0 (l0.length : Int) x21_1 (rd_L7 l0 x21_1) ((rd_L7 l0 x21_1).length : Int) x33_2 ((rd_T39 (rd_L7 l0 x21_1) x33_2).f0) ((rd_T39 (rd_L7 l0 x21_1) x33_2).f1) ((rd_T39 (rd_L7 l0 x21_1) x33_2).f2) ((rd_T39 (rd_L7 l0 x21_1) x33_2).f3) ((rd_T39 (rd_L7 l0 x21_1) x33_2).f4) ((rd_T39 (rd_L7 l0 x21_1) x33_2).f5)) = some (r1, r2) := by first | (rw [hy267]; with_reducible exact H) | (have H2_ := (Option.bind_some _ _).symm.trans H; rw [hy267]; with_reducible exact H2_) | (have H2_ := (Option.bind_some _ _).symm.trans H; with_reducible exact H2_) | with_reducible exact H | (rw [hy267]; exact H) | exact H
                       have Ny267 := Aside0.mk hy267
                       clear hy267
                       have H' := Aside0.mk H
                       clear H
                       try go_wp2
                       have n0_ := Aside0.mk (Kd.R_drew HO_4.out)
                       have n1_ := Aside0.mk (blk_drew BK248.out)
                       have n2_ := Aside0.mk (below_drew1 HB.out)
                       clear HO_4
                       clear BK248
                       clear HB
                       have HO_4 := n0_
                       have BK248 := n1_
                       have HB := n2_
                       clear n0_ n1_ n2_
                       refine start_ (n := 11) (S := fun w' => w'.cell? ⟨gb248, 0, none⟩ = some (.int .i64 ((rd_T39 (rd_L7 l0 x21_1) x33_2).f0)) ∧ w'.cell? ⟨gb248, 1, none⟩ = some (.int .i64 ((rd_T39 (rd_L7 l0 x21_1) x33_2).f1)) ∧ w'.cell? ⟨gb248, 2, none⟩ = some (.int .i64 ((rd_T39 (rd_L7 l0 x21_1) x33_2).f2)) ∧ w'.cell? ⟨gb248, 3, none⟩ = some (.int .i64 ((rd_T39 (rd_L7 l0 x21_1) x33_2).f3)) ∧ w'.cell? ⟨gb248, 4, none⟩ = some (.slice A247_4 ((rd_T39 (rd_L7 l0 x21_1) x33_2).f4).length c247_4) ∧ w'.cell? ⟨gb248, 5, none⟩ = some (.bool ((rd_T39 (rd_L7 l0 x21_1) x33_2).f5))) (ds := []) #[false, false, false, false, false, false, false, false, false, false, false] (by kernel_rfl) rfl rfl ⟨(blk_cell BK248.out 0).trans rfl, (blk_cell BK248.out 1).trans rfl, (blk_cell BK248.out 2).trans rfl, (blk_cell BK248.out 3).trans rfl, (blk_cell BK248.out 4).trans rfl, (blk_cell BK248.out 5).trans rfl⟩ (fun hHeld => ?_); refine with_tabW handoffref10_Encode.tab19 handoffref10_Encode.bits19 (fun HT_ HW_ => ?_)
                       generalize wc.drew = w44 at HO_4 BK248 HB hHeld ⊢
                       refine pure_ (i := 0) (N := some 74) (v := ?_) (a' := ?_) #[true, false, false, false, false, false, false, false, false, false, false] rfl rfl (any_of HT_.out (by kernel_rfl)) (fun _ _ _ h => h) (Or.inl ⟨by rfl, ?_⟩) ?_ ?_
                       rotate_left
                       ·intro w'
                        go_simp
                        with_reducible rfl
                       rotate_left
                       ·simp only [Act.put, List.setIfInBounds_toArray, List.set_cons_zero, List.set_cons_succ, i64_w, i32_w]
                        rfl
                       refine pure_ (i := 1) (N := some 75) (v := ?_) (a' := ?_) #[true, true, false, false, false, false, false, false, false, false, false] rfl rfl (any_of HT_.out (by kernel_rfl)) (fun _ _ _ h => h) (Or.inl ⟨by rfl, ?_⟩) ?_ ?_
                       rotate_left
                       ·intro w'
                        go_simp
                        with_reducible rfl
                       rotate_left
                       ·simp only [Act.put, List.setIfInBounds_toArray, List.set_cons_zero, List.set_cons_succ, i64_w, i32_w]
                        rfl
                       refine pure_ (i := 5) (N := some 79) (v := ?_) (a' := ?_) #[true, true, false, false, false, true, false, false, false, false, false] rfl rfl (any_of HT_.out (by kernel_rfl)) (fun _ _ _ h => h) (Or.inl ⟨by rfl, ?_⟩) ?_ ?_
                       rotate_left
                       ·intro w'
                        go_simp
                        with_reducible rfl
                       rotate_left
                       ·simp only [Act.put, List.setIfInBounds_toArray, List.set_cons_zero, List.set_cons_succ, i64_w, i32_w]
                        rfl
                       refine take_ (i := 2) (N := some 76) (v := ?_) (a' := ?_) #[true, true, true, false, false, true, false, false, false, false, false] rfl rfl (take_ofW HT_.out HW_.out (by kernel_rfl)) (fun _ _ _ h => h) (Or.inl ⟨by rfl, ?_⟩) hHeld ?_ ?_
                       rotate_left
                       ·rintro w' ⟨s0, s1, s2, s3, s4, s5⟩
                        go_simp
                        with_reducible rfl
                       rotate_left
                       ·simp only [Act.put, List.setIfInBounds_toArray, List.set_cons_zero, List.set_cons_succ, i64_w, i32_w]
                        rfl
                       refine pure_ (i := 3) (N := some 77) (v := ?_) (a' := ?_) #[true, true, true, true, false, true, false, false, false, false, false] rfl rfl (any_of HT_.out (by kernel_rfl)) (fun _ _ _ h => h) (Or.inl ⟨by rfl, ?_⟩) ?_ ?_
                       rotate_left
                       ·intro w'
                        go_simp
                        with_reducible rfl
                       rotate_left
                       ·simp only [Act.put, List.setIfInBounds_toArray, List.set_cons_zero, List.set_cons_succ, i64_w, i32_w]
                        rfl
                       refine pure_ (i := 4) (N := some 78) (v := ?_) (a' := ?_) #[true, true, true, true, true, true, false, false, false, false, false] rfl rfl (any_of HT_.out (by kernel_rfl)) (fun _ _ _ h => h) (Or.inl ⟨by rfl, ?_⟩) ?_ ?_
                       rotate_left
                       ·intro w'
                        go_simp
                        with_reducible rfl
                       rotate_left
                       ·simp only [Act.put, List.setIfInBounds_toArray, List.set_cons_zero, List.set_cons_succ, i64_w, i32_w]
                        rfl
                       refine take_ (i := 6) (N := some 80) (v := ?_) (a' := ?_) #[true, true, true, true, true, true, true, false, false, false, false] rfl rfl (take_ofW HT_.out HW_.out (by kernel_rfl)) (fun _ _ _ h => h) (Or.inl ⟨by rfl, ?_⟩) hHeld ?_ ?_
                       rotate_left
                       ·rintro w' ⟨s0, s1, s2, s3, s4, s5⟩
                        go_simp
                        with_reducible rfl
                       rotate_left
                       ·simp only [Act.put, List.setIfInBounds_toArray, List.set_cons_zero, List.set_cons_succ, i64_w, i32_w]
                        rfl
                       refine one_ (i := 7) (N := some 81) #[true, true, true, true, true, true, true, true, false, false, false] rfl rfl (one_of HT_.out (by kernel_rfl)) (by decide) (fun K hK => ?_)
                       refine goes_ Try.func69 (by kernel_rfl) rfl #[.bool ((rd_T39 (rd_L7 l0 x21_1) x33_2).f5)] (by rfl) rfl rfl (by (try simp only [List.map_toArray, List.map_cons, List.map_nil]); first | done | rfl | simp) ?_
                       with_reducible refine (handoffref10_flag.calls ((rd_T39 (rd_L7 l0 x21_1) x33_2).f5) t263 _ A42.out).mono ?_
                       rintro e w' ⟨rfl, ⟨nd, rfl⟩⟩
                       refine ⟨_, rfl, ?_⟩
                       refine hK.out _ _ ⟨(blk_cell BK248.out 0).trans rfl, (blk_cell BK248.out 1).trans rfl, (blk_cell BK248.out 2).trans rfl, (blk_cell BK248.out 3).trans rfl, (blk_cell BK248.out 4).trans rfl, (blk_cell BK248.out 5).trans rfl⟩ (fun hHeld => ?_)
                       clear hK K
                       refine norm_ (a' := ?_) ?_ ?_
                       rotate_left
                       ·show Act.put _ (some 81) _ = _
                        simp only [Act.put, List.setIfInBounds_toArray, List.set_cons_zero, List.set_cons_succ, i64_w, i32_w]
                        rfl
                       refine one_ (i := 8) (N := some 82) #[true, true, true, true, true, true, true, true, true, false, false] rfl rfl (one_of HT_.out (by kernel_rfl)) (by decide) (fun K hK => ?_)
                       refine Kd.R_lit_step (Kd.int .u8) _ 5 ?hg (N := 82) ?hd (xs := ([((((rd_T39 (rd_L7 l0 x21_1) x33_2).f4).length : Int)) % 256, t263] : List Int)) (inner := [.int .u8 (((((rd_T39 (rd_L7 l0 x21_1) x33_2).f4).length : Int)) % 256), .int .u8 t263]) (ok := fun _ => True) (okp := fun _ => True) ?hr ?hp (fun _ hk => hk) trivial (Below.refl _ _) (Nat.le_refl _) (by simp) ?_; (case hd => rfl); (case hg => rfl); (case hr => first | (go_simp; done) | (go_simp; rfl)); (case hp => exact (Reps.one (show Kd.M (Kd.int .u8) _ _ _ (((((rd_T39 (rd_L7 l0 x21_1) x33_2).f4).length : Int)) % 256) [.int .u8 (((((rd_T39 (rd_L7 l0 x21_1) x33_2).f4).length : Int)) % 256)] from rfl) (Reps.one (show Kd.M (Kd.int .u8) _ _ _ t263 [.int .u8 t263] from rfl) (Reps.none _ _))))
                       intro v265 w45 ho46 hb hg_ hnew_
                       clear hg_ hnew_
                       (first | rw [← Ny264.out] at ho46 | (simp only [Int.reduceToNat] at ho46; rw [← Ny264.out] at ho46))
                       have n0_ := Aside0.mk (Kd.R_elder' (by exact Kd.R_w HO_4.out) (Kd.R_base ho46) hb)
                       have n1_ := Aside0.mk (Kd.R_lower (Kd.R_new' ho46 (Kd.R_lt (by exact Kd.R_w HO_4.out))) (below_size (by repeat (with_reducible first | exact HB.out | apply below_t | refine below_set ?_ GE248.out))))
                       have n2_ := Aside0.mk (blk_below (g := gb248) (o := .cells #[.int .i64 ((rd_T39 (rd_L7 l0 x21_1) x33_2).f0), .int .i64 ((rd_T39 (rd_L7 l0 x21_1) x33_2).f1), .int .i64 ((rd_T39 (rd_L7 l0 x21_1) x33_2).f2), .int .i64 ((rd_T39 (rd_L7 l0 x21_1) x33_2).f3), .slice A247_4 ((rd_T39 (rd_L7 l0 x21_1) x33_2).f4).length c247_4, .bool ((rd_T39 (rd_L7 l0 x21_1) x33_2).f5)] 39 (0, 0)) (by exact blk_w BK248.out) hb)
                       have n3_ := Aside0.mk (below_step (by repeat (with_reducible first | exact HB.out | apply below_t | refine below_set ?_ GE248.out)) hb)
                       clear HO_4
                       clear BK248
                       clear HB
                       have HO_4 := n0_
                       have HO266 := n1_
                       have BK248 := n2_
                       have HB := n3_
                       clear n0_ n1_ n2_ n3_
                       clear hb ho46
                       obtain ⟨Ao48, co48, eo48⟩ := Kd.R_slice HO266.out
                       (first | subst eo48 | (injection eo48 with f1_ f2_ f3_; have f4_ := f1_.symm; have f5_ := f3_.symm; clear f1_ f2_ f3_; subst f4_; subst f5_))
                       refine hK.out _ _ ⟨(blk_cell BK248.out 0).trans rfl, (blk_cell BK248.out 1).trans rfl, (blk_cell BK248.out 2).trans rfl, (blk_cell BK248.out 3).trans rfl, (blk_cell BK248.out 4).trans rfl, (blk_cell BK248.out 5).trans rfl⟩ (fun hHeld => ?_)
                       clear hK K
                       refine norm_ (a' := ?_) ?_ ?_
                       rotate_left
                       ·show Act.put _ (some 82) _ = _
                        simp only [Act.put, List.setIfInBounds_toArray, List.set_cons_zero, List.set_cons_succ, i64_w, i32_w]
                        rfl
                       refine one_ (i := 9) (N := some 83) #[true, true, true, true, true, true, true, true, true, true, false] rfl rfl (one_of HT_.out (by kernel_rfl)) (by decide) (fun K hK => ?_)
                       refine Kd.R_append_rows_step (Kd.int .u8) (w0 := w) w.heap.size (by rfl) (.tmp 74) (.tmp 82) 42 5 (.int .u8 0) 1 rfl Try.underlying42 info5 rfl (by decide) (by omega) u4 x4_32 y264 _ _ _ (fun k_ => some k_ ≠ (.slice Ao48 y264.length co48 : Value).ownBlock) (fun _ => False) rfl rfl ?aO ?aR (fun _ _ h => h) (fun _ h => h.elim) ?aF ?aB ?aS ?aL ?_
                       (case aR => exact Kd.C_w (Kd.R_reads' HO266.out).2.2)
                       (case aB => exact (by repeat (with_reducible first | exact HB.out | apply below_t | refine below_set ?_ GE248.out)))
                       (case aF => exact (fun k_ hk => Kd.fresh' (Kd.R_lt (by exact Kd.R_w HO266.out)) k_ hk))
                       (case aO => exact (by apply Kd.R_w; exact Kd.R_mono HO_4.out (fun _ hk => hk.2)))
                       (case aS => exact (below_size (by repeat (with_reducible first | exact HB.out | apply below_t | refine below_set ?_ GE248.out))))
                       (case aL => have := LMc43.out; omega)
                       intro v268 w47 ho hb hg hat
                       rw [← Ny267.out] at ho
                       have n0_ := Aside0.mk (blk_grown (g := gb248) (o := .cells #[.int .i64 ((rd_T39 (rd_L7 l0 x21_1) x33_2).f0), .int .i64 ((rd_T39 (rd_L7 l0 x21_1) x33_2).f1), .int .i64 ((rd_T39 (rd_L7 l0 x21_1) x33_2).f2), .int .i64 ((rd_T39 (rd_L7 l0 x21_1) x33_2).f3), .slice A247_4 ((rd_T39 (rd_L7 l0 x21_1) x33_2).f4).length c247_4, .bool ((rd_T39 (rd_L7 l0 x21_1) x33_2).f5)] 39 (0, 0)) (by exact blk_w BK248.out) hg (Kd.R_ne HO_4.out BK248.out (by decide)))
                       have n1_ := Aside0.mk (Kd.R_after (ok := (fun _ => True)) (by exact Kd.R_w HO266.out) hg hat)
                       have n2_ := Aside0.mk (hb)
                       have n3_ := Aside0.mk (ho)
                       clear BK248
                       clear HO266
                       clear HB
                       clear HO_4
                       have BK248 := n0_
                       have HO266 := n1_
                       have HB := n2_
                       have HO269 := n3_
                       clear n0_ n1_ n2_ n3_
                       clear ho hb hg hat
                       refine hK.out _ _ ⟨(blk_cell BK248.out 0).trans rfl, (blk_cell BK248.out 1).trans rfl, (blk_cell BK248.out 2).trans rfl, (blk_cell BK248.out 3).trans rfl, (blk_cell BK248.out 4).trans rfl, (blk_cell BK248.out 5).trans rfl⟩ (fun hHeld => ?_)
                       clear hK K
                       refine norm_ (a' := ?_) ?_ ?_
                       rotate_left
                       ·show Act.put _ (some 83) _ = _
                        simp only [Act.put, List.setIfInBounds_toArray, List.set_cons_zero, List.set_cons_succ, i64_w, i32_w]
                        rfl
                       refine pure_ (i := 10) (N := some 4) (v := ?_) (a' := ?_) #[true, true, true, true, true, true, true, true, true, true, true] rfl rfl (any_of HT_.out (by kernel_rfl)) (fun _ _ _ h => h) (Or.inl ⟨by rfl, ?_⟩) ?_ ?_
                       rotate_left
                       ·intro w'
                        go_simp
                        with_reducible rfl
                       rotate_left
                       ·simp only [Act.put, List.setIfInBounds_toArray, List.set_cons_zero, List.set_cons_succ, i64_w, i32_w]
                        rfl
                       refine done_ (done_of HT_.out (by kernel_rfl)) ?_
                       try go_wp2
                       go_meet
                       case rel => exact ⟨_, (y267), H', ⟨by have := HK1.out; have := HK2.out; have := HJ16.out; have := HJ25.out; have := HJ32.out; first | omega | exact Nat.le_refl _⟩, ⟨by apply Kd.R_w; exact Kd.R_mono HO269.out (fun _ hk => trivial)⟩, ⟨by exact blk_w BK248.out⟩, ⟨by repeat (with_reducible first | exact HB.out | apply below_t | refine below_set ?_ GE248.out)⟩⟩
                      ·rw [if_neg c43] at H
                       exact absurd H (by simp)
                     ·rw [if_neg c41] at H
                      have c41b0 : (((rd_T39 (rd_L7 l0 x21_1) x33_2).f0) == 9) = false := beq_eq_false_iff_ne.mpr c41
                      have c41b1 : (((rd_T39 (rd_L7 l0 x21_1) x33_2).f0) != 9) = true := bne_iff_ne.mpr c41
                      (first | rw [c41b0] | (simp only [i64_w, i32_w]; rw [c41b0]) | skip)
                      have H' := Aside0.mk H
                      clear H
                      go_wp2
                      go_meet
                      case rel => exact ⟨_, (x4_32), H', ⟨by have := HK1.out; have := HK2.out; have := HJ16.out; have := HJ25.out; have := HJ32.out; first | omega | exact Nat.le_refl _⟩, ⟨by exact Kd.R_w HO_4.out⟩, ⟨by exact blk_w BK248.out⟩, ⟨by repeat (with_reducible first | exact HB.out | apply below_t | refine below_set ?_ GE248.out)⟩⟩
                    case rest =>
                     clear HC39
                     (try clear c3); (try clear c7b0); (try clear c8b0); (try clear c9b0); (try clear c12b0); (try clear c13b0); (try clear c14b0); (try clear hcz19); (try clear hcz21); (try clear hcz27); (try clear hcz34); (try clear hcz40); (try clear hcz19); (try clear hcz21); (try clear hcz27); (try clear hcz34); (try clear hcz40); (try clear hx243_0); (try clear hx247_0); (try clear hx247_1); (try clear hx247_2); (try clear hx247_3); (try clear hx247_4); (try clear hx247_5); (try clear p243); (try clear p247); (try clear q243); (try clear q247)
                     obtain ⟨kq, x4_38, HA, HJ38, HO_4, BK248, HB⟩ := hcut
                     cases kq with
                     | zero => exact absurd HA.out (by simp [handoffref10_Encode.j5])
                     | succ kj38 =>
                      have H := HA.out
                      clear HA
                      simp only [handoffref10_Encode.j5] at H
                      have H' := Aside0.mk H
                      clear H
                      have hcz49 := blk6 BK248.out
                      go_wp2
                      go_loopg [4, 87] kj38 (fun kq v4 v87 w' => ∃ (x4_7 : List Int) (x87_7 : Int), v87 = .int .i64 x87_7 ∧ Aside0 (handoffref10_Encode.l2 kq x4_7 l0 (l0.length : Int) x21_1 (rd_L7 l0 x21_1) ((rd_L7 l0 x21_1).length : Int) x33_2 ((rd_T39 (rd_L7 l0 x21_1) x33_2).f4) (((rd_T39 (rd_L7 l0 x21_1) x33_2).f4).length : Int) x87_7 = some (r1, r2)) ∧ Aside0 (kq ≤ kj38) ∧ Aside0 (Kd.R (Kd.int .u8) 5 w' w.heap.size (fun _ => True) v4 x4_7) ∧ Aside0 (w'.heap[gb248]? = some (.cells #[.int .i64 ((rd_T39 (rd_L7 l0 x21_1) x33_2).f0), .int .i64 ((rd_T39 (rd_L7 l0 x21_1) x33_2).f1), .int .i64 ((rd_T39 (rd_L7 l0 x21_1) x33_2).f2), .int .i64 ((rd_T39 (rd_L7 l0 x21_1) x33_2).f3), (.slice A247_4 ((rd_T39 (rd_L7 l0 x21_1) x33_2).f4).length c247_4), .bool ((rd_T39 (rd_L7 l0 x21_1) x33_2).f5)] 39 (0, 0))) ∧ Aside0 (Below w.heap.size w w'))
                      case atStart => exact ⟨(x4_38), (0), (by first | rfl | (simp; done) | (simp [*]; done)), H', ⟨Nat.le_refl _⟩, ⟨by exact Kd.R_w HO_4.out⟩, ⟨by exact blk_w BK248.out⟩, ⟨by repeat (with_reducible first | exact HB.out | apply below_t | refine below_set ?_ GE248.out)⟩⟩
                      case round =>
                       clear H'
                       (try clear c3); (try clear c7b0); (try clear c8b0); (try clear c9b0); (try clear c12b0); (try clear c13b0); (try clear c14b0); (try clear hcz19); (try clear hcz21); (try clear hcz27); (try clear hcz34); (try clear hcz40); (try clear hcz49); (try clear hcz19); (try clear hcz21); (try clear hcz27); (try clear hcz34); (try clear hcz40); (try clear hcz49); (try clear hx243_0); (try clear hx247_0); (try clear hx247_1); (try clear hx247_2); (try clear hx247_3); (try clear hx247_4); (try clear hx247_5); (try clear p243); (try clear p247); (try clear q243); (try clear q247)
                       obtain ⟨x4_7, x87_7, rfl, HA, HK7, HO_4, BK248, HB⟩ := hrel
                       cases gk with
                       | zero => exact absurd HA.out (by simp [handoffref10_Encode.l2])
                       | succ k7 =>
                        have H := HA.out
                        clear HA
                        simp only [handoffref10_Encode.l2] at H
                        by_cases c50 : x87_7 < (((rd_T39 (rd_L7 l0 x21_1) x33_2).f4).length : Int)
                        ·rw [if_pos c50] at H
                         have c50b0 : decide (x87_7 < (((rd_T39 (rd_L7 l0 x21_1) x33_2).f4).length : Int)) = true := decide_eq_true c50
                         clear c50
                         by_cases c51 : 0 ≤ x87_7
                         ·rw [if_pos c51] at H
                          have c51b0 : decide (0 ≤ x87_7) = true := decide_eq_true c51
                          clear c51
                          by_cases c52 : x87_7 < (((rd_T39 (rd_L7 l0 x21_1) x33_2).f4).length : Int)
                          ·rw [if_pos c52] at H
                           have c52b0 : decide (x87_7 < (((rd_T39 (rd_L7 l0 x21_1) x33_2).f4).length : Int)) = true := decide_eq_true c52
                           clear c52
                           replace H := Option.bind_eq_some_iff.mp H
                           obtain ⟨t272, A530, H⟩ := H
                           try dsimp only at H
                           have A53 := Aside0.mk A530
                           clear A530
                           obtain ⟨y273, hy273⟩ : ∃ y_ : List Int, y_ = (([t272, ((rd_T116 ((rd_T39 (rd_L7 l0 x21_1) x33_2).f4) x87_7).f1) % 256] : List Int)) := ⟨_, rfl⟩
                           replace H : (if x4_7.length + y273.length < 140737488355328 then ((some (x4_7 ++ y273 : List Int)).bind fun y276 => (if (rd_T116 ((rd_T39 (rd_L7 l0 x21_1) x33_2).f4) x87_7).f0 = true then (if y276.length < 140737488355328 then (handoffref10_Encode.l2 k7 (y276 ++ [((rd_T116 ((rd_T39 (rd_L7 l0 x21_1) x33_2).f4) x87_7).f2) % 256]) l0 (l0.length : Int) x21_1 (rd_L7 l0 x21_1) ((rd_L7 l0 x21_1).length : Int) x33_2 ((rd_T39 (rd_L7 l0 x21_1) x33_2).f4) (((rd_T39 (rd_L7 l0 x21_1) x33_2).f4).length : Int) (wrap64 (x87_7 + 1))) else (none)) else (handoffref10_Encode.l2 k7 y276 l0 (l0.length : Int) x21_1 (rd_L7 l0 x21_1) ((rd_L7 l0 x21_1).length : Int) x33_2 ((rd_T39 (rd_L7 l0 x21_1) x33_2).f4) (((rd_T39 (rd_L7 l0 x21_1) x33_2).f4).length : Int) (wrap64 (x87_7 + 1))))) else (none)) = some (r1, r2) := by first | (rw [hy273]; with_reducible exact H) | (have H2_ := (Option.bind_some _ _).symm.trans H; rw [hy273]; with_reducible exact H2_) | (have H2_ := (Option.bind_some _ _).symm.trans H; with_reducible exact H2_) | with_reducible exact H | (rw [hy273]; exact H) | exact H
                           have Ny273 := Aside0.mk hy273
                           clear hy273
                           by_cases c54 : x4_7.length + y273.length < 140737488355328
                           ·rw [if_pos c54] at H
                            have LMc54 := Aside0.mk c54
                            clear c54
                            obtain ⟨y276, hy276⟩ : ∃ y_ : List Int, y_ = (x4_7 ++ y273) := ⟨_, rfl⟩
                            replace H : (if (rd_T116 ((rd_T39 (rd_L7 l0 x21_1) x33_2).f4) x87_7).f0 = true then (if y276.length < 140737488355328 then (handoffref10_Encode.l2 k7 (y276 ++ [((rd_T116 ((rd_T39 (rd_L7 l0 x21_1) x33_2).f4) x87_7).f2) % 256]) l0 (l0.length : Int) x21_1 (rd_L7 l0 x21_1) ((rd_L7 l0 x21_1).length : Int) x33_2 ((rd_T39 (rd_L7 l0 x21_1) x33_2).f4) (((rd_T39 (rd_L7 l0 x21_1) x33_2).f4).length : Int) (wrap64 (x87_7 + 1))) else (none)) else (handoffref10_Encode.l2 k7 y276 l0 (l0.length : Int) x21_1 (rd_L7 l0 x21_1) ((rd_L7 l0 x21_1).length : Int) x33_2 ((rd_T39 (rd_L7 l0 x21_1) x33_2).f4) (((rd_T39 (rd_L7 l0 x21_1) x33_2).f4).length : Int) (wrap64 (x87_7 + 1)))) = some (r1, r2) := by first | (rw [hy276]; with_reducible exact H) | (have H2_ := (Option.bind_some _ _).symm.trans H; rw [hy276]; with_reducible exact H2_) | (have H2_ := (Option.bind_some _ _).symm.trans H; with_reducible exact H2_) | with_reducible exact H | (rw [hy276]; exact H) | exact H
                            have Ny276 := Aside0.mk hy276
                            clear hy276
                            obtain ⟨bq55, hbq55⟩ : ∃ b_ : Bool, b_ = ((rd_T116 ((rd_T39 (rd_L7 l0 x21_1) x33_2).f4) x87_7).f0) := ⟨_, rfl⟩
                            replace H : (if bq55 = true then (if y276.length < 140737488355328 then (handoffref10_Encode.l2 k7 (y276 ++ [((rd_T116 ((rd_T39 (rd_L7 l0 x21_1) x33_2).f4) x87_7).f2) % 256]) l0 (l0.length : Int) x21_1 (rd_L7 l0 x21_1) ((rd_L7 l0 x21_1).length : Int) x33_2 ((rd_T39 (rd_L7 l0 x21_1) x33_2).f4) (((rd_T39 (rd_L7 l0 x21_1) x33_2).f4).length : Int) (wrap64 (x87_7 + 1))) else (none)) else (handoffref10_Encode.l2 k7 y276 l0 (l0.length : Int) x21_1 (rd_L7 l0 x21_1) ((rd_L7 l0 x21_1).length : Int) x33_2 ((rd_T39 (rd_L7 l0 x21_1) x33_2).f4) (((rd_T39 (rd_L7 l0 x21_1) x33_2).f4).length : Int) (wrap64 (x87_7 + 1)))) = some (r1, r2) := by rw [← hbq55] at H; exact H
                            have Nbq55 := Aside0.mk hbq55
                            clear hbq55
                            by_cases c56 : bq55 = true
                            ·subst c56
                             have H1 : (if y276.length < 140737488355328 then (handoffref10_Encode.l2 k7 (y276 ++ [((rd_T116 ((rd_T39 (rd_L7 l0 x21_1) x33_2).f4) x87_7).f2) % 256]) l0 (l0.length : Int) x21_1 (rd_L7 l0 x21_1) ((rd_L7 l0 x21_1).length : Int) x33_2 ((rd_T39 (rd_L7 l0 x21_1) x33_2).f4) (((rd_T39 (rd_L7 l0 x21_1) x33_2).f4).length : Int) (wrap64 (x87_7 + 1))) else (none)) = some (r1, r2) := by rw [if_pos rfl] at H; exact H
                             clear H
                             have H := H1
                             clear H1
                             by_cases c57 : y276.length < 140737488355328
                             ·rw [if_pos c57] at H
                              have LMc57 := Aside0.mk c57
                              clear c57
                              obtain ⟨y279, hy279⟩ : ∃ y_ : List Int, y_ = (y276 ++ [((rd_T116 ((rd_T39 (rd_L7 l0 x21_1) x33_2).f4) x87_7).f2) % 256]) := ⟨_, rfl⟩
                              replace H : (handoffref10_Encode.l2 k7 y279 l0 (l0.length : Int) x21_1 (rd_L7 l0 x21_1) ((rd_L7 l0 x21_1).length : Int) x33_2 ((rd_T39 (rd_L7 l0 x21_1) x33_2).f4) (((rd_T39 (rd_L7 l0 x21_1) x33_2).f4).length : Int) (wrap64 (x87_7 + 1))) = some (r1, r2) := by first | (rw [hy279]; with_reducible exact H) | (have H2_ := (Option.bind_some _ _).symm.trans H; rw [hy279]; with_reducible exact H2_) | (have H2_ := (Option.bind_some _ _).symm.trans H; with_reducible exact H2_) | with_reducible exact H | (rw [hy279]; exact H) | exact H
                              have Ny279 := Aside0.mk hy279
                              clear hy279
                              have H' := Aside0.mk H
                              clear H
                              have p270 : 0 ≤ (x87_7 : Int) := of_decide_eq_true (by first | (with_reducible assumption) | assumption)
                              have q270 : x87_7 < (((rd_T39 (rd_L7 l0 x21_1) x33_2).f4).length : Int) := of_decide_eq_true (by first | (with_reducible assumption) | assumption)
                              obtain ⟨ad270, e270, hx270_0, hx270_1, hx270_2⟩ := at_T116 HR247_4.out x87_7 p270 q270
                              (try rw [← Nbq55.out] at hx270_0)
                              cases e270
                              replace hx270_0 := (HB.out.cell (World.block_lt_of_cell? w _ hx270_0)).trans hx270_0
                              replace hx270_1 := (HB.out.cell (World.block_lt_of_cell? w _ hx270_1)).trans hx270_1
                              replace hx270_2 := (HB.out.cell (World.block_lt_of_cell? w _ hx270_2)).trans hx270_2
                              replace p270 := eq_true p270
                              replace q270 := eq_true q270
                              try go_wp2_with (first | ((with_reducible refine gate_dst (N := 10) rfl ?_); refine box_event ?hg (N := 10) ?hd (cs := #[.bool false, .int .i64 0, .int .i64 0]) (t := 116) ?hr ?_; (case hd => rfl); (case hg => rfl); (case hr => first | (go_simp; done) | (go_simp; rfl)); intro gb271 hg w58 hbox hb; have n0_ := Aside0.mk (Kd.R_below (by exact Kd.R_w HO_4.out) hb); have n1_ := Aside0.mk (blk_below (g := gb248) (o := .cells #[.int .i64 ((rd_T39 (rd_L7 l0 x21_1) x33_2).f0), .int .i64 ((rd_T39 (rd_L7 l0 x21_1) x33_2).f1), .int .i64 ((rd_T39 (rd_L7 l0 x21_1) x33_2).f2), .int .i64 ((rd_T39 (rd_L7 l0 x21_1) x33_2).f3), .slice (some ad270) ((rd_T39 (rd_L7 l0 x21_1) x33_2).f4).length c247_4, .bool ((rd_T39 (rd_L7 l0 x21_1) x33_2).f5)] 39 (0, 0)) (by exact blk_w BK248.out) hb); have n2_ := Aside0.mk (below_step (by repeat (with_reducible first | exact HB.out | apply below_t | refine below_set ?_ GE248.out)) hb); have n3_ := Aside0.mk (hbox); have n4_ := Aside0.mk ((by rw [hg]; exact (below_size (by repeat (with_reducible first | exact HB.out | apply below_t | refine below_set ?_ GE248.out))) : w.heap.size ≤ gb271)); have n5_ := Aside0.mk ((by rw [hg]; exact (below_size (by repeat (with_reducible first | exact HB.out | apply below_t | refine below_set ?_ GE248.out))) : w.heap.size ≤ gb271)); have n6_ := Aside0.mk ((by rw [hg]; exact Nat.ne_of_lt (blk_lt (g := gb248) (o := .cells #[.int .i64 ((rd_T39 (rd_L7 l0 x21_1) x33_2).f0), .int .i64 ((rd_T39 (rd_L7 l0 x21_1) x33_2).f1), .int .i64 ((rd_T39 (rd_L7 l0 x21_1) x33_2).f2), .int .i64 ((rd_T39 (rd_L7 l0 x21_1) x33_2).f3), .slice (some ad270) ((rd_T39 (rd_L7 l0 x21_1) x33_2).f4).length c247_4, .bool ((rd_T39 (rd_L7 l0 x21_1) x33_2).f5)] 39 (0, 0)) (by exact blk_w BK248.out)) : gb248 ≠ gb271)); have n7_ := Aside0.mk ((by rw [hg]; exact Nat.ne_of_gt (blk_lt (g := gb248) (o := .cells #[.int .i64 ((rd_T39 (rd_L7 l0 x21_1) x33_2).f0), .int .i64 ((rd_T39 (rd_L7 l0 x21_1) x33_2).f1), .int .i64 ((rd_T39 (rd_L7 l0 x21_1) x33_2).f2), .int .i64 ((rd_T39 (rd_L7 l0 x21_1) x33_2).f3), .slice (some ad270) ((rd_T39 (rd_L7 l0 x21_1) x33_2).f4).length c247_4, .bool ((rd_T39 (rd_L7 l0 x21_1) x33_2).f5)] 39 (0, 0)) (by exact blk_w BK248.out)) : gb271 ≠ gb248)); clear HO_4; clear BK248; clear HB; have HO_4 := n0_; have BK248 := n1_; have HB := n2_; have BK271 := n3_; have GW271 := n4_; have GE271 := n5_; have NB248_271 := n6_; have NB271_248 := n7_; clear n0_ n1_ n2_ n3_ n4_ n5_ n6_ n7_; clear hb hbox hg; have hnb59 := NB271_248.out; have hnc59 := NB248_271.out; have hcz60 := blk3 BK271.out))
                              have n0_ : Aside0 (Kd.R (Kd.int .u8) 5 (((w58.setCell ⟨gb271, 0, none⟩ (.bool true)).setCell ⟨gb271, 1, none⟩ (.int .i64 ((rd_T116 ((rd_T39 (rd_L7 l0 x21_1) x33_2).f4) x87_7).f1))).setCell ⟨gb271, 2, none⟩ (.int .i64 ((rd_T116 ((rd_T39 (rd_L7 l0 x21_1) x33_2).f4) x87_7).f2))) w.heap.size (fun _ => True) u4 x4_7) := ⟨by apply Kd.R_w; exact Kd.R_mono (Kd.R_far (p := ⟨gb271, 2, none⟩) (Kd.R_far (p := ⟨gb271, 1, none⟩) (Kd.R_far (p := ⟨gb271, 0, none⟩) (Kd.R_types HO_4.out BK271.out (by decide)) (fun _ hk => hk.2) (.bool true)) (fun _ hk => hk.2) (.int .i64 ((rd_T116 ((rd_T39 (rd_L7 l0 x21_1) x33_2).f4) x87_7).f1))) (fun _ hk => hk.2) (.int .i64 ((rd_T116 ((rd_T39 (rd_L7 l0 x21_1) x33_2).f4) x87_7).f2))) (fun _ hk => trivial)⟩
                              have n1_ : Aside0 ((((w58.setCell ⟨gb271, 0, none⟩ (.bool true)).setCell ⟨gb271, 1, none⟩ (.int .i64 ((rd_T116 ((rd_T39 (rd_L7 l0 x21_1) x33_2).f4) x87_7).f1))).setCell ⟨gb271, 2, none⟩ (.int .i64 ((rd_T116 ((rd_T39 (rd_L7 l0 x21_1) x33_2).f4) x87_7).f2))).heap[gb248]? = some (.cells #[.int .i64 ((rd_T39 (rd_L7 l0 x21_1) x33_2).f0), .int .i64 ((rd_T39 (rd_L7 l0 x21_1) x33_2).f1), .int .i64 ((rd_T39 (rd_L7 l0 x21_1) x33_2).f2), .int .i64 ((rd_T39 (rd_L7 l0 x21_1) x33_2).f3), .slice (some ad270) ((rd_T39 (rd_L7 l0 x21_1) x33_2).f4).length c247_4, .bool ((rd_T39 (rd_L7 l0 x21_1) x33_2).f5)] 39 (0, 0))) := ⟨by refine blk_w ?_; refine blk_far (blk_w ?_) NB248_271.out _; refine blk_far (blk_w ?_) NB248_271.out _; exact blk_far (blk_w BK248.out) NB248_271.out _⟩
                              have n2_ : Aside0 ((((w58.setCell ⟨gb271, 0, none⟩ (.bool true)).setCell ⟨gb271, 1, none⟩ (.int .i64 ((rd_T116 ((rd_T39 (rd_L7 l0 x21_1) x33_2).f4) x87_7).f1))).setCell ⟨gb271, 2, none⟩ (.int .i64 ((rd_T116 ((rd_T39 (rd_L7 l0 x21_1) x33_2).f4) x87_7).f2))).heap[gb271]? = some (.cells #[.bool true, .int .i64 ((rd_T116 ((rd_T39 (rd_L7 l0 x21_1) x33_2).f4) x87_7).f1), .int .i64 ((rd_T116 ((rd_T39 (rd_L7 l0 x21_1) x33_2).f4) x87_7).f2)] 116 (0, 0))) := ⟨by refine blk_w ?_; refine blk_put (cs := #[.bool true, .int .i64 ((rd_T116 ((rd_T39 (rd_L7 l0 x21_1) x33_2).f4) x87_7).f1), .int .i64 0]) ?_ 2 _ rfl; refine blk_w ?_; refine blk_put (cs := #[.bool true, .int .i64 0, .int .i64 0]) ?_ 1 _ rfl; refine blk_w ?_; refine blk_put (cs := #[.bool false, .int .i64 0, .int .i64 0]) ?_ 0 _ rfl; exact blk_w BK271.out⟩
                              have n3_ : Aside0 (Below w.heap.size w (((w58.setCell ⟨gb271, 0, none⟩ (.bool true)).setCell ⟨gb271, 1, none⟩ (.int .i64 ((rd_T116 ((rd_T39 (rd_L7 l0 x21_1) x33_2).f4) x87_7).f1))).setCell ⟨gb271, 2, none⟩ (.int .i64 ((rd_T116 ((rd_T39 (rd_L7 l0 x21_1) x33_2).f4) x87_7).f2)))) := ⟨by repeat (with_reducible first | exact HB.out | apply below_t | refine below_set ?_ GE248.out | refine below_set ?_ GE271.out)⟩
                              (try clear HO_4)
                              (try clear BK248)
                              (try clear BK271)
                              (try clear HB)
                              generalize (((w58.setCell ⟨gb271, 0, none⟩ (.bool true)).setCell ⟨gb271, 1, none⟩ (.int .i64 ((rd_T116 ((rd_T39 (rd_L7 l0 x21_1) x33_2).f4) x87_7).f1))).setCell ⟨gb271, 2, none⟩ (.int .i64 ((rd_T116 ((rd_T39 (rd_L7 l0 x21_1) x33_2).f4) x87_7).f2))) = w61 at n0_ n1_ n2_ n3_ ⊢
                              have HO_4 := n0_
                              have BK248 := n1_
                              have BK271 := n2_
                              have HB := n3_
                              clear n0_ n1_ n2_ n3_
                              have n0_ := Aside0.mk (Kd.R_drew HO_4.out)
                              have n1_ := Aside0.mk (blk_drew BK248.out)
                              have n2_ := Aside0.mk (blk_drew BK271.out)
                              have n3_ := Aside0.mk (below_drew1 HB.out)
                              clear HO_4
                              clear BK248
                              clear BK271
                              clear HB
                              have HO_4 := n0_
                              have BK248 := n1_
                              have BK271 := n2_
                              have HB := n3_
                              clear n0_ n1_ n2_ n3_
                              refine start_ (n := 10) (S := fun w' => w'.cell? ⟨gb271, 0, none⟩ = some (.bool true) ∧ w'.cell? ⟨gb271, 1, none⟩ = some (.int .i64 ((rd_T116 ((rd_T39 (rd_L7 l0 x21_1) x33_2).f4) x87_7).f1)) ∧ w'.cell? ⟨gb271, 2, none⟩ = some (.int .i64 ((rd_T116 ((rd_T39 (rd_L7 l0 x21_1) x33_2).f4) x87_7).f2))) (ds := []) #[false, false, false, false, false, false, false, false, false, false] (by kernel_rfl) rfl rfl ⟨(blk_cell BK271.out 0).trans rfl, (blk_cell BK271.out 1).trans rfl, (blk_cell BK271.out 2).trans rfl⟩ (fun hHeld => ?_); refine with_tabW handoffref10_Encode.tab23 handoffref10_Encode.bits23 (fun HT_ HW_ => ?_)
                              generalize w61.drew = w62 at HO_4 BK248 BK271 HB hHeld ⊢
                              refine pure_ (i := 0) (N := some 91) (v := ?_) (a' := ?_) #[true, false, false, false, false, false, false, false, false, false] rfl rfl (any_of HT_.out (by kernel_rfl)) (fun _ _ _ h => h) (Or.inl ⟨by rfl, ?_⟩) ?_ ?_
                              rotate_left
                              ·intro w'
                               go_simp
                               with_reducible rfl
                              rotate_left
                              ·simp only [Act.put, List.setIfInBounds_toArray, List.set_cons_zero, List.set_cons_succ, i64_w, i32_w]
                               rfl
                              refine pure_ (i := 1) (N := some 92) (v := ?_) (a' := ?_) #[true, true, false, false, false, false, false, false, false, false] rfl rfl (any_of HT_.out (by kernel_rfl)) (fun _ _ _ h => h) (Or.inl ⟨by rfl, ?_⟩) ?_ ?_
                              rotate_left
                              ·intro w'
                               go_simp
                               with_reducible rfl
                              rotate_left
                              ·simp only [Act.put, List.setIfInBounds_toArray, List.set_cons_zero, List.set_cons_succ, i64_w, i32_w]
                               rfl
                              refine pure_ (i := 4) (N := some 95) (v := ?_) (a' := ?_) #[true, true, false, false, true, false, false, false, false, false] rfl rfl (any_of HT_.out (by kernel_rfl)) (fun _ _ _ h => h) (Or.inl ⟨by rfl, ?_⟩) ?_ ?_
                              rotate_left
                              ·intro w'
                               go_simp
                               with_reducible rfl
                              rotate_left
                              ·simp only [Act.put, List.setIfInBounds_toArray, List.set_cons_zero, List.set_cons_succ, i64_w, i32_w]
                               rfl
                              refine take_ (i := 2) (N := some 93) (v := ?_) (a' := ?_) #[true, true, true, false, true, false, false, false, false, false] rfl rfl (take_ofW HT_.out HW_.out (by kernel_rfl)) (fun _ _ _ h => h) (Or.inl ⟨by rfl, ?_⟩) hHeld ?_ ?_
                              rotate_left
                              ·rintro w' ⟨s0, s1, s2⟩
                               go_simp
                               with_reducible rfl
                              rotate_left
                              ·simp only [Act.put, List.setIfInBounds_toArray, List.set_cons_zero, List.set_cons_succ, i64_w, i32_w]
                               rfl
                              refine take_ (i := 5) (N := some 96) (v := ?_) (a' := ?_) #[true, true, true, false, true, true, false, false, false, false] rfl rfl (take_ofW HT_.out HW_.out (by kernel_rfl)) (fun _ _ _ h => h) (Or.inl ⟨by rfl, ?_⟩) hHeld ?_ ?_
                              rotate_left
                              ·rintro w' ⟨s0, s1, s2⟩
                               go_simp
                               with_reducible rfl
                              rotate_left
                              ·simp only [Act.put, List.setIfInBounds_toArray, List.set_cons_zero, List.set_cons_succ, i64_w, i32_w]
                               rfl
                              refine pure_ (i := 6) (N := some 97) (v := ?_) (a' := ?_) #[true, true, true, false, true, true, true, false, false, false] rfl rfl (any_of HT_.out (by kernel_rfl)) (fun _ _ _ h => h) (Or.inl ⟨by rfl, ?_⟩) ?_ ?_
                              rotate_left
                              ·intro w'
                               go_simp
                               with_reducible rfl
                              rotate_left
                              ·simp only [Act.put, List.setIfInBounds_toArray, List.set_cons_zero, List.set_cons_succ, i64_w, i32_w]
                               rfl
                              refine one_ (i := 3) (N := some 94) #[true, true, true, true, true, true, true, false, false, false] rfl rfl (one_of HT_.out (by kernel_rfl)) (by decide) (fun K hK => ?_)
                              refine goes_ Try.func69 (by kernel_rfl) rfl #[.bool true] (by rfl) rfl rfl (by (try simp only [List.map_toArray, List.map_cons, List.map_nil]); first | done | rfl | simp) ?_
                              with_reducible refine (handoffref10_flag.calls true t272 _ (by first | exact A53.out | (have q_ := A53.out; try rw [← Nbq55.out] at q_; exact q_))).mono ?_
                              rintro e w' ⟨rfl, ⟨nd, rfl⟩⟩
                              refine ⟨_, rfl, ?_⟩
                              refine hK.out _ _ ⟨(blk_cell BK271.out 0).trans rfl, (blk_cell BK271.out 1).trans rfl, (blk_cell BK271.out 2).trans rfl⟩ (fun hHeld => ?_)
                              clear hK K
                              refine norm_ (a' := ?_) ?_ ?_
                              rotate_left
                              ·show Act.put _ (some 94) _ = _
                               simp only [Act.put, List.setIfInBounds_toArray, List.set_cons_zero, List.set_cons_succ, i64_w, i32_w]
                               rfl
                              refine one_ (i := 7) (N := some 98) #[true, true, true, true, true, true, true, true, false, false] rfl rfl (one_of HT_.out (by kernel_rfl)) (by decide) (fun K hK => ?_)
                              refine Kd.R_lit_step (Kd.int .u8) _ 5 ?hg (N := 98) ?hd (xs := ([t272, ((rd_T116 ((rd_T39 (rd_L7 l0 x21_1) x33_2).f4) x87_7).f1) % 256] : List Int)) (inner := [.int .u8 t272, .int .u8 (((rd_T116 ((rd_T39 (rd_L7 l0 x21_1) x33_2).f4) x87_7).f1) % 256)]) (ok := fun _ => True) (okp := fun _ => True) ?hr ?hp (fun _ hk => hk) trivial (Below.refl _ _) (Nat.le_refl _) (by simp) ?_; (case hd => rfl); (case hg => rfl); (case hr => first | (go_simp; done) | (go_simp; rfl)); (case hp => exact (Reps.one (show Kd.M (Kd.int .u8) _ _ _ t272 [.int .u8 t272] from rfl) (Reps.one (show Kd.M (Kd.int .u8) _ _ _ (((rd_T116 ((rd_T39 (rd_L7 l0 x21_1) x33_2).f4) x87_7).f1) % 256) [.int .u8 (((rd_T116 ((rd_T39 (rd_L7 l0 x21_1) x33_2).f4) x87_7).f1) % 256)] from rfl) (Reps.none _ _))))
                              intro v274 w63 ho64 hb hg_ hnew_
                              clear hg_ hnew_
                              (first | rw [← Ny273.out] at ho64 | (simp only [Int.reduceToNat] at ho64; rw [← Ny273.out] at ho64))
                              have n0_ := Aside0.mk (Kd.R_elder' (by exact Kd.R_w HO_4.out) (Kd.R_base ho64) hb)
                              have n1_ := Aside0.mk (Kd.R_lower (Kd.R_new' ho64 (Kd.R_lt (by exact Kd.R_w HO_4.out))) (below_size (by repeat (with_reducible first | exact HB.out | apply below_t | refine below_set ?_ GE248.out | refine below_set ?_ GE271.out))))
                              have n2_ := Aside0.mk (blk_below (g := gb248) (o := .cells #[.int .i64 ((rd_T39 (rd_L7 l0 x21_1) x33_2).f0), .int .i64 ((rd_T39 (rd_L7 l0 x21_1) x33_2).f1), .int .i64 ((rd_T39 (rd_L7 l0 x21_1) x33_2).f2), .int .i64 ((rd_T39 (rd_L7 l0 x21_1) x33_2).f3), .slice (some ad270) ((rd_T39 (rd_L7 l0 x21_1) x33_2).f4).length c247_4, .bool ((rd_T39 (rd_L7 l0 x21_1) x33_2).f5)] 39 (0, 0)) (by exact blk_w BK248.out) hb)
                              have n3_ := Aside0.mk (blk_below (g := gb271) (o := .cells #[.bool true, .int .i64 ((rd_T116 ((rd_T39 (rd_L7 l0 x21_1) x33_2).f4) x87_7).f1), .int .i64 ((rd_T116 ((rd_T39 (rd_L7 l0 x21_1) x33_2).f4) x87_7).f2)] 116 (0, 0)) (by exact blk_w BK271.out) hb)
                              have n4_ := Aside0.mk (below_step (by repeat (with_reducible first | exact HB.out | apply below_t | refine below_set ?_ GE248.out | refine below_set ?_ GE271.out)) hb)
                              clear HO_4
                              clear BK248
                              clear BK271
                              clear HB
                              have HO_4 := n0_
                              have HO275 := n1_
                              have BK248 := n2_
                              have BK271 := n3_
                              have HB := n4_
                              clear n0_ n1_ n2_ n3_ n4_
                              clear hb ho64
                              obtain ⟨Ao66, co66, eo66⟩ := Kd.R_slice HO275.out
                              (first | subst eo66 | (injection eo66 with f1_ f2_ f3_; have f4_ := f1_.symm; have f5_ := f3_.symm; clear f1_ f2_ f3_; subst f4_; subst f5_))
                              refine hK.out _ _ ⟨(blk_cell BK271.out 0).trans rfl, (blk_cell BK271.out 1).trans rfl, (blk_cell BK271.out 2).trans rfl⟩ (fun hHeld => ?_)
                              clear hK K
                              refine norm_ (a' := ?_) ?_ ?_
                              rotate_left
                              ·show Act.put _ (some 98) _ = _
                               simp only [Act.put, List.setIfInBounds_toArray, List.set_cons_zero, List.set_cons_succ, i64_w, i32_w]
                               rfl
                              refine one_ (i := 8) (N := some 99) #[true, true, true, true, true, true, true, true, true, false] rfl rfl (one_of HT_.out (by kernel_rfl)) (by decide) (fun K hK => ?_)
                              refine Kd.R_append_rows_step (Kd.int .u8) (w0 := w) w.heap.size (by rfl) (.tmp 91) (.tmp 98) 42 5 (.int .u8 0) 1 rfl Try.underlying42 info5 rfl (by decide) (by omega) u4 x4_7 y273 _ _ _ (fun k_ => some k_ ≠ (.slice Ao66 y273.length co66 : Value).ownBlock) (fun _ => False) rfl rfl ?aO ?aR (fun _ _ h => h) (fun _ h => h.elim) ?aF ?aB ?aS ?aL ?_
                              (case aR => exact Kd.C_w (Kd.R_reads' HO275.out).2.2)
                              (case aB => exact (by repeat (with_reducible first | exact HB.out | apply below_t | refine below_set ?_ GE248.out | refine below_set ?_ GE271.out)))
                              (case aF => exact (fun k_ hk => Kd.fresh' (Kd.R_lt (by exact Kd.R_w HO275.out)) k_ hk))
                              (case aO => exact (by apply Kd.R_w; exact Kd.R_mono HO_4.out (fun _ hk => hk.2)))
                              (case aS => exact (below_size (by repeat (with_reducible first | exact HB.out | apply below_t | refine below_set ?_ GE248.out | refine below_set ?_ GE271.out))))
                              (case aL => have := LMc54.out; omega)
                              intro v277 w65 ho hb hg hat
                              rw [← Ny276.out] at ho
                              have n0_ := Aside0.mk (blk_grown (g := gb248) (o := .cells #[.int .i64 ((rd_T39 (rd_L7 l0 x21_1) x33_2).f0), .int .i64 ((rd_T39 (rd_L7 l0 x21_1) x33_2).f1), .int .i64 ((rd_T39 (rd_L7 l0 x21_1) x33_2).f2), .int .i64 ((rd_T39 (rd_L7 l0 x21_1) x33_2).f3), .slice (some ad270) ((rd_T39 (rd_L7 l0 x21_1) x33_2).f4).length c247_4, .bool ((rd_T39 (rd_L7 l0 x21_1) x33_2).f5)] 39 (0, 0)) (by exact blk_w BK248.out) hg (Kd.R_ne HO_4.out BK248.out (by decide)))
                              have n1_ := Aside0.mk (blk_grown (g := gb271) (o := .cells #[.bool true, .int .i64 ((rd_T116 ((rd_T39 (rd_L7 l0 x21_1) x33_2).f4) x87_7).f1), .int .i64 ((rd_T116 ((rd_T39 (rd_L7 l0 x21_1) x33_2).f4) x87_7).f2)] 116 (0, 0)) (by exact blk_w BK271.out) hg (Kd.R_ne HO_4.out BK271.out (by decide)))
                              have n2_ := Aside0.mk (Kd.R_after (ok := (fun _ => True)) (by exact Kd.R_w HO275.out) hg hat)
                              have n3_ := Aside0.mk (hb)
                              have n4_ := Aside0.mk (ho)
                              clear BK248
                              clear BK271
                              clear HO275
                              clear HB
                              clear HO_4
                              have BK248 := n0_
                              have BK271 := n1_
                              have HO275 := n2_
                              have HB := n3_
                              have HO278 := n4_
                              clear n0_ n1_ n2_ n3_ n4_
                              clear ho hb hg hat
                              refine hK.out _ _ ⟨(blk_cell BK271.out 0).trans rfl, (blk_cell BK271.out 1).trans rfl, (blk_cell BK271.out 2).trans rfl⟩ (fun hHeld => ?_)
                              clear hK K
                              refine norm_ (a' := ?_) ?_ ?_
                              rotate_left
                              ·show Act.put _ (some 99) _ = _
                               simp only [Act.put, List.setIfInBounds_toArray, List.set_cons_zero, List.set_cons_succ, i64_w, i32_w]
                               rfl
                              refine pure_ (i := 9) (N := some 4) (v := ?_) (a' := ?_) #[true, true, true, true, true, true, true, true, true, true] rfl rfl (any_of HT_.out (by kernel_rfl)) (fun _ _ _ h => h) (Or.inl ⟨by rfl, ?_⟩) ?_ ?_
                              rotate_left
                              ·intro w'
                               go_simp
                               with_reducible rfl
                              rotate_left
                              ·simp only [Act.put, List.setIfInBounds_toArray, List.set_cons_zero, List.set_cons_succ, i64_w, i32_w]
                               rfl
                              refine done_ (done_of HT_.out (by kernel_rfl)) ?_
                              have hcz67 := blk3 BK271.out
                              try go_wp2_with (first | ((with_reducible refine gate_builtin (b := .append) (xs := #[.tmp 102, .tmp 106]) rfl ?_); at_builtin; refine Kd.R_append (Kd.int .u8) (w0 := w) w.heap.size rfl (.tmp 102) (.tmp 106) 42 5 (.int .u8 0) 1 rfl Try.underlying42 info5 rfl (by decide) (by omega) v277 y276 (((rd_T116 ((rd_T39 (rd_L7 l0 x21_1) x33_2).f4) x87_7).f2) % 256) [.int .u8 (((rd_T116 ((rd_T39 (rd_L7 l0 x21_1) x33_2).f4) x87_7).f2) % 256)] (fun k_ => some k_ ≠ (.slice Ao66 y273.length co66 : Value).ownBlock) (fun _ => False) rfl rfl ?aP (fun _ hk => hk.elim) ?aF ?aO ?aB ?aS ?aL ?_; (case aP => exact rfl); (case aB => exact (by repeat (with_reducible first | exact HB.out | apply below_t | refine below_set ?_ GE248.out | refine below_set ?_ GE271.out))); (case aF => exact (fun k_ hk => Kd.fresh' (Kd.R_lt (by exact Kd.R_w HO275.out)) k_ hk)); (case aO => exact (by exact Kd.R_w HO278.out)); (case aS => exact (below_size (by repeat (with_reducible first | exact HB.out | apply below_t | refine below_set ?_ GE248.out | refine below_set ?_ GE271.out)))); (case aL => have := LMc57.out; omega); intro v280 w68 ho hb hg hat; rw [← Ny279.out] at ho; have n0_ := Aside0.mk (blk_grown (g := gb248) (o := .cells #[.int .i64 ((rd_T39 (rd_L7 l0 x21_1) x33_2).f0), .int .i64 ((rd_T39 (rd_L7 l0 x21_1) x33_2).f1), .int .i64 ((rd_T39 (rd_L7 l0 x21_1) x33_2).f2), .int .i64 ((rd_T39 (rd_L7 l0 x21_1) x33_2).f3), .slice (some ad270) ((rd_T39 (rd_L7 l0 x21_1) x33_2).f4).length c247_4, .bool ((rd_T39 (rd_L7 l0 x21_1) x33_2).f5)] 39 (0, 0)) (by exact blk_w BK248.out) hg (Kd.R_ne HO278.out BK248.out (by decide))); have n1_ := Aside0.mk (blk_grown (g := gb271) (o := .cells #[.bool true, .int .i64 ((rd_T116 ((rd_T39 (rd_L7 l0 x21_1) x33_2).f4) x87_7).f1), .int .i64 ((rd_T116 ((rd_T39 (rd_L7 l0 x21_1) x33_2).f4) x87_7).f2)] 116 (0, 0)) (by exact blk_w BK271.out) hg (Kd.R_ne HO278.out BK271.out (by decide))); have n2_ := Aside0.mk (Kd.R_after (ok := (fun _ => True)) (by exact Kd.R_w HO275.out) hg hat); have n3_ := Aside0.mk (hb); have n4_ := Aside0.mk (ho); clear BK248; clear BK271; clear HO275; clear HB; clear HO278; have BK248 := n0_; have BK271 := n1_; have HO275 := n2_; have HB := n3_; have HO281 := n4_; clear n0_ n1_ n2_ n3_ n4_; clear ho hb hg hat))
                              go_roundg k7
                              case measure => have := HK1.out; have := HK2.out; have := HJ16.out; have := HJ25.out; have := HJ32.out; have := HJ38.out; have := HK7.out; omega
                              case rel => exact ⟨(y279), (wrap64 (x87_7 + 1)), (by first | rfl | (simp; done) | (simp [*]; done)), H', ⟨by have := HK1.out; have := HK2.out; have := HJ16.out; have := HJ25.out; have := HJ32.out; have := HJ38.out; have := HK7.out; omega⟩, ⟨by apply Kd.R_w; exact Kd.R_mono HO281.out (fun _ hk => trivial)⟩, ⟨by exact blk_w BK248.out⟩, ⟨by repeat (with_reducible first | exact HB.out | apply below_t | refine below_set ?_ GE248.out | refine below_set ?_ GE271.out)⟩⟩
                             ·rw [if_neg c57] at H
                              exact absurd H (by simp)
                            ·replace c56 := Bool.eq_false_iff.mpr c56
                             subst c56
                             have H1 : (handoffref10_Encode.l2 k7 y276 l0 (l0.length : Int) x21_1 (rd_L7 l0 x21_1) ((rd_L7 l0 x21_1).length : Int) x33_2 ((rd_T39 (rd_L7 l0 x21_1) x33_2).f4) (((rd_T39 (rd_L7 l0 x21_1) x33_2).f4).length : Int) (wrap64 (x87_7 + 1))) = some (r1, r2) := by rw [if_neg (show ¬ (false = true) by decide)] at H; exact H
                             clear H
                             have H := H1
                             clear H1
                             have H' := Aside0.mk H
                             clear H
                             have p270 : 0 ≤ (x87_7 : Int) := of_decide_eq_true (by first | (with_reducible assumption) | assumption)
                             have q270 : x87_7 < (((rd_T39 (rd_L7 l0 x21_1) x33_2).f4).length : Int) := of_decide_eq_true (by first | (with_reducible assumption) | assumption)
                             obtain ⟨ad270, e270, hx270_0, hx270_1, hx270_2⟩ := at_T116 HR247_4.out x87_7 p270 q270
                             (try rw [← Nbq55.out] at hx270_0)
                             cases e270
                             replace hx270_0 := (HB.out.cell (World.block_lt_of_cell? w _ hx270_0)).trans hx270_0
                             replace hx270_1 := (HB.out.cell (World.block_lt_of_cell? w _ hx270_1)).trans hx270_1
                             replace hx270_2 := (HB.out.cell (World.block_lt_of_cell? w _ hx270_2)).trans hx270_2
                             replace p270 := eq_true p270
                             replace q270 := eq_true q270
                             try go_wp2_with (first | ((with_reducible refine gate_dst (N := 10) rfl ?_); refine box_event ?hg (N := 10) ?hd (cs := #[.bool false, .int .i64 0, .int .i64 0]) (t := 116) ?hr ?_; (case hd => rfl); (case hg => rfl); (case hr => first | (go_simp; done) | (go_simp; rfl)); intro gb271 hg w69 hbox hb; have n0_ := Aside0.mk (Kd.R_below (by exact Kd.R_w HO_4.out) hb); have n1_ := Aside0.mk (blk_below (g := gb248) (o := .cells #[.int .i64 ((rd_T39 (rd_L7 l0 x21_1) x33_2).f0), .int .i64 ((rd_T39 (rd_L7 l0 x21_1) x33_2).f1), .int .i64 ((rd_T39 (rd_L7 l0 x21_1) x33_2).f2), .int .i64 ((rd_T39 (rd_L7 l0 x21_1) x33_2).f3), .slice (some ad270) ((rd_T39 (rd_L7 l0 x21_1) x33_2).f4).length c247_4, .bool ((rd_T39 (rd_L7 l0 x21_1) x33_2).f5)] 39 (0, 0)) (by exact blk_w BK248.out) hb); have n2_ := Aside0.mk (below_step (by repeat (with_reducible first | exact HB.out | apply below_t | refine below_set ?_ GE248.out)) hb); have n3_ := Aside0.mk (hbox); have n4_ := Aside0.mk ((by rw [hg]; exact (below_size (by repeat (with_reducible first | exact HB.out | apply below_t | refine below_set ?_ GE248.out))) : w.heap.size ≤ gb271)); have n5_ := Aside0.mk ((by rw [hg]; exact (below_size (by repeat (with_reducible first | exact HB.out | apply below_t | refine below_set ?_ GE248.out))) : w.heap.size ≤ gb271)); have n6_ := Aside0.mk ((by rw [hg]; exact Nat.ne_of_lt (blk_lt (g := gb248) (o := .cells #[.int .i64 ((rd_T39 (rd_L7 l0 x21_1) x33_2).f0), .int .i64 ((rd_T39 (rd_L7 l0 x21_1) x33_2).f1), .int .i64 ((rd_T39 (rd_L7 l0 x21_1) x33_2).f2), .int .i64 ((rd_T39 (rd_L7 l0 x21_1) x33_2).f3), .slice (some ad270) ((rd_T39 (rd_L7 l0 x21_1) x33_2).f4).length c247_4, .bool ((rd_T39 (rd_L7 l0 x21_1) x33_2).f5)] 39 (0, 0)) (by exact blk_w BK248.out)) : gb248 ≠ gb271)); have n7_ := Aside0.mk ((by rw [hg]; exact Nat.ne_of_gt (blk_lt (g := gb248) (o := .cells #[.int .i64 ((rd_T39 (rd_L7 l0 x21_1) x33_2).f0), .int .i64 ((rd_T39 (rd_L7 l0 x21_1) x33_2).f1), .int .i64 ((rd_T39 (rd_L7 l0 x21_1) x33_2).f2), .int .i64 ((rd_T39 (rd_L7 l0 x21_1) x33_2).f3), .slice (some ad270) ((rd_T39 (rd_L7 l0 x21_1) x33_2).f4).length c247_4, .bool ((rd_T39 (rd_L7 l0 x21_1) x33_2).f5)] 39 (0, 0)) (by exact blk_w BK248.out)) : gb271 ≠ gb248)); clear HO_4; clear BK248; clear HB; have HO_4 := n0_; have BK248 := n1_; have HB := n2_; have BK271 := n3_; have GW271 := n4_; have GE271 := n5_; have NB248_271 := n6_; have NB271_248 := n7_; clear n0_ n1_ n2_ n3_ n4_ n5_ n6_ n7_; clear hb hbox hg; have hnb70 := NB271_248.out; have hnc70 := NB248_271.out; have hcz71 := blk3 BK271.out))
                             have n0_ : Aside0 (Kd.R (Kd.int .u8) 5 (((w69.setCell ⟨gb271, 0, none⟩ (.bool false)).setCell ⟨gb271, 1, none⟩ (.int .i64 ((rd_T116 ((rd_T39 (rd_L7 l0 x21_1) x33_2).f4) x87_7).f1))).setCell ⟨gb271, 2, none⟩ (.int .i64 ((rd_T116 ((rd_T39 (rd_L7 l0 x21_1) x33_2).f4) x87_7).f2))) w.heap.size (fun _ => True) u4 x4_7) := ⟨by apply Kd.R_w; exact Kd.R_mono (Kd.R_far (p := ⟨gb271, 2, none⟩) (Kd.R_far (p := ⟨gb271, 1, none⟩) (Kd.R_far (p := ⟨gb271, 0, none⟩) (Kd.R_types HO_4.out BK271.out (by decide)) (fun _ hk => hk.2) (.bool false)) (fun _ hk => hk.2) (.int .i64 ((rd_T116 ((rd_T39 (rd_L7 l0 x21_1) x33_2).f4) x87_7).f1))) (fun _ hk => hk.2) (.int .i64 ((rd_T116 ((rd_T39 (rd_L7 l0 x21_1) x33_2).f4) x87_7).f2))) (fun _ hk => trivial)⟩
                             have n1_ : Aside0 ((((w69.setCell ⟨gb271, 0, none⟩ (.bool false)).setCell ⟨gb271, 1, none⟩ (.int .i64 ((rd_T116 ((rd_T39 (rd_L7 l0 x21_1) x33_2).f4) x87_7).f1))).setCell ⟨gb271, 2, none⟩ (.int .i64 ((rd_T116 ((rd_T39 (rd_L7 l0 x21_1) x33_2).f4) x87_7).f2))).heap[gb248]? = some (.cells #[.int .i64 ((rd_T39 (rd_L7 l0 x21_1) x33_2).f0), .int .i64 ((rd_T39 (rd_L7 l0 x21_1) x33_2).f1), .int .i64 ((rd_T39 (rd_L7 l0 x21_1) x33_2).f2), .int .i64 ((rd_T39 (rd_L7 l0 x21_1) x33_2).f3), .slice (some ad270) ((rd_T39 (rd_L7 l0 x21_1) x33_2).f4).length c247_4, .bool ((rd_T39 (rd_L7 l0 x21_1) x33_2).f5)] 39 (0, 0))) := ⟨by refine blk_w ?_; refine blk_far (blk_w ?_) NB248_271.out _; refine blk_far (blk_w ?_) NB248_271.out _; exact blk_far (blk_w BK248.out) NB248_271.out _⟩
                             have n2_ : Aside0 ((((w69.setCell ⟨gb271, 0, none⟩ (.bool false)).setCell ⟨gb271, 1, none⟩ (.int .i64 ((rd_T116 ((rd_T39 (rd_L7 l0 x21_1) x33_2).f4) x87_7).f1))).setCell ⟨gb271, 2, none⟩ (.int .i64 ((rd_T116 ((rd_T39 (rd_L7 l0 x21_1) x33_2).f4) x87_7).f2))).heap[gb271]? = some (.cells #[.bool false, .int .i64 ((rd_T116 ((rd_T39 (rd_L7 l0 x21_1) x33_2).f4) x87_7).f1), .int .i64 ((rd_T116 ((rd_T39 (rd_L7 l0 x21_1) x33_2).f4) x87_7).f2)] 116 (0, 0))) := ⟨by refine blk_w ?_; refine blk_put (cs := #[.bool false, .int .i64 ((rd_T116 ((rd_T39 (rd_L7 l0 x21_1) x33_2).f4) x87_7).f1), .int .i64 0]) ?_ 2 _ rfl; refine blk_w ?_; refine blk_put (cs := #[.bool false, .int .i64 0, .int .i64 0]) ?_ 1 _ rfl; refine blk_w ?_; refine blk_put (cs := #[.bool false, .int .i64 0, .int .i64 0]) ?_ 0 _ rfl; exact blk_w BK271.out⟩
                             have n3_ : Aside0 (Below w.heap.size w (((w69.setCell ⟨gb271, 0, none⟩ (.bool false)).setCell ⟨gb271, 1, none⟩ (.int .i64 ((rd_T116 ((rd_T39 (rd_L7 l0 x21_1) x33_2).f4) x87_7).f1))).setCell ⟨gb271, 2, none⟩ (.int .i64 ((rd_T116 ((rd_T39 (rd_L7 l0 x21_1) x33_2).f4) x87_7).f2)))) := ⟨by repeat (with_reducible first | exact HB.out | apply below_t | refine below_set ?_ GE248.out | refine below_set ?_ GE271.out)⟩
                             (try clear HO_4)
                             (try clear BK248)
                             (try clear BK271)
                             (try clear HB)
                             generalize (((w69.setCell ⟨gb271, 0, none⟩ (.bool false)).setCell ⟨gb271, 1, none⟩ (.int .i64 ((rd_T116 ((rd_T39 (rd_L7 l0 x21_1) x33_2).f4) x87_7).f1))).setCell ⟨gb271, 2, none⟩ (.int .i64 ((rd_T116 ((rd_T39 (rd_L7 l0 x21_1) x33_2).f4) x87_7).f2))) = w72 at n0_ n1_ n2_ n3_ ⊢
                             have HO_4 := n0_
                             have BK248 := n1_
                             have BK271 := n2_
                             have HB := n3_
                             clear n0_ n1_ n2_ n3_
                             have n0_ := Aside0.mk (Kd.R_drew HO_4.out)
                             have n1_ := Aside0.mk (blk_drew BK248.out)
                             have n2_ := Aside0.mk (blk_drew BK271.out)
                             have n3_ := Aside0.mk (below_drew1 HB.out)
                             clear HO_4
                             clear BK248
                             clear BK271
                             clear HB
                             have HO_4 := n0_
                             have BK248 := n1_
                             have BK271 := n2_
                             have HB := n3_
                             clear n0_ n1_ n2_ n3_
                             refine start_ (n := 10) (S := fun w' => w'.cell? ⟨gb271, 0, none⟩ = some (.bool false) ∧ w'.cell? ⟨gb271, 1, none⟩ = some (.int .i64 ((rd_T116 ((rd_T39 (rd_L7 l0 x21_1) x33_2).f4) x87_7).f1)) ∧ w'.cell? ⟨gb271, 2, none⟩ = some (.int .i64 ((rd_T116 ((rd_T39 (rd_L7 l0 x21_1) x33_2).f4) x87_7).f2))) (ds := []) #[false, false, false, false, false, false, false, false, false, false] (by kernel_rfl) rfl rfl ⟨(blk_cell BK271.out 0).trans rfl, (blk_cell BK271.out 1).trans rfl, (blk_cell BK271.out 2).trans rfl⟩ (fun hHeld => ?_); refine with_tabW handoffref10_Encode.tab23 handoffref10_Encode.bits23 (fun HT_ HW_ => ?_)
                             generalize w72.drew = w73 at HO_4 BK248 BK271 HB hHeld ⊢
                             refine pure_ (i := 0) (N := some 91) (v := ?_) (a' := ?_) #[true, false, false, false, false, false, false, false, false, false] rfl rfl (any_of HT_.out (by kernel_rfl)) (fun _ _ _ h => h) (Or.inl ⟨by rfl, ?_⟩) ?_ ?_
                             rotate_left
                             ·intro w'
                              go_simp
                              with_reducible rfl
                             rotate_left
                             ·simp only [Act.put, List.setIfInBounds_toArray, List.set_cons_zero, List.set_cons_succ, i64_w, i32_w]
                              rfl
                             refine pure_ (i := 1) (N := some 92) (v := ?_) (a' := ?_) #[true, true, false, false, false, false, false, false, false, false] rfl rfl (any_of HT_.out (by kernel_rfl)) (fun _ _ _ h => h) (Or.inl ⟨by rfl, ?_⟩) ?_ ?_
                             rotate_left
                             ·intro w'
                              go_simp
                              with_reducible rfl
                             rotate_left
                             ·simp only [Act.put, List.setIfInBounds_toArray, List.set_cons_zero, List.set_cons_succ, i64_w, i32_w]
                              rfl
                             refine pure_ (i := 4) (N := some 95) (v := ?_) (a' := ?_) #[true, true, false, false, true, false, false, false, false, false] rfl rfl (any_of HT_.out (by kernel_rfl)) (fun _ _ _ h => h) (Or.inl ⟨by rfl, ?_⟩) ?_ ?_
                             rotate_left
                             ·intro w'
                              go_simp
                              with_reducible rfl
                             rotate_left
                             ·simp only [Act.put, List.setIfInBounds_toArray, List.set_cons_zero, List.set_cons_succ, i64_w, i32_w]
                              rfl
                             refine take_ (i := 2) (N := some 93) (v := ?_) (a' := ?_) #[true, true, true, false, true, false, false, false, false, false] rfl rfl (take_ofW HT_.out HW_.out (by kernel_rfl)) (fun _ _ _ h => h) (Or.inl ⟨by rfl, ?_⟩) hHeld ?_ ?_
                             rotate_left
                             ·rintro w' ⟨s0, s1, s2⟩
                              go_simp
                              with_reducible rfl
                             rotate_left
                             ·simp only [Act.put, List.setIfInBounds_toArray, List.set_cons_zero, List.set_cons_succ, i64_w, i32_w]
                              rfl
                             refine take_ (i := 5) (N := some 96) (v := ?_) (a' := ?_) #[true, true, true, false, true, true, false, false, false, false] rfl rfl (take_ofW HT_.out HW_.out (by kernel_rfl)) (fun _ _ _ h => h) (Or.inl ⟨by rfl, ?_⟩) hHeld ?_ ?_
                             rotate_left
                             ·rintro w' ⟨s0, s1, s2⟩
                              go_simp
                              with_reducible rfl
                             rotate_left
                             ·simp only [Act.put, List.setIfInBounds_toArray, List.set_cons_zero, List.set_cons_succ, i64_w, i32_w]
                              rfl
                             refine pure_ (i := 6) (N := some 97) (v := ?_) (a' := ?_) #[true, true, true, false, true, true, true, false, false, false] rfl rfl (any_of HT_.out (by kernel_rfl)) (fun _ _ _ h => h) (Or.inl ⟨by rfl, ?_⟩) ?_ ?_
                             rotate_left
                             ·intro w'
                              go_simp
                              with_reducible rfl
                             rotate_left
                             ·simp only [Act.put, List.setIfInBounds_toArray, List.set_cons_zero, List.set_cons_succ, i64_w, i32_w]
                              rfl
                             refine one_ (i := 3) (N := some 94) #[true, true, true, true, true, true, true, false, false, false] rfl rfl (one_of HT_.out (by kernel_rfl)) (by decide) (fun K hK => ?_)
                             refine goes_ Try.func69 (by kernel_rfl) rfl #[.bool false] (by rfl) rfl rfl (by (try simp only [List.map_toArray, List.map_cons, List.map_nil]); first | done | rfl | simp) ?_
                             with_reducible refine (handoffref10_flag.calls false t272 _ (by first | exact A53.out | (have q_ := A53.out; try rw [← Nbq55.out] at q_; exact q_))).mono ?_
                             rintro e w' ⟨rfl, ⟨nd, rfl⟩⟩
                             refine ⟨_, rfl, ?_⟩
                             refine hK.out _ _ ⟨(blk_cell BK271.out 0).trans rfl, (blk_cell BK271.out 1).trans rfl, (blk_cell BK271.out 2).trans rfl⟩ (fun hHeld => ?_)
                             clear hK K
                             refine norm_ (a' := ?_) ?_ ?_
                             rotate_left
                             ·show Act.put _ (some 94) _ = _
                              simp only [Act.put, List.setIfInBounds_toArray, List.set_cons_zero, List.set_cons_succ, i64_w, i32_w]
                              rfl
                             refine one_ (i := 7) (N := some 98) #[true, true, true, true, true, true, true, true, false, false] rfl rfl (one_of HT_.out (by kernel_rfl)) (by decide) (fun K hK => ?_)
                             refine Kd.R_lit_step (Kd.int .u8) _ 5 ?hg (N := 98) ?hd (xs := ([t272, ((rd_T116 ((rd_T39 (rd_L7 l0 x21_1) x33_2).f4) x87_7).f1) % 256] : List Int)) (inner := [.int .u8 t272, .int .u8 (((rd_T116 ((rd_T39 (rd_L7 l0 x21_1) x33_2).f4) x87_7).f1) % 256)]) (ok := fun _ => True) (okp := fun _ => True) ?hr ?hp (fun _ hk => hk) trivial (Below.refl _ _) (Nat.le_refl _) (by simp) ?_; (case hd => rfl); (case hg => rfl); (case hr => first | (go_simp; done) | (go_simp; rfl)); (case hp => exact (Reps.one (show Kd.M (Kd.int .u8) _ _ _ t272 [.int .u8 t272] from rfl) (Reps.one (show Kd.M (Kd.int .u8) _ _ _ (((rd_T116 ((rd_T39 (rd_L7 l0 x21_1) x33_2).f4) x87_7).f1) % 256) [.int .u8 (((rd_T116 ((rd_T39 (rd_L7 l0 x21_1) x33_2).f4) x87_7).f1) % 256)] from rfl) (Reps.none _ _))))
                             intro v274 w74 ho75 hb hg_ hnew_
                             clear hg_ hnew_
                             (first | rw [← Ny273.out] at ho75 | (simp only [Int.reduceToNat] at ho75; rw [← Ny273.out] at ho75))
                             have n0_ := Aside0.mk (Kd.R_elder' (by exact Kd.R_w HO_4.out) (Kd.R_base ho75) hb)
                             have n1_ := Aside0.mk (Kd.R_lower (Kd.R_new' ho75 (Kd.R_lt (by exact Kd.R_w HO_4.out))) (below_size (by repeat (with_reducible first | exact HB.out | apply below_t | refine below_set ?_ GE248.out | refine below_set ?_ GE271.out))))
                             have n2_ := Aside0.mk (blk_below (g := gb248) (o := .cells #[.int .i64 ((rd_T39 (rd_L7 l0 x21_1) x33_2).f0), .int .i64 ((rd_T39 (rd_L7 l0 x21_1) x33_2).f1), .int .i64 ((rd_T39 (rd_L7 l0 x21_1) x33_2).f2), .int .i64 ((rd_T39 (rd_L7 l0 x21_1) x33_2).f3), .slice (some ad270) ((rd_T39 (rd_L7 l0 x21_1) x33_2).f4).length c247_4, .bool ((rd_T39 (rd_L7 l0 x21_1) x33_2).f5)] 39 (0, 0)) (by exact blk_w BK248.out) hb)
                             have n3_ := Aside0.mk (blk_below (g := gb271) (o := .cells #[.bool false, .int .i64 ((rd_T116 ((rd_T39 (rd_L7 l0 x21_1) x33_2).f4) x87_7).f1), .int .i64 ((rd_T116 ((rd_T39 (rd_L7 l0 x21_1) x33_2).f4) x87_7).f2)] 116 (0, 0)) (by exact blk_w BK271.out) hb)
                             have n4_ := Aside0.mk (below_step (by repeat (with_reducible first | exact HB.out | apply below_t | refine below_set ?_ GE248.out | refine below_set ?_ GE271.out)) hb)
                             clear HO_4
                             clear BK248
                             clear BK271
                             clear HB
                             have HO_4 := n0_
                             have HO275 := n1_
                             have BK248 := n2_
                             have BK271 := n3_
                             have HB := n4_
                             clear n0_ n1_ n2_ n3_ n4_
                             clear hb ho75
                             obtain ⟨Ao77, co77, eo77⟩ := Kd.R_slice HO275.out
                             (first | subst eo77 | (injection eo77 with f1_ f2_ f3_; have f4_ := f1_.symm; have f5_ := f3_.symm; clear f1_ f2_ f3_; subst f4_; subst f5_))
                             refine hK.out _ _ ⟨(blk_cell BK271.out 0).trans rfl, (blk_cell BK271.out 1).trans rfl, (blk_cell BK271.out 2).trans rfl⟩ (fun hHeld => ?_)
                             clear hK K
                             refine norm_ (a' := ?_) ?_ ?_
                             rotate_left
                             ·show Act.put _ (some 98) _ = _
                              simp only [Act.put, List.setIfInBounds_toArray, List.set_cons_zero, List.set_cons_succ, i64_w, i32_w]
                              rfl
                             refine one_ (i := 8) (N := some 99) #[true, true, true, true, true, true, true, true, true, false] rfl rfl (one_of HT_.out (by kernel_rfl)) (by decide) (fun K hK => ?_)
                             refine Kd.R_append_rows_step (Kd.int .u8) (w0 := w) w.heap.size (by rfl) (.tmp 91) (.tmp 98) 42 5 (.int .u8 0) 1 rfl Try.underlying42 info5 rfl (by decide) (by omega) u4 x4_7 y273 _ _ _ (fun k_ => some k_ ≠ (.slice Ao77 y273.length co77 : Value).ownBlock) (fun _ => False) rfl rfl ?aO ?aR (fun _ _ h => h) (fun _ h => h.elim) ?aF ?aB ?aS ?aL ?_
                             (case aR => exact Kd.C_w (Kd.R_reads' HO275.out).2.2)
                             (case aB => exact (by repeat (with_reducible first | exact HB.out | apply below_t | refine below_set ?_ GE248.out | refine below_set ?_ GE271.out)))
                             (case aF => exact (fun k_ hk => Kd.fresh' (Kd.R_lt (by exact Kd.R_w HO275.out)) k_ hk))
                             (case aO => exact (by apply Kd.R_w; exact Kd.R_mono HO_4.out (fun _ hk => hk.2)))
                             (case aS => exact (below_size (by repeat (with_reducible first | exact HB.out | apply below_t | refine below_set ?_ GE248.out | refine below_set ?_ GE271.out))))
                             (case aL => have := LMc54.out; omega)
                             intro v277 w76 ho hb hg hat
                             rw [← Ny276.out] at ho
                             have n0_ := Aside0.mk (blk_grown (g := gb248) (o := .cells #[.int .i64 ((rd_T39 (rd_L7 l0 x21_1) x33_2).f0), .int .i64 ((rd_T39 (rd_L7 l0 x21_1) x33_2).f1), .int .i64 ((rd_T39 (rd_L7 l0 x21_1) x33_2).f2), .int .i64 ((rd_T39 (rd_L7 l0 x21_1) x33_2).f3), .slice (some ad270) ((rd_T39 (rd_L7 l0 x21_1) x33_2).f4).length c247_4, .bool ((rd_T39 (rd_L7 l0 x21_1) x33_2).f5)] 39 (0, 0)) (by exact blk_w BK248.out) hg (Kd.R_ne HO_4.out BK248.out (by decide)))
                             have n1_ := Aside0.mk (blk_grown (g := gb271) (o := .cells #[.bool false, .int .i64 ((rd_T116 ((rd_T39 (rd_L7 l0 x21_1) x33_2).f4) x87_7).f1), .int .i64 ((rd_T116 ((rd_T39 (rd_L7 l0 x21_1) x33_2).f4) x87_7).f2)] 116 (0, 0)) (by exact blk_w BK271.out) hg (Kd.R_ne HO_4.out BK271.out (by decide)))
                             have n2_ := Aside0.mk (Kd.R_after (ok := (fun _ => True)) (by exact Kd.R_w HO275.out) hg hat)
                             have n3_ := Aside0.mk (hb)
                             have n4_ := Aside0.mk (ho)
                             clear BK248
                             clear BK271
                             clear HO275
                             clear HB
                             clear HO_4
                             have BK248 := n0_
                             have BK271 := n1_
                             have HO275 := n2_
                             have HB := n3_
                             have HO278 := n4_
                             clear n0_ n1_ n2_ n3_ n4_
                             clear ho hb hg hat
                             refine hK.out _ _ ⟨(blk_cell BK271.out 0).trans rfl, (blk_cell BK271.out 1).trans rfl, (blk_cell BK271.out 2).trans rfl⟩ (fun hHeld => ?_)
                             clear hK K
                             refine norm_ (a' := ?_) ?_ ?_
                             rotate_left
                             ·show Act.put _ (some 99) _ = _
                              simp only [Act.put, List.setIfInBounds_toArray, List.set_cons_zero, List.set_cons_succ, i64_w, i32_w]
                              rfl
                             refine pure_ (i := 9) (N := some 4) (v := ?_) (a' := ?_) #[true, true, true, true, true, true, true, true, true, true] rfl rfl (any_of HT_.out (by kernel_rfl)) (fun _ _ _ h => h) (Or.inl ⟨by rfl, ?_⟩) ?_ ?_
                             rotate_left
                             ·intro w'
                              go_simp
                              with_reducible rfl
                             rotate_left
                             ·simp only [Act.put, List.setIfInBounds_toArray, List.set_cons_zero, List.set_cons_succ, i64_w, i32_w]
                              rfl
                             refine done_ (done_of HT_.out (by kernel_rfl)) ?_
                             have hcz78 := blk3 BK271.out
                             try go_wp2
                             go_roundg k7
                             case measure => have := HK1.out; have := HK2.out; have := HJ16.out; have := HJ25.out; have := HJ32.out; have := HJ38.out; have := HK7.out; omega
                             case rel => exact ⟨(y276), (wrap64 (x87_7 + 1)), (by first | rfl | (simp; done) | (simp [*]; done)), H', ⟨by have := HK1.out; have := HK2.out; have := HJ16.out; have := HJ25.out; have := HJ32.out; have := HJ38.out; have := HK7.out; omega⟩, ⟨by apply Kd.R_w; exact Kd.R_mono HO278.out (fun _ hk => trivial)⟩, ⟨by exact blk_w BK248.out⟩, ⟨by repeat (with_reducible first | exact HB.out | apply below_t | refine below_set ?_ GE248.out | refine below_set ?_ GE271.out)⟩⟩
                           ·rw [if_neg c54] at H
                            exact absurd H (by simp)
                          ·rw [if_neg c52] at H
                           exact absurd H (by simp)
                         ·rw [if_neg c51] at H
                          exact absurd H (by simp)
                        ·rw [if_neg c50] at H
                         have c50b0 : decide (x87_7 < (((rd_T39 (rd_L7 l0 x21_1) x33_2).f4).length : Int)) = false := decide_eq_false c50
                         clear c50
                         have H' := Aside0.mk H
                         clear H
                         go_wp2
                         go_roundg k7
                         case measure => have := HK1.out; have := HK2.out; have := HJ16.out; have := HJ25.out; have := HJ32.out; have := HJ38.out; have := HK7.out; omega
                         case rel => exact ⟨(x4_7), (wrap64 (x33_2 + 1)), (by first | rfl | (simp; done) | (simp [*]; done)), H', ⟨by have := HK1.out; have := HK2.out; have := HJ16.out; have := HJ25.out; have := HJ32.out; have := HJ38.out; have := HK7.out; omega⟩, ⟨by exact Kd.R_w HO_4.out⟩, ⟨by repeat (with_reducible first | exact HB.out | apply below_t | refine below_set ?_ GE248.out)⟩⟩
             ·rw [if_neg c15] at H
              exact absurd H (by simp)
            ·rw [if_neg c14] at H
             exact absurd H (by simp)
           ·rw [if_neg c13] at H
            exact absurd H (by simp)
          ·rw [if_neg c12] at H
           have c12b0 : decide (x33_2 < ((rd_L7 l0 x21_1).length : Int)) = false := decide_eq_false c12
           clear c12
           have H' := Aside0.mk H
           clear H
           go_wp2
           go_roundg k2
           case measure => have := HK1.out; have := HK2.out; omega
           case rel => exact ⟨(x4_2), (wrap64 (x21_1 + 1)), (by first | rfl | (simp; done) | (simp [*]; done)), H', ⟨by have := HK1.out; have := HK2.out; omega⟩, ⟨by exact Kd.R_w HO_4.out⟩, ⟨below_w HB.out⟩⟩
       ·rw [if_neg c10] at H
        exact absurd H (by simp)
      ·rw [if_neg c9] at H
       exact absurd H (by simp)
     ·rw [if_neg c8] at H
      exact absurd H (by simp)
    ·rw [if_neg c7] at H
     have c7b0 : decide (x21_1 < (l0.length : Int)) = false := decide_eq_false c7
     clear c7
     simp only [Option.some.injEq, Prod.mk.injEq] at H
     obtain ⟨rfl, rfl⟩ := H
     go_wp2
     go_ret2
     exact ⟨_, by first | rfl | (simp [errW_none, errW_some] <;> rfl) | (simp [*, errW_none, errW_some] <;> rfl), by apply Kd.R_w; exact HO_4.out, by exact below_w HB.out⟩
 ·replace c3 := Bool.eq_false_iff.mpr c3
  subst c3
  have H1 : (some (([] : List Int), 3)) = some (r1, r2) := by rw [if_neg (show ¬ (false = true) by decide)] at H; exact H
  clear H
  have H := H1
  clear H1
  simp only [Option.some.injEq, Prod.mk.injEq] at H
  obtain ⟨rfl, rfl⟩ := H
  go_enter Try.func27, Try.ntmps27
  go_wp2_with (first | ((with_reducible refine gate_callee (f := 31) rfl ?_); refine goesL_ (some 12) rfl rfl Try.func31 (by kernel_rfl) rfl #[.slice A0 l0.length c0] rfl (by (try simp only [List.map_toArray, List.map_cons, List.map_nil]); first | done | rfl | simp) ?_; (with_reducible refine (handoffref10_Right.calls k _ _ l0 false _ ?side1 ?side2 A2.out).mono ?_); (case side1 => exact Kd.C_w HR0.out); (case side2 => exact HC0.out); rintro e w79 ⟨rfl, hb⟩; refine ⟨_, rfl, ?_⟩; have n0_ := Aside0.mk (below_step (below_w HB.out) hb); clear HB; have HB := n0_; clear n0_; (try clear hb); (try clear hb2); (try clear hk); (try clear hi)))
  go_ret2
  exact ⟨_, by first | rfl | (simp [errW_none, errW_some] <;> rfl) | (simp [*, errW_none, errW_some] <;> rfl), by first | exact Kd.R_nil _ _ _ _ _ | exact Kd.N_nil _ _ _ _ _ | exact Kd.V_nil _ _ _ _ _ | exact Kd.Q_nil _ _ _ _ _ | exact Kd.S_nil _ _ _ _ _, by exact below_w HB.out⟩

end Go.Proofs.Ytjmpaeckpbpclaa.PPlK
