-- Out of the translation, by a program of this session.
import Derived.Test.YtjmpaeckpbpclaaWShort
import Derived.Test.YtjmpaeckpbpclaaPPlKx0
import Derived.Test.YtjmpaeckpbpclaaPPlKx7
import Derived.Test.YtjmpaeckpbpclaaPPlKx10
import Derived.Test.YtjmpaeckpbpclaaPPlKx11
namespace Go.Proofs.Ytjmpaeckpbpclaa.PPlK
open Go.RowKit Go.Proofs.YtjmpaeckpbpclaaW.PrintWords Go.Proofs.YtjmpaeckpbpclaaW.PrintLast Go.Proofs.YtjmpaeckpbpclaaW.PrintMore
attribute [local go_sem] max2_int min2_int max_two min_two max_three min_three max_four min_four   -- for this text's walks alone
set_option linter.unusedVariables false
set_option linter.unusedSimpArgs false

/-! ### plan_Encode: function 25 -/
mutual
def plan_Encode.l0 : Nat → List Int → List (List (S39)) → Int → Int → Option (List Int × Int)
  | 0, _, _, _, _ => none
  | k + 1, x4, x17, x18, x19 => if x19 < x18 then (if 0 ≤ x19 then (if x19 < (x17.length : Int) then (if x4.length < 140737488355328 then (plan_Encode.l1 k (x4 ++ [(((rd_L7 x17 x19).length : Int)) % 256]) x17 x18 x19 (rd_L7 x17 x19) ((rd_L7 x17 x19).length : Int) 0) else (none)) else (none)) else (none)) else (some (x4, 0))
def plan_Encode.l1 : Nat → List Int → List (List (S39)) → Int → Int → List (S39) → Int → Int → Option (List Int × Int)
  | 0, _, _, _, _, _, _, _ => none
  | k + 1, x4, x17, x18, x19, x29, x30, x31 => if x31 < x30 then (if 0 ≤ x31 then (if x31 < (x29.length : Int) then ((plan_put.f k x4 ((rd_T39 x29 x31).f0) ((rd_T39 x29 x31).f1) ((rd_T39 x29 x31).f2) ((rd_T39 x29 x31).f3) ((rd_T39 x29 x31).f4) ((rd_T39 x29 x31).f5)).bind fun t229 => (plan_Encode.l1 k t229 x17 x18 x19 x29 x30 (wrap64 (x31 + 1)))) else (none)) else (none)) else (plan_Encode.l0 k x4 x17 x18 (wrap64 (x19 + 1)))
end
def plan_Encode.f (k : Nat) (l0 : List (List (S39))) : Option (List Int × Int) := (plan_Right.f k l0).bind fun t219 => (if t219 = true then (plan_Encode.l0 k (([(wrap64 ((l0.length : Int) - 1)) % 256] : List Int)) l0 (l0.length : Int) 0) else (some (([] : List Int), 3)))
theorem plan_Encode.mono_l : ∀ k, (∀ y0 y1 y2 y3, LeO (plan_Encode.l0 k y0 y1 y2 y3) (plan_Encode.l0 (k + 1) y0 y1 y2 y3)) ∧ (∀ y0 y1 y2 y3 y4 y5 y6, LeO (plan_Encode.l1 k y0 y1 y2 y3 y4 y5 y6) (plan_Encode.l1 (k + 1) y0 y1 y2 y3 y4 y5 y6))
 | 0 => ⟨fun _ _ _ _ r h => by simp [plan_Encode.l0] at h, fun _ _ _ _ _ _ _ r h => by simp [plan_Encode.l1] at h⟩
 | k + 1 => by
  obtain ⟨ih0, ih1⟩ := plan_Encode.mono_l k
  refine ⟨?_, ?_⟩
  all_goals intros
  all_goals first | unfold plan_Encode.l0 | unfold plan_Encode.l1
  all_goals (repeat' first | with_reducible first | apply ih0 | apply ih1 | exact plan_Right.mono _ _ | exact plan_put.mono _ _ _ _ _ _ _ _ | exact LeO.refl _ | exact LeO.none _ | refine LeO.ite ?_ ?_ | refine LeO.bind ?_ (fun _ => ?_) | apply ih0 | apply ih1 | exact plan_Right.mono _ _ | exact plan_put.mono _ _ _ _ _ _ _ _ | exact LeO.none _ | refine LeO.ite ?_ ?_ | refine LeO.bind ?_ (fun _ => ?_))
theorem plan_Encode.mono : ∀ a0 k, LeO (plan_Encode.f k a0) (plan_Encode.f (k + 1) a0) := by
 intro a0 k
 obtain ⟨ih0, ih1⟩ := plan_Encode.mono_l k
 unfold plan_Encode.f
 repeat' first | with_reducible first | apply ih0 | apply ih1 | exact plan_Right.mono _ _ | exact plan_put.mono _ _ _ _ _ _ _ _ | exact LeO.refl _ | exact LeO.none _ | refine LeO.ite ?_ ?_ | refine LeO.bind ?_ (fun _ => ?_) | apply ih0 | apply ih1 | exact plan_Right.mono _ _ | exact plan_put.mono _ _ _ _ _ _ _ _ | exact LeO.none _ | refine LeO.ite ?_ ?_ | refine LeO.bind ?_ (fun _ => ?_)
set_option maxHeartbeats 8000000 in
set_option maxRecDepth 100000 in
theorem plan_Encode.calls (k : Nat) (A0 : Option Addr) (c0 : Nat) (l0 : List (List (S39))) (r1 : List Int) (r2 : Int) (w : World) (hr0 : Kd.C (Kd.slice 39 k39) w A0 l0.length l0) (hc0 : l0.length ≤ c0) (h : plan_Encode.f k l0 = some (r1, r2)) :
  Calls Try.prog 25 #[.slice A0 l0.length c0] w fun e w' => ∃ v0_ : Value, e = .returned (.tuple #[v0_, .int .i64 r2]) ∧ Kd.R (Kd.int .u8) 5 w' w.heap.size (fun _ => True) v0_ r1 ∧ Below w.heap.size w w' := by
 have hu39 := Try.underlying39
 have HR0 := Aside0.mk hr0
 have HC0 := Aside0.mk hc0
 clear hr0 hc0
 have HB := Aside0.mk (Below.refl w.heap.size w)
 have H : ((plan_Right.f k l0).bind fun t219 => (if t219 = true then (plan_Encode.l0 k (([(wrap64 ((l0.length : Int) - 1)) % 256] : List Int)) l0 (l0.length : Int) 0) else (some (([] : List Int), 3)))) = some (r1, r2) := h
 clear h
 replace H := Option.bind_eq_some_iff.mp H
 obtain ⟨t219, A20, H⟩ := H
 try dsimp only at H
 have A2 := Aside0.mk A20
 clear A20
 by_cases c3 : t219 = true
 ·subst c3
  have H1 : (plan_Encode.l0 k (([(wrap64 ((l0.length : Int) - 1)) % 256] : List Int)) l0 (l0.length : Int) 0) = some (r1, r2) := by rw [if_pos rfl] at H; exact H
  clear H
  have H := H1
  clear H1
  obtain ⟨y220, hy220⟩ : ∃ y_ : List Int, y_ = (([(wrap64 ((l0.length : Int) - 1)) % 256] : List Int)) := ⟨_, rfl⟩
  replace H : (plan_Encode.l0 k y220 l0 (l0.length : Int) 0) = some (r1, r2) := by first | (rw [hy220]; with_reducible exact H) | (have H2_ := (Option.bind_some _ _).symm.trans H; rw [hy220]; with_reducible exact H2_) | (have H2_ := (Option.bind_some _ _).symm.trans H; with_reducible exact H2_) | with_reducible exact H | (rw [hy220]; exact H) | exact H
  have Ny220 := Aside0.mk hy220
  clear hy220
  have H' := Aside0.mk H
  clear H
  go_enter Try.func25, Try.ntmps25
  go_wp2_with (first | ((with_reducible refine gate_callee (f := 30) rfl ?_); refine goesL_ (some 10) rfl rfl Try.func30 (by kernel_rfl) rfl #[.slice A0 l0.length c0] rfl (by (try simp only [List.map_toArray, List.map_cons, List.map_nil]); first | done | rfl | simp) ?_; (with_reducible refine (plan_Right.calls k _ _ l0 true _ ?side1 ?side2 A2.out).mono ?_); (case side1 => exact Kd.C_w HR0.out); (case side2 => exact HC0.out); rintro e w4 ⟨rfl, hb⟩; refine ⟨_, rfl, ?_⟩; have n0_ := Aside0.mk (below_step (below_w HB.out) hb); clear HB; have HB := n0_; clear n0_; (try clear hb); (try clear hb2); (try clear hk); (try clear hi)) | ((with_reducible refine gate_dst (N := 16) rfl ?_); refine Kd.R_lit (Kd.int .u8) _ 5 ?hg (N := 16) ?hd (xs := ([(wrap64 ((l0.length : Int) - 1)) % 256] : List Int)) (inner := [.int .u8 ((wrap64 ((l0.length : Int) - 1)) % 256)]) (ok := fun _ => True) (okp := fun _ => True) ?hr ?hp (fun _ hk => hk) trivial (Below.refl _ _) (Nat.le_refl _) (by simp) ?_; (case hd => rfl); (case hg => rfl); (case hr => first | (go_simp; done) | (go_simp; rfl)); (case hp => exact (Reps.one (show Kd.M (Kd.int .u8) _ _ _ ((wrap64 ((l0.length : Int) - 1)) % 256) [.int .u8 ((wrap64 ((l0.length : Int) - 1)) % 256)] from rfl) (Reps.none _ _))); intro v221 w5 ho6 hb hg_ hnew_; clear hg_ hnew_; (first | rw [← Ny220.out] at ho6 | (simp only [Int.reduceToNat] at ho6; rw [← Ny220.out] at ho6)); have n0_ := Aside0.mk (Kd.R_lower ho6 (below_size (below_w HB.out))); have n1_ := Aside0.mk (below_step (below_w HB.out) hb); clear HB; have HO222 := n0_; have HB := n1_; clear n0_ n1_; clear hb ho6))
  go_loopg [4, 19] k (fun kq v4 v19 w' => ∃ (x4_1 : List Int) (x19_1 : Int), v19 = .int .i64 x19_1 ∧ Aside0 (plan_Encode.l0 kq x4_1 l0 (l0.length : Int) x19_1 = some (r1, r2)) ∧ Aside0 (kq ≤ k) ∧ Aside0 (Kd.R (Kd.int .u8) 5 w' w.heap.size (fun _ => True) v4 x4_1) ∧ Aside0 (Below w.heap.size w w'))
  case atStart => exact ⟨(y220), (0), (by first | rfl | (simp; done) | (simp [*]; done)), H', ⟨Nat.le_refl _⟩, ⟨by exact Kd.R_w HO222.out⟩, ⟨below_w HB.out⟩⟩
  case round =>
   clear H'
   try clear c3
   obtain ⟨x4_1, x19_1, rfl, HA, HK1, HO_4, HB⟩ := hrel
   cases gk with
   | zero => exact absurd HA.out (by simp [plan_Encode.l0])
   | succ k1 =>
    have H := HA.out
    clear HA
    simp only [plan_Encode.l0] at H
    by_cases c7 : x19_1 < (l0.length : Int)
    ·rw [if_pos c7] at H
     have c7b0 : decide (x19_1 < (l0.length : Int)) = true := decide_eq_true c7
     clear c7
     by_cases c8 : 0 ≤ x19_1
     ·rw [if_pos c8] at H
      have c8b0 : decide (0 ≤ x19_1) = true := decide_eq_true c8
      clear c8
      by_cases c9 : x19_1 < (l0.length : Int)
      ·rw [if_pos c9] at H
       have c9b0 : decide (x19_1 < (l0.length : Int)) = true := decide_eq_true c9
       clear c9
       by_cases c10 : x4_1.length < 140737488355328
       ·rw [if_pos c10] at H
        have LMc10 := Aside0.mk c10
        clear c10
        obtain ⟨y224, hy224⟩ : ∃ y_ : List Int, y_ = (x4_1 ++ [(((rd_L7 l0 x19_1).length : Int)) % 256]) := ⟨_, rfl⟩
        replace H : (plan_Encode.l1 k1 y224 l0 (l0.length : Int) x19_1 (rd_L7 l0 x19_1) ((rd_L7 l0 x19_1).length : Int) 0) = some (r1, r2) := by first | (rw [hy224]; with_reducible exact H) | (have H2_ := (Option.bind_some _ _).symm.trans H; rw [hy224]; with_reducible exact H2_) | (have H2_ := (Option.bind_some _ _).symm.trans H; with_reducible exact H2_) | with_reducible exact H | (rw [hy224]; exact H) | exact H
        have Ny224 := Aside0.mk hy224
        clear hy224
        have H' := Aside0.mk H
        clear H
        have p223 : 0 ≤ (x19_1 : Int) := of_decide_eq_true (by first | (with_reducible assumption) | assumption)
        have q223 : x19_1 < (l0.length : Int) := of_decide_eq_true (by first | (with_reducible assumption) | assumption)
        obtain ⟨ad223, A223_0, c223_0, e223, hx223_0, hl223_0, hi223_0⟩ := at_L7 HR0.out x19_1 p223 q223
        cases e223
        replace hx223_0 := (HB.out.cell (World.block_lt_of_cell? w _ hx223_0)).trans hx223_0
        have HR223_0 := Aside0.mk hi223_0
        have HC223_0 := Aside0.mk hl223_0
        clear hi223_0 hl223_0
        replace p223 := eq_true p223
        replace q223 := eq_true q223
        go_wp2_with (first | ((with_reducible refine gate_builtin (b := .append) (xs := #[.tmp 23, .tmp 27]) rfl ?_); at_builtin; refine Kd.R_append (Kd.int .u8) (w0 := w) w.heap.size rfl (.tmp 23) (.tmp 27) 42 5 (.int .u8 0) 1 rfl Try.underlying42 info5 rfl (by decide) (by omega) u4 x4_1 ((((rd_L7 l0 x19_1).length : Int)) % 256) [.int .u8 ((((rd_L7 l0 x19_1).length : Int)) % 256)] (fun _ => True) (fun _ => False) rfl rfl ?aP (fun _ hk => hk.elim) ?aF ?aO ?aB ?aS ?aL ?_; (case aP => exact rfl); (case aB => exact (below_w HB.out)); (case aF => exact (fun _ _ => trivial)); (case aO => exact (by exact Kd.R_w HO_4.out)); (case aS => exact (below_size (below_w HB.out))); (case aL => have := LMc10.out; omega); intro v225 w11 ho hb hg hat; rw [← Ny224.out] at ho; have n0_ := Aside0.mk (hb); have n1_ := Aside0.mk (ho); clear HB; clear HO_4; have HB := n0_; have HO226 := n1_; clear n0_ n1_; clear ho hb hg hat))
        go_loopg [4, 31] k1 (fun kq v4 v31 w' => ∃ (x4_2 : List Int) (x31_2 : Int), v31 = .int .i64 x31_2 ∧ Aside0 (plan_Encode.l1 kq x4_2 l0 (l0.length : Int) x19_1 (rd_L7 l0 x19_1) ((rd_L7 l0 x19_1).length : Int) x31_2 = some (r1, r2)) ∧ Aside0 (kq ≤ k1) ∧ Aside0 (Kd.R (Kd.int .u8) 5 w' w.heap.size (fun _ => True) v4 x4_2) ∧ Aside0 (Below w.heap.size w w'))
        case atStart => exact ⟨(y224), (0), (by first | rfl | (simp; done) | (simp [*]; done)), H', ⟨Nat.le_refl _⟩, ⟨by exact Kd.R_w HO226.out⟩, ⟨below_w HB.out⟩⟩
        case round =>
         clear H'
         (try clear c3); (try clear c7b0); (try clear c8b0); (try clear c9b0); (try clear hx223_0); (try clear p223); (try clear q223)
         obtain ⟨x4_2, x31_2, rfl, HA, HK2, HO_4, HB⟩ := hrel
         cases gk with
         | zero => exact absurd HA.out (by simp [plan_Encode.l1])
         | succ k2 =>
          have H := HA.out
          clear HA
          simp only [plan_Encode.l1] at H
          by_cases c12 : x31_2 < ((rd_L7 l0 x19_1).length : Int)
          ·rw [if_pos c12] at H
           have c12b0 : decide (x31_2 < ((rd_L7 l0 x19_1).length : Int)) = true := decide_eq_true c12
           clear c12
           by_cases c13 : 0 ≤ x31_2
           ·rw [if_pos c13] at H
            have c13b0 : decide (0 ≤ x31_2) = true := decide_eq_true c13
            clear c13
            by_cases c14 : x31_2 < ((rd_L7 l0 x19_1).length : Int)
            ·rw [if_pos c14] at H
             have c14b0 : decide (x31_2 < ((rd_L7 l0 x19_1).length : Int)) = true := decide_eq_true c14
             clear c14
             replace H := Option.bind_eq_some_iff.mp H
             obtain ⟨t229, A150, H⟩ := H
             try dsimp only at H
             have A15 := Aside0.mk A150
             clear A150
             have H' := Aside0.mk H
             clear H
             have p227 : 0 ≤ (x31_2 : Int) := of_decide_eq_true (by first | (with_reducible assumption) | assumption)
             have q227 : x31_2 < ((rd_L7 l0 x19_1).length : Int) := of_decide_eq_true (by first | (with_reducible assumption) | assumption)
             obtain ⟨ad227, A227_4, c227_4, e227, hx227_0, hx227_1, hx227_2, hx227_3, hx227_4, hx227_5, hl227_4, hi227_4⟩ := at_T39 HR223_0.out x31_2 p227 q227
             cases e227
             replace hx227_0 := (HB.out.cell (World.block_lt_of_cell? w _ hx227_0)).trans hx227_0
             replace hx227_1 := (HB.out.cell (World.block_lt_of_cell? w _ hx227_1)).trans hx227_1
             replace hx227_2 := (HB.out.cell (World.block_lt_of_cell? w _ hx227_2)).trans hx227_2
             replace hx227_3 := (HB.out.cell (World.block_lt_of_cell? w _ hx227_3)).trans hx227_3
             replace hx227_4 := (HB.out.cell (World.block_lt_of_cell? w _ hx227_4)).trans hx227_4
             replace hx227_5 := (HB.out.cell (World.block_lt_of_cell? w _ hx227_5)).trans hx227_5
             have HR227_4 := Aside0.mk hi227_4
             have HC227_4 := Aside0.mk hl227_4
             clear hi227_4 hl227_4
             replace p227 := eq_true p227
             replace q227 := eq_true q227
             go_wp2_with (first | ((with_reducible refine gate_dst (N := 8) rfl ?_); refine box_event ?hg (N := 8) ?hd (cs := #[.int .i64 0, .int .i64 0, .int .i64 0, .int .i64 0, .slice none 0 0, .bool false]) (t := 39) ?hr ?_; (case hd => rfl); (case hg => rfl); (case hr => first | (go_simp; done) | (go_simp; rfl)); intro gb228 hg w16 hbox hb; have n0_ := Aside0.mk (Kd.R_below (by exact Kd.R_w HO_4.out) hb); have n1_ := Aside0.mk (below_step (below_w HB.out) hb); have n2_ := Aside0.mk (hbox); have n3_ := Aside0.mk ((by rw [hg]; exact (below_size (below_w HB.out)) : w.heap.size ≤ gb228)); have n4_ := Aside0.mk ((by rw [hg]; exact (below_size (below_w HB.out)) : w.heap.size ≤ gb228)); clear HO_4; clear HB; have HO_4 := n0_; have HB := n1_; have BK228 := n2_; have GW228 := n3_; have GE228 := n4_; clear n0_ n1_ n2_ n3_ n4_; clear hb hbox hg; have hcz17 := blk6 BK228.out) | ((with_reducible refine gate_store (t := 39) (p := 8) rfl ?_); refine store_event (t := 39) (p := 8) (v := ?vo_w18) (w1 := ((((((w16.setCell ⟨gb228, 0, none⟩ (.int .i64 ((rd_T39 (rd_L7 l0 x19_1) x31_2).f0))).setCell ⟨gb228, 1, none⟩ (.int .i64 ((rd_T39 (rd_L7 l0 x19_1) x31_2).f1))).setCell ⟨gb228, 2, none⟩ (.int .i64 ((rd_T39 (rd_L7 l0 x19_1) x31_2).f2))).setCell ⟨gb228, 3, none⟩ (.int .i64 ((rd_T39 (rd_L7 l0 x19_1) x31_2).f3))).setCell ⟨gb228, 4, none⟩ (.slice A227_4 ((rd_T39 (rd_L7 l0 x19_1) x31_2).f4).length c227_4)).setCell ⟨gb228, 5, none⟩ (.bool ((rd_T39 (rd_L7 l0 x19_1) x31_2).f5)))) ?hg ?ho ?hn ?hr ?_; (case ho => rfl); (case hg => rfl); (case hn => rfl); (case hr => first | (go_simp; done) | (go_simp; rfl)); intro w18 hw; have n0_ : Aside0 (Kd.R (Kd.int .u8) 5 w18 w.heap.size (fun _ => True) u4 x4_2) := ⟨(by rw [hw]; exact (by apply Kd.R_w; exact Kd.R_mono (Kd.R_far (p := ⟨gb228, 5, none⟩) (Kd.R_far (p := ⟨gb228, 4, none⟩) (Kd.R_far (p := ⟨gb228, 3, none⟩) (Kd.R_far (p := ⟨gb228, 2, none⟩) (Kd.R_far (p := ⟨gb228, 1, none⟩) (Kd.R_far (p := ⟨gb228, 0, none⟩) (Kd.R_types HO_4.out BK228.out (by decide)) (fun _ hk => hk.2) (.int .i64 ((rd_T39 (rd_L7 l0 x19_1) x31_2).f0))) (fun _ hk => hk.2) (.int .i64 ((rd_T39 (rd_L7 l0 x19_1) x31_2).f1))) (fun _ hk => hk.2) (.int .i64 ((rd_T39 (rd_L7 l0 x19_1) x31_2).f2))) (fun _ hk => hk.2) (.int .i64 ((rd_T39 (rd_L7 l0 x19_1) x31_2).f3))) (fun _ hk => hk.2) (.slice A227_4 ((rd_T39 (rd_L7 l0 x19_1) x31_2).f4).length c227_4)) (fun _ hk => hk.2) (.bool ((rd_T39 (rd_L7 l0 x19_1) x31_2).f5))) (fun _ hk => trivial)))⟩; have n1_ : Aside0 (w18.heap[gb228]? = some (.cells #[.int .i64 ((rd_T39 (rd_L7 l0 x19_1) x31_2).f0), .int .i64 ((rd_T39 (rd_L7 l0 x19_1) x31_2).f1), .int .i64 ((rd_T39 (rd_L7 l0 x19_1) x31_2).f2), .int .i64 ((rd_T39 (rd_L7 l0 x19_1) x31_2).f3), .slice A227_4 ((rd_T39 (rd_L7 l0 x19_1) x31_2).f4).length c227_4, .bool ((rd_T39 (rd_L7 l0 x19_1) x31_2).f5)] 39 (0, 0))) := ⟨(by rw [hw]; exact (by refine blk_w ?_; refine blk_put (cs := #[.int .i64 ((rd_T39 (rd_L7 l0 x19_1) x31_2).f0), .int .i64 ((rd_T39 (rd_L7 l0 x19_1) x31_2).f1), .int .i64 ((rd_T39 (rd_L7 l0 x19_1) x31_2).f2), .int .i64 ((rd_T39 (rd_L7 l0 x19_1) x31_2).f3), .slice A227_4 ((rd_T39 (rd_L7 l0 x19_1) x31_2).f4).length c227_4, .bool false]) ?_ 5 _ rfl; refine blk_w ?_; refine blk_put (cs := #[.int .i64 ((rd_T39 (rd_L7 l0 x19_1) x31_2).f0), .int .i64 ((rd_T39 (rd_L7 l0 x19_1) x31_2).f1), .int .i64 ((rd_T39 (rd_L7 l0 x19_1) x31_2).f2), .int .i64 ((rd_T39 (rd_L7 l0 x19_1) x31_2).f3), .slice none 0 0, .bool false]) ?_ 4 _ rfl; refine blk_w ?_; refine blk_put (cs := #[.int .i64 ((rd_T39 (rd_L7 l0 x19_1) x31_2).f0), .int .i64 ((rd_T39 (rd_L7 l0 x19_1) x31_2).f1), .int .i64 ((rd_T39 (rd_L7 l0 x19_1) x31_2).f2), .int .i64 0, .slice none 0 0, .bool false]) ?_ 3 _ rfl; refine blk_w ?_; refine blk_put (cs := #[.int .i64 ((rd_T39 (rd_L7 l0 x19_1) x31_2).f0), .int .i64 ((rd_T39 (rd_L7 l0 x19_1) x31_2).f1), .int .i64 0, .int .i64 0, .slice none 0 0, .bool false]) ?_ 2 _ rfl; refine blk_w ?_; refine blk_put (cs := #[.int .i64 ((rd_T39 (rd_L7 l0 x19_1) x31_2).f0), .int .i64 0, .int .i64 0, .int .i64 0, .slice none 0 0, .bool false]) ?_ 1 _ rfl; refine blk_w ?_; refine blk_put (cs := #[.int .i64 0, .int .i64 0, .int .i64 0, .int .i64 0, .slice none 0 0, .bool false]) ?_ 0 _ rfl; exact blk_w BK228.out))⟩; have n2_ : Aside0 (Below w.heap.size w w18) := ⟨(by rw [hw]; exact (by repeat (with_reducible first | exact HB.out | apply below_t | refine below_set ?_ GE228.out)))⟩; clear hw; clear HO_4; clear BK228; clear HB; have HO_4 := n0_; have BK228 := n1_; have HB := n2_; clear n0_ n1_ n2_; have hcz19 := blk6 BK228.out; obtain ⟨Ao20, co20, eo20⟩ := Kd.R_slice HO_4.out; subst eo20) | ((with_reducible refine gate_callee (f := 68) rfl ?_); refine goesL_ (some 37) rfl rfl Try.func68 (by kernel_rfl) rfl #[.slice Ao20 x4_2.length co20, .agg #[.int .i64 ((rd_T39 (rd_L7 l0 x19_1) x31_2).f0), .int .i64 ((rd_T39 (rd_L7 l0 x19_1) x31_2).f1), .int .i64 ((rd_T39 (rd_L7 l0 x19_1) x31_2).f2), .int .i64 ((rd_T39 (rd_L7 l0 x19_1) x31_2).f3), .slice A227_4 ((rd_T39 (rd_L7 l0 x19_1) x31_2).f4).length c227_4, .bool ((rd_T39 (rd_L7 l0 x19_1) x31_2).f5)]] rfl (by (try simp only [List.map_toArray, List.map_cons, List.map_nil]); first | done | rfl | simp) ?_; (with_reducible refine (plan_put.calls k2 (fun k_ => some k_ = (.slice Ao20 x4_2.length co20 : Value).ownBlock) (.slice Ao20 x4_2.length co20) x4_2 ((rd_T39 (rd_L7 l0 x19_1) x31_2).f0) ((rd_T39 (rd_L7 l0 x19_1) x31_2).f1) ((rd_T39 (rd_L7 l0 x19_1) x31_2).f2) ((rd_T39 (rd_L7 l0 x19_1) x31_2).f3) _ _ ((rd_T39 (rd_L7 l0 x19_1) x31_2).f4) ((rd_T39 (rd_L7 l0 x19_1) x31_2).f5) t229 w _ ?side1 ?side2 ?side3 ?side4 A15.out).mono ?_); (case side1 => repeat (with_reducible first | exact HB.out | apply below_t | refine below_set ?_ GE228.out)); (case side2 => exact Kd.R_tight rfl HO_4.out); (case side3 => exact Kd.C_kept_came k116_heap HR227_4.out (by repeat (with_reducible first | exact HB.out | apply below_t | refine below_set ?_ GE228.out)) (fun k_ hs_ => (fun e_ => Kd.R_base HO_4.out k_ e_.symm) hs_)); (case side4 => exact HC227_4.out); rintro e w21 ⟨v230, rfl, ho0, hb, hkp⟩; refine ⟨_, rfl, ?_⟩; have n0_ := Aside0.mk (blk_kept (by exact blk_w BK228.out) hkp (fun hs_ => (fun e_ => (Kd.R_ne HO_4.out BK228.out (by decide)) e_) hs_)); have n1_ := Aside0.mk (Kd.R_mono (ok' := fun k_ => True) ho0 (fun k_ hk_ => trivial)); have n2_ := Aside0.mk (hb); clear BK228; clear HB; clear HO_4; have BK228 := n0_; have HO231 := n1_; have HB := n2_; clear n0_ n1_ n2_; (try clear hb); (try clear hkp); (try clear ho0)))
             go_roundg k2
             case measure => have := HK1.out; have := HK2.out; omega
             case rel => exact ⟨(t229), (wrap64 (x31_2 + 1)), (by first | rfl | (simp; done) | (simp [*]; done)), H', ⟨by have := HK1.out; have := HK2.out; omega⟩, ⟨by exact Kd.R_w HO231.out⟩, ⟨by repeat (with_reducible first | exact HB.out | apply below_t | refine below_set ?_ GE228.out)⟩⟩
            ·rw [if_neg c14] at H
             exact absurd H (by simp)
           ·rw [if_neg c13] at H
            exact absurd H (by simp)
          ·rw [if_neg c12] at H
           have c12b0 : decide (x31_2 < ((rd_L7 l0 x19_1).length : Int)) = false := decide_eq_false c12
           clear c12
           have H' := Aside0.mk H
           clear H
           go_wp2
           go_roundg k2
           case measure => have := HK1.out; have := HK2.out; omega
           case rel => exact ⟨(x4_2), (wrap64 (x19_1 + 1)), (by first | rfl | (simp; done) | (simp [*]; done)), H', ⟨by have := HK1.out; have := HK2.out; omega⟩, ⟨by exact Kd.R_w HO_4.out⟩, ⟨below_w HB.out⟩⟩
       ·rw [if_neg c10] at H
        exact absurd H (by simp)
      ·rw [if_neg c9] at H
       exact absurd H (by simp)
     ·rw [if_neg c8] at H
      exact absurd H (by simp)
    ·rw [if_neg c7] at H
     have c7b0 : decide (x19_1 < (l0.length : Int)) = false := decide_eq_false c7
     clear c7
     simp only [Option.some.injEq, Prod.mk.injEq] at H
     obtain ⟨rfl, rfl⟩ := H
     go_wp2
     go_ret2
     exact ⟨_, by first | rfl | (simp [errW_none, errW_some] <;> rfl) | (simp [*, errW_none, errW_some] <;> rfl), by apply Kd.R_w; exact HO_4.out, by exact below_w HB.out⟩
 ·replace c3 := Bool.eq_false_iff.mpr c3
  subst c3
  have H1 : (some (([] : List Int), 3)) = some (r1, r2) := by rw [if_neg (show ¬ (false = true) by decide)] at H; exact H
  clear H
  have H := H1
  clear H1
  simp only [Option.some.injEq, Prod.mk.injEq] at H
  obtain ⟨rfl, rfl⟩ := H
  go_enter Try.func25, Try.ntmps25
  go_wp2_with (first | ((with_reducible refine gate_callee (f := 30) rfl ?_); refine goesL_ (some 10) rfl rfl Try.func30 (by kernel_rfl) rfl #[.slice A0 l0.length c0] rfl (by (try simp only [List.map_toArray, List.map_cons, List.map_nil]); first | done | rfl | simp) ?_; (with_reducible refine (plan_Right.calls k _ _ l0 false _ ?side1 ?side2 A2.out).mono ?_); (case side1 => exact Kd.C_w HR0.out); (case side2 => exact HC0.out); rintro e w22 ⟨rfl, hb⟩; refine ⟨_, rfl, ?_⟩; have n0_ := Aside0.mk (below_step (below_w HB.out) hb); clear HB; have HB := n0_; clear n0_; (try clear hb); (try clear hb2); (try clear hk); (try clear hi)))
  go_ret2
  exact ⟨_, by first | rfl | (simp [errW_none, errW_some] <;> rfl) | (simp [*, errW_none, errW_some] <;> rfl), by first | exact Kd.R_nil _ _ _ _ _ | exact Kd.N_nil _ _ _ _ _ | exact Kd.V_nil _ _ _ _ _ | exact Kd.Q_nil _ _ _ _ _ | exact Kd.S_nil _ _ _ _ _, by exact below_w HB.out⟩

/-! ### handofflaw10_great: function 26 -/
mutual
def handofflaw10_great.l0 : Nat → List (List (S39)) → List (List (S39)) → Int → Int → Option (Bool)
  | 0, _, _, _, _ => none
  | k + 1, x0, x7, x8, x9 => if x9 < x8 then (if 0 ≤ x9 then (if x9 < (x7.length : Int) then (handofflaw10_great.l1 k x0 (rd_L7 x7 x9) x7 x8 x9 (rd_L7 x7 x9) ((rd_L7 x7 x9).length : Int) 0) else (none)) else (none)) else (some (decide ((x0.length : Int) > 20)))
def handofflaw10_great.l1 : Nat → List (List (S39)) → List (S39) → List (List (S39)) → Int → Int → List (S39) → Int → Int → Option (Bool)
  | 0, _, _, _, _, _, _, _, _ => none
  | k + 1, x0, x4, x7, x8, x9, x13, x14, x15 => if x15 < x14 then (if 0 ≤ x15 then (if x15 < (x13.length : Int) then (if (((rd_T39 x13 x15).f4).length : Int) > 20 then (some true) else (handofflaw10_great.l1 k x0 x4 x7 x8 x9 x13 x14 (wrap64 (x15 + 1)))) else (none)) else (none)) else (if (x4.length : Int) > 40 then (some true) else (handofflaw10_great.l0 k x0 x7 x8 (wrap64 (x9 + 1))))
end
def handofflaw10_great.f (k : Nat) (l0 : List (List (S39))) : Option (Bool) := handofflaw10_great.l0 k l0 l0 (l0.length : Int) 0
theorem handofflaw10_great.mono_l : ∀ k, (∀ y0 y1 y2 y3, LeO (handofflaw10_great.l0 k y0 y1 y2 y3) (handofflaw10_great.l0 (k + 1) y0 y1 y2 y3)) ∧ (∀ y0 y1 y2 y3 y4 y5 y6 y7, LeO (handofflaw10_great.l1 k y0 y1 y2 y3 y4 y5 y6 y7) (handofflaw10_great.l1 (k + 1) y0 y1 y2 y3 y4 y5 y6 y7))
 | 0 => ⟨fun _ _ _ _ r h => by simp [handofflaw10_great.l0] at h, fun _ _ _ _ _ _ _ _ r h => by simp [handofflaw10_great.l1] at h⟩
 | k + 1 => by
  obtain ⟨ih0, ih1⟩ := handofflaw10_great.mono_l k
  refine ⟨?_, ?_⟩
  all_goals intros
  all_goals first | unfold handofflaw10_great.l0 | unfold handofflaw10_great.l1
  all_goals (repeat' first | with_reducible first | apply ih0 | apply ih1 | exact LeO.refl _ | exact LeO.none _ | refine LeO.ite ?_ ?_ | refine LeO.bind ?_ (fun _ => ?_) | apply ih0 | apply ih1 | exact LeO.none _ | refine LeO.ite ?_ ?_ | refine LeO.bind ?_ (fun _ => ?_))
theorem handofflaw10_great.mono : ∀ a0 k, LeO (handofflaw10_great.f k a0) (handofflaw10_great.f (k + 1) a0) := by
 intro a0 k
 obtain ⟨ih0, ih1⟩ := handofflaw10_great.mono_l k
 unfold handofflaw10_great.f
 repeat' first | with_reducible first | apply ih0 | apply ih1 | exact LeO.refl _ | exact LeO.none _ | refine LeO.ite ?_ ?_ | refine LeO.bind ?_ (fun _ => ?_) | apply ih0 | apply ih1 | exact LeO.none _ | refine LeO.ite ?_ ?_ | refine LeO.bind ?_ (fun _ => ?_)
set_option maxHeartbeats 8000000 in
set_option maxRecDepth 100000 in
theorem handofflaw10_great.calls (k : Nat) (A0 : Option Addr) (c0 : Nat) (l0 : List (List (S39))) (r : Bool) (w : World) (hr0 : Kd.C (Kd.slice 39 k39) w A0 l0.length l0) (hc0 : l0.length ≤ c0) (h : handofflaw10_great.f k l0 = some r) :
  Calls Try.prog 26 #[.slice A0 l0.length c0] w fun e w' => e = .returned (.bool r) ∧ Below w.heap.size w w' := by
 have hu39 := Try.underlying39
 have HR0 := Aside0.mk hr0
 have HC0 := Aside0.mk hc0
 clear hr0 hc0
 have HB := Aside0.mk (Below.refl w.heap.size w)
 have H : (handofflaw10_great.l0 k l0 l0 (l0.length : Int) 0) = some r := h
 clear h
 have H' := Aside0.mk H
 clear H
 go_enter Try.func26, Try.ntmps26
 go_wp2
 go_loopg [9] k (fun kq v9 w' => ∃ (x9_1 : Int), v9 = .int .i64 x9_1 ∧ Aside0 (handofflaw10_great.l0 kq l0 l0 (l0.length : Int) x9_1 = some r) ∧ Aside0 (kq ≤ k) ∧ Aside0 (Below w.heap.size w w'))
 case atStart => exact ⟨(0), (by first | rfl | (simp; done) | (simp [*]; done)), H', ⟨Nat.le_refl _⟩, ⟨below_w HB.out⟩⟩
 case round =>
  clear H'
  obtain ⟨x9_1, rfl, HA, HK1, HB⟩ := hrel
  cases gk with
  | zero => exact absurd HA.out (by simp [handofflaw10_great.l0])
  | succ k1 =>
   have H := HA.out
   clear HA
   simp only [handofflaw10_great.l0] at H
   by_cases c2 : x9_1 < (l0.length : Int)
   ·rw [if_pos c2] at H
    have c2b0 : decide (x9_1 < (l0.length : Int)) = true := decide_eq_true c2
    clear c2
    by_cases c3 : 0 ≤ x9_1
    ·rw [if_pos c3] at H
     have c3b0 : decide (0 ≤ x9_1) = true := decide_eq_true c3
     clear c3
     by_cases c4 : x9_1 < (l0.length : Int)
     ·rw [if_pos c4] at H
      have c4b0 : decide (x9_1 < (l0.length : Int)) = true := decide_eq_true c4
      clear c4
      have H' := Aside0.mk H
      clear H
      have p232 : 0 ≤ (x9_1 : Int) := of_decide_eq_true (by first | (with_reducible assumption) | assumption)
      have q232 : x9_1 < (l0.length : Int) := of_decide_eq_true (by first | (with_reducible assumption) | assumption)
      obtain ⟨ad232, A232_0, c232_0, e232, hx232_0, hl232_0, hi232_0⟩ := at_L7 HR0.out x9_1 p232 q232
      cases e232
      replace hx232_0 := (HB.out.cell (World.block_lt_of_cell? w _ hx232_0)).trans hx232_0
      have HR232_0 := Aside0.mk hi232_0
      have HC232_0 := Aside0.mk hl232_0
      clear hi232_0 hl232_0
      replace p232 := eq_true p232
      replace q232 := eq_true q232
      go_wp2
      go_loopg [15] k1 (fun kq v15 w' => ∃ (x15_2 : Int), v15 = .int .i64 x15_2 ∧ Aside0 (handofflaw10_great.l1 kq l0 (rd_L7 l0 x9_1) l0 (l0.length : Int) x9_1 (rd_L7 l0 x9_1) ((rd_L7 l0 x9_1).length : Int) x15_2 = some r) ∧ Aside0 (kq ≤ k1) ∧ Aside0 (Below w.heap.size w w'))
      case atStart => exact ⟨(0), (by first | rfl | (simp; done) | (simp [*]; done)), H', ⟨Nat.le_refl _⟩, ⟨below_w HB.out⟩⟩
      case round =>
       clear H'
       (try clear c2b0); (try clear c3b0); (try clear c4b0); (try clear hx232_0); (try clear p232); (try clear q232)
       obtain ⟨x15_2, rfl, HA, HK2, HB⟩ := hrel
       cases gk with
       | zero => exact absurd HA.out (by simp [handofflaw10_great.l1])
       | succ k2 =>
        have H := HA.out
        clear HA
        simp only [handofflaw10_great.l1] at H
        by_cases c5 : x15_2 < ((rd_L7 l0 x9_1).length : Int)
        ·rw [if_pos c5] at H
         have c5b0 : decide (x15_2 < ((rd_L7 l0 x9_1).length : Int)) = true := decide_eq_true c5
         clear c5
         by_cases c6 : 0 ≤ x15_2
         ·rw [if_pos c6] at H
          have c6b0 : decide (0 ≤ x15_2) = true := decide_eq_true c6
          clear c6
          by_cases c7 : x15_2 < ((rd_L7 l0 x9_1).length : Int)
          ·rw [if_pos c7] at H
           have c7b0 : decide (x15_2 < ((rd_L7 l0 x9_1).length : Int)) = true := decide_eq_true c7
           clear c7
           by_cases c8 : (((rd_T39 (rd_L7 l0 x9_1) x15_2).f4).length : Int) > 20
           ·rw [if_pos c8] at H
            have c8b0 : decide (20 < (((rd_T39 (rd_L7 l0 x9_1) x15_2).f4).length : Int)) = true := decide_eq_true c8
            have c8b1 : decide (20 < ((rd_T39 (rd_L7 l0 x9_1) x15_2).f4).length) = true := decide_eq_true (by omega)
            clear c8
            obtain rfl := Option.some.inj H
            have p233 : 0 ≤ (x15_2 : Int) := of_decide_eq_true (by first | (with_reducible assumption) | assumption)
            have q233 : x15_2 < ((rd_L7 l0 x9_1).length : Int) := of_decide_eq_true (by first | (with_reducible assumption) | assumption)
            obtain ⟨ad233, A233_4, c233_4, e233, hx233_0, hx233_1, hx233_2, hx233_3, hx233_4, hx233_5, hl233_4, hi233_4⟩ := at_T39 HR232_0.out x15_2 p233 q233
            cases e233
            replace hx233_0 := (HB.out.cell (World.block_lt_of_cell? w _ hx233_0)).trans hx233_0
            replace hx233_1 := (HB.out.cell (World.block_lt_of_cell? w _ hx233_1)).trans hx233_1
            replace hx233_2 := (HB.out.cell (World.block_lt_of_cell? w _ hx233_2)).trans hx233_2
            replace hx233_3 := (HB.out.cell (World.block_lt_of_cell? w _ hx233_3)).trans hx233_3
            replace hx233_4 := (HB.out.cell (World.block_lt_of_cell? w _ hx233_4)).trans hx233_4
            replace hx233_5 := (HB.out.cell (World.block_lt_of_cell? w _ hx233_5)).trans hx233_5
            have HR233_4 := Aside0.mk hi233_4
            have HC233_4 := Aside0.mk hl233_4
            clear hi233_4 hl233_4
            replace p233 := eq_true p233
            replace q233 := eq_true q233
            go_wp2_with (first | ((with_reducible refine gate_dst (N := 6) rfl ?_); refine box_event ?hg (N := 6) ?hd (cs := #[.int .i64 0, .int .i64 0, .int .i64 0, .int .i64 0, .slice none 0 0, .bool false]) (t := 39) ?hr ?_; (case hd => rfl); (case hg => rfl); (case hr => first | (go_simp; done) | (go_simp; rfl)); intro gb234 hg w9 hbox hb; have n0_ := Aside0.mk (below_step (below_w HB.out) hb); have n1_ := Aside0.mk (hbox); have n2_ := Aside0.mk ((by rw [hg]; exact (below_size (below_w HB.out)) : w.heap.size ≤ gb234)); have n3_ := Aside0.mk ((by rw [hg]; exact (below_size (below_w HB.out)) : w.heap.size ≤ gb234)); clear HB; have HB := n0_; have BK234 := n1_; have GW234 := n2_; have GE234 := n3_; clear n0_ n1_ n2_ n3_; clear hb hbox hg; have hcz10 := blk6 BK234.out))
            go_ret
            exact ⟨by first | rfl | (simp [errW_none, errW_some] <;> rfl) | (simp [*, errW_none, errW_some] <;> rfl), by repeat (with_reducible first | exact HB.out | apply below_t | refine below_set ?_ GE234.out)⟩
           ·rw [if_neg c8] at H
            have c8b0 : decide (20 < (((rd_T39 (rd_L7 l0 x9_1) x15_2).f4).length : Int)) = false := decide_eq_false c8
            have c8b1 : decide (20 < ((rd_T39 (rd_L7 l0 x9_1) x15_2).f4).length) = false := decide_eq_false (by omega)
            clear c8
            have H' := Aside0.mk H
            clear H
            have p233 : 0 ≤ (x15_2 : Int) := of_decide_eq_true (by first | (with_reducible assumption) | assumption)
            have q233 : x15_2 < ((rd_L7 l0 x9_1).length : Int) := of_decide_eq_true (by first | (with_reducible assumption) | assumption)
            obtain ⟨ad233, A233_4, c233_4, e233, hx233_0, hx233_1, hx233_2, hx233_3, hx233_4, hx233_5, hl233_4, hi233_4⟩ := at_T39 HR232_0.out x15_2 p233 q233
            cases e233
            replace hx233_0 := (HB.out.cell (World.block_lt_of_cell? w _ hx233_0)).trans hx233_0
            replace hx233_1 := (HB.out.cell (World.block_lt_of_cell? w _ hx233_1)).trans hx233_1
            replace hx233_2 := (HB.out.cell (World.block_lt_of_cell? w _ hx233_2)).trans hx233_2
            replace hx233_3 := (HB.out.cell (World.block_lt_of_cell? w _ hx233_3)).trans hx233_3
            replace hx233_4 := (HB.out.cell (World.block_lt_of_cell? w _ hx233_4)).trans hx233_4
            replace hx233_5 := (HB.out.cell (World.block_lt_of_cell? w _ hx233_5)).trans hx233_5
            have HR233_4 := Aside0.mk hi233_4
            have HC233_4 := Aside0.mk hl233_4
            clear hi233_4 hl233_4
            replace p233 := eq_true p233
            replace q233 := eq_true q233
            go_wp2_with (first | ((with_reducible refine gate_dst (N := 6) rfl ?_); refine box_event ?hg (N := 6) ?hd (cs := #[.int .i64 0, .int .i64 0, .int .i64 0, .int .i64 0, .slice none 0 0, .bool false]) (t := 39) ?hr ?_; (case hd => rfl); (case hg => rfl); (case hr => first | (go_simp; done) | (go_simp; rfl)); intro gb234 hg w11 hbox hb; have n0_ := Aside0.mk (below_step (below_w HB.out) hb); have n1_ := Aside0.mk (hbox); have n2_ := Aside0.mk ((by rw [hg]; exact (below_size (below_w HB.out)) : w.heap.size ≤ gb234)); have n3_ := Aside0.mk ((by rw [hg]; exact (below_size (below_w HB.out)) : w.heap.size ≤ gb234)); clear HB; have HB := n0_; have BK234 := n1_; have GW234 := n2_; have GE234 := n3_; clear n0_ n1_ n2_ n3_; clear hb hbox hg; have hcz12 := blk6 BK234.out))
            go_roundg k2
            case measure => have := HK1.out; have := HK2.out; omega
            case rel => exact ⟨(wrap64 (x15_2 + 1)), (by first | rfl | (simp; done) | (simp [*]; done)), H', ⟨by have := HK1.out; have := HK2.out; omega⟩, ⟨by repeat (with_reducible first | exact HB.out | apply below_t | refine below_set ?_ GE234.out)⟩⟩
          ·rw [if_neg c7] at H
           exact absurd H (by simp)
         ·rw [if_neg c6] at H
          exact absurd H (by simp)
        ·rw [if_neg c5] at H
         have c5b0 : decide (x15_2 < ((rd_L7 l0 x9_1).length : Int)) = false := decide_eq_false c5
         clear c5
         by_cases c13 : ((rd_L7 l0 x9_1).length : Int) > 40
         ·rw [if_pos c13] at H
          have c13b0 : decide (40 < ((rd_L7 l0 x9_1).length : Int)) = true := decide_eq_true c13
          have c13b1 : decide (40 < (rd_L7 l0 x9_1).length) = true := decide_eq_true (by omega)
          clear c13
          obtain rfl := Option.some.inj H
          go_wp2
          go_ret
          exact ⟨by first | rfl | (simp [errW_none, errW_some] <;> rfl) | (simp [*, errW_none, errW_some] <;> rfl), by exact below_w HB.out⟩
         ·rw [if_neg c13] at H
          have c13b0 : decide (40 < ((rd_L7 l0 x9_1).length : Int)) = false := decide_eq_false c13
          have c13b1 : decide (40 < (rd_L7 l0 x9_1).length) = false := decide_eq_false (by omega)
          clear c13
          have H' := Aside0.mk H
          clear H
          go_wp2
          go_roundg k2
          case measure => have := HK1.out; have := HK2.out; omega
          case rel => exact ⟨(wrap64 (x9_1 + 1)), (by first | rfl | (simp; done) | (simp [*]; done)), H', ⟨by have := HK1.out; have := HK2.out; omega⟩, ⟨below_w HB.out⟩⟩
     ·rw [if_neg c4] at H
      exact absurd H (by simp)
    ·rw [if_neg c3] at H
     exact absurd H (by simp)
   ·rw [if_neg c2] at H
    have c2b0 : decide (x9_1 < (l0.length : Int)) = false := decide_eq_false c2
    clear c2
    obtain rfl := Option.some.inj H
    go_wp2
    go_ret
    exact ⟨by first | rfl | (simp [errW_none, errW_some] <;> rfl) | (simp [*, errW_none, errW_some] <;> rfl), by exact below_w HB.out⟩

/-! ### handoffref10_Right: function 31 -/
mutual
def handoffref10_Right.l0 : Nat → List (List (S39)) → List (List (S39)) → Int → Int → Option (Bool)
  | 0, _, _, _, _ => none
  | k + 1, x0, x7, x8, x9 => if x9 < x8 then (if 0 ≤ x9 then (if x9 < (x7.length : Int) then (handoffref10_Right.l1 k x0 (rd_L7 x7 x9) x7 x8 x9 (rd_L7 x7 x9) ((rd_L7 x7 x9).length : Int) 0) else (none)) else (none)) else (if (x0.length : Int) ≥ 1 then (some (decide ((x0.length : Int) ≤ 8))) else (some false))
def handoffref10_Right.l1 : Nat → List (List (S39)) → List (S39) → List (List (S39)) → Int → Int → List (S39) → Int → Int → Option (Bool)
  | 0, _, _, _, _, _, _, _, _ => none
  | k + 1, x0, x4, x7, x8, x9, x13, x14, x15 => if x15 < x14 then (if 0 ≤ x15 then (if x15 < (x13.length : Int) then ((handoffref10_RightOp.f k ((rd_T39 x13 x15).f0) ((rd_T39 x13 x15).f1) ((rd_T39 x13 x15).f2) ((rd_T39 x13 x15).f3) ((rd_T39 x13 x15).f4) ((rd_T39 x13 x15).f5)).bind fun t238 => (if t238 = true then (handoffref10_Right.l1 k x0 x4 x7 x8 x9 x13 x14 (wrap64 (x15 + 1))) else (some false))) else (none)) else (none)) else (if (x4.length : Int) > 16 then (some false) else (handoffref10_Right.l0 k x0 x7 x8 (wrap64 (x9 + 1))))
end
def handoffref10_Right.f (k : Nat) (l0 : List (List (S39))) : Option (Bool) := handoffref10_Right.l0 k l0 l0 (l0.length : Int) 0
theorem handoffref10_Right.mono_l : ∀ k, (∀ y0 y1 y2 y3, LeO (handoffref10_Right.l0 k y0 y1 y2 y3) (handoffref10_Right.l0 (k + 1) y0 y1 y2 y3)) ∧ (∀ y0 y1 y2 y3 y4 y5 y6 y7, LeO (handoffref10_Right.l1 k y0 y1 y2 y3 y4 y5 y6 y7) (handoffref10_Right.l1 (k + 1) y0 y1 y2 y3 y4 y5 y6 y7))
 | 0 => ⟨fun _ _ _ _ r h => by simp [handoffref10_Right.l0] at h, fun _ _ _ _ _ _ _ _ r h => by simp [handoffref10_Right.l1] at h⟩
 | k + 1 => by
  obtain ⟨ih0, ih1⟩ := handoffref10_Right.mono_l k
  refine ⟨?_, ?_⟩
  all_goals intros
  all_goals first | unfold handoffref10_Right.l0 | unfold handoffref10_Right.l1
  all_goals (repeat' first | with_reducible first | apply ih0 | apply ih1 | exact handoffref10_RightOp.mono _ _ _ _ _ _ _ | exact LeO.refl _ | exact LeO.none _ | refine LeO.ite ?_ ?_ | refine LeO.bind ?_ (fun _ => ?_) | apply ih0 | apply ih1 | exact handoffref10_RightOp.mono _ _ _ _ _ _ _ | exact LeO.none _ | refine LeO.ite ?_ ?_ | refine LeO.bind ?_ (fun _ => ?_))
theorem handoffref10_Right.mono : ∀ a0 k, LeO (handoffref10_Right.f k a0) (handoffref10_Right.f (k + 1) a0) := by
 intro a0 k
 obtain ⟨ih0, ih1⟩ := handoffref10_Right.mono_l k
 unfold handoffref10_Right.f
 repeat' first | with_reducible first | apply ih0 | apply ih1 | exact handoffref10_RightOp.mono _ _ _ _ _ _ _ | exact LeO.refl _ | exact LeO.none _ | refine LeO.ite ?_ ?_ | refine LeO.bind ?_ (fun _ => ?_) | apply ih0 | apply ih1 | exact handoffref10_RightOp.mono _ _ _ _ _ _ _ | exact LeO.none _ | refine LeO.ite ?_ ?_ | refine LeO.bind ?_ (fun _ => ?_)
set_option maxHeartbeats 8000000 in
set_option maxRecDepth 100000 in
theorem handoffref10_Right.calls (k : Nat) (A0 : Option Addr) (c0 : Nat) (l0 : List (List (S39))) (r : Bool) (w : World) (hr0 : Kd.C (Kd.slice 39 k39) w A0 l0.length l0) (hc0 : l0.length ≤ c0) (h : handoffref10_Right.f k l0 = some r) :
  Calls Try.prog 31 #[.slice A0 l0.length c0] w fun e w' => e = .returned (.bool r) ∧ Below w.heap.size w w' := by
 have hu39 := Try.underlying39
 have HR0 := Aside0.mk hr0
 have HC0 := Aside0.mk hc0
 clear hr0 hc0
 have HB := Aside0.mk (Below.refl w.heap.size w)
 have H : (handoffref10_Right.l0 k l0 l0 (l0.length : Int) 0) = some r := h
 clear h
 have H' := Aside0.mk H
 clear H
 go_enter Try.func31, Try.ntmps31
 go_wp2
 go_loopg [9] k (fun kq v9 w' => ∃ (x9_1 : Int), v9 = .int .i64 x9_1 ∧ Aside0 (handoffref10_Right.l0 kq l0 l0 (l0.length : Int) x9_1 = some r) ∧ Aside0 (kq ≤ k) ∧ Aside0 (Below w.heap.size w w'))
 case atStart => exact ⟨(0), (by first | rfl | (simp; done) | (simp [*]; done)), H', ⟨Nat.le_refl _⟩, ⟨below_w HB.out⟩⟩
 case round =>
  clear H'
  obtain ⟨x9_1, rfl, HA, HK1, HB⟩ := hrel
  cases gk with
  | zero => exact absurd HA.out (by simp [handoffref10_Right.l0])
  | succ k1 =>
   have H := HA.out
   clear HA
   simp only [handoffref10_Right.l0] at H
   by_cases c2 : x9_1 < (l0.length : Int)
   ·rw [if_pos c2] at H
    have c2b0 : decide (x9_1 < (l0.length : Int)) = true := decide_eq_true c2
    clear c2
    by_cases c3 : 0 ≤ x9_1
    ·rw [if_pos c3] at H
     have c3b0 : decide (0 ≤ x9_1) = true := decide_eq_true c3
     clear c3
     by_cases c4 : x9_1 < (l0.length : Int)
     ·rw [if_pos c4] at H
      have c4b0 : decide (x9_1 < (l0.length : Int)) = true := decide_eq_true c4
      clear c4
      have H' := Aside0.mk H
      clear H
      have p235 : 0 ≤ (x9_1 : Int) := of_decide_eq_true (by first | (with_reducible assumption) | assumption)
      have q235 : x9_1 < (l0.length : Int) := of_decide_eq_true (by first | (with_reducible assumption) | assumption)
      obtain ⟨ad235, A235_0, c235_0, e235, hx235_0, hl235_0, hi235_0⟩ := at_L7 HR0.out x9_1 p235 q235
      cases e235
      replace hx235_0 := (HB.out.cell (World.block_lt_of_cell? w _ hx235_0)).trans hx235_0
      have HR235_0 := Aside0.mk hi235_0
      have HC235_0 := Aside0.mk hl235_0
      clear hi235_0 hl235_0
      replace p235 := eq_true p235
      replace q235 := eq_true q235
      go_wp2
      go_loopg [15] k1 (fun kq v15 w' => ∃ (x15_2 : Int), v15 = .int .i64 x15_2 ∧ Aside0 (handoffref10_Right.l1 kq l0 (rd_L7 l0 x9_1) l0 (l0.length : Int) x9_1 (rd_L7 l0 x9_1) ((rd_L7 l0 x9_1).length : Int) x15_2 = some r) ∧ Aside0 (kq ≤ k1) ∧ Aside0 (Below w.heap.size w w'))
      case atStart => exact ⟨(0), (by first | rfl | (simp; done) | (simp [*]; done)), H', ⟨Nat.le_refl _⟩, ⟨below_w HB.out⟩⟩
      case round =>
       clear H'
       (try clear c2b0); (try clear c3b0); (try clear c4b0); (try clear hx235_0); (try clear p235); (try clear q235)
       obtain ⟨x15_2, rfl, HA, HK2, HB⟩ := hrel
       cases gk with
       | zero => exact absurd HA.out (by simp [handoffref10_Right.l1])
       | succ k2 =>
        have H := HA.out
        clear HA
        simp only [handoffref10_Right.l1] at H
        by_cases c5 : x15_2 < ((rd_L7 l0 x9_1).length : Int)
        ·rw [if_pos c5] at H
         have c5b0 : decide (x15_2 < ((rd_L7 l0 x9_1).length : Int)) = true := decide_eq_true c5
         clear c5
         by_cases c6 : 0 ≤ x15_2
         ·rw [if_pos c6] at H
          have c6b0 : decide (0 ≤ x15_2) = true := decide_eq_true c6
          clear c6
          by_cases c7 : x15_2 < ((rd_L7 l0 x9_1).length : Int)
          ·rw [if_pos c7] at H
           have c7b0 : decide (x15_2 < ((rd_L7 l0 x9_1).length : Int)) = true := decide_eq_true c7
           clear c7
           replace H := Option.bind_eq_some_iff.mp H
           obtain ⟨t238, A80, H⟩ := H
           try dsimp only at H
           have A8 := Aside0.mk A80
           clear A80
           by_cases c9 : t238 = true
           ·subst c9
            have H1 : (handoffref10_Right.l1 k2 l0 (rd_L7 l0 x9_1) l0 (l0.length : Int) x9_1 (rd_L7 l0 x9_1) ((rd_L7 l0 x9_1).length : Int) (wrap64 (x15_2 + 1))) = some r := by rw [if_pos rfl] at H; exact H
            clear H
            have H := H1
            clear H1
            have H' := Aside0.mk H
            clear H
            have p236 : 0 ≤ (x15_2 : Int) := of_decide_eq_true (by first | (with_reducible assumption) | assumption)
            have q236 : x15_2 < ((rd_L7 l0 x9_1).length : Int) := of_decide_eq_true (by first | (with_reducible assumption) | assumption)
            obtain ⟨ad236, A236_4, c236_4, e236, hx236_0, hx236_1, hx236_2, hx236_3, hx236_4, hx236_5, hl236_4, hi236_4⟩ := at_T39 HR235_0.out x15_2 p236 q236
            cases e236
            replace hx236_0 := (HB.out.cell (World.block_lt_of_cell? w _ hx236_0)).trans hx236_0
            replace hx236_1 := (HB.out.cell (World.block_lt_of_cell? w _ hx236_1)).trans hx236_1
            replace hx236_2 := (HB.out.cell (World.block_lt_of_cell? w _ hx236_2)).trans hx236_2
            replace hx236_3 := (HB.out.cell (World.block_lt_of_cell? w _ hx236_3)).trans hx236_3
            replace hx236_4 := (HB.out.cell (World.block_lt_of_cell? w _ hx236_4)).trans hx236_4
            replace hx236_5 := (HB.out.cell (World.block_lt_of_cell? w _ hx236_5)).trans hx236_5
            have HR236_4 := Aside0.mk hi236_4
            have HC236_4 := Aside0.mk hl236_4
            clear hi236_4 hl236_4
            replace p236 := eq_true p236
            replace q236 := eq_true q236
            go_wp2_with (first | ((with_reducible refine gate_dst (N := 6) rfl ?_); (try (refine gate_guard (by rfl) ?_; dsimp only)); refine box_event ?hg (N := 6) ?hd (cs := #[.int .i64 0, .int .i64 0, .int .i64 0, .int .i64 0, .slice none 0 0, .bool false]) (t := 39) ?hr ?_; (case hd => rfl); (case hg => rfl); (case hr => first | (go_simp; done) | (go_simp; rfl)); intro gb237 hg w10 hbox hb; have n0_ := Aside0.mk (below_step (below_w HB.out) hb); have n1_ := Aside0.mk (hbox); have n2_ := Aside0.mk ((by rw [hg]; exact (below_size (below_w HB.out)) : w.heap.size ≤ gb237)); have n3_ := Aside0.mk ((by rw [hg]; exact (below_size (below_w HB.out)) : w.heap.size ≤ gb237)); clear HB; have HB := n0_; have BK237 := n1_; have GW237 := n2_; have GE237 := n3_; clear n0_ n1_ n2_ n3_; clear hb hbox hg; have hcz11 := blk6 BK237.out) | ((with_reducible refine gate_callee (f := 22) rfl ?_); refine goesL_ (some 20) rfl rfl Try.func22 (by kernel_rfl) rfl #[.agg #[.int .i64 ((rd_T39 (rd_L7 l0 x9_1) x15_2).f0), .int .i64 ((rd_T39 (rd_L7 l0 x9_1) x15_2).f1), .int .i64 ((rd_T39 (rd_L7 l0 x9_1) x15_2).f2), .int .i64 ((rd_T39 (rd_L7 l0 x9_1) x15_2).f3), .slice A236_4 ((rd_T39 (rd_L7 l0 x9_1) x15_2).f4).length c236_4, .bool ((rd_T39 (rd_L7 l0 x9_1) x15_2).f5)]] rfl (by (try simp only [List.map_toArray, List.map_cons, List.map_nil]); first | done | rfl | simp) ?_; (with_reducible refine (handoffref10_RightOp.calls k2 ((rd_T39 (rd_L7 l0 x9_1) x15_2).f0) ((rd_T39 (rd_L7 l0 x9_1) x15_2).f1) ((rd_T39 (rd_L7 l0 x9_1) x15_2).f2) ((rd_T39 (rd_L7 l0 x9_1) x15_2).f3) _ _ ((rd_T39 (rd_L7 l0 x9_1) x15_2).f4) ((rd_T39 (rd_L7 l0 x9_1) x15_2).f5) true _ ?side1 ?side2 A8.out).mono ?_); (case side1 => exact Kd.C_below HR236_4.out (by repeat (with_reducible first | exact HB.out | apply below_t | refine below_set ?_ GE237.out))); (case side2 => exact HC236_4.out); rintro e w12 ⟨rfl, hb⟩; refine ⟨_, rfl, ?_⟩; have n0_ := Aside0.mk (blk_below (g := gb237) (o := .cells #[.int .i64 ((rd_T39 (rd_L7 l0 x9_1) x15_2).f0), .int .i64 ((rd_T39 (rd_L7 l0 x9_1) x15_2).f1), .int .i64 ((rd_T39 (rd_L7 l0 x9_1) x15_2).f2), .int .i64 ((rd_T39 (rd_L7 l0 x9_1) x15_2).f3), .slice A236_4 ((rd_T39 (rd_L7 l0 x9_1) x15_2).f4).length c236_4, .bool ((rd_T39 (rd_L7 l0 x9_1) x15_2).f5)] 39 (0, 0)) (by refine blk_w ?_; refine blk_put (cs := #[.int .i64 ((rd_T39 (rd_L7 l0 x9_1) x15_2).f0), .int .i64 ((rd_T39 (rd_L7 l0 x9_1) x15_2).f1), .int .i64 ((rd_T39 (rd_L7 l0 x9_1) x15_2).f2), .int .i64 ((rd_T39 (rd_L7 l0 x9_1) x15_2).f3), .slice A236_4 ((rd_T39 (rd_L7 l0 x9_1) x15_2).f4).length c236_4, .bool false]) ?_ 5 _ rfl; refine blk_w ?_; refine blk_put (cs := #[.int .i64 ((rd_T39 (rd_L7 l0 x9_1) x15_2).f0), .int .i64 ((rd_T39 (rd_L7 l0 x9_1) x15_2).f1), .int .i64 ((rd_T39 (rd_L7 l0 x9_1) x15_2).f2), .int .i64 ((rd_T39 (rd_L7 l0 x9_1) x15_2).f3), .slice none 0 0, .bool false]) ?_ 4 _ rfl; refine blk_w ?_; refine blk_put (cs := #[.int .i64 ((rd_T39 (rd_L7 l0 x9_1) x15_2).f0), .int .i64 ((rd_T39 (rd_L7 l0 x9_1) x15_2).f1), .int .i64 ((rd_T39 (rd_L7 l0 x9_1) x15_2).f2), .int .i64 0, .slice none 0 0, .bool false]) ?_ 3 _ rfl; refine blk_w ?_; refine blk_put (cs := #[.int .i64 ((rd_T39 (rd_L7 l0 x9_1) x15_2).f0), .int .i64 ((rd_T39 (rd_L7 l0 x9_1) x15_2).f1), .int .i64 0, .int .i64 0, .slice none 0 0, .bool false]) ?_ 2 _ rfl; refine blk_w ?_; refine blk_put (cs := #[.int .i64 ((rd_T39 (rd_L7 l0 x9_1) x15_2).f0), .int .i64 0, .int .i64 0, .int .i64 0, .slice none 0 0, .bool false]) ?_ 1 _ rfl; refine blk_w ?_; refine blk_put (cs := #[.int .i64 0, .int .i64 0, .int .i64 0, .int .i64 0, .slice none 0 0, .bool false]) ?_ 0 _ rfl; exact blk_w BK237.out) hb); have n1_ := Aside0.mk (below_step (by repeat (with_reducible first | exact HB.out | apply below_t | refine below_set ?_ GE237.out)) hb); clear BK237; clear HB; have BK237 := n0_; have HB := n1_; clear n0_ n1_; (try clear hb); (try clear hb2); (try clear hk); (try clear hi)))
            go_roundg k2
            case measure => have := HK1.out; have := HK2.out; omega
            case rel => exact ⟨(wrap64 (x15_2 + 1)), (by first | rfl | (simp; done) | (simp [*]; done)), H', ⟨by have := HK1.out; have := HK2.out; omega⟩, ⟨by repeat (with_reducible first | exact HB.out | apply below_t | refine below_set ?_ GE237.out)⟩⟩
           ·replace c9 := Bool.eq_false_iff.mpr c9
            subst c9
            have H1 : (some false) = some r := by rw [if_neg (show ¬ (false = true) by decide)] at H; exact H
            clear H
            have H := H1
            clear H1
            obtain rfl := Option.some.inj H
            have p236 : 0 ≤ (x15_2 : Int) := of_decide_eq_true (by first | (with_reducible assumption) | assumption)
            have q236 : x15_2 < ((rd_L7 l0 x9_1).length : Int) := of_decide_eq_true (by first | (with_reducible assumption) | assumption)
            obtain ⟨ad236, A236_4, c236_4, e236, hx236_0, hx236_1, hx236_2, hx236_3, hx236_4, hx236_5, hl236_4, hi236_4⟩ := at_T39 HR235_0.out x15_2 p236 q236
            cases e236
            replace hx236_0 := (HB.out.cell (World.block_lt_of_cell? w _ hx236_0)).trans hx236_0
            replace hx236_1 := (HB.out.cell (World.block_lt_of_cell? w _ hx236_1)).trans hx236_1
            replace hx236_2 := (HB.out.cell (World.block_lt_of_cell? w _ hx236_2)).trans hx236_2
            replace hx236_3 := (HB.out.cell (World.block_lt_of_cell? w _ hx236_3)).trans hx236_3
            replace hx236_4 := (HB.out.cell (World.block_lt_of_cell? w _ hx236_4)).trans hx236_4
            replace hx236_5 := (HB.out.cell (World.block_lt_of_cell? w _ hx236_5)).trans hx236_5
            have HR236_4 := Aside0.mk hi236_4
            have HC236_4 := Aside0.mk hl236_4
            clear hi236_4 hl236_4
            replace p236 := eq_true p236
            replace q236 := eq_true q236
            go_wp2_with (first | ((with_reducible refine gate_dst (N := 6) rfl ?_); (try (refine gate_guard (by rfl) ?_; dsimp only)); refine box_event ?hg (N := 6) ?hd (cs := #[.int .i64 0, .int .i64 0, .int .i64 0, .int .i64 0, .slice none 0 0, .bool false]) (t := 39) ?hr ?_; (case hd => rfl); (case hg => rfl); (case hr => first | (go_simp; done) | (go_simp; rfl)); intro gb237 hg w13 hbox hb; have n0_ := Aside0.mk (below_step (below_w HB.out) hb); have n1_ := Aside0.mk (hbox); have n2_ := Aside0.mk ((by rw [hg]; exact (below_size (below_w HB.out)) : w.heap.size ≤ gb237)); have n3_ := Aside0.mk ((by rw [hg]; exact (below_size (below_w HB.out)) : w.heap.size ≤ gb237)); clear HB; have HB := n0_; have BK237 := n1_; have GW237 := n2_; have GE237 := n3_; clear n0_ n1_ n2_ n3_; clear hb hbox hg; have hcz14 := blk6 BK237.out) | ((with_reducible refine gate_callee (f := 22) rfl ?_); refine goesL_ (some 20) rfl rfl Try.func22 (by kernel_rfl) rfl #[.agg #[.int .i64 ((rd_T39 (rd_L7 l0 x9_1) x15_2).f0), .int .i64 ((rd_T39 (rd_L7 l0 x9_1) x15_2).f1), .int .i64 ((rd_T39 (rd_L7 l0 x9_1) x15_2).f2), .int .i64 ((rd_T39 (rd_L7 l0 x9_1) x15_2).f3), .slice A236_4 ((rd_T39 (rd_L7 l0 x9_1) x15_2).f4).length c236_4, .bool ((rd_T39 (rd_L7 l0 x9_1) x15_2).f5)]] rfl (by (try simp only [List.map_toArray, List.map_cons, List.map_nil]); first | done | rfl | simp) ?_; (with_reducible refine (handoffref10_RightOp.calls k2 ((rd_T39 (rd_L7 l0 x9_1) x15_2).f0) ((rd_T39 (rd_L7 l0 x9_1) x15_2).f1) ((rd_T39 (rd_L7 l0 x9_1) x15_2).f2) ((rd_T39 (rd_L7 l0 x9_1) x15_2).f3) _ _ ((rd_T39 (rd_L7 l0 x9_1) x15_2).f4) ((rd_T39 (rd_L7 l0 x9_1) x15_2).f5) false _ ?side1 ?side2 A8.out).mono ?_); (case side1 => exact Kd.C_below HR236_4.out (by repeat (with_reducible first | exact HB.out | apply below_t | refine below_set ?_ GE237.out))); (case side2 => exact HC236_4.out); rintro e w15 ⟨rfl, hb⟩; refine ⟨_, rfl, ?_⟩; have n0_ := Aside0.mk (blk_below (g := gb237) (o := .cells #[.int .i64 ((rd_T39 (rd_L7 l0 x9_1) x15_2).f0), .int .i64 ((rd_T39 (rd_L7 l0 x9_1) x15_2).f1), .int .i64 ((rd_T39 (rd_L7 l0 x9_1) x15_2).f2), .int .i64 ((rd_T39 (rd_L7 l0 x9_1) x15_2).f3), .slice A236_4 ((rd_T39 (rd_L7 l0 x9_1) x15_2).f4).length c236_4, .bool ((rd_T39 (rd_L7 l0 x9_1) x15_2).f5)] 39 (0, 0)) (by refine blk_w ?_; refine blk_put (cs := #[.int .i64 ((rd_T39 (rd_L7 l0 x9_1) x15_2).f0), .int .i64 ((rd_T39 (rd_L7 l0 x9_1) x15_2).f1), .int .i64 ((rd_T39 (rd_L7 l0 x9_1) x15_2).f2), .int .i64 ((rd_T39 (rd_L7 l0 x9_1) x15_2).f3), .slice A236_4 ((rd_T39 (rd_L7 l0 x9_1) x15_2).f4).length c236_4, .bool false]) ?_ 5 _ rfl; refine blk_w ?_; refine blk_put (cs := #[.int .i64 ((rd_T39 (rd_L7 l0 x9_1) x15_2).f0), .int .i64 ((rd_T39 (rd_L7 l0 x9_1) x15_2).f1), .int .i64 ((rd_T39 (rd_L7 l0 x9_1) x15_2).f2), .int .i64 ((rd_T39 (rd_L7 l0 x9_1) x15_2).f3), .slice none 0 0, .bool false]) ?_ 4 _ rfl; refine blk_w ?_; refine blk_put (cs := #[.int .i64 ((rd_T39 (rd_L7 l0 x9_1) x15_2).f0), .int .i64 ((rd_T39 (rd_L7 l0 x9_1) x15_2).f1), .int .i64 ((rd_T39 (rd_L7 l0 x9_1) x15_2).f2), .int .i64 0, .slice none 0 0, .bool false]) ?_ 3 _ rfl; refine blk_w ?_; refine blk_put (cs := #[.int .i64 ((rd_T39 (rd_L7 l0 x9_1) x15_2).f0), .int .i64 ((rd_T39 (rd_L7 l0 x9_1) x15_2).f1), .int .i64 0, .int .i64 0, .slice none 0 0, .bool false]) ?_ 2 _ rfl; refine blk_w ?_; refine blk_put (cs := #[.int .i64 ((rd_T39 (rd_L7 l0 x9_1) x15_2).f0), .int .i64 0, .int .i64 0, .int .i64 0, .slice none 0 0, .bool false]) ?_ 1 _ rfl; refine blk_w ?_; refine blk_put (cs := #[.int .i64 0, .int .i64 0, .int .i64 0, .int .i64 0, .slice none 0 0, .bool false]) ?_ 0 _ rfl; exact blk_w BK237.out) hb); have n1_ := Aside0.mk (below_step (by repeat (with_reducible first | exact HB.out | apply below_t | refine below_set ?_ GE237.out)) hb); clear BK237; clear HB; have BK237 := n0_; have HB := n1_; clear n0_ n1_; (try clear hb); (try clear hb2); (try clear hk); (try clear hi)))
            go_ret
            exact ⟨by first | rfl | (simp [errW_none, errW_some] <;> rfl) | (simp [*, errW_none, errW_some] <;> rfl), by repeat (with_reducible first | exact HB.out | apply below_t | refine below_set ?_ GE237.out)⟩
          ·rw [if_neg c7] at H
           exact absurd H (by simp)
         ·rw [if_neg c6] at H
          exact absurd H (by simp)
        ·rw [if_neg c5] at H
         have c5b0 : decide (x15_2 < ((rd_L7 l0 x9_1).length : Int)) = false := decide_eq_false c5
         clear c5
         by_cases c16 : ((rd_L7 l0 x9_1).length : Int) > 16
         ·rw [if_pos c16] at H
          have c16b0 : decide (16 < ((rd_L7 l0 x9_1).length : Int)) = true := decide_eq_true c16
          have c16b1 : decide (16 < (rd_L7 l0 x9_1).length) = true := decide_eq_true (by omega)
          clear c16
          obtain rfl := Option.some.inj H
          go_wp2
          go_ret
          exact ⟨by first | rfl | (simp [errW_none, errW_some] <;> rfl) | (simp [*, errW_none, errW_some] <;> rfl), by exact below_w HB.out⟩
         ·rw [if_neg c16] at H
          have c16b0 : decide (16 < ((rd_L7 l0 x9_1).length : Int)) = false := decide_eq_false c16
          have c16b1 : decide (16 < (rd_L7 l0 x9_1).length) = false := decide_eq_false (by omega)
          clear c16
          have H' := Aside0.mk H
          clear H
          go_wp2
          go_roundg k2
          case measure => have := HK1.out; have := HK2.out; omega
          case rel => exact ⟨(wrap64 (x9_1 + 1)), (by first | rfl | (simp; done) | (simp [*]; done)), H', ⟨by have := HK1.out; have := HK2.out; omega⟩, ⟨below_w HB.out⟩⟩
     ·rw [if_neg c4] at H
      exact absurd H (by simp)
    ·rw [if_neg c3] at H
     exact absurd H (by simp)
   ·rw [if_neg c2] at H
    have c2b0 : decide (x9_1 < (l0.length : Int)) = false := decide_eq_false c2
    clear c2
    by_cases c17 : (l0.length : Int) ≥ 1
    ·rw [if_pos c17] at H
     have c17b0 : decide (1 ≤ (l0.length : Int)) = true := decide_eq_true c17
     have c17b1 : decide (1 ≤ l0.length) = true := decide_eq_true (by omega)
     clear c17
     obtain rfl := Option.some.inj H
     go_wp2
     go_ret
     exact ⟨by first | rfl | (simp [errW_none, errW_some] <;> rfl) | (simp [*, errW_none, errW_some] <;> rfl), by exact below_w HB.out⟩
    ·rw [if_neg c17] at H
     have c17b0 : decide (1 ≤ (l0.length : Int)) = false := decide_eq_false c17
     have c17b1 : decide (1 ≤ l0.length) = false := decide_eq_false (by omega)
     clear c17
     obtain rfl := Option.some.inj H
     go_wp2
     go_ret
     exact ⟨by first | rfl | (simp [errW_none, errW_some] <;> rfl) | (simp [*, errW_none, errW_some] <;> rfl), by exact below_w HB.out⟩

/-! ### handoffref10_flag: function 69 -/
def handoffref10_flag.f (a0 : Bool) : Option (Int) := if a0 = true then (some 1) else (some 0)
set_option maxHeartbeats 8000000 in
set_option maxRecDepth 100000 in
theorem handoffref10_flag.calls (a0 : Bool) (r : Int) (w : World) (h : handoffref10_flag.f a0 = some r) :
  Calls Try.prog 69 #[.bool a0] w fun e w' => e = .returned (.int .u8 r) ∧ Drawn0 w w' := by
 have H : (if a0 = true then (some 1) else (some 0)) = some r := h
 clear h
 by_cases c2 : a0 = true
 ·subst c2
  have H1 : (some 1) = some r := by rw [if_pos rfl] at H; exact H
  clear H
  have H := H1
  clear H1
  obtain rfl := Option.some.inj H
  go_enter Try.func69, Try.ntmps69
  go_wp2
  go_ret
  exact ⟨by first | rfl | (simp; done) | (simp [*]; done), by repeat (first | exact Drawn0.refl _ | apply Drawn0.step)⟩
 ·replace c2 := Bool.eq_false_iff.mpr c2
  subst c2
  have H1 : (some 0) = some r := by rw [if_neg (show ¬ (false = true) by decide)] at H; exact H
  clear H
  have H := H1
  clear H1
  obtain rfl := Option.some.inj H
  go_enter Try.func69, Try.ntmps69
  go_wp2
  go_ret
  exact ⟨by first | rfl | (simp; done) | (simp [*]; done), by repeat (first | exact Drawn0.refl _ | apply Drawn0.step)⟩

end Go.Proofs.Ytjmpaeckpbpclaa.PPlK
