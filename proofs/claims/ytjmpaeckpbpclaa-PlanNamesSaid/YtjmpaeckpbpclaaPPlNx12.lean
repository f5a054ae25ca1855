-- Out of the translation, by a program of this session.
import Derived.Test.YtjmpaeckpbpclaaPPlNx0
import Derived.Test.YtjmpaeckpbpclaaPPlNx4
import Derived.Test.YtjmpaeckpbpclaaPPlNx10
import Derived.Test.YtjmpaeckpbpclaaPPlNx11
namespace Go.Proofs.Ytjmpaeckpbpclaa.PPlN
open Go.RowKit Go.Proofs.YtjmpaeckpbpclaaW.PrintWords Go.Proofs.YtjmpaeckpbpclaaW.PrintLast Go.Proofs.YtjmpaeckpbpclaaW.PrintMore
attribute [local go_sem] max2_int min2_int max_two min_two max_three min_three max_four min_four   -- for this text's walks alone
set_option linter.unusedVariables false
set_option linter.unusedSimpArgs false

/-! ### plan_Encode: function 25 -/
mutual
def plan_Encode.l0 : Nat → List Int → List (List (S39)) → Int → Int → Option (List Int × Int)
  | 0, _, _, _, _ => none
  | k + 1, x4, x17, x18, x19 => if x19 < x18 then (if 0 ≤ x19 then (if x19 < (x17.length : Int) then (if x4.length < 140737488355328 then (plan_Encode.l1 k (x4 ++ [(((rd_L7 x17 x19).length : Int)) % 256]) x17 x18 x19 (rd_L7 x17 x19) ((rd_L7 x17 x19).length : Int) 0) else (none)) else (none)) else (none)) else (some (x4, 0))
def plan_Encode.l1 : Nat → List Int → List (List (S39)) → Int → Int → List (S39) → Int → Int → Option (List Int × Int)
  | 0, _, _, _, _, _, _, _ => none
  | k + 1, x4, x17, x18, x19, x29, x30, x31 => if x31 < x30 then (if 0 ≤ x31 then (if x31 < (x29.length : Int) then ((plan_put.f k x4 ((rd_T39 x29 x31).f0) ((rd_T39 x29 x31).f1) ((rd_T39 x29 x31).f2) ((rd_T39 x29 x31).f3) ((rd_T39 x29 x31).f4) ((rd_T39 x29 x31).f5)).bind fun t229 => (plan_Encode.l1 k t229 x17 x18 x19 x29 x30 (wrap64 (x31 + 1)))) else (none)) else (none)) else (plan_Encode.l0 k x4 x17 x18 (wrap64 (x19 + 1)))
end
def plan_Encode.f (k : Nat) (l0 : List (List (S39))) : Option (List Int × Int) := (plan_Right.f k l0).bind fun t219 => (if t219 = true then (plan_Encode.l0 k (([(wrap64 ((l0.length : Int) - 1)) % 256] : List Int)) l0 (l0.length : Int) 0) else (some (([] : List Int), 3)))
theorem plan_Encode.mono_l : ∀ k, (∀ y0 y1 y2 y3, LeO (plan_Encode.l0 k y0 y1 y2 y3) (plan_Encode.l0 (k + 1) y0 y1 y2 y3)) ∧ (∀ y0 y1 y2 y3 y4 y5 y6, LeO (plan_Encode.l1 k y0 y1 y2 y3 y4 y5 y6) (plan_Encode.l1 (k + 1) y0 y1 y2 y3 y4 y5 y6))
  | 0 => ⟨fun _ _ _ _ r h => by simp [plan_Encode.l0] at h, fun _ _ _ _ _ _ _ r h => by simp [plan_Encode.l1] at h⟩
  | k + 1 => by
    obtain ⟨ih0, ih1⟩ := plan_Encode.mono_l k
    refine ⟨?_, ?_⟩
    · intro y0 y1 y2 y3
      unfold plan_Encode.l0
      repeat' first
      | (with_reducible exact ih0 _ _ _ _)
      | (with_reducible exact ih1 _ _ _ _ _ _ _)
      | (with_reducible exact plan_Right.mono _ _)
      | (with_reducible exact plan_put.mono _ _ _ _ _ _ _ _)
      | (with_reducible exact LeO.refl _)
      | (with_reducible exact LeO.none _)
      | (with_reducible refine LeO.ite ?_ ?_)
      | (with_reducible refine LeO.bind ?_ (fun _ => ?_))
      | exact ih0 _ _ _ _
      | exact ih1 _ _ _ _ _ _ _
      | exact plan_Right.mono _ _
      | exact plan_put.mono _ _ _ _ _ _ _ _
      | exact LeO.none _
      | refine LeO.ite ?_ ?_
      | refine LeO.bind ?_ (fun _ => ?_)
    · intro y0 y1 y2 y3 y4 y5 y6
      unfold plan_Encode.l1
      repeat' first
      | (with_reducible exact ih0 _ _ _ _)
      | (with_reducible exact ih1 _ _ _ _ _ _ _)
      | (with_reducible exact plan_Right.mono _ _)
      | (with_reducible exact plan_put.mono _ _ _ _ _ _ _ _)
      | (with_reducible exact LeO.refl _)
      | (with_reducible exact LeO.none _)
      | (with_reducible refine LeO.ite ?_ ?_)
      | (with_reducible refine LeO.bind ?_ (fun _ => ?_))
      | exact ih0 _ _ _ _
      | exact ih1 _ _ _ _ _ _ _
      | exact plan_Right.mono _ _
      | exact plan_put.mono _ _ _ _ _ _ _ _
      | exact LeO.none _
      | refine LeO.ite ?_ ?_
      | refine LeO.bind ?_ (fun _ => ?_)
theorem plan_Encode.mono : ∀ a0 k, LeO (plan_Encode.f k a0) (plan_Encode.f (k + 1) a0) := by
  intro a0 k
  obtain ⟨ih0, ih1⟩ := plan_Encode.mono_l k
  unfold plan_Encode.f
  repeat' first
      | (with_reducible exact ih0 _ _ _ _)
      | (with_reducible exact ih1 _ _ _ _ _ _ _)
      | (with_reducible exact plan_Right.mono _ _)
      | (with_reducible exact plan_put.mono _ _ _ _ _ _ _ _)
      | (with_reducible exact LeO.refl _)
      | (with_reducible exact LeO.none _)
      | (with_reducible refine LeO.ite ?_ ?_)
      | (with_reducible refine LeO.bind ?_ (fun _ => ?_))
      | exact ih0 _ _ _ _
      | exact ih1 _ _ _ _ _ _ _
      | exact plan_Right.mono _ _
      | exact plan_put.mono _ _ _ _ _ _ _ _
      | exact LeO.none _
      | refine LeO.ite ?_ ?_
      | refine LeO.bind ?_ (fun _ => ?_)
set_option maxHeartbeats 8000000 in
set_option maxRecDepth 100000 in
theorem plan_Encode.calls (k : Nat) (A0 : Option Addr) (c0 : Nat) (l0 : List (List (S39))) (r1 : List Int) (r2 : Int) (w : World) (hr0 : Kd.C (Kd.slice 39 k39) w A0 l0.length l0) (hc0 : l0.length ≤ c0) (h : plan_Encode.f k l0 = some (r1, r2)) :
    Calls Try.prog 25 #[.slice A0 l0.length c0] w fun e w' => ∃ v0_ : Value, e = .returned (.tuple #[v0_, .int .i64 r2]) ∧ Kd.R (Kd.int .u8) 5 w' w.heap.size (fun _ => True) v0_ r1 ∧ Below w.heap.size w w' := by
  have hu39 := Try.underlying39
  have HR0 := Aside0.mk hr0
  have HC0 := Aside0.mk hc0
  clear hr0 hc0
  have HB := Aside0.mk (Below.refl w.heap.size w)
  have H : ((plan_Right.f k l0).bind fun t219 => (if t219 = true then (plan_Encode.l0 k (([(wrap64 ((l0.length : Int) - 1)) % 256] : List Int)) l0 (l0.length : Int) 0) else (some (([] : List Int), 3)))) = some (r1, r2) := h
  clear h
  replace H := Option.bind_eq_some_iff.mp H
  obtain ⟨t219, A20, H⟩ := H
  replace H : (if t219 = true then (plan_Encode.l0 k (([(wrap64 ((l0.length : Int) - 1)) % 256] : List Int)) l0 (l0.length : Int) 0) else (some (([] : List Int), 3))) = some (r1, r2) := H
  have A2 := Aside0.mk A20
  clear A20
  by_cases c3 : t219 = true
  · subst c3
    have H1 : (plan_Encode.l0 k (([(wrap64 ((l0.length : Int) - 1)) % 256] : List Int)) l0 (l0.length : Int) 0) = some (r1, r2) := by rw [if_pos rfl] at H; exact H
    clear H
    have H := H1
    clear H1
    obtain ⟨y220, hy220⟩ : ∃ y_ : List Int, y_ = (([(wrap64 ((l0.length : Int) - 1)) % 256] : List Int)) := ⟨_, rfl⟩
    replace H : (plan_Encode.l0 k y220 l0 (l0.length : Int) 0) = some (r1, r2) := by first | (rw [hy220]; with_reducible exact H) | (have H2_ := (Option.bind_some _ _).symm.trans H; rw [hy220]; with_reducible exact H2_) | (have H2_ := (Option.bind_some _ _).symm.trans H; with_reducible exact H2_) | with_reducible exact H | (rw [hy220]; exact H) | exact H
    have Ny220 := Aside0.mk hy220
    clear hy220
    have H' := Aside0.mk H
    clear H
    go_enter Try.func25, Try.ntmps25
    go_wp2_with (first | ((with_reducible refine gate_callee (f := 30) rfl ?_); refine goesL_ (some 10) rfl rfl Try.func30 (by kernel_rfl) rfl #[.slice A0 l0.length c0] rfl (by (try simp only [List.map_toArray, List.map_cons, List.map_nil]); first | done | rfl | (simp only [List.length_drop, List.length_take]; rfl)) ?_; (with_reducible refine (plan_Right.calls k _ _ l0 true _ ?side1 ?side2 A2.out).mono ?_); (case side1 => repeat (first | exact HR0.out | (with_reducible refine Kd.C_alloc ?_ _) | (with_reducible refine Kd.C_drewN ?_ _) | (with_reducible refine Kd.C_drew ?_))); (case side2 => exact HC0.out); rintro e w4 ⟨rfl, hb⟩; refine ⟨_, rfl, ?_⟩; have n0_ := Aside0.mk (below_step (by repeat (first | (with_reducible first | exact HB.out | apply below_alloc | apply pw_below_drewN | apply below_drew1) | exact HB.out)) hb); clear HB; have HB := n0_; clear n0_; (try clear hb); (try clear hb2); (try clear hk); (try clear hi)) | ((with_reducible refine gate_dst (N := 16) rfl ?_); refine Kd.R_lit (Kd.int .u8) _ 5 ?hg (N := 16) ?hd (xs := ([(wrap64 ((l0.length : Int) - 1)) % 256] : List Int)) (inner := [.int .u8 ((wrap64 ((l0.length : Int) - 1)) % 256)]) (ok := fun _ => True) (okp := fun _ => True) ?hr ?hp (fun _ hk => hk) trivial (Below.refl _ _) (Nat.le_refl _) (by simp) ?_; (case hd => rfl); (case hg => rfl); (case hr => first | (go_simp; done) | (go_simp; rfl)); (case hp => exact (Reps.one (show Kd.M (Kd.int .u8) _ _ _ ((wrap64 ((l0.length : Int) - 1)) % 256) [.int .u8 ((wrap64 ((l0.length : Int) - 1)) % 256)] from rfl) (Reps.none _ _))); intro v221 w5 ho6 hb hg_ hnew_; clear hg_ hnew_; (first | rw [← Ny220.out] at ho6 | (simp only [Int.reduceToNat] at ho6; rw [← Ny220.out] at ho6)); have n0_ := Aside0.mk (Kd.R_lower ho6 (below_size (by repeat (first | (with_reducible first | exact HB.out | apply below_alloc | apply pw_below_drewN | apply below_drew1) | exact HB.out)))); have n1_ := Aside0.mk (below_step (by repeat (first | (with_reducible first | exact HB.out | apply below_alloc | apply pw_below_drewN | apply below_drew1) | exact HB.out)) hb); clear HB; have HO222 := n0_; have HB := n1_; clear n0_ n1_; clear hb ho6))
    go_loopg [4, 19] k (fun kq v4 v19 w' => ∃ (x4_1 : List Int) (x19_1 : Int), v19 = .int .i64 x19_1 ∧ Aside0 (plan_Encode.l0 kq x4_1 l0 (l0.length : Int) x19_1 = some (r1, r2)) ∧ Aside0 (kq ≤ k) ∧ Aside0 (Kd.R (Kd.int .u8) 5 w' w.heap.size (fun _ => True) v4 x4_1) ∧ Aside0 (Below w.heap.size w w'))
    case atStart => exact ⟨(y220), (0), (by first | rfl | (simp; done) | (simp [*]; done)), H', ⟨Nat.le_refl _⟩, ⟨by (with_reducible repeat (first | apply Kd.R_alloc | apply Kd.R_drewN | apply Kd.R_drew)); exact HO222.out⟩, ⟨by repeat (first | (with_reducible first | exact HB.out | apply below_alloc | apply pw_below_drewN | apply below_drew1) | exact HB.out)⟩⟩
    case round =>
      clear H'
      try clear c2
      try clear p2
      try clear c3
      try clear p6
      obtain ⟨x4_1, x19_1, rfl, HA, HK1, HO_4, HB⟩ := hrel
      cases gk with
      | zero => exact absurd HA.out (by simp [plan_Encode.l0])
      | succ k1 =>
        have H := HA.out
        clear HA
        simp only [plan_Encode.l0] at H
        by_cases c7 : x19_1 < (l0.length : Int)
        · rw [if_pos c7] at H
          have c7b0 : decide (x19_1 < (l0.length : Int)) = true := decide_eq_true c7
          clear c7
          by_cases c8 : 0 ≤ x19_1
          · rw [if_pos c8] at H
            have c8b0 : decide (0 ≤ x19_1) = true := decide_eq_true c8
            clear c8
            by_cases c9 : x19_1 < (l0.length : Int)
            · rw [if_pos c9] at H
              have c9b0 : decide (x19_1 < (l0.length : Int)) = true := decide_eq_true c9
              clear c9
              by_cases c10 : x4_1.length < 140737488355328
              · rw [if_pos c10] at H
                have LMc10 := Aside0.mk c10
                clear c10
                obtain ⟨y224, hy224⟩ : ∃ y_ : List Int, y_ = (x4_1 ++ [(((rd_L7 l0 x19_1).length : Int)) % 256]) := ⟨_, rfl⟩
                replace H : (plan_Encode.l1 k1 y224 l0 (l0.length : Int) x19_1 (rd_L7 l0 x19_1) ((rd_L7 l0 x19_1).length : Int) 0) = some (r1, r2) := by first | (rw [hy224]; with_reducible exact H) | (have H2_ := (Option.bind_some _ _).symm.trans H; rw [hy224]; with_reducible exact H2_) | (have H2_ := (Option.bind_some _ _).symm.trans H; with_reducible exact H2_) | with_reducible exact H | (rw [hy224]; exact H) | exact H
                have Ny224 := Aside0.mk hy224
                clear hy224
                have H' := Aside0.mk H
                clear H
                have p223 : 0 ≤ (x19_1 : Int) := of_decide_eq_true (by first | (with_reducible assumption) | assumption)
                have q223 : x19_1 < (l0.length : Int) := of_decide_eq_true (by first | (with_reducible assumption) | assumption)
                obtain ⟨ad223, A223_0, c223_0, e223, hx223_0, hl223_0, hi223_0⟩ := at_L7 HR0.out x19_1 p223 q223
                cases e223
                replace hx223_0 := (HB.out.cell (World.block_lt_of_cell? w _ hx223_0)).trans hx223_0
                have HR223_0 := Aside0.mk hi223_0
                have HC223_0 := Aside0.mk hl223_0
                clear hi223_0 hl223_0
                replace p223 := eq_true p223
                replace q223 := eq_true q223
                go_wp2_with (first | ((with_reducible refine gate_builtin (b := .append) (xs := #[.tmp 23, .tmp 27]) rfl ?_); at_builtin; refine Kd.R_append (Kd.int .u8) (w0 := w) w.heap.size rfl (.tmp 23) (.tmp 27) 42 5 (.int .u8 0) 1 rfl Try.underlying42 info5 rfl (by decide) (by omega) u4 x4_1 ((((rd_L7 l0 x19_1).length : Int)) % 256) [.int .u8 ((((rd_L7 l0 x19_1).length : Int)) % 256)] (fun _ => True) (fun _ => False) rfl rfl ?aP (fun _ hk => hk.elim) ?aF ?aO ?aB ?aS ?aL ?_; (case aP => exact rfl); (case aB => exact (by repeat (first | (with_reducible first | exact HB.out | apply below_alloc | apply pw_below_drewN | apply below_drew1) | exact HB.out))); (case aF => exact (fun _ _ => trivial)); (case aO => exact (by (with_reducible repeat (first | apply Kd.R_alloc | apply Kd.R_drewN | apply Kd.R_drew)); exact HO_4.out)); (case aS => exact (below_size (by repeat (first | (with_reducible first | exact HB.out | apply below_alloc | apply pw_below_drewN | apply below_drew1) | exact HB.out)))); (case aL => have := LMc10.out; omega); intro v225 w11 ho hb hg hat; rw [← Ny224.out] at ho; have n0_ := Aside0.mk (hb); have n1_ := Aside0.mk (ho); clear HB; clear HO_4; have HB := n0_; have HO226 := n1_; clear n0_ n1_; clear ho hb hg hat))
                go_loopg [4, 31] k1 (fun kq v4 v31 w' => ∃ (x4_2 : List Int) (x31_2 : Int), v31 = .int .i64 x31_2 ∧ Aside0 (plan_Encode.l1 kq x4_2 l0 (l0.length : Int) x19_1 (rd_L7 l0 x19_1) ((rd_L7 l0 x19_1).length : Int) x31_2 = some (r1, r2)) ∧ Aside0 (kq ≤ k1) ∧ Aside0 (Kd.R (Kd.int .u8) 5 w' w.heap.size (fun _ => True) v4 x4_2) ∧ Aside0 (Below w.heap.size w w'))
                case atStart => exact ⟨(y224), (0), (by first | rfl | (simp; done) | (simp [*]; done)), H', ⟨Nat.le_refl _⟩, ⟨by (with_reducible repeat (first | apply Kd.R_alloc | apply Kd.R_drewN | apply Kd.R_drew)); exact HO226.out⟩, ⟨by repeat (first | (with_reducible first | exact HB.out | apply below_alloc | apply pw_below_drewN | apply below_drew1) | exact HB.out)⟩⟩
                case round =>
                  clear H'
                  try clear c1
                  try clear c2
                  try clear p2
                  try clear q2
                  try clear hx2
                  try clear c3
                  try clear p6
                  try clear c7
                  try clear c7b0
                  try clear c8
                  try clear c8b0
                  try clear c9
                  try clear c9b0
                  try clear c10
                  try clear hx223_0
                  try clear p2
                  try clear p223
                  try clear p6
                  try clear q223
                  obtain ⟨x4_2, x31_2, rfl, HA, HK2, HO_4, HB⟩ := hrel
                  cases gk with
                  | zero => exact absurd HA.out (by simp [plan_Encode.l1])
                  | succ k2 =>
                    have H := HA.out
                    clear HA
                    simp only [plan_Encode.l1] at H
                    by_cases c12 : x31_2 < ((rd_L7 l0 x19_1).length : Int)
                    · rw [if_pos c12] at H
                      have c12b0 : decide (x31_2 < ((rd_L7 l0 x19_1).length : Int)) = true := decide_eq_true c12
                      clear c12
                      by_cases c13 : 0 ≤ x31_2
                      · rw [if_pos c13] at H
                        have c13b0 : decide (0 ≤ x31_2) = true := decide_eq_true c13
                        clear c13
                        by_cases c14 : x31_2 < ((rd_L7 l0 x19_1).length : Int)
                        · rw [if_pos c14] at H
                          have c14b0 : decide (x31_2 < ((rd_L7 l0 x19_1).length : Int)) = true := decide_eq_true c14
                          clear c14
                          replace H := Option.bind_eq_some_iff.mp H
                          obtain ⟨t229, A150, H⟩ := H
                          replace H : (plan_Encode.l1 k2 t229 l0 (l0.length : Int) x19_1 (rd_L7 l0 x19_1) ((rd_L7 l0 x19_1).length : Int) (wrap64 (x31_2 + 1))) = some (r1, r2) := H
                          have A15 := Aside0.mk A150
                          clear A150
                          have H' := Aside0.mk H
                          clear H
                          have p227 : 0 ≤ (x31_2 : Int) := of_decide_eq_true (by first | (with_reducible assumption) | assumption)
                          have q227 : x31_2 < ((rd_L7 l0 x19_1).length : Int) := of_decide_eq_true (by first | (with_reducible assumption) | assumption)
                          obtain ⟨ad227, A227_4, c227_4, e227, hx227_0, hx227_1, hx227_2, hx227_3, hx227_4, hx227_5, hl227_4, hi227_4⟩ := at_T39 HR223_0.out x31_2 p227 q227
                          cases e227
                          replace hx227_0 := (HB.out.cell (World.block_lt_of_cell? w _ hx227_0)).trans hx227_0
                          replace hx227_1 := (HB.out.cell (World.block_lt_of_cell? w _ hx227_1)).trans hx227_1
                          replace hx227_2 := (HB.out.cell (World.block_lt_of_cell? w _ hx227_2)).trans hx227_2
                          replace hx227_3 := (HB.out.cell (World.block_lt_of_cell? w _ hx227_3)).trans hx227_3
                          replace hx227_4 := (HB.out.cell (World.block_lt_of_cell? w _ hx227_4)).trans hx227_4
                          replace hx227_5 := (HB.out.cell (World.block_lt_of_cell? w _ hx227_5)).trans hx227_5
                          have HR227_4 := Aside0.mk hi227_4
                          have HC227_4 := Aside0.mk hl227_4
                          clear hi227_4 hl227_4
                          replace p227 := eq_true p227
                          replace q227 := eq_true q227
                          go_wp2_with (first | ((with_reducible refine gate_dst (N := 8) rfl ?_); refine box_event ?hg (N := 8) ?hd (cs := #[.int .i64 0, .int .i64 0, .int .i64 0, .int .i64 0, .slice none 0 0, .bool false]) (t := 39) ?hr ?_; (case hd => rfl); (case hg => rfl); (case hr => first | (go_simp; done) | (go_simp; rfl)); intro gb228 hg w16 hbox hb; have n0_ := Aside0.mk (Kd.R_below (by (with_reducible repeat (first | apply Kd.R_alloc | apply Kd.R_drewN | apply Kd.R_drew)); exact HO_4.out) hb); have n1_ := Aside0.mk (below_step (by repeat (first | (with_reducible first | exact HB.out | apply below_alloc | apply pw_below_drewN | apply below_drew1) | exact HB.out)) hb); have n2_ := Aside0.mk (hbox); have n3_ := Aside0.mk ((by rw [hg]; exact (below_size (by repeat (first | (with_reducible first | exact HB.out | apply below_alloc | apply pw_below_drewN | apply below_drew1) | exact HB.out))) : w.heap.size ≤ gb228)); have n4_ := Aside0.mk ((by rw [hg]; exact (below_size (by repeat (first | (with_reducible first | exact HB.out | apply below_alloc | apply pw_below_drewN | apply below_drew1) | exact HB.out))) : w.heap.size ≤ gb228)); clear HO_4; clear HB; have HO_4 := n0_; have HB := n1_; have BK228 := n2_; have GW228 := n3_; have GE228 := n4_; clear n0_ n1_ n2_ n3_ n4_; clear hb hbox hg; have hcz17_0 : w16.cell? ⟨gb228, 0, none⟩ = some (.int .i64 0) := (blk_cell BK228.out 0).trans rfl; have hcz17_1 : w16.cell? ⟨gb228, 1, none⟩ = some (.int .i64 0) := (blk_cell BK228.out 1).trans rfl; have hcz17_2 : w16.cell? ⟨gb228, 2, none⟩ = some (.int .i64 0) := (blk_cell BK228.out 2).trans rfl; have hcz17_3 : w16.cell? ⟨gb228, 3, none⟩ = some (.int .i64 0) := (blk_cell BK228.out 3).trans rfl; have hcz17_4 : w16.cell? ⟨gb228, 4, none⟩ = some (.slice none 0 0) := (blk_cell BK228.out 4).trans rfl; have hcz17_5 : w16.cell? ⟨gb228, 5, none⟩ = some (.bool false) := (blk_cell BK228.out 5).trans rfl; have hfz17_0 := blk_frozen BK228.out 0; have hfz17_1 := blk_frozen BK228.out 1; have hfz17_2 := blk_frozen BK228.out 2; have hfz17_3 := blk_frozen BK228.out 3; have hfz17_4 := blk_frozen BK228.out 4; have hfz17_5 := blk_frozen BK228.out 5) | ((with_reducible refine gate_store (t := 39) (p := 8) rfl ?_); refine store_event (t := 39) (p := 8) (v := ?vo_w18) (w1 := ((((((w16.setCell ⟨gb228, 0, none⟩ (.int .i64 ((rd_T39 (rd_L7 l0 x19_1) x31_2).f0))).setCell ⟨gb228, 1, none⟩ (.int .i64 ((rd_T39 (rd_L7 l0 x19_1) x31_2).f1))).setCell ⟨gb228, 2, none⟩ (.int .i64 ((rd_T39 (rd_L7 l0 x19_1) x31_2).f2))).setCell ⟨gb228, 3, none⟩ (.int .i64 ((rd_T39 (rd_L7 l0 x19_1) x31_2).f3))).setCell ⟨gb228, 4, none⟩ (.slice A227_4 ((rd_T39 (rd_L7 l0 x19_1) x31_2).f4).length c227_4)).setCell ⟨gb228, 5, none⟩ (.bool ((rd_T39 (rd_L7 l0 x19_1) x31_2).f5)))) ?hg ?ho ?hn ?hr ?_; (case ho => rfl); (case hg => rfl); (case hn => rfl); (case hr => first | (go_simp; done) | (go_simp; rfl)); intro w18 hw; have n0_ : Aside0 (Kd.R (Kd.int .u8) 5 w18 w.heap.size (fun _ => True) u4 x4_2) := ⟨(by rw [hw]; exact (by (with_reducible repeat (first | apply Kd.R_alloc | apply Kd.R_drewN | apply Kd.R_drew)); exact Kd.R_mono (Kd.R_far (p := ⟨gb228, 5, none⟩) (Kd.R_far (p := ⟨gb228, 4, none⟩) (Kd.R_far (p := ⟨gb228, 3, none⟩) (Kd.R_far (p := ⟨gb228, 2, none⟩) (Kd.R_far (p := ⟨gb228, 1, none⟩) (Kd.R_far (p := ⟨gb228, 0, none⟩) (Kd.R_types HO_4.out BK228.out (by decide)) (fun _ hk => hk.2) (.int .i64 ((rd_T39 (rd_L7 l0 x19_1) x31_2).f0))) (fun _ hk => hk.2) (.int .i64 ((rd_T39 (rd_L7 l0 x19_1) x31_2).f1))) (fun _ hk => hk.2) (.int .i64 ((rd_T39 (rd_L7 l0 x19_1) x31_2).f2))) (fun _ hk => hk.2) (.int .i64 ((rd_T39 (rd_L7 l0 x19_1) x31_2).f3))) (fun _ hk => hk.2) (.slice A227_4 ((rd_T39 (rd_L7 l0 x19_1) x31_2).f4).length c227_4)) (fun _ hk => hk.2) (.bool ((rd_T39 (rd_L7 l0 x19_1) x31_2).f5))) (fun _ hk => trivial)))⟩; have n1_ : Aside0 (w18.heap[gb228]? = some (.cells #[.int .i64 ((rd_T39 (rd_L7 l0 x19_1) x31_2).f0), .int .i64 ((rd_T39 (rd_L7 l0 x19_1) x31_2).f1), .int .i64 ((rd_T39 (rd_L7 l0 x19_1) x31_2).f2), .int .i64 ((rd_T39 (rd_L7 l0 x19_1) x31_2).f3), .slice A227_4 ((rd_T39 (rd_L7 l0 x19_1) x31_2).f4).length c227_4, .bool ((rd_T39 (rd_L7 l0 x19_1) x31_2).f5)] 39 (0, 0))) := ⟨(by rw [hw]; exact (by (with_reducible repeat (first | refine blk_drewN ?_ _ | refine blk_drew ?_ | refine blk_alloc ?_ _)); refine blk_put (cs := #[.int .i64 ((rd_T39 (rd_L7 l0 x19_1) x31_2).f0), .int .i64 ((rd_T39 (rd_L7 l0 x19_1) x31_2).f1), .int .i64 ((rd_T39 (rd_L7 l0 x19_1) x31_2).f2), .int .i64 ((rd_T39 (rd_L7 l0 x19_1) x31_2).f3), .slice A227_4 ((rd_T39 (rd_L7 l0 x19_1) x31_2).f4).length c227_4, .bool false]) ?_ 5 _ rfl; (with_reducible repeat (first | refine blk_drewN ?_ _ | refine blk_drew ?_ | refine blk_alloc ?_ _)); refine blk_put (cs := #[.int .i64 ((rd_T39 (rd_L7 l0 x19_1) x31_2).f0), .int .i64 ((rd_T39 (rd_L7 l0 x19_1) x31_2).f1), .int .i64 ((rd_T39 (rd_L7 l0 x19_1) x31_2).f2), .int .i64 ((rd_T39 (rd_L7 l0 x19_1) x31_2).f3), .slice none 0 0, .bool false]) ?_ 4 _ rfl; (with_reducible repeat (first | refine blk_drewN ?_ _ | refine blk_drew ?_ | refine blk_alloc ?_ _)); refine blk_put (cs := #[.int .i64 ((rd_T39 (rd_L7 l0 x19_1) x31_2).f0), .int .i64 ((rd_T39 (rd_L7 l0 x19_1) x31_2).f1), .int .i64 ((rd_T39 (rd_L7 l0 x19_1) x31_2).f2), .int .i64 0, .slice none 0 0, .bool false]) ?_ 3 _ rfl; (with_reducible repeat (first | refine blk_drewN ?_ _ | refine blk_drew ?_ | refine blk_alloc ?_ _)); refine blk_put (cs := #[.int .i64 ((rd_T39 (rd_L7 l0 x19_1) x31_2).f0), .int .i64 ((rd_T39 (rd_L7 l0 x19_1) x31_2).f1), .int .i64 0, .int .i64 0, .slice none 0 0, .bool false]) ?_ 2 _ rfl; (with_reducible repeat (first | refine blk_drewN ?_ _ | refine blk_drew ?_ | refine blk_alloc ?_ _)); refine blk_put (cs := #[.int .i64 ((rd_T39 (rd_L7 l0 x19_1) x31_2).f0), .int .i64 0, .int .i64 0, .int .i64 0, .slice none 0 0, .bool false]) ?_ 1 _ rfl; (with_reducible repeat (first | refine blk_drewN ?_ _ | refine blk_drew ?_ | refine blk_alloc ?_ _)); refine blk_put (cs := #[.int .i64 0, .int .i64 0, .int .i64 0, .int .i64 0, .slice none 0 0, .bool false]) ?_ 0 _ rfl; (with_reducible repeat (first | refine blk_drewN ?_ _ | refine blk_drew ?_ | refine blk_alloc ?_ _)); exact BK228.out))⟩; have n2_ : Aside0 (Below w.heap.size w w18) := ⟨(by rw [hw]; exact (by repeat (first | (with_reducible first | exact HB.out | apply below_alloc | apply pw_below_drewN | apply below_drew1 | refine below_set ?_ GE228.out) | exact HB.out)))⟩; clear hw; clear HO_4; clear BK228; clear HB; have HO_4 := n0_; have BK228 := n1_; have HB := n2_; clear n0_ n1_ n2_; have hcz19_0 : w18.cell? ⟨gb228, 0, none⟩ = some (.int .i64 ((rd_T39 (rd_L7 l0 x19_1) x31_2).f0)) := (blk_cell BK228.out 0).trans rfl; have hcz19_1 : w18.cell? ⟨gb228, 1, none⟩ = some (.int .i64 ((rd_T39 (rd_L7 l0 x19_1) x31_2).f1)) := (blk_cell BK228.out 1).trans rfl; have hcz19_2 : w18.cell? ⟨gb228, 2, none⟩ = some (.int .i64 ((rd_T39 (rd_L7 l0 x19_1) x31_2).f2)) := (blk_cell BK228.out 2).trans rfl; have hcz19_3 : w18.cell? ⟨gb228, 3, none⟩ = some (.int .i64 ((rd_T39 (rd_L7 l0 x19_1) x31_2).f3)) := (blk_cell BK228.out 3).trans rfl; have hcz19_4 : w18.cell? ⟨gb228, 4, none⟩ = some (.slice A227_4 ((rd_T39 (rd_L7 l0 x19_1) x31_2).f4).length c227_4) := (blk_cell BK228.out 4).trans rfl; have hcz19_5 : w18.cell? ⟨gb228, 5, none⟩ = some (.bool ((rd_T39 (rd_L7 l0 x19_1) x31_2).f5)) := (blk_cell BK228.out 5).trans rfl; have hfz19_0 := blk_frozen BK228.out 0; have hfz19_1 := blk_frozen BK228.out 1; have hfz19_2 := blk_frozen BK228.out 2; have hfz19_3 := blk_frozen BK228.out 3; have hfz19_4 := blk_frozen BK228.out 4; have hfz19_5 := blk_frozen BK228.out 5; obtain ⟨Ao20, co20, eo20⟩ := Kd.R_slice HO_4.out; subst eo20) | ((with_reducible refine gate_callee (f := 68) rfl ?_); refine goesL_ (some 37) rfl rfl Try.func68 (by kernel_rfl) rfl #[.slice Ao20 x4_2.length co20, .agg #[.int .i64 ((rd_T39 (rd_L7 l0 x19_1) x31_2).f0), .int .i64 ((rd_T39 (rd_L7 l0 x19_1) x31_2).f1), .int .i64 ((rd_T39 (rd_L7 l0 x19_1) x31_2).f2), .int .i64 ((rd_T39 (rd_L7 l0 x19_1) x31_2).f3), .slice A227_4 ((rd_T39 (rd_L7 l0 x19_1) x31_2).f4).length c227_4, .bool ((rd_T39 (rd_L7 l0 x19_1) x31_2).f5)]] rfl (by (try simp only [List.map_toArray, List.map_cons, List.map_nil]); first | done | rfl | (simp only [List.length_drop, List.length_take]; rfl)) ?_; (with_reducible refine (plan_put.calls k2 (fun k_ => some k_ = (.slice Ao20 x4_2.length co20 : Value).ownBlock) (.slice Ao20 x4_2.length co20) x4_2 ((rd_T39 (rd_L7 l0 x19_1) x31_2).f0) ((rd_T39 (rd_L7 l0 x19_1) x31_2).f1) ((rd_T39 (rd_L7 l0 x19_1) x31_2).f2) ((rd_T39 (rd_L7 l0 x19_1) x31_2).f3) _ _ ((rd_T39 (rd_L7 l0 x19_1) x31_2).f4) ((rd_T39 (rd_L7 l0 x19_1) x31_2).f5) t229 w _ ?side1 ?side2 ?side3 ?side4 A15.out).mono ?_); (case side1 => repeat (first | (with_reducible first | exact HB.out | apply below_alloc | apply pw_below_drewN | apply below_drew1 | refine below_set ?_ GE228.out) | exact HB.out)); (case side2 => exact Kd.R_tight rfl HO_4.out); (case side3 => exact Kd.C_kept_came k116_heap HR227_4.out (by repeat (first | (with_reducible first | exact HB.out | apply below_alloc | apply pw_below_drewN | apply below_drew1 | refine below_set ?_ GE228.out) | exact HB.out)) (fun k_ hs_ => (fun e_ => Kd.R_base HO_4.out k_ e_.symm) hs_)); (case side4 => exact HC227_4.out); rintro e w21 ⟨v230, rfl, ho0, hb, hkp⟩; refine ⟨_, rfl, ?_⟩; have n0_ := Aside0.mk (blk_kept (by (with_reducible repeat (first | refine blk_drewN ?_ _ | refine blk_drew ?_ | refine blk_alloc ?_ _)); exact BK228.out) hkp (fun hs_ => (fun e_ => (Kd.R_ne HO_4.out BK228.out (by decide)) e_) hs_)); have n1_ := Aside0.mk (Kd.R_mono (ok' := fun k_ => True) ho0 (fun k_ hk_ => trivial)); have n2_ := Aside0.mk (hb); clear BK228; clear HB; clear HO_4; have BK228 := n0_; have HO231 := n1_; have HB := n2_; clear n0_ n1_ n2_; (try clear hb); (try clear hkp); (try clear ho0)))
                          go_roundg k2
                          case measure => have := HK1.out; have := HK2.out; omega
                          case rel => exact ⟨(t229), (wrap64 (x31_2 + 1)), (by first | rfl | (simp; done) | (simp [*]; done)), H', ⟨by have := HK1.out; have := HK2.out; omega⟩, ⟨by (with_reducible repeat (first | apply Kd.R_alloc | apply Kd.R_drewN | apply Kd.R_drew)); exact HO231.out⟩, ⟨by repeat (first | (with_reducible first | exact HB.out | apply below_alloc | apply pw_below_drewN | apply below_drew1 | refine below_set ?_ GE228.out) | exact HB.out)⟩⟩
                        · rw [if_neg c14] at H
                          exact absurd H (by simp)
                      · rw [if_neg c13] at H
                        exact absurd H (by simp)
                    · rw [if_neg c12] at H
                      have c12b0 : decide (x31_2 < ((rd_L7 l0 x19_1).length : Int)) = false := decide_eq_false c12
                      clear c12
                      have H' := Aside0.mk H
                      clear H
                      go_wp2
                      go_roundg k2
                      case measure => have := HK1.out; have := HK2.out; omega
                      case rel => exact ⟨(x4_2), (wrap64 (x19_1 + 1)), (by first | rfl | (simp; done) | (simp [*]; done)), H', ⟨by have := HK1.out; have := HK2.out; omega⟩, ⟨by (with_reducible repeat (first | apply Kd.R_alloc | apply Kd.R_drewN | apply Kd.R_drew)); exact HO_4.out⟩, ⟨by repeat (first | (with_reducible first | exact HB.out | apply below_alloc | apply pw_below_drewN | apply below_drew1) | exact HB.out)⟩⟩
              · rw [if_neg c10] at H
                exact absurd H (by simp)
            · rw [if_neg c9] at H
              exact absurd H (by simp)
          · rw [if_neg c8] at H
            exact absurd H (by simp)
        · rw [if_neg c7] at H
          have c7b0 : decide (x19_1 < (l0.length : Int)) = false := decide_eq_false c7
          clear c7
          simp only [Option.some.injEq, Prod.mk.injEq] at H
          obtain ⟨rfl, rfl⟩ := H
          go_wp2
          go_ret2
          exact ⟨_, by first | rfl | (simp [errW_none, errW_some] <;> rfl) | (simp [*, errW_none, errW_some] <;> rfl), by (with_reducible repeat (first | apply Kd.R_alloc | apply Kd.R_drewN | apply Kd.R_drew)); exact HO_4.out, by repeat (first | (with_reducible first | exact HB.out | apply below_alloc | apply pw_below_drewN | apply below_drew1) | exact HB.out)⟩
  · replace c3 := Bool.eq_false_iff.mpr c3
    subst c3
    have H1 : (some (([] : List Int), 3)) = some (r1, r2) := by rw [if_neg (show ¬ (false = true) by decide)] at H; exact H
    clear H
    have H := H1
    clear H1
    simp only [Option.some.injEq, Prod.mk.injEq] at H
    obtain ⟨rfl, rfl⟩ := H
    go_enter Try.func25, Try.ntmps25
    go_wp2_with (first | ((with_reducible refine gate_callee (f := 30) rfl ?_); refine goesL_ (some 10) rfl rfl Try.func30 (by kernel_rfl) rfl #[.slice A0 l0.length c0] rfl (by (try simp only [List.map_toArray, List.map_cons, List.map_nil]); first | done | rfl | (simp only [List.length_drop, List.length_take]; rfl)) ?_; (with_reducible refine (plan_Right.calls k _ _ l0 false _ ?side1 ?side2 A2.out).mono ?_); (case side1 => repeat (first | exact HR0.out | (with_reducible refine Kd.C_alloc ?_ _) | (with_reducible refine Kd.C_drewN ?_ _) | (with_reducible refine Kd.C_drew ?_))); (case side2 => exact HC0.out); rintro e w22 ⟨rfl, hb⟩; refine ⟨_, rfl, ?_⟩; have n0_ := Aside0.mk (below_step (by repeat (first | (with_reducible first | exact HB.out | apply below_alloc | apply pw_below_drewN | apply below_drew1) | exact HB.out)) hb); clear HB; have HB := n0_; clear n0_; (try clear hb); (try clear hb2); (try clear hk); (try clear hi)))
    go_ret2
    exact ⟨_, by first | rfl | (simp [errW_none, errW_some] <;> rfl) | (simp [*, errW_none, errW_some] <;> rfl), by first | exact Kd.R_nil _ _ _ _ _ | exact Kd.N_nil _ _ _ _ _ | exact Kd.V_nil _ _ _ _ _ | exact Kd.Q_nil _ _ _ _ _ | exact Kd.S_nil _ _ _ _ _, by repeat (first | (with_reducible first | exact HB.out | apply below_alloc | apply pw_below_drewN | apply below_drew1) | exact HB.out)⟩

/-! ### handofflaw10_PlanNames: function 5 -/
def handofflaw10_PlanNames.f (k : Nat)  : Option (Bool) := (plan_Encode.f k ([] : List (List (S39)))).bind fun bt232 => ((handofflaw10_planAlive.f k).bind fun t236 => (if t236 = true then (if (bt232.1.length : Int) = 0 then (if bt232.2 = 3 then (some true) else (some false)) else (some false)) else (some false)))
theorem handofflaw10_PlanNames.mono : ∀ k, LeO (handofflaw10_PlanNames.f k ) (handofflaw10_PlanNames.f (k + 1) ) := by
  intro  k
  unfold handofflaw10_PlanNames.f
  repeat' first
      | (with_reducible exact handofflaw10_planAlive.mono _)
      | (with_reducible exact plan_Encode.mono _ _)
      | (with_reducible exact LeO.refl _)
      | (with_reducible exact LeO.none _)
      | (with_reducible refine LeO.ite ?_ ?_)
      | (with_reducible refine LeO.bind ?_ (fun _ => ?_))
      | exact handofflaw10_planAlive.mono _
      | exact plan_Encode.mono _ _
      | exact LeO.none _
      | refine LeO.ite ?_ ?_
      | refine LeO.bind ?_ (fun _ => ?_)
set_option maxHeartbeats 8000000 in
set_option maxRecDepth 100000 in
theorem handofflaw10_PlanNames.calls (k : Nat)  (r : Bool) (w : World) (h : handofflaw10_PlanNames.f k  = some r) :
    Calls Try.prog 5 #[] w fun e w' => e = .returned (.bool r) ∧ Below w.heap.size w w' := by
  have HB := Aside0.mk (Below.refl w.heap.size w)
  have H : ((plan_Encode.f k ([] : List (List (S39)))).bind fun bt232 => ((handofflaw10_planAlive.f k).bind fun t236 => (if t236 = true then (if (bt232.1.length : Int) = 0 then (if bt232.2 = 3 then (some true) else (some false)) else (some false)) else (some false)))) = some r := h
  clear h
  replace H := Option.bind_eq_some_iff.mp H
  obtain ⟨⟨t232, t233⟩, A10, H⟩ := H
  replace H : ((handofflaw10_planAlive.f k).bind fun t236 => (if t236 = true then (if (t232.length : Int) = 0 then (if t233 = 3 then (some true) else (some false)) else (some false)) else (some false))) = some r := H
  have A1 := Aside0.mk A10
  clear A10
  replace H := Option.bind_eq_some_iff.mp H
  obtain ⟨t236, A20, H⟩ := H
  replace H : (if t236 = true then (if (t232.length : Int) = 0 then (if t233 = 3 then (some true) else (some false)) else (some false)) else (some false)) = some r := H
  have A2 := Aside0.mk A20
  clear A20
  by_cases c3 : t236 = true
  · subst c3
    have H1 : (if (t232.length : Int) = 0 then (if t233 = 3 then (some true) else (some false)) else (some false)) = some r := by rw [if_pos rfl] at H; exact H
    clear H
    have H := H1
    clear H1
    by_cases c4 : (t232.length : Int) = 0
    · rw [if_pos c4] at H
      have c4b0 : ((t232.length : Int) == 0) = true := beq_iff_eq.mpr c4
      have c4b1 : ((t232.length : Int) != 0) = false := bne_eq_false_iff_eq.mpr c4
      clear c4
      by_cases c5 : t233 = 3
      · rw [if_pos c5] at H
        have c5b0 : (t233 == 3) = true := beq_iff_eq.mpr c5
        have c5b1 : (t233 != 3) = false := bne_eq_false_iff_eq.mpr c5
        clear c5
        obtain rfl := Option.some.inj H
        go_enter Try.func5, Try.ntmps5
        go_wp2_with (first | ((with_reducible refine gate_callee (f := 25) rfl ?_); refine goesL_ (some 4) rfl rfl Try.func25 (by kernel_rfl) rfl #[.slice none 0 0] rfl (by (try simp only [List.map_toArray, List.map_cons, List.map_nil]); first | done | rfl | (simp only [List.length_drop, List.length_take]; rfl)) ?_; (refine (plan_Encode.calls k _ _ ([] : List (List (S39))) t232 t233 _ ?side1 ?side2 A1.out).mono ?_); (case side1 => exact Kd.C_nil _ _); (case side2 => exact Nat.le_refl _); rintro e w6 ⟨v234, rfl, ho0, hb⟩; refine ⟨_, rfl, ?_⟩; have n0_ := Aside0.mk (Kd.R_lower ho0 (below_size (by repeat (first | (with_reducible first | exact HB.out | apply below_alloc | apply pw_below_drewN | apply below_drew1) | exact HB.out)))); have n1_ := Aside0.mk (below_step (by repeat (first | (with_reducible first | exact HB.out | apply below_alloc | apply pw_below_drewN | apply below_drew1) | exact HB.out)) hb); clear HB; have HO235 := n0_; have HB := n1_; clear n0_ n1_; (try clear hb); (try clear hb2); (try clear hk); (try clear hi); (try clear ho0)) | ((with_reducible refine gate_callee (f := 20) rfl ?_); refine goesL_ (some 7) rfl rfl Try.func20 (by kernel_rfl) rfl #[] rfl (by (try simp only [List.map_toArray, List.map_cons, List.map_nil]); first | done | rfl | (simp only [List.length_drop, List.length_take]; rfl)) ?_; (with_reducible refine (handofflaw10_planAlive.calls k  true _ A2.out).mono ?_); rintro e w7 ⟨rfl, hb⟩; refine ⟨_, rfl, ?_⟩; have n0_ := Aside0.mk (Kd.R_below (by (with_reducible repeat (first | apply Kd.R_alloc | apply Kd.R_drewN | apply Kd.R_drew)); exact HO235.out) hb); have n1_ := Aside0.mk (below_step (by repeat (first | (with_reducible first | exact HB.out | apply below_alloc | apply pw_below_drewN | apply below_drew1) | exact HB.out)) hb); clear HO235; clear HB; have HO235 := n0_; have HB := n1_; clear n0_ n1_; (try clear hb); (try clear hb2); (try clear hk); (try clear hi); obtain ⟨Ao8, co8, eo8⟩ := Kd.R_slice HO235.out; subst eo8))
        go_ret
        exact ⟨by first | rfl | (simp [errW_none, errW_some] <;> rfl) | (simp [*, errW_none, errW_some] <;> rfl), by repeat (first | (with_reducible first | exact HB.out | apply below_alloc | apply pw_below_drewN | apply below_drew1) | exact HB.out)⟩
      · rw [if_neg c5] at H
        have c5b0 : (t233 == 3) = false := beq_eq_false_iff_ne.mpr c5
        have c5b1 : (t233 != 3) = true := bne_iff_ne.mpr c5
        obtain rfl := Option.some.inj H
        go_enter Try.func5, Try.ntmps5
        go_wp2_with (first | ((with_reducible refine gate_callee (f := 25) rfl ?_); refine goesL_ (some 4) rfl rfl Try.func25 (by kernel_rfl) rfl #[.slice none 0 0] rfl (by (try simp only [List.map_toArray, List.map_cons, List.map_nil]); first | done | rfl | (simp only [List.length_drop, List.length_take]; rfl)) ?_; (refine (plan_Encode.calls k _ _ ([] : List (List (S39))) t232 t233 _ ?side1 ?side2 A1.out).mono ?_); (case side1 => exact Kd.C_nil _ _); (case side2 => exact Nat.le_refl _); rintro e w9 ⟨v234, rfl, ho0, hb⟩; refine ⟨_, rfl, ?_⟩; have n0_ := Aside0.mk (Kd.R_lower ho0 (below_size (by repeat (first | (with_reducible first | exact HB.out | apply below_alloc | apply pw_below_drewN | apply below_drew1) | exact HB.out)))); have n1_ := Aside0.mk (below_step (by repeat (first | (with_reducible first | exact HB.out | apply below_alloc | apply pw_below_drewN | apply below_drew1) | exact HB.out)) hb); clear HB; have HO235 := n0_; have HB := n1_; clear n0_ n1_; (try clear hb); (try clear hb2); (try clear hk); (try clear hi); (try clear ho0)) | ((with_reducible refine gate_callee (f := 20) rfl ?_); refine goesL_ (some 7) rfl rfl Try.func20 (by kernel_rfl) rfl #[] rfl (by (try simp only [List.map_toArray, List.map_cons, List.map_nil]); first | done | rfl | (simp only [List.length_drop, List.length_take]; rfl)) ?_; (with_reducible refine (handofflaw10_planAlive.calls k  true _ A2.out).mono ?_); rintro e w10 ⟨rfl, hb⟩; refine ⟨_, rfl, ?_⟩; have n0_ := Aside0.mk (Kd.R_below (by (with_reducible repeat (first | apply Kd.R_alloc | apply Kd.R_drewN | apply Kd.R_drew)); exact HO235.out) hb); have n1_ := Aside0.mk (below_step (by repeat (first | (with_reducible first | exact HB.out | apply below_alloc | apply pw_below_drewN | apply below_drew1) | exact HB.out)) hb); clear HO235; clear HB; have HO235 := n0_; have HB := n1_; clear n0_ n1_; (try clear hb); (try clear hb2); (try clear hk); (try clear hi); obtain ⟨Ao11, co11, eo11⟩ := Kd.R_slice HO235.out; subst eo11))
        go_ret
        exact ⟨by first | rfl | (simp [errW_none, errW_some] <;> rfl) | (simp [*, errW_none, errW_some] <;> rfl), by repeat (first | (with_reducible first | exact HB.out | apply below_alloc | apply pw_below_drewN | apply below_drew1) | exact HB.out)⟩
    · rw [if_neg c4] at H
      have c4b0 : ((t232.length : Int) == 0) = false := beq_eq_false_iff_ne.mpr c4
      have c4b1 : ((t232.length : Int) != 0) = true := bne_iff_ne.mpr c4
      have c4b2 : ¬ (t232 = []) := fun h_ => c4 (by rw [h_]; rfl)
      obtain rfl := Option.some.inj H
      go_enter Try.func5, Try.ntmps5
      go_wp2_with (first | ((with_reducible refine gate_callee (f := 25) rfl ?_); refine goesL_ (some 4) rfl rfl Try.func25 (by kernel_rfl) rfl #[.slice none 0 0] rfl (by (try simp only [List.map_toArray, List.map_cons, List.map_nil]); first | done | rfl | (simp only [List.length_drop, List.length_take]; rfl)) ?_; (refine (plan_Encode.calls k _ _ ([] : List (List (S39))) t232 t233 _ ?side1 ?side2 A1.out).mono ?_); (case side1 => exact Kd.C_nil _ _); (case side2 => exact Nat.le_refl _); rintro e w12 ⟨v234, rfl, ho0, hb⟩; refine ⟨_, rfl, ?_⟩; have n0_ := Aside0.mk (Kd.R_lower ho0 (below_size (by repeat (first | (with_reducible first | exact HB.out | apply below_alloc | apply pw_below_drewN | apply below_drew1) | exact HB.out)))); have n1_ := Aside0.mk (below_step (by repeat (first | (with_reducible first | exact HB.out | apply below_alloc | apply pw_below_drewN | apply below_drew1) | exact HB.out)) hb); clear HB; have HO235 := n0_; have HB := n1_; clear n0_ n1_; (try clear hb); (try clear hb2); (try clear hk); (try clear hi); (try clear ho0)) | ((with_reducible refine gate_callee (f := 20) rfl ?_); refine goesL_ (some 7) rfl rfl Try.func20 (by kernel_rfl) rfl #[] rfl (by (try simp only [List.map_toArray, List.map_cons, List.map_nil]); first | done | rfl | (simp only [List.length_drop, List.length_take]; rfl)) ?_; (with_reducible refine (handofflaw10_planAlive.calls k  true _ A2.out).mono ?_); rintro e w13 ⟨rfl, hb⟩; refine ⟨_, rfl, ?_⟩; have n0_ := Aside0.mk (Kd.R_below (by (with_reducible repeat (first | apply Kd.R_alloc | apply Kd.R_drewN | apply Kd.R_drew)); exact HO235.out) hb); have n1_ := Aside0.mk (below_step (by repeat (first | (with_reducible first | exact HB.out | apply below_alloc | apply pw_below_drewN | apply below_drew1) | exact HB.out)) hb); clear HO235; clear HB; have HO235 := n0_; have HB := n1_; clear n0_ n1_; (try clear hb); (try clear hb2); (try clear hk); (try clear hi); obtain ⟨Ao14, co14, eo14⟩ := Kd.R_slice HO235.out; subst eo14))
      go_ret
      exact ⟨by first | rfl | (simp [errW_none, errW_some] <;> rfl) | (simp [*, errW_none, errW_some] <;> rfl), by repeat (first | (with_reducible first | exact HB.out | apply below_alloc | apply pw_below_drewN | apply below_drew1) | exact HB.out)⟩
  · replace c3 := Bool.eq_false_iff.mpr c3
    subst c3
    have H1 : (some false) = some r := by rw [if_neg (show ¬ (false = true) by decide)] at H; exact H
    clear H
    have H := H1
    clear H1
    obtain rfl := Option.some.inj H
    go_enter Try.func5, Try.ntmps5
    go_wp2_with (first | ((with_reducible refine gate_callee (f := 25) rfl ?_); refine goesL_ (some 4) rfl rfl Try.func25 (by kernel_rfl) rfl #[.slice none 0 0] rfl (by (try simp only [List.map_toArray, List.map_cons, List.map_nil]); first | done | rfl | (simp only [List.length_drop, List.length_take]; rfl)) ?_; (refine (plan_Encode.calls k _ _ ([] : List (List (S39))) t232 t233 _ ?side1 ?side2 A1.out).mono ?_); (case side1 => exact Kd.C_nil _ _); (case side2 => exact Nat.le_refl _); rintro e w15 ⟨v234, rfl, ho0, hb⟩; refine ⟨_, rfl, ?_⟩; have n0_ := Aside0.mk (Kd.R_lower ho0 (below_size (by repeat (first | (with_reducible first | exact HB.out | apply below_alloc | apply pw_below_drewN | apply below_drew1) | exact HB.out)))); have n1_ := Aside0.mk (below_step (by repeat (first | (with_reducible first | exact HB.out | apply below_alloc | apply pw_below_drewN | apply below_drew1) | exact HB.out)) hb); clear HB; have HO235 := n0_; have HB := n1_; clear n0_ n1_; (try clear hb); (try clear hb2); (try clear hk); (try clear hi); (try clear ho0)) | ((with_reducible refine gate_callee (f := 20) rfl ?_); refine goesL_ (some 7) rfl rfl Try.func20 (by kernel_rfl) rfl #[] rfl (by (try simp only [List.map_toArray, List.map_cons, List.map_nil]); first | done | rfl | (simp only [List.length_drop, List.length_take]; rfl)) ?_; (with_reducible refine (handofflaw10_planAlive.calls k  false _ A2.out).mono ?_); rintro e w16 ⟨rfl, hb⟩; refine ⟨_, rfl, ?_⟩; have n0_ := Aside0.mk (Kd.R_below (by (with_reducible repeat (first | apply Kd.R_alloc | apply Kd.R_drewN | apply Kd.R_drew)); exact HO235.out) hb); have n1_ := Aside0.mk (below_step (by repeat (first | (with_reducible first | exact HB.out | apply below_alloc | apply pw_below_drewN | apply below_drew1) | exact HB.out)) hb); clear HO235; clear HB; have HO235 := n0_; have HB := n1_; clear n0_ n1_; (try clear hb); (try clear hb2); (try clear hk); (try clear hi)))
    go_ret
    exact ⟨by first | rfl | (simp [errW_none, errW_some] <;> rfl) | (simp [*, errW_none, errW_some] <;> rfl), by repeat (first | (with_reducible first | exact HB.out | apply below_alloc | apply pw_below_drewN | apply below_drew1) | exact HB.out)⟩

/-- THE ONE PURE STATEMENT of handofflaw10_PlanNames: yours. -/
def handofflaw10_PlanNames.Pure : Prop := ∃ k, handofflaw10_PlanNames.f k  = some true
theorem handofflaw10_PlanNames.walk (P : handofflaw10_PlanNames.Pure)  (w : World)  :
    Calls Try.prog 5 #[] w fun e w' => e = .returned (.bool true) ∧ Below w.heap.size w w' := by
  obtain ⟨k, h⟩ := P  
  refine (handofflaw10_PlanNames.calls k  true w h).mono ?_
  rintro e w' ⟨rfl, hd⟩
  exact ⟨rfl, hd⟩

end Go.Proofs.Ytjmpaeckpbpclaa.PPlN
