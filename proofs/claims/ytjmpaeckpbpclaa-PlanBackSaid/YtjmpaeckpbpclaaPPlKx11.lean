-- Out of the translation, by a program of this session.
import Derived.Test.YtjmpaeckpbpclaaWShort
import Derived.Test.YtjmpaeckpbpclaaPPlKx0
import Derived.Test.YtjmpaeckpbpclaaPPlKx2
import Derived.Test.YtjmpaeckpbpclaaPPlKx10
namespace Go.Proofs.Ytjmpaeckpbpclaa.PPlK
open Go.RowKit Go.Proofs.YtjmpaeckpbpclaaW.PrintWords Go.Proofs.YtjmpaeckpbpclaaW.PrintLast Go.Proofs.YtjmpaeckpbpclaaW.PrintMore
attribute [local go_sem] max2_int min2_int max_two min_two max_three min_three max_four min_four   -- for this text's walks alone
set_option linter.unusedVariables false
set_option linter.unusedSimpArgs false

/-! ### plan_put: function 68 -/
mutual
def plan_put.j0 : Nat → List Int → Int → Int → Int → Int → List (S116) → Bool → Bool → Bool → Bool → Bool → Option (List Int)
  | 0, _, _, _, _, _, _, _, _, _, _, _ => none
  | k + 1, x0, x183000, x183001, x183002, x183003, x183004, x183005, x191000, x191001, x191002, x191003 => if x191001 = true then (if x0.length < 140737488355328 then (plan_put.j1 k (x0 ++ [(x183002) % 256]) x183000 x183001 x183002 x183003 x183004 x183005 x191000 x191001 x191002 x191003) else (none)) else (plan_put.j1 k x0 x183000 x183001 x183002 x183003 x183004 x183005 x191000 x191001 x191002 x191003)
def plan_put.j1 : Nat → List Int → Int → Int → Int → Int → List (S116) → Bool → Bool → Bool → Bool → Bool → Option (List Int)
  | 0, _, _, _, _, _, _, _, _, _, _, _ => none
  | k + 1, x0, x183000, x183001, x183002, x183003, x183004, x183005, x191000, x191001, x191002, x191003 => if x191002 = true then (if x0.length < 140737488355328 then (plan_put.j2 k (x0 ++ [(x183003) % 256]) x183000 x183001 x183002 x183003 x183004 x183005 x191000 x191001 x191002 x191003) else (none)) else (plan_put.j2 k x0 x183000 x183001 x183002 x183003 x183004 x183005 x191000 x191001 x191002 x191003)
def plan_put.j2 : Nat → List Int → Int → Int → Int → Int → List (S116) → Bool → Bool → Bool → Bool → Bool → Option (List Int)
  | 0, _, _, _, _, _, _, _, _, _, _, _ => none
  | k + 1, x0, x183000, x183001, x183002, x183003, x183004, x183005, x191000, x191001, x191002, x191003 => if x191003 = true then ((plan_bit.f x183005).bind fun t200 => ((some (([((x183004.length : Int)) % 256, t200] : List Int) : List Int)).bind fun y201 => (if x0.length + y201.length < 140737488355328 then (plan_put.l0 k (x0 ++ y201) x183004 (x183004.length : Int) 0) else (none)))) else (some x0)
def plan_put.l0 : Nat → List Int → List (S116) → Int → Int → Option (List Int)
  | 0, _, _, _, _ => none
  | k + 1, x0, x57, x58, x59 => if x59 < x58 then (if 0 ≤ x59 then (if x59 < (x57.length : Int) then ((plan_bit.f ((rd_T116 x57 x59).f0)).bind fun t209 => ((some (([t209, ((rd_T116 x57 x59).f1) % 256] : List Int) : List Int)).bind fun y210 => (if x0.length + y210.length < 140737488355328 then ((some (x0 ++ y210 : List Int)).bind fun y213 => (if (rd_T116 x57 x59).f0 = true then (if y213.length < 140737488355328 then (plan_put.l0 k (y213 ++ [((rd_T116 x57 x59).f2) % 256]) x57 x58 (wrap64 (x59 + 1))) else (none)) else (plan_put.l0 k y213 x57 x58 (wrap64 (x59 + 1))))) else (none)))) else (none)) else (none)) else (some x0)
end
def plan_put.f (k : Nat) (l0 : List Int) (a1_0 : Int) (a1_1 : Int) (a1_2 : Int) (a1_3 : Int) (l1_4 : List (S116)) (a1_5 : Bool) : Option (List Int) := if l0.length < 140737488355328 then ((some (l0 ++ [(wrap64 (a1_0 - 1)) % 256] : List Int)).bind fun y183 => ((plan_fields.f a1_0).bind fun bt186 => (if bt186.1 = true then (if y183.length < 140737488355328 then (plan_put.j0 k (y183 ++ [(a1_1) % 256]) a1_0 a1_1 a1_2 a1_3 l1_4 a1_5 bt186.1 bt186.2.1 bt186.2.2.1 bt186.2.2.2) else (none)) else (plan_put.j0 k y183 a1_0 a1_1 a1_2 a1_3 l1_4 a1_5 bt186.1 bt186.2.1 bt186.2.2.1 bt186.2.2.2)))) else (none)
theorem plan_put.mono_l : ∀ k, (∀ y0 y1 y2 y3 y4 y5 y6 y7 y8 y9 y10, LeO (plan_put.j0 k y0 y1 y2 y3 y4 y5 y6 y7 y8 y9 y10) (plan_put.j0 (k + 1) y0 y1 y2 y3 y4 y5 y6 y7 y8 y9 y10)) ∧ (∀ y0 y1 y2 y3 y4 y5 y6 y7 y8 y9 y10, LeO (plan_put.j1 k y0 y1 y2 y3 y4 y5 y6 y7 y8 y9 y10) (plan_put.j1 (k + 1) y0 y1 y2 y3 y4 y5 y6 y7 y8 y9 y10)) ∧ (∀ y0 y1 y2 y3 y4 y5 y6 y7 y8 y9 y10, LeO (plan_put.j2 k y0 y1 y2 y3 y4 y5 y6 y7 y8 y9 y10) (plan_put.j2 (k + 1) y0 y1 y2 y3 y4 y5 y6 y7 y8 y9 y10)) ∧ (∀ y0 y1 y2 y3, LeO (plan_put.l0 k y0 y1 y2 y3) (plan_put.l0 (k + 1) y0 y1 y2 y3))
 | 0 => ⟨fun _ _ _ _ _ _ _ _ _ _ _ r h => by simp [plan_put.j0] at h, fun _ _ _ _ _ _ _ _ _ _ _ r h => by simp [plan_put.j1] at h, fun _ _ _ _ _ _ _ _ _ _ _ r h => by simp [plan_put.j2] at h, fun _ _ _ _ r h => by simp [plan_put.l0] at h⟩
 | k + 1 => by
  obtain ⟨ih0, ih1, ih2, ih3⟩ := plan_put.mono_l k
  refine ⟨?_, ?_, ?_, ?_⟩
  all_goals intros
  all_goals first | unfold plan_put.j0 | unfold plan_put.j1 | unfold plan_put.j2 | unfold plan_put.l0
  all_goals (repeat' first | with_reducible first | apply ih0 | apply ih1 | apply ih2 | apply ih3 | exact LeO.refl _ | exact LeO.none _ | refine LeO.ite ?_ ?_ | refine LeO.bind ?_ (fun _ => ?_) | apply ih0 | apply ih1 | apply ih2 | apply ih3 | exact LeO.none _ | refine LeO.ite ?_ ?_ | refine LeO.bind ?_ (fun _ => ?_))
theorem plan_put.mono : ∀ a0 a1 a2 a3 a4 a5 a6 k, LeO (plan_put.f k a0 a1 a2 a3 a4 a5 a6) (plan_put.f (k + 1) a0 a1 a2 a3 a4 a5 a6) := by
 intro a0 a1 a2 a3 a4 a5 a6 k
 obtain ⟨ih0, ih1, ih2, ih3⟩ := plan_put.mono_l k
 unfold plan_put.f
 repeat' first | with_reducible first | apply ih0 | apply ih1 | apply ih2 | apply ih3 | exact LeO.refl _ | exact LeO.none _ | refine LeO.ite ?_ ?_ | refine LeO.bind ?_ (fun _ => ?_) | apply ih0 | apply ih1 | apply ih2 | apply ih3 | exact LeO.none _ | refine LeO.ite ?_ ?_ | refine LeO.bind ?_ (fun _ => ?_)
def plan_put.T11 : Bool × List (List Nat × List Nat) := (true, [([], []), ([], []), ([1], [1]), ([2], [2]), ([3], [3]), ([], []), ([5], [5]), ([6], [6]), ([4, 7], [4, 7]), ([0, 8, 7], [0, 8]), ([9, 9, 0, 1, 2, 3, 4, 5, 6, 7, 8, 9], [0, 9])])
def plan_put.B11 : List Nat := [0, 0, 2, 6, 14, 0, 32, 96, 254, 511, 1023]
theorem plan_put.tab11 : rtab .any (opsOf Try.f68 11) = plan_put.T11 := by kernel_rfl
theorem plan_put.bits11 : waitsOk plan_put.T11.2 plan_put.B11 = true := by kernel_rfl
def plan_put.T15 : Bool × List (List Nat × List Nat) := (true, [([], []), ([], []), ([1], [1]), ([2], [2]), ([], []), ([4], [4]), ([5], [5]), ([3, 6], [3, 6]), ([0, 7, 3], [0, 7]), ([8, 8, 0, 1, 2, 3, 4, 5, 6, 7, 8], [0, 8])])
def plan_put.B15 : List Nat := [0, 0, 2, 6, 0, 16, 48, 126, 255, 511]
theorem plan_put.tab15 : rtab .any (opsOf Try.f68 15) = plan_put.T15 := by kernel_rfl
theorem plan_put.bits15 : waitsOk plan_put.T15.2 plan_put.B15 = true := by kernel_rfl
set_option maxHeartbeats 8000000 in
set_option maxRecDepth 100000 in
theorem plan_put.calls (k : Nat) (P0_ : Nat → Prop) (u9000_ : Value) (l0 : List Int) (a1_0 : Int) (a1_1 : Int) (a1_2 : Int) (a1_3 : Int) (A1_4 : Option Addr) (c1_4 : Nat) (l1_4 : List (S116)) (a1_5 : Bool) (r : List Int) (w0 w : World) (hB : Below w0.heap.size w0 w) (ho0 : Kd.R (Kd.int .u8) 5 w w0.heap.size P0_ u9000_ l0) (hr1_4 : ∀ W_, Kept w W_ (fun k_ => P0_ k_) → Kd.C k116 W_ A1_4 l1_4.length l1_4) (hc1_4 : l1_4.length ≤ c1_4) (h : plan_put.f k l0 a1_0 a1_1 a1_2 a1_3 l1_4 a1_5 = some r) :
  Calls Try.prog 68 #[u9000_, .agg #[.int .i64 a1_0, .int .i64 a1_1, .int .i64 a1_2, .int .i64 a1_3, .slice A1_4 l1_4.length c1_4, .bool a1_5]] w fun e w' => ∃ v0_ : Value, e = .returned (v0_) ∧ Kd.R (Kd.int .u8) 5 w' w0.heap.size (fun k_ => (P0_ k_ ∨ w.heap.size ≤ k_)) v0_ r ∧ Below w0.heap.size w0 w' ∧ Kept w w' (fun k_ => P0_ k_) := by
 have hu39 := Try.underlying39
 have hu113 := Try.underlying113
 have hu116 := Try.underlying116
 have HO0 := Aside0.mk (show Kd.R (Kd.int .u8) 5 w w0.heap.size (fun k_ => (P0_ k_ ∨ w.heap.size ≤ k_)) u9000_ l0 from Kd.R_mono ho0 (fun k_ hk => (.inl hk)))
 have HR1_4 := Aside0.mk hr1_4
 have HC1_4 := Aside0.mk hc1_4
 clear hr1_4 hc1_4
 have HK := Aside0.mk (Kept.refl w (fun k_ => P0_ k_))
 have HW0 := Aside0.mk hB.size
 have HB := Aside0.mk hB
 clear hB
 have H : (if l0.length < 140737488355328 then ((some (l0 ++ [(wrap64 (a1_0 - 1)) % 256] : List Int)).bind fun y183 => ((plan_fields.f a1_0).bind fun bt186 => (if bt186.1 = true then (if y183.length < 140737488355328 then (plan_put.j0 k (y183 ++ [(a1_1) % 256]) a1_0 a1_1 a1_2 a1_3 l1_4 a1_5 bt186.1 bt186.2.1 bt186.2.2.1 bt186.2.2.2) else (none)) else (plan_put.j0 k y183 a1_0 a1_1 a1_2 a1_3 l1_4 a1_5 bt186.1 bt186.2.1 bt186.2.2.1 bt186.2.2.2)))) else (none)) = some r := h
 clear h
 by_cases c3 : l0.length < 140737488355328
 ·rw [if_pos c3] at H
  have LMc3 := Aside0.mk c3
  clear c3
  obtain ⟨y183, hy183⟩ : ∃ y_ : List Int, y_ = (l0 ++ [(wrap64 (a1_0 - 1)) % 256]) := ⟨_, rfl⟩
  replace H : ((plan_fields.f a1_0).bind fun bt186 => (if bt186.1 = true then (if y183.length < 140737488355328 then (plan_put.j0 k (y183 ++ [(a1_1) % 256]) a1_0 a1_1 a1_2 a1_3 l1_4 a1_5 bt186.1 bt186.2.1 bt186.2.2.1 bt186.2.2.2) else (none)) else (plan_put.j0 k y183 a1_0 a1_1 a1_2 a1_3 l1_4 a1_5 bt186.1 bt186.2.1 bt186.2.2.1 bt186.2.2.2))) = some r := by first | (rw [hy183]; with_reducible exact H) | (have H2_ := (Option.bind_some _ _).symm.trans H; rw [hy183]; with_reducible exact H2_) | (have H2_ := (Option.bind_some _ _).symm.trans H; with_reducible exact H2_) | with_reducible exact H | (rw [hy183]; exact H) | exact H
  have Ny183 := Aside0.mk hy183
  clear hy183
  replace H := Option.bind_eq_some_iff.mp H
  obtain ⟨⟨t186, t187, t188, t189⟩, A40, H⟩ := H
  try dsimp only at H
  have A4 := Aside0.mk A40
  clear A40
  have HC5 := Aside0.mk H
  clear H
  go_enter Try.func68, Try.ntmps68
  go_upto_if 19 with (first | ((with_reducible refine gate_dst (N := 3) rfl ?_); refine box_event ?hg (N := 3) ?hd (cs := #[.int .i64 a1_0, .int .i64 a1_1, .int .i64 a1_2, .int .i64 a1_3, .slice A1_4 l1_4.length c1_4, .bool a1_5]) (t := 39) ?hr ?_; (case hd => rfl); (case hg => rfl); (case hr => first | (go_simp; done) | (go_simp; rfl)); intro gb182 hg w6 hbox hb; have n0_ := Aside0.mk (Kd.R_below (by exact Kd.R_w HO0.out) hb); have n1_ := Aside0.mk (Kept.below (S := (fun k_ => P0_ k_)) (by repeat (first | (with_reducible first | exact HK.out | apply kept_t) | exact HK.out)) hb); have n2_ := Aside0.mk (below_step (below_w HB.out) hb); have n3_ := Aside0.mk (hbox); have n4_ := Aside0.mk ((by rw [hg]; exact (by first | exact HK.out.1 | exact (show Kept w _ (fun k_ => P0_ k_) from by repeat (first | (with_reducible first | exact HK.out | apply kept_t) | exact HK.out)).1) : w.heap.size ≤ gb182)); have n5_ := Aside0.mk ((by rw [hg]; exact (below_size (below_w HB.out)) : w0.heap.size ≤ gb182)); clear HO0; clear HK; clear HB; have HO0 := n0_; have HK := n1_; have HB := n2_; have BK182 := n3_; have GW182 := n4_; have GE182 := n5_; clear n0_ n1_ n2_ n3_ n4_ n5_; clear hb hbox hg; have hcz7 := blk6 BK182.out) | ((with_reducible refine gate_builtin (b := .append) (xs := #[.tmp 8, .tmp 13]) rfl ?_); at_builtin; refine Kd.R_append (Kd.int .u8) (w0 := w0) w0.heap.size rfl (.tmp 8) (.tmp 13) 42 5 (.int .u8 0) 1 rfl Try.underlying42 info5 rfl (by decide) (by omega) u9000_ l0 ((wrap64 (a1_0 - 1)) % 256) [.int .u8 ((wrap64 (a1_0 - 1)) % 256)] (fun k_ => (P0_ k_ ∨ w.heap.size ≤ k_)) (fun _ => False) rfl rfl ?aP (fun _ hk => hk.elim) ?aF ?aO ?aB ?aS ?aL ?_; (case aP => exact rfl); (case aB => exact (by repeat (with_reducible first | exact HB.out | apply below_t | refine below_set ?_ GE182.out))); (case aF => exact (fun k_ hk => (.inr (Nat.le_trans (by first | exact HK.out.1 | exact (show Kept w _ (fun k_ => P0_ k_) from by repeat (first | (with_reducible first | exact HK.out | apply kept_t | refine Kept.setCell ?_ (.inr GW182.out) _) | exact HK.out)).1) hk)))); (case aO => exact (by exact Kd.R_w HO0.out)); (case aS => exact (below_size (by repeat (with_reducible first | exact HB.out | apply below_t | refine below_set ?_ GE182.out)))); (case aL => have := LMc3.out; omega); intro v184 w8 ho hb hg hat; rw [← Ny183.out] at ho; have n0_ := Aside0.mk (blk_grown (g := gb182) (o := .cells #[.int .i64 a1_0, .int .i64 a1_1, .int .i64 a1_2, .int .i64 a1_3, .slice A1_4 l1_4.length c1_4, .bool a1_5] 39 (0, 0)) (by exact blk_w BK182.out) hg (Kd.R_ne HO0.out BK182.out (by decide))); have n1_ := Aside0.mk (hb); have n2_ := Aside0.mk (Kept.of_grown (S := (fun k_ => P0_ k_)) hg (by repeat (first | (with_reducible first | exact HK.out | apply kept_t | refine Kept.setCell ?_ (.inr GW182.out) _) | exact HK.out)) (fun k_ e_ => (HO0.out.1 k_ e_))); have n3_ := Aside0.mk (ho); clear BK182; clear HB; clear HK; clear HO0; have BK182 := n0_; have HB := n1_; have HK := n2_; have HO185 := n3_; clear n0_ n1_ n2_ n3_; clear ho hb hg hat; have hcz9 := blk6 BK182.out) | ((with_reducible refine gate_callee (f := 62) rfl ?_); refine goesL_ (some 17) rfl rfl Try.func62 (by kernel_rfl) rfl #[.int .i64 a1_0] rfl (by (try simp only [List.map_toArray, List.map_cons, List.map_nil]); first | done | rfl | simp) ?_; (with_reducible refine (plan_fields.calls a1_0 t186 t187 t188 t189 _ A4.out).mono ?_); rintro e w10 ⟨rfl, hb⟩; refine ⟨_, rfl, ?_⟩; have n0_ := Aside0.mk (Kd.R_below (by exact Kd.R_w HO185.out) hb); have n1_ := Aside0.mk (blk_below (g := gb182) (o := .cells #[.int .i64 a1_0, .int .i64 a1_1, .int .i64 a1_2, .int .i64 a1_3, .slice A1_4 l1_4.length c1_4, .bool a1_5] 39 (0, 0)) (by exact blk_w BK182.out) hb); have n2_ := Aside0.mk (Kept.below (S := (fun k_ => P0_ k_)) (by repeat (first | (with_reducible first | exact HK.out | apply kept_t | refine Kept.setCell ?_ (.inr GW182.out) _) | exact HK.out)) hb); have n3_ := Aside0.mk (below_step (by repeat (with_reducible first | exact HB.out | apply below_t | refine below_set ?_ GE182.out)) hb); clear HO185; clear BK182; clear HK; clear HB; have HO185 := n0_; have BK182 := n1_; have HK := n2_; have HB := n3_; clear n0_ n1_ n2_ n3_; (try clear hb); (try clear hb2); (try clear hk); (try clear hi)) | ((with_reducible refine gate_dst (N := 5) rfl ?_); refine box_event ?hg (N := 5) ?hd (cs := #[.bool false, .bool false, .bool false, .bool false]) (t := 113) ?hr ?_; (case hd => rfl); (case hg => rfl); (case hr => first | (go_simp; done) | (go_simp; rfl)); intro gb190 hg w11 hbox hb; have n0_ := Aside0.mk (Kd.R_below (by exact Kd.R_w HO185.out) hb); have n1_ := Aside0.mk (blk_below (g := gb182) (o := .cells #[.int .i64 a1_0, .int .i64 a1_1, .int .i64 a1_2, .int .i64 a1_3, .slice A1_4 l1_4.length c1_4, .bool a1_5] 39 (0, 0)) (by exact blk_w BK182.out) hb); have n2_ := Aside0.mk (Kept.below (S := (fun k_ => P0_ k_)) (by repeat (first | (with_reducible first | exact HK.out | apply kept_t | refine Kept.setCell ?_ (.inr GW182.out) _) | exact HK.out)) hb); have n3_ := Aside0.mk (below_step (by repeat (with_reducible first | exact HB.out | apply below_t | refine below_set ?_ GE182.out)) hb); have n4_ := Aside0.mk (hbox); have n5_ := Aside0.mk ((by rw [hg]; exact (by first | exact HK.out.1 | exact (show Kept w _ (fun k_ => P0_ k_) from by repeat (first | (with_reducible first | exact HK.out | apply kept_t | refine Kept.setCell ?_ (.inr GW182.out) _) | exact HK.out)).1) : w.heap.size ≤ gb190)); have n6_ := Aside0.mk ((by rw [hg]; exact (below_size (by repeat (with_reducible first | exact HB.out | apply below_t | refine below_set ?_ GE182.out))) : w0.heap.size ≤ gb190)); have n7_ := Aside0.mk ((by rw [hg]; exact Nat.ne_of_lt (blk_lt (g := gb182) (o := .cells #[.int .i64 a1_0, .int .i64 a1_1, .int .i64 a1_2, .int .i64 a1_3, .slice A1_4 l1_4.length c1_4, .bool a1_5] 39 (0, 0)) (by exact blk_w BK182.out)) : gb182 ≠ gb190)); have n8_ := Aside0.mk ((by rw [hg]; exact Nat.ne_of_gt (blk_lt (g := gb182) (o := .cells #[.int .i64 a1_0, .int .i64 a1_1, .int .i64 a1_2, .int .i64 a1_3, .slice A1_4 l1_4.length c1_4, .bool a1_5] 39 (0, 0)) (by exact blk_w BK182.out)) : gb190 ≠ gb182)); clear HO185; clear BK182; clear HK; clear HB; have HO185 := n0_; have BK182 := n1_; have HK := n2_; have HB := n3_; have BK190 := n4_; have GW190 := n5_; have GE190 := n6_; have NB182_190 := n7_; have NB190_182 := n8_; clear n0_ n1_ n2_ n3_ n4_ n5_ n6_ n7_ n8_; clear hb hbox hg; have hnb12 := NB190_182.out; have hnc12 := NB182_190.out; have hcz13 := blk4 BK190.out))
  (try simp only [Act.put, List.setIfInBounds_toArray, List.set_cons_zero, List.set_cons_succ])
  go_cut [0] (fun v0 wc => ∃ (kq : Nat) (x0_4 : List Int), Aside0 (plan_put.j0 kq x0_4 a1_0 a1_1 a1_2 a1_3 l1_4 a1_5 t186 t187 t188 t189 = some r) ∧ Aside0 (kq ≤ k) ∧ Aside0 (Kd.R (Kd.int .u8) 5 wc w0.heap.size (fun k_ => (P0_ k_ ∨ w.heap.size ≤ k_)) v0 x0_4) ∧ Aside0 (wc.heap[gb182]? = some (.cells #[.int .i64 a1_0, .int .i64 a1_1, .int .i64 a1_2, .int .i64 a1_3, (.slice A1_4 l1_4.length c1_4), .bool a1_5] 39 (0, 0))) ∧ Aside0 (wc.heap[gb190]? = some (.cells #[.bool t186, .bool t187, .bool t188, .bool t189] 113 (0, 0))) ∧ Aside0 (Kept w wc (fun k_ => P0_ k_)) ∧ Aside0 (Below w0.heap.size w0 wc))
  case first =>
   have H := HC5.out
   clear HC5
   by_cases c14 : t186 = true
   ·subst c14
    have H1 : (if y183.length < 140737488355328 then (plan_put.j0 k (y183 ++ [(a1_1) % 256]) a1_0 a1_1 a1_2 a1_3 l1_4 a1_5 true t187 t188 t189) else (none)) = some r := by rw [if_pos rfl] at H; exact H
    clear H
    have H := H1
    clear H1
    by_cases c15 : y183.length < 140737488355328
    ·rw [if_pos c15] at H
     have LMc15 := Aside0.mk c15
     clear c15
     obtain ⟨y191, hy191⟩ : ∃ y_ : List Int, y_ = (y183 ++ [(a1_1) % 256]) := ⟨_, rfl⟩
     replace H : (plan_put.j0 k y191 a1_0 a1_1 a1_2 a1_3 l1_4 a1_5 true t187 t188 t189) = some r := by first | (rw [hy191]; with_reducible exact H) | (have H2_ := (Option.bind_some _ _).symm.trans H; rw [hy191]; with_reducible exact H2_) | (have H2_ := (Option.bind_some _ _).symm.trans H; with_reducible exact H2_) | with_reducible exact H | (rw [hy191]; exact H) | exact H
     have Ny191 := Aside0.mk hy191
     clear hy191
     have H' := Aside0.mk H
     clear H
     have hnb16 := NB182_190.out
     have hnc16 := NB190_182.out
     have hcz17 := blk6 BK182.out
     go_wp2_with (first | ((with_reducible refine gate_builtin (b := .append) (xs := #[.tmp 20, .tmp 24]) rfl ?_); at_builtin; refine Kd.R_append (Kd.int .u8) (w0 := w0) w0.heap.size rfl (.tmp 20) (.tmp 24) 42 5 (.int .u8 0) 1 rfl Try.underlying42 info5 rfl (by decide) (by omega) v184 y183 ((a1_1) % 256) [.int .u8 ((a1_1) % 256)] (fun k_ => (P0_ k_ ∨ w.heap.size ≤ k_)) (fun _ => False) rfl (by first | (go_simp; done) | (go_simp; rfl)) ?aP (fun _ hk => hk.elim) ?aF ?aO ?aB ?aS ?aL ?_; (case aP => exact rfl); (case aB => exact (by repeat (with_reducible first | exact HB.out | apply below_t | refine below_set ?_ GE182.out | refine below_set ?_ GE190.out))); (case aF => exact (fun k_ hk => (.inr (Nat.le_trans (show Kept w _ (fun k_ => P0_ k_) from by repeat (first | (with_reducible first | exact HK.out | apply kept_t | refine Kept.setCell ?_ (.inr GW182.out) _ | refine Kept.setCell ?_ (.inr GW190.out) _) | exact HK.out)).1 hk)))); (case aO => exact (by apply Kd.R_w; exact Kd.R_mono (Kd.R_far (p := ⟨gb190, 3, none⟩) (Kd.R_far (p := ⟨gb190, 2, none⟩) (Kd.R_far (p := ⟨gb190, 1, none⟩) (Kd.R_far (p := ⟨gb190, 0, none⟩) (Kd.R_types HO185.out BK190.out (by decide)) (fun _ hk => hk.2) (.bool true)) (fun _ hk => hk.2) (.bool t187)) (fun _ hk => hk.2) (.bool t188)) (fun _ hk => hk.2) (.bool t189)) (fun _ hk => hk.1))); (case aS => exact (below_size (by repeat (with_reducible first | exact HB.out | apply below_t | refine below_set ?_ GE182.out | refine below_set ?_ GE190.out)))); (case aL => have := LMc15.out; omega); intro v192 w18 ho hb hg hat; rw [← Ny191.out] at ho; have n0_ := Aside0.mk (blk_grown (g := gb182) (o := .cells #[.int .i64 a1_0, .int .i64 a1_1, .int .i64 a1_2, .int .i64 a1_3, .slice A1_4 l1_4.length c1_4, .bool a1_5] 39 (0, 0)) (by refine blk_w ?_; refine blk_far (blk_w ?_) NB182_190.out _; refine blk_far (blk_w ?_) NB182_190.out _; refine blk_far (blk_w ?_) NB182_190.out _; exact blk_far (blk_w BK182.out) NB182_190.out _) hg (Kd.R_ne HO185.out BK182.out (by decide))); have n1_ := Aside0.mk (blk_grown (g := gb190) (o := .cells #[.bool true, .bool t187, .bool t188, .bool t189] 113 (0, 0)) (by refine blk_w ?_; refine blk_put (cs := #[.bool true, .bool t187, .bool t188, .bool false]) ?_ 3 _ rfl; refine blk_w ?_; refine blk_put (cs := #[.bool true, .bool t187, .bool false, .bool false]) ?_ 2 _ rfl; refine blk_w ?_; refine blk_put (cs := #[.bool true, .bool false, .bool false, .bool false]) ?_ 1 _ rfl; refine blk_w ?_; refine blk_put (cs := #[.bool false, .bool false, .bool false, .bool false]) ?_ 0 _ rfl; exact blk_w BK190.out) hg (Kd.R_ne HO185.out BK190.out (by decide))); have n2_ := Aside0.mk (hb); have n3_ := Aside0.mk (Kept.of_grown (S := (fun k_ => P0_ k_)) hg (by repeat (first | (with_reducible first | exact HK.out | apply kept_t | refine Kept.setCell ?_ (.inr GW182.out) _ | refine Kept.setCell ?_ (.inr GW190.out) _) | exact HK.out)) (fun k_ e_ => (HO185.out.1 k_ e_))); have n4_ := Aside0.mk (ho); clear BK182; clear BK190; clear HB; clear HK; clear HO185; have BK182 := n0_; have BK190 := n1_; have HB := n2_; have HK := n3_; have HO193 := n4_; clear n0_ n1_ n2_ n3_ n4_; clear ho hb hg hat))
     go_meet
     case rel => exact ⟨_, (y191), H', ⟨by first | omega | exact Nat.le_refl _⟩, ⟨by exact Kd.R_w HO193.out⟩, ⟨by exact blk_w BK182.out⟩, ⟨by exact blk_w BK190.out⟩, ⟨by repeat (first | (with_reducible first | exact HK.out | apply kept_t | refine Kept.setCell ?_ (.inr GW182.out) _ | refine Kept.setCell ?_ (.inr GW190.out) _) | exact HK.out)⟩, ⟨by repeat (with_reducible first | exact HB.out | apply below_t | refine below_set ?_ GE182.out | refine below_set ?_ GE190.out)⟩⟩
    ·rw [if_neg c15] at H
     exact absurd H (by simp)
   ·replace c14 := Bool.eq_false_iff.mpr c14
    subst c14
    have H1 : (plan_put.j0 k y183 a1_0 a1_1 a1_2 a1_3 l1_4 a1_5 false t187 t188 t189) = some r := by rw [if_neg (show ¬ (false = true) by decide)] at H; exact H
    clear H
    have H := H1
    clear H1
    have H' := Aside0.mk H
    clear H
    go_wp2
    go_meet
    case rel => exact ⟨_, (y183), H', ⟨by first | omega | exact Nat.le_refl _⟩, ⟨by apply Kd.R_w; exact Kd.R_mono (Kd.R_far (p := ⟨gb190, 3, none⟩) (Kd.R_far (p := ⟨gb190, 2, none⟩) (Kd.R_far (p := ⟨gb190, 1, none⟩) (Kd.R_far (p := ⟨gb190, 0, none⟩) (Kd.R_types HO185.out BK190.out (by decide)) (fun _ hk => hk.2) (.bool false)) (fun _ hk => hk.2) (.bool t187)) (fun _ hk => hk.2) (.bool t188)) (fun _ hk => hk.2) (.bool t189)) (fun _ hk => hk.1)⟩, ⟨by refine blk_w ?_; refine blk_far (blk_w ?_) NB182_190.out _; refine blk_far (blk_w ?_) NB182_190.out _; refine blk_far (blk_w ?_) NB182_190.out _; exact blk_far (blk_w BK182.out) NB182_190.out _⟩, ⟨by refine blk_w ?_; refine blk_put (cs := #[.bool false, .bool t187, .bool t188, .bool false]) ?_ 3 _ rfl; refine blk_w ?_; refine blk_put (cs := #[.bool false, .bool t187, .bool false, .bool false]) ?_ 2 _ rfl; refine blk_w ?_; refine blk_put (cs := #[.bool false, .bool false, .bool false, .bool false]) ?_ 1 _ rfl; refine blk_w ?_; refine blk_put (cs := #[.bool false, .bool false, .bool false, .bool false]) ?_ 0 _ rfl; exact blk_w BK190.out⟩, ⟨by repeat (first | (with_reducible first | exact HK.out | apply kept_t | refine Kept.setCell ?_ (.inr GW182.out) _ | refine Kept.setCell ?_ (.inr GW190.out) _) | exact HK.out)⟩, ⟨by repeat (with_reducible first | exact HB.out | apply below_t | refine below_set ?_ GE182.out | refine below_set ?_ GE190.out)⟩⟩
  case rest =>
   clear HC5
   (try clear hcz13); (try clear hcz7); (try clear hcz9); (try clear hcz13); (try clear hcz7); (try clear hcz9)
   obtain ⟨kq, x0_4, HA, HJ4, HO_0, BK182, BK190, HK, HB⟩ := hcut
   cases kq with
   | zero => exact absurd HA.out (by simp [plan_put.j0])
   | succ kj4 =>
    have H := HA.out
    clear HA
    simp only [plan_put.j0] at H
    have HC19 := Aside0.mk H
    clear H
    have hnb20 := NB190_182.out
    have hnc20 := NB182_190.out
    have hcz21 := blk4 BK190.out
    go_upto_if 27 with (fail)
    go_cut [0] (fun v0 wc => ∃ (kq : Nat) (x0_18 : List Int), Aside0 (plan_put.j1 kq x0_18 a1_0 a1_1 a1_2 a1_3 l1_4 a1_5 t186 t187 t188 t189 = some r) ∧ Aside0 (kq ≤ kj4) ∧ Aside0 (Kd.R (Kd.int .u8) 5 wc w0.heap.size (fun k_ => (P0_ k_ ∨ w.heap.size ≤ k_)) v0 x0_18) ∧ Aside0 (wc.heap[gb182]? = some (.cells #[.int .i64 a1_0, .int .i64 a1_1, .int .i64 a1_2, .int .i64 a1_3, (.slice A1_4 l1_4.length c1_4), .bool a1_5] 39 (0, 0))) ∧ Aside0 (wc.heap[gb190]? = some (.cells #[.bool t186, .bool t187, .bool t188, .bool t189] 113 (0, 0))) ∧ Aside0 (Kept w wc (fun k_ => P0_ k_)) ∧ Aside0 (Below w0.heap.size w0 wc))
    case first =>
     have H := HC19.out
     clear HC19
     by_cases c22 : t187 = true
     ·subst c22
      have H1 : (if x0_4.length < 140737488355328 then (plan_put.j1 kj4 (x0_4 ++ [(a1_2) % 256]) a1_0 a1_1 a1_2 a1_3 l1_4 a1_5 t186 true t188 t189) else (none)) = some r := by rw [if_pos rfl] at H; exact H
      clear H
      have H := H1
      clear H1
      by_cases c23 : x0_4.length < 140737488355328
      ·rw [if_pos c23] at H
       have LMc23 := Aside0.mk c23
       clear c23
       obtain ⟨y194, hy194⟩ : ∃ y_ : List Int, y_ = (x0_4 ++ [(a1_2) % 256]) := ⟨_, rfl⟩
       replace H : (plan_put.j1 kj4 y194 a1_0 a1_1 a1_2 a1_3 l1_4 a1_5 t186 true t188 t189) = some r := by first | (rw [hy194]; with_reducible exact H) | (have H2_ := (Option.bind_some _ _).symm.trans H; rw [hy194]; with_reducible exact H2_) | (have H2_ := (Option.bind_some _ _).symm.trans H; with_reducible exact H2_) | with_reducible exact H | (rw [hy194]; exact H) | exact H
       have Ny194 := Aside0.mk hy194
       clear hy194
       have H' := Aside0.mk H
       clear H
       have hnb24 := NB182_190.out
       have hnc24 := NB190_182.out
       have hcz25 := blk6 BK182.out
       go_wp2_with (first | ((with_reducible refine gate_builtin (b := .append) (xs := #[.tmp 28, .tmp 32]) rfl ?_); at_builtin; refine Kd.R_append (Kd.int .u8) (w0 := w0) w0.heap.size rfl (.tmp 28) (.tmp 32) 42 5 (.int .u8 0) 1 rfl Try.underlying42 info5 rfl (by decide) (by omega) u0 x0_4 ((a1_2) % 256) [.int .u8 ((a1_2) % 256)] (fun k_ => (P0_ k_ ∨ w.heap.size ≤ k_)) (fun _ => False) rfl rfl ?aP (fun _ hk => hk.elim) ?aF ?aO ?aB ?aS ?aL ?_; (case aP => exact rfl); (case aB => exact (by repeat (with_reducible first | exact HB.out | apply below_t | refine below_set ?_ GE182.out | refine below_set ?_ GE190.out))); (case aF => exact (fun k_ hk => (.inr (Nat.le_trans (by first | exact HK.out.1 | exact (show Kept w _ (fun k_ => P0_ k_) from by repeat (first | (with_reducible first | exact HK.out | apply kept_t | refine Kept.setCell ?_ (.inr GW182.out) _ | refine Kept.setCell ?_ (.inr GW190.out) _) | exact HK.out)).1) hk)))); (case aO => exact (by exact Kd.R_w HO_0.out)); (case aS => exact (below_size (by repeat (with_reducible first | exact HB.out | apply below_t | refine below_set ?_ GE182.out | refine below_set ?_ GE190.out)))); (case aL => have := LMc23.out; omega); intro v195 w26 ho hb hg hat; rw [← Ny194.out] at ho; have n0_ := Aside0.mk (blk_grown (g := gb182) (o := .cells #[.int .i64 a1_0, .int .i64 a1_1, .int .i64 a1_2, .int .i64 a1_3, .slice A1_4 l1_4.length c1_4, .bool a1_5] 39 (0, 0)) (by exact blk_w BK182.out) hg (Kd.R_ne HO_0.out BK182.out (by decide))); have n1_ := Aside0.mk (blk_grown (g := gb190) (o := .cells #[.bool t186, .bool true, .bool t188, .bool t189] 113 (0, 0)) (by exact blk_w BK190.out) hg (Kd.R_ne HO_0.out BK190.out (by decide))); have n2_ := Aside0.mk (hb); have n3_ := Aside0.mk (Kept.of_grown (S := (fun k_ => P0_ k_)) hg (by repeat (first | (with_reducible first | exact HK.out | apply kept_t | refine Kept.setCell ?_ (.inr GW182.out) _ | refine Kept.setCell ?_ (.inr GW190.out) _) | exact HK.out)) (fun k_ e_ => (HO_0.out.1 k_ e_))); have n4_ := Aside0.mk (ho); clear BK182; clear BK190; clear HB; clear HK; clear HO_0; have BK182 := n0_; have BK190 := n1_; have HB := n2_; have HK := n3_; have HO196 := n4_; clear n0_ n1_ n2_ n3_ n4_; clear ho hb hg hat))
       go_meet
       case rel => exact ⟨_, (y194), H', ⟨by have := HJ4.out; first | omega | exact Nat.le_refl _⟩, ⟨by exact Kd.R_w HO196.out⟩, ⟨by exact blk_w BK182.out⟩, ⟨by exact blk_w BK190.out⟩, ⟨by repeat (first | (with_reducible first | exact HK.out | apply kept_t | refine Kept.setCell ?_ (.inr GW182.out) _ | refine Kept.setCell ?_ (.inr GW190.out) _) | exact HK.out)⟩, ⟨by repeat (with_reducible first | exact HB.out | apply below_t | refine below_set ?_ GE182.out | refine below_set ?_ GE190.out)⟩⟩
      ·rw [if_neg c23] at H
       exact absurd H (by simp)
     ·replace c22 := Bool.eq_false_iff.mpr c22
      subst c22
      have H1 : (plan_put.j1 kj4 x0_4 a1_0 a1_1 a1_2 a1_3 l1_4 a1_5 t186 false t188 t189) = some r := by rw [if_neg (show ¬ (false = true) by decide)] at H; exact H
      clear H
      have H := H1
      clear H1
      have H' := Aside0.mk H
      clear H
      go_wp2
      go_meet
      case rel => exact ⟨_, (x0_4), H', ⟨by have := HJ4.out; first | omega | exact Nat.le_refl _⟩, ⟨by exact Kd.R_w HO_0.out⟩, ⟨by exact blk_w BK182.out⟩, ⟨by exact blk_w BK190.out⟩, ⟨by repeat (first | (with_reducible first | exact HK.out | apply kept_t | refine Kept.setCell ?_ (.inr GW182.out) _ | refine Kept.setCell ?_ (.inr GW190.out) _) | exact HK.out)⟩, ⟨by repeat (with_reducible first | exact HB.out | apply below_t | refine below_set ?_ GE182.out | refine below_set ?_ GE190.out)⟩⟩
    case rest =>
     clear HC19
     (try clear hcz13); (try clear hcz21); (try clear hcz7); (try clear hcz9); (try clear hcz13); (try clear hcz21); (try clear hcz7); (try clear hcz9)
     obtain ⟨kq, x0_18, HA, HJ18, HO_0, BK182, BK190, HK, HB⟩ := hcut
     cases kq with
     | zero => exact absurd HA.out (by simp [plan_put.j1])
     | succ kj18 =>
      have H := HA.out
      clear HA
      simp only [plan_put.j1] at H
      have HC27 := Aside0.mk H
      clear H
      have hnb28 := NB190_182.out
      have hnc28 := NB182_190.out
      have hcz29 := blk4 BK190.out
      go_upto_if 35 with (fail)
      go_cut [0] (fun v0 wc => ∃ (kq : Nat) (x0_26 : List Int), Aside0 (plan_put.j2 kq x0_26 a1_0 a1_1 a1_2 a1_3 l1_4 a1_5 t186 t187 t188 t189 = some r) ∧ Aside0 (kq ≤ kj18) ∧ Aside0 (Kd.R (Kd.int .u8) 5 wc w0.heap.size (fun k_ => (P0_ k_ ∨ w.heap.size ≤ k_)) v0 x0_26) ∧ Aside0 (wc.heap[gb182]? = some (.cells #[.int .i64 a1_0, .int .i64 a1_1, .int .i64 a1_2, .int .i64 a1_3, (.slice A1_4 l1_4.length c1_4), .bool a1_5] 39 (0, 0))) ∧ Aside0 (wc.heap[gb190]? = some (.cells #[.bool t186, .bool t187, .bool t188, .bool t189] 113 (0, 0))) ∧ Aside0 (Kept w wc (fun k_ => P0_ k_)) ∧ Aside0 (Below w0.heap.size w0 wc))
      case first =>
       have H := HC27.out
       clear HC27
       by_cases c30 : t188 = true
       ·subst c30
        have H1 : (if x0_18.length < 140737488355328 then (plan_put.j2 kj18 (x0_18 ++ [(a1_3) % 256]) a1_0 a1_1 a1_2 a1_3 l1_4 a1_5 t186 t187 true t189) else (none)) = some r := by rw [if_pos rfl] at H; exact H
        clear H
        have H := H1
        clear H1
        by_cases c31 : x0_18.length < 140737488355328
        ·rw [if_pos c31] at H
         have LMc31 := Aside0.mk c31
         clear c31
         obtain ⟨y197, hy197⟩ : ∃ y_ : List Int, y_ = (x0_18 ++ [(a1_3) % 256]) := ⟨_, rfl⟩
         replace H : (plan_put.j2 kj18 y197 a1_0 a1_1 a1_2 a1_3 l1_4 a1_5 t186 t187 true t189) = some r := by first | (rw [hy197]; with_reducible exact H) | (have H2_ := (Option.bind_some _ _).symm.trans H; rw [hy197]; with_reducible exact H2_) | (have H2_ := (Option.bind_some _ _).symm.trans H; with_reducible exact H2_) | with_reducible exact H | (rw [hy197]; exact H) | exact H
         have Ny197 := Aside0.mk hy197
         clear hy197
         have H' := Aside0.mk H
         clear H
         have hnb32 := NB182_190.out
         have hnc32 := NB190_182.out
         have hcz33 := blk6 BK182.out
         go_wp2_with (first | ((with_reducible refine gate_builtin (b := .append) (xs := #[.tmp 36, .tmp 40]) rfl ?_); at_builtin; refine Kd.R_append (Kd.int .u8) (w0 := w0) w0.heap.size rfl (.tmp 36) (.tmp 40) 42 5 (.int .u8 0) 1 rfl Try.underlying42 info5 rfl (by decide) (by omega) u0 x0_18 ((a1_3) % 256) [.int .u8 ((a1_3) % 256)] (fun k_ => (P0_ k_ ∨ w.heap.size ≤ k_)) (fun _ => False) rfl rfl ?aP (fun _ hk => hk.elim) ?aF ?aO ?aB ?aS ?aL ?_; (case aP => exact rfl); (case aB => exact (by repeat (with_reducible first | exact HB.out | apply below_t | refine below_set ?_ GE182.out | refine below_set ?_ GE190.out))); (case aF => exact (fun k_ hk => (.inr (Nat.le_trans (by first | exact HK.out.1 | exact (show Kept w _ (fun k_ => P0_ k_) from by repeat (first | (with_reducible first | exact HK.out | apply kept_t | refine Kept.setCell ?_ (.inr GW182.out) _ | refine Kept.setCell ?_ (.inr GW190.out) _) | exact HK.out)).1) hk)))); (case aO => exact (by exact Kd.R_w HO_0.out)); (case aS => exact (below_size (by repeat (with_reducible first | exact HB.out | apply below_t | refine below_set ?_ GE182.out | refine below_set ?_ GE190.out)))); (case aL => have := LMc31.out; omega); intro v198 w34 ho hb hg hat; rw [← Ny197.out] at ho; have n0_ := Aside0.mk (blk_grown (g := gb182) (o := .cells #[.int .i64 a1_0, .int .i64 a1_1, .int .i64 a1_2, .int .i64 a1_3, .slice A1_4 l1_4.length c1_4, .bool a1_5] 39 (0, 0)) (by exact blk_w BK182.out) hg (Kd.R_ne HO_0.out BK182.out (by decide))); have n1_ := Aside0.mk (blk_grown (g := gb190) (o := .cells #[.bool t186, .bool t187, .bool true, .bool t189] 113 (0, 0)) (by exact blk_w BK190.out) hg (Kd.R_ne HO_0.out BK190.out (by decide))); have n2_ := Aside0.mk (hb); have n3_ := Aside0.mk (Kept.of_grown (S := (fun k_ => P0_ k_)) hg (by repeat (first | (with_reducible first | exact HK.out | apply kept_t | refine Kept.setCell ?_ (.inr GW182.out) _ | refine Kept.setCell ?_ (.inr GW190.out) _) | exact HK.out)) (fun k_ e_ => (HO_0.out.1 k_ e_))); have n4_ := Aside0.mk (ho); clear BK182; clear BK190; clear HB; clear HK; clear HO_0; have BK182 := n0_; have BK190 := n1_; have HB := n2_; have HK := n3_; have HO199 := n4_; clear n0_ n1_ n2_ n3_ n4_; clear ho hb hg hat))
         go_meet
         case rel => exact ⟨_, (y197), H', ⟨by have := HJ4.out; have := HJ18.out; first | omega | exact Nat.le_refl _⟩, ⟨by exact Kd.R_w HO199.out⟩, ⟨by exact blk_w BK182.out⟩, ⟨by exact blk_w BK190.out⟩, ⟨by repeat (first | (with_reducible first | exact HK.out | apply kept_t | refine Kept.setCell ?_ (.inr GW182.out) _ | refine Kept.setCell ?_ (.inr GW190.out) _) | exact HK.out)⟩, ⟨by repeat (with_reducible first | exact HB.out | apply below_t | refine below_set ?_ GE182.out | refine below_set ?_ GE190.out)⟩⟩
        ·rw [if_neg c31] at H
         exact absurd H (by simp)
       ·replace c30 := Bool.eq_false_iff.mpr c30
        subst c30
        have H1 : (plan_put.j2 kj18 x0_18 a1_0 a1_1 a1_2 a1_3 l1_4 a1_5 t186 t187 false t189) = some r := by rw [if_neg (show ¬ (false = true) by decide)] at H; exact H
        clear H
        have H := H1
        clear H1
        have H' := Aside0.mk H
        clear H
        go_wp2
        go_meet
        case rel => exact ⟨_, (x0_18), H', ⟨by have := HJ4.out; have := HJ18.out; first | omega | exact Nat.le_refl _⟩, ⟨by exact Kd.R_w HO_0.out⟩, ⟨by exact blk_w BK182.out⟩, ⟨by exact blk_w BK190.out⟩, ⟨by repeat (first | (with_reducible first | exact HK.out | apply kept_t | refine Kept.setCell ?_ (.inr GW182.out) _ | refine Kept.setCell ?_ (.inr GW190.out) _) | exact HK.out)⟩, ⟨by repeat (with_reducible first | exact HB.out | apply below_t | refine below_set ?_ GE182.out | refine below_set ?_ GE190.out)⟩⟩
      case rest =>
       clear HC27
       (try clear hcz13); (try clear hcz21); (try clear hcz29); (try clear hcz7); (try clear hcz9); (try clear hcz13); (try clear hcz21); (try clear hcz29); (try clear hcz7); (try clear hcz9)
       obtain ⟨kq, x0_26, HA, HJ26, HO_0, BK182, BK190, HK, HB⟩ := hcut
       cases kq with
       | zero => exact absurd HA.out (by simp [plan_put.j2])
       | succ kj26 =>
        have H := HA.out
        clear HA
        simp only [plan_put.j2] at H
        by_cases c35 : t189 = true
        ·subst c35
         have H1 : ((plan_bit.f a1_5).bind fun t200 => ((some (([((l1_4.length : Int)) % 256, t200] : List Int) : List Int)).bind fun y201 => (if x0_26.length + y201.length < 140737488355328 then (plan_put.l0 kj26 (x0_26 ++ y201) l1_4 (l1_4.length : Int) 0) else (none)))) = some r := by rw [if_pos rfl] at H; exact H
         clear H
         have H := H1
         clear H1
         replace H := Option.bind_eq_some_iff.mp H
         obtain ⟨t200, A360, H⟩ := H
         try dsimp only at H
         have A36 := Aside0.mk A360
         clear A360
         obtain ⟨y201, hy201⟩ : ∃ y_ : List Int, y_ = (([((l1_4.length : Int)) % 256, t200] : List Int)) := ⟨_, rfl⟩
         replace H : (if x0_26.length + y201.length < 140737488355328 then (plan_put.l0 kj26 (x0_26 ++ y201) l1_4 (l1_4.length : Int) 0) else (none)) = some r := by first | (rw [hy201]; with_reducible exact H) | (have H2_ := (Option.bind_some _ _).symm.trans H; rw [hy201]; with_reducible exact H2_) | (have H2_ := (Option.bind_some _ _).symm.trans H; with_reducible exact H2_) | with_reducible exact H | (rw [hy201]; exact H) | exact H
         have Ny201 := Aside0.mk hy201
         clear hy201
         by_cases c37 : x0_26.length + y201.length < 140737488355328
         ·rw [if_pos c37] at H
          have LMc37 := Aside0.mk c37
          clear c37
          obtain ⟨y204, hy204⟩ : ∃ y_ : List Int, y_ = (x0_26 ++ y201) := ⟨_, rfl⟩
          replace H : (plan_put.l0 kj26 y204 l1_4 (l1_4.length : Int) 0) = some r := by first | (rw [hy204]; with_reducible exact H) | (have H2_ := (Option.bind_some _ _).symm.trans H; rw [hy204]; with_reducible exact H2_) | (have H2_ := (Option.bind_some _ _).symm.trans H; with_reducible exact H2_) | with_reducible exact H | (rw [hy204]; exact H) | exact H
          have Ny204 := Aside0.mk hy204
          clear hy204
          have H' := Aside0.mk H
          clear H
          have hnb38 := NB190_182.out
          have hnc38 := NB182_190.out
          have hcz39 := blk4 BK190.out
          try go_wp2
          have n0_ := Aside0.mk (Kd.R_drew HO_0.out)
          have n1_ := Aside0.mk (blk_drew BK182.out)
          have n2_ := Aside0.mk (blk_drew BK190.out)
          have n3_ := Aside0.mk (Kept.drew HK.out)
          have n4_ := Aside0.mk (below_drew1 HB.out)
          clear HO_0
          clear BK182
          clear BK190
          clear HK
          clear HB
          have HO_0 := n0_
          have BK182 := n1_
          have BK190 := n2_
          have HK := n3_
          have HB := n4_
          clear n0_ n1_ n2_ n3_ n4_
          refine start_ (n := 11) (S := fun w' => w'.cell? ⟨gb182, 0, none⟩ = some (.int .i64 a1_0) ∧ w'.cell? ⟨gb182, 1, none⟩ = some (.int .i64 a1_1) ∧ w'.cell? ⟨gb182, 2, none⟩ = some (.int .i64 a1_2) ∧ w'.cell? ⟨gb182, 3, none⟩ = some (.int .i64 a1_3) ∧ w'.cell? ⟨gb182, 4, none⟩ = some (.slice A1_4 l1_4.length c1_4) ∧ w'.cell? ⟨gb182, 5, none⟩ = some (.bool a1_5)) (ds := []) #[false, false, false, false, false, false, false, false, false, false, false] (by kernel_rfl) rfl rfl ⟨(blk_cell BK182.out 0).trans rfl, (blk_cell BK182.out 1).trans rfl, (blk_cell BK182.out 2).trans rfl, (blk_cell BK182.out 3).trans rfl, (blk_cell BK182.out 4).trans rfl, (blk_cell BK182.out 5).trans rfl⟩ (fun hHeld => ?_); refine with_tabW plan_put.tab11 plan_put.bits11 (fun HT_ HW_ => ?_)
          generalize wc.drew = w40 at HO_0 BK182 BK190 HK HB hHeld ⊢
          refine pure_ (i := 0) (N := some 46) (v := ?_) (a' := ?_) #[true, false, false, false, false, false, false, false, false, false, false] rfl rfl (any_of HT_.out (by kernel_rfl)) (fun _ _ _ h => h) (Or.inl ⟨by rfl, ?_⟩) ?_ ?_
          rotate_left
          ·intro w'
           go_simp
           with_reducible rfl
          rotate_left
          ·simp only [Act.put, List.setIfInBounds_toArray, List.set_cons_zero, List.set_cons_succ, i64_w, i32_w]
           rfl
          refine pure_ (i := 1) (N := some 47) (v := ?_) (a' := ?_) #[true, true, false, false, false, false, false, false, false, false, false] rfl rfl (any_of HT_.out (by kernel_rfl)) (fun _ _ _ h => h) (Or.inl ⟨by rfl, ?_⟩) ?_ ?_
          rotate_left
          ·intro w'
           go_simp
           with_reducible rfl
          rotate_left
          ·simp only [Act.put, List.setIfInBounds_toArray, List.set_cons_zero, List.set_cons_succ, i64_w, i32_w]
           rfl
          refine pure_ (i := 5) (N := some 51) (v := ?_) (a' := ?_) #[true, true, false, false, false, true, false, false, false, false, false] rfl rfl (any_of HT_.out (by kernel_rfl)) (fun _ _ _ h => h) (Or.inl ⟨by rfl, ?_⟩) ?_ ?_
          rotate_left
          ·intro w'
           go_simp
           with_reducible rfl
          rotate_left
          ·simp only [Act.put, List.setIfInBounds_toArray, List.set_cons_zero, List.set_cons_succ, i64_w, i32_w]
           rfl
          refine take_ (i := 2) (N := some 48) (v := ?_) (a' := ?_) #[true, true, true, false, false, true, false, false, false, false, false] rfl rfl (take_ofW HT_.out HW_.out (by kernel_rfl)) (fun _ _ _ h => h) (Or.inl ⟨by rfl, ?_⟩) hHeld ?_ ?_
          rotate_left
          ·rintro w' ⟨s0, s1, s2, s3, s4, s5⟩
           go_simp
           with_reducible rfl
          rotate_left
          ·simp only [Act.put, List.setIfInBounds_toArray, List.set_cons_zero, List.set_cons_succ, i64_w, i32_w]
           rfl
          refine pure_ (i := 3) (N := some 49) (v := ?_) (a' := ?_) #[true, true, true, true, false, true, false, false, false, false, false] rfl rfl (any_of HT_.out (by kernel_rfl)) (fun _ _ _ h => h) (Or.inl ⟨by rfl, ?_⟩) ?_ ?_
          rotate_left
          ·intro w'
           go_simp
           with_reducible rfl
          rotate_left
          ·simp only [Act.put, List.setIfInBounds_toArray, List.set_cons_zero, List.set_cons_succ, i64_w, i32_w]
           rfl
          refine pure_ (i := 4) (N := some 50) (v := ?_) (a' := ?_) #[true, true, true, true, true, true, false, false, false, false, false] rfl rfl (any_of HT_.out (by kernel_rfl)) (fun _ _ _ h => h) (Or.inl ⟨by rfl, ?_⟩) ?_ ?_
          rotate_left
          ·intro w'
           go_simp
           with_reducible rfl
          rotate_left
          ·simp only [Act.put, List.setIfInBounds_toArray, List.set_cons_zero, List.set_cons_succ, i64_w, i32_w]
           rfl
          refine take_ (i := 6) (N := some 52) (v := ?_) (a' := ?_) #[true, true, true, true, true, true, true, false, false, false, false] rfl rfl (take_ofW HT_.out HW_.out (by kernel_rfl)) (fun _ _ _ h => h) (Or.inl ⟨by rfl, ?_⟩) hHeld ?_ ?_
          rotate_left
          ·rintro w' ⟨s0, s1, s2, s3, s4, s5⟩
           go_simp
           with_reducible rfl
          rotate_left
          ·simp only [Act.put, List.setIfInBounds_toArray, List.set_cons_zero, List.set_cons_succ, i64_w, i32_w]
           rfl
          refine one_ (i := 7) (N := some 53) #[true, true, true, true, true, true, true, true, false, false, false] rfl rfl (one_of HT_.out (by kernel_rfl)) (by decide) (fun K hK => ?_)
          refine goes_ Try.func96 (by kernel_rfl) rfl #[.bool a1_5] (by rfl) rfl rfl (by (try simp only [List.map_toArray, List.map_cons, List.map_nil]); first | done | rfl | simp) ?_
          with_reducible refine (plan_bit.calls a1_5 t200 _ A36.out).mono ?_
          rintro e w' ⟨rfl, ⟨nd, rfl⟩⟩
          refine ⟨_, rfl, ?_⟩
          refine hK.out _ _ ⟨(blk_cell BK182.out 0).trans rfl, (blk_cell BK182.out 1).trans rfl, (blk_cell BK182.out 2).trans rfl, (blk_cell BK182.out 3).trans rfl, (blk_cell BK182.out 4).trans rfl, (blk_cell BK182.out 5).trans rfl⟩ (fun hHeld => ?_)
          clear hK K
          refine norm_ (a' := ?_) ?_ ?_
          rotate_left
          ·show Act.put _ (some 53) _ = _
           simp only [Act.put, List.setIfInBounds_toArray, List.set_cons_zero, List.set_cons_succ, i64_w, i32_w]
           rfl
          refine one_ (i := 8) (N := some 54) #[true, true, true, true, true, true, true, true, true, false, false] rfl rfl (one_of HT_.out (by kernel_rfl)) (by decide) (fun K hK => ?_)
          refine Kd.R_lit_step (Kd.int .u8) _ 5 ?hg (N := 54) ?hd (xs := ([((l1_4.length : Int)) % 256, t200] : List Int)) (inner := [.int .u8 (((l1_4.length : Int)) % 256), .int .u8 t200]) (ok := fun _ => True) (okp := fun _ => True) ?hr ?hp (fun _ hk => hk) trivial (Below.refl _ _) (Nat.le_refl _) (by simp) ?_; (case hd => rfl); (case hg => rfl); (case hr => first | (go_simp; done) | (go_simp; rfl)); (case hp => exact (Reps.one (show Kd.M (Kd.int .u8) _ _ _ (((l1_4.length : Int)) % 256) [.int .u8 (((l1_4.length : Int)) % 256)] from rfl) (Reps.one (show Kd.M (Kd.int .u8) _ _ _ t200 [.int .u8 t200] from rfl) (Reps.none _ _))))
          intro v202 w41 ho42 hb hg_ hnew_
          clear hg_ hnew_
          (first | rw [← Ny201.out] at ho42 | (simp only [Int.reduceToNat] at ho42; rw [← Ny201.out] at ho42))
          have n0_ := Aside0.mk (Kd.R_elder' (by exact Kd.R_w HO_0.out) (Kd.R_base ho42) hb)
          have n1_ := Aside0.mk (Kd.R_lower (Kd.R_new' (Kd.R_newM (M := fun k_ => (P0_ k_ ∨ w.heap.size ≤ k_)) ho42 (by first | exact HK.out.1 | exact (show Kept w _ (fun k_ => P0_ k_) from by repeat (first | (with_reducible first | exact HK.out | apply kept_t | refine Kept.setCell ?_ (.inr GW182.out) _ | refine Kept.setCell ?_ (.inr GW190.out) _) | exact HK.out)).1) (fun k_ h_ => .inr h_)) (Kd.R_lt (by exact Kd.R_w HO_0.out))) (below_size (by repeat (with_reducible first | exact HB.out | apply below_t | refine below_set ?_ GE182.out | refine below_set ?_ GE190.out))))
          have n2_ := Aside0.mk (blk_below (g := gb182) (o := .cells #[.int .i64 a1_0, .int .i64 a1_1, .int .i64 a1_2, .int .i64 a1_3, .slice A1_4 l1_4.length c1_4, .bool a1_5] 39 (0, 0)) (by exact blk_w BK182.out) hb)
          have n3_ := Aside0.mk (blk_below (g := gb190) (o := .cells #[.bool t186, .bool t187, .bool t188, .bool true] 113 (0, 0)) (by exact blk_w BK190.out) hb)
          have n4_ := Aside0.mk (Kept.below (S := (fun k_ => P0_ k_)) (by repeat (first | (with_reducible first | exact HK.out | apply kept_t | refine Kept.setCell ?_ (.inr GW182.out) _ | refine Kept.setCell ?_ (.inr GW190.out) _) | exact HK.out)) hb)
          have n5_ := Aside0.mk (below_step (by repeat (with_reducible first | exact HB.out | apply below_t | refine below_set ?_ GE182.out | refine below_set ?_ GE190.out)) hb)
          clear HO_0
          clear BK182
          clear BK190
          clear HK
          clear HB
          have HO_0 := n0_
          have HO203 := n1_
          have BK182 := n2_
          have BK190 := n3_
          have HK := n4_
          have HB := n5_
          clear n0_ n1_ n2_ n3_ n4_ n5_
          clear hb ho42
          obtain ⟨Ao44, co44, eo44⟩ := Kd.R_slice HO203.out
          (first | subst eo44 | (injection eo44 with f1_ f2_ f3_; have f4_ := f1_.symm; have f5_ := f3_.symm; clear f1_ f2_ f3_; subst f4_; subst f5_))
          refine hK.out _ _ ⟨(blk_cell BK182.out 0).trans rfl, (blk_cell BK182.out 1).trans rfl, (blk_cell BK182.out 2).trans rfl, (blk_cell BK182.out 3).trans rfl, (blk_cell BK182.out 4).trans rfl, (blk_cell BK182.out 5).trans rfl⟩ (fun hHeld => ?_)
          clear hK K
          refine norm_ (a' := ?_) ?_ ?_
          rotate_left
          ·show Act.put _ (some 54) _ = _
           simp only [Act.put, List.setIfInBounds_toArray, List.set_cons_zero, List.set_cons_succ, i64_w, i32_w]
           rfl
          refine one_ (i := 9) (N := some 55) #[true, true, true, true, true, true, true, true, true, true, false] rfl rfl (one_of HT_.out (by kernel_rfl)) (by decide) (fun K hK => ?_)
          refine Kd.R_append_rows_step (Kd.int .u8) (w0 := w0) w0.heap.size (by rfl) (.tmp 46) (.tmp 54) 42 5 (.int .u8 0) 1 rfl Try.underlying42 info5 rfl (by decide) (by omega) u0 x0_26 y201 _ _ _ (fun k_ => (P0_ k_ ∨ w.heap.size ≤ k_) ∧ some k_ ≠ (.slice Ao44 y201.length co44 : Value).ownBlock) (fun _ => False) rfl rfl ?aO ?aR (fun _ _ h => h) (fun _ h => h.elim) ?aF ?aB ?aS ?aL ?_
          (case aR => exact Kd.C_w (Kd.R_reads' HO203.out).2.2)
          (case aB => exact (by repeat (with_reducible first | exact HB.out | apply below_t | refine below_set ?_ GE182.out | refine below_set ?_ GE190.out)))
          (case aF => exact (fun k_ hk => ⟨(.inr (Nat.le_trans (by first | exact HK.out.1 | exact (show Kept w _ (fun k_ => P0_ k_) from by repeat (first | (with_reducible first | exact HK.out | apply kept_t | refine Kept.setCell ?_ (.inr GW182.out) _ | refine Kept.setCell ?_ (.inr GW190.out) _) | exact HK.out)).1) hk)), Kd.fresh' (Kd.R_lt (by exact Kd.R_w HO203.out)) k_ hk⟩))
          (case aO => exact (by exact Kd.R_w HO_0.out))
          (case aS => exact (below_size (by repeat (with_reducible first | exact HB.out | apply below_t | refine below_set ?_ GE182.out | refine below_set ?_ GE190.out))))
          (case aL => have := LMc37.out; omega)
          intro v205 w43 ho hb hg hat
          rw [← Ny204.out] at ho
          have n0_ := Aside0.mk (blk_grown (g := gb182) (o := .cells #[.int .i64 a1_0, .int .i64 a1_1, .int .i64 a1_2, .int .i64 a1_3, .slice A1_4 l1_4.length c1_4, .bool a1_5] 39 (0, 0)) (by exact blk_w BK182.out) hg (Kd.R_ne HO_0.out BK182.out (by decide)))
          have n1_ := Aside0.mk (blk_grown (g := gb190) (o := .cells #[.bool t186, .bool t187, .bool t188, .bool true] 113 (0, 0)) (by exact blk_w BK190.out) hg (Kd.R_ne HO_0.out BK190.out (by decide)))
          have n2_ := Aside0.mk (Kd.R_after (ok := (fun k_ => (P0_ k_ ∨ w.heap.size ≤ k_))) (by apply Kd.R_w; exact Kd.R_mono HO203.out (fun _ hk => ⟨hk.1.1, hk.2⟩)) hg hat)
          have n3_ := Aside0.mk (hb)
          have n4_ := Aside0.mk (Kept.of_grown (S := (fun k_ => P0_ k_)) hg (by repeat (first | (with_reducible first | exact HK.out | apply kept_t | refine Kept.setCell ?_ (.inr GW182.out) _ | refine Kept.setCell ?_ (.inr GW190.out) _) | exact HK.out)) (fun k_ e_ => (HO_0.out.1 k_ e_).1))
          have n5_ := Aside0.mk (ho)
          clear BK182
          clear BK190
          clear HO203
          clear HB
          clear HK
          clear HO_0
          have BK182 := n0_
          have BK190 := n1_
          have HO203 := n2_
          have HB := n3_
          have HK := n4_
          have HO206 := n5_
          clear n0_ n1_ n2_ n3_ n4_ n5_
          clear ho hb hg hat
          refine hK.out _ _ ⟨(blk_cell BK182.out 0).trans rfl, (blk_cell BK182.out 1).trans rfl, (blk_cell BK182.out 2).trans rfl, (blk_cell BK182.out 3).trans rfl, (blk_cell BK182.out 4).trans rfl, (blk_cell BK182.out 5).trans rfl⟩ (fun hHeld => ?_)
          clear hK K
          refine norm_ (a' := ?_) ?_ ?_
          rotate_left
          ·show Act.put _ (some 55) _ = _
           simp only [Act.put, List.setIfInBounds_toArray, List.set_cons_zero, List.set_cons_succ, i64_w, i32_w]
           rfl
          refine pure_ (i := 10) (N := some 0) (v := ?_) (a' := ?_) #[true, true, true, true, true, true, true, true, true, true, true] rfl rfl (any_of HT_.out (by kernel_rfl)) (fun _ _ _ h => h) (Or.inl ⟨by rfl, ?_⟩) ?_ ?_
          rotate_left
          ·intro w'
           go_simp
           with_reducible rfl
          rotate_left
          ·simp only [Act.put, List.setIfInBounds_toArray, List.set_cons_zero, List.set_cons_succ, i64_w, i32_w]
           rfl
          refine done_ (done_of HT_.out (by kernel_rfl)) ?_
          have hcz45 := blk6 BK182.out
          try go_wp2
          go_loopg [0, 59] kj26 (fun kq v0 v59 w' => ∃ (x0_4 : List Int) (x59_4 : Int), v59 = .int .i64 x59_4 ∧ Aside0 (plan_put.l0 kq x0_4 l1_4 (l1_4.length : Int) x59_4 = some r) ∧ Aside0 (kq ≤ kj26) ∧ Aside0 (Kd.R (Kd.int .u8) 5 w' w0.heap.size (fun k_ => (P0_ k_ ∨ w.heap.size ≤ k_)) v0 x0_4) ∧ Aside0 (w'.heap[gb182]? = some (.cells #[.int .i64 a1_0, .int .i64 a1_1, .int .i64 a1_2, .int .i64 a1_3, (.slice A1_4 l1_4.length c1_4), .bool a1_5] 39 (0, 0))) ∧ Aside0 (w'.heap[gb190]? = some (.cells #[.bool t186, .bool t187, .bool t188, .bool true] 113 (0, 0))) ∧ Aside0 (Kept w w' (fun k_ => P0_ k_)) ∧ Aside0 (Below w0.heap.size w0 w'))
          case atStart => exact ⟨(y204), (0), (by first | rfl | (simp; done) | (simp [*]; done)), H', ⟨Nat.le_refl _⟩, ⟨by apply Kd.R_w; exact Kd.R_mono HO206.out (fun _ hk => hk.1)⟩, ⟨by exact blk_w BK182.out⟩, ⟨by exact blk_w BK190.out⟩, ⟨by repeat (first | (with_reducible first | exact HK.out | apply kept_t | refine Kept.setCell ?_ (.inr GW182.out) _ | refine Kept.setCell ?_ (.inr GW190.out) _) | exact HK.out)⟩, ⟨by repeat (with_reducible first | exact HB.out | apply below_t | refine below_set ?_ GE182.out | refine below_set ?_ GE190.out)⟩⟩
          case round =>
           clear H'
           (try clear c35); (try clear hcz13); (try clear hcz21); (try clear hcz29); (try clear hcz39); (try clear hcz45); (try clear hcz7); (try clear hcz9); (try clear hcz13); (try clear hcz21); (try clear hcz29); (try clear hcz39); (try clear hcz45); (try clear hcz7); (try clear hcz9)
           obtain ⟨x0_4, x59_4, rfl, HA, HK4, HO_0, BK182, BK190, HK, HB⟩ := hrel
           cases gk with
           | zero => exact absurd HA.out (by simp [plan_put.l0])
           | succ k4 =>
            have H := HA.out
            clear HA
            simp only [plan_put.l0] at H
            by_cases c46 : x59_4 < (l1_4.length : Int)
            ·rw [if_pos c46] at H
             have c46b0 : decide (x59_4 < (l1_4.length : Int)) = true := decide_eq_true c46
             clear c46
             by_cases c47 : 0 ≤ x59_4
             ·rw [if_pos c47] at H
              have c47b0 : decide (0 ≤ x59_4) = true := decide_eq_true c47
              clear c47
              by_cases c48 : x59_4 < (l1_4.length : Int)
              ·rw [if_pos c48] at H
               have c48b0 : decide (x59_4 < (l1_4.length : Int)) = true := decide_eq_true c48
               clear c48
               replace H := Option.bind_eq_some_iff.mp H
               obtain ⟨t209, A490, H⟩ := H
               try dsimp only at H
               have A49 := Aside0.mk A490
               clear A490
               obtain ⟨y210, hy210⟩ : ∃ y_ : List Int, y_ = (([t209, ((rd_T116 l1_4 x59_4).f1) % 256] : List Int)) := ⟨_, rfl⟩
               replace H : (if x0_4.length + y210.length < 140737488355328 then ((some (x0_4 ++ y210 : List Int)).bind fun y213 => (if (rd_T116 l1_4 x59_4).f0 = true then (if y213.length < 140737488355328 then (plan_put.l0 k4 (y213 ++ [((rd_T116 l1_4 x59_4).f2) % 256]) l1_4 (l1_4.length : Int) (wrap64 (x59_4 + 1))) else (none)) else (plan_put.l0 k4 y213 l1_4 (l1_4.length : Int) (wrap64 (x59_4 + 1))))) else (none)) = some r := by first | (rw [hy210]; with_reducible exact H) | (have H2_ := (Option.bind_some _ _).symm.trans H; rw [hy210]; with_reducible exact H2_) | (have H2_ := (Option.bind_some _ _).symm.trans H; with_reducible exact H2_) | with_reducible exact H | (rw [hy210]; exact H) | exact H
               have Ny210 := Aside0.mk hy210
               clear hy210
               by_cases c50 : x0_4.length + y210.length < 140737488355328
               ·rw [if_pos c50] at H
                have LMc50 := Aside0.mk c50
                clear c50
                obtain ⟨y213, hy213⟩ : ∃ y_ : List Int, y_ = (x0_4 ++ y210) := ⟨_, rfl⟩
                replace H : (if (rd_T116 l1_4 x59_4).f0 = true then (if y213.length < 140737488355328 then (plan_put.l0 k4 (y213 ++ [((rd_T116 l1_4 x59_4).f2) % 256]) l1_4 (l1_4.length : Int) (wrap64 (x59_4 + 1))) else (none)) else (plan_put.l0 k4 y213 l1_4 (l1_4.length : Int) (wrap64 (x59_4 + 1)))) = some r := by first | (rw [hy213]; with_reducible exact H) | (have H2_ := (Option.bind_some _ _).symm.trans H; rw [hy213]; with_reducible exact H2_) | (have H2_ := (Option.bind_some _ _).symm.trans H; with_reducible exact H2_) | with_reducible exact H | (rw [hy213]; exact H) | exact H
                have Ny213 := Aside0.mk hy213
                clear hy213
                obtain ⟨bq51, hbq51⟩ : ∃ b_ : Bool, b_ = ((rd_T116 l1_4 x59_4).f0) := ⟨_, rfl⟩
                replace H : (if bq51 = true then (if y213.length < 140737488355328 then (plan_put.l0 k4 (y213 ++ [((rd_T116 l1_4 x59_4).f2) % 256]) l1_4 (l1_4.length : Int) (wrap64 (x59_4 + 1))) else (none)) else (plan_put.l0 k4 y213 l1_4 (l1_4.length : Int) (wrap64 (x59_4 + 1)))) = some r := by rw [← hbq51] at H; exact H
                have Nbq51 := Aside0.mk hbq51
                clear hbq51
                by_cases c52 : bq51 = true
                ·subst c52
                 have H1 : (if y213.length < 140737488355328 then (plan_put.l0 k4 (y213 ++ [((rd_T116 l1_4 x59_4).f2) % 256]) l1_4 (l1_4.length : Int) (wrap64 (x59_4 + 1))) else (none)) = some r := by rw [if_pos rfl] at H; exact H
                 clear H
                 have H := H1
                 clear H1
                 by_cases c53 : y213.length < 140737488355328
                 ·rw [if_pos c53] at H
                  have LMc53 := Aside0.mk c53
                  clear c53
                  obtain ⟨y216, hy216⟩ : ∃ y_ : List Int, y_ = (y213 ++ [((rd_T116 l1_4 x59_4).f2) % 256]) := ⟨_, rfl⟩
                  replace H : (plan_put.l0 k4 y216 l1_4 (l1_4.length : Int) (wrap64 (x59_4 + 1))) = some r := by first | (rw [hy216]; with_reducible exact H) | (have H2_ := (Option.bind_some _ _).symm.trans H; rw [hy216]; with_reducible exact H2_) | (have H2_ := (Option.bind_some _ _).symm.trans H; with_reducible exact H2_) | with_reducible exact H | (rw [hy216]; exact H) | exact H
                  have Ny216 := Aside0.mk hy216
                  clear hy216
                  have H' := Aside0.mk H
                  clear H
                  have p207 : 0 ≤ (x59_4 : Int) := of_decide_eq_true (by first | (with_reducible assumption) | assumption)
                  have q207 : x59_4 < (l1_4.length : Int) := of_decide_eq_true (by first | (with_reducible assumption) | assumption)
                  obtain ⟨ad207, e207, hx207_0, hx207_1, hx207_2⟩ := at_T116 (Kd.C_kept_now HR1_4.out HK.out) x59_4 p207 q207
                  (try rw [← Nbq51.out] at hx207_0)
                  cases e207
                  replace p207 := eq_true p207
                  replace q207 := eq_true q207
                  try go_wp2_with (first | ((with_reducible refine gate_dst (N := 7) rfl ?_); refine box_event ?hg (N := 7) ?hd (cs := #[.bool false, .int .i64 0, .int .i64 0]) (t := 116) ?hr ?_; (case hd => rfl); (case hg => rfl); (case hr => first | (go_simp; done) | (go_simp; rfl)); intro gb208 hg w54 hbox hb; have n0_ := Aside0.mk (Kd.R_below (by exact Kd.R_w HO_0.out) hb); have n1_ := Aside0.mk (blk_below (g := gb182) (o := .cells #[.int .i64 a1_0, .int .i64 a1_1, .int .i64 a1_2, .int .i64 a1_3, .slice (some ad207) l1_4.length c1_4, .bool a1_5] 39 (0, 0)) (by exact blk_w BK182.out) hb); have n2_ := Aside0.mk (blk_below (g := gb190) (o := .cells #[.bool t186, .bool t187, .bool t188, .bool true] 113 (0, 0)) (by exact blk_w BK190.out) hb); have n3_ := Aside0.mk (Kept.below (S := (fun k_ => P0_ k_)) (by repeat (first | (with_reducible first | exact HK.out | apply kept_t | refine Kept.setCell ?_ (.inr GW182.out) _ | refine Kept.setCell ?_ (.inr GW190.out) _) | exact HK.out)) hb); have n4_ := Aside0.mk (below_step (by repeat (with_reducible first | exact HB.out | apply below_t | refine below_set ?_ GE182.out | refine below_set ?_ GE190.out)) hb); have n5_ := Aside0.mk (hbox); have n6_ := Aside0.mk ((by rw [hg]; exact (by first | exact HK.out.1 | exact (show Kept w _ (fun k_ => P0_ k_) from by repeat (first | (with_reducible first | exact HK.out | apply kept_t | refine Kept.setCell ?_ (.inr GW182.out) _ | refine Kept.setCell ?_ (.inr GW190.out) _) | exact HK.out)).1) : w.heap.size ≤ gb208)); have n7_ := Aside0.mk ((by rw [hg]; exact (below_size (by repeat (with_reducible first | exact HB.out | apply below_t | refine below_set ?_ GE182.out | refine below_set ?_ GE190.out))) : w0.heap.size ≤ gb208)); have n8_ := Aside0.mk ((by rw [hg]; exact Nat.ne_of_lt (blk_lt (g := gb182) (o := .cells #[.int .i64 a1_0, .int .i64 a1_1, .int .i64 a1_2, .int .i64 a1_3, .slice (some ad207) l1_4.length c1_4, .bool a1_5] 39 (0, 0)) (by exact blk_w BK182.out)) : gb182 ≠ gb208)); have n9_ := Aside0.mk ((by rw [hg]; exact Nat.ne_of_gt (blk_lt (g := gb182) (o := .cells #[.int .i64 a1_0, .int .i64 a1_1, .int .i64 a1_2, .int .i64 a1_3, .slice (some ad207) l1_4.length c1_4, .bool a1_5] 39 (0, 0)) (by exact blk_w BK182.out)) : gb208 ≠ gb182)); have n10_ := Aside0.mk ((by rw [hg]; exact Nat.ne_of_lt (blk_lt (g := gb190) (o := .cells #[.bool t186, .bool t187, .bool t188, .bool true] 113 (0, 0)) (by exact blk_w BK190.out)) : gb190 ≠ gb208)); have n11_ := Aside0.mk ((by rw [hg]; exact Nat.ne_of_gt (blk_lt (g := gb190) (o := .cells #[.bool t186, .bool t187, .bool t188, .bool true] 113 (0, 0)) (by exact blk_w BK190.out)) : gb208 ≠ gb190)); clear HO_0; clear BK182; clear BK190; clear HK; clear HB; have HO_0 := n0_; have BK182 := n1_; have BK190 := n2_; have HK := n3_; have HB := n4_; have BK208 := n5_; have GW208 := n6_; have GE208 := n7_; have NB182_208 := n8_; have NB208_182 := n9_; have NB190_208 := n10_; have NB208_190 := n11_; clear n0_ n1_ n2_ n3_ n4_ n5_ n6_ n7_ n8_ n9_ n10_ n11_; clear hb hbox hg; have hnb55 := NB208_182.out; have hnc55 := NB182_208.out; have hnb56 := NB208_190.out; have hnc56 := NB190_208.out; have hcz57 := blk3 BK208.out))
                  have n0_ : Aside0 (Kd.R (Kd.int .u8) 5 (((w54.setCell ⟨gb208, 0, none⟩ (.bool true)).setCell ⟨gb208, 1, none⟩ (.int .i64 ((rd_T116 l1_4 x59_4).f1))).setCell ⟨gb208, 2, none⟩ (.int .i64 ((rd_T116 l1_4 x59_4).f2))) w0.heap.size (fun k_ => (P0_ k_ ∨ w.heap.size ≤ k_)) u0 x0_4) := ⟨by apply Kd.R_w; exact Kd.R_mono (Kd.R_far (p := ⟨gb208, 2, none⟩) (Kd.R_far (p := ⟨gb208, 1, none⟩) (Kd.R_far (p := ⟨gb208, 0, none⟩) (Kd.R_types HO_0.out BK208.out (by decide)) (fun _ hk => hk.2) (.bool true)) (fun _ hk => hk.2) (.int .i64 ((rd_T116 l1_4 x59_4).f1))) (fun _ hk => hk.2) (.int .i64 ((rd_T116 l1_4 x59_4).f2))) (fun _ hk => hk.1)⟩
                  have n1_ : Aside0 ((((w54.setCell ⟨gb208, 0, none⟩ (.bool true)).setCell ⟨gb208, 1, none⟩ (.int .i64 ((rd_T116 l1_4 x59_4).f1))).setCell ⟨gb208, 2, none⟩ (.int .i64 ((rd_T116 l1_4 x59_4).f2))).heap[gb182]? = some (.cells #[.int .i64 a1_0, .int .i64 a1_1, .int .i64 a1_2, .int .i64 a1_3, .slice (some ad207) l1_4.length c1_4, .bool a1_5] 39 (0, 0))) := ⟨by refine blk_w ?_; refine blk_far (blk_w ?_) NB182_208.out _; refine blk_far (blk_w ?_) NB182_208.out _; exact blk_far (blk_w BK182.out) NB182_208.out _⟩
                  have n2_ : Aside0 ((((w54.setCell ⟨gb208, 0, none⟩ (.bool true)).setCell ⟨gb208, 1, none⟩ (.int .i64 ((rd_T116 l1_4 x59_4).f1))).setCell ⟨gb208, 2, none⟩ (.int .i64 ((rd_T116 l1_4 x59_4).f2))).heap[gb190]? = some (.cells #[.bool t186, .bool t187, .bool t188, .bool true] 113 (0, 0))) := ⟨by refine blk_w ?_; refine blk_far (blk_w ?_) NB190_208.out _; refine blk_far (blk_w ?_) NB190_208.out _; exact blk_far (blk_w BK190.out) NB190_208.out _⟩
                  have n3_ : Aside0 ((((w54.setCell ⟨gb208, 0, none⟩ (.bool true)).setCell ⟨gb208, 1, none⟩ (.int .i64 ((rd_T116 l1_4 x59_4).f1))).setCell ⟨gb208, 2, none⟩ (.int .i64 ((rd_T116 l1_4 x59_4).f2))).heap[gb208]? = some (.cells #[.bool true, .int .i64 ((rd_T116 l1_4 x59_4).f1), .int .i64 ((rd_T116 l1_4 x59_4).f2)] 116 (0, 0))) := ⟨by refine blk_w ?_; refine blk_put (cs := #[.bool true, .int .i64 ((rd_T116 l1_4 x59_4).f1), .int .i64 0]) ?_ 2 _ rfl; refine blk_w ?_; refine blk_put (cs := #[.bool true, .int .i64 0, .int .i64 0]) ?_ 1 _ rfl; refine blk_w ?_; refine blk_put (cs := #[.bool false, .int .i64 0, .int .i64 0]) ?_ 0 _ rfl; exact blk_w BK208.out⟩
                  have n4_ : Aside0 (Kept w (((w54.setCell ⟨gb208, 0, none⟩ (.bool true)).setCell ⟨gb208, 1, none⟩ (.int .i64 ((rd_T116 l1_4 x59_4).f1))).setCell ⟨gb208, 2, none⟩ (.int .i64 ((rd_T116 l1_4 x59_4).f2))) (fun k_ => P0_ k_)) := ⟨by repeat (first | (with_reducible first | exact HK.out | apply kept_t | refine Kept.setCell ?_ (.inr GW182.out) _ | refine Kept.setCell ?_ (.inr GW190.out) _ | refine Kept.setCell ?_ (.inr GW208.out) _) | exact HK.out)⟩
                  have n5_ : Aside0 (Below w0.heap.size w0 (((w54.setCell ⟨gb208, 0, none⟩ (.bool true)).setCell ⟨gb208, 1, none⟩ (.int .i64 ((rd_T116 l1_4 x59_4).f1))).setCell ⟨gb208, 2, none⟩ (.int .i64 ((rd_T116 l1_4 x59_4).f2)))) := ⟨by repeat (with_reducible first | exact HB.out | apply below_t | refine below_set ?_ GE182.out | refine below_set ?_ GE190.out | refine below_set ?_ GE208.out)⟩
                  (try clear HO_0)
                  (try clear BK182)
                  (try clear BK190)
                  (try clear BK208)
                  (try clear HK)
                  (try clear HB)
                  generalize (((w54.setCell ⟨gb208, 0, none⟩ (.bool true)).setCell ⟨gb208, 1, none⟩ (.int .i64 ((rd_T116 l1_4 x59_4).f1))).setCell ⟨gb208, 2, none⟩ (.int .i64 ((rd_T116 l1_4 x59_4).f2))) = w58 at n0_ n1_ n2_ n3_ n4_ n5_ ⊢
                  have HO_0 := n0_
                  have BK182 := n1_
                  have BK190 := n2_
                  have BK208 := n3_
                  have HK := n4_
                  have HB := n5_
                  clear n0_ n1_ n2_ n3_ n4_ n5_
                  have n0_ := Aside0.mk (Kd.R_drew HO_0.out)
                  have n1_ := Aside0.mk (blk_drew BK182.out)
                  have n2_ := Aside0.mk (blk_drew BK190.out)
                  have n3_ := Aside0.mk (blk_drew BK208.out)
                  have n4_ := Aside0.mk (Kept.drew HK.out)
                  have n5_ := Aside0.mk (below_drew1 HB.out)
                  clear HO_0
                  clear BK182
                  clear BK190
                  clear BK208
                  clear HK
                  clear HB
                  have HO_0 := n0_
                  have BK182 := n1_
                  have BK190 := n2_
                  have BK208 := n3_
                  have HK := n4_
                  have HB := n5_
                  clear n0_ n1_ n2_ n3_ n4_ n5_
                  refine start_ (n := 10) (S := fun w' => w'.cell? ⟨gb208, 0, none⟩ = some (.bool true) ∧ w'.cell? ⟨gb208, 1, none⟩ = some (.int .i64 ((rd_T116 l1_4 x59_4).f1)) ∧ w'.cell? ⟨gb208, 2, none⟩ = some (.int .i64 ((rd_T116 l1_4 x59_4).f2))) (ds := []) #[false, false, false, false, false, false, false, false, false, false] (by kernel_rfl) rfl rfl ⟨(blk_cell BK208.out 0).trans rfl, (blk_cell BK208.out 1).trans rfl, (blk_cell BK208.out 2).trans rfl⟩ (fun hHeld => ?_); refine with_tabW plan_put.tab15 plan_put.bits15 (fun HT_ HW_ => ?_)
                  generalize w58.drew = w59 at HO_0 BK182 BK190 BK208 HK HB hHeld ⊢
                  refine pure_ (i := 0) (N := some 63) (v := ?_) (a' := ?_) #[true, false, false, false, false, false, false, false, false, false] rfl rfl (any_of HT_.out (by kernel_rfl)) (fun _ _ _ h => h) (Or.inl ⟨by rfl, ?_⟩) ?_ ?_
                  rotate_left
                  ·intro w'
                   go_simp
                   with_reducible rfl
                  rotate_left
                  ·simp only [Act.put, List.setIfInBounds_toArray, List.set_cons_zero, List.set_cons_succ, i64_w, i32_w]
                   rfl
                  refine pure_ (i := 1) (N := some 64) (v := ?_) (a' := ?_) #[true, true, false, false, false, false, false, false, false, false] rfl rfl (any_of HT_.out (by kernel_rfl)) (fun _ _ _ h => h) (Or.inl ⟨by rfl, ?_⟩) ?_ ?_
                  rotate_left
                  ·intro w'
                   go_simp
                   with_reducible rfl
                  rotate_left
                  ·simp only [Act.put, List.setIfInBounds_toArray, List.set_cons_zero, List.set_cons_succ, i64_w, i32_w]
                   rfl
                  refine pure_ (i := 4) (N := some 67) (v := ?_) (a' := ?_) #[true, true, false, false, true, false, false, false, false, false] rfl rfl (any_of HT_.out (by kernel_rfl)) (fun _ _ _ h => h) (Or.inl ⟨by rfl, ?_⟩) ?_ ?_
                  rotate_left
                  ·intro w'
                   go_simp
                   with_reducible rfl
                  rotate_left
                  ·simp only [Act.put, List.setIfInBounds_toArray, List.set_cons_zero, List.set_cons_succ, i64_w, i32_w]
                   rfl
                  refine take_ (i := 2) (N := some 65) (v := ?_) (a' := ?_) #[true, true, true, false, true, false, false, false, false, false] rfl rfl (take_ofW HT_.out HW_.out (by kernel_rfl)) (fun _ _ _ h => h) (Or.inl ⟨by rfl, ?_⟩) hHeld ?_ ?_
                  rotate_left
                  ·rintro w' ⟨s0, s1, s2⟩
                   go_simp
                   with_reducible rfl
                  rotate_left
                  ·simp only [Act.put, List.setIfInBounds_toArray, List.set_cons_zero, List.set_cons_succ, i64_w, i32_w]
                   rfl
                  refine take_ (i := 5) (N := some 68) (v := ?_) (a' := ?_) #[true, true, true, false, true, true, false, false, false, false] rfl rfl (take_ofW HT_.out HW_.out (by kernel_rfl)) (fun _ _ _ h => h) (Or.inl ⟨by rfl, ?_⟩) hHeld ?_ ?_
                  rotate_left
                  ·rintro w' ⟨s0, s1, s2⟩
                   go_simp
                   with_reducible rfl
                  rotate_left
                  ·simp only [Act.put, List.setIfInBounds_toArray, List.set_cons_zero, List.set_cons_succ, i64_w, i32_w]
                   rfl
                  refine pure_ (i := 6) (N := some 69) (v := ?_) (a' := ?_) #[true, true, true, false, true, true, true, false, false, false] rfl rfl (any_of HT_.out (by kernel_rfl)) (fun _ _ _ h => h) (Or.inl ⟨by rfl, ?_⟩) ?_ ?_
                  rotate_left
                  ·intro w'
                   go_simp
                   with_reducible rfl
                  rotate_left
                  ·simp only [Act.put, List.setIfInBounds_toArray, List.set_cons_zero, List.set_cons_succ, i64_w, i32_w]
                   rfl
                  refine one_ (i := 3) (N := some 66) #[true, true, true, true, true, true, true, false, false, false] rfl rfl (one_of HT_.out (by kernel_rfl)) (by decide) (fun K hK => ?_)
                  refine goes_ Try.func96 (by kernel_rfl) rfl #[.bool true] (by rfl) rfl rfl (by (try simp only [List.map_toArray, List.map_cons, List.map_nil]); first | done | rfl | simp) ?_
                  with_reducible refine (plan_bit.calls true t209 _ (by first | exact A49.out | (have q_ := A49.out; try rw [← Nbq51.out] at q_; exact q_))).mono ?_
                  rintro e w' ⟨rfl, ⟨nd, rfl⟩⟩
                  refine ⟨_, rfl, ?_⟩
                  refine hK.out _ _ ⟨(blk_cell BK208.out 0).trans rfl, (blk_cell BK208.out 1).trans rfl, (blk_cell BK208.out 2).trans rfl⟩ (fun hHeld => ?_)
                  clear hK K
                  refine norm_ (a' := ?_) ?_ ?_
                  rotate_left
                  ·show Act.put _ (some 66) _ = _
                   simp only [Act.put, List.setIfInBounds_toArray, List.set_cons_zero, List.set_cons_succ, i64_w, i32_w]
                   rfl
                  refine one_ (i := 7) (N := some 70) #[true, true, true, true, true, true, true, true, false, false] rfl rfl (one_of HT_.out (by kernel_rfl)) (by decide) (fun K hK => ?_)
                  refine Kd.R_lit_step (Kd.int .u8) _ 5 ?hg (N := 70) ?hd (xs := ([t209, ((rd_T116 l1_4 x59_4).f1) % 256] : List Int)) (inner := [.int .u8 t209, .int .u8 (((rd_T116 l1_4 x59_4).f1) % 256)]) (ok := fun _ => True) (okp := fun _ => True) ?hr ?hp (fun _ hk => hk) trivial (Below.refl _ _) (Nat.le_refl _) (by simp) ?_; (case hd => rfl); (case hg => rfl); (case hr => first | (go_simp; done) | (go_simp; rfl)); (case hp => exact (Reps.one (show Kd.M (Kd.int .u8) _ _ _ t209 [.int .u8 t209] from rfl) (Reps.one (show Kd.M (Kd.int .u8) _ _ _ (((rd_T116 l1_4 x59_4).f1) % 256) [.int .u8 (((rd_T116 l1_4 x59_4).f1) % 256)] from rfl) (Reps.none _ _))))
                  intro v211 w60 ho61 hb hg_ hnew_
                  clear hg_ hnew_
                  (first | rw [← Ny210.out] at ho61 | (simp only [Int.reduceToNat] at ho61; rw [← Ny210.out] at ho61))
                  have n0_ := Aside0.mk (Kd.R_elder' (by exact Kd.R_w HO_0.out) (Kd.R_base ho61) hb)
                  have n1_ := Aside0.mk (Kd.R_lower (Kd.R_new' (Kd.R_newM (M := fun k_ => (P0_ k_ ∨ w.heap.size ≤ k_)) ho61 (by first | exact HK.out.1 | exact (show Kept w _ (fun k_ => P0_ k_) from by repeat (first | (with_reducible first | exact HK.out | apply kept_t | refine Kept.setCell ?_ (.inr GW182.out) _ | refine Kept.setCell ?_ (.inr GW190.out) _ | refine Kept.setCell ?_ (.inr GW208.out) _) | exact HK.out)).1) (fun k_ h_ => .inr h_)) (Kd.R_lt (by exact Kd.R_w HO_0.out))) (below_size (by repeat (with_reducible first | exact HB.out | apply below_t | refine below_set ?_ GE182.out | refine below_set ?_ GE190.out | refine below_set ?_ GE208.out))))
                  have n2_ := Aside0.mk (blk_below (g := gb182) (o := .cells #[.int .i64 a1_0, .int .i64 a1_1, .int .i64 a1_2, .int .i64 a1_3, .slice (some ad207) l1_4.length c1_4, .bool a1_5] 39 (0, 0)) (by exact blk_w BK182.out) hb)
                  have n3_ := Aside0.mk (blk_below (g := gb190) (o := .cells #[.bool t186, .bool t187, .bool t188, .bool true] 113 (0, 0)) (by exact blk_w BK190.out) hb)
                  have n4_ := Aside0.mk (blk_below (g := gb208) (o := .cells #[.bool true, .int .i64 ((rd_T116 l1_4 x59_4).f1), .int .i64 ((rd_T116 l1_4 x59_4).f2)] 116 (0, 0)) (by exact blk_w BK208.out) hb)
                  have n5_ := Aside0.mk (Kept.below (S := (fun k_ => P0_ k_)) (by repeat (first | (with_reducible first | exact HK.out | apply kept_t | refine Kept.setCell ?_ (.inr GW182.out) _ | refine Kept.setCell ?_ (.inr GW190.out) _ | refine Kept.setCell ?_ (.inr GW208.out) _) | exact HK.out)) hb)
                  have n6_ := Aside0.mk (below_step (by repeat (with_reducible first | exact HB.out | apply below_t | refine below_set ?_ GE182.out | refine below_set ?_ GE190.out | refine below_set ?_ GE208.out)) hb)
                  clear HO_0
                  clear BK182
                  clear BK190
                  clear BK208
                  clear HK
                  clear HB
                  have HO_0 := n0_
                  have HO212 := n1_
                  have BK182 := n2_
                  have BK190 := n3_
                  have BK208 := n4_
                  have HK := n5_
                  have HB := n6_
                  clear n0_ n1_ n2_ n3_ n4_ n5_ n6_
                  clear hb ho61
                  obtain ⟨Ao63, co63, eo63⟩ := Kd.R_slice HO212.out
                  (first | subst eo63 | (injection eo63 with f1_ f2_ f3_; have f4_ := f1_.symm; have f5_ := f3_.symm; clear f1_ f2_ f3_; subst f4_; subst f5_))
                  refine hK.out _ _ ⟨(blk_cell BK208.out 0).trans rfl, (blk_cell BK208.out 1).trans rfl, (blk_cell BK208.out 2).trans rfl⟩ (fun hHeld => ?_)
                  clear hK K
                  refine norm_ (a' := ?_) ?_ ?_
                  rotate_left
                  ·show Act.put _ (some 70) _ = _
                   simp only [Act.put, List.setIfInBounds_toArray, List.set_cons_zero, List.set_cons_succ, i64_w, i32_w]
                   rfl
                  refine one_ (i := 8) (N := some 71) #[true, true, true, true, true, true, true, true, true, false] rfl rfl (one_of HT_.out (by kernel_rfl)) (by decide) (fun K hK => ?_)
                  refine Kd.R_append_rows_step (Kd.int .u8) (w0 := w0) w0.heap.size (by rfl) (.tmp 63) (.tmp 70) 42 5 (.int .u8 0) 1 rfl Try.underlying42 info5 rfl (by decide) (by omega) u0 x0_4 y210 _ _ _ (fun k_ => (P0_ k_ ∨ w.heap.size ≤ k_) ∧ some k_ ≠ (.slice Ao63 y210.length co63 : Value).ownBlock) (fun _ => False) rfl rfl ?aO ?aR (fun _ _ h => h) (fun _ h => h.elim) ?aF ?aB ?aS ?aL ?_
                  (case aR => exact Kd.C_w (Kd.R_reads' HO212.out).2.2)
                  (case aB => exact (by repeat (with_reducible first | exact HB.out | apply below_t | refine below_set ?_ GE182.out | refine below_set ?_ GE190.out | refine below_set ?_ GE208.out)))
                  (case aF => exact (fun k_ hk => ⟨(.inr (Nat.le_trans (by first | exact HK.out.1 | exact (show Kept w _ (fun k_ => P0_ k_) from by repeat (first | (with_reducible first | exact HK.out | apply kept_t | refine Kept.setCell ?_ (.inr GW182.out) _ | refine Kept.setCell ?_ (.inr GW190.out) _ | refine Kept.setCell ?_ (.inr GW208.out) _) | exact HK.out)).1) hk)), Kd.fresh' (Kd.R_lt (by exact Kd.R_w HO212.out)) k_ hk⟩))
                  (case aO => exact (by exact Kd.R_w HO_0.out))
                  (case aS => exact (below_size (by repeat (with_reducible first | exact HB.out | apply below_t | refine below_set ?_ GE182.out | refine below_set ?_ GE190.out | refine below_set ?_ GE208.out))))
                  (case aL => have := LMc50.out; omega)
                  intro v214 w62 ho hb hg hat
                  rw [← Ny213.out] at ho
                  have n0_ := Aside0.mk (blk_grown (g := gb182) (o := .cells #[.int .i64 a1_0, .int .i64 a1_1, .int .i64 a1_2, .int .i64 a1_3, .slice (some ad207) l1_4.length c1_4, .bool a1_5] 39 (0, 0)) (by exact blk_w BK182.out) hg (Kd.R_ne HO_0.out BK182.out (by decide)))
                  have n1_ := Aside0.mk (blk_grown (g := gb190) (o := .cells #[.bool t186, .bool t187, .bool t188, .bool true] 113 (0, 0)) (by exact blk_w BK190.out) hg (Kd.R_ne HO_0.out BK190.out (by decide)))
                  have n2_ := Aside0.mk (blk_grown (g := gb208) (o := .cells #[.bool true, .int .i64 ((rd_T116 l1_4 x59_4).f1), .int .i64 ((rd_T116 l1_4 x59_4).f2)] 116 (0, 0)) (by exact blk_w BK208.out) hg (Kd.R_ne HO_0.out BK208.out (by decide)))
                  have n3_ := Aside0.mk (Kd.R_after (ok := (fun k_ => (P0_ k_ ∨ w.heap.size ≤ k_))) (by apply Kd.R_w; exact Kd.R_mono HO212.out (fun _ hk => ⟨hk.1.1, hk.2⟩)) hg hat)
                  have n4_ := Aside0.mk (hb)
                  have n5_ := Aside0.mk (Kept.of_grown (S := (fun k_ => P0_ k_)) hg (by repeat (first | (with_reducible first | exact HK.out | apply kept_t | refine Kept.setCell ?_ (.inr GW182.out) _ | refine Kept.setCell ?_ (.inr GW190.out) _ | refine Kept.setCell ?_ (.inr GW208.out) _) | exact HK.out)) (fun k_ e_ => (HO_0.out.1 k_ e_).1))
                  have n6_ := Aside0.mk (ho)
                  clear BK182
                  clear BK190
                  clear BK208
                  clear HO212
                  clear HB
                  clear HK
                  clear HO_0
                  have BK182 := n0_
                  have BK190 := n1_
                  have BK208 := n2_
                  have HO212 := n3_
                  have HB := n4_
                  have HK := n5_
                  have HO215 := n6_
                  clear n0_ n1_ n2_ n3_ n4_ n5_ n6_
                  clear ho hb hg hat
                  refine hK.out _ _ ⟨(blk_cell BK208.out 0).trans rfl, (blk_cell BK208.out 1).trans rfl, (blk_cell BK208.out 2).trans rfl⟩ (fun hHeld => ?_)
                  clear hK K
                  refine norm_ (a' := ?_) ?_ ?_
                  rotate_left
                  ·show Act.put _ (some 71) _ = _
                   simp only [Act.put, List.setIfInBounds_toArray, List.set_cons_zero, List.set_cons_succ, i64_w, i32_w]
                   rfl
                  refine pure_ (i := 9) (N := some 0) (v := ?_) (a' := ?_) #[true, true, true, true, true, true, true, true, true, true] rfl rfl (any_of HT_.out (by kernel_rfl)) (fun _ _ _ h => h) (Or.inl ⟨by rfl, ?_⟩) ?_ ?_
                  rotate_left
                  ·intro w'
                   go_simp
                   with_reducible rfl
                  rotate_left
                  ·simp only [Act.put, List.setIfInBounds_toArray, List.set_cons_zero, List.set_cons_succ, i64_w, i32_w]
                   rfl
                  refine done_ (done_of HT_.out (by kernel_rfl)) ?_
                  have hcz64 := blk3 BK208.out
                  try go_wp2_with (first | ((with_reducible refine gate_builtin (b := .append) (xs := #[.tmp 74, .tmp 78]) rfl ?_); at_builtin; refine Kd.R_append (Kd.int .u8) (w0 := w0) w0.heap.size rfl (.tmp 74) (.tmp 78) 42 5 (.int .u8 0) 1 rfl Try.underlying42 info5 rfl (by decide) (by omega) v214 y213 (((rd_T116 l1_4 x59_4).f2) % 256) [.int .u8 (((rd_T116 l1_4 x59_4).f2) % 256)] (fun k_ => (P0_ k_ ∨ w.heap.size ≤ k_) ∧ some k_ ≠ (.slice Ao63 y210.length co63 : Value).ownBlock) (fun _ => False) rfl rfl ?aP (fun _ hk => hk.elim) ?aF ?aO ?aB ?aS ?aL ?_; (case aP => exact rfl); (case aB => exact (by repeat (with_reducible first | exact HB.out | apply below_t | refine below_set ?_ GE182.out | refine below_set ?_ GE190.out | refine below_set ?_ GE208.out))); (case aF => exact (fun k_ hk => ⟨(.inr (Nat.le_trans (by first | exact HK.out.1 | exact (show Kept w _ (fun k_ => P0_ k_) from by repeat (first | (with_reducible first | exact HK.out | apply kept_t | refine Kept.setCell ?_ (.inr GW182.out) _ | refine Kept.setCell ?_ (.inr GW190.out) _ | refine Kept.setCell ?_ (.inr GW208.out) _) | exact HK.out)).1) hk)), Kd.fresh' (Kd.R_lt (by exact Kd.R_w HO212.out)) k_ hk⟩)); (case aO => exact (by exact Kd.R_w HO215.out)); (case aS => exact (below_size (by repeat (with_reducible first | exact HB.out | apply below_t | refine below_set ?_ GE182.out | refine below_set ?_ GE190.out | refine below_set ?_ GE208.out)))); (case aL => have := LMc53.out; omega); intro v217 w65 ho hb hg hat; rw [← Ny216.out] at ho; have n0_ := Aside0.mk (blk_grown (g := gb182) (o := .cells #[.int .i64 a1_0, .int .i64 a1_1, .int .i64 a1_2, .int .i64 a1_3, .slice (some ad207) l1_4.length c1_4, .bool a1_5] 39 (0, 0)) (by exact blk_w BK182.out) hg (Kd.R_ne HO215.out BK182.out (by decide))); have n1_ := Aside0.mk (blk_grown (g := gb190) (o := .cells #[.bool t186, .bool t187, .bool t188, .bool true] 113 (0, 0)) (by exact blk_w BK190.out) hg (Kd.R_ne HO215.out BK190.out (by decide))); have n2_ := Aside0.mk (blk_grown (g := gb208) (o := .cells #[.bool true, .int .i64 ((rd_T116 l1_4 x59_4).f1), .int .i64 ((rd_T116 l1_4 x59_4).f2)] 116 (0, 0)) (by exact blk_w BK208.out) hg (Kd.R_ne HO215.out BK208.out (by decide))); have n3_ := Aside0.mk (Kd.R_after (ok := (fun k_ => (P0_ k_ ∨ w.heap.size ≤ k_))) (by exact Kd.R_w HO212.out) hg hat); have n4_ := Aside0.mk (hb); have n5_ := Aside0.mk (Kept.of_grown (S := (fun k_ => P0_ k_)) hg (by repeat (first | (with_reducible first | exact HK.out | apply kept_t | refine Kept.setCell ?_ (.inr GW182.out) _ | refine Kept.setCell ?_ (.inr GW190.out) _ | refine Kept.setCell ?_ (.inr GW208.out) _) | exact HK.out)) (fun k_ e_ => (HO215.out.1 k_ e_).1)); have n6_ := Aside0.mk (ho); clear BK182; clear BK190; clear BK208; clear HO212; clear HB; clear HK; clear HO215; have BK182 := n0_; have BK190 := n1_; have BK208 := n2_; have HO212 := n3_; have HB := n4_; have HK := n5_; have HO218 := n6_; clear n0_ n1_ n2_ n3_ n4_ n5_ n6_; clear ho hb hg hat))
                  go_roundg k4
                  case measure => have := HJ4.out; have := HJ18.out; have := HJ26.out; have := HK4.out; omega
                  case rel => exact ⟨(y216), (wrap64 (x59_4 + 1)), (by first | rfl | (simp; done) | (simp [*]; done)), H', ⟨by have := HJ4.out; have := HJ18.out; have := HJ26.out; have := HK4.out; omega⟩, ⟨by apply Kd.R_w; exact Kd.R_mono HO218.out (fun _ hk => hk.1)⟩, ⟨by exact blk_w BK182.out⟩, ⟨by exact blk_w BK190.out⟩, ⟨by repeat (first | (with_reducible first | exact HK.out | apply kept_t | refine Kept.setCell ?_ (.inr GW182.out) _ | refine Kept.setCell ?_ (.inr GW190.out) _ | refine Kept.setCell ?_ (.inr GW208.out) _) | exact HK.out)⟩, ⟨by repeat (with_reducible first | exact HB.out | apply below_t | refine below_set ?_ GE182.out | refine below_set ?_ GE190.out | refine below_set ?_ GE208.out)⟩⟩
                 ·rw [if_neg c53] at H
                  exact absurd H (by simp)
                ·replace c52 := Bool.eq_false_iff.mpr c52
                 subst c52
                 have H1 : (plan_put.l0 k4 y213 l1_4 (l1_4.length : Int) (wrap64 (x59_4 + 1))) = some r := by rw [if_neg (show ¬ (false = true) by decide)] at H; exact H
                 clear H
                 have H := H1
                 clear H1
                 have H' := Aside0.mk H
                 clear H
                 have p207 : 0 ≤ (x59_4 : Int) := of_decide_eq_true (by first | (with_reducible assumption) | assumption)
                 have q207 : x59_4 < (l1_4.length : Int) := of_decide_eq_true (by first | (with_reducible assumption) | assumption)
                 obtain ⟨ad207, e207, hx207_0, hx207_1, hx207_2⟩ := at_T116 (Kd.C_kept_now HR1_4.out HK.out) x59_4 p207 q207
                 (try rw [← Nbq51.out] at hx207_0)
                 cases e207
                 replace p207 := eq_true p207
                 replace q207 := eq_true q207
                 try go_wp2_with (first | ((with_reducible refine gate_dst (N := 7) rfl ?_); refine box_event ?hg (N := 7) ?hd (cs := #[.bool false, .int .i64 0, .int .i64 0]) (t := 116) ?hr ?_; (case hd => rfl); (case hg => rfl); (case hr => first | (go_simp; done) | (go_simp; rfl)); intro gb208 hg w66 hbox hb; have n0_ := Aside0.mk (Kd.R_below (by exact Kd.R_w HO_0.out) hb); have n1_ := Aside0.mk (blk_below (g := gb182) (o := .cells #[.int .i64 a1_0, .int .i64 a1_1, .int .i64 a1_2, .int .i64 a1_3, .slice (some ad207) l1_4.length c1_4, .bool a1_5] 39 (0, 0)) (by exact blk_w BK182.out) hb); have n2_ := Aside0.mk (blk_below (g := gb190) (o := .cells #[.bool t186, .bool t187, .bool t188, .bool true] 113 (0, 0)) (by exact blk_w BK190.out) hb); have n3_ := Aside0.mk (Kept.below (S := (fun k_ => P0_ k_)) (by repeat (first | (with_reducible first | exact HK.out | apply kept_t | refine Kept.setCell ?_ (.inr GW182.out) _ | refine Kept.setCell ?_ (.inr GW190.out) _) | exact HK.out)) hb); have n4_ := Aside0.mk (below_step (by repeat (with_reducible first | exact HB.out | apply below_t | refine below_set ?_ GE182.out | refine below_set ?_ GE190.out)) hb); have n5_ := Aside0.mk (hbox); have n6_ := Aside0.mk ((by rw [hg]; exact (by first | exact HK.out.1 | exact (show Kept w _ (fun k_ => P0_ k_) from by repeat (first | (with_reducible first | exact HK.out | apply kept_t | refine Kept.setCell ?_ (.inr GW182.out) _ | refine Kept.setCell ?_ (.inr GW190.out) _) | exact HK.out)).1) : w.heap.size ≤ gb208)); have n7_ := Aside0.mk ((by rw [hg]; exact (below_size (by repeat (with_reducible first | exact HB.out | apply below_t | refine below_set ?_ GE182.out | refine below_set ?_ GE190.out))) : w0.heap.size ≤ gb208)); have n8_ := Aside0.mk ((by rw [hg]; exact Nat.ne_of_lt (blk_lt (g := gb182) (o := .cells #[.int .i64 a1_0, .int .i64 a1_1, .int .i64 a1_2, .int .i64 a1_3, .slice (some ad207) l1_4.length c1_4, .bool a1_5] 39 (0, 0)) (by exact blk_w BK182.out)) : gb182 ≠ gb208)); have n9_ := Aside0.mk ((by rw [hg]; exact Nat.ne_of_gt (blk_lt (g := gb182) (o := .cells #[.int .i64 a1_0, .int .i64 a1_1, .int .i64 a1_2, .int .i64 a1_3, .slice (some ad207) l1_4.length c1_4, .bool a1_5] 39 (0, 0)) (by exact blk_w BK182.out)) : gb208 ≠ gb182)); have n10_ := Aside0.mk ((by rw [hg]; exact Nat.ne_of_lt (blk_lt (g := gb190) (o := .cells #[.bool t186, .bool t187, .bool t188, .bool true] 113 (0, 0)) (by exact blk_w BK190.out)) : gb190 ≠ gb208)); have n11_ := Aside0.mk ((by rw [hg]; exact Nat.ne_of_gt (blk_lt (g := gb190) (o := .cells #[.bool t186, .bool t187, .bool t188, .bool true] 113 (0, 0)) (by exact blk_w BK190.out)) : gb208 ≠ gb190)); clear HO_0; clear BK182; clear BK190; clear HK; clear HB; have HO_0 := n0_; have BK182 := n1_; have BK190 := n2_; have HK := n3_; have HB := n4_; have BK208 := n5_; have GW208 := n6_; have GE208 := n7_; have NB182_208 := n8_; have NB208_182 := n9_; have NB190_208 := n10_; have NB208_190 := n11_; clear n0_ n1_ n2_ n3_ n4_ n5_ n6_ n7_ n8_ n9_ n10_ n11_; clear hb hbox hg; have hnb67 := NB208_182.out; have hnc67 := NB182_208.out; have hnb68 := NB208_190.out; have hnc68 := NB190_208.out; have hcz69 := blk3 BK208.out))
                 have n0_ : Aside0 (Kd.R (Kd.int .u8) 5 (((w66.setCell ⟨gb208, 0, none⟩ (.bool false)).setCell ⟨gb208, 1, none⟩ (.int .i64 ((rd_T116 l1_4 x59_4).f1))).setCell ⟨gb208, 2, none⟩ (.int .i64 ((rd_T116 l1_4 x59_4).f2))) w0.heap.size (fun k_ => (P0_ k_ ∨ w.heap.size ≤ k_)) u0 x0_4) := ⟨by apply Kd.R_w; exact Kd.R_mono (Kd.R_far (p := ⟨gb208, 2, none⟩) (Kd.R_far (p := ⟨gb208, 1, none⟩) (Kd.R_far (p := ⟨gb208, 0, none⟩) (Kd.R_types HO_0.out BK208.out (by decide)) (fun _ hk => hk.2) (.bool false)) (fun _ hk => hk.2) (.int .i64 ((rd_T116 l1_4 x59_4).f1))) (fun _ hk => hk.2) (.int .i64 ((rd_T116 l1_4 x59_4).f2))) (fun _ hk => hk.1)⟩
                 have n1_ : Aside0 ((((w66.setCell ⟨gb208, 0, none⟩ (.bool false)).setCell ⟨gb208, 1, none⟩ (.int .i64 ((rd_T116 l1_4 x59_4).f1))).setCell ⟨gb208, 2, none⟩ (.int .i64 ((rd_T116 l1_4 x59_4).f2))).heap[gb182]? = some (.cells #[.int .i64 a1_0, .int .i64 a1_1, .int .i64 a1_2, .int .i64 a1_3, .slice (some ad207) l1_4.length c1_4, .bool a1_5] 39 (0, 0))) := ⟨by refine blk_w ?_; refine blk_far (blk_w ?_) NB182_208.out _; refine blk_far (blk_w ?_) NB182_208.out _; exact blk_far (blk_w BK182.out) NB182_208.out _⟩
                 have n2_ : Aside0 ((((w66.setCell ⟨gb208, 0, none⟩ (.bool false)).setCell ⟨gb208, 1, none⟩ (.int .i64 ((rd_T116 l1_4 x59_4).f1))).setCell ⟨gb208, 2, none⟩ (.int .i64 ((rd_T116 l1_4 x59_4).f2))).heap[gb190]? = some (.cells #[.bool t186, .bool t187, .bool t188, .bool true] 113 (0, 0))) := ⟨by refine blk_w ?_; refine blk_far (blk_w ?_) NB190_208.out _; refine blk_far (blk_w ?_) NB190_208.out _; exact blk_far (blk_w BK190.out) NB190_208.out _⟩
                 have n3_ : Aside0 ((((w66.setCell ⟨gb208, 0, none⟩ (.bool false)).setCell ⟨gb208, 1, none⟩ (.int .i64 ((rd_T116 l1_4 x59_4).f1))).setCell ⟨gb208, 2, none⟩ (.int .i64 ((rd_T116 l1_4 x59_4).f2))).heap[gb208]? = some (.cells #[.bool false, .int .i64 ((rd_T116 l1_4 x59_4).f1), .int .i64 ((rd_T116 l1_4 x59_4).f2)] 116 (0, 0))) := ⟨by refine blk_w ?_; refine blk_put (cs := #[.bool false, .int .i64 ((rd_T116 l1_4 x59_4).f1), .int .i64 0]) ?_ 2 _ rfl; refine blk_w ?_; refine blk_put (cs := #[.bool false, .int .i64 0, .int .i64 0]) ?_ 1 _ rfl; refine blk_w ?_; refine blk_put (cs := #[.bool false, .int .i64 0, .int .i64 0]) ?_ 0 _ rfl; exact blk_w BK208.out⟩
                 have n4_ : Aside0 (Kept w (((w66.setCell ⟨gb208, 0, none⟩ (.bool false)).setCell ⟨gb208, 1, none⟩ (.int .i64 ((rd_T116 l1_4 x59_4).f1))).setCell ⟨gb208, 2, none⟩ (.int .i64 ((rd_T116 l1_4 x59_4).f2))) (fun k_ => P0_ k_)) := ⟨by repeat (first | (with_reducible first | exact HK.out | apply kept_t | refine Kept.setCell ?_ (.inr GW182.out) _ | refine Kept.setCell ?_ (.inr GW190.out) _ | refine Kept.setCell ?_ (.inr GW208.out) _) | exact HK.out)⟩
                 have n5_ : Aside0 (Below w0.heap.size w0 (((w66.setCell ⟨gb208, 0, none⟩ (.bool false)).setCell ⟨gb208, 1, none⟩ (.int .i64 ((rd_T116 l1_4 x59_4).f1))).setCell ⟨gb208, 2, none⟩ (.int .i64 ((rd_T116 l1_4 x59_4).f2)))) := ⟨by repeat (with_reducible first | exact HB.out | apply below_t | refine below_set ?_ GE182.out | refine below_set ?_ GE190.out | refine below_set ?_ GE208.out)⟩
                 (try clear HO_0)
                 (try clear BK182)
                 (try clear BK190)
                 (try clear BK208)
                 (try clear HK)
                 (try clear HB)
                 generalize (((w66.setCell ⟨gb208, 0, none⟩ (.bool false)).setCell ⟨gb208, 1, none⟩ (.int .i64 ((rd_T116 l1_4 x59_4).f1))).setCell ⟨gb208, 2, none⟩ (.int .i64 ((rd_T116 l1_4 x59_4).f2))) = w70 at n0_ n1_ n2_ n3_ n4_ n5_ ⊢
                 have HO_0 := n0_
                 have BK182 := n1_
                 have BK190 := n2_
                 have BK208 := n3_
                 have HK := n4_
                 have HB := n5_
                 clear n0_ n1_ n2_ n3_ n4_ n5_
                 have n0_ := Aside0.mk (Kd.R_drew HO_0.out)
                 have n1_ := Aside0.mk (blk_drew BK182.out)
                 have n2_ := Aside0.mk (blk_drew BK190.out)
                 have n3_ := Aside0.mk (blk_drew BK208.out)
                 have n4_ := Aside0.mk (Kept.drew HK.out)
                 have n5_ := Aside0.mk (below_drew1 HB.out)
                 clear HO_0
                 clear BK182
                 clear BK190
                 clear BK208
                 clear HK
                 clear HB
                 have HO_0 := n0_
                 have BK182 := n1_
                 have BK190 := n2_
                 have BK208 := n3_
                 have HK := n4_
                 have HB := n5_
                 clear n0_ n1_ n2_ n3_ n4_ n5_
                 refine start_ (n := 10) (S := fun w' => w'.cell? ⟨gb208, 0, none⟩ = some (.bool false) ∧ w'.cell? ⟨gb208, 1, none⟩ = some (.int .i64 ((rd_T116 l1_4 x59_4).f1)) ∧ w'.cell? ⟨gb208, 2, none⟩ = some (.int .i64 ((rd_T116 l1_4 x59_4).f2))) (ds := []) #[false, false, false, false, false, false, false, false, false, false] (by kernel_rfl) rfl rfl ⟨(blk_cell BK208.out 0).trans rfl, (blk_cell BK208.out 1).trans rfl, (blk_cell BK208.out 2).trans rfl⟩ (fun hHeld => ?_); refine with_tabW plan_put.tab15 plan_put.bits15 (fun HT_ HW_ => ?_)
                 generalize w70.drew = w71 at HO_0 BK182 BK190 BK208 HK HB hHeld ⊢
                 refine pure_ (i := 0) (N := some 63) (v := ?_) (a' := ?_) #[true, false, false, false, false, false, false, false, false, false] rfl rfl (any_of HT_.out (by kernel_rfl)) (fun _ _ _ h => h) (Or.inl ⟨by rfl, ?_⟩) ?_ ?_
                 rotate_left
                 ·intro w'
                  go_simp
                  with_reducible rfl
                 rotate_left
                 ·simp only [Act.put, List.setIfInBounds_toArray, List.set_cons_zero, List.set_cons_succ, i64_w, i32_w]
                  rfl
                 refine pure_ (i := 1) (N := some 64) (v := ?_) (a' := ?_) #[true, true, false, false, false, false, false, false, false, false] rfl rfl (any_of HT_.out (by kernel_rfl)) (fun _ _ _ h => h) (Or.inl ⟨by rfl, ?_⟩) ?_ ?_
                 rotate_left
                 ·intro w'
                  go_simp
                  with_reducible rfl
                 rotate_left
                 ·simp only [Act.put, List.setIfInBounds_toArray, List.set_cons_zero, List.set_cons_succ, i64_w, i32_w]
                  rfl
                 refine pure_ (i := 4) (N := some 67) (v := ?_) (a' := ?_) #[true, true, false, false, true, false, false, false, false, false] rfl rfl (any_of HT_.out (by kernel_rfl)) (fun _ _ _ h => h) (Or.inl ⟨by rfl, ?_⟩) ?_ ?_
                 rotate_left
                 ·intro w'
                  go_simp
                  with_reducible rfl
                 rotate_left
                 ·simp only [Act.put, List.setIfInBounds_toArray, List.set_cons_zero, List.set_cons_succ, i64_w, i32_w]
                  rfl
                 refine take_ (i := 2) (N := some 65) (v := ?_) (a' := ?_) #[true, true, true, false, true, false, false, false, false, false] rfl rfl (take_ofW HT_.out HW_.out (by kernel_rfl)) (fun _ _ _ h => h) (Or.inl ⟨by rfl, ?_⟩) hHeld ?_ ?_
                 rotate_left
                 ·rintro w' ⟨s0, s1, s2⟩
                  go_simp
                  with_reducible rfl
                 rotate_left
                 ·simp only [Act.put, List.setIfInBounds_toArray, List.set_cons_zero, List.set_cons_succ, i64_w, i32_w]
                  rfl
                 refine take_ (i := 5) (N := some 68) (v := ?_) (a' := ?_) #[true, true, true, false, true, true, false, false, false, false] rfl rfl (take_ofW HT_.out HW_.out (by kernel_rfl)) (fun _ _ _ h => h) (Or.inl ⟨by rfl, ?_⟩) hHeld ?_ ?_
                 rotate_left
                 ·rintro w' ⟨s0, s1, s2⟩
                  go_simp
                  with_reducible rfl
                 rotate_left
                 ·simp only [Act.put, List.setIfInBounds_toArray, List.set_cons_zero, List.set_cons_succ, i64_w, i32_w]
                  rfl
                 refine pure_ (i := 6) (N := some 69) (v := ?_) (a' := ?_) #[true, true, true, false, true, true, true, false, false, false] rfl rfl (any_of HT_.out (by kernel_rfl)) (fun _ _ _ h => h) (Or.inl ⟨by rfl, ?_⟩) ?_ ?_
                 rotate_left
                 ·intro w'
                  go_simp
                  with_reducible rfl
                 rotate_left
                 ·simp only [Act.put, List.setIfInBounds_toArray, List.set_cons_zero, List.set_cons_succ, i64_w, i32_w]
                  rfl
                 refine one_ (i := 3) (N := some 66) #[true, true, true, true, true, true, true, false, false, false] rfl rfl (one_of HT_.out (by kernel_rfl)) (by decide) (fun K hK => ?_)
                 refine goes_ Try.func96 (by kernel_rfl) rfl #[.bool false] (by rfl) rfl rfl (by (try simp only [List.map_toArray, List.map_cons, List.map_nil]); first | done | rfl | simp) ?_
                 with_reducible refine (plan_bit.calls false t209 _ (by first | exact A49.out | (have q_ := A49.out; try rw [← Nbq51.out] at q_; exact q_))).mono ?_
                 rintro e w' ⟨rfl, ⟨nd, rfl⟩⟩
                 refine ⟨_, rfl, ?_⟩
                 refine hK.out _ _ ⟨(blk_cell BK208.out 0).trans rfl, (blk_cell BK208.out 1).trans rfl, (blk_cell BK208.out 2).trans rfl⟩ (fun hHeld => ?_)
                 clear hK K
                 refine norm_ (a' := ?_) ?_ ?_
                 rotate_left
                 ·show Act.put _ (some 66) _ = _
                  simp only [Act.put, List.setIfInBounds_toArray, List.set_cons_zero, List.set_cons_succ, i64_w, i32_w]
                  rfl
                 refine one_ (i := 7) (N := some 70) #[true, true, true, true, true, true, true, true, false, false] rfl rfl (one_of HT_.out (by kernel_rfl)) (by decide) (fun K hK => ?_)
                 refine Kd.R_lit_step (Kd.int .u8) _ 5 ?hg (N := 70) ?hd (xs := ([t209, ((rd_T116 l1_4 x59_4).f1) % 256] : List Int)) (inner := [.int .u8 t209, .int .u8 (((rd_T116 l1_4 x59_4).f1) % 256)]) (ok := fun _ => True) (okp := fun _ => True) ?hr ?hp (fun _ hk => hk) trivial (Below.refl _ _) (Nat.le_refl _) (by simp) ?_; (case hd => rfl); (case hg => rfl); (case hr => first | (go_simp; done) | (go_simp; rfl)); (case hp => exact (Reps.one (show Kd.M (Kd.int .u8) _ _ _ t209 [.int .u8 t209] from rfl) (Reps.one (show Kd.M (Kd.int .u8) _ _ _ (((rd_T116 l1_4 x59_4).f1) % 256) [.int .u8 (((rd_T116 l1_4 x59_4).f1) % 256)] from rfl) (Reps.none _ _))))
                 intro v211 w72 ho73 hb hg_ hnew_
                 clear hg_ hnew_
                 (first | rw [← Ny210.out] at ho73 | (simp only [Int.reduceToNat] at ho73; rw [← Ny210.out] at ho73))
                 have n0_ := Aside0.mk (Kd.R_elder' (by exact Kd.R_w HO_0.out) (Kd.R_base ho73) hb)
                 have n1_ := Aside0.mk (Kd.R_lower (Kd.R_new' (Kd.R_newM (M := fun k_ => (P0_ k_ ∨ w.heap.size ≤ k_)) ho73 (by first | exact HK.out.1 | exact (show Kept w _ (fun k_ => P0_ k_) from by repeat (first | (with_reducible first | exact HK.out | apply kept_t | refine Kept.setCell ?_ (.inr GW182.out) _ | refine Kept.setCell ?_ (.inr GW190.out) _ | refine Kept.setCell ?_ (.inr GW208.out) _) | exact HK.out)).1) (fun k_ h_ => .inr h_)) (Kd.R_lt (by exact Kd.R_w HO_0.out))) (below_size (by repeat (with_reducible first | exact HB.out | apply below_t | refine below_set ?_ GE182.out | refine below_set ?_ GE190.out | refine below_set ?_ GE208.out))))
                 have n2_ := Aside0.mk (blk_below (g := gb182) (o := .cells #[.int .i64 a1_0, .int .i64 a1_1, .int .i64 a1_2, .int .i64 a1_3, .slice (some ad207) l1_4.length c1_4, .bool a1_5] 39 (0, 0)) (by exact blk_w BK182.out) hb)
                 have n3_ := Aside0.mk (blk_below (g := gb190) (o := .cells #[.bool t186, .bool t187, .bool t188, .bool true] 113 (0, 0)) (by exact blk_w BK190.out) hb)
                 have n4_ := Aside0.mk (blk_below (g := gb208) (o := .cells #[.bool false, .int .i64 ((rd_T116 l1_4 x59_4).f1), .int .i64 ((rd_T116 l1_4 x59_4).f2)] 116 (0, 0)) (by exact blk_w BK208.out) hb)
                 have n5_ := Aside0.mk (Kept.below (S := (fun k_ => P0_ k_)) (by repeat (first | (with_reducible first | exact HK.out | apply kept_t | refine Kept.setCell ?_ (.inr GW182.out) _ | refine Kept.setCell ?_ (.inr GW190.out) _ | refine Kept.setCell ?_ (.inr GW208.out) _) | exact HK.out)) hb)
                 have n6_ := Aside0.mk (below_step (by repeat (with_reducible first | exact HB.out | apply below_t | refine below_set ?_ GE182.out | refine below_set ?_ GE190.out | refine below_set ?_ GE208.out)) hb)
                 clear HO_0
                 clear BK182
                 clear BK190
                 clear BK208
                 clear HK
                 clear HB
                 have HO_0 := n0_
                 have HO212 := n1_
                 have BK182 := n2_
                 have BK190 := n3_
                 have BK208 := n4_
                 have HK := n5_
                 have HB := n6_
                 clear n0_ n1_ n2_ n3_ n4_ n5_ n6_
                 clear hb ho73
                 obtain ⟨Ao75, co75, eo75⟩ := Kd.R_slice HO212.out
                 (first | subst eo75 | (injection eo75 with f1_ f2_ f3_; have f4_ := f1_.symm; have f5_ := f3_.symm; clear f1_ f2_ f3_; subst f4_; subst f5_))
                 refine hK.out _ _ ⟨(blk_cell BK208.out 0).trans rfl, (blk_cell BK208.out 1).trans rfl, (blk_cell BK208.out 2).trans rfl⟩ (fun hHeld => ?_)
                 clear hK K
                 refine norm_ (a' := ?_) ?_ ?_
                 rotate_left
                 ·show Act.put _ (some 70) _ = _
                  simp only [Act.put, List.setIfInBounds_toArray, List.set_cons_zero, List.set_cons_succ, i64_w, i32_w]
                  rfl
                 refine one_ (i := 8) (N := some 71) #[true, true, true, true, true, true, true, true, true, false] rfl rfl (one_of HT_.out (by kernel_rfl)) (by decide) (fun K hK => ?_)
                 refine Kd.R_append_rows_step (Kd.int .u8) (w0 := w0) w0.heap.size (by rfl) (.tmp 63) (.tmp 70) 42 5 (.int .u8 0) 1 rfl Try.underlying42 info5 rfl (by decide) (by omega) u0 x0_4 y210 _ _ _ (fun k_ => (P0_ k_ ∨ w.heap.size ≤ k_) ∧ some k_ ≠ (.slice Ao75 y210.length co75 : Value).ownBlock) (fun _ => False) rfl rfl ?aO ?aR (fun _ _ h => h) (fun _ h => h.elim) ?aF ?aB ?aS ?aL ?_
                 (case aR => exact Kd.C_w (Kd.R_reads' HO212.out).2.2)
                 (case aB => exact (by repeat (with_reducible first | exact HB.out | apply below_t | refine below_set ?_ GE182.out | refine below_set ?_ GE190.out | refine below_set ?_ GE208.out)))
                 (case aF => exact (fun k_ hk => ⟨(.inr (Nat.le_trans (by first | exact HK.out.1 | exact (show Kept w _ (fun k_ => P0_ k_) from by repeat (first | (with_reducible first | exact HK.out | apply kept_t | refine Kept.setCell ?_ (.inr GW182.out) _ | refine Kept.setCell ?_ (.inr GW190.out) _ | refine Kept.setCell ?_ (.inr GW208.out) _) | exact HK.out)).1) hk)), Kd.fresh' (Kd.R_lt (by exact Kd.R_w HO212.out)) k_ hk⟩))
                 (case aO => exact (by exact Kd.R_w HO_0.out))
                 (case aS => exact (below_size (by repeat (with_reducible first | exact HB.out | apply below_t | refine below_set ?_ GE182.out | refine below_set ?_ GE190.out | refine below_set ?_ GE208.out))))
                 (case aL => have := LMc50.out; omega)
                 intro v214 w74 ho hb hg hat
                 rw [← Ny213.out] at ho
                 have n0_ := Aside0.mk (blk_grown (g := gb182) (o := .cells #[.int .i64 a1_0, .int .i64 a1_1, .int .i64 a1_2, .int .i64 a1_3, .slice (some ad207) l1_4.length c1_4, .bool a1_5] 39 (0, 0)) (by exact blk_w BK182.out) hg (Kd.R_ne HO_0.out BK182.out (by decide)))
                 have n1_ := Aside0.mk (blk_grown (g := gb190) (o := .cells #[.bool t186, .bool t187, .bool t188, .bool true] 113 (0, 0)) (by exact blk_w BK190.out) hg (Kd.R_ne HO_0.out BK190.out (by decide)))
                 have n2_ := Aside0.mk (blk_grown (g := gb208) (o := .cells #[.bool false, .int .i64 ((rd_T116 l1_4 x59_4).f1), .int .i64 ((rd_T116 l1_4 x59_4).f2)] 116 (0, 0)) (by exact blk_w BK208.out) hg (Kd.R_ne HO_0.out BK208.out (by decide)))
                 have n3_ := Aside0.mk (Kd.R_after (ok := (fun k_ => (P0_ k_ ∨ w.heap.size ≤ k_))) (by apply Kd.R_w; exact Kd.R_mono HO212.out (fun _ hk => ⟨hk.1.1, hk.2⟩)) hg hat)
                 have n4_ := Aside0.mk (hb)
                 have n5_ := Aside0.mk (Kept.of_grown (S := (fun k_ => P0_ k_)) hg (by repeat (first | (with_reducible first | exact HK.out | apply kept_t | refine Kept.setCell ?_ (.inr GW182.out) _ | refine Kept.setCell ?_ (.inr GW190.out) _ | refine Kept.setCell ?_ (.inr GW208.out) _) | exact HK.out)) (fun k_ e_ => (HO_0.out.1 k_ e_).1))
                 have n6_ := Aside0.mk (ho)
                 clear BK182
                 clear BK190
                 clear BK208
                 clear HO212
                 clear HB
                 clear HK
                 clear HO_0
                 have BK182 := n0_
                 have BK190 := n1_
                 have BK208 := n2_
                 have HO212 := n3_
                 have HB := n4_
                 have HK := n5_
                 have HO215 := n6_
                 clear n0_ n1_ n2_ n3_ n4_ n5_ n6_
                 clear ho hb hg hat
                 refine hK.out _ _ ⟨(blk_cell BK208.out 0).trans rfl, (blk_cell BK208.out 1).trans rfl, (blk_cell BK208.out 2).trans rfl⟩ (fun hHeld => ?_)
                 clear hK K
                 refine norm_ (a' := ?_) ?_ ?_
                 rotate_left
                 ·show Act.put _ (some 71) _ = _
                  simp only [Act.put, List.setIfInBounds_toArray, List.set_cons_zero, List.set_cons_succ, i64_w, i32_w]
                  rfl
                 refine pure_ (i := 9) (N := some 0) (v := ?_) (a' := ?_) #[true, true, true, true, true, true, true, true, true, true] rfl rfl (any_of HT_.out (by kernel_rfl)) (fun _ _ _ h => h) (Or.inl ⟨by rfl, ?_⟩) ?_ ?_
                 rotate_left
                 ·intro w'
                  go_simp
                  with_reducible rfl
                 rotate_left
                 ·simp only [Act.put, List.setIfInBounds_toArray, List.set_cons_zero, List.set_cons_succ, i64_w, i32_w]
                  rfl
                 refine done_ (done_of HT_.out (by kernel_rfl)) ?_
                 have hcz76 := blk3 BK208.out
                 try go_wp2
                 go_roundg k4
                 case measure => have := HJ4.out; have := HJ18.out; have := HJ26.out; have := HK4.out; omega
                 case rel => exact ⟨(y213), (wrap64 (x59_4 + 1)), (by first | rfl | (simp; done) | (simp [*]; done)), H', ⟨by have := HJ4.out; have := HJ18.out; have := HJ26.out; have := HK4.out; omega⟩, ⟨by apply Kd.R_w; exact Kd.R_mono HO215.out (fun _ hk => hk.1)⟩, ⟨by exact blk_w BK182.out⟩, ⟨by exact blk_w BK190.out⟩, ⟨by repeat (first | (with_reducible first | exact HK.out | apply kept_t | refine Kept.setCell ?_ (.inr GW182.out) _ | refine Kept.setCell ?_ (.inr GW190.out) _ | refine Kept.setCell ?_ (.inr GW208.out) _) | exact HK.out)⟩, ⟨by repeat (with_reducible first | exact HB.out | apply below_t | refine below_set ?_ GE182.out | refine below_set ?_ GE190.out | refine below_set ?_ GE208.out)⟩⟩
               ·rw [if_neg c50] at H
                exact absurd H (by simp)
              ·rw [if_neg c48] at H
               exact absurd H (by simp)
             ·rw [if_neg c47] at H
              exact absurd H (by simp)
            ·rw [if_neg c46] at H
             have c46b0 : decide (x59_4 < (l1_4.length : Int)) = false := decide_eq_false c46
             clear c46
             obtain rfl := Option.some.inj H
             go_wp2
             go_ret
             exact ⟨_, by first | rfl | (simp [errW_none, errW_some] <;> rfl) | (simp [*, errW_none, errW_some] <;> rfl), by apply Kd.R_w; exact HO_0.out, by repeat (with_reducible first | exact HB.out | apply below_t | refine below_set ?_ GE182.out | refine below_set ?_ GE190.out), by repeat (first | (with_reducible first | exact HK.out | apply kept_t | refine Kept.setCell ?_ (.inr GW182.out) _ | refine Kept.setCell ?_ (.inr GW190.out) _) | exact HK.out)⟩
         ·rw [if_neg c37] at H
          exact absurd H (by simp)
        ·replace c35 := Bool.eq_false_iff.mpr c35
         subst c35
         have H1 : (some x0_26) = some r := by rw [if_neg (show ¬ (false = true) by decide)] at H; exact H
         clear H
         have H := H1
         clear H1
         obtain rfl := Option.some.inj H
         have hnb77 := NB190_182.out
         have hnc77 := NB182_190.out
         have hcz78 := blk4 BK190.out
         go_wp2
         go_ret
         exact ⟨_, by first | rfl | (simp [errW_none, errW_some] <;> rfl) | (simp [*, errW_none, errW_some] <;> rfl), by apply Kd.R_w; exact HO_0.out, by repeat (with_reducible first | exact HB.out | apply below_t | refine below_set ?_ GE182.out | refine below_set ?_ GE190.out), by repeat (first | (with_reducible first | exact HK.out | apply kept_t | refine Kept.setCell ?_ (.inr GW182.out) _ | refine Kept.setCell ?_ (.inr GW190.out) _) | exact HK.out)⟩
 ·rw [if_neg c3] at H
  exact absurd H (by simp)

end Go.Proofs.Ytjmpaeckpbpclaa.PPlK
