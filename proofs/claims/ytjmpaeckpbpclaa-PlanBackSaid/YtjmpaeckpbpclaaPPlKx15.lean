-- Out of the translation, by a program of this session.
import Derived.Test.YtjmpaeckpbpclaaWShort
import Derived.Test.YtjmpaeckpbpclaaPPlKx0
import Derived.Test.YtjmpaeckpbpclaaPPlKx8
import Derived.Test.YtjmpaeckpbpclaaPPlKx14
namespace Go.Proofs.Ytjmpaeckpbpclaa.PPlK
open Go.RowKit Go.Proofs.YtjmpaeckpbpclaaW.PrintWords Go.Proofs.YtjmpaeckpbpclaaW.PrintLast Go.Proofs.YtjmpaeckpbpclaaW.PrintMore
attribute [local go_sem] max2_int min2_int max_two min_two max_three min_three max_four min_four   -- for this text's walks alone
set_option linter.unusedVariables false
set_option linter.unusedSimpArgs false

/-! ### handoffref10_Decode: function 29 -/
mutual
def handoffref10_Decode.l0 : Nat → List Int → List (List (S39)) → Int → Int → Option ((List (List (S39))) × Int)
  | 0, _, _, _, _ => none
  | k + 1, x0, x4, x5, x6 => (handoffref10_at.f x0 0).bind fun t306 => (if x6 < (wrap64 ((Int.tmod t306 8) + 1)) then ((handoffref10_at.f x0 x5).bind fun t310 => (handoffref10_Decode.l1 k x0 x4 (wrap64 (x5 + 1)) x6 (([] : List (S39))) (Int.tmod t310 17) 0)) else (some (x4, mn x5 (x0.length : Int))))
def handoffref10_Decode.l1 : Nat → List Int → List (List (S39)) → Int → Int → List (S39) → Int → Int → Option ((List (List (S39))) × Int)
  | 0, _, _, _, _, _, _, _ => none
  | k + 1, x0, x4, x5, x6, x7, x8, x9 => if x9 < x8 then ((handoffref10_one.f k x0 x5).bind fun bt311 => (if x7.length < 2199023255552 then (handoffref10_Decode.l1 k x0 x4 bt311.2.2.2.2.2.2 x6 (x7 ++ [(⟨bt311.1, bt311.2.1, bt311.2.2.1, bt311.2.2.2.1, bt311.2.2.2.2.1, bt311.2.2.2.2.2.1⟩ : S39)]) x8 (wrap64 (x9 + 1))) else (none))) else (if x4.length < 5864062014805 then (handoffref10_Decode.l0 k x0 (x4 ++ [x7]) x5 (wrap64 (x6 + 1))) else (none))
end
def handoffref10_Decode.f (k : Nat) (l0 : List Int) : Option ((List (List (S39))) × Int) := handoffref10_Decode.l0 k l0 (([] : List (List (S39)))) 1 0
theorem handoffref10_Decode.mono_l : ∀ k, (∀ y0 y1 y2 y3, LeO (handoffref10_Decode.l0 k y0 y1 y2 y3) (handoffref10_Decode.l0 (k + 1) y0 y1 y2 y3)) ∧ (∀ y0 y1 y2 y3 y4 y5 y6, LeO (handoffref10_Decode.l1 k y0 y1 y2 y3 y4 y5 y6) (handoffref10_Decode.l1 (k + 1) y0 y1 y2 y3 y4 y5 y6))
 | 0 => ⟨fun _ _ _ _ r h => by simp [handoffref10_Decode.l0] at h, fun _ _ _ _ _ _ _ r h => by simp [handoffref10_Decode.l1] at h⟩
 | k + 1 => by
  obtain ⟨ih0, ih1⟩ := handoffref10_Decode.mono_l k
  refine ⟨?_, ?_⟩
  all_goals intros
  all_goals first | unfold handoffref10_Decode.l0 | unfold handoffref10_Decode.l1
  all_goals (repeat' first | with_reducible first | apply ih0 | apply ih1 | exact handoffref10_one.mono _ _ _ | exact LeO.refl _ | exact LeO.none _ | refine LeO.ite ?_ ?_ | refine LeO.bind ?_ (fun _ => ?_) | apply ih0 | apply ih1 | exact handoffref10_one.mono _ _ _ | exact LeO.none _ | refine LeO.ite ?_ ?_ | refine LeO.bind ?_ (fun _ => ?_))
theorem handoffref10_Decode.mono : ∀ a0 k, LeO (handoffref10_Decode.f k a0) (handoffref10_Decode.f (k + 1) a0) := by
 intro a0 k
 obtain ⟨ih0, ih1⟩ := handoffref10_Decode.mono_l k
 unfold handoffref10_Decode.f
 repeat' first | with_reducible first | apply ih0 | apply ih1 | exact handoffref10_one.mono _ _ _ | exact LeO.refl _ | exact LeO.none _ | refine LeO.ite ?_ ?_ | refine LeO.bind ?_ (fun _ => ?_) | apply ih0 | apply ih1 | exact handoffref10_one.mono _ _ _ | exact LeO.none _ | refine LeO.ite ?_ ?_ | refine LeO.bind ?_ (fun _ => ?_)
set_option maxHeartbeats 8000000 in
set_option maxRecDepth 100000 in
theorem handoffref10_Decode.calls (k : Nat) (A0 : Option Addr) (c0 : Nat) (l0 : List Int) (r1 : List (List (S39))) (r2 : Int) (w : World) (hr0 : Kd.C (Kd.int .u8) w A0 l0.length l0) (hc0 : l0.length ≤ c0) (h : handoffref10_Decode.f k l0 = some (r1, r2)) :
  Calls Try.prog 29 #[.slice A0 l0.length c0] w fun e w' => ∃ v0_ : Value, e = .returned (.tuple #[v0_, .int .i64 r2]) ∧ Kd.R (Kd.slice 39 k39) 111 w' w.heap.size (fun _ => True) v0_ r1 ∧ Below w.heap.size w w' := by
 have hu39 := Try.underlying39
 have HR0 := Aside0.mk hr0
 have HC0 := Aside0.mk hc0
 clear hr0 hc0
 have HB := Aside0.mk (Below.refl w.heap.size w)
 have H : (handoffref10_Decode.l0 k l0 (([] : List (List (S39)))) 1 0) = some (r1, r2) := h
 clear h
 obtain ⟨y303, hy303⟩ : ∃ y_ : List (List (S39)), y_ = (([] : List (List (S39)))) := ⟨_, rfl⟩
 replace H : (handoffref10_Decode.l0 k l0 y303 1 0) = some (r1, r2) := by first | (rw [hy303]; with_reducible exact H) | (have H2_ := (Option.bind_some _ _).symm.trans H; rw [hy303]; with_reducible exact H2_) | (have H2_ := (Option.bind_some _ _).symm.trans H; with_reducible exact H2_) | with_reducible exact H | (rw [hy303]; exact H) | exact H
 have Ny303 := Aside0.mk hy303
 clear hy303
 have H' := Aside0.mk H
 clear H
 go_enter Try.func29, Try.ntmps29
 go_wp2_with (first | ((with_reducible refine gate_dst (N := 12) rfl ?_); refine Kd.R_lit (Kd.slice 39 k39) _ 111 ?hg (N := 12) ?hd (xs := ([] : List (List (S39)))) (inner := []) (ok := fun _ => True) (okp := fun _ => True) ?hr ?hp (fun _ hk => hk) trivial (Below.refl _ _) (Nat.le_refl _) (by simp) ?_; (case hd => rfl); (case hg => rfl); (case hr => first | (go_simp; done) | (go_simp; rfl)); (case hp => exact (Reps.none _ _)); intro v304 w2 ho3 hb hg_ hnew_; clear hg_ hnew_; (first | rw [← Ny303.out] at ho3 | (simp only [Int.reduceToNat] at ho3; rw [← Ny303.out] at ho3)); have n0_ := Aside0.mk (Kd.R_lower ho3 (below_size (below_w HB.out))); have n1_ := Aside0.mk (below_step (below_w HB.out) hb); clear HB; have HO305 := n0_; have HB := n1_; clear n0_ n1_; clear hb ho3))
 go_loopg [4, 5, 6] k (fun kq v4 v5 v6 w' => ∃ (x4_1 : List (List (S39))) (x5_1 : Int) (x6_1 : Int), v5 = .int .i64 x5_1 ∧ v6 = .int .i64 x6_1 ∧ Aside0 (handoffref10_Decode.l0 kq l0 x4_1 x5_1 x6_1 = some (r1, r2)) ∧ Aside0 (kq ≤ k) ∧ Aside0 (Kd.R (Kd.slice 39 k39) 111 w' w.heap.size (fun _ => True) v4 x4_1) ∧ Aside0 (Below w.heap.size w w'))
 case atStart => exact ⟨(y303), (1), (0), (by first | rfl | (simp; done) | (simp [*]; done)), (by first | rfl | (simp; done) | (simp [*]; done)), H', ⟨Nat.le_refl _⟩, ⟨by exact Kd.R_w HO305.out⟩, ⟨below_w HB.out⟩⟩
 case round =>
  clear H'
  obtain ⟨x4_1, x5_1, x6_1, rfl, rfl, HA, HK1, HO_4, HB⟩ := hrel
  cases gk with
  | zero => exact absurd HA.out (by simp [handoffref10_Decode.l0])
  | succ k1 =>
   have H := HA.out
   clear HA
   simp only [handoffref10_Decode.l0] at H
   replace H := Option.bind_eq_some_iff.mp H
   obtain ⟨t306, A40, H⟩ := H
   try dsimp only at H
   have A4 := Aside0.mk A40
   clear A40
   by_cases c5 : x6_1 < (wrap64 ((Int.tmod t306 8) + 1))
   ·rw [if_pos c5] at H
    have c5b0 : decide (x6_1 < (wrap64 ((Int.tmod t306 8) + 1))) = true := decide_eq_true c5
    clear c5
    obtain ⟨y307, hy307⟩ : ∃ y_ : List (S39), y_ = (([] : List (S39))) := ⟨_, rfl⟩
    replace H : ((handoffref10_at.f l0 x5_1).bind fun t310 => (handoffref10_Decode.l1 k1 l0 x4_1 (wrap64 (x5_1 + 1)) x6_1 y307 (Int.tmod t310 17) 0)) = some (r1, r2) := by first | (rw [hy307]; with_reducible exact H) | (have H2_ := (Option.bind_some _ _).symm.trans H; rw [hy307]; with_reducible exact H2_) | (have H2_ := (Option.bind_some _ _).symm.trans H; with_reducible exact H2_) | with_reducible exact H | (rw [hy307]; exact H) | exact H
    have Ny307 := Aside0.mk hy307
    clear hy307
    replace H := Option.bind_eq_some_iff.mp H
    obtain ⟨t310, A60, H⟩ := H
    try dsimp only at H
    have A6 := Aside0.mk A60
    clear A60
    have H' := Aside0.mk H
    clear H
    go_wp2_with (first | ((with_reducible refine gate_callee (f := 72) rfl ?_); refine goesL_ (some 15) rfl rfl Try.func72 (by kernel_rfl) rfl #[.slice A0 l0.length c0, .int .i64 0] rfl (by (try simp only [List.map_toArray, List.map_cons, List.map_nil]); first | done | rfl | simp) ?_; (with_reducible refine (handoffref10_at.calls _ _ l0 0 t306 _ ?side1 ?side2 A4.out).mono ?_); (case side1 => exact Kd.C_w (Kd.C_below HR0.out HB.out)); (case side2 => exact HC0.out); rintro e w7 ⟨rfl, hb⟩; refine ⟨_, rfl, ?_⟩; have n0_ := Aside0.mk (Kd.R_below (by exact Kd.R_w HO_4.out) hb); have n1_ := Aside0.mk (below_step (below_w HB.out) hb); clear HO_4; clear HB; have HO_4 := n0_; have HB := n1_; clear n0_ n1_; (try clear hb); (try clear hb2); (try clear hk); (try clear hi)) | ((with_reducible refine gate_dst (N := 21) rfl ?_); refine Kd.S_lit k39 _ 39 ?hg (N := 21) ?hd (xs := ([] : List (S39))) (inner := []) (ok := fun _ => True) (okp := fun _ => True) ?hr ?hp (fun _ hk => hk) trivial (Below.refl _ _) (Nat.le_refl _) (by simp) ?_; (case hd => rfl); (case hg => rfl); (case hr => first | (go_simp; done) | (go_simp; rfl)); (case hp => exact (Reps.none _ _)); intro v308 w8 ho9 hb hg_ hnew_; clear hg_ hnew_; (first | rw [← Ny307.out] at ho9 | (simp only [Int.reduceToNat] at ho9; rw [← Ny307.out] at ho9)); have n0_ := Aside0.mk (Kd.R_elder' (by exact Kd.R_w HO_4.out) (Kd.S_base ho9) hb); have n1_ := Aside0.mk (Kd.S_lower ho9 (below_size (below_w HB.out))); have n2_ := Aside0.mk (below_step (below_w HB.out) hb); clear HO_4; clear HB; have HO_4 := n0_; have HO309 := n1_; have HB := n2_; clear n0_ n1_ n2_; clear hb ho9) | ((with_reducible refine gate_callee (f := 72) rfl ?_); refine goesL_ (some 24) rfl rfl Try.func72 (by kernel_rfl) rfl #[.slice A0 l0.length c0, .int .i64 x5_1] rfl (by (try simp only [List.map_toArray, List.map_cons, List.map_nil]); first | done | rfl | simp) ?_; (with_reducible refine (handoffref10_at.calls _ _ l0 x5_1 t310 _ ?side1 ?side2 A6.out).mono ?_); (case side1 => exact Kd.C_w (Kd.C_below HR0.out HB.out)); (case side2 => exact HC0.out); rintro e w10 ⟨rfl, hb⟩; refine ⟨_, rfl, ?_⟩; have n0_ := Aside0.mk (Kd.R_below (by exact Kd.R_w HO_4.out) hb); have n1_ := Aside0.mk (Kd.S_below (by exact Kd.S_w HO309.out) hb); have n2_ := Aside0.mk (below_step (below_w HB.out) hb); clear HO_4; clear HO309; clear HB; have HO_4 := n0_; have HO309 := n1_; have HB := n2_; clear n0_ n1_ n2_; (try clear hb); (try clear hb2); (try clear hk); (try clear hi)))
    go_loopg [5, 7, 9] k1 (fun kq v5 v7 v9 w' => ∃ (x5_2 : Int) (x7_2 : List (S39)) (x9_2 : Int), v5 = .int .i64 x5_2 ∧ v9 = .int .i64 x9_2 ∧ Aside0 (handoffref10_Decode.l1 kq l0 x4_1 x5_2 x6_1 x7_2 (Int.tmod t310 17) x9_2 = some (r1, r2)) ∧ Aside0 (kq ≤ k1) ∧ Aside0 (Kd.R (Kd.slice 39 k39) 111 w' w.heap.size (fun k_ => some k_ ≠ (v7 : Value).ownBlock) u4 x4_1) ∧ Aside0 (Kd.S k39 39 w' w.heap.size (fun _ => True) v7 x7_2) ∧ Aside0 (Below w.heap.size w w'))
    case atStart => exact ⟨(wrap64 (x5_1 + 1)), (y307), (0), (by first | rfl | (simp; done) | (simp [*]; done)), (by first | rfl | (simp; done) | (simp [*]; done)), H', ⟨Nat.le_refl _⟩, ⟨by apply Kd.R_w; exact Kd.R_mono HO_4.out (fun _ hk => hk.2)⟩, ⟨by exact Kd.S_w HO309.out⟩, ⟨below_w HB.out⟩⟩
    case round =>
     clear H'
     try clear c5b0
     obtain ⟨x5_2, x7_2, x9_2, rfl, rfl, HA, HK2, HO_4, HO_7, HB⟩ := hrel
     cases gk with
     | zero => exact absurd HA.out (by simp [handoffref10_Decode.l1])
     | succ k2 =>
      have H := HA.out
      clear HA
      simp only [handoffref10_Decode.l1] at H
      by_cases c11 : x9_2 < (Int.tmod t310 17)
      ·rw [if_pos c11] at H
       have c11b0 : decide (x9_2 < (Int.tmod t310 17)) = true := decide_eq_true c11
       clear c11
       replace H := Option.bind_eq_some_iff.mp H
       obtain ⟨⟨t311, t312, t313, t314, t315, t318, t319⟩, A120, H⟩ := H
       try dsimp only at H
       have A12 := Aside0.mk A120
       clear A120
       by_cases c13 : x7_2.length < 2199023255552
       ·rw [if_pos c13] at H
        have LMc13 := Aside0.mk c13
        clear c13
        obtain ⟨y321, hy321⟩ : ∃ y_ : List (S39), y_ = (x7_2 ++ [(⟨t311, t312, t313, t314, t315, t318⟩ : S39)]) := ⟨_, rfl⟩
        replace H : (handoffref10_Decode.l1 k2 l0 x4_1 t319 x6_1 y321 (Int.tmod t310 17) (wrap64 (x9_2 + 1))) = some (r1, r2) := by first | (rw [hy321]; with_reducible exact H) | (have H2_ := (Option.bind_some _ _).symm.trans H; rw [hy321]; with_reducible exact H2_) | (have H2_ := (Option.bind_some _ _).symm.trans H; with_reducible exact H2_) | with_reducible exact H | (rw [hy321]; exact H) | exact H
        have Ny321 := Aside0.mk hy321
        clear hy321
        have H' := Aside0.mk H
        clear H
        go_wp2_with (first | ((with_reducible refine gate_callee (f := 73) rfl ?_); refine goesL_ (some 36) rfl rfl Try.func73 (by kernel_rfl) rfl #[.slice A0 l0.length c0, .int .i64 x5_2] rfl (by (try simp only [List.map_toArray, List.map_cons, List.map_nil]); first | done | rfl | simp) ?_; (with_reducible refine (handoffref10_one.calls k2 _ _ l0 x5_2 t311 t312 t313 t314 t315 t318 t319 _ ?side1 ?side2 A12.out).mono ?_); (case side1 => exact Kd.C_w (Kd.C_below HR0.out HB.out)); (case side2 => exact HC0.out); rintro e w14 ⟨v316, rfl, ho0, hb⟩; refine ⟨_, rfl, ?_⟩; have n0_ := Aside0.mk (Kd.R_elder' (by exact Kd.R_w HO_4.out) (Kd.R_base ho0) hb); have n1_ := Aside0.mk (Kd.S_elder' (by exact Kd.S_w HO_7.out) (Kd.R_base ho0) hb); have n2_ := Aside0.mk (Kd.R_lower ho0 (below_size (below_w HB.out))); have n3_ := Aside0.mk (below_step (below_w HB.out) hb); clear HO_4; clear HO_7; clear HB; have HO_4 := n0_; have HO_7 := n1_; have HO317 := n2_; have HB := n3_; clear n0_ n1_ n2_ n3_; (try clear hb); (try clear hb2); (try clear hk); (try clear hi); (try clear ho0)) | ((with_reducible refine gate_dst (N := 10) rfl ?_); refine box_event ?hg (N := 10) ?hd (cs := #[.int .i64 0, .int .i64 0, .int .i64 0, .int .i64 0, .slice none 0 0, .bool false]) (t := 39) ?hr ?_; (case hd => rfl); (case hg => rfl); (case hr => first | (go_simp; done) | (go_simp; rfl)); intro gb320 hg w15 hbox hb; have n0_ := Aside0.mk (Kd.R_below (Kd.R_elderB (by exact Kd.R_w HO_4.out) gb320 (Nat.le_of_eq hg.symm)) hb); have n1_ := Aside0.mk (Kd.S_below (Kd.S_elderB (by exact Kd.S_w HO_7.out) gb320 (Nat.le_of_eq hg.symm)) hb); have n2_ := Aside0.mk (Kd.R_below (by exact Kd.R_w HO317.out) hb); have n3_ := Aside0.mk (below_step (below_w HB.out) hb); have n4_ := Aside0.mk (hbox); have n5_ := Aside0.mk ((by rw [hg]; exact (below_size (below_w HB.out)) : w.heap.size ≤ gb320)); have n6_ := Aside0.mk ((by rw [hg]; exact (below_size (below_w HB.out)) : w.heap.size ≤ gb320)); clear HO_4; clear HO_7; clear HO317; clear HB; have HO_4 := n0_; have HO_7 := n1_; have HO317 := n2_; have HB := n3_; have BK320 := n4_; have GW320 := n5_; have GE320 := n6_; clear n0_ n1_ n2_ n3_ n4_ n5_ n6_; clear hb hbox hg; have hcz16 := blk6 BK320.out; obtain ⟨Ao17, co17, eo17⟩ := Kd.R_slice HO317.out; subst eo17) | ((with_reducible refine gate_store (t := 39) (p := 10) rfl ?_); refine store_event (t := 39) (p := 10) (v := ?vo_w18) (w1 := ((((((w15.setCell ⟨gb320, 0, none⟩ (.int .i64 t311)).setCell ⟨gb320, 1, none⟩ (.int .i64 t312)).setCell ⟨gb320, 2, none⟩ (.int .i64 t313)).setCell ⟨gb320, 3, none⟩ (.int .i64 t314)).setCell ⟨gb320, 4, none⟩ (.slice Ao17 t315.length co17)).setCell ⟨gb320, 5, none⟩ (.bool t318))) ?hg ?ho ?hn ?hr ?_; (case ho => rfl); (case hg => rfl); (case hn => rfl); (case hr => first | (go_simp; done) | (go_simp; rfl)); intro w18 hw; have n0_ : Aside0 (Kd.R (Kd.slice 39 k39) 111 w18 w.heap.size (fun k_ => some k_ ≠ (u7 : Value).ownBlock ∧ some k_ ≠ (.slice Ao17 t315.length co17 : Value).ownBlock ∧ k_ ≠ gb320) u4 x4_1) := ⟨(by rw [hw]; exact (by apply Kd.R_w; exact Kd.R_mono (Kd.R_far (p := ⟨gb320, 5, none⟩) (Kd.R_far (p := ⟨gb320, 4, none⟩) (Kd.R_far (p := ⟨gb320, 3, none⟩) (Kd.R_far (p := ⟨gb320, 2, none⟩) (Kd.R_far (p := ⟨gb320, 1, none⟩) (Kd.R_far (p := ⟨gb320, 0, none⟩) (Kd.R_mono HO_4.out (fun k_ hk => (⟨hk, hk.2⟩ : _ ∧ k_ ≠ gb320))) (fun _ hk => hk.2) (.int .i64 t311)) (fun _ hk => hk.2) (.int .i64 t312)) (fun _ hk => hk.2) (.int .i64 t313)) (fun _ hk => hk.2) (.int .i64 t314)) (fun _ hk => hk.2) (.slice Ao17 t315.length co17)) (fun _ hk => hk.2) (.bool t318)) (fun _ hk => ⟨hk.1.1.1, ⟨hk.1.1.2, hk.1.2⟩⟩)))⟩; have n1_ : Aside0 (Kd.S k39 39 w18 w.heap.size (fun k_ => some k_ ≠ (.slice Ao17 t315.length co17 : Value).ownBlock ∧ k_ ≠ gb320) u7 x7_2) := ⟨(by rw [hw]; exact (by apply Kd.S_w; exact Kd.S_mono (Kd.S_far (p := ⟨gb320, 5, none⟩) (Kd.S_far (p := ⟨gb320, 4, none⟩) (Kd.S_far (p := ⟨gb320, 3, none⟩) (Kd.S_far (p := ⟨gb320, 2, none⟩) (Kd.S_far (p := ⟨gb320, 1, none⟩) (Kd.S_far (p := ⟨gb320, 0, none⟩) (Kd.S_mono HO_7.out (fun k_ hk => (⟨hk, hk.2⟩ : _ ∧ k_ ≠ gb320))) (fun _ hk => hk.2) (.int .i64 t311)) (fun _ hk => hk.2) (.int .i64 t312)) (fun _ hk => hk.2) (.int .i64 t313)) (fun _ hk => hk.2) (.int .i64 t314)) (fun _ hk => hk.2) (.slice Ao17 t315.length co17)) (fun _ hk => hk.2) (.bool t318)) (fun _ hk => ⟨hk.1.1.2, hk.1.2⟩)))⟩; have n2_ : Aside0 (Kd.R k116 116 w18 w.heap.size (fun _ => True) (.slice Ao17 t315.length co17) t315) := ⟨(by rw [hw]; exact (by apply Kd.R_w; exact Kd.R_mono (Kd.R_far (p := ⟨gb320, 5, none⟩) (Kd.R_far (p := ⟨gb320, 4, none⟩) (Kd.R_far (p := ⟨gb320, 3, none⟩) (Kd.R_far (p := ⟨gb320, 2, none⟩) (Kd.R_far (p := ⟨gb320, 1, none⟩) (Kd.R_far (p := ⟨gb320, 0, none⟩) (Kd.R_types HO317.out BK320.out (by decide)) (fun _ hk => hk.2) (.int .i64 t311)) (fun _ hk => hk.2) (.int .i64 t312)) (fun _ hk => hk.2) (.int .i64 t313)) (fun _ hk => hk.2) (.int .i64 t314)) (fun _ hk => hk.2) (.slice Ao17 t315.length co17)) (fun _ hk => hk.2) (.bool t318)) (fun _ hk => trivial)))⟩; have n3_ : Aside0 (w18.heap[gb320]? = some (.cells #[.int .i64 t311, .int .i64 t312, .int .i64 t313, .int .i64 t314, .slice Ao17 t315.length co17, .bool t318] 39 (0, 0))) := ⟨(by rw [hw]; exact (by refine blk_w ?_; refine blk_put (cs := #[.int .i64 t311, .int .i64 t312, .int .i64 t313, .int .i64 t314, .slice Ao17 t315.length co17, .bool false]) ?_ 5 _ rfl; refine blk_w ?_; refine blk_put (cs := #[.int .i64 t311, .int .i64 t312, .int .i64 t313, .int .i64 t314, .slice none 0 0, .bool false]) ?_ 4 _ rfl; refine blk_w ?_; refine blk_put (cs := #[.int .i64 t311, .int .i64 t312, .int .i64 t313, .int .i64 0, .slice none 0 0, .bool false]) ?_ 3 _ rfl; refine blk_w ?_; refine blk_put (cs := #[.int .i64 t311, .int .i64 t312, .int .i64 0, .int .i64 0, .slice none 0 0, .bool false]) ?_ 2 _ rfl; refine blk_w ?_; refine blk_put (cs := #[.int .i64 t311, .int .i64 0, .int .i64 0, .int .i64 0, .slice none 0 0, .bool false]) ?_ 1 _ rfl; refine blk_w ?_; refine blk_put (cs := #[.int .i64 0, .int .i64 0, .int .i64 0, .int .i64 0, .slice none 0 0, .bool false]) ?_ 0 _ rfl; exact blk_w BK320.out))⟩; have n4_ : Aside0 (Below w.heap.size w w18) := ⟨(by rw [hw]; exact (by repeat (with_reducible first | exact HB.out | apply below_t | refine below_set ?_ GE320.out)))⟩; clear hw; clear HO_4; clear HO_7; clear HO317; clear BK320; clear HB; have HO_4 := n0_; have HO_7 := n1_; have HO317 := n2_; have BK320 := n3_; have HB := n4_; clear n0_ n1_ n2_ n3_ n4_; have hcz19 := blk6 BK320.out) | ((with_reducible refine gate_builtin (b := .append) (xs := #[.tmp 39, .tmp 41]) rfl ?_); at_builtin; refine Kd.S_append k39 (w0 := w) w.heap.size rfl (.tmp 39) (.tmp 41) 111 39 (.agg #[(.int .i64 0), (.int .i64 0), (.int .i64 0), (.int .i64 0), (.slice none 0 0), (.bool false)]) 64 rfl Try.underlying111 info39 rfl (by decide) (by omega) u7 x7_2 (⟨t311, t312, t313, t314, t315, t318⟩ : S39) [.int .i64 t311, .int .i64 t312, .int .i64 t313, .int .i64 t314, .slice Ao17 t315.length co17, .bool t318] (fun k_ => k_ ≠ gb320) (fun k_ => some k_ = (.slice Ao17 t315.length co17 : Value).ownBlock) rfl rfl ?aP (fun k_ hk_ => ((Kd.R_mono (ok' := fun k_ => ((fun k_ => k_ ≠ gb320)) k_ ∧ some k_ ≠ (u7 : Value).ownBlock) (Kd.R_types (Kd.R_apart' (HO317.out) (Kd.S_typed HO_7.out) (by decide)) BK320.out (by decide)) (fun k_ hk => ⟨hk.2, hk.1.2⟩))).1 k_ hk_.symm) ?aF ?aO ?aB ?aS ?aL ?_; (case aP => exact k39_mkM _ _ _ (⟨t311, t312, t313, t314, t315, t318⟩ : S39) (Kd.R_mono (Kd.R_tight rfl (Kd.R_mono (ok' := fun k_ => ((fun k_ => k_ ≠ gb320)) k_ ∧ some k_ ≠ (u7 : Value).ownBlock) (Kd.R_types (Kd.R_apart' (HO317.out) (Kd.S_typed HO_7.out) (by decide)) BK320.out (by decide)) (fun k_ hk => ⟨hk.2, hk.1.2⟩))) (fun _ h_ => h_))); (case aB => exact (by repeat (with_reducible first | exact HB.out | apply below_t | refine below_set ?_ GE320.out))); (case aF => exact (fun k_ hk => Kd.freshB (g := gb320) (o := .cells #[.int .i64 t311, .int .i64 t312, .int .i64 t313, .int .i64 t314, .slice Ao17 t315.length co17, .bool t318] 39 (0, 0)) (by exact blk_w BK320.out) k_ hk)); (case aO => exact (by apply Kd.S_w; exact Kd.S_mono HO_7.out (fun k_ hk => ⟨hk.2, fun e_ => hk.1 e_⟩))); (case aS => exact (below_size (by repeat (with_reducible first | exact HB.out | apply below_t | refine below_set ?_ GE320.out)))); (case aL => have := LMc13.out; omega); intro v322 w20 ho hb hg hat; rw [← Ny321.out] at ho; have n0_ := Aside0.mk (Kd.R_after (ok := (fun k_ => some k_ ≠ (.slice Ao17 t315.length co17 : Value).ownBlock ∧ k_ ≠ gb320)) (by apply Kd.R_w; exact Kd.R_mono HO_4.out (fun _ hk => ⟨⟨hk.2.1, hk.2.2⟩, hk.1⟩)) hg hat); have n1_ := Aside0.mk (blk_grown (g := gb320) (o := .cells #[.int .i64 t311, .int .i64 t312, .int .i64 t313, .int .i64 t314, .slice Ao17 t315.length co17, .bool t318] 39 (0, 0)) (by exact blk_w BK320.out) hg (Kd.S_away HO_7.out (fun _ hk => hk.2))); have n2_ := Aside0.mk (hb); have n3_ := Aside0.mk (ho); clear HO_4; clear BK320; clear HB; clear HO_7; clear HO317; have HO_4 := n0_; have BK320 := n1_; have HB := n2_; have HO323 := n3_; clear n0_ n1_ n2_ n3_; clear ho hb hg hat))
        go_roundg k2
        case measure => have := HK1.out; have := HK2.out; omega
        case rel => exact ⟨(t319), (y321), (wrap64 (x9_2 + 1)), (by first | rfl | (simp; done) | (simp [*]; done)), (by first | rfl | (simp; done) | (simp [*]; done)), H', ⟨by have := HK1.out; have := HK2.out; omega⟩, ⟨by apply Kd.R_w; exact Kd.R_mono HO_4.out (fun _ hk => hk.2)⟩, ⟨by apply Kd.S_w; exact Kd.S_mono HO323.out (fun _ hk => trivial)⟩, ⟨by repeat (with_reducible first | exact HB.out | apply below_t | refine below_set ?_ GE320.out)⟩⟩
       ·rw [if_neg c13] at H
        exact absurd H (by simp)
      ·rw [if_neg c11] at H
       have c11b0 : decide (x9_2 < (Int.tmod t310 17)) = false := decide_eq_false c11
       clear c11
       by_cases c21 : x4_1.length < 5864062014805
       ·rw [if_pos c21] at H
        have LMc21 := Aside0.mk c21
        clear c21
        obtain ⟨y324, hy324⟩ : ∃ y_ : List (List (S39)), y_ = (x4_1 ++ [x7_2]) := ⟨_, rfl⟩
        replace H : (handoffref10_Decode.l0 k2 l0 y324 x5_2 (wrap64 (x6_1 + 1))) = some (r1, r2) := by first | (rw [hy324]; with_reducible exact H) | (have H2_ := (Option.bind_some _ _).symm.trans H; rw [hy324]; with_reducible exact H2_) | (have H2_ := (Option.bind_some _ _).symm.trans H; with_reducible exact H2_) | with_reducible exact H | (rw [hy324]; exact H) | exact H
        have Ny324 := Aside0.mk hy324
        clear hy324
        have H' := Aside0.mk H
        clear H
        obtain ⟨Ao23, co23, eo23⟩ := Kd.S_slice HO_7.out
        subst eo23
        go_wp2_with (first | ((with_reducible refine gate_builtin (b := .append) (xs := #[.tmp 44, .tmp 46]) rfl ?_); at_builtin; refine Kd.R_append (Kd.slice 39 k39) (w0 := w) w.heap.size rfl (.tmp 44) (.tmp 46) 45 111 (.slice none 0 0) 24 rfl Try.underlying45 info111 rfl (by decide) (by omega) u4 x4_1 x7_2 [.slice Ao23 x7_2.length co23] (fun _ => True) (fun k_ => ((fun _ => True)) k_ ∧ some k_ ≠ (u4 : Value).ownBlock) rfl rfl ?aP (fun _ hk => hk) ?aF ?aO ?aB ?aS ?aL ?_; (case aP => exact Kd.M_row (Kd.R_mono (Kd.R_apart' ((Kd.S_R HO_7.out)) (Kd.R_typed HO_4.out) (by decide)) (fun k_ hk => ⟨trivial, hk.2⟩))); (case aB => exact (below_w HB.out)); (case aF => exact (fun _ _ => trivial)); (case aO => exact (by apply Kd.R_w; exact Kd.R_mono HO_4.out (fun _ hk => trivial))); (case aS => exact (below_size (below_w HB.out))); (case aL => have := LMc21.out; omega); intro v325 w22 ho hb hg hat; rw [← Ny324.out] at ho; have n0_ := Aside0.mk (hb); have n1_ := Aside0.mk (ho); clear HB; clear HO_4; clear HO_7; have HB := n0_; have HO326 := n1_; clear n0_ n1_; clear ho hb hg hat))
        go_roundg k2
        case measure => have := HK1.out; have := HK2.out; omega
        case rel => exact ⟨(y324), (x5_2), (wrap64 (x6_1 + 1)), (by first | rfl | (simp; done) | (simp [*]; done)), (by first | rfl | (simp; done) | (simp [*]; done)), H', ⟨by have := HK1.out; have := HK2.out; omega⟩, ⟨by exact Kd.R_w HO326.out⟩, ⟨below_w HB.out⟩⟩
       ·rw [if_neg c21] at H
        exact absurd H (by simp)
   ·rw [if_neg c5] at H
    have c5b0 : decide (x6_1 < (wrap64 ((Int.tmod t306 8) + 1))) = false := decide_eq_false c5
    clear c5
    obtain ⟨ji24, hji24⟩ : ∃ j_ : Int, (mn x5_1 (l0.length : Int)) = j_ := ⟨_, rfl⟩
    replace H : (some (x4_1, ji24)) = some (r1, r2) := by first | (rw [hji24] at H; exact H) | (simp only [hji24] at H ⊢; exact H)
    (try rw [hji24] at A4)
    have hji24_ : (if (l0.length : Int) < x5_1 then (l0.length : Int) else x5_1) = ji24 := hji24
    simp only [Option.some.injEq, Prod.mk.injEq] at H
    obtain ⟨rfl, rfl⟩ := H
    go_wp2_with (first | ((with_reducible refine gate_callee (f := 72) rfl ?_); refine goesL_ (some 15) rfl rfl Try.func72 (by kernel_rfl) rfl #[.slice A0 l0.length c0, .int .i64 0] rfl (by (try simp only [List.map_toArray, List.map_cons, List.map_nil]); first | done | rfl | simp) ?_; (with_reducible refine (handoffref10_at.calls _ _ l0 0 t306 _ ?side1 ?side2 A4.out).mono ?_); (case side1 => exact Kd.C_w (Kd.C_below HR0.out HB.out)); (case side2 => exact HC0.out); rintro e w25 ⟨rfl, hb⟩; refine ⟨_, rfl, ?_⟩; have n0_ := Aside0.mk (Kd.R_below (by exact Kd.R_w HO_4.out) hb); have n1_ := Aside0.mk (below_step (below_w HB.out) hb); clear HO_4; clear HB; have HO_4 := n0_; have HB := n1_; clear n0_ n1_; (try clear hb); (try clear hb2); (try clear hk); (try clear hi)))
    go_ret2
    exact ⟨_, by first | rfl | (simp [errW_none, errW_some] <;> rfl) | (simp only [← hji24]; first | rfl | (simp [errW_none, errW_some] <;> rfl)) | (simp [*, errW_none, errW_some] <;> rfl), by apply Kd.R_w; exact HO_4.out, by exact below_w HB.out⟩

/-! ### handoffref10_SameOps: function 76 -/
def handoffref10_SameOps.l0 : Nat → List (S39) → List (S39) → Int → Int → Option (Bool)
  | 0, _, _, _, _ => none
  | k + 1, x0, x1, x12, x13 => if x13 < x12 then (if 0 ≤ x13 then (if x13 < (x0.length : Int) then (if x13 < (x1.length : Int) then ((handoffref10_SameOp.f k ((rd_T39 x0 x13).f0) ((rd_T39 x0 x13).f1) ((rd_T39 x0 x13).f2) ((rd_T39 x0 x13).f3) ((rd_T39 x0 x13).f4) ((rd_T39 x0 x13).f5) ((rd_T39 x1 x13).f0) ((rd_T39 x1 x13).f1) ((rd_T39 x1 x13).f2) ((rd_T39 x1 x13).f3) ((rd_T39 x1 x13).f4) ((rd_T39 x1 x13).f5)).bind fun t329 => (if t329 = true then (handoffref10_SameOps.l0 k x0 x1 x12 (wrap64 (x13 + 1))) else (some false))) else (none)) else (none)) else (none)) else (some true)
def handoffref10_SameOps.f (k : Nat) (l0 : List (S39)) (l1 : List (S39)) : Option (Bool) := if (l0.length : Int) = (l1.length : Int) then (handoffref10_SameOps.l0 k l0 l1 (l0.length : Int) 0) else (some false)
theorem handoffref10_SameOps.mono_l : ∀ k, (∀ y0 y1 y2 y3, LeO (handoffref10_SameOps.l0 k y0 y1 y2 y3) (handoffref10_SameOps.l0 (k + 1) y0 y1 y2 y3))
 | 0 => fun _ _ _ _ r h => by simp [handoffref10_SameOps.l0] at h
 | k + 1 => by
  have ih0 := handoffref10_SameOps.mono_l k
  all_goals intros
  all_goals first | unfold handoffref10_SameOps.l0
  all_goals (repeat' first | with_reducible first | apply ih0 | exact handoffref10_SameOp.mono _ _ _ _ _ _ _ _ _ _ _ _ _ | exact LeO.refl _ | exact LeO.none _ | refine LeO.ite ?_ ?_ | refine LeO.bind ?_ (fun _ => ?_) | apply ih0 | exact handoffref10_SameOp.mono _ _ _ _ _ _ _ _ _ _ _ _ _ | exact LeO.none _ | refine LeO.ite ?_ ?_ | refine LeO.bind ?_ (fun _ => ?_))
theorem handoffref10_SameOps.mono : ∀ a0 a1 k, LeO (handoffref10_SameOps.f k a0 a1) (handoffref10_SameOps.f (k + 1) a0 a1) := by
 intro a0 a1 k
 have ih0 := handoffref10_SameOps.mono_l k
 unfold handoffref10_SameOps.f
 repeat' first | with_reducible first | apply ih0 | exact handoffref10_SameOp.mono _ _ _ _ _ _ _ _ _ _ _ _ _ | exact LeO.refl _ | exact LeO.none _ | refine LeO.ite ?_ ?_ | refine LeO.bind ?_ (fun _ => ?_) | apply ih0 | exact handoffref10_SameOp.mono _ _ _ _ _ _ _ _ _ _ _ _ _ | exact LeO.none _ | refine LeO.ite ?_ ?_ | refine LeO.bind ?_ (fun _ => ?_)
def handoffref10_SameOps.T6 : Bool × List (List Nat × List Nat) := (true, [([], []), ([], []), ([0, 1], [0, 1]), ([2], [2]), ([], []), ([], []), ([4, 5], [4, 5]), ([6], [6]), ([3, 7], [3, 7]), ([8], [8])])
def handoffref10_SameOps.B6 : List Nat := [0, 0, 3, 7, 0, 0, 48, 112, 255, 511]
theorem handoffref10_SameOps.tab6 : rtab .any (opsOf Try.f76 6) = handoffref10_SameOps.T6 := by kernel_rfl
theorem handoffref10_SameOps.bits6 : waitsOk handoffref10_SameOps.T6.2 handoffref10_SameOps.B6 = true := by kernel_rfl
set_option maxHeartbeats 8000000 in
set_option maxRecDepth 100000 in
theorem handoffref10_SameOps.calls (k : Nat) (A0 : Option Addr) (c0 : Nat) (l0 : List (S39)) (A1 : Option Addr) (c1 : Nat) (l1 : List (S39)) (r : Bool) (w : World) (hr0 : Kd.C k39 w A0 l0.length l0) (hc0 : l0.length ≤ c0) (hr1 : Kd.C k39 w A1 l1.length l1) (hc1 : l1.length ≤ c1) (h : handoffref10_SameOps.f k l0 l1 = some r) :
  Calls Try.prog 76 #[.slice A0 l0.length c0, .slice A1 l1.length c1] w fun e w' => e = .returned (.bool r) ∧ Below w.heap.size w w' := by
 have hu39 := Try.underlying39
 have HR0 := Aside0.mk hr0
 have HC0 := Aside0.mk hc0
 clear hr0 hc0
 have HR1 := Aside0.mk hr1
 have HC1 := Aside0.mk hc1
 clear hr1 hc1
 have HB := Aside0.mk (Below.refl w.heap.size w)
 have H : (if (l0.length : Int) = (l1.length : Int) then (handoffref10_SameOps.l0 k l0 l1 (l0.length : Int) 0) else (some false)) = some r := h
 clear h
 by_cases c3 : (l0.length : Int) = (l1.length : Int)
 ·rw [if_pos c3] at H
  have c3b0 : ((l0.length : Int) == (l1.length : Int)) = true := beq_iff_eq.mpr c3
  have c3b1 : ((l0.length : Int) != (l1.length : Int)) = false := bne_eq_false_iff_eq.mpr c3
  have c3b2 : (l0.length == l1.length) = true := by first | simpa using c3 | (simp at c3 ⊢; omega)
  clear c3
  have H' := Aside0.mk H
  clear H
  go_enter Try.func76, Try.ntmps76
  go_wp2
  go_loopg [13] k (fun kq v13 w' => ∃ (x13_1 : Int), v13 = .int .i64 x13_1 ∧ Aside0 (handoffref10_SameOps.l0 kq l0 l1 (l0.length : Int) x13_1 = some r) ∧ Aside0 (kq ≤ k) ∧ Aside0 (Below w.heap.size w w'))
  case atStart => exact ⟨(0), (by first | rfl | (simp; done) | (simp [*]; done)), H', ⟨Nat.le_refl _⟩, ⟨below_w HB.out⟩⟩
  case round =>
   clear H'
   (try clear c1); (try clear c3b0); (try clear c3b1); (try clear c3b2)
   obtain ⟨x13_1, rfl, HA, HK1, HB⟩ := hrel
   cases gk with
   | zero => exact absurd HA.out (by simp [handoffref10_SameOps.l0])
   | succ k1 =>
    have H := HA.out
    clear HA
    simp only [handoffref10_SameOps.l0] at H
    by_cases c4 : x13_1 < (l0.length : Int)
    ·rw [if_pos c4] at H
     have c4b0 : decide (x13_1 < (l0.length : Int)) = true := decide_eq_true c4
     clear c4
     by_cases c5 : 0 ≤ x13_1
     ·rw [if_pos c5] at H
      have c5b0 : decide (0 ≤ x13_1) = true := decide_eq_true c5
      clear c5
      by_cases c6 : x13_1 < (l0.length : Int)
      ·rw [if_pos c6] at H
       have c6b0 : decide (x13_1 < (l0.length : Int)) = true := decide_eq_true c6
       clear c6
       by_cases c7 : x13_1 < (l1.length : Int)
       ·rw [if_pos c7] at H
        have c7b0 : decide (x13_1 < (l1.length : Int)) = true := decide_eq_true c7
        clear c7
        replace H := Option.bind_eq_some_iff.mp H
        obtain ⟨t329, A80, H⟩ := H
        try dsimp only at H
        have A8 := Aside0.mk A80
        clear A80
        by_cases c9 : t329 = true
        ·subst c9
         have H1 : (handoffref10_SameOps.l0 k1 l0 l1 (l0.length : Int) (wrap64 (x13_1 + 1))) = some r := by rw [if_pos rfl] at H; exact H
         clear H
         have H := H1
         clear H1
         have H' := Aside0.mk H
         clear H
         try go_wp2
         have n0_ := Aside0.mk (below_drew1 HB.out)
         clear HB
         have HB := n0_
         clear n0_
         have p327 : 0 ≤ (x13_1 : Int) := of_decide_eq_true (by first | (with_reducible assumption) | assumption)
         have q327 : x13_1 < (l0.length : Int) := of_decide_eq_true (by first | (with_reducible assumption) | assumption)
         obtain ⟨ad327, A327_4, c327_4, e327, hx327_0, hx327_1, hx327_2, hx327_3, hx327_4, hx327_5, hl327_4, hi327_4⟩ := at_T39 HR0.out x13_1 p327 q327
         have hw327_5 := hx327_5
         have hw327_4 := hx327_4
         have hw327_3 := hx327_3
         have hw327_2 := hx327_2
         have hw327_1 := hx327_1
         have hw327_0 := hx327_0
         cases e327
         replace hx327_0 := (HB.out.cell (World.block_lt_of_cell? w _ hx327_0)).trans hx327_0
         replace hx327_1 := (HB.out.cell (World.block_lt_of_cell? w _ hx327_1)).trans hx327_1
         replace hx327_2 := (HB.out.cell (World.block_lt_of_cell? w _ hx327_2)).trans hx327_2
         replace hx327_3 := (HB.out.cell (World.block_lt_of_cell? w _ hx327_3)).trans hx327_3
         replace hx327_4 := (HB.out.cell (World.block_lt_of_cell? w _ hx327_4)).trans hx327_4
         replace hx327_5 := (HB.out.cell (World.block_lt_of_cell? w _ hx327_5)).trans hx327_5
         have HR327_4 := Aside0.mk hi327_4
         have HC327_4 := Aside0.mk hl327_4
         clear hi327_4 hl327_4
         replace p327 := eq_true p327
         replace q327 := eq_true q327
         have p328 : 0 ≤ (x13_1 : Int) := of_decide_eq_true (by first | (with_reducible assumption) | assumption)
         have q328 : x13_1 < (l1.length : Int) := of_decide_eq_true (by first | (with_reducible assumption) | assumption)
         obtain ⟨ad328, A328_4, c328_4, e328, hx328_0, hx328_1, hx328_2, hx328_3, hx328_4, hx328_5, hl328_4, hi328_4⟩ := at_T39 HR1.out x13_1 p328 q328
         have hw328_5 := hx328_5
         have hw328_4 := hx328_4
         have hw328_3 := hx328_3
         have hw328_2 := hx328_2
         have hw328_1 := hx328_1
         have hw328_0 := hx328_0
         cases e328
         replace hx328_0 := (HB.out.cell (World.block_lt_of_cell? w _ hx328_0)).trans hx328_0
         replace hx328_1 := (HB.out.cell (World.block_lt_of_cell? w _ hx328_1)).trans hx328_1
         replace hx328_2 := (HB.out.cell (World.block_lt_of_cell? w _ hx328_2)).trans hx328_2
         replace hx328_3 := (HB.out.cell (World.block_lt_of_cell? w _ hx328_3)).trans hx328_3
         replace hx328_4 := (HB.out.cell (World.block_lt_of_cell? w _ hx328_4)).trans hx328_4
         replace hx328_5 := (HB.out.cell (World.block_lt_of_cell? w _ hx328_5)).trans hx328_5
         have HR328_4 := Aside0.mk hi328_4
         have HC328_4 := Aside0.mk hl328_4
         clear hi328_4 hl328_4
         replace p328 := eq_true p328
         replace q328 := eq_true q328
         refine start_ (n := 10) (S := fun w' => w'.cell? (ad327.add ((x13_1).toNat * 6)) = some (.int .i64 ((rd_T39 l0 x13_1).f0)) ∧ w'.cell? ⟨(ad327.add ((x13_1).toNat * 6)).block, (ad327.add ((x13_1).toNat * 6)).off + 1, none⟩ = some (.int .i64 ((rd_T39 l0 x13_1).f1)) ∧ w'.cell? ⟨(ad327.add ((x13_1).toNat * 6)).block, (ad327.add ((x13_1).toNat * 6)).off + 2, none⟩ = some (.int .i64 ((rd_T39 l0 x13_1).f2)) ∧ w'.cell? ⟨(ad327.add ((x13_1).toNat * 6)).block, (ad327.add ((x13_1).toNat * 6)).off + 3, none⟩ = some (.int .i64 ((rd_T39 l0 x13_1).f3)) ∧ w'.cell? ⟨(ad327.add ((x13_1).toNat * 6)).block, (ad327.add ((x13_1).toNat * 6)).off + 4, none⟩ = some (.slice A327_4 ((rd_T39 l0 x13_1).f4).length c327_4) ∧ w'.cell? ⟨(ad327.add ((x13_1).toNat * 6)).block, (ad327.add ((x13_1).toNat * 6)).off + 5, none⟩ = some (.bool ((rd_T39 l0 x13_1).f5)) ∧ w'.cell? (ad328.add ((x13_1).toNat * 6)) = some (.int .i64 ((rd_T39 l1 x13_1).f0)) ∧ w'.cell? ⟨(ad328.add ((x13_1).toNat * 6)).block, (ad328.add ((x13_1).toNat * 6)).off + 1, none⟩ = some (.int .i64 ((rd_T39 l1 x13_1).f1)) ∧ w'.cell? ⟨(ad328.add ((x13_1).toNat * 6)).block, (ad328.add ((x13_1).toNat * 6)).off + 2, none⟩ = some (.int .i64 ((rd_T39 l1 x13_1).f2)) ∧ w'.cell? ⟨(ad328.add ((x13_1).toNat * 6)).block, (ad328.add ((x13_1).toNat * 6)).off + 3, none⟩ = some (.int .i64 ((rd_T39 l1 x13_1).f3)) ∧ w'.cell? ⟨(ad328.add ((x13_1).toNat * 6)).block, (ad328.add ((x13_1).toNat * 6)).off + 4, none⟩ = some (.slice A328_4 ((rd_T39 l1 x13_1).f4).length c328_4) ∧ w'.cell? ⟨(ad328.add ((x13_1).toNat * 6)).block, (ad328.add ((x13_1).toNat * 6)).off + 5, none⟩ = some (.bool ((rd_T39 l1 x13_1).f5))) (ds := []) #[false, false, false, false, false, false, false, false, false, false] (by kernel_rfl) rfl rfl ⟨((HB.out.cell (World.block_lt_of_cell? w _ hw327_0)).trans hw327_0), ((HB.out.cell (World.block_lt_of_cell? w _ hw327_1)).trans hw327_1), ((HB.out.cell (World.block_lt_of_cell? w _ hw327_2)).trans hw327_2), ((HB.out.cell (World.block_lt_of_cell? w _ hw327_3)).trans hw327_3), ((HB.out.cell (World.block_lt_of_cell? w _ hw327_4)).trans hw327_4), ((HB.out.cell (World.block_lt_of_cell? w _ hw327_5)).trans hw327_5), ((HB.out.cell (World.block_lt_of_cell? w _ hw328_0)).trans hw328_0), ((HB.out.cell (World.block_lt_of_cell? w _ hw328_1)).trans hw328_1), ((HB.out.cell (World.block_lt_of_cell? w _ hw328_2)).trans hw328_2), ((HB.out.cell (World.block_lt_of_cell? w _ hw328_3)).trans hw328_3), ((HB.out.cell (World.block_lt_of_cell? w _ hw328_4)).trans hw328_4), ((HB.out.cell (World.block_lt_of_cell? w _ hw328_5)).trans hw328_5)⟩ (fun hHeld => ?_); refine with_tabW handoffref10_SameOps.tab6 handoffref10_SameOps.bits6 (fun HT_ HW_ => ?_)
         generalize wr.drew = w10 at HB HR327_4 HR328_4 hx327_0 hx327_1 hx327_2 hx327_3 hx327_4 hx327_5 hx328_0 hx328_1 hx328_2 hx328_3 hx328_4 hx328_5 hHeld ⊢
         refine pure_ (i := 0) (N := some 16) (v := ?_) (a' := ?_) #[true, false, false, false, false, false, false, false, false, false] rfl rfl (any_of HT_.out (by kernel_rfl)) (fun _ _ _ h => h) (Or.inl ⟨by rfl, ?_⟩) ?_ ?_
         rotate_left
         ·intro w'
          go_simp
          with_reducible rfl
         rotate_left
         ·simp only [Act.put, List.setIfInBounds_toArray, List.set_cons_zero, List.set_cons_succ, i64_w, i32_w]
          rfl
         refine pure_ (i := 1) (N := some 17) (v := ?_) (a' := ?_) #[true, true, false, false, false, false, false, false, false, false] rfl rfl (any_of HT_.out (by kernel_rfl)) (fun _ _ _ h => h) (Or.inl ⟨by rfl, ?_⟩) ?_ ?_
         rotate_left
         ·intro w'
          go_simp
          with_reducible rfl
         rotate_left
         ·simp only [Act.put, List.setIfInBounds_toArray, List.set_cons_zero, List.set_cons_succ, i64_w, i32_w]
          rfl
         refine pure_ (i := 2) (N := some 18) (v := ?_) (a' := ?_) #[true, true, true, false, false, false, false, false, false, false] rfl rfl (any_of HT_.out (by kernel_rfl)) (fun _ _ _ h => h) (Or.inl ⟨by rfl, ?_⟩) ?_ ?_
         rotate_left
         ·intro w'
          go_simp
          with_reducible rfl
         rotate_left
         ·simp only [Act.put, List.setIfInBounds_toArray, List.set_cons_zero, List.set_cons_succ, i64_w, i32_w]
          rfl
         refine pure_ (i := 4) (N := some 20) (v := ?_) (a' := ?_) #[true, true, true, false, true, false, false, false, false, false] rfl rfl (any_of HT_.out (by kernel_rfl)) (fun _ _ _ h => h) (Or.inl ⟨by rfl, ?_⟩) ?_ ?_
         rotate_left
         ·intro w'
          go_simp
          with_reducible rfl
         rotate_left
         ·simp only [Act.put, List.setIfInBounds_toArray, List.set_cons_zero, List.set_cons_succ, i64_w, i32_w]
          rfl
         refine pure_ (i := 5) (N := some 21) (v := ?_) (a' := ?_) #[true, true, true, false, true, true, false, false, false, false] rfl rfl (any_of HT_.out (by kernel_rfl)) (fun _ _ _ h => h) (Or.inl ⟨by rfl, ?_⟩) ?_ ?_
         rotate_left
         ·intro w'
          go_simp
          with_reducible rfl
         rotate_left
         ·simp only [Act.put, List.setIfInBounds_toArray, List.set_cons_zero, List.set_cons_succ, i64_w, i32_w]
          rfl
         refine pure_ (i := 6) (N := some 22) (v := ?_) (a' := ?_) #[true, true, true, false, true, true, true, false, false, false] rfl rfl (any_of HT_.out (by kernel_rfl)) (fun _ _ _ h => h) (Or.inl ⟨by rfl, ?_⟩) ?_ ?_
         rotate_left
         ·intro w'
          go_simp
          with_reducible rfl
         rotate_left
         ·simp only [Act.put, List.setIfInBounds_toArray, List.set_cons_zero, List.set_cons_succ, i64_w, i32_w]
          rfl
         refine take_ (i := 3) (N := some 19) (v := ?_) (a' := ?_) #[true, true, true, true, true, true, true, false, false, false] rfl rfl (take_ofW HT_.out HW_.out (by kernel_rfl)) (fun _ _ _ h => h) (Or.inl ⟨by rfl, ?_⟩) hHeld ?_ ?_
         rotate_left
         ·rintro w' ⟨s0, s1, s2, s3, s4, s5, s6, s7, s8, s9, s10, s11⟩
          go_simp
          with_reducible rfl
         rotate_left
         ·simp only [Act.put, List.setIfInBounds_toArray, List.set_cons_zero, List.set_cons_succ, i64_w, i32_w]
          rfl
         refine take_ (i := 7) (N := some 23) (v := ?_) (a' := ?_) #[true, true, true, true, true, true, true, true, false, false] rfl rfl (take_ofW HT_.out HW_.out (by kernel_rfl)) (fun _ _ _ h => h) (Or.inl ⟨by rfl, ?_⟩) hHeld ?_ ?_
         rotate_left
         ·rintro w' ⟨s0, s1, s2, s3, s4, s5, s6, s7, s8, s9, s10, s11⟩
          go_simp
          with_reducible rfl
         rotate_left
         ·simp only [Act.put, List.setIfInBounds_toArray, List.set_cons_zero, List.set_cons_succ, i64_w, i32_w]
          rfl
         refine one_ (i := 8) (N := some 24) #[true, true, true, true, true, true, true, true, true, false] rfl rfl (one_of HT_.out (by kernel_rfl)) (by decide) (fun K hK => ?_)
         refine goes_ Try.func24 (by kernel_rfl) rfl #[.agg #[.int .i64 ((rd_T39 l0 x13_1).f0), .int .i64 ((rd_T39 l0 x13_1).f1), .int .i64 ((rd_T39 l0 x13_1).f2), .int .i64 ((rd_T39 l0 x13_1).f3), .slice A327_4 ((rd_T39 l0 x13_1).f4).length c327_4, .bool ((rd_T39 l0 x13_1).f5)], .agg #[.int .i64 ((rd_T39 l1 x13_1).f0), .int .i64 ((rd_T39 l1 x13_1).f1), .int .i64 ((rd_T39 l1 x13_1).f2), .int .i64 ((rd_T39 l1 x13_1).f3), .slice A328_4 ((rd_T39 l1 x13_1).f4).length c328_4, .bool ((rd_T39 l1 x13_1).f5)]] (by rfl) rfl rfl (by (try simp only [List.map_toArray, List.map_cons, List.map_nil]); first | done | rfl | simp) ?_
         with_reducible refine (handoffref10_SameOp.calls k1 ((rd_T39 l0 x13_1).f0) ((rd_T39 l0 x13_1).f1) ((rd_T39 l0 x13_1).f2) ((rd_T39 l0 x13_1).f3) _ _ ((rd_T39 l0 x13_1).f4) ((rd_T39 l0 x13_1).f5) ((rd_T39 l1 x13_1).f0) ((rd_T39 l1 x13_1).f1) ((rd_T39 l1 x13_1).f2) ((rd_T39 l1 x13_1).f3) _ _ ((rd_T39 l1 x13_1).f4) ((rd_T39 l1 x13_1).f5) true _ ?side1 ?side2 ?side3 ?side4 A8.out).mono ?_
         (case side1 => exact Kd.C_w (Kd.C_below HR327_4.out HB.out))
         (case side2 => exact HC327_4.out)
         (case side3 => exact Kd.C_w (Kd.C_below HR328_4.out HB.out))
         (case side4 => exact HC328_4.out)
         rintro e w11 ⟨rfl, hb⟩
         refine ⟨_, rfl, ?_⟩
         have n0_ := Aside0.mk (below_step (below_w HB.out) hb)
         clear HB
         have HB := n0_
         clear n0_
         (try clear hb)
         (try clear hb2)
         (try clear hk)
         (try clear hi)
         refine hK.out _ _ ⟨((HB.out.cell (World.block_lt_of_cell? w _ hw327_0)).trans hw327_0), ((HB.out.cell (World.block_lt_of_cell? w _ hw327_1)).trans hw327_1), ((HB.out.cell (World.block_lt_of_cell? w _ hw327_2)).trans hw327_2), ((HB.out.cell (World.block_lt_of_cell? w _ hw327_3)).trans hw327_3), ((HB.out.cell (World.block_lt_of_cell? w _ hw327_4)).trans hw327_4), ((HB.out.cell (World.block_lt_of_cell? w _ hw327_5)).trans hw327_5), ((HB.out.cell (World.block_lt_of_cell? w _ hw328_0)).trans hw328_0), ((HB.out.cell (World.block_lt_of_cell? w _ hw328_1)).trans hw328_1), ((HB.out.cell (World.block_lt_of_cell? w _ hw328_2)).trans hw328_2), ((HB.out.cell (World.block_lt_of_cell? w _ hw328_3)).trans hw328_3), ((HB.out.cell (World.block_lt_of_cell? w _ hw328_4)).trans hw328_4), ((HB.out.cell (World.block_lt_of_cell? w _ hw328_5)).trans hw328_5)⟩ (fun hHeld => ?_)
         clear hK K
         refine norm_ (a' := ?_) ?_ ?_
         rotate_left
         ·show Act.put _ (some 24) _ = _
          simp only [Act.put, List.setIfInBounds_toArray, List.set_cons_zero, List.set_cons_succ, i64_w, i32_w]
          rfl
         refine pure_ (i := 9) (N := some 25) (v := ?_) (a' := ?_) #[true, true, true, true, true, true, true, true, true, true] rfl rfl (any_of HT_.out (by kernel_rfl)) (fun _ _ _ h => h) (Or.inl ⟨by rfl, ?_⟩) ?_ ?_
         rotate_left
         ·intro w'
          go_simp
          with_reducible rfl
         rotate_left
         ·simp only [Act.put, List.setIfInBounds_toArray, List.set_cons_zero, List.set_cons_succ, i64_w, i32_w]
          rfl
         refine done_ (done_of HT_.out (by kernel_rfl)) ?_
         try go_wp2
         go_roundg k1
         case measure => have := HK1.out; omega
         case rel => exact ⟨(wrap64 (x13_1 + 1)), (by first | rfl | (simp; done) | (simp [*]; done)), H', ⟨by have := HK1.out; omega⟩, ⟨below_w HB.out⟩⟩
        ·replace c9 := Bool.eq_false_iff.mpr c9
         subst c9
         have H1 : (some false) = some r := by rw [if_neg (show ¬ (false = true) by decide)] at H; exact H
         clear H
         have H := H1
         clear H1
         obtain rfl := Option.some.inj H
         try go_wp2
         have n0_ := Aside0.mk (below_drew1 HB.out)
         clear HB
         have HB := n0_
         clear n0_
         have p327 : 0 ≤ (x13_1 : Int) := of_decide_eq_true (by first | (with_reducible assumption) | assumption)
         have q327 : x13_1 < (l0.length : Int) := of_decide_eq_true (by first | (with_reducible assumption) | assumption)
         obtain ⟨ad327, A327_4, c327_4, e327, hx327_0, hx327_1, hx327_2, hx327_3, hx327_4, hx327_5, hl327_4, hi327_4⟩ := at_T39 HR0.out x13_1 p327 q327
         have hw327_5 := hx327_5
         have hw327_4 := hx327_4
         have hw327_3 := hx327_3
         have hw327_2 := hx327_2
         have hw327_1 := hx327_1
         have hw327_0 := hx327_0
         cases e327
         replace hx327_0 := (HB.out.cell (World.block_lt_of_cell? w _ hx327_0)).trans hx327_0
         replace hx327_1 := (HB.out.cell (World.block_lt_of_cell? w _ hx327_1)).trans hx327_1
         replace hx327_2 := (HB.out.cell (World.block_lt_of_cell? w _ hx327_2)).trans hx327_2
         replace hx327_3 := (HB.out.cell (World.block_lt_of_cell? w _ hx327_3)).trans hx327_3
         replace hx327_4 := (HB.out.cell (World.block_lt_of_cell? w _ hx327_4)).trans hx327_4
         replace hx327_5 := (HB.out.cell (World.block_lt_of_cell? w _ hx327_5)).trans hx327_5
         have HR327_4 := Aside0.mk hi327_4
         have HC327_4 := Aside0.mk hl327_4
         clear hi327_4 hl327_4
         replace p327 := eq_true p327
         replace q327 := eq_true q327
         have p328 : 0 ≤ (x13_1 : Int) := of_decide_eq_true (by first | (with_reducible assumption) | assumption)
         have q328 : x13_1 < (l1.length : Int) := of_decide_eq_true (by first | (with_reducible assumption) | assumption)
         obtain ⟨ad328, A328_4, c328_4, e328, hx328_0, hx328_1, hx328_2, hx328_3, hx328_4, hx328_5, hl328_4, hi328_4⟩ := at_T39 HR1.out x13_1 p328 q328
         have hw328_5 := hx328_5
         have hw328_4 := hx328_4
         have hw328_3 := hx328_3
         have hw328_2 := hx328_2
         have hw328_1 := hx328_1
         have hw328_0 := hx328_0
         cases e328
         replace hx328_0 := (HB.out.cell (World.block_lt_of_cell? w _ hx328_0)).trans hx328_0
         replace hx328_1 := (HB.out.cell (World.block_lt_of_cell? w _ hx328_1)).trans hx328_1
         replace hx328_2 := (HB.out.cell (World.block_lt_of_cell? w _ hx328_2)).trans hx328_2
         replace hx328_3 := (HB.out.cell (World.block_lt_of_cell? w _ hx328_3)).trans hx328_3
         replace hx328_4 := (HB.out.cell (World.block_lt_of_cell? w _ hx328_4)).trans hx328_4
         replace hx328_5 := (HB.out.cell (World.block_lt_of_cell? w _ hx328_5)).trans hx328_5
         have HR328_4 := Aside0.mk hi328_4
         have HC328_4 := Aside0.mk hl328_4
         clear hi328_4 hl328_4
         replace p328 := eq_true p328
         replace q328 := eq_true q328
         refine start_ (n := 10) (S := fun w' => w'.cell? (ad327.add ((x13_1).toNat * 6)) = some (.int .i64 ((rd_T39 l0 x13_1).f0)) ∧ w'.cell? ⟨(ad327.add ((x13_1).toNat * 6)).block, (ad327.add ((x13_1).toNat * 6)).off + 1, none⟩ = some (.int .i64 ((rd_T39 l0 x13_1).f1)) ∧ w'.cell? ⟨(ad327.add ((x13_1).toNat * 6)).block, (ad327.add ((x13_1).toNat * 6)).off + 2, none⟩ = some (.int .i64 ((rd_T39 l0 x13_1).f2)) ∧ w'.cell? ⟨(ad327.add ((x13_1).toNat * 6)).block, (ad327.add ((x13_1).toNat * 6)).off + 3, none⟩ = some (.int .i64 ((rd_T39 l0 x13_1).f3)) ∧ w'.cell? ⟨(ad327.add ((x13_1).toNat * 6)).block, (ad327.add ((x13_1).toNat * 6)).off + 4, none⟩ = some (.slice A327_4 ((rd_T39 l0 x13_1).f4).length c327_4) ∧ w'.cell? ⟨(ad327.add ((x13_1).toNat * 6)).block, (ad327.add ((x13_1).toNat * 6)).off + 5, none⟩ = some (.bool ((rd_T39 l0 x13_1).f5)) ∧ w'.cell? (ad328.add ((x13_1).toNat * 6)) = some (.int .i64 ((rd_T39 l1 x13_1).f0)) ∧ w'.cell? ⟨(ad328.add ((x13_1).toNat * 6)).block, (ad328.add ((x13_1).toNat * 6)).off + 1, none⟩ = some (.int .i64 ((rd_T39 l1 x13_1).f1)) ∧ w'.cell? ⟨(ad328.add ((x13_1).toNat * 6)).block, (ad328.add ((x13_1).toNat * 6)).off + 2, none⟩ = some (.int .i64 ((rd_T39 l1 x13_1).f2)) ∧ w'.cell? ⟨(ad328.add ((x13_1).toNat * 6)).block, (ad328.add ((x13_1).toNat * 6)).off + 3, none⟩ = some (.int .i64 ((rd_T39 l1 x13_1).f3)) ∧ w'.cell? ⟨(ad328.add ((x13_1).toNat * 6)).block, (ad328.add ((x13_1).toNat * 6)).off + 4, none⟩ = some (.slice A328_4 ((rd_T39 l1 x13_1).f4).length c328_4) ∧ w'.cell? ⟨(ad328.add ((x13_1).toNat * 6)).block, (ad328.add ((x13_1).toNat * 6)).off + 5, none⟩ = some (.bool ((rd_T39 l1 x13_1).f5))) (ds := []) #[false, false, false, false, false, false, false, false, false, false] (by kernel_rfl) rfl rfl ⟨((HB.out.cell (World.block_lt_of_cell? w _ hw327_0)).trans hw327_0), ((HB.out.cell (World.block_lt_of_cell? w _ hw327_1)).trans hw327_1), ((HB.out.cell (World.block_lt_of_cell? w _ hw327_2)).trans hw327_2), ((HB.out.cell (World.block_lt_of_cell? w _ hw327_3)).trans hw327_3), ((HB.out.cell (World.block_lt_of_cell? w _ hw327_4)).trans hw327_4), ((HB.out.cell (World.block_lt_of_cell? w _ hw327_5)).trans hw327_5), ((HB.out.cell (World.block_lt_of_cell? w _ hw328_0)).trans hw328_0), ((HB.out.cell (World.block_lt_of_cell? w _ hw328_1)).trans hw328_1), ((HB.out.cell (World.block_lt_of_cell? w _ hw328_2)).trans hw328_2), ((HB.out.cell (World.block_lt_of_cell? w _ hw328_3)).trans hw328_3), ((HB.out.cell (World.block_lt_of_cell? w _ hw328_4)).trans hw328_4), ((HB.out.cell (World.block_lt_of_cell? w _ hw328_5)).trans hw328_5)⟩ (fun hHeld => ?_); refine with_tabW handoffref10_SameOps.tab6 handoffref10_SameOps.bits6 (fun HT_ HW_ => ?_)
         generalize wr.drew = w12 at HB HR327_4 HR328_4 hx327_0 hx327_1 hx327_2 hx327_3 hx327_4 hx327_5 hx328_0 hx328_1 hx328_2 hx328_3 hx328_4 hx328_5 hHeld ⊢
         refine pure_ (i := 0) (N := some 16) (v := ?_) (a' := ?_) #[true, false, false, false, false, false, false, false, false, false] rfl rfl (any_of HT_.out (by kernel_rfl)) (fun _ _ _ h => h) (Or.inl ⟨by rfl, ?_⟩) ?_ ?_
         rotate_left
         ·intro w'
          go_simp
          with_reducible rfl
         rotate_left
         ·simp only [Act.put, List.setIfInBounds_toArray, List.set_cons_zero, List.set_cons_succ, i64_w, i32_w]
          rfl
         refine pure_ (i := 1) (N := some 17) (v := ?_) (a' := ?_) #[true, true, false, false, false, false, false, false, false, false] rfl rfl (any_of HT_.out (by kernel_rfl)) (fun _ _ _ h => h) (Or.inl ⟨by rfl, ?_⟩) ?_ ?_
         rotate_left
         ·intro w'
          go_simp
          with_reducible rfl
         rotate_left
         ·simp only [Act.put, List.setIfInBounds_toArray, List.set_cons_zero, List.set_cons_succ, i64_w, i32_w]
          rfl
         refine pure_ (i := 2) (N := some 18) (v := ?_) (a' := ?_) #[true, true, true, false, false, false, false, false, false, false] rfl rfl (any_of HT_.out (by kernel_rfl)) (fun _ _ _ h => h) (Or.inl ⟨by rfl, ?_⟩) ?_ ?_
         rotate_left
         ·intro w'
          go_simp
          with_reducible rfl
         rotate_left
         ·simp only [Act.put, List.setIfInBounds_toArray, List.set_cons_zero, List.set_cons_succ, i64_w, i32_w]
          rfl
         refine pure_ (i := 4) (N := some 20) (v := ?_) (a' := ?_) #[true, true, true, false, true, false, false, false, false, false] rfl rfl (any_of HT_.out (by kernel_rfl)) (fun _ _ _ h => h) (Or.inl ⟨by rfl, ?_⟩) ?_ ?_
         rotate_left
         ·intro w'
          go_simp
          with_reducible rfl
         rotate_left
         ·simp only [Act.put, List.setIfInBounds_toArray, List.set_cons_zero, List.set_cons_succ, i64_w, i32_w]
          rfl
         refine pure_ (i := 5) (N := some 21) (v := ?_) (a' := ?_) #[true, true, true, false, true, true, false, false, false, false] rfl rfl (any_of HT_.out (by kernel_rfl)) (fun _ _ _ h => h) (Or.inl ⟨by rfl, ?_⟩) ?_ ?_
         rotate_left
         ·intro w'
          go_simp
          with_reducible rfl
         rotate_left
         ·simp only [Act.put, List.setIfInBounds_toArray, List.set_cons_zero, List.set_cons_succ, i64_w, i32_w]
          rfl
         refine pure_ (i := 6) (N := some 22) (v := ?_) (a' := ?_) #[true, true, true, false, true, true, true, false, false, false] rfl rfl (any_of HT_.out (by kernel_rfl)) (fun _ _ _ h => h) (Or.inl ⟨by rfl, ?_⟩) ?_ ?_
         rotate_left
         ·intro w'
          go_simp
          with_reducible rfl
         rotate_left
         ·simp only [Act.put, List.setIfInBounds_toArray, List.set_cons_zero, List.set_cons_succ, i64_w, i32_w]
          rfl
         refine take_ (i := 3) (N := some 19) (v := ?_) (a' := ?_) #[true, true, true, true, true, true, true, false, false, false] rfl rfl (take_ofW HT_.out HW_.out (by kernel_rfl)) (fun _ _ _ h => h) (Or.inl ⟨by rfl, ?_⟩) hHeld ?_ ?_
         rotate_left
         ·rintro w' ⟨s0, s1, s2, s3, s4, s5, s6, s7, s8, s9, s10, s11⟩
          go_simp
          with_reducible rfl
         rotate_left
         ·simp only [Act.put, List.setIfInBounds_toArray, List.set_cons_zero, List.set_cons_succ, i64_w, i32_w]
          rfl
         refine take_ (i := 7) (N := some 23) (v := ?_) (a' := ?_) #[true, true, true, true, true, true, true, true, false, false] rfl rfl (take_ofW HT_.out HW_.out (by kernel_rfl)) (fun _ _ _ h => h) (Or.inl ⟨by rfl, ?_⟩) hHeld ?_ ?_
         rotate_left
         ·rintro w' ⟨s0, s1, s2, s3, s4, s5, s6, s7, s8, s9, s10, s11⟩
          go_simp
          with_reducible rfl
         rotate_left
         ·simp only [Act.put, List.setIfInBounds_toArray, List.set_cons_zero, List.set_cons_succ, i64_w, i32_w]
          rfl
         refine one_ (i := 8) (N := some 24) #[true, true, true, true, true, true, true, true, true, false] rfl rfl (one_of HT_.out (by kernel_rfl)) (by decide) (fun K hK => ?_)
         refine goes_ Try.func24 (by kernel_rfl) rfl #[.agg #[.int .i64 ((rd_T39 l0 x13_1).f0), .int .i64 ((rd_T39 l0 x13_1).f1), .int .i64 ((rd_T39 l0 x13_1).f2), .int .i64 ((rd_T39 l0 x13_1).f3), .slice A327_4 ((rd_T39 l0 x13_1).f4).length c327_4, .bool ((rd_T39 l0 x13_1).f5)], .agg #[.int .i64 ((rd_T39 l1 x13_1).f0), .int .i64 ((rd_T39 l1 x13_1).f1), .int .i64 ((rd_T39 l1 x13_1).f2), .int .i64 ((rd_T39 l1 x13_1).f3), .slice A328_4 ((rd_T39 l1 x13_1).f4).length c328_4, .bool ((rd_T39 l1 x13_1).f5)]] (by rfl) rfl rfl (by (try simp only [List.map_toArray, List.map_cons, List.map_nil]); first | done | rfl | simp) ?_
         with_reducible refine (handoffref10_SameOp.calls k1 ((rd_T39 l0 x13_1).f0) ((rd_T39 l0 x13_1).f1) ((rd_T39 l0 x13_1).f2) ((rd_T39 l0 x13_1).f3) _ _ ((rd_T39 l0 x13_1).f4) ((rd_T39 l0 x13_1).f5) ((rd_T39 l1 x13_1).f0) ((rd_T39 l1 x13_1).f1) ((rd_T39 l1 x13_1).f2) ((rd_T39 l1 x13_1).f3) _ _ ((rd_T39 l1 x13_1).f4) ((rd_T39 l1 x13_1).f5) false _ ?side1 ?side2 ?side3 ?side4 A8.out).mono ?_
         (case side1 => exact Kd.C_w (Kd.C_below HR327_4.out HB.out))
         (case side2 => exact HC327_4.out)
         (case side3 => exact Kd.C_w (Kd.C_below HR328_4.out HB.out))
         (case side4 => exact HC328_4.out)
         rintro e w13 ⟨rfl, hb⟩
         refine ⟨_, rfl, ?_⟩
         have n0_ := Aside0.mk (below_step (below_w HB.out) hb)
         clear HB
         have HB := n0_
         clear n0_
         (try clear hb)
         (try clear hb2)
         (try clear hk)
         (try clear hi)
         refine hK.out _ _ ⟨((HB.out.cell (World.block_lt_of_cell? w _ hw327_0)).trans hw327_0), ((HB.out.cell (World.block_lt_of_cell? w _ hw327_1)).trans hw327_1), ((HB.out.cell (World.block_lt_of_cell? w _ hw327_2)).trans hw327_2), ((HB.out.cell (World.block_lt_of_cell? w _ hw327_3)).trans hw327_3), ((HB.out.cell (World.block_lt_of_cell? w _ hw327_4)).trans hw327_4), ((HB.out.cell (World.block_lt_of_cell? w _ hw327_5)).trans hw327_5), ((HB.out.cell (World.block_lt_of_cell? w _ hw328_0)).trans hw328_0), ((HB.out.cell (World.block_lt_of_cell? w _ hw328_1)).trans hw328_1), ((HB.out.cell (World.block_lt_of_cell? w _ hw328_2)).trans hw328_2), ((HB.out.cell (World.block_lt_of_cell? w _ hw328_3)).trans hw328_3), ((HB.out.cell (World.block_lt_of_cell? w _ hw328_4)).trans hw328_4), ((HB.out.cell (World.block_lt_of_cell? w _ hw328_5)).trans hw328_5)⟩ (fun hHeld => ?_)
         clear hK K
         refine norm_ (a' := ?_) ?_ ?_
         rotate_left
         ·show Act.put _ (some 24) _ = _
          simp only [Act.put, List.setIfInBounds_toArray, List.set_cons_zero, List.set_cons_succ, i64_w, i32_w]
          rfl
         refine pure_ (i := 9) (N := some 25) (v := ?_) (a' := ?_) #[true, true, true, true, true, true, true, true, true, true] rfl rfl (any_of HT_.out (by kernel_rfl)) (fun _ _ _ h => h) (Or.inl ⟨by rfl, ?_⟩) ?_ ?_
         rotate_left
         ·intro w'
          go_simp
          with_reducible rfl
         rotate_left
         ·simp only [Act.put, List.setIfInBounds_toArray, List.set_cons_zero, List.set_cons_succ, i64_w, i32_w]
          rfl
         refine done_ (done_of HT_.out (by kernel_rfl)) ?_
         try go_wp2
         go_ret
         exact ⟨by first | rfl | (simp [errW_none, errW_some] <;> rfl) | (simp [*, errW_none, errW_some] <;> rfl), by exact below_w HB.out⟩
       ·rw [if_neg c7] at H
        exact absurd H (by simp)
      ·rw [if_neg c6] at H
       exact absurd H (by simp)
     ·rw [if_neg c5] at H
      exact absurd H (by simp)
    ·rw [if_neg c4] at H
     have c4b0 : decide (x13_1 < (l0.length : Int)) = false := decide_eq_false c4
     clear c4
     obtain rfl := Option.some.inj H
     go_wp2
     go_ret
     exact ⟨by first | rfl | (simp [errW_none, errW_some] <;> rfl) | (simp [*, errW_none, errW_some] <;> rfl), by exact below_w HB.out⟩
 ·rw [if_neg c3] at H
  have c3b0 : ((l0.length : Int) == (l1.length : Int)) = false := beq_eq_false_iff_ne.mpr c3
  have c3b1 : ((l0.length : Int) != (l1.length : Int)) = true := bne_iff_ne.mpr c3
  have c3b2 : (l0.length == l1.length) = false := by first | simpa using c3 | (simp at c3 ⊢; omega)
  obtain rfl := Option.some.inj H
  go_enter Try.func76, Try.ntmps76
  go_wp2
  go_ret
  exact ⟨by first | rfl | (simp [errW_none, errW_some] <;> rfl) | (simp [*, errW_none, errW_some] <;> rfl), by exact below_w HB.out⟩

end Go.Proofs.Ytjmpaeckpbpclaa.PPlK
