-- Out of the translation, by a program of this session.
import Derived.Test.YtjmpaeckpbpclaaPPlNx0
import Derived.Test.YtjmpaeckpbpclaaPPlNx2
namespace Go.Proofs.Ytjmpaeckpbpclaa.PPlN
open Go.RowKit Go.Proofs.YtjmpaeckpbpclaaW.PrintWords Go.Proofs.YtjmpaeckpbpclaaW.PrintLast Go.Proofs.YtjmpaeckpbpclaaW.PrintMore
attribute [local go_sem] max2_int min2_int max_two min_two max_three min_three max_four min_four   -- for this text's walks alone
set_option linter.unusedVariables false
set_option linter.unusedSimpArgs false

/-! ### plan_reader_one: function 71 -/
mutual
def plan_reader_one.j0 : Nat → List Int → Int → Int → Int → Int → Int → Bool → Bool → Bool → Bool → Bool → Option (Int × Int × Int × Int × (List (S116)) × Bool × Int)
  | 0, _, _, _, _, _, _, _, _, _, _, _ => none
  | k + 1, x1000, x1001, x112000, x112001, x112002, x112003, x112005, x117000, x117001, x117002, x117003 => if x117001 = true then ((plan_reader_next.f x1000 x1001 5).bind fun bt119 => (plan_reader_one.j1 k x1000 bt119.2 x112000 x112001 bt119.1 x112003 x112005 x117000 x117001 x117002 x117003)) else (plan_reader_one.j1 k x1000 x1001 x112000 x112001 x112002 x112003 x112005 x117000 x117001 x117002 x117003)
def plan_reader_one.j1 : Nat → List Int → Int → Int → Int → Int → Int → Bool → Bool → Bool → Bool → Bool → Option (Int × Int × Int × Int × (List (S116)) × Bool × Int)
  | 0, _, _, _, _, _, _, _, _, _, _, _ => none
  | k + 1, x1000, x1001, x112000, x112001, x112002, x112003, x112005, x117000, x117001, x117002, x117003 => if x117002 = true then ((plan_reader_next.f x1000 x1001 256).bind fun bt121 => (plan_reader_one.j2 k x1000 bt121.2 x112000 x112001 x112002 bt121.1 x112005 x117000 x117001 x117002 x117003)) else (plan_reader_one.j2 k x1000 x1001 x112000 x112001 x112002 x112003 x112005 x117000 x117001 x117002 x117003)
def plan_reader_one.j2 : Nat → List Int → Int → Int → Int → Int → Int → Bool → Bool → Bool → Bool → Bool → Option (Int × Int × Int × Int × (List (S116)) × Bool × Int)
  | 0, _, _, _, _, _, _, _, _, _, _, _ => none
  | k + 1, x1000, x1001, x112000, x112001, x112002, x112003, x112005, x117000, x117001, x117002, x117003 => if x117003 = true then ((plan_reader_next.f x1000 x1001 7).bind fun bt123 => ((plan_reader_next.f x1000 bt123.2 2).bind fun bt125 => (plan_reader_one.l0 k bt123.1 0 x1000 bt125.2 x112000 x112001 x112002 x112003 ([] : List (S116)) (bt125.1 == 1)))) else (some (x112000, x112001, x112002, x112003, ([] : List (S116)), x112005, x1001))
def plan_reader_one.l0 : Nat → Int → Int → List Int → Int → Int → Int → Int → Int → List (S116) → Bool → Option (Int × Int × Int × Int × (List (S116)) × Bool × Int)
  | 0, _, _, _, _, _, _, _, _, _, _ => none
  | k + 1, x39, x40, x1000, x1001, x112000, x112001, x112002, x112003, x112004, x112005 => if x40 < x39 then ((plan_reader_next.f x1000 x1001 2).bind fun bt127 => ((plan_reader_next.f x1000 bt127.2 9).bind fun bt129 => (if bt127.1 = 1 then ((plan_reader_next.f x1000 bt129.2 256).bind fun bt132 => (if x112004.length < 5864062014805 then (plan_reader_one.l0 k x39 (wrap64 (x40 + 1)) x1000 bt132.2 x112000 x112001 x112002 x112003 (x112004 ++ [(⟨(bt127.1 == 1), bt129.1, bt132.1⟩ : S116)]) x112005) else (none))) else (if x112004.length < 5864062014805 then (plan_reader_one.l0 k x39 (wrap64 (x40 + 1)) x1000 bt129.2 x112000 x112001 x112002 x112003 (x112004 ++ [(⟨(bt127.1 == 1), bt129.1, 0⟩ : S116)]) x112005) else (none))))) else (some (x112000, x112001, x112002, x112003, x112004, x112005, x1001))
end
def plan_reader_one.f (k : Nat) (s0_0 : List Int) (s0_1 : Int) : Option (Int × Int × Int × Int × (List (S116)) × Bool × Int) := (plan_reader_next.f s0_0 s0_1 9).bind fun bt109 => ((plan_fields.f (wrap64 (1 + bt109.1))).bind fun bt112 => (if bt112.1 = true then ((plan_reader_next.f s0_0 bt109.2 9).bind fun bt117 => (plan_reader_one.j0 k s0_0 bt117.2 (wrap64 (1 + bt109.1)) bt117.1 0 0 false bt112.1 bt112.2.1 bt112.2.2.1 bt112.2.2.2)) else (plan_reader_one.j0 k s0_0 bt109.2 (wrap64 (1 + bt109.1)) 0 0 0 false bt112.1 bt112.2.1 bt112.2.2.1 bt112.2.2.2)))
theorem plan_reader_one.mono_l : ∀ k, (∀ y0 y1 y2 y3 y4 y5 y6 y7 y8 y9 y10, LeO (plan_reader_one.j0 k y0 y1 y2 y3 y4 y5 y6 y7 y8 y9 y10) (plan_reader_one.j0 (k + 1) y0 y1 y2 y3 y4 y5 y6 y7 y8 y9 y10)) ∧ (∀ y0 y1 y2 y3 y4 y5 y6 y7 y8 y9 y10, LeO (plan_reader_one.j1 k y0 y1 y2 y3 y4 y5 y6 y7 y8 y9 y10) (plan_reader_one.j1 (k + 1) y0 y1 y2 y3 y4 y5 y6 y7 y8 y9 y10)) ∧ (∀ y0 y1 y2 y3 y4 y5 y6 y7 y8 y9 y10, LeO (plan_reader_one.j2 k y0 y1 y2 y3 y4 y5 y6 y7 y8 y9 y10) (plan_reader_one.j2 (k + 1) y0 y1 y2 y3 y4 y5 y6 y7 y8 y9 y10)) ∧ (∀ y0 y1 y2 y3 y4 y5 y6 y7 y8 y9, LeO (plan_reader_one.l0 k y0 y1 y2 y3 y4 y5 y6 y7 y8 y9) (plan_reader_one.l0 (k + 1) y0 y1 y2 y3 y4 y5 y6 y7 y8 y9))
  | 0 => ⟨fun _ _ _ _ _ _ _ _ _ _ _ r h => by simp [plan_reader_one.j0] at h, fun _ _ _ _ _ _ _ _ _ _ _ r h => by simp [plan_reader_one.j1] at h, fun _ _ _ _ _ _ _ _ _ _ _ r h => by simp [plan_reader_one.j2] at h, fun _ _ _ _ _ _ _ _ _ _ r h => by simp [plan_reader_one.l0] at h⟩
  | k + 1 => by
    obtain ⟨ih0, ih1, ih2, ih3⟩ := plan_reader_one.mono_l k
    refine ⟨?_, ?_, ?_, ?_⟩
    · intro y0 y1 y2 y3 y4 y5 y6 y7 y8 y9 y10
      unfold plan_reader_one.j0
      repeat' first
      | (with_reducible exact ih0 _ _ _ _ _ _ _ _ _ _ _)
      | (with_reducible exact ih1 _ _ _ _ _ _ _ _ _ _ _)
      | (with_reducible exact ih2 _ _ _ _ _ _ _ _ _ _ _)
      | (with_reducible exact ih3 _ _ _ _ _ _ _ _ _ _)
      | (with_reducible exact LeO.refl _)
      | (with_reducible exact LeO.none _)
      | (with_reducible refine LeO.ite ?_ ?_)
      | (with_reducible refine LeO.bind ?_ (fun _ => ?_))
      | exact ih0 _ _ _ _ _ _ _ _ _ _ _
      | exact ih1 _ _ _ _ _ _ _ _ _ _ _
      | exact ih2 _ _ _ _ _ _ _ _ _ _ _
      | exact ih3 _ _ _ _ _ _ _ _ _ _
      | exact LeO.none _
      | refine LeO.ite ?_ ?_
      | refine LeO.bind ?_ (fun _ => ?_)
    · intro y0 y1 y2 y3 y4 y5 y6 y7 y8 y9 y10
      unfold plan_reader_one.j1
      repeat' first
      | (with_reducible exact ih0 _ _ _ _ _ _ _ _ _ _ _)
      | (with_reducible exact ih1 _ _ _ _ _ _ _ _ _ _ _)
      | (with_reducible exact ih2 _ _ _ _ _ _ _ _ _ _ _)
      | (with_reducible exact ih3 _ _ _ _ _ _ _ _ _ _)
      | (with_reducible exact LeO.refl _)
      | (with_reducible exact LeO.none _)
      | (with_reducible refine LeO.ite ?_ ?_)
      | (with_reducible refine LeO.bind ?_ (fun _ => ?_))
      | exact ih0 _ _ _ _ _ _ _ _ _ _ _
      | exact ih1 _ _ _ _ _ _ _ _ _ _ _
      | exact ih2 _ _ _ _ _ _ _ _ _ _ _
      | exact ih3 _ _ _ _ _ _ _ _ _ _
      | exact LeO.none _
      | refine LeO.ite ?_ ?_
      | refine LeO.bind ?_ (fun _ => ?_)
    · intro y0 y1 y2 y3 y4 y5 y6 y7 y8 y9 y10
      unfold plan_reader_one.j2
      repeat' first
      | (with_reducible exact ih0 _ _ _ _ _ _ _ _ _ _ _)
      | (with_reducible exact ih1 _ _ _ _ _ _ _ _ _ _ _)
      | (with_reducible exact ih2 _ _ _ _ _ _ _ _ _ _ _)
      | (with_reducible exact ih3 _ _ _ _ _ _ _ _ _ _)
      | (with_reducible exact LeO.refl _)
      | (with_reducible exact LeO.none _)
      | (with_reducible refine LeO.ite ?_ ?_)
      | (with_reducible refine LeO.bind ?_ (fun _ => ?_))
      | exact ih0 _ _ _ _ _ _ _ _ _ _ _
      | exact ih1 _ _ _ _ _ _ _ _ _ _ _
      | exact ih2 _ _ _ _ _ _ _ _ _ _ _
      | exact ih3 _ _ _ _ _ _ _ _ _ _
      | exact LeO.none _
      | refine LeO.ite ?_ ?_
      | refine LeO.bind ?_ (fun _ => ?_)
    · intro y0 y1 y2 y3 y4 y5 y6 y7 y8 y9
      unfold plan_reader_one.l0
      repeat' first
      | (with_reducible exact ih0 _ _ _ _ _ _ _ _ _ _ _)
      | (with_reducible exact ih1 _ _ _ _ _ _ _ _ _ _ _)
      | (with_reducible exact ih2 _ _ _ _ _ _ _ _ _ _ _)
      | (with_reducible exact ih3 _ _ _ _ _ _ _ _ _ _)
      | (with_reducible exact LeO.refl _)
      | (with_reducible exact LeO.none _)
      | (with_reducible refine LeO.ite ?_ ?_)
      | (with_reducible refine LeO.bind ?_ (fun _ => ?_))
      | exact ih0 _ _ _ _ _ _ _ _ _ _ _
      | exact ih1 _ _ _ _ _ _ _ _ _ _ _
      | exact ih2 _ _ _ _ _ _ _ _ _ _ _
      | exact ih3 _ _ _ _ _ _ _ _ _ _
      | exact LeO.none _
      | refine LeO.ite ?_ ?_
      | refine LeO.bind ?_ (fun _ => ?_)
theorem plan_reader_one.mono : ∀ a0 a1 k, LeO (plan_reader_one.f k a0 a1) (plan_reader_one.f (k + 1) a0 a1) := by
  intro a0 a1 k
  obtain ⟨ih0, ih1, ih2, ih3⟩ := plan_reader_one.mono_l k
  unfold plan_reader_one.f
  repeat' first
      | (with_reducible exact ih0 _ _ _ _ _ _ _ _ _ _ _)
      | (with_reducible exact ih1 _ _ _ _ _ _ _ _ _ _ _)
      | (with_reducible exact ih2 _ _ _ _ _ _ _ _ _ _ _)
      | (with_reducible exact ih3 _ _ _ _ _ _ _ _ _ _)
      | (with_reducible exact LeO.refl _)
      | (with_reducible exact LeO.none _)
      | (with_reducible refine LeO.ite ?_ ?_)
      | (with_reducible refine LeO.bind ?_ (fun _ => ?_))
      | exact ih0 _ _ _ _ _ _ _ _ _ _ _
      | exact ih1 _ _ _ _ _ _ _ _ _ _ _
      | exact ih2 _ _ _ _ _ _ _ _ _ _ _
      | exact ih3 _ _ _ _ _ _ _ _ _ _
      | exact LeO.none _
      | refine LeO.ite ?_ ?_
      | refine LeO.bind ?_ (fun _ => ?_)
set_option maxHeartbeats 8000000 in
set_option maxRecDepth 100000 in
theorem plan_reader_one.calls (k : Nat) (g : Nat) (s0_0 : List Int) (s0_1 : Int) (r1 : Int) (r2 : Int) (r3 : Int) (r4 : Int) (r5 : List (S116)) (r6 : Bool) (r7 : Int) (w0 w : World) (hI : IsS125 w0 w g s0_0 s0_1) (hB : Below w0.heap.size w0 w) (h : plan_reader_one.f k s0_0 s0_1 = some (r1, r2, r3, r4, r5, r6, r7)) :
    Calls Try.prog 71 #[.pointer (some ⟨g, 0, none⟩)] w fun e w' => ∃ v4_ : Value, e = .returned (.agg #[.int .i64 r1, .int .i64 r2, .int .i64 r3, .int .i64 r4, v4_, .bool r6]) ∧ Kd.R k116 116 w' w.heap.size (fun _ => True) v4_ r5 ∧ IsS125 w0 w' g s0_0 r7 ∧ Below w0.heap.size w0 w' ∧ KeepBut w w' g none := by
  have hu39 := Try.underlying39
  have hu113 := Try.underlying113
  have hu116 := Try.underlying116
  have HI0 := Aside0.mk hI
  have HK := Aside0.mk (KeepBut.refl w g none)
  have HL := Aside0.mk hB.size
  clear hI
  have HW0 := Aside0.mk hB.size
  have HB := Aside0.mk hB
  clear hB
  have H : ((plan_reader_next.f s0_0 s0_1 9).bind fun bt109 => ((plan_fields.f (wrap64 (1 + bt109.1))).bind fun bt112 => (if bt112.1 = true then ((plan_reader_next.f s0_0 bt109.2 9).bind fun bt117 => (plan_reader_one.j0 k s0_0 bt117.2 (wrap64 (1 + bt109.1)) bt117.1 0 0 false bt112.1 bt112.2.1 bt112.2.2.1 bt112.2.2.2)) else (plan_reader_one.j0 k s0_0 bt109.2 (wrap64 (1 + bt109.1)) 0 0 0 false bt112.1 bt112.2.1 bt112.2.2.1 bt112.2.2.2)))) = some (r1, r2, r3, r4, r5, r6, r7) := h
  clear h
  replace H := Option.bind_eq_some_iff.mp H
  obtain ⟨⟨t109, t110⟩, A20, H⟩ := H
  replace H : ((plan_fields.f (wrap64 (1 + t109))).bind fun bt112 => (if bt112.1 = true then ((plan_reader_next.f s0_0 t110 9).bind fun bt117 => (plan_reader_one.j0 k s0_0 bt117.2 (wrap64 (1 + t109)) bt117.1 0 0 false bt112.1 bt112.2.1 bt112.2.2.1 bt112.2.2.2)) else (plan_reader_one.j0 k s0_0 t110 (wrap64 (1 + t109)) 0 0 0 false bt112.1 bt112.2.1 bt112.2.2.1 bt112.2.2.2))) = some (r1, r2, r3, r4, r5, r6, r7) := H
  have A2 := Aside0.mk A20
  clear A20
  replace H := Option.bind_eq_some_iff.mp H
  obtain ⟨⟨t112, t113, t114, t115⟩, A30, H⟩ := H
  replace H : (if t112 = true then ((plan_reader_next.f s0_0 t110 9).bind fun bt117 => (plan_reader_one.j0 k s0_0 bt117.2 (wrap64 (1 + t109)) bt117.1 0 0 false t112 t113 t114 t115)) else (plan_reader_one.j0 k s0_0 t110 (wrap64 (1 + t109)) 0 0 0 false t112 t113 t114 t115)) = some (r1, r2, r3, r4, r5, r6, r7) := H
  have A3 := Aside0.mk A30
  clear A30
  have HC4 := Aside0.mk H
  clear H
  go_enter Try.func71, Try.ntmps71
  go_upto_if 15 with (first | ((with_reducible refine gate_dst (N := 2) rfl ?_); refine box_event ?hg (N := 2) ?hd (cs := #[.int .i64 0, .int .i64 0, .int .i64 0, .int .i64 0, .slice none 0 0, .bool false]) (t := 39) ?hr ?_; (case hd => rfl); (case hg => rfl); (case hr => first | (go_simp; done) | (go_simp; rfl)); intro gb108 hg w5 hbox hb; have n0_ := Aside0.mk (IsS125.below (by repeat (first | (with_reducible first | exact HI0.out | apply IsS125.alloc | apply IsS125.drewN | apply IsS125.drew | apply IsS125.set_1) | exact HI0.out)) hb); have n1_ := Aside0.mk (KeepBut.trans (by repeat (first | (with_reducible first | exact HK.out | apply KeepBut.set_ | apply keep_drewN | apply keep_drew | apply keep_alloc) | exact HK.out)) (KeepBut.of_below hb g none) (.inl rfl)); have n2_ := Aside0.mk (below_step (by repeat (first | (with_reducible first | exact HB.out | apply below_alloc | apply pw_below_drewN | apply below_drew1 | refine below_set ?_ (IsS125.ge HI0.out)) | exact HB.out)) hb); have n3_ := Aside0.mk (hbox); have n4_ := Aside0.mk ((by rw [hg]; exact (keep_size (w := w) (g := g) (row := none) (by repeat (first | (with_reducible first | exact HK.out | apply KeepBut.set_ | apply keep_drewN | apply keep_drew | apply keep_alloc) | exact HK.out))) : w.heap.size ≤ gb108)); have n5_ := Aside0.mk ((Nat.le_trans HW0.out (by rw [hg]; exact (keep_size (w := w) (g := g) (row := none) (by repeat (first | (with_reducible first | exact HK.out | apply KeepBut.set_ | apply keep_drewN | apply keep_drew | apply keep_alloc) | exact HK.out))) : w.heap.size ≤ gb108) : w0.heap.size ≤ gb108)); have n6_ := Aside0.mk ((by rw [hg]; exact Nat.ne_of_lt (IsS125.lt (show IsS125 w0 _ g s0_0 s0_1 from by repeat (first | (with_reducible first | exact HI0.out | apply IsS125.alloc | apply IsS125.drewN | apply IsS125.drew | apply IsS125.set_1) | exact HI0.out))) : g ≠ gb108)); have n7_ := Aside0.mk ((by rw [hg]; exact Nat.ne_of_gt (IsS125.lt (show IsS125 w0 _ g s0_0 s0_1 from by repeat (first | (with_reducible first | exact HI0.out | apply IsS125.alloc | apply IsS125.drewN | apply IsS125.drew | apply IsS125.set_1) | exact HI0.out))) : gb108 ≠ g)); clear HI0; clear HK; clear HB; have HI0 := n0_; have HK := n1_; have HB := n2_; have BK108 := n3_; have GW108 := n4_; have GE108 := n5_; have NB0_108 := n6_; have NB108_0 := n7_; clear n0_ n1_ n2_ n3_ n4_ n5_ n6_ n7_; clear hb hbox hg) | ((with_reducible refine gate_callee (f := 70) rfl ?_); refine goesL_ (some 8) rfl rfl Try.func70 (by kernel_rfl) rfl #[.pointer (some ⟨g, 0, none⟩), .int .i64 9] rfl (by (try simp only [List.map_toArray, List.map_cons, List.map_nil]); first | done | rfl | (simp only [List.length_drop, List.length_take]; rfl)) ?_; (with_reducible refine (plan_reader_next.calls g s0_0 s0_1 9 t109 t110 w0 _ ?side1 ?side2 A2.out).mono ?_); (case side1 => repeat (first | (with_reducible first | exact HI0.out | apply IsS125.alloc | apply IsS125.drewN | apply IsS125.drew | apply IsS125.set_1 | refine IsS125.far ?_ NB0_108.out _) | exact HI0.out)); (case side2 => repeat (first | (with_reducible first | exact HB.out | apply below_alloc | apply pw_below_drewN | apply below_drew1 | refine below_set ?_ (IsS125.ge HI0.out) | refine below_set ?_ GE108.out) | exact HB.out)); rintro e w6 ⟨rfl, hi, hb, hk⟩; refine ⟨_, rfl, ?_⟩; have n0_ := Aside0.mk (KeepBut.blk hk (g' := gb108) (o := .cells #[.int .i64 0, .int .i64 0, .int .i64 0, .int .i64 0, .slice none 0 0, .bool false] 39 (0, 0)) (by (with_reducible repeat (first | refine blk_drewN ?_ _ | refine blk_drew ?_ | refine blk_alloc ?_ _)); exact BK108.out) NB108_0.out (by simp)); have n1_ := Aside0.mk (KeepBut.trans (by repeat (first | (with_reducible first | exact HK.out | apply KeepBut.set_ | apply keep_drewN | apply keep_drew | apply keep_alloc | refine keep_far ?_ GW108.out _) | exact HK.out)) hk (.inl rfl)); have n2_ := Aside0.mk (hb); have n3_ := Aside0.mk (hi); clear BK108; clear HK; clear HB; clear HI0; have BK108 := n0_; have HK := n1_; have HB := n2_; have HI0 := n3_; clear n0_ n1_ n2_ n3_; (try clear hb); (try clear hb2); (try clear hk); (try clear hi)) | ((with_reducible refine gate_dst (N := 3) rfl ?_); refine box_event ?hg (N := 3) ?hd (cs := #[.int .i64 0, .int .i64 0, .int .i64 0, .int .i64 0, .slice none 0 0, .bool false]) (t := 39) ?hr ?_; (case hd => rfl); (case hg => rfl); (case hr => first | (go_simp; done) | (go_simp; rfl)); intro gb111 hg w7 hbox hb; have n0_ := Aside0.mk (IsS125.below (by repeat (first | (with_reducible first | exact HI0.out | apply IsS125.alloc | apply IsS125.drewN | apply IsS125.drew | apply IsS125.set_1 | refine IsS125.far ?_ NB0_108.out _) | exact HI0.out)) hb); have n1_ := Aside0.mk (blk_below (g := gb108) (o := .cells #[.int .i64 0, .int .i64 0, .int .i64 0, .int .i64 0, .slice none 0 0, .bool false] 39 (0, 0)) (by (with_reducible repeat (first | refine blk_drewN ?_ _ | refine blk_drew ?_ | refine blk_alloc ?_ _)); exact BK108.out) hb); have n2_ := Aside0.mk (KeepBut.trans (by repeat (first | (with_reducible first | exact HK.out | apply KeepBut.set_ | apply keep_drewN | apply keep_drew | apply keep_alloc | refine keep_far ?_ GW108.out _) | exact HK.out)) (KeepBut.of_below hb g none) (.inl rfl)); have n3_ := Aside0.mk (below_step (by repeat (first | (with_reducible first | exact HB.out | apply below_alloc | apply pw_below_drewN | apply below_drew1 | refine below_set ?_ (IsS125.ge HI0.out) | refine below_set ?_ GE108.out) | exact HB.out)) hb); have n4_ := Aside0.mk (hbox); have n5_ := Aside0.mk ((by rw [hg]; exact (keep_size (w := w) (g := g) (row := none) (by repeat (first | (with_reducible first | exact HK.out | apply KeepBut.set_ | apply keep_drewN | apply keep_drew | apply keep_alloc | refine keep_far ?_ GW108.out _) | exact HK.out))) : w.heap.size ≤ gb111)); have n6_ := Aside0.mk ((Nat.le_trans HW0.out (by rw [hg]; exact (keep_size (w := w) (g := g) (row := none) (by repeat (first | (with_reducible first | exact HK.out | apply KeepBut.set_ | apply keep_drewN | apply keep_drew | apply keep_alloc | refine keep_far ?_ GW108.out _) | exact HK.out))) : w.heap.size ≤ gb111) : w0.heap.size ≤ gb111)); have n7_ := Aside0.mk ((by rw [hg]; exact Nat.ne_of_lt (blk_lt (g := gb108) (o := .cells #[.int .i64 0, .int .i64 0, .int .i64 0, .int .i64 0, .slice none 0 0, .bool false] 39 (0, 0)) (by (with_reducible repeat (first | refine blk_drewN ?_ _ | refine blk_drew ?_ | refine blk_alloc ?_ _)); exact BK108.out)) : gb108 ≠ gb111)); have n8_ := Aside0.mk ((by rw [hg]; exact Nat.ne_of_gt (blk_lt (g := gb108) (o := .cells #[.int .i64 0, .int .i64 0, .int .i64 0, .int .i64 0, .slice none 0 0, .bool false] 39 (0, 0)) (by (with_reducible repeat (first | refine blk_drewN ?_ _ | refine blk_drew ?_ | refine blk_alloc ?_ _)); exact BK108.out)) : gb111 ≠ gb108)); have n9_ := Aside0.mk ((by rw [hg]; exact Nat.ne_of_lt (IsS125.lt (show IsS125 w0 _ g s0_0 t110 from by repeat (first | (with_reducible first | exact HI0.out | apply IsS125.alloc | apply IsS125.drewN | apply IsS125.drew | apply IsS125.set_1 | refine IsS125.far ?_ NB0_108.out _) | exact HI0.out))) : g ≠ gb111)); have n10_ := Aside0.mk ((by rw [hg]; exact Nat.ne_of_gt (IsS125.lt (show IsS125 w0 _ g s0_0 t110 from by repeat (first | (with_reducible first | exact HI0.out | apply IsS125.alloc | apply IsS125.drewN | apply IsS125.drew | apply IsS125.set_1 | refine IsS125.far ?_ NB0_108.out _) | exact HI0.out))) : gb111 ≠ g)); clear HI0; clear BK108; clear HK; clear HB; have HI0 := n0_; have BK108 := n1_; have HK := n2_; have HB := n3_; have BK111 := n4_; have GW111 := n5_; have GE111 := n6_; have NB108_111 := n7_; have NB111_108 := n8_; have NB0_111 := n9_; have NB111_0 := n10_; clear n0_ n1_ n2_ n3_ n4_ n5_ n6_ n7_ n8_ n9_ n10_; clear hb hbox hg; have hnb8 := NB111_108.out; have hnc8 := NB108_111.out; have hnb9 := NB111_0.out; have hnc9 := NB0_111.out; have hcz10_0 : w7.cell? ⟨gb111, 0, none⟩ = some (.int .i64 0) := (blk_cell BK111.out 0).trans rfl; have hcz10_1 : w7.cell? ⟨gb111, 1, none⟩ = some (.int .i64 0) := (blk_cell BK111.out 1).trans rfl; have hcz10_2 : w7.cell? ⟨gb111, 2, none⟩ = some (.int .i64 0) := (blk_cell BK111.out 2).trans rfl; have hcz10_3 : w7.cell? ⟨gb111, 3, none⟩ = some (.int .i64 0) := (blk_cell BK111.out 3).trans rfl; have hcz10_4 : w7.cell? ⟨gb111, 4, none⟩ = some (.slice none 0 0) := (blk_cell BK111.out 4).trans rfl; have hcz10_5 : w7.cell? ⟨gb111, 5, none⟩ = some (.bool false) := (blk_cell BK111.out 5).trans rfl; have hfz10_0 := blk_frozen BK111.out 0; have hfz10_1 := blk_frozen BK111.out 1; have hfz10_2 := blk_frozen BK111.out 2; have hfz10_3 := blk_frozen BK111.out 3; have hfz10_4 := blk_frozen BK111.out 4; have hfz10_5 := blk_frozen BK111.out 5) | ((with_reducible refine gate_callee (f := 62) rfl ?_); refine goesL_ (some 13) rfl rfl Try.func62 (by kernel_rfl) rfl #[.int .i64 (wrap64 (1 + t109))] rfl (by (try simp only [List.map_toArray, List.map_cons, List.map_nil]); first | done | rfl | (simp only [List.length_drop, List.length_take]; rfl)) ?_; (with_reducible refine (plan_fields.calls (wrap64 (1 + t109)) t112 t113 t114 t115 _ A3.out).mono ?_); rintro e w11 ⟨rfl, hb⟩; refine ⟨_, rfl, ?_⟩; have n0_ := Aside0.mk (IsS125.below (show IsS125 w0 ((((((w7.setCell ⟨gb111, 0, none⟩ (.int .i64 (wrap64 (1 + t109)))).setCell ⟨gb111, 1, none⟩ (.int .i64 0)).setCell ⟨gb111, 2, none⟩ (.int .i64 0)).setCell ⟨gb111, 3, none⟩ (.int .i64 0)).setCell ⟨gb111, 4, none⟩ (.slice none 0 0)).setCell ⟨gb111, 5, none⟩ (.bool false)) g s0_0 t110 from by repeat (first | (with_reducible first | exact HI0.out | apply IsS125.alloc | apply IsS125.drewN | apply IsS125.drew | apply IsS125.set_1 | refine IsS125.far ?_ NB0_108.out _ | refine IsS125.far ?_ NB0_111.out _) | exact HI0.out)) hb); have n1_ := Aside0.mk (blk_below (g := gb108) (o := .cells #[.int .i64 0, .int .i64 0, .int .i64 0, .int .i64 0, .slice none 0 0, .bool false] 39 (0, 0)) (by (with_reducible repeat (first | refine blk_drewN ?_ _ | refine blk_drew ?_ | refine blk_alloc ?_ _)); refine blk_far ?_ NB108_111.out _; (with_reducible repeat (first | refine blk_drewN ?_ _ | refine blk_drew ?_ | refine blk_alloc ?_ _)); refine blk_far ?_ NB108_111.out _; (with_reducible repeat (first | refine blk_drewN ?_ _ | refine blk_drew ?_ | refine blk_alloc ?_ _)); refine blk_far ?_ NB108_111.out _; (with_reducible repeat (first | refine blk_drewN ?_ _ | refine blk_drew ?_ | refine blk_alloc ?_ _)); refine blk_far ?_ NB108_111.out _; (with_reducible repeat (first | refine blk_drewN ?_ _ | refine blk_drew ?_ | refine blk_alloc ?_ _)); refine blk_far ?_ NB108_111.out _; (with_reducible repeat (first | refine blk_drewN ?_ _ | refine blk_drew ?_ | refine blk_alloc ?_ _)); refine blk_far ?_ NB108_111.out _; (with_reducible repeat (first | refine blk_drewN ?_ _ | refine blk_drew ?_ | refine blk_alloc ?_ _)); exact BK108.out) hb); have n2_ := Aside0.mk (blk_below (g := gb111) (o := .cells #[.int .i64 (wrap64 (1 + t109)), .int .i64 0, .int .i64 0, .int .i64 0, .slice none 0 0, .bool false] 39 (0, 0)) (by (with_reducible repeat (first | refine blk_drewN ?_ _ | refine blk_drew ?_ | refine blk_alloc ?_ _)); refine blk_put (cs := #[.int .i64 (wrap64 (1 + t109)), .int .i64 0, .int .i64 0, .int .i64 0, .slice none 0 0, .bool false]) ?_ 5 _ rfl; (with_reducible repeat (first | refine blk_drewN ?_ _ | refine blk_drew ?_ | refine blk_alloc ?_ _)); refine blk_put (cs := #[.int .i64 (wrap64 (1 + t109)), .int .i64 0, .int .i64 0, .int .i64 0, .slice none 0 0, .bool false]) ?_ 4 _ rfl; (with_reducible repeat (first | refine blk_drewN ?_ _ | refine blk_drew ?_ | refine blk_alloc ?_ _)); refine blk_put (cs := #[.int .i64 (wrap64 (1 + t109)), .int .i64 0, .int .i64 0, .int .i64 0, .slice none 0 0, .bool false]) ?_ 3 _ rfl; (with_reducible repeat (first | refine blk_drewN ?_ _ | refine blk_drew ?_ | refine blk_alloc ?_ _)); refine blk_put (cs := #[.int .i64 (wrap64 (1 + t109)), .int .i64 0, .int .i64 0, .int .i64 0, .slice none 0 0, .bool false]) ?_ 2 _ rfl; (with_reducible repeat (first | refine blk_drewN ?_ _ | refine blk_drew ?_ | refine blk_alloc ?_ _)); refine blk_put (cs := #[.int .i64 (wrap64 (1 + t109)), .int .i64 0, .int .i64 0, .int .i64 0, .slice none 0 0, .bool false]) ?_ 1 _ rfl; (with_reducible repeat (first | refine blk_drewN ?_ _ | refine blk_drew ?_ | refine blk_alloc ?_ _)); refine blk_put (cs := #[.int .i64 0, .int .i64 0, .int .i64 0, .int .i64 0, .slice none 0 0, .bool false]) ?_ 0 _ rfl; (with_reducible repeat (first | refine blk_drewN ?_ _ | refine blk_drew ?_ | refine blk_alloc ?_ _)); exact BK111.out) hb); have n3_ := Aside0.mk (KeepBut.trans (by repeat (first | (with_reducible first | exact HK.out | apply KeepBut.set_ | apply keep_drewN | apply keep_drew | apply keep_alloc | refine keep_far ?_ GW108.out _ | refine keep_far ?_ GW111.out _) | exact HK.out)) (KeepBut.of_below hb g none) (.inl rfl)); have n4_ := Aside0.mk (below_step (by repeat (first | (with_reducible first | exact HB.out | apply below_alloc | apply pw_below_drewN | apply below_drew1 | refine below_set ?_ (IsS125.ge HI0.out) | refine below_set ?_ GE108.out | refine below_set ?_ GE111.out) | exact HB.out)) hb); clear HI0; clear BK108; clear BK111; clear HK; clear HB; have HI0 := n0_; have BK108 := n1_; have BK111 := n2_; have HK := n3_; have HB := n4_; clear n0_ n1_ n2_ n3_ n4_; (try clear hb); (try clear hb2); (try clear hk); (try clear hi)) | ((with_reducible refine gate_dst (N := 4) rfl ?_); refine box_event ?hg (N := 4) ?hd (cs := #[.bool false, .bool false, .bool false, .bool false]) (t := 113) ?hr ?_; (case hd => rfl); (case hg => rfl); (case hr => first | (go_simp; done) | (go_simp; rfl)); intro gb116 hg w12 hbox hb; have n0_ := Aside0.mk (IsS125.below (by repeat (first | (with_reducible first | exact HI0.out | apply IsS125.alloc | apply IsS125.drewN | apply IsS125.drew | apply IsS125.set_1 | refine IsS125.far ?_ NB0_108.out _ | refine IsS125.far ?_ NB0_111.out _) | exact HI0.out)) hb); have n1_ := Aside0.mk (blk_below (g := gb108) (o := .cells #[.int .i64 0, .int .i64 0, .int .i64 0, .int .i64 0, .slice none 0 0, .bool false] 39 (0, 0)) (by (with_reducible repeat (first | refine blk_drewN ?_ _ | refine blk_drew ?_ | refine blk_alloc ?_ _)); exact BK108.out) hb); have n2_ := Aside0.mk (blk_below (g := gb111) (o := .cells #[.int .i64 (wrap64 (1 + t109)), .int .i64 0, .int .i64 0, .int .i64 0, .slice none 0 0, .bool false] 39 (0, 0)) (by (with_reducible repeat (first | refine blk_drewN ?_ _ | refine blk_drew ?_ | refine blk_alloc ?_ _)); exact BK111.out) hb); have n3_ := Aside0.mk (KeepBut.trans (by repeat (first | (with_reducible first | exact HK.out | apply KeepBut.set_ | apply keep_drewN | apply keep_drew | apply keep_alloc | refine keep_far ?_ GW108.out _ | refine keep_far ?_ GW111.out _) | exact HK.out)) (KeepBut.of_below hb g none) (.inl rfl)); have n4_ := Aside0.mk (below_step (by repeat (first | (with_reducible first | exact HB.out | apply below_alloc | apply pw_below_drewN | apply below_drew1 | refine below_set ?_ (IsS125.ge HI0.out) | refine below_set ?_ GE108.out | refine below_set ?_ GE111.out) | exact HB.out)) hb); have n5_ := Aside0.mk (hbox); have n6_ := Aside0.mk ((by rw [hg]; exact (keep_size (w := w) (g := g) (row := none) (by repeat (first | (with_reducible first | exact HK.out | apply KeepBut.set_ | apply keep_drewN | apply keep_drew | apply keep_alloc | refine keep_far ?_ GW108.out _ | refine keep_far ?_ GW111.out _) | exact HK.out))) : w.heap.size ≤ gb116)); have n7_ := Aside0.mk ((Nat.le_trans HW0.out (by rw [hg]; exact (keep_size (w := w) (g := g) (row := none) (by repeat (first | (with_reducible first | exact HK.out | apply KeepBut.set_ | apply keep_drewN | apply keep_drew | apply keep_alloc | refine keep_far ?_ GW108.out _ | refine keep_far ?_ GW111.out _) | exact HK.out))) : w.heap.size ≤ gb116) : w0.heap.size ≤ gb116)); have n8_ := Aside0.mk ((by rw [hg]; exact Nat.ne_of_lt (blk_lt (g := gb108) (o := .cells #[.int .i64 0, .int .i64 0, .int .i64 0, .int .i64 0, .slice none 0 0, .bool false] 39 (0, 0)) (by (with_reducible repeat (first | refine blk_drewN ?_ _ | refine blk_drew ?_ | refine blk_alloc ?_ _)); exact BK108.out)) : gb108 ≠ gb116)); have n9_ := Aside0.mk ((by rw [hg]; exact Nat.ne_of_gt (blk_lt (g := gb108) (o := .cells #[.int .i64 0, .int .i64 0, .int .i64 0, .int .i64 0, .slice none 0 0, .bool false] 39 (0, 0)) (by (with_reducible repeat (first | refine blk_drewN ?_ _ | refine blk_drew ?_ | refine blk_alloc ?_ _)); exact BK108.out)) : gb116 ≠ gb108)); have n10_ := Aside0.mk ((by rw [hg]; exact Nat.ne_of_lt (blk_lt (g := gb111) (o := .cells #[.int .i64 (wrap64 (1 + t109)), .int .i64 0, .int .i64 0, .int .i64 0, .slice none 0 0, .bool false] 39 (0, 0)) (by (with_reducible repeat (first | refine blk_drewN ?_ _ | refine blk_drew ?_ | refine blk_alloc ?_ _)); exact BK111.out)) : gb111 ≠ gb116)); have n11_ := Aside0.mk ((by rw [hg]; exact Nat.ne_of_gt (blk_lt (g := gb111) (o := .cells #[.int .i64 (wrap64 (1 + t109)), .int .i64 0, .int .i64 0, .int .i64 0, .slice none 0 0, .bool false] 39 (0, 0)) (by (with_reducible repeat (first | refine blk_drewN ?_ _ | refine blk_drew ?_ | refine blk_alloc ?_ _)); exact BK111.out)) : gb116 ≠ gb111)); have n12_ := Aside0.mk ((by rw [hg]; exact Nat.ne_of_lt (IsS125.lt (show IsS125 w0 _ g s0_0 t110 from by repeat (first | (with_reducible first | exact HI0.out | apply IsS125.alloc | apply IsS125.drewN | apply IsS125.drew | apply IsS125.set_1 | refine IsS125.far ?_ NB0_108.out _ | refine IsS125.far ?_ NB0_111.out _) | exact HI0.out))) : g ≠ gb116)); have n13_ := Aside0.mk ((by rw [hg]; exact Nat.ne_of_gt (IsS125.lt (show IsS125 w0 _ g s0_0 t110 from by repeat (first | (with_reducible first | exact HI0.out | apply IsS125.alloc | apply IsS125.drewN | apply IsS125.drew | apply IsS125.set_1 | refine IsS125.far ?_ NB0_108.out _ | refine IsS125.far ?_ NB0_111.out _) | exact HI0.out))) : gb116 ≠ g)); clear HI0; clear BK108; clear BK111; clear HK; clear HB; have HI0 := n0_; have BK108 := n1_; have BK111 := n2_; have HK := n3_; have HB := n4_; have BK116 := n5_; have GW116 := n6_; have GE116 := n7_; have NB108_116 := n8_; have NB116_108 := n9_; have NB111_116 := n10_; have NB116_111 := n11_; have NB0_116 := n12_; have NB116_0 := n13_; clear n0_ n1_ n2_ n3_ n4_ n5_ n6_ n7_ n8_ n9_ n10_ n11_ n12_ n13_; clear hb hbox hg; have hnb13 := NB116_108.out; have hnc13 := NB108_116.out; have hnb14 := NB116_111.out; have hnc14 := NB111_116.out; have hnb15 := NB116_0.out; have hnc15 := NB0_116.out; have hcz16_0 : w12.cell? ⟨gb116, 0, none⟩ = some (.bool false) := (blk_cell BK116.out 0).trans rfl; have hcz16_1 : w12.cell? ⟨gb116, 1, none⟩ = some (.bool false) := (blk_cell BK116.out 1).trans rfl; have hcz16_2 : w12.cell? ⟨gb116, 2, none⟩ = some (.bool false) := (blk_cell BK116.out 2).trans rfl; have hcz16_3 : w12.cell? ⟨gb116, 3, none⟩ = some (.bool false) := (blk_cell BK116.out 3).trans rfl; have hfz16_0 := blk_frozen BK116.out 0; have hfz16_1 := blk_frozen BK116.out 1; have hfz16_2 := blk_frozen BK116.out 2; have hfz16_3 := blk_frozen BK116.out 3))
  (try simp only [Act.put, List.setIfInBounds_toArray, List.set_cons_zero, List.set_cons_succ])
  go_cut [] (fun wc => ∃ (kq : Nat) (x1001_3 : Int) (x112001_3 : Int), Aside0 (plan_reader_one.j0 kq s0_0 x1001_3 (wrap64 (1 + t109)) x112001_3 0 0 false t112 t113 t114 t115 = some (r1, r2, r3, r4, r5, r6, r7)) ∧ Aside0 (kq ≤ k) ∧ Aside0 (wc.heap[gb108]? = some (.cells #[.int .i64 0, .int .i64 0, .int .i64 0, .int .i64 0, (.slice none 0 0), .bool false] 39 (0, 0))) ∧ Aside0 (wc.heap[gb111]? = some (.cells #[.int .i64 (wrap64 (1 + t109)), .int .i64 x112001_3, .int .i64 0, .int .i64 0, (.slice none 0 0), .bool false] 39 (0, 0))) ∧ Aside0 (wc.heap[gb116]? = some (.cells #[.bool t112, .bool t113, .bool t114, .bool t115] 113 (0, 0))) ∧ Aside0 (IsS125 w0 wc g s0_0 x1001_3) ∧ Aside0 (KeepBut w wc g none) ∧ Aside0 (Below w0.heap.size w0 wc))
  case first =>
    have H := HC4.out
    clear HC4
    by_cases c17 : t112 = true
    · subst c17
      have H1 : ((plan_reader_next.f s0_0 t110 9).bind fun bt117 => (plan_reader_one.j0 k s0_0 bt117.2 (wrap64 (1 + t109)) bt117.1 0 0 false true t113 t114 t115)) = some (r1, r2, r3, r4, r5, r6, r7) := by rw [if_pos rfl] at H; exact H
      clear H
      have H := H1
      clear H1
      replace H := Option.bind_eq_some_iff.mp H
      obtain ⟨⟨t117, t118⟩, A180, H⟩ := H
      replace H : (plan_reader_one.j0 k s0_0 t118 (wrap64 (1 + t109)) t117 0 0 false true t113 t114 t115) = some (r1, r2, r3, r4, r5, r6, r7) := H
      have A18 := Aside0.mk A180
      clear A180
      have H' := Aside0.mk H
      clear H
      go_wp2_with (first | ((with_reducible refine gate_callee (f := 70) rfl ?_); refine goesL_ (some 17) rfl rfl Try.func70 (by kernel_rfl) rfl #[.pointer (some ⟨g, 0, none⟩), .int .i64 9] rfl (by (try simp only [List.map_toArray, List.map_cons, List.map_nil]); first | done | rfl | (simp only [List.length_drop, List.length_take]; rfl)) ?_; (with_reducible refine (plan_reader_next.calls g s0_0 t110 9 t117 t118 w0 _ ?side1 ?side2 A18.out).mono ?_); (case side1 => repeat (first | (with_reducible first | exact HI0.out | apply IsS125.alloc | apply IsS125.drewN | apply IsS125.drew | apply IsS125.set_1 | refine IsS125.far ?_ NB0_108.out _ | refine IsS125.far ?_ NB0_111.out _ | refine IsS125.far ?_ NB0_116.out _) | exact HI0.out)); (case side2 => repeat (first | (with_reducible first | exact HB.out | apply below_alloc | apply pw_below_drewN | apply below_drew1 | refine below_set ?_ (IsS125.ge HI0.out) | refine below_set ?_ GE108.out | refine below_set ?_ GE111.out | refine below_set ?_ GE116.out) | exact HB.out)); rintro e w19 ⟨rfl, hi, hb, hk⟩; refine ⟨_, rfl, ?_⟩; have n0_ := Aside0.mk (KeepBut.blk hk (g' := gb108) (o := .cells #[.int .i64 0, .int .i64 0, .int .i64 0, .int .i64 0, .slice none 0 0, .bool false] 39 (0, 0)) (by (with_reducible repeat (first | refine blk_drewN ?_ _ | refine blk_drew ?_ | refine blk_alloc ?_ _)); refine blk_far ?_ NB108_116.out _; (with_reducible repeat (first | refine blk_drewN ?_ _ | refine blk_drew ?_ | refine blk_alloc ?_ _)); refine blk_far ?_ NB108_116.out _; (with_reducible repeat (first | refine blk_drewN ?_ _ | refine blk_drew ?_ | refine blk_alloc ?_ _)); refine blk_far ?_ NB108_116.out _; (with_reducible repeat (first | refine blk_drewN ?_ _ | refine blk_drew ?_ | refine blk_alloc ?_ _)); refine blk_far ?_ NB108_116.out _; (with_reducible repeat (first | refine blk_drewN ?_ _ | refine blk_drew ?_ | refine blk_alloc ?_ _)); exact BK108.out) NB108_0.out (by simp)); have n1_ := Aside0.mk (KeepBut.blk hk (g' := gb111) (o := .cells #[.int .i64 (wrap64 (1 + t109)), .int .i64 0, .int .i64 0, .int .i64 0, .slice none 0 0, .bool false] 39 (0, 0)) (by (with_reducible repeat (first | refine blk_drewN ?_ _ | refine blk_drew ?_ | refine blk_alloc ?_ _)); refine blk_far ?_ NB111_116.out _; (with_reducible repeat (first | refine blk_drewN ?_ _ | refine blk_drew ?_ | refine blk_alloc ?_ _)); refine blk_far ?_ NB111_116.out _; (with_reducible repeat (first | refine blk_drewN ?_ _ | refine blk_drew ?_ | refine blk_alloc ?_ _)); refine blk_far ?_ NB111_116.out _; (with_reducible repeat (first | refine blk_drewN ?_ _ | refine blk_drew ?_ | refine blk_alloc ?_ _)); refine blk_far ?_ NB111_116.out _; (with_reducible repeat (first | refine blk_drewN ?_ _ | refine blk_drew ?_ | refine blk_alloc ?_ _)); exact BK111.out) NB111_0.out (by simp)); have n2_ := Aside0.mk (KeepBut.blk hk (g' := gb116) (o := .cells #[.bool true, .bool t113, .bool t114, .bool t115] 113 (0, 0)) (by (with_reducible repeat (first | refine blk_drewN ?_ _ | refine blk_drew ?_ | refine blk_alloc ?_ _)); refine blk_put (cs := #[.bool true, .bool t113, .bool t114, .bool false]) ?_ 3 _ rfl; (with_reducible repeat (first | refine blk_drewN ?_ _ | refine blk_drew ?_ | refine blk_alloc ?_ _)); refine blk_put (cs := #[.bool true, .bool t113, .bool false, .bool false]) ?_ 2 _ rfl; (with_reducible repeat (first | refine blk_drewN ?_ _ | refine blk_drew ?_ | refine blk_alloc ?_ _)); refine blk_put (cs := #[.bool true, .bool false, .bool false, .bool false]) ?_ 1 _ rfl; (with_reducible repeat (first | refine blk_drewN ?_ _ | refine blk_drew ?_ | refine blk_alloc ?_ _)); refine blk_put (cs := #[.bool false, .bool false, .bool false, .bool false]) ?_ 0 _ rfl; (with_reducible repeat (first | refine blk_drewN ?_ _ | refine blk_drew ?_ | refine blk_alloc ?_ _)); exact BK116.out) NB116_0.out (by simp)); have n3_ := Aside0.mk (KeepBut.trans (by repeat (first | (with_reducible first | exact HK.out | apply KeepBut.set_ | apply keep_drewN | apply keep_drew | apply keep_alloc | refine keep_far ?_ GW108.out _ | refine keep_far ?_ GW111.out _ | refine keep_far ?_ GW116.out _) | exact HK.out)) hk (.inl rfl)); have n4_ := Aside0.mk (hb); have n5_ := Aside0.mk (hi); clear BK108; clear BK111; clear BK116; clear HK; clear HB; clear HI0; have BK108 := n0_; have BK111 := n1_; have BK116 := n2_; have HK := n3_; have HB := n4_; have HI0 := n5_; clear n0_ n1_ n2_ n3_ n4_ n5_; (try clear hb); (try clear hb2); (try clear hk); (try clear hi); have hnb20 := NB111_108.out; have hnc20 := NB108_111.out; have hnb21 := NB111_116.out; have hnc21 := NB116_111.out; have hnb22 := NB111_0.out; have hnc22 := NB0_111.out; have hcz23_0 : w19.cell? ⟨gb111, 0, none⟩ = some (.int .i64 (wrap64 (1 + t109))) := (blk_cell BK111.out 0).trans rfl; have hcz23_1 : w19.cell? ⟨gb111, 1, none⟩ = some (.int .i64 0) := (blk_cell BK111.out 1).trans rfl; have hcz23_2 : w19.cell? ⟨gb111, 2, none⟩ = some (.int .i64 0) := (blk_cell BK111.out 2).trans rfl; have hcz23_3 : w19.cell? ⟨gb111, 3, none⟩ = some (.int .i64 0) := (blk_cell BK111.out 3).trans rfl; have hcz23_4 : w19.cell? ⟨gb111, 4, none⟩ = some (.slice none 0 0) := (blk_cell BK111.out 4).trans rfl; have hcz23_5 : w19.cell? ⟨gb111, 5, none⟩ = some (.bool false) := (blk_cell BK111.out 5).trans rfl; have hfz23_0 := blk_frozen BK111.out 0; have hfz23_1 := blk_frozen BK111.out 1; have hfz23_2 := blk_frozen BK111.out 2; have hfz23_3 := blk_frozen BK111.out 3; have hfz23_4 := blk_frozen BK111.out 4; have hfz23_5 := blk_frozen BK111.out 5))
      go_meet
      case rel => exact ⟨_, (t118), (t117), H', ⟨by first | omega | exact Nat.le_refl _⟩, ⟨by (with_reducible repeat (first | refine blk_drewN ?_ _ | refine blk_drew ?_ | refine blk_alloc ?_ _)); refine blk_far ?_ NB108_111.out _; (with_reducible repeat (first | refine blk_drewN ?_ _ | refine blk_drew ?_ | refine blk_alloc ?_ _)); exact BK108.out⟩, ⟨by (with_reducible repeat (first | refine blk_drewN ?_ _ | refine blk_drew ?_ | refine blk_alloc ?_ _)); refine blk_put (cs := #[.int .i64 (wrap64 (1 + t109)), .int .i64 0, .int .i64 0, .int .i64 0, .slice none 0 0, .bool false]) ?_ 1 _ rfl; (with_reducible repeat (first | refine blk_drewN ?_ _ | refine blk_drew ?_ | refine blk_alloc ?_ _)); exact BK111.out⟩, ⟨by (with_reducible repeat (first | refine blk_drewN ?_ _ | refine blk_drew ?_ | refine blk_alloc ?_ _)); refine blk_far ?_ NB116_111.out _; (with_reducible repeat (first | refine blk_drewN ?_ _ | refine blk_drew ?_ | refine blk_alloc ?_ _)); exact BK116.out⟩, ⟨by repeat (first | (with_reducible first | exact HI0.out | apply IsS125.alloc | apply IsS125.drewN | apply IsS125.drew | apply IsS125.set_1 | refine IsS125.far ?_ NB0_108.out _ | refine IsS125.far ?_ NB0_111.out _ | refine IsS125.far ?_ NB0_116.out _) | exact HI0.out)⟩, ⟨by repeat (first | (with_reducible first | exact HK.out | apply KeepBut.set_ | apply keep_drewN | apply keep_drew | apply keep_alloc | refine keep_far ?_ GW108.out _ | refine keep_far ?_ GW111.out _ | refine keep_far ?_ GW116.out _) | exact HK.out)⟩, ⟨by repeat (first | (with_reducible first | exact HB.out | apply below_alloc | apply pw_below_drewN | apply below_drew1 | refine below_set ?_ (IsS125.ge HI0.out) | refine below_set ?_ GE108.out | refine below_set ?_ GE111.out | refine below_set ?_ GE116.out) | exact HB.out)⟩⟩
    · replace c17 := Bool.eq_false_iff.mpr c17
      subst c17
      have H1 : (plan_reader_one.j0 k s0_0 t110 (wrap64 (1 + t109)) 0 0 0 false false t113 t114 t115) = some (r1, r2, r3, r4, r5, r6, r7) := by rw [if_neg (show ¬ (false = true) by decide)] at H; exact H
      clear H
      have H := H1
      clear H1
      have H' := Aside0.mk H
      clear H
      go_wp2
      go_meet
      case rel => exact ⟨_, (t110), (0), H', ⟨by first | omega | exact Nat.le_refl _⟩, ⟨by (with_reducible repeat (first | refine blk_drewN ?_ _ | refine blk_drew ?_ | refine blk_alloc ?_ _)); refine blk_far ?_ NB108_116.out _; (with_reducible repeat (first | refine blk_drewN ?_ _ | refine blk_drew ?_ | refine blk_alloc ?_ _)); refine blk_far ?_ NB108_116.out _; (with_reducible repeat (first | refine blk_drewN ?_ _ | refine blk_drew ?_ | refine blk_alloc ?_ _)); refine blk_far ?_ NB108_116.out _; (with_reducible repeat (first | refine blk_drewN ?_ _ | refine blk_drew ?_ | refine blk_alloc ?_ _)); refine blk_far ?_ NB108_116.out _; (with_reducible repeat (first | refine blk_drewN ?_ _ | refine blk_drew ?_ | refine blk_alloc ?_ _)); exact BK108.out⟩, ⟨by (with_reducible repeat (first | refine blk_drewN ?_ _ | refine blk_drew ?_ | refine blk_alloc ?_ _)); refine blk_far ?_ NB111_116.out _; (with_reducible repeat (first | refine blk_drewN ?_ _ | refine blk_drew ?_ | refine blk_alloc ?_ _)); refine blk_far ?_ NB111_116.out _; (with_reducible repeat (first | refine blk_drewN ?_ _ | refine blk_drew ?_ | refine blk_alloc ?_ _)); refine blk_far ?_ NB111_116.out _; (with_reducible repeat (first | refine blk_drewN ?_ _ | refine blk_drew ?_ | refine blk_alloc ?_ _)); refine blk_far ?_ NB111_116.out _; (with_reducible repeat (first | refine blk_drewN ?_ _ | refine blk_drew ?_ | refine blk_alloc ?_ _)); exact BK111.out⟩, ⟨by (with_reducible repeat (first | refine blk_drewN ?_ _ | refine blk_drew ?_ | refine blk_alloc ?_ _)); refine blk_put (cs := #[.bool false, .bool t113, .bool t114, .bool false]) ?_ 3 _ rfl; (with_reducible repeat (first | refine blk_drewN ?_ _ | refine blk_drew ?_ | refine blk_alloc ?_ _)); refine blk_put (cs := #[.bool false, .bool t113, .bool false, .bool false]) ?_ 2 _ rfl; (with_reducible repeat (first | refine blk_drewN ?_ _ | refine blk_drew ?_ | refine blk_alloc ?_ _)); refine blk_put (cs := #[.bool false, .bool false, .bool false, .bool false]) ?_ 1 _ rfl; (with_reducible repeat (first | refine blk_drewN ?_ _ | refine blk_drew ?_ | refine blk_alloc ?_ _)); refine blk_put (cs := #[.bool false, .bool false, .bool false, .bool false]) ?_ 0 _ rfl; (with_reducible repeat (first | refine blk_drewN ?_ _ | refine blk_drew ?_ | refine blk_alloc ?_ _)); exact BK116.out⟩, ⟨by repeat (first | (with_reducible first | exact HI0.out | apply IsS125.alloc | apply IsS125.drewN | apply IsS125.drew | apply IsS125.set_1 | refine IsS125.far ?_ NB0_108.out _ | refine IsS125.far ?_ NB0_111.out _ | refine IsS125.far ?_ NB0_116.out _) | exact HI0.out)⟩, ⟨by repeat (first | (with_reducible first | exact HK.out | apply KeepBut.set_ | apply keep_drewN | apply keep_drew | apply keep_alloc | refine keep_far ?_ GW108.out _ | refine keep_far ?_ GW111.out _ | refine keep_far ?_ GW116.out _) | exact HK.out)⟩, ⟨by repeat (first | (with_reducible first | exact HB.out | apply below_alloc | apply pw_below_drewN | apply below_drew1 | refine below_set ?_ (IsS125.ge HI0.out) | refine below_set ?_ GE108.out | refine below_set ?_ GE111.out | refine below_set ?_ GE116.out) | exact HB.out)⟩⟩
  case rest =>
    clear HC4
    try clear c1
    try clear c2
    try clear p2
    try clear c6
    try clear p6
    try clear c7
    try clear c8
    try clear c9
    try clear c13
    try clear c14
    try clear c15
    try clear c17
    try clear c20
    try clear c21
    try clear c22
    try clear hcz10_0
    try clear hcz10_1
    try clear hcz10_2
    try clear hcz10_3
    try clear hcz10_4
    try clear hcz10_5
    try clear hcz16_0
    try clear hcz16_1
    try clear hcz16_2
    try clear hcz16_3
    try clear hcz23_0
    try clear hcz23_1
    try clear hcz23_2
    try clear hcz23_3
    try clear hcz23_4
    try clear hcz23_5
    try clear hfz10_0
    try clear hfz10_1
    try clear hfz10_2
    try clear hfz10_3
    try clear hfz10_4
    try clear hfz10_5
    try clear hfz16_0
    try clear hfz16_1
    try clear hfz16_2
    try clear hfz16_3
    try clear hfz23_0
    try clear hfz23_1
    try clear hfz23_2
    try clear hfz23_3
    try clear hfz23_4
    try clear hfz23_5
    obtain ⟨kq, x1001_3, x112001_3, HA, HJ3, BK108, BK111, BK116, HI0, HK, HB⟩ := hcut
    cases kq with
    | zero => exact absurd HA.out (by simp [plan_reader_one.j0])
    | succ kj3 =>
      have H := HA.out
      clear HA
      simp only [plan_reader_one.j0] at H
      have HC24 := Aside0.mk H
      clear H
      have hnb25 := NB116_108.out
      have hnc25 := NB108_116.out
      have hnb26 := NB116_111.out
      have hnc26 := NB111_116.out
      have hnb27 := NB116_0.out
      have hnc27 := NB0_116.out
      have hcz28_0 : wc.cell? ⟨gb116, 0, none⟩ = some (.bool t112) := (blk_cell BK116.out 0).trans rfl
      have hcz28_1 : wc.cell? ⟨gb116, 1, none⟩ = some (.bool t113) := (blk_cell BK116.out 1).trans rfl
      have hcz28_2 : wc.cell? ⟨gb116, 2, none⟩ = some (.bool t114) := (blk_cell BK116.out 2).trans rfl
      have hcz28_3 : wc.cell? ⟨gb116, 3, none⟩ = some (.bool t115) := (blk_cell BK116.out 3).trans rfl
      have hfz28_0 := blk_frozen BK116.out 0
      have hfz28_1 := blk_frozen BK116.out 1
      have hfz28_2 := blk_frozen BK116.out 2
      have hfz28_3 := blk_frozen BK116.out 3
      go_upto_if 20 with (fail)
      go_cut [] (fun wc => ∃ (kq : Nat) (x1001_23 : Int) (x112002_23 : Int), Aside0 (plan_reader_one.j1 kq s0_0 x1001_23 (wrap64 (1 + t109)) x112001_3 x112002_23 0 false t112 t113 t114 t115 = some (r1, r2, r3, r4, r5, r6, r7)) ∧ Aside0 (kq ≤ kj3) ∧ Aside0 (wc.heap[gb108]? = some (.cells #[.int .i64 0, .int .i64 0, .int .i64 0, .int .i64 0, (.slice none 0 0), .bool false] 39 (0, 0))) ∧ Aside0 (wc.heap[gb111]? = some (.cells #[.int .i64 (wrap64 (1 + t109)), .int .i64 x112001_3, .int .i64 x112002_23, .int .i64 0, (.slice none 0 0), .bool false] 39 (0, 0))) ∧ Aside0 (wc.heap[gb116]? = some (.cells #[.bool t112, .bool t113, .bool t114, .bool t115] 113 (0, 0))) ∧ Aside0 (IsS125 w0 wc g s0_0 x1001_23) ∧ Aside0 (KeepBut w wc g none) ∧ Aside0 (Below w0.heap.size w0 wc))
      case first =>
        have H := HC24.out
        clear HC24
        by_cases c29 : t113 = true
        · subst c29
          have H1 : ((plan_reader_next.f s0_0 x1001_3 5).bind fun bt119 => (plan_reader_one.j1 kj3 s0_0 bt119.2 (wrap64 (1 + t109)) x112001_3 bt119.1 0 false t112 true t114 t115)) = some (r1, r2, r3, r4, r5, r6, r7) := by rw [if_pos rfl] at H; exact H
          clear H
          have H := H1
          clear H1
          replace H := Option.bind_eq_some_iff.mp H
          obtain ⟨⟨t119, t120⟩, A300, H⟩ := H
          replace H : (plan_reader_one.j1 kj3 s0_0 t120 (wrap64 (1 + t109)) x112001_3 t119 0 false t112 true t114 t115) = some (r1, r2, r3, r4, r5, r6, r7) := H
          have A30 := Aside0.mk A300
          clear A300
          have H' := Aside0.mk H
          clear H
          go_wp2_with (first | ((with_reducible refine gate_callee (f := 70) rfl ?_); refine goesL_ (some 22) rfl rfl Try.func70 (by kernel_rfl) rfl #[.pointer (some ⟨g, 0, none⟩), .int .i64 5] rfl (by (try simp only [List.map_toArray, List.map_cons, List.map_nil]); first | done | rfl | (simp only [List.length_drop, List.length_take]; rfl)) ?_; (with_reducible refine (plan_reader_next.calls g s0_0 x1001_3 5 t119 t120 w0 _ ?side1 ?side2 A30.out).mono ?_); (case side1 => repeat (first | (with_reducible first | exact HI0.out | apply IsS125.alloc | apply IsS125.drewN | apply IsS125.drew | apply IsS125.set_1 | refine IsS125.far ?_ NB0_108.out _ | refine IsS125.far ?_ NB0_111.out _ | refine IsS125.far ?_ NB0_116.out _) | exact HI0.out)); (case side2 => repeat (first | (with_reducible first | exact HB.out | apply below_alloc | apply pw_below_drewN | apply below_drew1 | refine below_set ?_ (IsS125.ge HI0.out) | refine below_set ?_ GE108.out | refine below_set ?_ GE111.out | refine below_set ?_ GE116.out) | exact HB.out)); rintro e w31 ⟨rfl, hi, hb, hk⟩; refine ⟨_, rfl, ?_⟩; have n0_ := Aside0.mk (KeepBut.blk hk (g' := gb108) (o := .cells #[.int .i64 0, .int .i64 0, .int .i64 0, .int .i64 0, .slice none 0 0, .bool false] 39 (0, 0)) (by (with_reducible repeat (first | refine blk_drewN ?_ _ | refine blk_drew ?_ | refine blk_alloc ?_ _)); exact BK108.out) NB108_0.out (by simp)); have n1_ := Aside0.mk (KeepBut.blk hk (g' := gb111) (o := .cells #[.int .i64 (wrap64 (1 + t109)), .int .i64 x112001_3, .int .i64 0, .int .i64 0, .slice none 0 0, .bool false] 39 (0, 0)) (by (with_reducible repeat (first | refine blk_drewN ?_ _ | refine blk_drew ?_ | refine blk_alloc ?_ _)); exact BK111.out) NB111_0.out (by simp)); have n2_ := Aside0.mk (KeepBut.blk hk (g' := gb116) (o := .cells #[.bool t112, .bool true, .bool t114, .bool t115] 113 (0, 0)) (by (with_reducible repeat (first | refine blk_drewN ?_ _ | refine blk_drew ?_ | refine blk_alloc ?_ _)); exact BK116.out) NB116_0.out (by simp)); have n3_ := Aside0.mk (KeepBut.trans (by repeat (first | (with_reducible first | exact HK.out | apply KeepBut.set_ | apply keep_drewN | apply keep_drew | apply keep_alloc | refine keep_far ?_ GW108.out _ | refine keep_far ?_ GW111.out _ | refine keep_far ?_ GW116.out _) | exact HK.out)) hk (.inl rfl)); have n4_ := Aside0.mk (hb); have n5_ := Aside0.mk (hi); clear BK108; clear BK111; clear BK116; clear HK; clear HB; clear HI0; have BK108 := n0_; have BK111 := n1_; have BK116 := n2_; have HK := n3_; have HB := n4_; have HI0 := n5_; clear n0_ n1_ n2_ n3_ n4_ n5_; (try clear hb); (try clear hb2); (try clear hk); (try clear hi); have hnb32 := NB111_108.out; have hnc32 := NB108_111.out; have hnb33 := NB111_116.out; have hnc33 := NB116_111.out; have hnb34 := NB111_0.out; have hnc34 := NB0_111.out; have hcz35_0 : w31.cell? ⟨gb111, 0, none⟩ = some (.int .i64 (wrap64 (1 + t109))) := (blk_cell BK111.out 0).trans rfl; have hcz35_1 : w31.cell? ⟨gb111, 1, none⟩ = some (.int .i64 x112001_3) := (blk_cell BK111.out 1).trans rfl; have hcz35_2 : w31.cell? ⟨gb111, 2, none⟩ = some (.int .i64 0) := (blk_cell BK111.out 2).trans rfl; have hcz35_3 : w31.cell? ⟨gb111, 3, none⟩ = some (.int .i64 0) := (blk_cell BK111.out 3).trans rfl; have hcz35_4 : w31.cell? ⟨gb111, 4, none⟩ = some (.slice none 0 0) := (blk_cell BK111.out 4).trans rfl; have hcz35_5 : w31.cell? ⟨gb111, 5, none⟩ = some (.bool false) := (blk_cell BK111.out 5).trans rfl; have hfz35_0 := blk_frozen BK111.out 0; have hfz35_1 := blk_frozen BK111.out 1; have hfz35_2 := blk_frozen BK111.out 2; have hfz35_3 := blk_frozen BK111.out 3; have hfz35_4 := blk_frozen BK111.out 4; have hfz35_5 := blk_frozen BK111.out 5))
          go_meet
          case rel => exact ⟨_, (t120), (t119), H', ⟨by have := HJ3.out; first | omega | exact Nat.le_refl _⟩, ⟨by (with_reducible repeat (first | refine blk_drewN ?_ _ | refine blk_drew ?_ | refine blk_alloc ?_ _)); refine blk_far ?_ NB108_111.out _; (with_reducible repeat (first | refine blk_drewN ?_ _ | refine blk_drew ?_ | refine blk_alloc ?_ _)); exact BK108.out⟩, ⟨by (with_reducible repeat (first | refine blk_drewN ?_ _ | refine blk_drew ?_ | refine blk_alloc ?_ _)); refine blk_put (cs := #[.int .i64 (wrap64 (1 + t109)), .int .i64 x112001_3, .int .i64 0, .int .i64 0, .slice none 0 0, .bool false]) ?_ 2 _ rfl; (with_reducible repeat (first | refine blk_drewN ?_ _ | refine blk_drew ?_ | refine blk_alloc ?_ _)); exact BK111.out⟩, ⟨by (with_reducible repeat (first | refine blk_drewN ?_ _ | refine blk_drew ?_ | refine blk_alloc ?_ _)); refine blk_far ?_ NB116_111.out _; (with_reducible repeat (first | refine blk_drewN ?_ _ | refine blk_drew ?_ | refine blk_alloc ?_ _)); exact BK116.out⟩, ⟨by repeat (first | (with_reducible first | exact HI0.out | apply IsS125.alloc | apply IsS125.drewN | apply IsS125.drew | apply IsS125.set_1 | refine IsS125.far ?_ NB0_108.out _ | refine IsS125.far ?_ NB0_111.out _ | refine IsS125.far ?_ NB0_116.out _) | exact HI0.out)⟩, ⟨by repeat (first | (with_reducible first | exact HK.out | apply KeepBut.set_ | apply keep_drewN | apply keep_drew | apply keep_alloc | refine keep_far ?_ GW108.out _ | refine keep_far ?_ GW111.out _ | refine keep_far ?_ GW116.out _) | exact HK.out)⟩, ⟨by repeat (first | (with_reducible first | exact HB.out | apply below_alloc | apply pw_below_drewN | apply below_drew1 | refine below_set ?_ (IsS125.ge HI0.out) | refine below_set ?_ GE108.out | refine below_set ?_ GE111.out | refine below_set ?_ GE116.out) | exact HB.out)⟩⟩
        · replace c29 := Bool.eq_false_iff.mpr c29
          subst c29
          have H1 : (plan_reader_one.j1 kj3 s0_0 x1001_3 (wrap64 (1 + t109)) x112001_3 0 0 false t112 false t114 t115) = some (r1, r2, r3, r4, r5, r6, r7) := by rw [if_neg (show ¬ (false = true) by decide)] at H; exact H
          clear H
          have H := H1
          clear H1
          have H' := Aside0.mk H
          clear H
          go_wp2
          go_meet
          case rel => exact ⟨_, (x1001_3), (0), H', ⟨by have := HJ3.out; first | omega | exact Nat.le_refl _⟩, ⟨by (with_reducible repeat (first | refine blk_drewN ?_ _ | refine blk_drew ?_ | refine blk_alloc ?_ _)); exact BK108.out⟩, ⟨by (with_reducible repeat (first | refine blk_drewN ?_ _ | refine blk_drew ?_ | refine blk_alloc ?_ _)); exact BK111.out⟩, ⟨by (with_reducible repeat (first | refine blk_drewN ?_ _ | refine blk_drew ?_ | refine blk_alloc ?_ _)); exact BK116.out⟩, ⟨by repeat (first | (with_reducible first | exact HI0.out | apply IsS125.alloc | apply IsS125.drewN | apply IsS125.drew | apply IsS125.set_1 | refine IsS125.far ?_ NB0_108.out _ | refine IsS125.far ?_ NB0_111.out _ | refine IsS125.far ?_ NB0_116.out _) | exact HI0.out)⟩, ⟨by repeat (first | (with_reducible first | exact HK.out | apply KeepBut.set_ | apply keep_drewN | apply keep_drew | apply keep_alloc | refine keep_far ?_ GW108.out _ | refine keep_far ?_ GW111.out _ | refine keep_far ?_ GW116.out _) | exact HK.out)⟩, ⟨by repeat (first | (with_reducible first | exact HB.out | apply below_alloc | apply pw_below_drewN | apply below_drew1 | refine below_set ?_ (IsS125.ge HI0.out) | refine below_set ?_ GE108.out | refine below_set ?_ GE111.out | refine below_set ?_ GE116.out) | exact HB.out)⟩⟩
      case rest =>
        clear HC24
        try clear c1
        try clear c2
        try clear p2
        try clear c3
        try clear c6
        try clear p6
        try clear c7
        try clear c8
        try clear c9
        try clear c13
        try clear c14
        try clear c15
        try clear c17
        try clear c20
        try clear c21
        try clear c22
        try clear c25
        try clear c26
        try clear c27
        try clear c29
        try clear c32
        try clear c33
        try clear c34
        try clear hcz10_0
        try clear hcz10_1
        try clear hcz10_2
        try clear hcz10_3
        try clear hcz10_4
        try clear hcz10_5
        try clear hcz16_0
        try clear hcz16_1
        try clear hcz16_2
        try clear hcz16_3
        try clear hcz23_0
        try clear hcz23_1
        try clear hcz23_2
        try clear hcz23_3
        try clear hcz23_4
        try clear hcz23_5
        try clear hcz28_0
        try clear hcz28_1
        try clear hcz28_2
        try clear hcz28_3
        try clear hcz35_0
        try clear hcz35_1
        try clear hcz35_2
        try clear hcz35_3
        try clear hcz35_4
        try clear hcz35_5
        try clear hfz10_0
        try clear hfz10_1
        try clear hfz10_2
        try clear hfz10_3
        try clear hfz10_4
        try clear hfz10_5
        try clear hfz16_0
        try clear hfz16_1
        try clear hfz16_2
        try clear hfz16_3
        try clear hfz23_0
        try clear hfz23_1
        try clear hfz23_2
        try clear hfz23_3
        try clear hfz23_4
        try clear hfz23_5
        try clear hfz28_0
        try clear hfz28_1
        try clear hfz28_2
        try clear hfz28_3
        try clear hfz35_0
        try clear hfz35_1
        try clear hfz35_2
        try clear hfz35_3
        try clear hfz35_4
        try clear hfz35_5
        try clear p2
        try clear p6
        obtain ⟨kq, x1001_23, x112002_23, HA, HJ23, BK108, BK111, BK116, HI0, HK, HB⟩ := hcut
        cases kq with
        | zero => exact absurd HA.out (by simp [plan_reader_one.j1])
        | succ kj23 =>
          have H := HA.out
          clear HA
          simp only [plan_reader_one.j1] at H
          have HC36 := Aside0.mk H
          clear H
          have hnb37 := NB116_108.out
          have hnc37 := NB108_116.out
          have hnb38 := NB116_111.out
          have hnc38 := NB111_116.out
          have hnb39 := NB116_0.out
          have hnc39 := NB0_116.out
          have hcz40_0 : wc.cell? ⟨gb116, 0, none⟩ = some (.bool t112) := (blk_cell BK116.out 0).trans rfl
          have hcz40_1 : wc.cell? ⟨gb116, 1, none⟩ = some (.bool t113) := (blk_cell BK116.out 1).trans rfl
          have hcz40_2 : wc.cell? ⟨gb116, 2, none⟩ = some (.bool t114) := (blk_cell BK116.out 2).trans rfl
          have hcz40_3 : wc.cell? ⟨gb116, 3, none⟩ = some (.bool t115) := (blk_cell BK116.out 3).trans rfl
          have hfz40_0 := blk_frozen BK116.out 0
          have hfz40_1 := blk_frozen BK116.out 1
          have hfz40_2 := blk_frozen BK116.out 2
          have hfz40_3 := blk_frozen BK116.out 3
          go_upto_if 25 with (fail)
          go_cut [] (fun wc => ∃ (kq : Nat) (x1001_35 : Int) (x112003_35 : Int), Aside0 (plan_reader_one.j2 kq s0_0 x1001_35 (wrap64 (1 + t109)) x112001_3 x112002_23 x112003_35 false t112 t113 t114 t115 = some (r1, r2, r3, r4, r5, r6, r7)) ∧ Aside0 (kq ≤ kj23) ∧ Aside0 (wc.heap[gb108]? = some (.cells #[.int .i64 0, .int .i64 0, .int .i64 0, .int .i64 0, (.slice none 0 0), .bool false] 39 (0, 0))) ∧ Aside0 (wc.heap[gb111]? = some (.cells #[.int .i64 (wrap64 (1 + t109)), .int .i64 x112001_3, .int .i64 x112002_23, .int .i64 x112003_35, (.slice none 0 0), .bool false] 39 (0, 0))) ∧ Aside0 (wc.heap[gb116]? = some (.cells #[.bool t112, .bool t113, .bool t114, .bool t115] 113 (0, 0))) ∧ Aside0 (IsS125 w0 wc g s0_0 x1001_35) ∧ Aside0 (KeepBut w wc g none) ∧ Aside0 (Below w0.heap.size w0 wc))
          case first =>
            have H := HC36.out
            clear HC36
            by_cases c41 : t114 = true
            · subst c41
              have H1 : ((plan_reader_next.f s0_0 x1001_23 256).bind fun bt121 => (plan_reader_one.j2 kj23 s0_0 bt121.2 (wrap64 (1 + t109)) x112001_3 x112002_23 bt121.1 false t112 t113 true t115)) = some (r1, r2, r3, r4, r5, r6, r7) := by rw [if_pos rfl] at H; exact H
              clear H
              have H := H1
              clear H1
              replace H := Option.bind_eq_some_iff.mp H
              obtain ⟨⟨t121, t122⟩, A420, H⟩ := H
              replace H : (plan_reader_one.j2 kj23 s0_0 t122 (wrap64 (1 + t109)) x112001_3 x112002_23 t121 false t112 t113 true t115) = some (r1, r2, r3, r4, r5, r6, r7) := H
              have A42 := Aside0.mk A420
              clear A420
              have H' := Aside0.mk H
              clear H
              go_wp2_with (first | ((with_reducible refine gate_callee (f := 70) rfl ?_); refine goesL_ (some 27) rfl rfl Try.func70 (by kernel_rfl) rfl #[.pointer (some ⟨g, 0, none⟩), .int .i64 256] rfl (by (try simp only [List.map_toArray, List.map_cons, List.map_nil]); first | done | rfl | (simp only [List.length_drop, List.length_take]; rfl)) ?_; (with_reducible refine (plan_reader_next.calls g s0_0 x1001_23 256 t121 t122 w0 _ ?side1 ?side2 A42.out).mono ?_); (case side1 => repeat (first | (with_reducible first | exact HI0.out | apply IsS125.alloc | apply IsS125.drewN | apply IsS125.drew | apply IsS125.set_1 | refine IsS125.far ?_ NB0_108.out _ | refine IsS125.far ?_ NB0_111.out _ | refine IsS125.far ?_ NB0_116.out _) | exact HI0.out)); (case side2 => repeat (first | (with_reducible first | exact HB.out | apply below_alloc | apply pw_below_drewN | apply below_drew1 | refine below_set ?_ (IsS125.ge HI0.out) | refine below_set ?_ GE108.out | refine below_set ?_ GE111.out | refine below_set ?_ GE116.out) | exact HB.out)); rintro e w43 ⟨rfl, hi, hb, hk⟩; refine ⟨_, rfl, ?_⟩; have n0_ := Aside0.mk (KeepBut.blk hk (g' := gb108) (o := .cells #[.int .i64 0, .int .i64 0, .int .i64 0, .int .i64 0, .slice none 0 0, .bool false] 39 (0, 0)) (by (with_reducible repeat (first | refine blk_drewN ?_ _ | refine blk_drew ?_ | refine blk_alloc ?_ _)); exact BK108.out) NB108_0.out (by simp)); have n1_ := Aside0.mk (KeepBut.blk hk (g' := gb111) (o := .cells #[.int .i64 (wrap64 (1 + t109)), .int .i64 x112001_3, .int .i64 x112002_23, .int .i64 0, .slice none 0 0, .bool false] 39 (0, 0)) (by (with_reducible repeat (first | refine blk_drewN ?_ _ | refine blk_drew ?_ | refine blk_alloc ?_ _)); exact BK111.out) NB111_0.out (by simp)); have n2_ := Aside0.mk (KeepBut.blk hk (g' := gb116) (o := .cells #[.bool t112, .bool t113, .bool true, .bool t115] 113 (0, 0)) (by (with_reducible repeat (first | refine blk_drewN ?_ _ | refine blk_drew ?_ | refine blk_alloc ?_ _)); exact BK116.out) NB116_0.out (by simp)); have n3_ := Aside0.mk (KeepBut.trans (by repeat (first | (with_reducible first | exact HK.out | apply KeepBut.set_ | apply keep_drewN | apply keep_drew | apply keep_alloc | refine keep_far ?_ GW108.out _ | refine keep_far ?_ GW111.out _ | refine keep_far ?_ GW116.out _) | exact HK.out)) hk (.inl rfl)); have n4_ := Aside0.mk (hb); have n5_ := Aside0.mk (hi); clear BK108; clear BK111; clear BK116; clear HK; clear HB; clear HI0; have BK108 := n0_; have BK111 := n1_; have BK116 := n2_; have HK := n3_; have HB := n4_; have HI0 := n5_; clear n0_ n1_ n2_ n3_ n4_ n5_; (try clear hb); (try clear hb2); (try clear hk); (try clear hi); have hnb44 := NB111_108.out; have hnc44 := NB108_111.out; have hnb45 := NB111_116.out; have hnc45 := NB116_111.out; have hnb46 := NB111_0.out; have hnc46 := NB0_111.out; have hcz47_0 : w43.cell? ⟨gb111, 0, none⟩ = some (.int .i64 (wrap64 (1 + t109))) := (blk_cell BK111.out 0).trans rfl; have hcz47_1 : w43.cell? ⟨gb111, 1, none⟩ = some (.int .i64 x112001_3) := (blk_cell BK111.out 1).trans rfl; have hcz47_2 : w43.cell? ⟨gb111, 2, none⟩ = some (.int .i64 x112002_23) := (blk_cell BK111.out 2).trans rfl; have hcz47_3 : w43.cell? ⟨gb111, 3, none⟩ = some (.int .i64 0) := (blk_cell BK111.out 3).trans rfl; have hcz47_4 : w43.cell? ⟨gb111, 4, none⟩ = some (.slice none 0 0) := (blk_cell BK111.out 4).trans rfl; have hcz47_5 : w43.cell? ⟨gb111, 5, none⟩ = some (.bool false) := (blk_cell BK111.out 5).trans rfl; have hfz47_0 := blk_frozen BK111.out 0; have hfz47_1 := blk_frozen BK111.out 1; have hfz47_2 := blk_frozen BK111.out 2; have hfz47_3 := blk_frozen BK111.out 3; have hfz47_4 := blk_frozen BK111.out 4; have hfz47_5 := blk_frozen BK111.out 5))
              go_meet
              case rel => exact ⟨_, (t122), (t121), H', ⟨by have := HJ3.out; have := HJ23.out; first | omega | exact Nat.le_refl _⟩, ⟨by (with_reducible repeat (first | refine blk_drewN ?_ _ | refine blk_drew ?_ | refine blk_alloc ?_ _)); refine blk_far ?_ NB108_111.out _; (with_reducible repeat (first | refine blk_drewN ?_ _ | refine blk_drew ?_ | refine blk_alloc ?_ _)); exact BK108.out⟩, ⟨by (with_reducible repeat (first | refine blk_drewN ?_ _ | refine blk_drew ?_ | refine blk_alloc ?_ _)); refine blk_put (cs := #[.int .i64 (wrap64 (1 + t109)), .int .i64 x112001_3, .int .i64 x112002_23, .int .i64 0, .slice none 0 0, .bool false]) ?_ 3 _ rfl; (with_reducible repeat (first | refine blk_drewN ?_ _ | refine blk_drew ?_ | refine blk_alloc ?_ _)); exact BK111.out⟩, ⟨by (with_reducible repeat (first | refine blk_drewN ?_ _ | refine blk_drew ?_ | refine blk_alloc ?_ _)); refine blk_far ?_ NB116_111.out _; (with_reducible repeat (first | refine blk_drewN ?_ _ | refine blk_drew ?_ | refine blk_alloc ?_ _)); exact BK116.out⟩, ⟨by repeat (first | (with_reducible first | exact HI0.out | apply IsS125.alloc | apply IsS125.drewN | apply IsS125.drew | apply IsS125.set_1 | refine IsS125.far ?_ NB0_108.out _ | refine IsS125.far ?_ NB0_111.out _ | refine IsS125.far ?_ NB0_116.out _) | exact HI0.out)⟩, ⟨by repeat (first | (with_reducible first | exact HK.out | apply KeepBut.set_ | apply keep_drewN | apply keep_drew | apply keep_alloc | refine keep_far ?_ GW108.out _ | refine keep_far ?_ GW111.out _ | refine keep_far ?_ GW116.out _) | exact HK.out)⟩, ⟨by repeat (first | (with_reducible first | exact HB.out | apply below_alloc | apply pw_below_drewN | apply below_drew1 | refine below_set ?_ (IsS125.ge HI0.out) | refine below_set ?_ GE108.out | refine below_set ?_ GE111.out | refine below_set ?_ GE116.out) | exact HB.out)⟩⟩
            · replace c41 := Bool.eq_false_iff.mpr c41
              subst c41
              have H1 : (plan_reader_one.j2 kj23 s0_0 x1001_23 (wrap64 (1 + t109)) x112001_3 x112002_23 0 false t112 t113 false t115) = some (r1, r2, r3, r4, r5, r6, r7) := by rw [if_neg (show ¬ (false = true) by decide)] at H; exact H
              clear H
              have H := H1
              clear H1
              have H' := Aside0.mk H
              clear H
              go_wp2
              go_meet
              case rel => exact ⟨_, (x1001_23), (0), H', ⟨by have := HJ3.out; have := HJ23.out; first | omega | exact Nat.le_refl _⟩, ⟨by (with_reducible repeat (first | refine blk_drewN ?_ _ | refine blk_drew ?_ | refine blk_alloc ?_ _)); exact BK108.out⟩, ⟨by (with_reducible repeat (first | refine blk_drewN ?_ _ | refine blk_drew ?_ | refine blk_alloc ?_ _)); exact BK111.out⟩, ⟨by (with_reducible repeat (first | refine blk_drewN ?_ _ | refine blk_drew ?_ | refine blk_alloc ?_ _)); exact BK116.out⟩, ⟨by repeat (first | (with_reducible first | exact HI0.out | apply IsS125.alloc | apply IsS125.drewN | apply IsS125.drew | apply IsS125.set_1 | refine IsS125.far ?_ NB0_108.out _ | refine IsS125.far ?_ NB0_111.out _ | refine IsS125.far ?_ NB0_116.out _) | exact HI0.out)⟩, ⟨by repeat (first | (with_reducible first | exact HK.out | apply KeepBut.set_ | apply keep_drewN | apply keep_drew | apply keep_alloc | refine keep_far ?_ GW108.out _ | refine keep_far ?_ GW111.out _ | refine keep_far ?_ GW116.out _) | exact HK.out)⟩, ⟨by repeat (first | (with_reducible first | exact HB.out | apply below_alloc | apply pw_below_drewN | apply below_drew1 | refine below_set ?_ (IsS125.ge HI0.out) | refine below_set ?_ GE108.out | refine below_set ?_ GE111.out | refine below_set ?_ GE116.out) | exact HB.out)⟩⟩
          case rest =>
            clear HC36
            try clear c1
            try clear c2
            try clear p2
            try clear c3
            try clear c4
            try clear c6
            try clear p6
            try clear c7
            try clear c8
            try clear c9
            try clear c13
            try clear c14
            try clear c15
            try clear c17
            try clear c20
            try clear c21
            try clear c22
            try clear c25
            try clear c26
            try clear c27
            try clear c29
            try clear c32
            try clear c33
            try clear c34
            try clear c37
            try clear c38
            try clear c39
            try clear c41
            try clear c44
            try clear c45
            try clear c46
            try clear hcz10_0
            try clear hcz10_1
            try clear hcz10_2
            try clear hcz10_3
            try clear hcz10_4
            try clear hcz10_5
            try clear hcz16_0
            try clear hcz16_1
            try clear hcz16_2
            try clear hcz16_3
            try clear hcz23_0
            try clear hcz23_1
            try clear hcz23_2
            try clear hcz23_3
            try clear hcz23_4
            try clear hcz23_5
            try clear hcz28_0
            try clear hcz28_1
            try clear hcz28_2
            try clear hcz28_3
            try clear hcz35_0
            try clear hcz35_1
            try clear hcz35_2
            try clear hcz35_3
            try clear hcz35_4
            try clear hcz35_5
            try clear hcz40_0
            try clear hcz40_1
            try clear hcz40_2
            try clear hcz40_3
            try clear hcz47_0
            try clear hcz47_1
            try clear hcz47_2
            try clear hcz47_3
            try clear hcz47_4
            try clear hcz47_5
            try clear hfz10_0
            try clear hfz10_1
            try clear hfz10_2
            try clear hfz10_3
            try clear hfz10_4
            try clear hfz10_5
            try clear hfz16_0
            try clear hfz16_1
            try clear hfz16_2
            try clear hfz16_3
            try clear hfz23_0
            try clear hfz23_1
            try clear hfz23_2
            try clear hfz23_3
            try clear hfz23_4
            try clear hfz23_5
            try clear hfz28_0
            try clear hfz28_1
            try clear hfz28_2
            try clear hfz28_3
            try clear hfz35_0
            try clear hfz35_1
            try clear hfz35_2
            try clear hfz35_3
            try clear hfz35_4
            try clear hfz35_5
            try clear hfz40_0
            try clear hfz40_1
            try clear hfz40_2
            try clear hfz40_3
            try clear hfz47_0
            try clear hfz47_1
            try clear hfz47_2
            try clear hfz47_3
            try clear hfz47_4
            try clear hfz47_5
            try clear p2
            try clear p6
            obtain ⟨kq, x1001_35, x112003_35, HA, HJ35, BK108, BK111, BK116, HI0, HK, HB⟩ := hcut
            cases kq with
            | zero => exact absurd HA.out (by simp [plan_reader_one.j2])
            | succ kj35 =>
              have H := HA.out
              clear HA
              simp only [plan_reader_one.j2] at H
              by_cases c48 : t115 = true
              · subst c48
                have H1 : ((plan_reader_next.f s0_0 x1001_35 7).bind fun bt123 => ((plan_reader_next.f s0_0 bt123.2 2).bind fun bt125 => (plan_reader_one.l0 kj35 bt123.1 0 s0_0 bt125.2 (wrap64 (1 + t109)) x112001_3 x112002_23 x112003_35 ([] : List (S116)) (bt125.1 == 1)))) = some (r1, r2, r3, r4, r5, r6, r7) := by rw [if_pos rfl] at H; exact H
                clear H
                have H := H1
                clear H1
                replace H := Option.bind_eq_some_iff.mp H
                obtain ⟨⟨t123, t124⟩, A490, H⟩ := H
                replace H : ((plan_reader_next.f s0_0 t124 2).bind fun bt125 => (plan_reader_one.l0 kj35 t123 0 s0_0 bt125.2 (wrap64 (1 + t109)) x112001_3 x112002_23 x112003_35 ([] : List (S116)) (bt125.1 == 1))) = some (r1, r2, r3, r4, r5, r6, r7) := H
                have A49 := Aside0.mk A490
                clear A490
                replace H := Option.bind_eq_some_iff.mp H
                obtain ⟨⟨t125, t126⟩, A500, H⟩ := H
                replace H : (plan_reader_one.l0 kj35 t123 0 s0_0 t126 (wrap64 (1 + t109)) x112001_3 x112002_23 x112003_35 ([] : List (S116)) (t125 == 1)) = some (r1, r2, r3, r4, r5, r6, r7) := H
                have A50 := Aside0.mk A500
                clear A500
                have H' := Aside0.mk H
                clear H
                have hnb51 := NB116_108.out
                have hnc51 := NB108_116.out
                have hnb52 := NB116_111.out
                have hnc52 := NB111_116.out
                have hnb53 := NB116_0.out
                have hnc53 := NB0_116.out
                have hcz54_0 : wc.cell? ⟨gb116, 0, none⟩ = some (.bool t112) := (blk_cell BK116.out 0).trans rfl
                have hcz54_1 : wc.cell? ⟨gb116, 1, none⟩ = some (.bool t113) := (blk_cell BK116.out 1).trans rfl
                have hcz54_2 : wc.cell? ⟨gb116, 2, none⟩ = some (.bool t114) := (blk_cell BK116.out 2).trans rfl
                have hcz54_3 : wc.cell? ⟨gb116, 3, none⟩ = some (.bool true) := (blk_cell BK116.out 3).trans rfl
                have hfz54_0 := blk_frozen BK116.out 0
                have hfz54_1 := blk_frozen BK116.out 1
                have hfz54_2 := blk_frozen BK116.out 2
                have hfz54_3 := blk_frozen BK116.out 3
                go_wp2_with (first | ((with_reducible refine gate_callee (f := 70) rfl ?_); refine goesL_ (some 34) rfl rfl Try.func70 (by kernel_rfl) rfl #[.pointer (some ⟨g, 0, none⟩), .int .i64 7] rfl (by (try simp only [List.map_toArray, List.map_cons, List.map_nil]); first | done | rfl | (simp only [List.length_drop, List.length_take]; rfl)) ?_; (with_reducible refine (plan_reader_next.calls g s0_0 x1001_35 7 t123 t124 w0 _ ?side1 ?side2 A49.out).mono ?_); (case side1 => repeat (first | (with_reducible first | exact HI0.out | apply IsS125.alloc | apply IsS125.drewN | apply IsS125.drew | apply IsS125.set_1 | refine IsS125.far ?_ NB0_108.out _ | refine IsS125.far ?_ NB0_111.out _ | refine IsS125.far ?_ NB0_116.out _) | exact HI0.out)); (case side2 => repeat (first | (with_reducible first | exact HB.out | apply below_alloc | apply pw_below_drewN | apply below_drew1 | refine below_set ?_ (IsS125.ge HI0.out) | refine below_set ?_ GE108.out | refine below_set ?_ GE111.out | refine below_set ?_ GE116.out) | exact HB.out)); rintro e w55 ⟨rfl, hi, hb, hk⟩; refine ⟨_, rfl, ?_⟩; have n0_ := Aside0.mk (KeepBut.blk hk (g' := gb108) (o := .cells #[.int .i64 0, .int .i64 0, .int .i64 0, .int .i64 0, .slice none 0 0, .bool false] 39 (0, 0)) (by (with_reducible repeat (first | refine blk_drewN ?_ _ | refine blk_drew ?_ | refine blk_alloc ?_ _)); exact BK108.out) NB108_0.out (by simp)); have n1_ := Aside0.mk (KeepBut.blk hk (g' := gb111) (o := .cells #[.int .i64 (wrap64 (1 + t109)), .int .i64 x112001_3, .int .i64 x112002_23, .int .i64 x112003_35, .slice none 0 0, .bool false] 39 (0, 0)) (by (with_reducible repeat (first | refine blk_drewN ?_ _ | refine blk_drew ?_ | refine blk_alloc ?_ _)); exact BK111.out) NB111_0.out (by simp)); have n2_ := Aside0.mk (KeepBut.blk hk (g' := gb116) (o := .cells #[.bool t112, .bool t113, .bool t114, .bool true] 113 (0, 0)) (by (with_reducible repeat (first | refine blk_drewN ?_ _ | refine blk_drew ?_ | refine blk_alloc ?_ _)); exact BK116.out) NB116_0.out (by simp)); have n3_ := Aside0.mk (KeepBut.trans (by repeat (first | (with_reducible first | exact HK.out | apply KeepBut.set_ | apply keep_drewN | apply keep_drew | apply keep_alloc | refine keep_far ?_ GW108.out _ | refine keep_far ?_ GW111.out _ | refine keep_far ?_ GW116.out _) | exact HK.out)) hk (.inl rfl)); have n4_ := Aside0.mk (hb); have n5_ := Aside0.mk (hi); clear BK108; clear BK111; clear BK116; clear HK; clear HB; clear HI0; have BK108 := n0_; have BK111 := n1_; have BK116 := n2_; have HK := n3_; have HB := n4_; have HI0 := n5_; clear n0_ n1_ n2_ n3_ n4_ n5_; (try clear hb); (try clear hb2); (try clear hk); (try clear hi)) | ((with_reducible refine gate_callee (f := 70) rfl ?_); refine goesL_ (some 36) rfl rfl Try.func70 (by kernel_rfl) rfl #[.pointer (some ⟨g, 0, none⟩), .int .i64 2] rfl (by (try simp only [List.map_toArray, List.map_cons, List.map_nil]); first | done | rfl | (simp only [List.length_drop, List.length_take]; rfl)) ?_; (with_reducible refine (plan_reader_next.calls g s0_0 t124 2 t125 t126 w0 _ ?side1 ?side2 A50.out).mono ?_); (case side1 => repeat (first | (with_reducible first | exact HI0.out | apply IsS125.alloc | apply IsS125.drewN | apply IsS125.drew | apply IsS125.set_1 | refine IsS125.far ?_ NB0_108.out _ | refine IsS125.far ?_ NB0_111.out _ | refine IsS125.far ?_ NB0_116.out _) | exact HI0.out)); (case side2 => repeat (first | (with_reducible first | exact HB.out | apply below_alloc | apply pw_below_drewN | apply below_drew1 | refine below_set ?_ (IsS125.ge HI0.out) | refine below_set ?_ GE108.out | refine below_set ?_ GE111.out | refine below_set ?_ GE116.out) | exact HB.out)); rintro e w56 ⟨rfl, hi, hb, hk⟩; refine ⟨_, rfl, ?_⟩; have n0_ := Aside0.mk (KeepBut.blk hk (g' := gb108) (o := .cells #[.int .i64 0, .int .i64 0, .int .i64 0, .int .i64 0, .slice none 0 0, .bool false] 39 (0, 0)) (by (with_reducible repeat (first | refine blk_drewN ?_ _ | refine blk_drew ?_ | refine blk_alloc ?_ _)); exact BK108.out) NB108_0.out (by simp)); have n1_ := Aside0.mk (KeepBut.blk hk (g' := gb111) (o := .cells #[.int .i64 (wrap64 (1 + t109)), .int .i64 x112001_3, .int .i64 x112002_23, .int .i64 x112003_35, .slice none 0 0, .bool false] 39 (0, 0)) (by (with_reducible repeat (first | refine blk_drewN ?_ _ | refine blk_drew ?_ | refine blk_alloc ?_ _)); exact BK111.out) NB111_0.out (by simp)); have n2_ := Aside0.mk (KeepBut.blk hk (g' := gb116) (o := .cells #[.bool t112, .bool t113, .bool t114, .bool true] 113 (0, 0)) (by (with_reducible repeat (first | refine blk_drewN ?_ _ | refine blk_drew ?_ | refine blk_alloc ?_ _)); exact BK116.out) NB116_0.out (by simp)); have n3_ := Aside0.mk (KeepBut.trans (by repeat (first | (with_reducible first | exact HK.out | apply KeepBut.set_ | apply keep_drewN | apply keep_drew | apply keep_alloc | refine keep_far ?_ GW108.out _ | refine keep_far ?_ GW111.out _ | refine keep_far ?_ GW116.out _) | exact HK.out)) hk (.inl rfl)); have n4_ := Aside0.mk (hb); have n5_ := Aside0.mk (hi); clear BK108; clear BK111; clear BK116; clear HK; clear HB; clear HI0; have BK108 := n0_; have BK111 := n1_; have BK116 := n2_; have HK := n3_; have HB := n4_; have HI0 := n5_; clear n0_ n1_ n2_ n3_ n4_ n5_; (try clear hb); (try clear hb2); (try clear hk); (try clear hi); have hnb57 := NB111_108.out; have hnc57 := NB108_111.out; have hnb58 := NB111_0.out; have hnc58 := NB0_111.out; have hcz59_0 : w56.cell? ⟨gb111, 0, none⟩ = some (.int .i64 (wrap64 (1 + t109))) := (blk_cell BK111.out 0).trans rfl; have hcz59_1 : w56.cell? ⟨gb111, 1, none⟩ = some (.int .i64 x112001_3) := (blk_cell BK111.out 1).trans rfl; have hcz59_2 : w56.cell? ⟨gb111, 2, none⟩ = some (.int .i64 x112002_23) := (blk_cell BK111.out 2).trans rfl; have hcz59_3 : w56.cell? ⟨gb111, 3, none⟩ = some (.int .i64 x112003_35) := (blk_cell BK111.out 3).trans rfl; have hcz59_4 : w56.cell? ⟨gb111, 4, none⟩ = some (.slice none 0 0) := (blk_cell BK111.out 4).trans rfl; have hcz59_5 : w56.cell? ⟨gb111, 5, none⟩ = some (.bool false) := (blk_cell BK111.out 5).trans rfl; have hfz59_0 := blk_frozen BK111.out 0; have hfz59_1 := blk_frozen BK111.out 1; have hfz59_2 := blk_frozen BK111.out 2; have hfz59_3 := blk_frozen BK111.out 3; have hfz59_4 := blk_frozen BK111.out 4; have hfz59_5 := blk_frozen BK111.out 5))
                go_loopg [40] kj35 (fun kq v40 w' => ∃ (x40_4 : Int) (x1001_4 : Int) (x112004_4 : List (S116)) (u112004 : Value), v40 = .int .i64 x40_4 ∧ Aside0 (plan_reader_one.l0 kq t123 x40_4 s0_0 x1001_4 (wrap64 (1 + t109)) x112001_3 x112002_23 x112003_35 x112004_4 (t125 == 1) = some (r1, r2, r3, r4, r5, r6, r7)) ∧ Aside0 (kq ≤ kj35) ∧ Aside0 (Kd.R k116 116 w' w.heap.size (fun _ => True) u112004 x112004_4) ∧ Aside0 (w'.heap[gb108]? = some (.cells #[.int .i64 0, .int .i64 0, .int .i64 0, .int .i64 0, (.slice none 0 0), .bool false] 39 (0, 0))) ∧ Aside0 (w'.heap[gb111]? = some (.cells #[.int .i64 (wrap64 (1 + t109)), .int .i64 x112001_3, .int .i64 x112002_23, .int .i64 x112003_35, u112004, .bool (t125 == 1)] 39 (0, 0))) ∧ Aside0 (w'.heap[gb116]? = some (.cells #[.bool t112, .bool t113, .bool t114, .bool true] 113 (0, 0))) ∧ Aside0 (IsS125 w0 w' g s0_0 x1001_4) ∧ Aside0 (KeepBut w w' g none) ∧ Aside0 (Below w0.heap.size w0 w'))
                case atStart => exact ⟨(0), (t126), (([] : List (S116))), (.slice none 0 0), (by first | rfl | (simp; done) | (simp [*]; done)), H', ⟨Nat.le_refl _⟩, ⟨by first | exact Kd.R_nil _ _ _ _ _ | exact Kd.N_nil _ _ _ _ _ | exact Kd.V_nil _ _ _ _ _ | exact Kd.Q_nil _ _ _ _ _ | exact Kd.S_nil _ _ _ _ _⟩, ⟨by (with_reducible repeat (first | refine blk_drewN ?_ _ | refine blk_drew ?_ | refine blk_alloc ?_ _)); refine blk_far ?_ NB108_111.out _; (with_reducible repeat (first | refine blk_drewN ?_ _ | refine blk_drew ?_ | refine blk_alloc ?_ _)); exact BK108.out⟩, ⟨by (with_reducible repeat (first | refine blk_drewN ?_ _ | refine blk_drew ?_ | refine blk_alloc ?_ _)); refine blk_put (cs := #[.int .i64 (wrap64 (1 + t109)), .int .i64 x112001_3, .int .i64 x112002_23, .int .i64 x112003_35, .slice none 0 0, .bool false]) ?_ 5 _ rfl; (with_reducible repeat (first | refine blk_drewN ?_ _ | refine blk_drew ?_ | refine blk_alloc ?_ _)); exact BK111.out⟩, ⟨by (with_reducible repeat (first | refine blk_drewN ?_ _ | refine blk_drew ?_ | refine blk_alloc ?_ _)); refine blk_far ?_ NB116_111.out _; (with_reducible repeat (first | refine blk_drewN ?_ _ | refine blk_drew ?_ | refine blk_alloc ?_ _)); exact BK116.out⟩, ⟨by repeat (first | (with_reducible first | exact HI0.out | apply IsS125.alloc | apply IsS125.drewN | apply IsS125.drew | apply IsS125.set_1 | refine IsS125.far ?_ NB0_108.out _ | refine IsS125.far ?_ NB0_111.out _ | refine IsS125.far ?_ NB0_116.out _) | exact HI0.out)⟩, ⟨by repeat (first | (with_reducible first | exact HK.out | apply KeepBut.set_ | apply keep_drewN | apply keep_drew | apply keep_alloc | refine keep_far ?_ GW108.out _ | refine keep_far ?_ GW111.out _ | refine keep_far ?_ GW116.out _) | exact HK.out)⟩, ⟨by repeat (first | (with_reducible first | exact HB.out | apply below_alloc | apply pw_below_drewN | apply below_drew1 | refine below_set ?_ (IsS125.ge HI0.out) | refine below_set ?_ GE108.out | refine below_set ?_ GE111.out | refine below_set ?_ GE116.out) | exact HB.out)⟩⟩
                case round =>
                  clear H'
                  try clear c1
                  try clear c2
                  try clear p2
                  try clear c3
                  try clear c4
                  try clear c5
                  try clear c6
                  try clear p6
                  try clear c7
                  try clear c8
                  try clear c9
                  try clear c13
                  try clear c14
                  try clear c15
                  try clear c17
                  try clear c20
                  try clear c21
                  try clear c22
                  try clear c25
                  try clear c26
                  try clear c27
                  try clear c29
                  try clear c32
                  try clear c33
                  try clear c34
                  try clear c37
                  try clear c38
                  try clear c39
                  try clear c41
                  try clear c44
                  try clear c45
                  try clear c46
                  try clear c48
                  try clear c51
                  try clear c52
                  try clear c53
                  try clear c57
                  try clear c58
                  try clear hcz10_0
                  try clear hcz10_1
                  try clear hcz10_2
                  try clear hcz10_3
                  try clear hcz10_4
                  try clear hcz10_5
                  try clear hcz16_0
                  try clear hcz16_1
                  try clear hcz16_2
                  try clear hcz16_3
                  try clear hcz23_0
                  try clear hcz23_1
                  try clear hcz23_2
                  try clear hcz23_3
                  try clear hcz23_4
                  try clear hcz23_5
                  try clear hcz28_0
                  try clear hcz28_1
                  try clear hcz28_2
                  try clear hcz28_3
                  try clear hcz35_0
                  try clear hcz35_1
                  try clear hcz35_2
                  try clear hcz35_3
                  try clear hcz35_4
                  try clear hcz35_5
                  try clear hcz40_0
                  try clear hcz40_1
                  try clear hcz40_2
                  try clear hcz40_3
                  try clear hcz47_0
                  try clear hcz47_1
                  try clear hcz47_2
                  try clear hcz47_3
                  try clear hcz47_4
                  try clear hcz47_5
                  try clear hcz54_0
                  try clear hcz54_1
                  try clear hcz54_2
                  try clear hcz54_3
                  try clear hcz59_0
                  try clear hcz59_1
                  try clear hcz59_2
                  try clear hcz59_3
                  try clear hcz59_4
                  try clear hcz59_5
                  try clear hfz10_0
                  try clear hfz10_1
                  try clear hfz10_2
                  try clear hfz10_3
                  try clear hfz10_4
                  try clear hfz10_5
                  try clear hfz16_0
                  try clear hfz16_1
                  try clear hfz16_2
                  try clear hfz16_3
                  try clear hfz23_0
                  try clear hfz23_1
                  try clear hfz23_2
                  try clear hfz23_3
                  try clear hfz23_4
                  try clear hfz23_5
                  try clear hfz28_0
                  try clear hfz28_1
                  try clear hfz28_2
                  try clear hfz28_3
                  try clear hfz35_0
                  try clear hfz35_1
                  try clear hfz35_2
                  try clear hfz35_3
                  try clear hfz35_4
                  try clear hfz35_5
                  try clear hfz40_0
                  try clear hfz40_1
                  try clear hfz40_2
                  try clear hfz40_3
                  try clear hfz47_0
                  try clear hfz47_1
                  try clear hfz47_2
                  try clear hfz47_3
                  try clear hfz47_4
                  try clear hfz47_5
                  try clear hfz54_0
                  try clear hfz54_1
                  try clear hfz54_2
                  try clear hfz54_3
                  try clear hfz59_0
                  try clear hfz59_1
                  try clear hfz59_2
                  try clear hfz59_3
                  try clear hfz59_4
                  try clear hfz59_5
                  try clear p2
                  try clear p6
                  obtain ⟨x40_4, x1001_4, x112004_4, u112004, rfl, HA, HK4, HO_112004, BK108, BK111, BK116, HI0, HK, HB⟩ := hrel
                  cases gk with
                  | zero => exact absurd HA.out (by simp [plan_reader_one.l0])
                  | succ k4 =>
                    have H := HA.out
                    clear HA
                    simp only [plan_reader_one.l0] at H
                    by_cases c60 : x40_4 < t123
                    · rw [if_pos c60] at H
                      have c60b0 : decide (x40_4 < t123) = true := decide_eq_true c60
                      clear c60
                      replace H := Option.bind_eq_some_iff.mp H
                      obtain ⟨⟨t127, t128⟩, A610, H⟩ := H
                      replace H : ((plan_reader_next.f s0_0 t128 9).bind fun bt129 => (if t127 = 1 then ((plan_reader_next.f s0_0 bt129.2 256).bind fun bt132 => (if x112004_4.length < 5864062014805 then (plan_reader_one.l0 k4 t123 (wrap64 (x40_4 + 1)) s0_0 bt132.2 (wrap64 (1 + t109)) x112001_3 x112002_23 x112003_35 (x112004_4 ++ [(⟨(t127 == 1), bt129.1, bt132.1⟩ : S116)]) (t125 == 1)) else (none))) else (if x112004_4.length < 5864062014805 then (plan_reader_one.l0 k4 t123 (wrap64 (x40_4 + 1)) s0_0 bt129.2 (wrap64 (1 + t109)) x112001_3 x112002_23 x112003_35 (x112004_4 ++ [(⟨(t127 == 1), bt129.1, 0⟩ : S116)]) (t125 == 1)) else (none)))) = some (r1, r2, r3, r4, r5, r6, r7) := H
                      have A61 := Aside0.mk A610
                      clear A610
                      replace H := Option.bind_eq_some_iff.mp H
                      obtain ⟨⟨t129, t130⟩, A620, H⟩ := H
                      replace H : (if t127 = 1 then ((plan_reader_next.f s0_0 t130 256).bind fun bt132 => (if x112004_4.length < 5864062014805 then (plan_reader_one.l0 k4 t123 (wrap64 (x40_4 + 1)) s0_0 bt132.2 (wrap64 (1 + t109)) x112001_3 x112002_23 x112003_35 (x112004_4 ++ [(⟨(t127 == 1), t129, bt132.1⟩ : S116)]) (t125 == 1)) else (none))) else (if x112004_4.length < 5864062014805 then (plan_reader_one.l0 k4 t123 (wrap64 (x40_4 + 1)) s0_0 t130 (wrap64 (1 + t109)) x112001_3 x112002_23 x112003_35 (x112004_4 ++ [(⟨(t127 == 1), t129, 0⟩ : S116)]) (t125 == 1)) else (none))) = some (r1, r2, r3, r4, r5, r6, r7) := H
                      have A62 := Aside0.mk A620
                      clear A620
                      by_cases c63 : t127 = 1
                      · rw [if_pos c63] at H
                        have c63b0 : (t127 == 1) = true := beq_iff_eq.mpr c63
                        try rw [c63b0] at H
                        have c63b1 : (t127 != 1) = false := bne_eq_false_iff_eq.mpr c63
                        clear c63
                        replace H := Option.bind_eq_some_iff.mp H
                        obtain ⟨⟨t132, t133⟩, A640, H⟩ := H
                        replace H : (if x112004_4.length < 5864062014805 then (plan_reader_one.l0 k4 t123 (wrap64 (x40_4 + 1)) s0_0 t133 (wrap64 (1 + t109)) x112001_3 x112002_23 x112003_35 (x112004_4 ++ [(⟨true, t129, t132⟩ : S116)]) (t125 == 1)) else (none)) = some (r1, r2, r3, r4, r5, r6, r7) := H
                        have A64 := Aside0.mk A640
                        clear A640
                        by_cases c65 : x112004_4.length < 5864062014805
                        · rw [if_pos c65] at H
                          have LMc65 := Aside0.mk c65
                          clear c65
                          obtain ⟨y134, hy134⟩ : ∃ y_ : List (S116), y_ = (x112004_4 ++ [(⟨true, t129, t132⟩ : S116)]) := ⟨_, rfl⟩
                          replace H : (plan_reader_one.l0 k4 t123 (wrap64 (x40_4 + 1)) s0_0 t133 (wrap64 (1 + t109)) x112001_3 x112002_23 x112003_35 y134 (t125 == 1)) = some (r1, r2, r3, r4, r5, r6, r7) := by first | (rw [hy134]; with_reducible exact H) | (have H2_ := (Option.bind_some _ _).symm.trans H; rw [hy134]; with_reducible exact H2_) | (have H2_ := (Option.bind_some _ _).symm.trans H; with_reducible exact H2_) | with_reducible exact H | (rw [hy134]; exact H) | exact H
                          have Ny134 := Aside0.mk hy134
                          clear hy134
                          have H' := Aside0.mk H
                          clear H
                          go_wp2_with (first | ((with_reducible refine gate_callee (f := 70) rfl ?_); refine goesL_ (some 43) rfl rfl Try.func70 (by kernel_rfl) rfl #[.pointer (some ⟨g, 0, none⟩), .int .i64 2] rfl (by (try simp only [List.map_toArray, List.map_cons, List.map_nil]); first | done | rfl | (simp only [List.length_drop, List.length_take]; rfl)) ?_; (with_reducible refine (plan_reader_next.calls g s0_0 x1001_4 2 t127 t128 w0 _ ?side1 ?side2 A61.out).mono ?_); (case side1 => repeat (first | (with_reducible first | exact HI0.out | apply IsS125.alloc | apply IsS125.drewN | apply IsS125.drew | apply IsS125.set_1 | refine IsS125.far ?_ NB0_108.out _ | refine IsS125.far ?_ NB0_111.out _ | refine IsS125.far ?_ NB0_116.out _) | exact HI0.out)); (case side2 => repeat (first | (with_reducible first | exact HB.out | apply below_alloc | apply pw_below_drewN | apply below_drew1 | refine below_set ?_ (IsS125.ge HI0.out) | refine below_set ?_ GE108.out | refine below_set ?_ GE111.out | refine below_set ?_ GE116.out) | exact HB.out)); rintro e w66 ⟨rfl, hi, hb, hk⟩; refine ⟨_, rfl, ?_⟩; have n0_ := Aside0.mk (Kd.R_mono (Kd.R_keep (IsS125.apart (show IsS125 w0 _ g s0_0 x1001_4 from by repeat (first | (with_reducible first | exact HI0.out | apply IsS125.alloc | apply IsS125.drewN | apply IsS125.drew | apply IsS125.set_1 | refine IsS125.far ?_ NB0_108.out _ | refine IsS125.far ?_ NB0_111.out _ | refine IsS125.far ?_ NB0_116.out _) | exact HI0.out)) (by (with_reducible repeat (first | apply Kd.R_alloc | apply Kd.R_drewN | apply Kd.R_drew)); exact HO_112004.out) (by decide)) hk (fun _ h => h.2)) (fun _ h => h.1)); have n1_ := Aside0.mk (KeepBut.blk hk (g' := gb108) (o := .cells #[.int .i64 0, .int .i64 0, .int .i64 0, .int .i64 0, .slice none 0 0, .bool false] 39 (0, 0)) (by (with_reducible repeat (first | refine blk_drewN ?_ _ | refine blk_drew ?_ | refine blk_alloc ?_ _)); exact BK108.out) NB108_0.out (by simp)); have n2_ := Aside0.mk (KeepBut.blk hk (g' := gb111) (o := .cells #[.int .i64 (wrap64 (1 + t109)), .int .i64 x112001_3, .int .i64 x112002_23, .int .i64 x112003_35, u112004, .bool (t125 == 1)] 39 (0, 0)) (by (with_reducible repeat (first | refine blk_drewN ?_ _ | refine blk_drew ?_ | refine blk_alloc ?_ _)); exact BK111.out) NB111_0.out (by simp)); have n3_ := Aside0.mk (KeepBut.blk hk (g' := gb116) (o := .cells #[.bool t112, .bool t113, .bool t114, .bool true] 113 (0, 0)) (by (with_reducible repeat (first | refine blk_drewN ?_ _ | refine blk_drew ?_ | refine blk_alloc ?_ _)); exact BK116.out) NB116_0.out (by simp)); have n4_ := Aside0.mk (KeepBut.trans (by repeat (first | (with_reducible first | exact HK.out | apply KeepBut.set_ | apply keep_drewN | apply keep_drew | apply keep_alloc | refine keep_far ?_ GW108.out _ | refine keep_far ?_ GW111.out _ | refine keep_far ?_ GW116.out _) | exact HK.out)) hk (.inl rfl)); have n5_ := Aside0.mk (hb); have n6_ := Aside0.mk (hi); clear HO_112004; clear BK108; clear BK111; clear BK116; clear HK; clear HB; clear HI0; have HO_112004 := n0_; have BK108 := n1_; have BK111 := n2_; have BK116 := n3_; have HK := n4_; have HB := n5_; have HI0 := n6_; clear n0_ n1_ n2_ n3_ n4_ n5_ n6_; (try clear hb); (try clear hb2); (try clear hk); (try clear hi)) | ((with_reducible refine gate_callee (f := 70) rfl ?_); refine goesL_ (some 46) rfl rfl Try.func70 (by kernel_rfl) rfl #[.pointer (some ⟨g, 0, none⟩), .int .i64 9] rfl (by (try simp only [List.map_toArray, List.map_cons, List.map_nil]); first | done | rfl | (simp only [List.length_drop, List.length_take]; rfl)) ?_; (with_reducible refine (plan_reader_next.calls g s0_0 t128 9 t129 t130 w0 _ ?side1 ?side2 A62.out).mono ?_); (case side1 => repeat (first | (with_reducible first | exact HI0.out | apply IsS125.alloc | apply IsS125.drewN | apply IsS125.drew | apply IsS125.set_1 | refine IsS125.far ?_ NB0_108.out _ | refine IsS125.far ?_ NB0_111.out _ | refine IsS125.far ?_ NB0_116.out _) | exact HI0.out)); (case side2 => repeat (first | (with_reducible first | exact HB.out | apply below_alloc | apply pw_below_drewN | apply below_drew1 | refine below_set ?_ (IsS125.ge HI0.out) | refine below_set ?_ GE108.out | refine below_set ?_ GE111.out | refine below_set ?_ GE116.out) | exact HB.out)); rintro e w67 ⟨rfl, hi, hb, hk⟩; refine ⟨_, rfl, ?_⟩; have n0_ := Aside0.mk (Kd.R_mono (Kd.R_keep (IsS125.apart (show IsS125 w0 _ g s0_0 t128 from by repeat (first | (with_reducible first | exact HI0.out | apply IsS125.alloc | apply IsS125.drewN | apply IsS125.drew | apply IsS125.set_1 | refine IsS125.far ?_ NB0_108.out _ | refine IsS125.far ?_ NB0_111.out _ | refine IsS125.far ?_ NB0_116.out _) | exact HI0.out)) (by (with_reducible repeat (first | apply Kd.R_alloc | apply Kd.R_drewN | apply Kd.R_drew)); exact HO_112004.out) (by decide)) hk (fun _ h => h.2)) (fun _ h => h.1)); have n1_ := Aside0.mk (KeepBut.blk hk (g' := gb108) (o := .cells #[.int .i64 0, .int .i64 0, .int .i64 0, .int .i64 0, .slice none 0 0, .bool false] 39 (0, 0)) (by (with_reducible repeat (first | refine blk_drewN ?_ _ | refine blk_drew ?_ | refine blk_alloc ?_ _)); exact BK108.out) NB108_0.out (by simp)); have n2_ := Aside0.mk (KeepBut.blk hk (g' := gb111) (o := .cells #[.int .i64 (wrap64 (1 + t109)), .int .i64 x112001_3, .int .i64 x112002_23, .int .i64 x112003_35, u112004, .bool (t125 == 1)] 39 (0, 0)) (by (with_reducible repeat (first | refine blk_drewN ?_ _ | refine blk_drew ?_ | refine blk_alloc ?_ _)); exact BK111.out) NB111_0.out (by simp)); have n3_ := Aside0.mk (KeepBut.blk hk (g' := gb116) (o := .cells #[.bool t112, .bool t113, .bool t114, .bool true] 113 (0, 0)) (by (with_reducible repeat (first | refine blk_drewN ?_ _ | refine blk_drew ?_ | refine blk_alloc ?_ _)); exact BK116.out) NB116_0.out (by simp)); have n4_ := Aside0.mk (KeepBut.trans (by repeat (first | (with_reducible first | exact HK.out | apply KeepBut.set_ | apply keep_drewN | apply keep_drew | apply keep_alloc | refine keep_far ?_ GW108.out _ | refine keep_far ?_ GW111.out _ | refine keep_far ?_ GW116.out _) | exact HK.out)) hk (.inl rfl)); have n5_ := Aside0.mk (hb); have n6_ := Aside0.mk (hi); clear HO_112004; clear BK108; clear BK111; clear BK116; clear HK; clear HB; clear HI0; have HO_112004 := n0_; have BK108 := n1_; have BK111 := n2_; have BK116 := n3_; have HK := n4_; have HB := n5_; have HI0 := n6_; clear n0_ n1_ n2_ n3_ n4_ n5_ n6_; (try clear hb); (try clear hb2); (try clear hk); (try clear hi)) | ((with_reducible refine gate_dst (N := 6) rfl ?_); refine box_event ?hg (N := 6) ?hd (cs := #[.bool false, .int .i64 0, .int .i64 0]) (t := 116) ?hr ?_; (case hd => rfl); (case hg => rfl); (case hr => first | (go_simp; done) | (go_simp; rfl)); intro gb131 hg w68 hbox hb; have n0_ := Aside0.mk (Kd.R_below (Kd.R_elderB (by (with_reducible repeat (first | apply Kd.R_alloc | apply Kd.R_drewN | apply Kd.R_drew)); exact HO_112004.out) gb131 (Nat.le_of_eq hg.symm)) hb); have n1_ := Aside0.mk (blk_below (g := gb108) (o := .cells #[.int .i64 0, .int .i64 0, .int .i64 0, .int .i64 0, .slice none 0 0, .bool false] 39 (0, 0)) (by (with_reducible repeat (first | refine blk_drewN ?_ _ | refine blk_drew ?_ | refine blk_alloc ?_ _)); exact BK108.out) hb); have n2_ := Aside0.mk (blk_below (g := gb111) (o := .cells #[.int .i64 (wrap64 (1 + t109)), .int .i64 x112001_3, .int .i64 x112002_23, .int .i64 x112003_35, u112004, .bool (t125 == 1)] 39 (0, 0)) (by (with_reducible repeat (first | refine blk_drewN ?_ _ | refine blk_drew ?_ | refine blk_alloc ?_ _)); exact BK111.out) hb); have n3_ := Aside0.mk (blk_below (g := gb116) (o := .cells #[.bool t112, .bool t113, .bool t114, .bool true] 113 (0, 0)) (by (with_reducible repeat (first | refine blk_drewN ?_ _ | refine blk_drew ?_ | refine blk_alloc ?_ _)); exact BK116.out) hb); have n4_ := Aside0.mk (IsS125.below (by repeat (first | (with_reducible first | exact HI0.out | apply IsS125.alloc | apply IsS125.drewN | apply IsS125.drew | apply IsS125.set_1 | refine IsS125.far ?_ NB0_108.out _ | refine IsS125.far ?_ NB0_111.out _ | refine IsS125.far ?_ NB0_116.out _) | exact HI0.out)) hb); have n5_ := Aside0.mk (KeepBut.trans (by repeat (first | (with_reducible first | exact HK.out | apply KeepBut.set_ | apply keep_drewN | apply keep_drew | apply keep_alloc | refine keep_far ?_ GW108.out _ | refine keep_far ?_ GW111.out _ | refine keep_far ?_ GW116.out _) | exact HK.out)) (KeepBut.of_below hb g none) (.inl rfl)); have n6_ := Aside0.mk (below_step (by repeat (first | (with_reducible first | exact HB.out | apply below_alloc | apply pw_below_drewN | apply below_drew1 | refine below_set ?_ (IsS125.ge HI0.out) | refine below_set ?_ GE108.out | refine below_set ?_ GE111.out | refine below_set ?_ GE116.out) | exact HB.out)) hb); have n7_ := Aside0.mk (hbox); have n8_ := Aside0.mk ((by rw [hg]; exact (keep_size (w := w) (g := g) (row := none) (by repeat (first | (with_reducible first | exact HK.out | apply KeepBut.set_ | apply keep_drewN | apply keep_drew | apply keep_alloc | refine keep_far ?_ GW108.out _ | refine keep_far ?_ GW111.out _ | refine keep_far ?_ GW116.out _) | exact HK.out))) : w.heap.size ≤ gb131)); have n9_ := Aside0.mk ((Nat.le_trans HW0.out (by rw [hg]; exact (keep_size (w := w) (g := g) (row := none) (by repeat (first | (with_reducible first | exact HK.out | apply KeepBut.set_ | apply keep_drewN | apply keep_drew | apply keep_alloc | refine keep_far ?_ GW108.out _ | refine keep_far ?_ GW111.out _ | refine keep_far ?_ GW116.out _) | exact HK.out))) : w.heap.size ≤ gb131) : w0.heap.size ≤ gb131)); have n10_ := Aside0.mk ((by rw [hg]; exact Nat.ne_of_lt (blk_lt (g := gb108) (o := .cells #[.int .i64 0, .int .i64 0, .int .i64 0, .int .i64 0, .slice none 0 0, .bool false] 39 (0, 0)) (by (with_reducible repeat (first | refine blk_drewN ?_ _ | refine blk_drew ?_ | refine blk_alloc ?_ _)); exact BK108.out)) : gb108 ≠ gb131)); have n11_ := Aside0.mk ((by rw [hg]; exact Nat.ne_of_gt (blk_lt (g := gb108) (o := .cells #[.int .i64 0, .int .i64 0, .int .i64 0, .int .i64 0, .slice none 0 0, .bool false] 39 (0, 0)) (by (with_reducible repeat (first | refine blk_drewN ?_ _ | refine blk_drew ?_ | refine blk_alloc ?_ _)); exact BK108.out)) : gb131 ≠ gb108)); have n12_ := Aside0.mk ((by rw [hg]; exact Nat.ne_of_lt (blk_lt (g := gb111) (o := .cells #[.int .i64 (wrap64 (1 + t109)), .int .i64 x112001_3, .int .i64 x112002_23, .int .i64 x112003_35, u112004, .bool (t125 == 1)] 39 (0, 0)) (by (with_reducible repeat (first | refine blk_drewN ?_ _ | refine blk_drew ?_ | refine blk_alloc ?_ _)); exact BK111.out)) : gb111 ≠ gb131)); have n13_ := Aside0.mk ((by rw [hg]; exact Nat.ne_of_gt (blk_lt (g := gb111) (o := .cells #[.int .i64 (wrap64 (1 + t109)), .int .i64 x112001_3, .int .i64 x112002_23, .int .i64 x112003_35, u112004, .bool (t125 == 1)] 39 (0, 0)) (by (with_reducible repeat (first | refine blk_drewN ?_ _ | refine blk_drew ?_ | refine blk_alloc ?_ _)); exact BK111.out)) : gb131 ≠ gb111)); have n14_ := Aside0.mk ((by rw [hg]; exact Nat.ne_of_lt (blk_lt (g := gb116) (o := .cells #[.bool t112, .bool t113, .bool t114, .bool true] 113 (0, 0)) (by (with_reducible repeat (first | refine blk_drewN ?_ _ | refine blk_drew ?_ | refine blk_alloc ?_ _)); exact BK116.out)) : gb116 ≠ gb131)); have n15_ := Aside0.mk ((by rw [hg]; exact Nat.ne_of_gt (blk_lt (g := gb116) (o := .cells #[.bool t112, .bool t113, .bool t114, .bool true] 113 (0, 0)) (by (with_reducible repeat (first | refine blk_drewN ?_ _ | refine blk_drew ?_ | refine blk_alloc ?_ _)); exact BK116.out)) : gb131 ≠ gb116)); have n16_ := Aside0.mk ((by rw [hg]; exact Nat.ne_of_lt (IsS125.lt (show IsS125 w0 _ g s0_0 t130 from by repeat (first | (with_reducible first | exact HI0.out | apply IsS125.alloc | apply IsS125.drewN | apply IsS125.drew | apply IsS125.set_1 | refine IsS125.far ?_ NB0_108.out _ | refine IsS125.far ?_ NB0_111.out _ | refine IsS125.far ?_ NB0_116.out _) | exact HI0.out))) : g ≠ gb131)); have n17_ := Aside0.mk ((by rw [hg]; exact Nat.ne_of_gt (IsS125.lt (show IsS125 w0 _ g s0_0 t130 from by repeat (first | (with_reducible first | exact HI0.out | apply IsS125.alloc | apply IsS125.drewN | apply IsS125.drew | apply IsS125.set_1 | refine IsS125.far ?_ NB0_108.out _ | refine IsS125.far ?_ NB0_111.out _ | refine IsS125.far ?_ NB0_116.out _) | exact HI0.out))) : gb131 ≠ g)); clear HO_112004; clear BK108; clear BK111; clear BK116; clear HI0; clear HK; clear HB; have HO_112004 := n0_; have BK108 := n1_; have BK111 := n2_; have BK116 := n3_; have HI0 := n4_; have HK := n5_; have HB := n6_; have BK131 := n7_; have GW131 := n8_; have GE131 := n9_; have NB108_131 := n10_; have NB131_108 := n11_; have NB111_131 := n12_; have NB131_111 := n13_; have NB116_131 := n14_; have NB131_116 := n15_; have NB0_131 := n16_; have NB131_0 := n17_; clear n0_ n1_ n2_ n3_ n4_ n5_ n6_ n7_ n8_ n9_ n10_ n11_ n12_ n13_ n14_ n15_ n16_ n17_; clear hb hbox hg; have hnb69 := NB131_108.out; have hnc69 := NB108_131.out; have hnb70 := NB131_111.out; have hnc70 := NB111_131.out; have hnb71 := NB131_116.out; have hnc71 := NB116_131.out; have hnb72 := NB131_0.out; have hnc72 := NB0_131.out; have hcz73_0 : w68.cell? ⟨gb131, 0, none⟩ = some (.bool false) := (blk_cell BK131.out 0).trans rfl; have hcz73_1 : w68.cell? ⟨gb131, 1, none⟩ = some (.int .i64 0) := (blk_cell BK131.out 1).trans rfl; have hcz73_2 : w68.cell? ⟨gb131, 2, none⟩ = some (.int .i64 0) := (blk_cell BK131.out 2).trans rfl; have hfz73_0 := blk_frozen BK131.out 0; have hfz73_1 := blk_frozen BK131.out 1; have hfz73_2 := blk_frozen BK131.out 2) | ((with_reducible refine gate_callee (f := 70) rfl ?_); refine goesL_ (some 51) rfl rfl Try.func70 (by kernel_rfl) rfl #[.pointer (some ⟨g, 0, none⟩), .int .i64 256] rfl (by (try simp only [List.map_toArray, List.map_cons, List.map_nil]); first | done | rfl | (simp only [List.length_drop, List.length_take]; rfl)) ?_; (with_reducible refine (plan_reader_next.calls g s0_0 t130 256 t132 t133 w0 _ ?side1 ?side2 A64.out).mono ?_); (case side1 => repeat (first | (with_reducible first | exact HI0.out | apply IsS125.alloc | apply IsS125.drewN | apply IsS125.drew | apply IsS125.set_1 | refine IsS125.far ?_ NB0_108.out _ | refine IsS125.far ?_ NB0_111.out _ | refine IsS125.far ?_ NB0_116.out _ | refine IsS125.far ?_ NB0_131.out _) | exact HI0.out)); (case side2 => repeat (first | (with_reducible first | exact HB.out | apply below_alloc | apply pw_below_drewN | apply below_drew1 | refine below_set ?_ (IsS125.ge HI0.out) | refine below_set ?_ GE108.out | refine below_set ?_ GE111.out | refine below_set ?_ GE116.out | refine below_set ?_ GE131.out) | exact HB.out)); rintro e w74 ⟨rfl, hi, hb, hk⟩; refine ⟨_, rfl, ?_⟩; have n0_ := Aside0.mk (Kd.R_mono (Kd.R_keep (IsS125.apart (show IsS125 w0 _ g s0_0 t130 from by repeat (first | (with_reducible first | exact HI0.out | apply IsS125.alloc | apply IsS125.drewN | apply IsS125.drew | apply IsS125.set_1 | refine IsS125.far ?_ NB0_108.out _ | refine IsS125.far ?_ NB0_111.out _ | refine IsS125.far ?_ NB0_116.out _ | refine IsS125.far ?_ NB0_131.out _) | exact HI0.out)) (by (with_reducible repeat (first | apply Kd.R_alloc | apply Kd.R_drewN | apply Kd.R_drew)); exact (Kd.R_mono (Kd.R_far (p := ⟨gb131, 2, none⟩) (Kd.R_far (p := ⟨gb131, 1, none⟩) (Kd.R_far (p := ⟨gb131, 0, none⟩) (Kd.R_mono HO_112004.out (fun k_ hk => (⟨hk, hk.2⟩ : _ ∧ k_ ≠ gb131))) (fun _ hk => hk.2) (.bool true)) (fun _ hk => hk.2) (.int .i64 t129)) (fun _ hk => hk.2) (.int .i64 0)) (fun _ h_ => h_.1))) (by decide)) hk (fun _ h => h.2)) (fun _ h => h.1)); have n1_ := Aside0.mk (KeepBut.blk hk (g' := gb108) (o := .cells #[.int .i64 0, .int .i64 0, .int .i64 0, .int .i64 0, .slice none 0 0, .bool false] 39 (0, 0)) (by (with_reducible repeat (first | refine blk_drewN ?_ _ | refine blk_drew ?_ | refine blk_alloc ?_ _)); refine blk_far ?_ NB108_131.out _; (with_reducible repeat (first | refine blk_drewN ?_ _ | refine blk_drew ?_ | refine blk_alloc ?_ _)); refine blk_far ?_ NB108_131.out _; (with_reducible repeat (first | refine blk_drewN ?_ _ | refine blk_drew ?_ | refine blk_alloc ?_ _)); refine blk_far ?_ NB108_131.out _; (with_reducible repeat (first | refine blk_drewN ?_ _ | refine blk_drew ?_ | refine blk_alloc ?_ _)); exact BK108.out) NB108_0.out (by simp)); have n2_ := Aside0.mk (KeepBut.blk hk (g' := gb111) (o := .cells #[.int .i64 (wrap64 (1 + t109)), .int .i64 x112001_3, .int .i64 x112002_23, .int .i64 x112003_35, u112004, .bool (t125 == 1)] 39 (0, 0)) (by (with_reducible repeat (first | refine blk_drewN ?_ _ | refine blk_drew ?_ | refine blk_alloc ?_ _)); refine blk_far ?_ NB111_131.out _; (with_reducible repeat (first | refine blk_drewN ?_ _ | refine blk_drew ?_ | refine blk_alloc ?_ _)); refine blk_far ?_ NB111_131.out _; (with_reducible repeat (first | refine blk_drewN ?_ _ | refine blk_drew ?_ | refine blk_alloc ?_ _)); refine blk_far ?_ NB111_131.out _; (with_reducible repeat (first | refine blk_drewN ?_ _ | refine blk_drew ?_ | refine blk_alloc ?_ _)); exact BK111.out) NB111_0.out (by simp)); have n3_ := Aside0.mk (KeepBut.blk hk (g' := gb116) (o := .cells #[.bool t112, .bool t113, .bool t114, .bool true] 113 (0, 0)) (by (with_reducible repeat (first | refine blk_drewN ?_ _ | refine blk_drew ?_ | refine blk_alloc ?_ _)); refine blk_far ?_ NB116_131.out _; (with_reducible repeat (first | refine blk_drewN ?_ _ | refine blk_drew ?_ | refine blk_alloc ?_ _)); refine blk_far ?_ NB116_131.out _; (with_reducible repeat (first | refine blk_drewN ?_ _ | refine blk_drew ?_ | refine blk_alloc ?_ _)); refine blk_far ?_ NB116_131.out _; (with_reducible repeat (first | refine blk_drewN ?_ _ | refine blk_drew ?_ | refine blk_alloc ?_ _)); exact BK116.out) NB116_0.out (by simp)); have n4_ := Aside0.mk (KeepBut.blk hk (g' := gb131) (o := .cells #[.bool true, .int .i64 t129, .int .i64 0] 116 (0, 0)) (by (with_reducible repeat (first | refine blk_drewN ?_ _ | refine blk_drew ?_ | refine blk_alloc ?_ _)); refine blk_put (cs := #[.bool true, .int .i64 t129, .int .i64 0]) ?_ 2 _ rfl; (with_reducible repeat (first | refine blk_drewN ?_ _ | refine blk_drew ?_ | refine blk_alloc ?_ _)); refine blk_put (cs := #[.bool true, .int .i64 0, .int .i64 0]) ?_ 1 _ rfl; (with_reducible repeat (first | refine blk_drewN ?_ _ | refine blk_drew ?_ | refine blk_alloc ?_ _)); refine blk_put (cs := #[.bool false, .int .i64 0, .int .i64 0]) ?_ 0 _ rfl; (with_reducible repeat (first | refine blk_drewN ?_ _ | refine blk_drew ?_ | refine blk_alloc ?_ _)); exact BK131.out) NB131_0.out (by simp)); have n5_ := Aside0.mk (KeepBut.trans (by repeat (first | (with_reducible first | exact HK.out | apply KeepBut.set_ | apply keep_drewN | apply keep_drew | apply keep_alloc | refine keep_far ?_ GW108.out _ | refine keep_far ?_ GW111.out _ | refine keep_far ?_ GW116.out _ | refine keep_far ?_ GW131.out _) | exact HK.out)) hk (.inl rfl)); have n6_ := Aside0.mk (hb); have n7_ := Aside0.mk (hi); clear HO_112004; clear BK108; clear BK111; clear BK116; clear BK131; clear HK; clear HB; clear HI0; have HO_112004 := n0_; have BK108 := n1_; have BK111 := n2_; have BK116 := n3_; have BK131 := n4_; have HK := n5_; have HB := n6_; have HI0 := n7_; clear n0_ n1_ n2_ n3_ n4_ n5_ n6_ n7_; (try clear hb); (try clear hb2); (try clear hk); (try clear hi); have hcz75_0 : w74.cell? ⟨gb131, 0, none⟩ = some (.bool true) := (blk_cell BK131.out 0).trans rfl; have hcz75_1 : w74.cell? ⟨gb131, 1, none⟩ = some (.int .i64 t129) := (blk_cell BK131.out 1).trans rfl; have hcz75_2 : w74.cell? ⟨gb131, 2, none⟩ = some (.int .i64 0) := (blk_cell BK131.out 2).trans rfl; have hfz75_0 := blk_frozen BK131.out 0; have hfz75_1 := blk_frozen BK131.out 1; have hfz75_2 := blk_frozen BK131.out 2; have hnb76 := NB111_108.out; have hnc76 := NB108_111.out; have hnb77 := NB111_116.out; have hnc77 := NB116_111.out; have hnb78 := NB111_0.out; have hnc78 := NB0_111.out; have hcz79_0 : w74.cell? ⟨gb111, 0, none⟩ = some (.int .i64 (wrap64 (1 + t109))) := (blk_cell BK111.out 0).trans rfl; have hcz79_1 : w74.cell? ⟨gb111, 1, none⟩ = some (.int .i64 x112001_3) := (blk_cell BK111.out 1).trans rfl; have hcz79_2 : w74.cell? ⟨gb111, 2, none⟩ = some (.int .i64 x112002_23) := (blk_cell BK111.out 2).trans rfl; have hcz79_3 : w74.cell? ⟨gb111, 3, none⟩ = some (.int .i64 x112003_35) := (blk_cell BK111.out 3).trans rfl; have hcz79_4 : w74.cell? ⟨gb111, 4, none⟩ = some (u112004) := (blk_cell BK111.out 4).trans rfl; have hcz79_5 : w74.cell? ⟨gb111, 5, none⟩ = some (.bool (t125 == 1)) := (blk_cell BK111.out 5).trans rfl; have hfz79_0 := blk_frozen BK111.out 0; have hfz79_1 := blk_frozen BK111.out 1; have hfz79_2 := blk_frozen BK111.out 2; have hfz79_3 := blk_frozen BK111.out 3; have hfz79_4 := blk_frozen BK111.out 4; have hfz79_5 := blk_frozen BK111.out 5) | ((with_reducible refine gate_builtin (b := .append) (xs := #[.tmp 54, .tmp 56]) rfl ?_); at_builtin; refine Kd.R_append k116 w.heap.size rfl (.tmp 54) (.tmp 56) 37 116 (.agg #[(.bool false), (.int .i64 0), (.int .i64 0)]) 24 rfl Try.underlying37 info116 rfl (by decide) (by omega) u112004 x112004_4 (⟨true, t129, t132⟩ : S116) [.bool true, .int .i64 t129, .int .i64 t132] (fun k_ => k_ ≠ gb131) (fun _ => False) rfl (by first | (go_simp; done) | (go_simp; rfl)) ?aP (fun _ hk => hk.elim) ?aF ?aO (Below.refl _ _) ?aS ?aL ?_; (case aP => exact k116_mkM _ _ _ (⟨true, t129, t132⟩ : S116)); (case aF => exact (fun k_ hk => Kd.freshB (g := gb131) (o := .cells #[.bool true, .int .i64 t129, .int .i64 t132] 116 (0, 0)) (by (with_reducible repeat (first | refine blk_drewN ?_ _ | refine blk_drew ?_ | refine blk_alloc ?_ _)); refine blk_put (cs := #[.bool true, .int .i64 t129, .int .i64 0]) ?_ 2 _ rfl; (with_reducible repeat (first | refine blk_drewN ?_ _ | refine blk_drew ?_ | refine blk_alloc ?_ _)); exact BK131.out) k_ hk)); (case aO => exact (by (with_reducible repeat (first | apply Kd.R_alloc | apply Kd.R_drewN | apply Kd.R_drew)); exact Kd.R_mono (Kd.R_far (p := ⟨gb131, 2, none⟩) (Kd.R_mono HO_112004.out (fun k_ hk => (⟨hk, hk.2⟩ : _ ∧ k_ ≠ gb131))) (fun _ hk => hk.2) (.int .i64 t132)) (fun _ hk => hk.1.2))); (case aS => exact (keep_size (w := w) (g := g) (row := none) (by repeat (first | (with_reducible first | exact HK.out | apply KeepBut.set_ | apply keep_drewN | apply keep_drew | apply keep_alloc | refine keep_far ?_ GW108.out _ | refine keep_far ?_ GW111.out _ | refine keep_far ?_ GW116.out _ | refine keep_far ?_ GW131.out _) | exact HK.out)))); (case aL => have := LMc65.out; omega); intro v135 w80 ho hb hg hat; rw [← Ny134.out] at ho; have n0_ := Aside0.mk (blk_grown (g := gb108) (o := .cells #[.int .i64 0, .int .i64 0, .int .i64 0, .int .i64 0, .slice none 0 0, .bool false] 39 (0, 0)) (by (with_reducible repeat (first | refine blk_drewN ?_ _ | refine blk_drew ?_ | refine blk_alloc ?_ _)); refine blk_far ?_ NB108_131.out _; (with_reducible repeat (first | refine blk_drewN ?_ _ | refine blk_drew ?_ | refine blk_alloc ?_ _)); exact BK108.out) hg (Kd.R_ne HO_112004.out BK108.out (by decide))); have n1_ := Aside0.mk (blk_grown (g := gb111) (o := .cells #[.int .i64 (wrap64 (1 + t109)), .int .i64 x112001_3, .int .i64 x112002_23, .int .i64 x112003_35, u112004, .bool (t125 == 1)] 39 (0, 0)) (by (with_reducible repeat (first | refine blk_drewN ?_ _ | refine blk_drew ?_ | refine blk_alloc ?_ _)); refine blk_far ?_ NB111_131.out _; (with_reducible repeat (first | refine blk_drewN ?_ _ | refine blk_drew ?_ | refine blk_alloc ?_ _)); exact BK111.out) hg (Kd.R_ne HO_112004.out BK111.out (by decide))); have n2_ := Aside0.mk (blk_grown (g := gb116) (o := .cells #[.bool t112, .bool t113, .bool t114, .bool true] 113 (0, 0)) (by (with_reducible repeat (first | refine blk_drewN ?_ _ | refine blk_drew ?_ | refine blk_alloc ?_ _)); refine blk_far ?_ NB116_131.out _; (with_reducible repeat (first | refine blk_drewN ?_ _ | refine blk_drew ?_ | refine blk_alloc ?_ _)); exact BK116.out) hg (Kd.R_ne HO_112004.out BK116.out (by decide))); have q1_ := IsS125.own_ne HI0.out HO_112004.out (by decide); have n3_ : Aside0 (IsS125 w0 w80 g s0_0 t133) := ⟨by refine IsS125.grown ?_ hg q1_; exact (by repeat (first | (with_reducible first | exact HI0.out | apply IsS125.alloc | apply IsS125.drewN | apply IsS125.drew | apply IsS125.set_1 | refine IsS125.far ?_ NB0_108.out _ | refine IsS125.far ?_ NB0_111.out _ | refine IsS125.far ?_ NB0_116.out _ | refine IsS125.far ?_ NB0_131.out _) | exact HI0.out))⟩; clear q1_; have n4_ := Aside0.mk (blk_grown (g := gb131) (o := .cells #[.bool true, .int .i64 t129, .int .i64 t132] 116 (0, 0)) (by (with_reducible repeat (first | refine blk_drewN ?_ _ | refine blk_drew ?_ | refine blk_alloc ?_ _)); refine blk_put (cs := #[.bool true, .int .i64 t129, .int .i64 0]) ?_ 2 _ rfl; (with_reducible repeat (first | refine blk_drewN ?_ _ | refine blk_drew ?_ | refine blk_alloc ?_ _)); exact BK131.out) hg (Kd.R_away HO_112004.out (fun _ hk => hk.2))); have n5_ := Aside0.mk (below_weaken (by repeat (first | (with_reducible first | exact HB.out | apply below_alloc | apply pw_below_drewN | apply below_drew1 | refine below_set ?_ (IsS125.ge HI0.out) | refine below_set ?_ GE108.out | refine below_set ?_ GE111.out | refine below_set ?_ GE116.out | refine below_set ?_ GE131.out) | exact HB.out)) HL.out hb); have n6_ := Aside0.mk (KeepBut.trans (by repeat (first | (with_reducible first | exact HK.out | apply KeepBut.set_ | apply keep_drewN | apply keep_drew | apply keep_alloc | refine keep_far ?_ GW108.out _ | refine keep_far ?_ GW111.out _ | refine keep_far ?_ GW116.out _ | refine keep_far ?_ GW131.out _) | exact HK.out)) (KeepBut.of_grown hg g) (Kd.R_base2 HO_112004.out)); have n7_ := Aside0.mk (ho); clear BK108; clear BK111; clear BK116; clear HI0; clear BK131; clear HB; clear HK; clear HO_112004; have BK108 := n0_; have BK111 := n1_; have BK116 := n2_; have HI0 := n3_; have BK131 := n4_; have HB := n5_; have HK := n6_; have HO136 := n7_; clear n0_ n1_ n2_ n3_ n4_ n5_ n6_ n7_; clear ho hb hg hat; obtain ⟨Ao81, co81, eo81⟩ := Kd.R_slice HO136.out; subst eo81; have hcz82_0 : w80.cell? ⟨gb111, 0, none⟩ = some (.int .i64 (wrap64 (1 + t109))) := (blk_cell BK111.out 0).trans rfl; have hcz82_1 : w80.cell? ⟨gb111, 1, none⟩ = some (.int .i64 x112001_3) := (blk_cell BK111.out 1).trans rfl; have hcz82_2 : w80.cell? ⟨gb111, 2, none⟩ = some (.int .i64 x112002_23) := (blk_cell BK111.out 2).trans rfl; have hcz82_3 : w80.cell? ⟨gb111, 3, none⟩ = some (.int .i64 x112003_35) := (blk_cell BK111.out 3).trans rfl; have hcz82_4 : w80.cell? ⟨gb111, 4, none⟩ = some (u112004) := (blk_cell BK111.out 4).trans rfl; have hcz82_5 : w80.cell? ⟨gb111, 5, none⟩ = some (.bool (t125 == 1)) := (blk_cell BK111.out 5).trans rfl; have hfz82_0 := blk_frozen BK111.out 0; have hfz82_1 := blk_frozen BK111.out 1; have hfz82_2 := blk_frozen BK111.out 2; have hfz82_3 := blk_frozen BK111.out 3; have hfz82_4 := blk_frozen BK111.out 4; have hfz82_5 := blk_frozen BK111.out 5))
                          go_roundg k4
                          case measure => have := HJ3.out; have := HJ23.out; have := HJ35.out; have := HK4.out; omega
                          case rel => exact ⟨(wrap64 (x40_4 + 1)), (t133), (y134), (.slice Ao81 y134.length co81), (by first | rfl | (simp; done) | (simp [*]; done)), H', ⟨by have := HJ3.out; have := HJ23.out; have := HJ35.out; have := HK4.out; omega⟩, ⟨by (with_reducible repeat (first | apply Kd.R_alloc | apply Kd.R_drewN | apply Kd.R_drew)); exact Kd.R_mono (Kd.R_far (p := ⟨gb111, 4, none⟩) (Kd.R_types HO136.out BK111.out (by decide)) (fun _ hk => hk.2) (.slice Ao81 y134.length co81)) (fun _ hk => trivial)⟩, ⟨by (with_reducible repeat (first | refine blk_drewN ?_ _ | refine blk_drew ?_ | refine blk_alloc ?_ _)); refine blk_far ?_ NB108_111.out _; (with_reducible repeat (first | refine blk_drewN ?_ _ | refine blk_drew ?_ | refine blk_alloc ?_ _)); exact BK108.out⟩, ⟨by (with_reducible repeat (first | refine blk_drewN ?_ _ | refine blk_drew ?_ | refine blk_alloc ?_ _)); refine blk_put (cs := #[.int .i64 (wrap64 (1 + t109)), .int .i64 x112001_3, .int .i64 x112002_23, .int .i64 x112003_35, u112004, .bool (t125 == 1)]) ?_ 4 _ rfl; (with_reducible repeat (first | refine blk_drewN ?_ _ | refine blk_drew ?_ | refine blk_alloc ?_ _)); exact BK111.out⟩, ⟨by (with_reducible repeat (first | refine blk_drewN ?_ _ | refine blk_drew ?_ | refine blk_alloc ?_ _)); refine blk_far ?_ NB116_111.out _; (with_reducible repeat (first | refine blk_drewN ?_ _ | refine blk_drew ?_ | refine blk_alloc ?_ _)); exact BK116.out⟩, ⟨by repeat (first | (with_reducible first | exact HI0.out | apply IsS125.alloc | apply IsS125.drewN | apply IsS125.drew | apply IsS125.set_1 | refine IsS125.far ?_ NB0_108.out _ | refine IsS125.far ?_ NB0_111.out _ | refine IsS125.far ?_ NB0_116.out _ | refine IsS125.far ?_ NB0_131.out _) | exact HI0.out)⟩, ⟨by repeat (first | (with_reducible first | exact HK.out | apply KeepBut.set_ | apply keep_drewN | apply keep_drew | apply keep_alloc | refine keep_far ?_ GW108.out _ | refine keep_far ?_ GW111.out _ | refine keep_far ?_ GW116.out _ | refine keep_far ?_ GW131.out _) | exact HK.out)⟩, ⟨by repeat (first | (with_reducible first | exact HB.out | apply below_alloc | apply pw_below_drewN | apply below_drew1 | refine below_set ?_ (IsS125.ge HI0.out) | refine below_set ?_ GE108.out | refine below_set ?_ GE111.out | refine below_set ?_ GE116.out | refine below_set ?_ GE131.out) | exact HB.out)⟩⟩
                        · rw [if_neg c65] at H
                          exact absurd H (by simp)
                      · rw [if_neg c63] at H
                        have c63b0 : (t127 == 1) = false := beq_eq_false_iff_ne.mpr c63
                        try rw [c63b0] at H
                        have c63b1 : (t127 != 1) = true := bne_iff_ne.mpr c63
                        by_cases c83 : x112004_4.length < 5864062014805
                        · rw [if_pos c83] at H
                          have LMc83 := Aside0.mk c83
                          clear c83
                          obtain ⟨y137, hy137⟩ : ∃ y_ : List (S116), y_ = (x112004_4 ++ [(⟨false, t129, 0⟩ : S116)]) := ⟨_, rfl⟩
                          replace H : (plan_reader_one.l0 k4 t123 (wrap64 (x40_4 + 1)) s0_0 t130 (wrap64 (1 + t109)) x112001_3 x112002_23 x112003_35 y137 (t125 == 1)) = some (r1, r2, r3, r4, r5, r6, r7) := by first | (rw [hy137]; with_reducible exact H) | (have H2_ := (Option.bind_some _ _).symm.trans H; rw [hy137]; with_reducible exact H2_) | (have H2_ := (Option.bind_some _ _).symm.trans H; with_reducible exact H2_) | with_reducible exact H | (rw [hy137]; exact H) | exact H
                          have Ny137 := Aside0.mk hy137
                          clear hy137
                          have H' := Aside0.mk H
                          clear H
                          go_wp2_with (first | ((with_reducible refine gate_callee (f := 70) rfl ?_); refine goesL_ (some 43) rfl rfl Try.func70 (by kernel_rfl) rfl #[.pointer (some ⟨g, 0, none⟩), .int .i64 2] rfl (by (try simp only [List.map_toArray, List.map_cons, List.map_nil]); first | done | rfl | (simp only [List.length_drop, List.length_take]; rfl)) ?_; (with_reducible refine (plan_reader_next.calls g s0_0 x1001_4 2 t127 t128 w0 _ ?side1 ?side2 A61.out).mono ?_); (case side1 => repeat (first | (with_reducible first | exact HI0.out | apply IsS125.alloc | apply IsS125.drewN | apply IsS125.drew | apply IsS125.set_1 | refine IsS125.far ?_ NB0_108.out _ | refine IsS125.far ?_ NB0_111.out _ | refine IsS125.far ?_ NB0_116.out _) | exact HI0.out)); (case side2 => repeat (first | (with_reducible first | exact HB.out | apply below_alloc | apply pw_below_drewN | apply below_drew1 | refine below_set ?_ (IsS125.ge HI0.out) | refine below_set ?_ GE108.out | refine below_set ?_ GE111.out | refine below_set ?_ GE116.out) | exact HB.out)); rintro e w84 ⟨rfl, hi, hb, hk⟩; refine ⟨_, rfl, ?_⟩; have n0_ := Aside0.mk (Kd.R_mono (Kd.R_keep (IsS125.apart (show IsS125 w0 _ g s0_0 x1001_4 from by repeat (first | (with_reducible first | exact HI0.out | apply IsS125.alloc | apply IsS125.drewN | apply IsS125.drew | apply IsS125.set_1 | refine IsS125.far ?_ NB0_108.out _ | refine IsS125.far ?_ NB0_111.out _ | refine IsS125.far ?_ NB0_116.out _) | exact HI0.out)) (by (with_reducible repeat (first | apply Kd.R_alloc | apply Kd.R_drewN | apply Kd.R_drew)); exact HO_112004.out) (by decide)) hk (fun _ h => h.2)) (fun _ h => h.1)); have n1_ := Aside0.mk (KeepBut.blk hk (g' := gb108) (o := .cells #[.int .i64 0, .int .i64 0, .int .i64 0, .int .i64 0, .slice none 0 0, .bool false] 39 (0, 0)) (by (with_reducible repeat (first | refine blk_drewN ?_ _ | refine blk_drew ?_ | refine blk_alloc ?_ _)); exact BK108.out) NB108_0.out (by simp)); have n2_ := Aside0.mk (KeepBut.blk hk (g' := gb111) (o := .cells #[.int .i64 (wrap64 (1 + t109)), .int .i64 x112001_3, .int .i64 x112002_23, .int .i64 x112003_35, u112004, .bool (t125 == 1)] 39 (0, 0)) (by (with_reducible repeat (first | refine blk_drewN ?_ _ | refine blk_drew ?_ | refine blk_alloc ?_ _)); exact BK111.out) NB111_0.out (by simp)); have n3_ := Aside0.mk (KeepBut.blk hk (g' := gb116) (o := .cells #[.bool t112, .bool t113, .bool t114, .bool true] 113 (0, 0)) (by (with_reducible repeat (first | refine blk_drewN ?_ _ | refine blk_drew ?_ | refine blk_alloc ?_ _)); exact BK116.out) NB116_0.out (by simp)); have n4_ := Aside0.mk (KeepBut.trans (by repeat (first | (with_reducible first | exact HK.out | apply KeepBut.set_ | apply keep_drewN | apply keep_drew | apply keep_alloc | refine keep_far ?_ GW108.out _ | refine keep_far ?_ GW111.out _ | refine keep_far ?_ GW116.out _) | exact HK.out)) hk (.inl rfl)); have n5_ := Aside0.mk (hb); have n6_ := Aside0.mk (hi); clear HO_112004; clear BK108; clear BK111; clear BK116; clear HK; clear HB; clear HI0; have HO_112004 := n0_; have BK108 := n1_; have BK111 := n2_; have BK116 := n3_; have HK := n4_; have HB := n5_; have HI0 := n6_; clear n0_ n1_ n2_ n3_ n4_ n5_ n6_; (try clear hb); (try clear hb2); (try clear hk); (try clear hi)) | ((with_reducible refine gate_callee (f := 70) rfl ?_); refine goesL_ (some 46) rfl rfl Try.func70 (by kernel_rfl) rfl #[.pointer (some ⟨g, 0, none⟩), .int .i64 9] rfl (by (try simp only [List.map_toArray, List.map_cons, List.map_nil]); first | done | rfl | (simp only [List.length_drop, List.length_take]; rfl)) ?_; (with_reducible refine (plan_reader_next.calls g s0_0 t128 9 t129 t130 w0 _ ?side1 ?side2 A62.out).mono ?_); (case side1 => repeat (first | (with_reducible first | exact HI0.out | apply IsS125.alloc | apply IsS125.drewN | apply IsS125.drew | apply IsS125.set_1 | refine IsS125.far ?_ NB0_108.out _ | refine IsS125.far ?_ NB0_111.out _ | refine IsS125.far ?_ NB0_116.out _) | exact HI0.out)); (case side2 => repeat (first | (with_reducible first | exact HB.out | apply below_alloc | apply pw_below_drewN | apply below_drew1 | refine below_set ?_ (IsS125.ge HI0.out) | refine below_set ?_ GE108.out | refine below_set ?_ GE111.out | refine below_set ?_ GE116.out) | exact HB.out)); rintro e w85 ⟨rfl, hi, hb, hk⟩; refine ⟨_, rfl, ?_⟩; have n0_ := Aside0.mk (Kd.R_mono (Kd.R_keep (IsS125.apart (show IsS125 w0 _ g s0_0 t128 from by repeat (first | (with_reducible first | exact HI0.out | apply IsS125.alloc | apply IsS125.drewN | apply IsS125.drew | apply IsS125.set_1 | refine IsS125.far ?_ NB0_108.out _ | refine IsS125.far ?_ NB0_111.out _ | refine IsS125.far ?_ NB0_116.out _) | exact HI0.out)) (by (with_reducible repeat (first | apply Kd.R_alloc | apply Kd.R_drewN | apply Kd.R_drew)); exact HO_112004.out) (by decide)) hk (fun _ h => h.2)) (fun _ h => h.1)); have n1_ := Aside0.mk (KeepBut.blk hk (g' := gb108) (o := .cells #[.int .i64 0, .int .i64 0, .int .i64 0, .int .i64 0, .slice none 0 0, .bool false] 39 (0, 0)) (by (with_reducible repeat (first | refine blk_drewN ?_ _ | refine blk_drew ?_ | refine blk_alloc ?_ _)); exact BK108.out) NB108_0.out (by simp)); have n2_ := Aside0.mk (KeepBut.blk hk (g' := gb111) (o := .cells #[.int .i64 (wrap64 (1 + t109)), .int .i64 x112001_3, .int .i64 x112002_23, .int .i64 x112003_35, u112004, .bool (t125 == 1)] 39 (0, 0)) (by (with_reducible repeat (first | refine blk_drewN ?_ _ | refine blk_drew ?_ | refine blk_alloc ?_ _)); exact BK111.out) NB111_0.out (by simp)); have n3_ := Aside0.mk (KeepBut.blk hk (g' := gb116) (o := .cells #[.bool t112, .bool t113, .bool t114, .bool true] 113 (0, 0)) (by (with_reducible repeat (first | refine blk_drewN ?_ _ | refine blk_drew ?_ | refine blk_alloc ?_ _)); exact BK116.out) NB116_0.out (by simp)); have n4_ := Aside0.mk (KeepBut.trans (by repeat (first | (with_reducible first | exact HK.out | apply KeepBut.set_ | apply keep_drewN | apply keep_drew | apply keep_alloc | refine keep_far ?_ GW108.out _ | refine keep_far ?_ GW111.out _ | refine keep_far ?_ GW116.out _) | exact HK.out)) hk (.inl rfl)); have n5_ := Aside0.mk (hb); have n6_ := Aside0.mk (hi); clear HO_112004; clear BK108; clear BK111; clear BK116; clear HK; clear HB; clear HI0; have HO_112004 := n0_; have BK108 := n1_; have BK111 := n2_; have BK116 := n3_; have HK := n4_; have HB := n5_; have HI0 := n6_; clear n0_ n1_ n2_ n3_ n4_ n5_ n6_; (try clear hb); (try clear hb2); (try clear hk); (try clear hi)) | ((with_reducible refine gate_dst (N := 6) rfl ?_); refine box_event ?hg (N := 6) ?hd (cs := #[.bool false, .int .i64 0, .int .i64 0]) (t := 116) ?hr ?_; (case hd => rfl); (case hg => rfl); (case hr => first | (go_simp; done) | (go_simp; rfl)); intro gb131 hg w86 hbox hb; have n0_ := Aside0.mk (Kd.R_below (Kd.R_elderB (by (with_reducible repeat (first | apply Kd.R_alloc | apply Kd.R_drewN | apply Kd.R_drew)); exact HO_112004.out) gb131 (Nat.le_of_eq hg.symm)) hb); have n1_ := Aside0.mk (blk_below (g := gb108) (o := .cells #[.int .i64 0, .int .i64 0, .int .i64 0, .int .i64 0, .slice none 0 0, .bool false] 39 (0, 0)) (by (with_reducible repeat (first | refine blk_drewN ?_ _ | refine blk_drew ?_ | refine blk_alloc ?_ _)); exact BK108.out) hb); have n2_ := Aside0.mk (blk_below (g := gb111) (o := .cells #[.int .i64 (wrap64 (1 + t109)), .int .i64 x112001_3, .int .i64 x112002_23, .int .i64 x112003_35, u112004, .bool (t125 == 1)] 39 (0, 0)) (by (with_reducible repeat (first | refine blk_drewN ?_ _ | refine blk_drew ?_ | refine blk_alloc ?_ _)); exact BK111.out) hb); have n3_ := Aside0.mk (blk_below (g := gb116) (o := .cells #[.bool t112, .bool t113, .bool t114, .bool true] 113 (0, 0)) (by (with_reducible repeat (first | refine blk_drewN ?_ _ | refine blk_drew ?_ | refine blk_alloc ?_ _)); exact BK116.out) hb); have n4_ := Aside0.mk (IsS125.below (by repeat (first | (with_reducible first | exact HI0.out | apply IsS125.alloc | apply IsS125.drewN | apply IsS125.drew | apply IsS125.set_1 | refine IsS125.far ?_ NB0_108.out _ | refine IsS125.far ?_ NB0_111.out _ | refine IsS125.far ?_ NB0_116.out _) | exact HI0.out)) hb); have n5_ := Aside0.mk (KeepBut.trans (by repeat (first | (with_reducible first | exact HK.out | apply KeepBut.set_ | apply keep_drewN | apply keep_drew | apply keep_alloc | refine keep_far ?_ GW108.out _ | refine keep_far ?_ GW111.out _ | refine keep_far ?_ GW116.out _) | exact HK.out)) (KeepBut.of_below hb g none) (.inl rfl)); have n6_ := Aside0.mk (below_step (by repeat (first | (with_reducible first | exact HB.out | apply below_alloc | apply pw_below_drewN | apply below_drew1 | refine below_set ?_ (IsS125.ge HI0.out) | refine below_set ?_ GE108.out | refine below_set ?_ GE111.out | refine below_set ?_ GE116.out) | exact HB.out)) hb); have n7_ := Aside0.mk (hbox); have n8_ := Aside0.mk ((by rw [hg]; exact (keep_size (w := w) (g := g) (row := none) (by repeat (first | (with_reducible first | exact HK.out | apply KeepBut.set_ | apply keep_drewN | apply keep_drew | apply keep_alloc | refine keep_far ?_ GW108.out _ | refine keep_far ?_ GW111.out _ | refine keep_far ?_ GW116.out _) | exact HK.out))) : w.heap.size ≤ gb131)); have n9_ := Aside0.mk ((Nat.le_trans HW0.out (by rw [hg]; exact (keep_size (w := w) (g := g) (row := none) (by repeat (first | (with_reducible first | exact HK.out | apply KeepBut.set_ | apply keep_drewN | apply keep_drew | apply keep_alloc | refine keep_far ?_ GW108.out _ | refine keep_far ?_ GW111.out _ | refine keep_far ?_ GW116.out _) | exact HK.out))) : w.heap.size ≤ gb131) : w0.heap.size ≤ gb131)); have n10_ := Aside0.mk ((by rw [hg]; exact Nat.ne_of_lt (blk_lt (g := gb108) (o := .cells #[.int .i64 0, .int .i64 0, .int .i64 0, .int .i64 0, .slice none 0 0, .bool false] 39 (0, 0)) (by (with_reducible repeat (first | refine blk_drewN ?_ _ | refine blk_drew ?_ | refine blk_alloc ?_ _)); exact BK108.out)) : gb108 ≠ gb131)); have n11_ := Aside0.mk ((by rw [hg]; exact Nat.ne_of_gt (blk_lt (g := gb108) (o := .cells #[.int .i64 0, .int .i64 0, .int .i64 0, .int .i64 0, .slice none 0 0, .bool false] 39 (0, 0)) (by (with_reducible repeat (first | refine blk_drewN ?_ _ | refine blk_drew ?_ | refine blk_alloc ?_ _)); exact BK108.out)) : gb131 ≠ gb108)); have n12_ := Aside0.mk ((by rw [hg]; exact Nat.ne_of_lt (blk_lt (g := gb111) (o := .cells #[.int .i64 (wrap64 (1 + t109)), .int .i64 x112001_3, .int .i64 x112002_23, .int .i64 x112003_35, u112004, .bool (t125 == 1)] 39 (0, 0)) (by (with_reducible repeat (first | refine blk_drewN ?_ _ | refine blk_drew ?_ | refine blk_alloc ?_ _)); exact BK111.out)) : gb111 ≠ gb131)); have n13_ := Aside0.mk ((by rw [hg]; exact Nat.ne_of_gt (blk_lt (g := gb111) (o := .cells #[.int .i64 (wrap64 (1 + t109)), .int .i64 x112001_3, .int .i64 x112002_23, .int .i64 x112003_35, u112004, .bool (t125 == 1)] 39 (0, 0)) (by (with_reducible repeat (first | refine blk_drewN ?_ _ | refine blk_drew ?_ | refine blk_alloc ?_ _)); exact BK111.out)) : gb131 ≠ gb111)); have n14_ := Aside0.mk ((by rw [hg]; exact Nat.ne_of_lt (blk_lt (g := gb116) (o := .cells #[.bool t112, .bool t113, .bool t114, .bool true] 113 (0, 0)) (by (with_reducible repeat (first | refine blk_drewN ?_ _ | refine blk_drew ?_ | refine blk_alloc ?_ _)); exact BK116.out)) : gb116 ≠ gb131)); have n15_ := Aside0.mk ((by rw [hg]; exact Nat.ne_of_gt (blk_lt (g := gb116) (o := .cells #[.bool t112, .bool t113, .bool t114, .bool true] 113 (0, 0)) (by (with_reducible repeat (first | refine blk_drewN ?_ _ | refine blk_drew ?_ | refine blk_alloc ?_ _)); exact BK116.out)) : gb131 ≠ gb116)); have n16_ := Aside0.mk ((by rw [hg]; exact Nat.ne_of_lt (IsS125.lt (show IsS125 w0 _ g s0_0 t130 from by repeat (first | (with_reducible first | exact HI0.out | apply IsS125.alloc | apply IsS125.drewN | apply IsS125.drew | apply IsS125.set_1 | refine IsS125.far ?_ NB0_108.out _ | refine IsS125.far ?_ NB0_111.out _ | refine IsS125.far ?_ NB0_116.out _) | exact HI0.out))) : g ≠ gb131)); have n17_ := Aside0.mk ((by rw [hg]; exact Nat.ne_of_gt (IsS125.lt (show IsS125 w0 _ g s0_0 t130 from by repeat (first | (with_reducible first | exact HI0.out | apply IsS125.alloc | apply IsS125.drewN | apply IsS125.drew | apply IsS125.set_1 | refine IsS125.far ?_ NB0_108.out _ | refine IsS125.far ?_ NB0_111.out _ | refine IsS125.far ?_ NB0_116.out _) | exact HI0.out))) : gb131 ≠ g)); clear HO_112004; clear BK108; clear BK111; clear BK116; clear HI0; clear HK; clear HB; have HO_112004 := n0_; have BK108 := n1_; have BK111 := n2_; have BK116 := n3_; have HI0 := n4_; have HK := n5_; have HB := n6_; have BK131 := n7_; have GW131 := n8_; have GE131 := n9_; have NB108_131 := n10_; have NB131_108 := n11_; have NB111_131 := n12_; have NB131_111 := n13_; have NB116_131 := n14_; have NB131_116 := n15_; have NB0_131 := n16_; have NB131_0 := n17_; clear n0_ n1_ n2_ n3_ n4_ n5_ n6_ n7_ n8_ n9_ n10_ n11_ n12_ n13_ n14_ n15_ n16_ n17_; clear hb hbox hg; have hnb87 := NB131_108.out; have hnc87 := NB108_131.out; have hnb88 := NB131_111.out; have hnc88 := NB111_131.out; have hnb89 := NB131_116.out; have hnc89 := NB116_131.out; have hnb90 := NB131_0.out; have hnc90 := NB0_131.out; have hcz91_0 : w86.cell? ⟨gb131, 0, none⟩ = some (.bool false) := (blk_cell BK131.out 0).trans rfl; have hcz91_1 : w86.cell? ⟨gb131, 1, none⟩ = some (.int .i64 0) := (blk_cell BK131.out 1).trans rfl; have hcz91_2 : w86.cell? ⟨gb131, 2, none⟩ = some (.int .i64 0) := (blk_cell BK131.out 2).trans rfl; have hfz91_0 := blk_frozen BK131.out 0; have hfz91_1 := blk_frozen BK131.out 1; have hfz91_2 := blk_frozen BK131.out 2; have hnb92 := NB111_108.out; have hnc92 := NB108_111.out; have hnb93 := NB111_116.out; have hnc93 := NB116_111.out; have hnb94 := NB111_0.out; have hnc94 := NB0_111.out; have hcz95_0 : w86.cell? ⟨gb111, 0, none⟩ = some (.int .i64 (wrap64 (1 + t109))) := (blk_cell BK111.out 0).trans rfl; have hcz95_1 : w86.cell? ⟨gb111, 1, none⟩ = some (.int .i64 x112001_3) := (blk_cell BK111.out 1).trans rfl; have hcz95_2 : w86.cell? ⟨gb111, 2, none⟩ = some (.int .i64 x112002_23) := (blk_cell BK111.out 2).trans rfl; have hcz95_3 : w86.cell? ⟨gb111, 3, none⟩ = some (.int .i64 x112003_35) := (blk_cell BK111.out 3).trans rfl; have hcz95_4 : w86.cell? ⟨gb111, 4, none⟩ = some (u112004) := (blk_cell BK111.out 4).trans rfl; have hcz95_5 : w86.cell? ⟨gb111, 5, none⟩ = some (.bool (t125 == 1)) := (blk_cell BK111.out 5).trans rfl; have hfz95_0 := blk_frozen BK111.out 0; have hfz95_1 := blk_frozen BK111.out 1; have hfz95_2 := blk_frozen BK111.out 2; have hfz95_3 := blk_frozen BK111.out 3; have hfz95_4 := blk_frozen BK111.out 4; have hfz95_5 := blk_frozen BK111.out 5) | ((with_reducible refine gate_builtin (b := .append) (xs := #[.tmp 54, .tmp 56]) rfl ?_); at_builtin; refine Kd.R_append k116 w.heap.size rfl (.tmp 54) (.tmp 56) 37 116 (.agg #[(.bool false), (.int .i64 0), (.int .i64 0)]) 24 rfl Try.underlying37 info116 rfl (by decide) (by omega) u112004 x112004_4 (⟨false, t129, 0⟩ : S116) [.bool false, .int .i64 t129, .int .i64 0] (fun k_ => k_ ≠ gb131) (fun _ => False) rfl (by first | (go_simp; done) | (go_simp; rfl)) ?aP (fun _ hk => hk.elim) ?aF ?aO (Below.refl _ _) ?aS ?aL ?_; (case aP => exact k116_mkM _ _ _ (⟨false, t129, 0⟩ : S116)); (case aF => exact (fun k_ hk => Kd.freshB (g := gb131) (o := .cells #[.bool false, .int .i64 t129, .int .i64 0] 116 (0, 0)) (by (with_reducible repeat (first | refine blk_drewN ?_ _ | refine blk_drew ?_ | refine blk_alloc ?_ _)); refine blk_put (cs := #[.bool false, .int .i64 t129, .int .i64 0]) ?_ 2 _ rfl; (with_reducible repeat (first | refine blk_drewN ?_ _ | refine blk_drew ?_ | refine blk_alloc ?_ _)); refine blk_put (cs := #[.bool false, .int .i64 0, .int .i64 0]) ?_ 1 _ rfl; (with_reducible repeat (first | refine blk_drewN ?_ _ | refine blk_drew ?_ | refine blk_alloc ?_ _)); refine blk_put (cs := #[.bool false, .int .i64 0, .int .i64 0]) ?_ 0 _ rfl; (with_reducible repeat (first | refine blk_drewN ?_ _ | refine blk_drew ?_ | refine blk_alloc ?_ _)); exact BK131.out) k_ hk)); (case aO => exact (by (with_reducible repeat (first | apply Kd.R_alloc | apply Kd.R_drewN | apply Kd.R_drew)); exact Kd.R_mono (Kd.R_far (p := ⟨gb131, 2, none⟩) (Kd.R_far (p := ⟨gb131, 1, none⟩) (Kd.R_far (p := ⟨gb131, 0, none⟩) (Kd.R_mono HO_112004.out (fun k_ hk => (⟨hk, hk.2⟩ : _ ∧ k_ ≠ gb131))) (fun _ hk => hk.2) (.bool false)) (fun _ hk => hk.2) (.int .i64 t129)) (fun _ hk => hk.2) (.int .i64 0)) (fun _ hk => hk.1.2))); (case aS => exact (keep_size (w := w) (g := g) (row := none) (by repeat (first | (with_reducible first | exact HK.out | apply KeepBut.set_ | apply keep_drewN | apply keep_drew | apply keep_alloc | refine keep_far ?_ GW108.out _ | refine keep_far ?_ GW111.out _ | refine keep_far ?_ GW116.out _ | refine keep_far ?_ GW131.out _) | exact HK.out)))); (case aL => have := LMc83.out; omega); intro v138 w96 ho hb hg hat; rw [← Ny137.out] at ho; have n0_ := Aside0.mk (blk_grown (g := gb108) (o := .cells #[.int .i64 0, .int .i64 0, .int .i64 0, .int .i64 0, .slice none 0 0, .bool false] 39 (0, 0)) (by (with_reducible repeat (first | refine blk_drewN ?_ _ | refine blk_drew ?_ | refine blk_alloc ?_ _)); refine blk_far ?_ NB108_131.out _; (with_reducible repeat (first | refine blk_drewN ?_ _ | refine blk_drew ?_ | refine blk_alloc ?_ _)); refine blk_far ?_ NB108_131.out _; (with_reducible repeat (first | refine blk_drewN ?_ _ | refine blk_drew ?_ | refine blk_alloc ?_ _)); refine blk_far ?_ NB108_131.out _; (with_reducible repeat (first | refine blk_drewN ?_ _ | refine blk_drew ?_ | refine blk_alloc ?_ _)); exact BK108.out) hg (Kd.R_ne HO_112004.out BK108.out (by decide))); have n1_ := Aside0.mk (blk_grown (g := gb111) (o := .cells #[.int .i64 (wrap64 (1 + t109)), .int .i64 x112001_3, .int .i64 x112002_23, .int .i64 x112003_35, u112004, .bool (t125 == 1)] 39 (0, 0)) (by (with_reducible repeat (first | refine blk_drewN ?_ _ | refine blk_drew ?_ | refine blk_alloc ?_ _)); refine blk_far ?_ NB111_131.out _; (with_reducible repeat (first | refine blk_drewN ?_ _ | refine blk_drew ?_ | refine blk_alloc ?_ _)); refine blk_far ?_ NB111_131.out _; (with_reducible repeat (first | refine blk_drewN ?_ _ | refine blk_drew ?_ | refine blk_alloc ?_ _)); refine blk_far ?_ NB111_131.out _; (with_reducible repeat (first | refine blk_drewN ?_ _ | refine blk_drew ?_ | refine blk_alloc ?_ _)); exact BK111.out) hg (Kd.R_ne HO_112004.out BK111.out (by decide))); have n2_ := Aside0.mk (blk_grown (g := gb116) (o := .cells #[.bool t112, .bool t113, .bool t114, .bool true] 113 (0, 0)) (by (with_reducible repeat (first | refine blk_drewN ?_ _ | refine blk_drew ?_ | refine blk_alloc ?_ _)); refine blk_far ?_ NB116_131.out _; (with_reducible repeat (first | refine blk_drewN ?_ _ | refine blk_drew ?_ | refine blk_alloc ?_ _)); refine blk_far ?_ NB116_131.out _; (with_reducible repeat (first | refine blk_drewN ?_ _ | refine blk_drew ?_ | refine blk_alloc ?_ _)); refine blk_far ?_ NB116_131.out _; (with_reducible repeat (first | refine blk_drewN ?_ _ | refine blk_drew ?_ | refine blk_alloc ?_ _)); exact BK116.out) hg (Kd.R_ne HO_112004.out BK116.out (by decide))); have q1_ := IsS125.own_ne HI0.out HO_112004.out (by decide); have n3_ : Aside0 (IsS125 w0 w96 g s0_0 t130) := ⟨by refine IsS125.grown ?_ hg q1_; exact (by repeat (first | (with_reducible first | exact HI0.out | apply IsS125.alloc | apply IsS125.drewN | apply IsS125.drew | apply IsS125.set_1 | refine IsS125.far ?_ NB0_108.out _ | refine IsS125.far ?_ NB0_111.out _ | refine IsS125.far ?_ NB0_116.out _ | refine IsS125.far ?_ NB0_131.out _) | exact HI0.out))⟩; clear q1_; have n4_ := Aside0.mk (blk_grown (g := gb131) (o := .cells #[.bool false, .int .i64 t129, .int .i64 0] 116 (0, 0)) (by (with_reducible repeat (first | refine blk_drewN ?_ _ | refine blk_drew ?_ | refine blk_alloc ?_ _)); refine blk_put (cs := #[.bool false, .int .i64 t129, .int .i64 0]) ?_ 2 _ rfl; (with_reducible repeat (first | refine blk_drewN ?_ _ | refine blk_drew ?_ | refine blk_alloc ?_ _)); refine blk_put (cs := #[.bool false, .int .i64 0, .int .i64 0]) ?_ 1 _ rfl; (with_reducible repeat (first | refine blk_drewN ?_ _ | refine blk_drew ?_ | refine blk_alloc ?_ _)); refine blk_put (cs := #[.bool false, .int .i64 0, .int .i64 0]) ?_ 0 _ rfl; (with_reducible repeat (first | refine blk_drewN ?_ _ | refine blk_drew ?_ | refine blk_alloc ?_ _)); exact BK131.out) hg (Kd.R_away HO_112004.out (fun _ hk => hk.2))); have n5_ := Aside0.mk (below_weaken (by repeat (first | (with_reducible first | exact HB.out | apply below_alloc | apply pw_below_drewN | apply below_drew1 | refine below_set ?_ (IsS125.ge HI0.out) | refine below_set ?_ GE108.out | refine below_set ?_ GE111.out | refine below_set ?_ GE116.out | refine below_set ?_ GE131.out) | exact HB.out)) HL.out hb); have n6_ := Aside0.mk (KeepBut.trans (by repeat (first | (with_reducible first | exact HK.out | apply KeepBut.set_ | apply keep_drewN | apply keep_drew | apply keep_alloc | refine keep_far ?_ GW108.out _ | refine keep_far ?_ GW111.out _ | refine keep_far ?_ GW116.out _ | refine keep_far ?_ GW131.out _) | exact HK.out)) (KeepBut.of_grown hg g) (Kd.R_base2 HO_112004.out)); have n7_ := Aside0.mk (ho); clear BK108; clear BK111; clear BK116; clear HI0; clear BK131; clear HB; clear HK; clear HO_112004; have BK108 := n0_; have BK111 := n1_; have BK116 := n2_; have HI0 := n3_; have BK131 := n4_; have HB := n5_; have HK := n6_; have HO139 := n7_; clear n0_ n1_ n2_ n3_ n4_ n5_ n6_ n7_; clear ho hb hg hat; obtain ⟨Ao97, co97, eo97⟩ := Kd.R_slice HO139.out; subst eo97; have hcz98_0 : w96.cell? ⟨gb111, 0, none⟩ = some (.int .i64 (wrap64 (1 + t109))) := (blk_cell BK111.out 0).trans rfl; have hcz98_1 : w96.cell? ⟨gb111, 1, none⟩ = some (.int .i64 x112001_3) := (blk_cell BK111.out 1).trans rfl; have hcz98_2 : w96.cell? ⟨gb111, 2, none⟩ = some (.int .i64 x112002_23) := (blk_cell BK111.out 2).trans rfl; have hcz98_3 : w96.cell? ⟨gb111, 3, none⟩ = some (.int .i64 x112003_35) := (blk_cell BK111.out 3).trans rfl; have hcz98_4 : w96.cell? ⟨gb111, 4, none⟩ = some (u112004) := (blk_cell BK111.out 4).trans rfl; have hcz98_5 : w96.cell? ⟨gb111, 5, none⟩ = some (.bool (t125 == 1)) := (blk_cell BK111.out 5).trans rfl; have hfz98_0 := blk_frozen BK111.out 0; have hfz98_1 := blk_frozen BK111.out 1; have hfz98_2 := blk_frozen BK111.out 2; have hfz98_3 := blk_frozen BK111.out 3; have hfz98_4 := blk_frozen BK111.out 4; have hfz98_5 := blk_frozen BK111.out 5))
                          go_roundg k4
                          case measure => have := HJ3.out; have := HJ23.out; have := HJ35.out; have := HK4.out; omega
                          case rel => exact ⟨(wrap64 (x40_4 + 1)), (t130), (y137), (.slice Ao97 y137.length co97), (by first | rfl | (simp; done) | (simp [*]; done)), H', ⟨by have := HJ3.out; have := HJ23.out; have := HJ35.out; have := HK4.out; omega⟩, ⟨by (with_reducible repeat (first | apply Kd.R_alloc | apply Kd.R_drewN | apply Kd.R_drew)); exact Kd.R_mono (Kd.R_far (p := ⟨gb111, 4, none⟩) (Kd.R_types HO139.out BK111.out (by decide)) (fun _ hk => hk.2) (.slice Ao97 y137.length co97)) (fun _ hk => trivial)⟩, ⟨by (with_reducible repeat (first | refine blk_drewN ?_ _ | refine blk_drew ?_ | refine blk_alloc ?_ _)); refine blk_far ?_ NB108_111.out _; (with_reducible repeat (first | refine blk_drewN ?_ _ | refine blk_drew ?_ | refine blk_alloc ?_ _)); exact BK108.out⟩, ⟨by (with_reducible repeat (first | refine blk_drewN ?_ _ | refine blk_drew ?_ | refine blk_alloc ?_ _)); refine blk_put (cs := #[.int .i64 (wrap64 (1 + t109)), .int .i64 x112001_3, .int .i64 x112002_23, .int .i64 x112003_35, u112004, .bool (t125 == 1)]) ?_ 4 _ rfl; (with_reducible repeat (first | refine blk_drewN ?_ _ | refine blk_drew ?_ | refine blk_alloc ?_ _)); exact BK111.out⟩, ⟨by (with_reducible repeat (first | refine blk_drewN ?_ _ | refine blk_drew ?_ | refine blk_alloc ?_ _)); refine blk_far ?_ NB116_111.out _; (with_reducible repeat (first | refine blk_drewN ?_ _ | refine blk_drew ?_ | refine blk_alloc ?_ _)); exact BK116.out⟩, ⟨by repeat (first | (with_reducible first | exact HI0.out | apply IsS125.alloc | apply IsS125.drewN | apply IsS125.drew | apply IsS125.set_1 | refine IsS125.far ?_ NB0_108.out _ | refine IsS125.far ?_ NB0_111.out _ | refine IsS125.far ?_ NB0_116.out _ | refine IsS125.far ?_ NB0_131.out _) | exact HI0.out)⟩, ⟨by repeat (first | (with_reducible first | exact HK.out | apply KeepBut.set_ | apply keep_drewN | apply keep_drew | apply keep_alloc | refine keep_far ?_ GW108.out _ | refine keep_far ?_ GW111.out _ | refine keep_far ?_ GW116.out _ | refine keep_far ?_ GW131.out _) | exact HK.out)⟩, ⟨by repeat (first | (with_reducible first | exact HB.out | apply below_alloc | apply pw_below_drewN | apply below_drew1 | refine below_set ?_ (IsS125.ge HI0.out) | refine below_set ?_ GE108.out | refine below_set ?_ GE111.out | refine below_set ?_ GE116.out | refine below_set ?_ GE131.out) | exact HB.out)⟩⟩
                        · rw [if_neg c83] at H
                          exact absurd H (by simp)
                    · rw [if_neg c60] at H
                      have c60b0 : decide (x40_4 < t123) = false := decide_eq_false c60
                      clear c60
                      simp only [Option.some.injEq, Prod.mk.injEq] at H
                      obtain ⟨rfl, rfl, rfl, rfl, rfl, rfl, rfl⟩ := H
                      have hnb99 := NB111_108.out
                      have hnc99 := NB108_111.out
                      have hnb100 := NB111_116.out
                      have hnc100 := NB116_111.out
                      have hnb101 := NB111_0.out
                      have hnc101 := NB0_111.out
                      have hcz102_0 : wr.cell? ⟨gb111, 0, none⟩ = some (.int .i64 (wrap64 (1 + t109))) := (blk_cell BK111.out 0).trans rfl
                      have hcz102_1 : wr.cell? ⟨gb111, 1, none⟩ = some (.int .i64 x112001_3) := (blk_cell BK111.out 1).trans rfl
                      have hcz102_2 : wr.cell? ⟨gb111, 2, none⟩ = some (.int .i64 x112002_23) := (blk_cell BK111.out 2).trans rfl
                      have hcz102_3 : wr.cell? ⟨gb111, 3, none⟩ = some (.int .i64 x112003_35) := (blk_cell BK111.out 3).trans rfl
                      have hcz102_4 : wr.cell? ⟨gb111, 4, none⟩ = some (u112004) := (blk_cell BK111.out 4).trans rfl
                      have hcz102_5 : wr.cell? ⟨gb111, 5, none⟩ = some (.bool (t125 == 1)) := (blk_cell BK111.out 5).trans rfl
                      have hfz102_0 := blk_frozen BK111.out 0
                      have hfz102_1 := blk_frozen BK111.out 1
                      have hfz102_2 := blk_frozen BK111.out 2
                      have hfz102_3 := blk_frozen BK111.out 3
                      have hfz102_4 := blk_frozen BK111.out 4
                      have hfz102_5 := blk_frozen BK111.out 5
                      have hnb103 := NB108_116.out
                      have hnc103 := NB116_108.out
                      have hnb104 := NB108_0.out
                      have hnc104 := NB0_108.out
                      have hcz105_0 : wr.cell? ⟨gb108, 0, none⟩ = some (.int .i64 0) := (blk_cell BK108.out 0).trans rfl
                      have hcz105_1 : wr.cell? ⟨gb108, 1, none⟩ = some (.int .i64 0) := (blk_cell BK108.out 1).trans rfl
                      have hcz105_2 : wr.cell? ⟨gb108, 2, none⟩ = some (.int .i64 0) := (blk_cell BK108.out 2).trans rfl
                      have hcz105_3 : wr.cell? ⟨gb108, 3, none⟩ = some (.int .i64 0) := (blk_cell BK108.out 3).trans rfl
                      have hcz105_4 : wr.cell? ⟨gb108, 4, none⟩ = some (.slice none 0 0) := (blk_cell BK108.out 4).trans rfl
                      have hcz105_5 : wr.cell? ⟨gb108, 5, none⟩ = some (.bool false) := (blk_cell BK108.out 5).trans rfl
                      have hfz105_0 := blk_frozen BK108.out 0
                      have hfz105_1 := blk_frozen BK108.out 1
                      have hfz105_2 := blk_frozen BK108.out 2
                      have hfz105_3 := blk_frozen BK108.out 3
                      have hfz105_4 := blk_frozen BK108.out 4
                      have hfz105_5 := blk_frozen BK108.out 5
                      obtain ⟨Ao106, co106, eo106⟩ := Kd.R_slice HO_112004.out
                      subst eo106
                      go_wp2
                      refine bodyPost_ret (results_cell_row rfl _ _ gb108 39 #[.int .i64 (wrap64 (1 + t109)), .int .i64 x112001_3, .int .i64 x112002_23, .int .i64 x112003_35, .slice Ao106 x112004_4.length co106, .bool (t125 == 1)] (0, 0) _ rfl (by (with_reducible repeat (first | refine blk_drewN ?_ _ | refine blk_drew ?_ | refine blk_alloc ?_ _)); refine blk_put (cs := #[.int .i64 (wrap64 (1 + t109)), .int .i64 x112001_3, .int .i64 x112002_23, .int .i64 x112003_35, .slice Ao106 x112004_4.length co106, .bool false]) ?_ 5 _ rfl; (with_reducible repeat (first | refine blk_drewN ?_ _ | refine blk_drew ?_ | refine blk_alloc ?_ _)); refine blk_put (cs := #[.int .i64 (wrap64 (1 + t109)), .int .i64 x112001_3, .int .i64 x112002_23, .int .i64 x112003_35, .slice none 0 0, .bool false]) ?_ 4 _ rfl; (with_reducible repeat (first | refine blk_drewN ?_ _ | refine blk_drew ?_ | refine blk_alloc ?_ _)); refine blk_put (cs := #[.int .i64 (wrap64 (1 + t109)), .int .i64 x112001_3, .int .i64 x112002_23, .int .i64 0, .slice none 0 0, .bool false]) ?_ 3 _ rfl; (with_reducible repeat (first | refine blk_drewN ?_ _ | refine blk_drew ?_ | refine blk_alloc ?_ _)); refine blk_put (cs := #[.int .i64 (wrap64 (1 + t109)), .int .i64 x112001_3, .int .i64 0, .int .i64 0, .slice none 0 0, .bool false]) ?_ 2 _ rfl; (with_reducible repeat (first | refine blk_drewN ?_ _ | refine blk_drew ?_ | refine blk_alloc ?_ _)); refine blk_put (cs := #[.int .i64 (wrap64 (1 + t109)), .int .i64 0, .int .i64 0, .int .i64 0, .slice none 0 0, .bool false]) ?_ 1 _ rfl; (with_reducible repeat (first | refine blk_drewN ?_ _ | refine blk_drew ?_ | refine blk_alloc ?_ _)); refine blk_put (cs := #[.int .i64 0, .int .i64 0, .int .i64 0, .int .i64 0, .slice none 0 0, .bool false]) ?_ 0 _ rfl; (with_reducible repeat (first | refine blk_drewN ?_ _ | refine blk_drew ?_ | refine blk_alloc ?_ _)); exact BK108.out) Try.underlying39 rfl (by kernel_rfl)) rfl ?_
                      exact ⟨_, by first | rfl | (simp [errW_none, errW_some] <;> rfl) | (simp [*, errW_none, errW_some] <;> rfl), by (with_reducible repeat (first | apply Kd.R_alloc | apply Kd.R_drewN | apply Kd.R_drew)); exact Kd.R_mono (Kd.R_far (p := ⟨gb108, 5, none⟩) (Kd.R_far (p := ⟨gb108, 4, none⟩) (Kd.R_far (p := ⟨gb108, 3, none⟩) (Kd.R_far (p := ⟨gb108, 2, none⟩) (Kd.R_far (p := ⟨gb108, 1, none⟩) (Kd.R_far (p := ⟨gb108, 0, none⟩) (Kd.R_types HO_112004.out BK108.out (by decide)) (fun _ hk => hk.2) (.int .i64 (wrap64 (1 + t109)))) (fun _ hk => hk.2) (.int .i64 x112001_3)) (fun _ hk => hk.2) (.int .i64 x112002_23)) (fun _ hk => hk.2) (.int .i64 x112003_35)) (fun _ hk => hk.2) (.slice Ao106 x112004_4.length co106)) (fun _ hk => hk.2) (.bool (t125 == 1))) (fun _ hk => trivial), by repeat (first | (with_reducible first | exact HI0.out | apply IsS125.alloc | apply IsS125.drewN | apply IsS125.drew | apply IsS125.set_1 | refine IsS125.far ?_ NB0_108.out _ | refine IsS125.far ?_ NB0_111.out _ | refine IsS125.far ?_ NB0_116.out _) | exact HI0.out), by repeat (first | (with_reducible first | exact HB.out | apply below_alloc | apply pw_below_drewN | apply below_drew1 | refine below_set ?_ (IsS125.ge HI0.out) | refine below_set ?_ GE108.out | refine below_set ?_ GE111.out | refine below_set ?_ GE116.out) | exact HB.out), by repeat (first | (with_reducible first | exact HK.out | apply KeepBut.set_ | apply keep_drewN | apply keep_drew | apply keep_alloc | refine keep_far ?_ GW108.out _ | refine keep_far ?_ GW111.out _ | refine keep_far ?_ GW116.out _) | exact HK.out)⟩
              · replace c48 := Bool.eq_false_iff.mpr c48
                subst c48
                have H1 : (some ((wrap64 (1 + t109)), x112001_3, x112002_23, x112003_35, ([] : List (S116)), false, x1001_35)) = some (r1, r2, r3, r4, r5, r6, r7) := by rw [if_neg (show ¬ (false = true) by decide)] at H; exact H
                clear H
                have H := H1
                clear H1
                simp only [Option.some.injEq, Prod.mk.injEq] at H
                obtain ⟨rfl, rfl, rfl, rfl, rfl, rfl, rfl⟩ := H
                have hnb107 := NB116_108.out
                have hnc107 := NB108_116.out
                have hnb108 := NB116_111.out
                have hnc108 := NB111_116.out
                have hnb109 := NB116_0.out
                have hnc109 := NB0_116.out
                have hcz110_0 : wc.cell? ⟨gb116, 0, none⟩ = some (.bool t112) := (blk_cell BK116.out 0).trans rfl
                have hcz110_1 : wc.cell? ⟨gb116, 1, none⟩ = some (.bool t113) := (blk_cell BK116.out 1).trans rfl
                have hcz110_2 : wc.cell? ⟨gb116, 2, none⟩ = some (.bool t114) := (blk_cell BK116.out 2).trans rfl
                have hcz110_3 : wc.cell? ⟨gb116, 3, none⟩ = some (.bool false) := (blk_cell BK116.out 3).trans rfl
                have hfz110_0 := blk_frozen BK116.out 0
                have hfz110_1 := blk_frozen BK116.out 1
                have hfz110_2 := blk_frozen BK116.out 2
                have hfz110_3 := blk_frozen BK116.out 3
                have hnb111 := NB111_108.out
                have hnc111 := NB108_111.out
                have hnb112 := NB111_0.out
                have hnc112 := NB0_111.out
                have hcz113_0 : wc.cell? ⟨gb111, 0, none⟩ = some (.int .i64 (wrap64 (1 + t109))) := (blk_cell BK111.out 0).trans rfl
                have hcz113_1 : wc.cell? ⟨gb111, 1, none⟩ = some (.int .i64 x112001_3) := (blk_cell BK111.out 1).trans rfl
                have hcz113_2 : wc.cell? ⟨gb111, 2, none⟩ = some (.int .i64 x112002_23) := (blk_cell BK111.out 2).trans rfl
                have hcz113_3 : wc.cell? ⟨gb111, 3, none⟩ = some (.int .i64 x112003_35) := (blk_cell BK111.out 3).trans rfl
                have hcz113_4 : wc.cell? ⟨gb111, 4, none⟩ = some (.slice none 0 0) := (blk_cell BK111.out 4).trans rfl
                have hcz113_5 : wc.cell? ⟨gb111, 5, none⟩ = some (.bool false) := (blk_cell BK111.out 5).trans rfl
                have hfz113_0 := blk_frozen BK111.out 0
                have hfz113_1 := blk_frozen BK111.out 1
                have hfz113_2 := blk_frozen BK111.out 2
                have hfz113_3 := blk_frozen BK111.out 3
                have hfz113_4 := blk_frozen BK111.out 4
                have hfz113_5 := blk_frozen BK111.out 5
                have hnb114 := NB108_0.out
                have hnc114 := NB0_108.out
                have hcz115_0 : wc.cell? ⟨gb108, 0, none⟩ = some (.int .i64 0) := (blk_cell BK108.out 0).trans rfl
                have hcz115_1 : wc.cell? ⟨gb108, 1, none⟩ = some (.int .i64 0) := (blk_cell BK108.out 1).trans rfl
                have hcz115_2 : wc.cell? ⟨gb108, 2, none⟩ = some (.int .i64 0) := (blk_cell BK108.out 2).trans rfl
                have hcz115_3 : wc.cell? ⟨gb108, 3, none⟩ = some (.int .i64 0) := (blk_cell BK108.out 3).trans rfl
                have hcz115_4 : wc.cell? ⟨gb108, 4, none⟩ = some (.slice none 0 0) := (blk_cell BK108.out 4).trans rfl
                have hcz115_5 : wc.cell? ⟨gb108, 5, none⟩ = some (.bool false) := (blk_cell BK108.out 5).trans rfl
                have hfz115_0 := blk_frozen BK108.out 0
                have hfz115_1 := blk_frozen BK108.out 1
                have hfz115_2 := blk_frozen BK108.out 2
                have hfz115_3 := blk_frozen BK108.out 3
                have hfz115_4 := blk_frozen BK108.out 4
                have hfz115_5 := blk_frozen BK108.out 5
                go_wp2
                refine bodyPost_ret (results_cell_row rfl _ _ gb108 39 #[.int .i64 (wrap64 (1 + t109)), .int .i64 x112001_3, .int .i64 x112002_23, .int .i64 x112003_35, .slice none 0 0, .bool false] (0, 0) _ rfl (by (with_reducible repeat (first | refine blk_drewN ?_ _ | refine blk_drew ?_ | refine blk_alloc ?_ _)); refine blk_put (cs := #[.int .i64 (wrap64 (1 + t109)), .int .i64 x112001_3, .int .i64 x112002_23, .int .i64 x112003_35, .slice none 0 0, .bool false]) ?_ 5 _ rfl; (with_reducible repeat (first | refine blk_drewN ?_ _ | refine blk_drew ?_ | refine blk_alloc ?_ _)); refine blk_put (cs := #[.int .i64 (wrap64 (1 + t109)), .int .i64 x112001_3, .int .i64 x112002_23, .int .i64 x112003_35, .slice none 0 0, .bool false]) ?_ 4 _ rfl; (with_reducible repeat (first | refine blk_drewN ?_ _ | refine blk_drew ?_ | refine blk_alloc ?_ _)); refine blk_put (cs := #[.int .i64 (wrap64 (1 + t109)), .int .i64 x112001_3, .int .i64 x112002_23, .int .i64 0, .slice none 0 0, .bool false]) ?_ 3 _ rfl; (with_reducible repeat (first | refine blk_drewN ?_ _ | refine blk_drew ?_ | refine blk_alloc ?_ _)); refine blk_put (cs := #[.int .i64 (wrap64 (1 + t109)), .int .i64 x112001_3, .int .i64 0, .int .i64 0, .slice none 0 0, .bool false]) ?_ 2 _ rfl; (with_reducible repeat (first | refine blk_drewN ?_ _ | refine blk_drew ?_ | refine blk_alloc ?_ _)); refine blk_put (cs := #[.int .i64 (wrap64 (1 + t109)), .int .i64 0, .int .i64 0, .int .i64 0, .slice none 0 0, .bool false]) ?_ 1 _ rfl; (with_reducible repeat (first | refine blk_drewN ?_ _ | refine blk_drew ?_ | refine blk_alloc ?_ _)); refine blk_put (cs := #[.int .i64 0, .int .i64 0, .int .i64 0, .int .i64 0, .slice none 0 0, .bool false]) ?_ 0 _ rfl; (with_reducible repeat (first | refine blk_drewN ?_ _ | refine blk_drew ?_ | refine blk_alloc ?_ _)); exact BK108.out) Try.underlying39 rfl (by kernel_rfl)) rfl ?_
                exact ⟨_, by first | rfl | (simp [errW_none, errW_some] <;> rfl) | (simp [*, errW_none, errW_some] <;> rfl), by first | exact Kd.R_nil _ _ _ _ _ | exact Kd.N_nil _ _ _ _ _ | exact Kd.V_nil _ _ _ _ _ | exact Kd.Q_nil _ _ _ _ _ | exact Kd.S_nil _ _ _ _ _, by repeat (first | (with_reducible first | exact HI0.out | apply IsS125.alloc | apply IsS125.drewN | apply IsS125.drew | apply IsS125.set_1 | refine IsS125.far ?_ NB0_108.out _ | refine IsS125.far ?_ NB0_111.out _ | refine IsS125.far ?_ NB0_116.out _) | exact HI0.out), by repeat (first | (with_reducible first | exact HB.out | apply below_alloc | apply pw_below_drewN | apply below_drew1 | refine below_set ?_ (IsS125.ge HI0.out) | refine below_set ?_ GE108.out | refine below_set ?_ GE111.out | refine below_set ?_ GE116.out) | exact HB.out), by repeat (first | (with_reducible first | exact HK.out | apply KeepBut.set_ | apply keep_drewN | apply keep_drew | apply keep_alloc | refine keep_far ?_ GW108.out _ | refine keep_far ?_ GW111.out _ | refine keep_far ?_ GW116.out _) | exact HK.out)⟩

end Go.Proofs.Ytjmpaeckpbpclaa.PPlN
