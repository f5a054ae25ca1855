-- Out of the translation, by a program of this session.
import Derived.Test.YtifajoehlgdgaaaPOrderx0
namespace Go.Proofs.Ytifajoehlgdgaaa.POrder
open Go.RowKit Go.Proofs.YtifajoehlgdgaaaW.PrintWords Go.Proofs.YtifajoehlgdgaaaW.PrintLast Go.Proofs.YtifajoehlgdgaaaW.PrintMore
attribute [local go_sem] max2_int min2_int max_two min_two max_three min_three max_four min_four   -- for this text's walks alone
set_option linter.unusedVariables false
set_option linter.unusedSimpArgs false

/-! ### handoffref02_Same: function 18 -/
def handoffref02_Same.l0 : Nat → List Int → List Int → Int → Int → Option (Bool)
  | 0, _, _, _, _ => none
  | k + 1, x0, x1, x12, x13 => if x13 < x12 then (if 0 ≤ x13 then (if x13 < (x0.length : Int) then (if x13 < (x1.length : Int) then (if (rd x0 x13) = (rd x1 x13) then (handoffref02_Same.l0 k x0 x1 x12 (wrap64 (x13 + 1))) else (some false)) else (none)) else (none)) else (none)) else (some true)
def handoffref02_Same.f (k : Nat) (l0 : List Int) (l1 : List Int) : Option (Bool) := if (l0.length : Int) = (l1.length : Int) then (handoffref02_Same.l0 k l0 l1 (l0.length : Int) 0) else (some false)
theorem handoffref02_Same.mono_l : ∀ k, (∀ y0 y1 y2 y3, LeO (handoffref02_Same.l0 k y0 y1 y2 y3) (handoffref02_Same.l0 (k + 1) y0 y1 y2 y3))
  | 0 => fun _ _ _ _ r h => by simp [handoffref02_Same.l0] at h
  | k + 1 => by
    have ih0 := handoffref02_Same.mono_l k
    · intro y0 y1 y2 y3
      unfold handoffref02_Same.l0
      repeat' first
      | (with_reducible exact ih0 _ _ _ _)
      | (with_reducible exact LeO.refl _)
      | (with_reducible exact LeO.none _)
      | (with_reducible refine LeO.ite ?_ ?_)
      | (with_reducible refine LeO.bind ?_ (fun _ => ?_))
      | exact ih0 _ _ _ _
      | exact LeO.none _
      | refine LeO.ite ?_ ?_
      | refine LeO.bind ?_ (fun _ => ?_)
theorem handoffref02_Same.mono : ∀ a0 a1 k, LeO (handoffref02_Same.f k a0 a1) (handoffref02_Same.f (k + 1) a0 a1) := by
  intro a0 a1 k
  have ih0 := handoffref02_Same.mono_l k
  unfold handoffref02_Same.f
  repeat' first
      | (with_reducible exact ih0 _ _ _ _)
      | (with_reducible exact LeO.refl _)
      | (with_reducible exact LeO.none _)
      | (with_reducible refine LeO.ite ?_ ?_)
      | (with_reducible refine LeO.bind ?_ (fun _ => ?_))
      | exact ih0 _ _ _ _
      | exact LeO.none _
      | refine LeO.ite ?_ ?_
      | refine LeO.bind ?_ (fun _ => ?_)
set_option maxHeartbeats 8000000 in
set_option maxRecDepth 100000 in
theorem handoffref02_Same.calls (k : Nat) (A0 : Option Addr) (c0 : Nat) (l0 : List Int) (A1 : Option Addr) (c1 : Nat) (l1 : List Int) (r : Bool) (w : World) (hr0 : Kd.C (Kd.int .i64) w A0 l0.length l0) (hc0 : l0.length ≤ c0) (hr1 : Kd.C (Kd.int .i64) w A1 l1.length l1) (hc1 : l1.length ≤ c1) (h : handoffref02_Same.f k l0 l1 = some r) :
    Calls Try.prog 18 #[.slice A0 l0.length c0, .slice A1 l1.length c1] w fun e w' => e = .returned (.bool r) ∧ Drawn0 w w' := by
  have HR0 := Aside0.mk hr0
  have HC0 := Aside0.mk hc0
  clear hr0 hc0
  have HR1 := Aside0.mk hr1
  have HC1 := Aside0.mk hc1
  clear hr1 hc1
  have H : (if (l0.length : Int) = (l1.length : Int) then (handoffref02_Same.l0 k l0 l1 (l0.length : Int) 0) else (some false)) = some r := h
  clear h
  by_cases c3 : (l0.length : Int) = (l1.length : Int)
  · rw [if_pos c3] at H
    have c3b0 : ((l0.length : Int) == (l1.length : Int)) = true := beq_iff_eq.mpr c3
    have c3b1 : ((l0.length : Int) != (l1.length : Int)) = false := bne_eq_false_iff_eq.mpr c3
    have c3b2 : (l0.length == l1.length) = true := by first | simpa using c3 | (simp at c3 ⊢; omega)
    clear c3
    have H' := Aside0.mk H
    clear H
    go_enter Try.func18, Try.ntmps18
    go_wp2
    repeat (go_quiet (fail); try go_wp2)
    go_loopg [13] k (fun kq v13 w' => ∃ (x13_1 : Int), v13 = .int .i64 x13_1 ∧ Aside0 (handoffref02_Same.l0 kq l0 l1 (l0.length : Int) x13_1 = some r) ∧ Aside0 (kq ≤ k) ∧ Drawn0 w w')
    case atStart => exact ⟨(0), (by first | rfl | (simp; done) | (simp [*]; done)), H', ⟨Nat.le_refl _⟩, by repeat (first | exact Drawn0.refl _ | apply Drawn0.step)⟩
    case round =>
      clear H'
      try clear c1
      try clear p2
      try clear c3
      try clear c3b0
      try clear c3b1
      try clear c3b2
      obtain ⟨x13_1, rfl, HA, HK1, ⟨m1, rfl⟩⟩ := hrel
      cases gk with
      | zero => exact absurd HA.out (by simp [handoffref02_Same.l0])
      | succ k1 =>
        have H := HA.out
        clear HA
        simp only [handoffref02_Same.l0] at H
        by_cases c4 : x13_1 < (l0.length : Int)
        · rw [if_pos c4] at H
          have c4b0 : decide (x13_1 < (l0.length : Int)) = true := decide_eq_true c4
          clear c4
          by_cases c5 : 0 ≤ x13_1
          · rw [if_pos c5] at H
            have c5b0 : decide (0 ≤ x13_1) = true := decide_eq_true c5
            clear c5
            by_cases c6 : x13_1 < (l0.length : Int)
            · rw [if_pos c6] at H
              have c6b0 : decide (x13_1 < (l0.length : Int)) = true := decide_eq_true c6
              clear c6
              by_cases c7 : x13_1 < (l1.length : Int)
              · rw [if_pos c7] at H
                have c7b0 : decide (x13_1 < (l1.length : Int)) = true := decide_eq_true c7
                clear c7
                by_cases c8 : (rd l0 x13_1) = (rd l1 x13_1)
                · rw [if_pos c8] at H
                  have c8b0 : ((rd l0 x13_1) == (rd l1 x13_1)) = true := beq_iff_eq.mpr c8
                  have c8b1 : ((rd l0 x13_1) != (rd l1 x13_1)) = false := bne_eq_false_iff_eq.mpr c8
                  clear c8
                  have H' := Aside0.mk H
                  clear H
                  have p101 : 0 ≤ (x13_1 : Int) := of_decide_eq_true (by first | (with_reducible assumption) | assumption)
                  have q101 : x13_1 < (l0.length : Int) := of_decide_eq_true (by first | (with_reducible assumption) | assumption)
                  obtain ⟨ad101, e101, hx101_0⟩ := Kd.at_int HR0.out x13_1 p101 q101
                  cases e101
                  replace p101 := eq_true p101
                  replace q101 := eq_true q101
                  have p102 : 0 ≤ (x13_1 : Int) := of_decide_eq_true (by first | (with_reducible assumption) | assumption)
                  have q102 : x13_1 < (l1.length : Int) := of_decide_eq_true (by first | (with_reducible assumption) | assumption)
                  obtain ⟨ad102, e102, hx102_0⟩ := Kd.at_int HR1.out x13_1 p102 q102
                  cases e102
                  replace p102 := eq_true p102
                  replace q102 := eq_true q102
                  go_wp2
                  repeat (go_quiet (fail); try go_wp2)
                  go_roundg k1
                  case measure => have := HK1.out; omega
                  case rel => exact ⟨(wrap64 (x13_1 + 1)), (by first | rfl | (simp; done) | (simp [*]; done)), H', ⟨by have := HK1.out; omega⟩, by repeat (first | exact Drawn0.refl _ | apply Drawn0.step)⟩
                · rw [if_neg c8] at H
                  have c8b0 : ((rd l0 x13_1) == (rd l1 x13_1)) = false := beq_eq_false_iff_ne.mpr c8
                  have c8b1 : ((rd l0 x13_1) != (rd l1 x13_1)) = true := bne_iff_ne.mpr c8
                  obtain rfl := Option.some.inj H
                  have p101 : 0 ≤ (x13_1 : Int) := of_decide_eq_true (by first | (with_reducible assumption) | assumption)
                  have q101 : x13_1 < (l0.length : Int) := of_decide_eq_true (by first | (with_reducible assumption) | assumption)
                  obtain ⟨ad101, e101, hx101_0⟩ := Kd.at_int HR0.out x13_1 p101 q101
                  cases e101
                  replace p101 := eq_true p101
                  replace q101 := eq_true q101
                  have p102 : 0 ≤ (x13_1 : Int) := of_decide_eq_true (by first | (with_reducible assumption) | assumption)
                  have q102 : x13_1 < (l1.length : Int) := of_decide_eq_true (by first | (with_reducible assumption) | assumption)
                  obtain ⟨ad102, e102, hx102_0⟩ := Kd.at_int HR1.out x13_1 p102 q102
                  cases e102
                  replace p102 := eq_true p102
                  replace q102 := eq_true q102
                  go_wp2
                  repeat (go_quiet (fail); try go_wp2)
                  go_ret
                  exact ⟨by first | rfl | (simp; done) | (simp [*]; done), by repeat (first | exact Drawn0.refl _ | apply Drawn0.step)⟩
              · rw [if_neg c7] at H
                exact absurd H (by simp)
            · rw [if_neg c6] at H
              exact absurd H (by simp)
          · rw [if_neg c5] at H
            exact absurd H (by simp)
        · rw [if_neg c4] at H
          have c4b0 : decide (x13_1 < (l0.length : Int)) = false := decide_eq_false c4
          clear c4
          obtain rfl := Option.some.inj H
          go_wp2
          repeat (go_quiet (fail); try go_wp2)
          go_ret
          exact ⟨by first | rfl | (simp; done) | (simp [*]; done), by repeat (first | exact Drawn0.refl _ | apply Drawn0.step)⟩
  · rw [if_neg c3] at H
    have c3b0 : ((l0.length : Int) == (l1.length : Int)) = false := beq_eq_false_iff_ne.mpr c3
    have c3b1 : ((l0.length : Int) != (l1.length : Int)) = true := bne_iff_ne.mpr c3
    have c3b2 : (l0.length == l1.length) = false := by first | simpa using c3 | (simp at c3 ⊢; omega)
    obtain rfl := Option.some.inj H
    go_enter Try.func18, Try.ntmps18
    go_wp2
    repeat (go_quiet (fail); try go_wp2)
    go_ret
    exact ⟨by first | rfl | (simp; done) | (simp [*]; done), by repeat (first | exact Drawn0.refl _ | apply Drawn0.step)⟩

/-! ### slices_Clone_int_int: function 60 -/
def slices_Clone_int_int.f (l0 : List Int) : Option (List Int) := if l0.length < 17592186044416 then some l0 else none
set_option maxHeartbeats 1000000 in
theorem slices_Clone_int_int.calls (A0 : Option Addr) (c0 : Nat) (l0 : List Int) (r : List Int) (w : World) (hr0 : Kd.C (Kd.int .i64) w A0 l0.length l0) (hc0 : l0.length ≤ c0) (h : slices_Clone_int_int.f l0 = some r) :
    Calls Try.prog 60 #[.slice A0 l0.length c0] w fun e w' => ∃ v0_ : Value, e = .returned (v0_) ∧ Kd.R (Kd.int .i64) 3 w' w.heap.size (fun _ => True) v0_ r ∧ Below w.heap.size w w' := by
  unfold slices_Clone_int_int.f at h
  split at h
  case isFalse => cases h
  rename_i hlen
  have e := Option.some.inj h
  subst e
  clear h
  have HR := Aside0.mk hr0
  have HL := Aside0.mk hlen
  clear hr0 hlen
  cases A0 with
  | none =>
    have h0 : l0 = [] := by
      rcases Nat.eq_zero_or_pos l0.length with h | h
      · exact List.length_eq_zero_iff.1 h
      · obtain ⟨ad, he, _⟩ := HR.out.2.2 h
        cases he
    subst h0
    have hn := fun (w : World) => Lib.run_eql_slice_nil (P := Try.prog) w 25 3 none 0 c0 0 0 Try.underlying25
    go_enter Try.func60, Try.ntmps60
    go_wp2
    go_ret
    exact ⟨_, rfl, Kd.R_nil _ _ _ _ _, Below.refl _ _⟩
  | some ad =>
    have hn := fun (w : World) => Lib.run_eql_slice_nil (P := Try.prog) w 25 3 (some ad) l0.length c0 0 0 Try.underlying25
    go_enter Try.func60, Try.ntmps60
    go_wp2_with (first | ((with_reducible refine gate_dst (N := 5) rfl ?_); refine Kd.R_lit (Kd.int .i64) w.heap.size 3 ?hg (N := 5) ?hd (xs := ([] : List Int)) (inner := []) (ok := fun _ => True) (okp := fun _ => True) ?hr ?hp (fun _ hk => hk) trivial (Below.refl _ _) (Nat.le_refl _) (by simp) ?_; (case hd => rfl); (case hg => rfl); (case hr => first | (go_simp; done) | (go_simp; rfl)); (case hp => exact (Reps.none _ _)); intro v1 w1 ho hb hg_ hnew_; clear hg_ hnew_; have HO := Aside0.mk ho; have HB1 := Aside0.mk hb; clear ho hb) | ((with_reducible refine gate_builtin (b := .append) (xs := #[.tmp 5, .tmp 6]) rfl ?_); at_builtin; refine Kd.R_append_rows (Kd.int .i64) (w0 := w) w.heap.size rfl (.tmp 5) (.tmp 6) 25 3 (.int .i64 0) 8 rfl Try.underlying25 info3 rfl (by decide) (by omega) v1 [] l0 _ _ _ (fun _ => True) (fun _ => False) rfl rfl ?aO ?aR (fun _ _ h => h) (fun _ h => h.elim) ?aF ?aB ?aS ?aL ?_; (case aR => exact Kd.C_below HR.out HB1.out); (case aB => exact HB1.out); (case aF => exact (fun _ _ => trivial)); (case aO => exact HO.out); (case aS => exact below_size HB1.out); (case aL => have := HL.out; simp; omega); intro v2 w2 ho hb hg hat; have HO2 := Aside0.mk ho; have HB2 := Aside0.mk hb; clear ho hb hg hat))
    go_ret
    exact ⟨_, rfl, by simpa using HO2.out, HB2.out⟩

/-! ### order_sink: function 63 -/
/-- Which child. -/
def order_sink.ch (x : List Int) (a n : Int) : Int := if 2 * a + 1 + 1 < n ∧ rd x (2 * a + 1 + 1) > rd x (2 * a + 1) then 2 * a + 1 + 1 else 2 * a + 1
def order_sink.l0 : Nat → List Int → Int → Int → Option (List Int)
  | 0, _, _, _ => none
  | k + 1, x, a, n => if 0 ≤ a ∧ a < 17592186044416 ∧ n ≤ (x.length : Int) ∧ (x.length : Int) < 17592186044416 then (if n ≤ 2 * a + 1 then some x else (if rd x (order_sink.ch x a n) ≤ rd x a then some x else order_sink.l0 k ((x.set a.toNat (rd x (order_sink.ch x a n))).set (order_sink.ch x a n).toNat (rd x a)) (order_sink.ch x a n) n)) else none
def order_sink.f (k : Nat) (l0 : List Int) (a1 : Int) (a2 : Int) : Option (List Int) := order_sink.l0 k l0 a1 a2

theorem order_sink.mono_l : ∀ k, (∀ y0 y1 y2, LeO (order_sink.l0 k y0 y1 y2) (order_sink.l0 (k + 1) y0 y1 y2))
  | 0 => fun _ _ _ r h => by simp [order_sink.l0] at h
  | k + 1 => by
    have ih0 := order_sink.mono_l k
    intro y0 y1 y2
    unfold order_sink.l0
    refine LeO.ite (LeO.ite (LeO.refl _) (LeO.ite (LeO.refl _) (ih0 _ _ _))) (LeO.none _)
theorem order_sink.mono : ∀ a0 a1 a2 k, LeO (order_sink.f k a0 a1 a2) (order_sink.f (k + 1) a0 a1 a2) := fun a0 a1 a2 k => order_sink.mono_l k _ _ _

set_option maxHeartbeats 4000000 in
theorem order_sink.calls (k : Nat) (P0_ : Nat → Prop) (u9000_ : Value) (l0 : List Int) (a1 : Int) (a2 : Int) (r : List Int) (w0 w : World) (hB : Below w0.heap.size w0 w) (ho0 : Kd.R (Kd.int .i64) 3 w w0.heap.size P0_ u9000_ l0) (h : order_sink.f k l0 a1 a2 = some r) :
    Calls Try.prog 63 #[u9000_, .int .i64 a1, .int .i64 a2] w fun e w' => e = .returned (.tuple #[]) ∧ Kd.R (Kd.int .i64) 3 w' w0.heap.size (fun k_ => (P0_ k_ ∨ w.heap.size ≤ k_)) u9000_ r ∧ Below w0.heap.size w0 w' ∧ Kept w w' (fun k_ => P0_ k_) := by
  have HO0 := Aside0.mk (show Kd.R (Kd.int .i64) 3 w w0.heap.size P0_ u9000_ l0 from ho0)
  have HK := Aside0.mk (Kept.refl w (fun k_ => P0_ k_))
  have HB := Aside0.mk hB
  clear hB ho0
  have H' : Aside0 (order_sink.l0 k l0 a1 a2 = some r) := ⟨h⟩
  clear h
  go_enter Try.func63, Try.ntmps63
  go_wp2
  go_loopg [1] k (fun kq v1 w' => ∃ (x : List Int) (a : Int), v1 = .int .i64 a ∧ Aside0 (order_sink.l0 kq x a a2 = some r) ∧ Aside0 (kq ≤ k) ∧ Aside0 (Kd.R (Kd.int .i64) 3 w' w0.heap.size P0_ u9000_ x) ∧ Aside0 (Kept w w' (fun k_ => P0_ k_)) ∧ Aside0 (Below w0.heap.size w0 w'))
  case atStart => exact ⟨l0, a1, rfl, H', ⟨Nat.le_refl _⟩, HO0, HK, HB⟩
  case round =>
    clear H' HO0 HK HB
    obtain ⟨x, a, rfl, HA, HK1, HO, HK, HB⟩ := hrel
    cases gk with
    | zero => exact absurd HA.out (by simp [order_sink.l0])
    | succ k1 =>
      have H := HA.out
      clear HA
      simp only [order_sink.l0] at H
      split at H
      case isFalse => cases H
      rename_i hb
      obtain ⟨a0, a40, nx, x40⟩ := hb
      by_cases c : a2 ≤ 2 * a + 1
      · rw [if_pos c] at H
        obtain rfl := Option.some.inj H
        clear H
        have cb : decide (a2 ≤ 2 * a + 1) = true := decide_eq_true c
        clear c
        go_wp2
        first | go_end0 | ((try simp only [Exit.inBlock, Exit.then]); refine bodyPost_ret (results_none rfl _ _ _) rfl ?_)
        exact ⟨rfl, Kd.R_mono HO.out (fun _ hk => .inl hk), HB.out, HK.out⟩
      · rw [if_neg c] at H
        have hx0 : 0 < x.length := by omega
        obtain ⟨g, cap, hu, hg1, hg2, cells, hg3⟩ := Kd.R_form HO.out hx0
        subst hu
        have hP : P0_ g := HO.out.1 g (by simp [Value.ownBlock])
        have b0 : decide (a2 ≤ 2 * a + 1) = false := decide_eq_false c
        by_cases c2 : 2 * a + 1 + 1 < a2
        · have b2 : decide (2 * a + 1 + 1 < a2) = true := decide_eq_true c2
          by_cases c3 : rd x (2 * a + 1 + 1) > rd x (2 * a + 1)
          · have hch : order_sink.ch x a a2 = 2 * a + 1 + 1 := by unfold order_sink.ch; rw [if_pos ⟨c2, c3⟩]
            rw [hch] at H
            have b4 : decide (rd x (2 * a + 1) < rd x (2 * a + 1 + 1)) = true := decide_eq_true c3
            clear c3
            have pc0 : 0 ≤ 2 * a + 1 := by omega
            have qc0 : 2 * a + 1 < (x.length : Int) := by omega
            have pc1 : 0 ≤ 2 * a + 1 + 1 := by omega
            have qc1 : 2 * a + 1 + 1 < (x.length : Int) := by omega
            have qa : a < (x.length : Int) := by omega
            obtain ⟨e0, f0⟩ := Kd.R_celln 0 HO.out (a) a0 qa
            replace e0 : wr.cell? ⟨g, (a).toNat, none⟩ = some (.int .i64 (rd x (a))) := e0
            obtain ⟨e1, f1⟩ := Kd.R_celln 0 HO.out (2 * a + 1) pc0 qc0
            replace e1 : wr.cell? ⟨g, (2 * a + 1).toNat, none⟩ = some (.int .i64 (rd x (2 * a + 1))) := e1
            obtain ⟨e2, f2⟩ := Kd.R_celln 0 HO.out (2 * a + 1 + 1) pc1 qc1
            replace e2 : wr.cell? ⟨g, (2 * a + 1 + 1).toNat, none⟩ = some (.int .i64 (rd x (2 * a + 1 + 1))) := e2
            clear c hch
            by_cases cs : rd x (2 * a + 1 + 1) ≤ rd x a
            · rw [if_pos cs] at H
              obtain rfl := Option.some.inj H
              clear H
              have b3 : decide (rd x (2 * a + 1 + 1) ≤ rd x a) = true := decide_eq_true cs
              clear cs
              go_wp2
              go_quiet (fail)
              have HO4 := Aside0.mk (Kd.R_drewN HO.out nq)
              have HK4 := Aside0.mk (Kept.drewN HK.out nq)
              have HB4 := Aside0.mk (pw_below_drewN HB.out nq)
              clear HO HK HB
              clear e0 f0 e1 f1 e2 f2
              generalize wr.drewN nq = w4 at *
              clear nq
              obtain ⟨e0, f0⟩ := Kd.R_celln 0 HO4.out (a) a0 qa
              replace e0 : w4.cell? ⟨g, (a).toNat, none⟩ = some (.int .i64 (rd x (a))) := e0
              obtain ⟨e1, f1⟩ := Kd.R_celln 0 HO4.out (2 * a + 1 + 1) pc1 qc1
              replace e1 : w4.cell? ⟨g, (2 * a + 1 + 1).toNat, none⟩ = some (.int .i64 (rd x (2 * a + 1 + 1))) := e1
              go_wp2
              go_quiet (fail)
              go_wp2
              first | go_end0 | ((try simp only [Exit.inBlock, Exit.then]); refine bodyPost_ret (results_none rfl _ _ _) rfl ?_)
              exact ⟨rfl, Kd.R_drewN (Kd.R_mono HO4.out (fun _ hk => .inl hk)) _, pw_below_drewN HB4.out _, Kept.drewN HK4.out _⟩
            · rw [if_neg cs] at H
              have HH := Aside0.mk H
              clear H
              have b3 : decide (rd x (2 * a + 1 + 1) ≤ rd x a) = false := decide_eq_false cs
              clear cs
              go_wp2
              go_quiet (fail)
              have HO4 := Aside0.mk (Kd.R_drewN HO.out nq)
              have HK4 := Aside0.mk (Kept.drewN HK.out nq)
              have HB4 := Aside0.mk (pw_below_drewN HB.out nq)
              clear HO HK HB
              clear e0 f0 e1 f1 e2 f2
              generalize wr.drewN nq = w4 at *
              clear nq
              obtain ⟨e0, f0⟩ := Kd.R_celln 0 HO4.out (a) a0 qa
              replace e0 : w4.cell? ⟨g, (a).toNat, none⟩ = some (.int .i64 (rd x (a))) := e0
              obtain ⟨e1, f1⟩ := Kd.R_celln 0 HO4.out (2 * a + 1 + 1) pc1 qc1
              replace e1 : w4.cell? ⟨g, (2 * a + 1 + 1).toNat, none⟩ = some (.int .i64 (rd x (2 * a + 1 + 1))) := e1
              go_wp2
              go_quiet (fail)
              have HO := Aside0.mk (Kd.R_drewN HO4.out nq)
              have HK := Aside0.mk (Kept.drewN HK4.out nq)
              have HB := Aside0.mk (pw_below_drewN HB4.out nq)
              clear e0 f0 e1 f1 HO4 HK4 HB4
              generalize w4.drewN nq = w5 at *
              clear nq
              obtain ⟨e0, f0⟩ := Kd.R_celln 0 HO.out (a) a0 qa
              replace e0 : w5.cell? ⟨g, (a).toNat, none⟩ = some (.int .i64 (rd x (a))) := e0
              obtain ⟨e1, f1⟩ := Kd.R_celln 0 HO.out (2 * a + 1 + 1) pc1 qc1
              replace e1 : w5.cell? ⟨g, (2 * a + 1 + 1).toNat, none⟩ = some (.int .i64 (rd x (2 * a + 1 + 1))) := e1
              obtain ⟨vy, hvy⟩ := cell?_setCell_some (w := w5.drew) (p := ⟨g, a.toNat, none⟩) (x := .int .i64 (rd x (2 * a + 1 + 1))) (q := ⟨g, (2 * a + 1 + 1).toNat, none⟩) (v := .int .i64 (rd x (2 * a + 1 + 1))) (by go_simp)
              go_wp2
              go_region
              go_wp2
              go_roundg k1
              case measure => have := HK1.out; omega
              case rel => exact ⟨_, _, rfl, HH, ⟨by have := HK1.out; omega⟩, ⟨Kd.R_putn (Kd.R_putn (Kd.R_drew HO.out) a (rd x (2 * a + 1 + 1))) (2 * a + 1 + 1) (rd x a)⟩, ⟨Kept.setCell (Kept.setCell (Kept.drew HK.out) (.inl hP) _) (.inl hP) _⟩, ⟨below_set (below_set (below_drew1 HB.out) hg1) hg1⟩⟩
          · have hch : order_sink.ch x a a2 = 2 * a + 1 := by unfold order_sink.ch; rw [if_neg (fun h => c3 h.2)]
            rw [hch] at H
            have b4 : decide (rd x (2 * a + 1) < rd x (2 * a + 1 + 1)) = false := decide_eq_false c3
            clear c3
            have pc0 : 0 ≤ 2 * a + 1 := by omega
            have qc0 : 2 * a + 1 < (x.length : Int) := by omega
            have pc1 : 0 ≤ 2 * a + 1 + 1 := by omega
            have qc1 : 2 * a + 1 + 1 < (x.length : Int) := by omega
            have qa : a < (x.length : Int) := by omega
            obtain ⟨e0, f0⟩ := Kd.R_celln 0 HO.out (a) a0 qa
            replace e0 : wr.cell? ⟨g, (a).toNat, none⟩ = some (.int .i64 (rd x (a))) := e0
            obtain ⟨e1, f1⟩ := Kd.R_celln 0 HO.out (2 * a + 1) pc0 qc0
            replace e1 : wr.cell? ⟨g, (2 * a + 1).toNat, none⟩ = some (.int .i64 (rd x (2 * a + 1))) := e1
            obtain ⟨e2, f2⟩ := Kd.R_celln 0 HO.out (2 * a + 1 + 1) pc1 qc1
            replace e2 : wr.cell? ⟨g, (2 * a + 1 + 1).toNat, none⟩ = some (.int .i64 (rd x (2 * a + 1 + 1))) := e2
            clear c hch
            by_cases cs : rd x (2 * a + 1) ≤ rd x a
            · rw [if_pos cs] at H
              obtain rfl := Option.some.inj H
              clear H
              have b3 : decide (rd x (2 * a + 1) ≤ rd x a) = true := decide_eq_true cs
              clear cs
              go_wp2
              go_quiet (fail)
              have HO4 := Aside0.mk (Kd.R_drewN HO.out nq)
              have HK4 := Aside0.mk (Kept.drewN HK.out nq)
              have HB4 := Aside0.mk (pw_below_drewN HB.out nq)
              clear HO HK HB
              clear e0 f0 e1 f1 e2 f2
              generalize wr.drewN nq = w4 at *
              clear nq
              obtain ⟨e0, f0⟩ := Kd.R_celln 0 HO4.out (a) a0 qa
              replace e0 : w4.cell? ⟨g, (a).toNat, none⟩ = some (.int .i64 (rd x (a))) := e0
              obtain ⟨e1, f1⟩ := Kd.R_celln 0 HO4.out (2 * a + 1) pc0 qc0
              replace e1 : w4.cell? ⟨g, (2 * a + 1).toNat, none⟩ = some (.int .i64 (rd x (2 * a + 1))) := e1
              go_wp2
              go_quiet (fail)
              go_wp2
              first | go_end0 | ((try simp only [Exit.inBlock, Exit.then]); refine bodyPost_ret (results_none rfl _ _ _) rfl ?_)
              exact ⟨rfl, Kd.R_drewN (Kd.R_mono HO4.out (fun _ hk => .inl hk)) _, pw_below_drewN HB4.out _, Kept.drewN HK4.out _⟩
            · rw [if_neg cs] at H
              have HH := Aside0.mk H
              clear H
              have b3 : decide (rd x (2 * a + 1) ≤ rd x a) = false := decide_eq_false cs
              clear cs
              go_wp2
              go_quiet (fail)
              have HO4 := Aside0.mk (Kd.R_drewN HO.out nq)
              have HK4 := Aside0.mk (Kept.drewN HK.out nq)
              have HB4 := Aside0.mk (pw_below_drewN HB.out nq)
              clear HO HK HB
              clear e0 f0 e1 f1 e2 f2
              generalize wr.drewN nq = w4 at *
              clear nq
              obtain ⟨e0, f0⟩ := Kd.R_celln 0 HO4.out (a) a0 qa
              replace e0 : w4.cell? ⟨g, (a).toNat, none⟩ = some (.int .i64 (rd x (a))) := e0
              obtain ⟨e1, f1⟩ := Kd.R_celln 0 HO4.out (2 * a + 1) pc0 qc0
              replace e1 : w4.cell? ⟨g, (2 * a + 1).toNat, none⟩ = some (.int .i64 (rd x (2 * a + 1))) := e1
              go_wp2
              go_quiet (fail)
              have HO := Aside0.mk (Kd.R_drewN HO4.out nq)
              have HK := Aside0.mk (Kept.drewN HK4.out nq)
              have HB := Aside0.mk (pw_below_drewN HB4.out nq)
              clear e0 f0 e1 f1 HO4 HK4 HB4
              generalize w4.drewN nq = w5 at *
              clear nq
              obtain ⟨e0, f0⟩ := Kd.R_celln 0 HO.out (a) a0 qa
              replace e0 : w5.cell? ⟨g, (a).toNat, none⟩ = some (.int .i64 (rd x (a))) := e0
              obtain ⟨e1, f1⟩ := Kd.R_celln 0 HO.out (2 * a + 1) pc0 qc0
              replace e1 : w5.cell? ⟨g, (2 * a + 1).toNat, none⟩ = some (.int .i64 (rd x (2 * a + 1))) := e1
              obtain ⟨vy, hvy⟩ := cell?_setCell_some (w := w5.drew) (p := ⟨g, a.toNat, none⟩) (x := .int .i64 (rd x (2 * a + 1))) (q := ⟨g, (2 * a + 1).toNat, none⟩) (v := .int .i64 (rd x (2 * a + 1))) (by go_simp)
              go_wp2
              go_region
              go_wp2
              go_roundg k1
              case measure => have := HK1.out; omega
              case rel => exact ⟨_, _, rfl, HH, ⟨by have := HK1.out; omega⟩, ⟨Kd.R_putn (Kd.R_putn (Kd.R_drew HO.out) a (rd x (2 * a + 1))) (2 * a + 1) (rd x a)⟩, ⟨Kept.setCell (Kept.setCell (Kept.drew HK.out) (.inl hP) _) (.inl hP) _⟩, ⟨below_set (below_set (below_drew1 HB.out) hg1) hg1⟩⟩
        · have hch : order_sink.ch x a a2 = 2 * a + 1 := by unfold order_sink.ch; rw [if_neg (fun h => c2 h.1)]
          rw [hch] at H
          have b2 : decide (2 * a + 1 + 1 < a2) = false := decide_eq_false c2
          have pc0 : 0 ≤ 2 * a + 1 := by omega
          have qc0 : 2 * a + 1 < (x.length : Int) := by omega
          have qa : a < (x.length : Int) := by omega
          obtain ⟨e0, f0⟩ := Kd.R_celln 0 HO.out (a) a0 qa
          replace e0 : wr.cell? ⟨g, (a).toNat, none⟩ = some (.int .i64 (rd x (a))) := e0
          obtain ⟨e1, f1⟩ := Kd.R_celln 0 HO.out (2 * a + 1) pc0 qc0
          replace e1 : wr.cell? ⟨g, (2 * a + 1).toNat, none⟩ = some (.int .i64 (rd x (2 * a + 1))) := e1
          clear c hch
          by_cases cs : rd x (2 * a + 1) ≤ rd x a
          · rw [if_pos cs] at H
            obtain rfl := Option.some.inj H
            clear H
            have b3 : decide (rd x (2 * a + 1) ≤ rd x a) = true := decide_eq_true cs
            clear cs
            go_wp2
            go_quiet (fail)
            have HO4 := Aside0.mk (Kd.R_drewN HO.out nq)
            have HK4 := Aside0.mk (Kept.drewN HK.out nq)
            have HB4 := Aside0.mk (pw_below_drewN HB.out nq)
            clear HO HK HB
            clear e0 f0 e1 f1
            generalize wr.drewN nq = w4 at *
            clear nq
            obtain ⟨e0, f0⟩ := Kd.R_celln 0 HO4.out (a) a0 qa
            replace e0 : w4.cell? ⟨g, (a).toNat, none⟩ = some (.int .i64 (rd x (a))) := e0
            obtain ⟨e1, f1⟩ := Kd.R_celln 0 HO4.out (2 * a + 1) pc0 qc0
            replace e1 : w4.cell? ⟨g, (2 * a + 1).toNat, none⟩ = some (.int .i64 (rd x (2 * a + 1))) := e1
            go_wp2
            go_quiet (fail)
            go_wp2
            first | go_end0 | ((try simp only [Exit.inBlock, Exit.then]); refine bodyPost_ret (results_none rfl _ _ _) rfl ?_)
            exact ⟨rfl, Kd.R_drewN (Kd.R_mono HO4.out (fun _ hk => .inl hk)) _, pw_below_drewN HB4.out _, Kept.drewN HK4.out _⟩
          · rw [if_neg cs] at H
            have HH := Aside0.mk H
            clear H
            have b3 : decide (rd x (2 * a + 1) ≤ rd x a) = false := decide_eq_false cs
            clear cs
            go_wp2
            go_quiet (fail)
            have HO4 := Aside0.mk (Kd.R_drewN HO.out nq)
            have HK4 := Aside0.mk (Kept.drewN HK.out nq)
            have HB4 := Aside0.mk (pw_below_drewN HB.out nq)
            clear HO HK HB
            clear e0 f0 e1 f1
            generalize wr.drewN nq = w4 at *
            clear nq
            obtain ⟨e0, f0⟩ := Kd.R_celln 0 HO4.out (a) a0 qa
            replace e0 : w4.cell? ⟨g, (a).toNat, none⟩ = some (.int .i64 (rd x (a))) := e0
            obtain ⟨e1, f1⟩ := Kd.R_celln 0 HO4.out (2 * a + 1) pc0 qc0
            replace e1 : w4.cell? ⟨g, (2 * a + 1).toNat, none⟩ = some (.int .i64 (rd x (2 * a + 1))) := e1
            go_wp2
            go_quiet (fail)
            have HO := Aside0.mk (Kd.R_drewN HO4.out nq)
            have HK := Aside0.mk (Kept.drewN HK4.out nq)
            have HB := Aside0.mk (pw_below_drewN HB4.out nq)
            clear e0 f0 e1 f1 HO4 HK4 HB4
            generalize w4.drewN nq = w5 at *
            clear nq
            obtain ⟨e0, f0⟩ := Kd.R_celln 0 HO.out (a) a0 qa
            replace e0 : w5.cell? ⟨g, (a).toNat, none⟩ = some (.int .i64 (rd x (a))) := e0
            obtain ⟨e1, f1⟩ := Kd.R_celln 0 HO.out (2 * a + 1) pc0 qc0
            replace e1 : w5.cell? ⟨g, (2 * a + 1).toNat, none⟩ = some (.int .i64 (rd x (2 * a + 1))) := e1
            obtain ⟨vy, hvy⟩ := cell?_setCell_some (w := w5.drew) (p := ⟨g, a.toNat, none⟩) (x := .int .i64 (rd x (2 * a + 1))) (q := ⟨g, (2 * a + 1).toNat, none⟩) (v := .int .i64 (rd x (2 * a + 1))) (by go_simp)
            go_wp2
            go_region
            go_wp2
            go_roundg k1
            case measure => have := HK1.out; omega
            case rel => exact ⟨_, _, rfl, HH, ⟨by have := HK1.out; omega⟩, ⟨Kd.R_putn (Kd.R_putn (Kd.R_drew HO.out) a (rd x (2 * a + 1))) (2 * a + 1) (rd x a)⟩, ⟨Kept.setCell (Kept.setCell (Kept.drew HK.out) (.inl hP) _) (.inl hP) _⟩, ⟨below_set (below_set (below_drew1 HB.out) hg1) hg1⟩⟩

/-! ### order_Sort: function 32 -/
mutual
def order_Sort.l0 : Nat → List Int → Int → Option (List Int)
  | 0, _, _ => none
  | k + 1, x3, x4 => if x4 ≥ 0 then ((order_sink.f k x3 x4 (x3.length : Int)).bind fun t106 => (order_Sort.l0 k t106 (wrap64 (x4 - 1)))) else (order_Sort.l1 k x3 (wrap64 ((x3.length : Int) - 1)))
def order_Sort.l1 : Nat → List Int → Int → Option (List Int)
  | 0, _, _ => none
  | k + 1, x3, x5 => if x5 > 0 then (if 0 ≤ x5 then (if x5 < (x3.length : Int) then (if 0 < (x3.length : Int) then ((order_sink.f k ((x3.set (0 : Int).toNat (rd x3 x5)).set (x5 : Int).toNat (rd x3 0)) 0 x5).bind fun t111 => (order_Sort.l1 k t111 (wrap64 (x5 - 1)))) else (none)) else (none)) else (none)) else (some x3)
end
def order_Sort.f (k : Nat) (l0 : List Int) : Option (List Int) := (slices_Clone_int_int.f l0).bind fun t103 => (order_Sort.l0 k t103 (wrap64 ((wrap64 ((t103.length : Int) / 2)) - 1)))
theorem order_Sort.mono_l : ∀ k, (∀ y0 y1, LeO (order_Sort.l0 k y0 y1) (order_Sort.l0 (k + 1) y0 y1)) ∧ (∀ y0 y1, LeO (order_Sort.l1 k y0 y1) (order_Sort.l1 (k + 1) y0 y1))
  | 0 => ⟨fun _ _ r h => by simp [order_Sort.l0] at h, fun _ _ r h => by simp [order_Sort.l1] at h⟩
  | k + 1 => by
    obtain ⟨ih0, ih1⟩ := order_Sort.mono_l k
    refine ⟨?_, ?_⟩
    · intro y0 y1
      unfold order_Sort.l0
      repeat' first
      | (with_reducible exact ih0 _ _)
      | (with_reducible exact ih1 _ _)
      | (with_reducible exact order_sink.mono _ _ _ _)
      | (with_reducible exact LeO.refl _)
      | (with_reducible exact LeO.none _)
      | (with_reducible refine LeO.ite ?_ ?_)
      | (with_reducible refine LeO.bind ?_ (fun _ => ?_))
      | exact ih0 _ _
      | exact ih1 _ _
      | exact order_sink.mono _ _ _ _
      | exact LeO.none _
      | refine LeO.ite ?_ ?_
      | refine LeO.bind ?_ (fun _ => ?_)
    · intro y0 y1
      unfold order_Sort.l1
      repeat' first
      | (with_reducible exact ih0 _ _)
      | (with_reducible exact ih1 _ _)
      | (with_reducible exact order_sink.mono _ _ _ _)
      | (with_reducible exact LeO.refl _)
      | (with_reducible exact LeO.none _)
      | (with_reducible refine LeO.ite ?_ ?_)
      | (with_reducible refine LeO.bind ?_ (fun _ => ?_))
      | exact ih0 _ _
      | exact ih1 _ _
      | exact order_sink.mono _ _ _ _
      | exact LeO.none _
      | refine LeO.ite ?_ ?_
      | refine LeO.bind ?_ (fun _ => ?_)
theorem order_Sort.mono : ∀ a0 k, LeO (order_Sort.f k a0) (order_Sort.f (k + 1) a0) := by
  intro a0 k
  obtain ⟨ih0, ih1⟩ := order_Sort.mono_l k
  unfold order_Sort.f
  repeat' first
      | (with_reducible exact ih0 _ _)
      | (with_reducible exact ih1 _ _)
      | (with_reducible exact order_sink.mono _ _ _ _)
      | (with_reducible exact LeO.refl _)
      | (with_reducible exact LeO.none _)
      | (with_reducible refine LeO.ite ?_ ?_)
      | (with_reducible refine LeO.bind ?_ (fun _ => ?_))
      | exact ih0 _ _
      | exact ih1 _ _
      | exact order_sink.mono _ _ _ _
      | exact LeO.none _
      | refine LeO.ite ?_ ?_
      | refine LeO.bind ?_ (fun _ => ?_)
def order_Sort.T9 : Bool × List (List Nat × List Nat) := (true, [([], []), ([], []), ([], []), ([], []), ([], []), ([3, 4], [3, 4]), ([5], [5]), ([], []), ([7], [7]), ([8], [8]), ([0, 0, 3, 4, 5, 6, 9], [0]), ([10, 6, 0, 3, 4, 5, 6, 9], [6, 10]), ([1, 2, 0, 1, 2, 3, 4, 5, 6, 7, 8, 9, 10, 11], [1, 2]), ([12, 9, 11, 0, 1, 2, 3, 4, 5, 6, 7, 8, 9, 10, 11], [9, 12])])
def order_Sort.B9 : List Nat := [0, 0, 0, 0, 0, 24, 56, 0, 128, 384, 1017, 2041, 4095, 8191]
theorem order_Sort.tab9 : rtab .any (opsOf Try.f32 9) = order_Sort.T9 := by kernel_rfl
theorem order_Sort.bits9 : waitsOk order_Sort.T9.2 order_Sort.B9 = true := by kernel_rfl
set_option maxHeartbeats 8000000 in
set_option maxRecDepth 100000 in
theorem order_Sort.calls (k : Nat) (A0 : Option Addr) (c0 : Nat) (l0 : List Int) (r : List Int) (w : World) (hr0 : Kd.C (Kd.int .i64) w A0 l0.length l0) (hc0 : l0.length ≤ c0) (h : order_Sort.f k l0 = some r) :
    Calls Try.prog 32 #[.slice A0 l0.length c0] w fun e w' => ∃ v0_ : Value, e = .returned (v0_) ∧ Kd.R (Kd.int .i64) 3 w' w.heap.size (fun _ => True) v0_ r ∧ Below w.heap.size w w' := by
  have HR0 := Aside0.mk hr0
  have HC0 := Aside0.mk hc0
  clear hr0 hc0
  have HB := Aside0.mk (Below.refl w.heap.size w)
  have H : ((slices_Clone_int_int.f l0).bind fun t103 => (order_Sort.l0 k t103 (wrap64 ((wrap64 ((t103.length : Int) / 2)) - 1)))) = some r := h
  clear h
  replace H := Option.bind_eq_some_iff.mp H
  obtain ⟨t103, A20, H⟩ := H
  replace H : (order_Sort.l0 k t103 (wrap64 ((wrap64 ((t103.length : Int) / 2)) - 1))) = some r := H
  have A2 := Aside0.mk A20
  clear A20
  have H' := Aside0.mk H
  clear H
  go_enter Try.func32, Try.ntmps32
  go_wp2_with (first | ((with_reducible refine gate_callee (f := 60) rfl ?_); refine goesL_ (some 7) rfl rfl Try.func60 (by kernel_rfl) rfl #[.slice A0 l0.length c0] rfl (by (try simp only [List.map_toArray, List.map_cons, List.map_nil]); first | done | rfl | (simp only [List.length_drop, List.length_take]; rfl)) ?_; (with_reducible refine (slices_Clone_int_int.calls _ _ l0 t103 _ ?side1 ?side2 A2.out).mono ?_); (case side1 => repeat (first | exact HR0.out | (with_reducible refine Kd.C_alloc ?_ _) | (with_reducible refine Kd.C_drewN ?_ _) | (with_reducible refine Kd.C_drew ?_))); (case side2 => exact HC0.out); rintro e w3 ⟨v104, rfl, ho0, hb⟩; refine ⟨_, rfl, ?_⟩; have n0_ := Aside0.mk (Kd.R_lower ho0 (below_size (by repeat (first | (with_reducible first | exact HB.out | apply below_alloc | apply pw_below_drewN | apply below_drew1) | exact HB.out)))); have n1_ := Aside0.mk (below_step (by repeat (first | (with_reducible first | exact HB.out | apply below_alloc | apply pw_below_drewN | apply below_drew1) | exact HB.out)) hb); clear HB; have HO105 := n0_; have HB := n1_; clear n0_ n1_; (try clear hb); (try clear hb2); (try clear hk); (try clear hi); (try clear ho0); obtain ⟨Ao4, co4, eo4⟩ := Kd.R_slice HO105.out; subst eo4))
  go_loopg [4] k (fun kq v4 w' => ∃ (x3_1 : List Int) (x4_1 : Int), v4 = .int .i64 x4_1 ∧ Aside0 (order_Sort.l0 kq x3_1 x4_1 = some r) ∧ Aside0 (kq ≤ k) ∧ Aside0 (Kd.R (Kd.int .i64) 3 w' w.heap.size (fun _ => True) (.slice Ao4 t103.length co4) x3_1) ∧ Aside0 (Below w.heap.size w w'))
  case atStart => exact ⟨(t103), (wrap64 ((wrap64 ((t103.length : Int) / 2)) - 1)), (by first | rfl | (simp; done) | (simp [*]; done)), H', ⟨Nat.le_refl _⟩, ⟨by (with_reducible repeat (first | apply Kd.R_alloc | apply Kd.R_drewN | apply Kd.R_drew)); exact HO105.out⟩, ⟨by repeat (first | (with_reducible first | exact HB.out | apply below_alloc | apply pw_below_drewN | apply below_drew1) | exact HB.out)⟩⟩
  case round =>
    clear H'
    try clear p2
    try clear c3
    obtain ⟨x3_1, x4_1, rfl, HA, HK1, HO_3, HB⟩ := hrel
    have hl3_1 := (Kd.R_reads' HO_3.out).1
    rw [hl3_1] at HO_3
    (try simp only [hl3_1])
    cases gk with
    | zero => exact absurd HA.out (by simp [order_Sort.l0])
    | succ k1 =>
      have H := HA.out
      clear HA
      simp only [order_Sort.l0] at H
      by_cases c5 : x4_1 ≥ 0
      · rw [if_pos c5] at H
        have c5b0 : decide (0 ≤ x4_1) = true := decide_eq_true c5
        clear c5
        replace H := Option.bind_eq_some_iff.mp H
        obtain ⟨t106, A60, H⟩ := H
        replace H : (order_Sort.l0 k1 t106 (wrap64 (x4_1 - 1))) = some r := H
        have A6 := Aside0.mk A60
        clear A60
        have H' := Aside0.mk H
        clear H
        go_wp2_with (first | ((with_reducible refine gate_callee (f := 63) rfl ?_); refine goesL_ (some 20) rfl rfl Try.func63 (by kernel_rfl) rfl #[.slice Ao4 x3_1.length co4, .int .i64 x4_1, .int .i64 (x3_1.length : Int)] rfl (by (try simp only [List.map_toArray, List.map_cons, List.map_nil]); first | done | rfl | (simp only [List.length_drop, List.length_take]; rfl)) ?_; (with_reducible refine (order_sink.calls k1 (fun k_ => some k_ = (.slice Ao4 x3_1.length co4 : Value).ownBlock) (.slice Ao4 x3_1.length co4) x3_1 x4_1 (x3_1.length : Int) t106 w _ ?side1 ?side2 A6.out).mono ?_); (case side1 => repeat (first | (with_reducible first | exact HB.out | apply below_alloc | apply pw_below_drewN | apply below_drew1) | exact HB.out)); (case side2 => exact Kd.R_tight rfl HO_3.out); rintro e w7 ⟨rfl, hy0, hb, hkp⟩; refine ⟨_, rfl, ?_⟩; have n0_ := Aside0.mk (Kd.R_reok rfl hy0 (fun k_ e_ => HO_3.out.1 k_ e_)); have n1_ := Aside0.mk (hb); clear HO_3; clear HB; have HO_3 := n0_; have HB := n1_; clear n0_ n1_; (try clear hb); (try clear hkp); (try clear hy0)))
        (try simp only [← hl3_1])
        go_roundg k1
        case measure => have := HK1.out; omega
        case rel => exact ⟨(t106), (wrap64 (x4_1 - 1)), (by first | rfl | (simp; done) | (simp [*]; done)), H', ⟨by have := HK1.out; omega⟩, ⟨by (try simp only [hl3_1]); (with_reducible repeat (first | apply Kd.R_alloc | apply Kd.R_drewN | apply Kd.R_drew)); exact HO_3.out⟩, ⟨by repeat (first | (with_reducible first | exact HB.out | apply below_alloc | apply pw_below_drewN | apply below_drew1) | exact HB.out)⟩⟩
      · rw [if_neg c5] at H
        have c5b0 : decide (0 ≤ x4_1) = false := decide_eq_false c5
        clear c5
        have H' := Aside0.mk H
        clear H
        go_wp2
        go_loopg [5] k1 (fun kq v5 w' => ∃ (x3_2 : List Int) (x5_2 : Int), v5 = .int .i64 x5_2 ∧ Aside0 (order_Sort.l1 kq x3_2 x5_2 = some r) ∧ Aside0 (kq ≤ k1) ∧ Aside0 (Kd.R (Kd.int .i64) 3 w' w.heap.size (fun _ => True) (.slice Ao4 x3_1.length co4) x3_2) ∧ Aside0 (Below w.heap.size w w'))
        case atStart => exact ⟨(x3_1), (wrap64 ((x3_1.length : Int) - 1)), (by first | rfl | (simp; done) | (simp [*]; done)), H', ⟨Nat.le_refl _⟩, ⟨by (try simp only [hl3_1]); (with_reducible repeat (first | apply Kd.R_alloc | apply Kd.R_drewN | apply Kd.R_drew)); exact HO_3.out⟩, ⟨by repeat (first | (with_reducible first | exact HB.out | apply below_alloc | apply pw_below_drewN | apply below_drew1) | exact HB.out)⟩⟩
        case round =>
          clear H'
          try clear p2
          try clear c3
          try clear c5
          try clear c5b0
          try clear c6
          try clear p6
          try clear p2
          obtain ⟨x3_2, x5_2, rfl, HA, HK2, HO_3, HB⟩ := hrel
          have hl3_2 := (Kd.R_reads' HO_3.out).1
          rw [hl3_2] at HO_3
          (try simp only [hl3_2])
          cases gk with
          | zero => exact absurd HA.out (by simp [order_Sort.l1])
          | succ k2 =>
            have H := HA.out
            clear HA
            simp only [order_Sort.l1] at H
            by_cases c8 : x5_2 > 0
            · rw [if_pos c8] at H
              have c8b0 : decide (0 < x5_2) = true := decide_eq_true c8
              clear c8
              by_cases c9 : 0 ≤ x5_2
              · rw [if_pos c9] at H
                have c9b0 : decide (0 ≤ x5_2) = true := decide_eq_true c9
                clear c9
                by_cases c10 : x5_2 < (x3_2.length : Int)
                · rw [if_pos c10] at H
                  have c10b0 : decide (x5_2 < (x3_2.length : Int)) = true := decide_eq_true c10
                  clear c10
                  by_cases c11 : 0 < (x3_2.length : Int)
                  · rw [if_pos c11] at H
                    have c11b0 : decide (0 < (x3_2.length : Int)) = true := decide_eq_true c11
                    have c11b1 : decide (0 < x3_2.length) = true := decide_eq_true (by omega)
                    clear c11
                    obtain ⟨y109, hy109⟩ : ∃ y_ : List Int, y_ = (x3_2.set (0 : Int).toNat (rd x3_2 x5_2)) := ⟨_, rfl⟩
                    replace H : ((order_sink.f k2 (y109.set (x5_2 : Int).toNat (rd x3_2 0)) 0 x5_2).bind fun t111 => (order_Sort.l1 k2 t111 (wrap64 (x5_2 - 1)))) = some r := by first | (rw [hy109]; with_reducible exact H) | (have H2_ := (Option.bind_some _ _).symm.trans H; rw [hy109]; with_reducible exact H2_) | (have H2_ := (Option.bind_some _ _).symm.trans H; with_reducible exact H2_) | with_reducible exact H | (rw [hy109]; exact H) | exact H
                    have Ny109 := Aside0.mk hy109
                    clear hy109
                    obtain ⟨y110, hy110⟩ : ∃ y_ : List Int, y_ = (y109.set (x5_2 : Int).toNat (rd x3_2 0)) := ⟨_, rfl⟩
                    replace H : ((order_sink.f k2 y110 0 x5_2).bind fun t111 => (order_Sort.l1 k2 t111 (wrap64 (x5_2 - 1)))) = some r := by first | (rw [hy110]; with_reducible exact H) | (have H2_ := (Option.bind_some _ _).symm.trans H; rw [hy110]; with_reducible exact H2_) | (have H2_ := (Option.bind_some _ _).symm.trans H; with_reducible exact H2_) | with_reducible exact H | (rw [hy110]; exact H) | exact H
                    have Ny110 := Aside0.mk hy110
                    clear hy110
                    replace H := Option.bind_eq_some_iff.mp H
                    obtain ⟨t111, A140, H⟩ := H
                    replace H : (order_Sort.l1 k2 t111 (wrap64 (x5_2 - 1))) = some r := H
                    have A14 := Aside0.mk A140
                    clear A140
                    have H' := Aside0.mk H
                    clear H
                    try go_wp2
                    have n0_ := Aside0.mk (Kd.R_drew HO_3.out)
                    have n1_ := Aside0.mk (below_drew1 HB.out)
                    clear HO_3
                    clear HB
                    have HO_3 := n0_
                    have HB := n1_
                    clear n0_ n1_
                    have p107 : 0 ≤ (x5_2 : Int) := of_decide_eq_true (by first | (with_reducible assumption) | assumption)
                    have q107 : x5_2 < (x3_2.length : Int) := of_decide_eq_true (by first | (with_reducible assumption) | assumption)
                    obtain ⟨ad107, e107, hx107_0⟩ := Kd.at_int (Kd.R_reads' HO_3.out).2.2 x5_2 p107 q107
                    cases e107
                    replace p107 := eq_true p107
                    replace q107 := eq_true q107
                    have p108 : 0 ≤ (0 : Int) := (by omega)
                    have q108 : 0 < (x3_2.length : Int) := of_decide_eq_true (by first | (with_reducible assumption) | assumption)
                    obtain ⟨ad108, e108, hx108_0⟩ := Kd.at_int (Kd.R_reads' HO_3.out).2.2 0 p108 q108
                    obtain rfl : ad107 = ad108 := (by injection e108)
                    have qi108 : (0 < x3_2.length) = True := eq_true (by omega)
                    (try rw [show ((0 : Int)).toNat = 0 from rfl] at hx108_0)
                    (try rw [Addr.add_zero'] at hx108_0)
                    replace p108 := eq_true p108
                    replace q108 := eq_true q108
                    have p12 : 0 ≤ (0 : Int) := (by omega)
                    have q12 : (0 : Int) < ((x3_2.length : Int) : Int) := of_decide_eq_true (by first | (with_reducible assumption) | assumption)
                    have qi12 : (0 < x3_2.length) = True := eq_true (by omega)
                    obtain ⟨go12, co12, eo12, gb12, gl12, cl12, HG12⟩ := Kd.R_form HO_3.out (by omega)
                    (first | cases eo12 | (injection eo12 with ea_ en_ ec_; (first | subst ea_ | (injection ea_ with ea_; subst ea_)); subst ec_; clear en_))
                    have GB12 := Aside0.mk gb12
                    have GG12 := Aside0.mk HG12
                    clear gb12 gl12 HG12
                    (first | simp only [add_plain] at hx107_0 | skip)
                    (first | simp only [add_plain] at hx108_0 | skip)
                    obtain ⟨hx12_0, hf12_0⟩ := Kd.R_celln 0 HO_3.out (0 : Int) p12 q12
                    (try rw [show ((0 : Int)).toNat = 0 from rfl] at hx12_0)
                    (try simp only [Nat.reduceMul, Nat.zero_mul, Nat.zero_add, Nat.reduceAdd] at hx12_0)
                    (try rw [show ((0 : Int)).toNat = 0 from rfl] at hf12_0)
                    (try simp only [Nat.reduceMul, Nat.zero_mul, Nat.zero_add, Nat.reduceAdd] at hf12_0)
                    replace p12 := eq_true p12
                    replace q12 := eq_true q12
                    have HP16 := Kd.R_putn HO_3.out (0 : Int) (rd x3_2 x5_2)
                    rw [← Ny109.out] at HP16
                    have HQ16 := Aside0.mk HP16
                    clear HP16
                    have p13 : 0 ≤ (x5_2 : Int) := of_decide_eq_true (by first | (with_reducible assumption) | assumption)
                    have q13 : (x5_2 : Int) < ((x3_2.length : Int) : Int) := of_decide_eq_true (by first | (with_reducible assumption) | assumption)
                    obtain ⟨hx13_0, hf13_0⟩ := Kd.R_celln 0 HQ16.out (x5_2 : Int) p13 q13
                    replace p13 := eq_true p13
                    replace q13 := eq_true q13
                    have HP17 := Kd.R_putn HQ16.out (x5_2 : Int) (rd x3_2 0)
                    rw [← Ny110.out] at HP17
                    have HQ17 := Aside0.mk HP17
                    clear HP17
                    refine start_ (n := 14) (S := fun w' => w'.cell? ⟨go12, (x5_2).toNat, none⟩ = some (.int .i64 (rd x3_2 x5_2)) ∧ w'.cell? ⟨go12, 0, none⟩ = some (.int .i64 (rd x3_2 0))) (ds := [11, 13]) #[false, false, false, false, false, false, false, false, false, false, false, false, false, false] (by kernel_rfl) rfl rfl ⟨hx107_0, hx108_0⟩ (fun hHeld => ?_); refine with_tabW order_Sort.tab9 order_Sort.bits9 (fun HT_ HW_ => ?_)
                    generalize wr.drew = w15 at HO_3 HB GG12 HQ16 HQ17 hf12_0 hf13_0 hx107_0 hx108_0 hx12_0 hx13_0 hHeld ⊢
                    refine pure_ (i := 0) (N := some 28) (v := ?_) (a' := ?_) #[true, false, false, false, false, false, false, false, false, false, false, false, false, false] rfl rfl (any_of HT_.out (by kernel_rfl)) (fun _ _ _ h => h) (Or.inl ⟨by rfl, ?_⟩) ?_ ?_
                    rotate_left
                    · intro w'
                      go_simp
                      with_reducible rfl
                    rotate_left
                    · simp only [Act.put, List.setIfInBounds_toArray, List.set_cons_zero, List.set_cons_succ, i64_w, i32_w]
                      rfl
                    refine pure_ (i := 1) (N := some 29) (v := ?_) (a' := ?_) #[true, true, false, false, false, false, false, false, false, false, false, false, false, false] rfl rfl (any_of HT_.out (by kernel_rfl)) (fun _ _ _ h => h) (Or.inl ⟨by rfl, ?_⟩) ?_ ?_
                    rotate_left
                    · intro w'
                      go_simp
                      with_reducible rfl
                    rotate_left
                    · simp only [Act.put, List.setIfInBounds_toArray, List.set_cons_zero, List.set_cons_succ, i64_w, i32_w]
                      rfl
                    refine pure_ (i := 2) (N := some 30) (v := ?_) (a' := ?_) #[true, true, true, false, false, false, false, false, false, false, false, false, false, false] rfl rfl (any_of HT_.out (by kernel_rfl)) (fun _ _ _ h => h) (Or.inl ⟨by rfl, ?_⟩) ?_ ?_
                    rotate_left
                    · intro w'
                      go_simp
                      with_reducible rfl
                    rotate_left
                    · simp only [Act.put, List.setIfInBounds_toArray, List.set_cons_zero, List.set_cons_succ, i64_w, i32_w]
                      rfl
                    refine pure_ (i := 3) (N := some 31) (v := ?_) (a' := ?_) #[true, true, true, true, false, false, false, false, false, false, false, false, false, false] rfl rfl (any_of HT_.out (by kernel_rfl)) (fun _ _ _ h => h) (Or.inl ⟨by rfl, ?_⟩) ?_ ?_
                    rotate_left
                    · intro w'
                      go_simp
                      with_reducible rfl
                    rotate_left
                    · simp only [Act.put, List.setIfInBounds_toArray, List.set_cons_zero, List.set_cons_succ, i64_w, i32_w]
                      rfl
                    refine pure_ (i := 4) (N := some 32) (v := ?_) (a' := ?_) #[true, true, true, true, true, false, false, false, false, false, false, false, false, false] rfl rfl (any_of HT_.out (by kernel_rfl)) (fun _ _ _ h => h) (Or.inl ⟨by rfl, ?_⟩) ?_ ?_
                    rotate_left
                    · intro w'
                      go_simp
                      with_reducible rfl
                    rotate_left
                    · simp only [Act.put, List.setIfInBounds_toArray, List.set_cons_zero, List.set_cons_succ, i64_w, i32_w]
                      rfl
                    refine pure_ (i := 5) (N := some 33) (v := ?_) (a' := ?_) #[true, true, true, true, true, true, false, false, false, false, false, false, false, false] rfl rfl (any_of HT_.out (by kernel_rfl)) (fun _ _ _ h => h) (Or.inl ⟨by rfl, ?_⟩) ?_ ?_
                    rotate_left
                    · intro w'
                      go_simp
                      with_reducible rfl
                    rotate_left
                    · simp only [Act.put, List.setIfInBounds_toArray, List.set_cons_zero, List.set_cons_succ, i64_w, i32_w]
                      rfl
                    refine pure_ (i := 7) (N := some 35) (v := ?_) (a' := ?_) #[true, true, true, true, true, true, false, true, false, false, false, false, false, false] rfl rfl (any_of HT_.out (by kernel_rfl)) (fun _ _ _ h => h) (Or.inl ⟨by rfl, ?_⟩) ?_ ?_
                    rotate_left
                    · intro w'
                      go_simp
                      with_reducible rfl
                    rotate_left
                    · simp only [Act.put, List.setIfInBounds_toArray, List.set_cons_zero, List.set_cons_succ, i64_w, i32_w]
                      rfl
                    refine pure_ (i := 8) (N := some 36) (v := ?_) (a' := ?_) #[true, true, true, true, true, true, false, true, true, false, false, false, false, false] rfl rfl (any_of HT_.out (by kernel_rfl)) (fun _ _ _ h => h) (Or.inl ⟨by rfl, ?_⟩) ?_ ?_
                    rotate_left
                    · intro w'
                      go_simp
                      with_reducible rfl
                    rotate_left
                    · simp only [Act.put, List.setIfInBounds_toArray, List.set_cons_zero, List.set_cons_succ, i64_w, i32_w]
                      rfl
                    refine take_ (i := 6) (N := some 34) (v := ?_) (a' := ?_) #[true, true, true, true, true, true, true, true, true, false, false, false, false, false] rfl rfl (take_ofW HT_.out HW_.out (by kernel_rfl)) (fun _ _ _ h => h) (Or.inl ⟨by rfl, ?_⟩) hHeld ?_ ?_
                    rotate_left
                    · rintro w' ⟨s0, s1⟩
                      go_simp
                      with_reducible rfl
                    rotate_left
                    · simp only [Act.put, List.setIfInBounds_toArray, List.set_cons_zero, List.set_cons_succ, i64_w, i32_w]
                      rfl
                    refine take_ (i := 9) (N := some 37) (v := ?_) (a' := ?_) #[true, true, true, true, true, true, true, true, true, true, false, false, false, false] rfl rfl (take_ofW HT_.out HW_.out (by kernel_rfl)) (fun _ _ _ h => h) (Or.inl ⟨by rfl, ?_⟩) hHeld ?_ ?_
                    rotate_left
                    · rintro w' ⟨s0, s1⟩
                      go_simp
                      with_reducible rfl
                    rotate_left
                    · simp only [Act.put, List.setIfInBounds_toArray, List.set_cons_zero, List.set_cons_succ, i64_w, i32_w]
                      rfl
                    refine pure_ (i := 10) (N := some 38) (v := ?_) (a' := ?_) #[true, true, true, true, true, true, true, true, true, true, true, false, false, false] rfl rfl (any_of HT_.out (by kernel_rfl)) (fun _ _ _ h => h) (Or.inl ⟨by rfl, ?_⟩) ?_ ?_
                    rotate_left
                    · intro w'
                      go_simp
                      with_reducible rfl
                    rotate_left
                    · simp only [Act.put, List.setIfInBounds_toArray, List.set_cons_zero, List.set_cons_succ, i64_w, i32_w]
                      rfl
                    refine last_ (i := 11) (N := none) #[true, true, true, true, true, true, true, true, true, true, true, true, false, false] rfl rfl (one_of HT_.out (by kernel_rfl)) (by decide) (fun K hK => ?_)
                    refine skip_ (w1 := ?_) (by rfl) rfl ?_ ?_
                    rotate_left
                    · go_simp
                      rfl
                    refine hK.out _ _ ?_
                    clear hK K
                    refine pure_ (i := 12) (N := some 39) (v := ?_) (a' := ?_) #[true, true, true, true, true, true, true, true, true, true, true, true, true, false] rfl rfl (any_of HT_.out (by kernel_rfl)) (fun _ _ _ h => h) (Or.inl ⟨by rfl, ?_⟩) ?_ ?_
                    rotate_left
                    · intro w'
                      go_simp
                      with_reducible rfl
                    rotate_left
                    · simp only [Act.put, List.setIfInBounds_toArray, List.set_cons_zero, List.set_cons_succ, i64_w, i32_w]
                      rfl
                    obtain ⟨vy_, hvy_⟩ := cell?_setCell_some (w := w15) (p := ⟨go12, 0, none⟩) (x := .int .i64 (rd x3_2 x5_2)) (q := ⟨go12, (x5_2).toNat, none⟩) (v := .int .i64 (rd x3_2 x5_2)) (by first | assumption | go_simp)
                    have hfx_ : w15.frozen? ⟨go12, (x5_2).toNat, none⟩ = false := by have h_ := hf13_0; simpa [go_sem] using h_
                    refine last_ (i := 13) (N := none) #[true, true, true, true, true, true, true, true, true, true, true, true, true, true] rfl rfl (one_of HT_.out (by kernel_rfl)) (by decide) (fun K hK => ?_)
                    refine skip_ (w1 := ?_) (by rfl) rfl ?_ ?_
                    rotate_left
                    · go_simp
                      rfl
                    refine hK.out _ _ ?_
                    clear hK K
                    refine done_ (done_of HT_.out (by kernel_rfl)) ?_
                    have n0_ : Aside0 (Kd.R (Kd.int .i64) 3 ((w15.setCell ⟨go12, 0, none⟩ (.int .i64 (rd x3_2 x5_2))).setCell ⟨go12, (x5_2 : Int).toNat, none⟩ (.int .i64 (rd x3_2 0))) w.heap.size (fun _ => True) (.slice (some ⟨go12, 0, none⟩) x3_2.length co4) y110) := ⟨by (with_reducible repeat (first | apply Kd.R_alloc | apply Kd.R_drewN | apply Kd.R_drew)); exact HQ17.out⟩
                    have n1_ : Aside0 (Below w.heap.size w ((w15.setCell ⟨go12, 0, none⟩ (.int .i64 (rd x3_2 x5_2))).setCell ⟨go12, (x5_2 : Int).toNat, none⟩ (.int .i64 (rd x3_2 0)))) := ⟨by repeat (first | (with_reducible first | exact HB.out | apply below_alloc | apply pw_below_drewN | apply below_drew1 | refine below_set ?_ GB12.out | refine below_set ?_ GB12.out) | exact HB.out)⟩
                    (try clear HO_3)
                    (try clear HB)
                    generalize ((w15.setCell ⟨go12, 0, none⟩ (.int .i64 (rd x3_2 x5_2))).setCell ⟨go12, (x5_2 : Int).toNat, none⟩ (.int .i64 (rd x3_2 0))) = w18 at n0_ n1_ ⊢
                    have HO_3 := n0_
                    have HB := n1_
                    clear n0_ n1_
                    try go_wp2_with (first | ((with_reducible refine gate_callee (f := 63) rfl ?_); refine goesL_ (some 42) rfl rfl Try.func63 (by kernel_rfl) rfl #[.slice (some ⟨go12, 0, none⟩) x3_2.length co4, .int .i64 0, .int .i64 x5_2] rfl (by (try simp only [List.map_toArray, List.map_cons, List.map_nil]); first | done | rfl | (simp only [List.length_drop, List.length_take]; rfl)) ?_; (with_reducible refine (order_sink.calls k2 (fun k_ => some k_ = (.slice (some ⟨go12, 0, none⟩) x3_2.length co4 : Value).ownBlock) (.slice (some ⟨go12, 0, none⟩) x3_2.length co4) y110 0 x5_2 t111 w _ ?side1 ?side2 A14.out).mono ?_); (case side1 => repeat (first | (with_reducible first | exact HB.out | apply below_alloc | apply pw_below_drewN | apply below_drew1) | exact HB.out)); (case side2 => exact Kd.R_tight rfl HO_3.out); rintro e w19 ⟨rfl, hy0, hb, hkp⟩; refine ⟨_, rfl, ?_⟩; have n0_ := Aside0.mk (Kd.R_reok rfl hy0 (fun k_ e_ => HO_3.out.1 k_ e_)); have n1_ := Aside0.mk (hb); clear HO_3; clear HB; have HO_3 := n0_; have HB := n1_; clear n0_ n1_; (try clear hb); (try clear hkp); (try clear hy0)))
                    (try simp only [← hl3_2])
                    go_roundg k2
                    case measure => have := HK1.out; have := HK2.out; omega
                    case rel => exact ⟨(t111), (wrap64 (x5_2 - 1)), (by first | rfl | (simp; done) | (simp [*]; done)), H', ⟨by have := HK1.out; have := HK2.out; omega⟩, ⟨by (try simp only [hl3_1]); (try simp only [hl3_2]); (with_reducible repeat (first | apply Kd.R_alloc | apply Kd.R_drewN | apply Kd.R_drew)); exact HO_3.out⟩, ⟨by repeat (first | (with_reducible first | exact HB.out | apply below_alloc | apply pw_below_drewN | apply below_drew1) | exact HB.out)⟩⟩
                  · rw [if_neg c11] at H
                    exact absurd H (by simp)
                · rw [if_neg c10] at H
                  exact absurd H (by simp)
              · rw [if_neg c9] at H
                exact absurd H (by simp)
            · rw [if_neg c8] at H
              have c8b0 : decide (0 < x5_2) = false := decide_eq_false c8
              clear c8
              obtain rfl := Option.some.inj H
              go_wp2
              go_ret
              exact ⟨_, by first | rfl | (simp [errW_none, errW_some] <;> rfl) | (simp [*, errW_none, errW_some] <;> rfl), by (with_reducible repeat (first | apply Kd.R_alloc | apply Kd.R_drewN | apply Kd.R_drew)); exact HO_3.out, by repeat (first | (with_reducible first | exact HB.out | apply below_alloc | apply pw_below_drewN | apply below_drew1) | exact HB.out)⟩

end Go.Proofs.Ytifajoehlgdgaaa.POrder
