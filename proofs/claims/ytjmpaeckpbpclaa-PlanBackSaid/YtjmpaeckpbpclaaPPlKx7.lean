-- Out of the translation, by a program of this session.
import Derived.Test.YtjmpaeckpbpclaaWShort
import Derived.Test.YtjmpaeckpbpclaaPPlKx0
import Derived.Test.YtjmpaeckpbpclaaPPlKx6
namespace Go.Proofs.Ytjmpaeckpbpclaa.PPlK
open Go.RowKit Go.Proofs.YtjmpaeckpbpclaaW.PrintWords Go.Proofs.YtjmpaeckpbpclaaW.PrintLast Go.Proofs.YtjmpaeckpbpclaaW.PrintMore
attribute [local go_sem] max2_int min2_int max_two min_two max_three min_three max_four min_four   -- for this text's walks alone
set_option linter.unusedVariables false
set_option linter.unusedSimpArgs false

/-! ### handoffref10_RightOp: function 22 -/
mutual
def handoffref10_RightOp.j0 : Nat → Bool → Int → Int → Int → Int → List (S116) → Bool → Option (Bool)
  | 0, _, _, _, _, _, _, _ => none
  | k + 1, x48, x165000, x165001, x165002, x165003, x165004, x165005 => if x48 = true then (some false) else ((handoffref10_HasCh.f x165000).bind fun t165 => (if t165 = true then ((handoffref10_HasV.f x165000).bind fun t166 => (if t166 = true then (if x165000 = 1 then (if x165000 = 9 then (handoffref10_RightOp.j1 k false x165000 x165001 x165002 x165003 x165004 x165005) else (if x165005 = true then (handoffref10_RightOp.j1 k true x165000 x165001 x165002 x165003 x165004 x165005) else (handoffref10_RightOp.j1 k (decide ((x165004.length : Int) > 0)) x165000 x165001 x165002 x165003 x165004 x165005))) else (if x165002 = 0 then (if x165000 = 9 then (handoffref10_RightOp.j1 k false x165000 x165001 x165002 x165003 x165004 x165005) else (if x165005 = true then (handoffref10_RightOp.j1 k true x165000 x165001 x165002 x165003 x165004 x165005) else (handoffref10_RightOp.j1 k (decide ((x165004.length : Int) > 0)) x165000 x165001 x165002 x165003 x165004 x165005))) else (handoffref10_RightOp.j1 k true x165000 x165001 x165002 x165003 x165004 x165005))) else (if x165003 = 0 then (if x165000 = 1 then (if x165000 = 9 then (handoffref10_RightOp.j1 k false x165000 x165001 x165002 x165003 x165004 x165005) else (if x165005 = true then (handoffref10_RightOp.j1 k true x165000 x165001 x165002 x165003 x165004 x165005) else (handoffref10_RightOp.j1 k (decide ((x165004.length : Int) > 0)) x165000 x165001 x165002 x165003 x165004 x165005))) else (if x165002 = 0 then (if x165000 = 9 then (handoffref10_RightOp.j1 k false x165000 x165001 x165002 x165003 x165004 x165005) else (if x165005 = true then (handoffref10_RightOp.j1 k true x165000 x165001 x165002 x165003 x165004 x165005) else (handoffref10_RightOp.j1 k (decide ((x165004.length : Int) > 0)) x165000 x165001 x165002 x165003 x165004 x165005))) else (handoffref10_RightOp.j1 k true x165000 x165001 x165002 x165003 x165004 x165005))) else (handoffref10_RightOp.j1 k true x165000 x165001 x165002 x165003 x165004 x165005)))) else (if x165001 = 0 then ((handoffref10_HasV.f x165000).bind fun t167 => (if t167 = true then (if x165000 = 1 then (if x165000 = 9 then (handoffref10_RightOp.j1 k false x165000 x165001 x165002 x165003 x165004 x165005) else (if x165005 = true then (handoffref10_RightOp.j1 k true x165000 x165001 x165002 x165003 x165004 x165005) else (handoffref10_RightOp.j1 k (decide ((x165004.length : Int) > 0)) x165000 x165001 x165002 x165003 x165004 x165005))) else (if x165002 = 0 then (if x165000 = 9 then (handoffref10_RightOp.j1 k false x165000 x165001 x165002 x165003 x165004 x165005) else (if x165005 = true then (handoffref10_RightOp.j1 k true x165000 x165001 x165002 x165003 x165004 x165005) else (handoffref10_RightOp.j1 k (decide ((x165004.length : Int) > 0)) x165000 x165001 x165002 x165003 x165004 x165005))) else (handoffref10_RightOp.j1 k true x165000 x165001 x165002 x165003 x165004 x165005))) else (if x165003 = 0 then (if x165000 = 1 then (if x165000 = 9 then (handoffref10_RightOp.j1 k false x165000 x165001 x165002 x165003 x165004 x165005) else (if x165005 = true then (handoffref10_RightOp.j1 k true x165000 x165001 x165002 x165003 x165004 x165005) else (handoffref10_RightOp.j1 k (decide ((x165004.length : Int) > 0)) x165000 x165001 x165002 x165003 x165004 x165005))) else (if x165002 = 0 then (if x165000 = 9 then (handoffref10_RightOp.j1 k false x165000 x165001 x165002 x165003 x165004 x165005) else (if x165005 = true then (handoffref10_RightOp.j1 k true x165000 x165001 x165002 x165003 x165004 x165005) else (handoffref10_RightOp.j1 k (decide ((x165004.length : Int) > 0)) x165000 x165001 x165002 x165003 x165004 x165005))) else (handoffref10_RightOp.j1 k true x165000 x165001 x165002 x165003 x165004 x165005))) else (handoffref10_RightOp.j1 k true x165000 x165001 x165002 x165003 x165004 x165005)))) else (handoffref10_RightOp.j1 k true x165000 x165001 x165002 x165003 x165004 x165005))))
def handoffref10_RightOp.j1 : Nat → Bool → Int → Int → Int → Int → List (S116) → Bool → Option (Bool)
  | 0, _, _, _, _, _, _, _ => none
  | k + 1, x93, x165000, x165001, x165002, x165003, x165004, x165005 => if x93 = true then (some false) else (handoffref10_RightOp.l0 k x165004 (x165004.length : Int) 0)
def handoffref10_RightOp.l0 : Nat → List (S116) → Int → Int → Option (Bool)
  | 0, _, _, _ => none
  | k + 1, x95, x96, x97 => if x97 < x96 then (if 0 ≤ x97 then (if x97 < (x95.length : Int) then (if ((rd_T116 x95 x97).f1) < 0 then (some false) else (if ((rd_T116 x95 x97).f1) > 8 then (some false) else (if ((rd_T116 x95 x97).f2) < 0 then (some false) else (if ((rd_T116 x95 x97).f2) > 255 then (some false) else (if ((rd_T116 x95 x97).f0 = true) then (handoffref10_RightOp.l0 k x95 x96 (wrap64 (x97 + 1))) else (if ((rd_T116 x95 x97).f2) = 0 then (handoffref10_RightOp.l0 k x95 x96 (wrap64 (x97 + 1))) else (some false))))))) else (none)) else (none)) else (some true)
end
def handoffref10_RightOp.f (k : Nat) (a0_0 : Int) (a0_1 : Int) (a0_2 : Int) (a0_3 : Int) (l0_4 : List (S116)) (a0_5 : Bool) : Option (Bool) := if a0_0 < 1 then (handoffref10_RightOp.j0 k true a0_0 a0_1 a0_2 a0_3 l0_4 a0_5) else (if a0_0 > 9 then (handoffref10_RightOp.j0 k true a0_0 a0_1 a0_2 a0_3 l0_4 a0_5) else (if a0_1 < 0 then (handoffref10_RightOp.j0 k true a0_0 a0_1 a0_2 a0_3 l0_4 a0_5) else (if a0_1 > 8 then (handoffref10_RightOp.j0 k true a0_0 a0_1 a0_2 a0_3 l0_4 a0_5) else (if a0_2 < 0 then (handoffref10_RightOp.j0 k true a0_0 a0_1 a0_2 a0_3 l0_4 a0_5) else (if a0_2 > 4 then (handoffref10_RightOp.j0 k true a0_0 a0_1 a0_2 a0_3 l0_4 a0_5) else (if a0_3 < 0 then (handoffref10_RightOp.j0 k true a0_0 a0_1 a0_2 a0_3 l0_4 a0_5) else (if a0_3 > 255 then (handoffref10_RightOp.j0 k true a0_0 a0_1 a0_2 a0_3 l0_4 a0_5) else (handoffref10_RightOp.j0 k (decide ((l0_4.length : Int) > 6)) a0_0 a0_1 a0_2 a0_3 l0_4 a0_5))))))))
theorem handoffref10_RightOp.mono_l : ∀ k, (∀ y0 y1 y2 y3 y4 y5 y6, LeO (handoffref10_RightOp.j0 k y0 y1 y2 y3 y4 y5 y6) (handoffref10_RightOp.j0 (k + 1) y0 y1 y2 y3 y4 y5 y6)) ∧ (∀ y0 y1 y2 y3 y4 y5 y6, LeO (handoffref10_RightOp.j1 k y0 y1 y2 y3 y4 y5 y6) (handoffref10_RightOp.j1 (k + 1) y0 y1 y2 y3 y4 y5 y6)) ∧ (∀ y0 y1 y2, LeO (handoffref10_RightOp.l0 k y0 y1 y2) (handoffref10_RightOp.l0 (k + 1) y0 y1 y2))
 | 0 => ⟨fun _ _ _ _ _ _ _ r h => by simp [handoffref10_RightOp.j0] at h, fun _ _ _ _ _ _ _ r h => by simp [handoffref10_RightOp.j1] at h, fun _ _ _ r h => by simp [handoffref10_RightOp.l0] at h⟩
 | k + 1 => by
  obtain ⟨ih0, ih1, ih2⟩ := handoffref10_RightOp.mono_l k
  refine ⟨?_, ?_, ?_⟩
  all_goals intros
  all_goals first | unfold handoffref10_RightOp.j0 | unfold handoffref10_RightOp.j1 | unfold handoffref10_RightOp.l0
  all_goals (repeat' first | with_reducible first | apply ih0 | apply ih1 | apply ih2 | exact LeO.refl _ | exact LeO.none _ | refine LeO.ite ?_ ?_ | refine LeO.bind ?_ (fun _ => ?_) | apply ih0 | apply ih1 | apply ih2 | exact LeO.none _ | refine LeO.ite ?_ ?_ | refine LeO.bind ?_ (fun _ => ?_))
theorem handoffref10_RightOp.mono : ∀ a0 a1 a2 a3 a4 a5 k, LeO (handoffref10_RightOp.f k a0 a1 a2 a3 a4 a5) (handoffref10_RightOp.f (k + 1) a0 a1 a2 a3 a4 a5) := by
 intro a0 a1 a2 a3 a4 a5 k
 obtain ⟨ih0, ih1, ih2⟩ := handoffref10_RightOp.mono_l k
 unfold handoffref10_RightOp.f
 repeat' first | with_reducible first | apply ih0 | apply ih1 | apply ih2 | exact LeO.refl _ | exact LeO.none _ | refine LeO.ite ?_ ?_ | refine LeO.bind ?_ (fun _ => ?_) | apply ih0 | apply ih1 | apply ih2 | exact LeO.none _ | refine LeO.ite ?_ ?_ | refine LeO.bind ?_ (fun _ => ?_)
set_option maxHeartbeats 8000000 in
set_option maxRecDepth 100000 in
theorem handoffref10_RightOp.calls (k : Nat) (a0_0 : Int) (a0_1 : Int) (a0_2 : Int) (a0_3 : Int) (A0_4 : Option Addr) (c0_4 : Nat) (l0_4 : List (S116)) (a0_5 : Bool) (r : Bool) (w : World) (hr0_4 : Kd.C k116 w A0_4 l0_4.length l0_4) (hc0_4 : l0_4.length ≤ c0_4) (h : handoffref10_RightOp.f k a0_0 a0_1 a0_2 a0_3 l0_4 a0_5 = some r) :
  Calls Try.prog 22 #[.agg #[.int .i64 a0_0, .int .i64 a0_1, .int .i64 a0_2, .int .i64 a0_3, .slice A0_4 l0_4.length c0_4, .bool a0_5]] w fun e w' => e = .returned (.bool r) ∧ Below w.heap.size w w' := by
 have hu39 := Try.underlying39
 have hu116 := Try.underlying116
 have HR0_4 := Aside0.mk hr0_4
 have HC0_4 := Aside0.mk hc0_4
 clear hr0_4 hc0_4
 have HB := Aside0.mk (Below.refl w.heap.size w)
 have H : (if a0_0 < 1 then (handoffref10_RightOp.j0 k true a0_0 a0_1 a0_2 a0_3 l0_4 a0_5) else (if a0_0 > 9 then (handoffref10_RightOp.j0 k true a0_0 a0_1 a0_2 a0_3 l0_4 a0_5) else (if a0_1 < 0 then (handoffref10_RightOp.j0 k true a0_0 a0_1 a0_2 a0_3 l0_4 a0_5) else (if a0_1 > 8 then (handoffref10_RightOp.j0 k true a0_0 a0_1 a0_2 a0_3 l0_4 a0_5) else (if a0_2 < 0 then (handoffref10_RightOp.j0 k true a0_0 a0_1 a0_2 a0_3 l0_4 a0_5) else (if a0_2 > 4 then (handoffref10_RightOp.j0 k true a0_0 a0_1 a0_2 a0_3 l0_4 a0_5) else (if a0_3 < 0 then (handoffref10_RightOp.j0 k true a0_0 a0_1 a0_2 a0_3 l0_4 a0_5) else (if a0_3 > 255 then (handoffref10_RightOp.j0 k true a0_0 a0_1 a0_2 a0_3 l0_4 a0_5) else (handoffref10_RightOp.j0 k (decide ((l0_4.length : Int) > 6)) a0_0 a0_1 a0_2 a0_3 l0_4 a0_5))))))))) = some r := h
 clear h
 have HC2 := Aside0.mk H
 clear H
 go_enter Try.func22, Try.ntmps22
 go_upto_region 1 with (first | ((with_reducible refine gate_dst (N := 1) rfl ?_); (try (refine gate_guard (by rfl) ?_; dsimp only)); refine box_event ?hg (N := 1) ?hd (cs := #[.int .i64 a0_0, .int .i64 a0_1, .int .i64 a0_2, .int .i64 a0_3, .slice A0_4 l0_4.length c0_4, .bool a0_5]) (t := 39) ?hr ?_; (case hd => rfl); (case hg => rfl); (case hr => first | (go_simp; done) | (go_simp; rfl)); intro gb164 hg w3 hbox hb; have n0_ := Aside0.mk (below_step (below_w HB.out) hb); have n1_ := Aside0.mk (hbox); have n2_ := Aside0.mk ((by rw [hg]; exact (below_size (below_w HB.out)) : w.heap.size ≤ gb164)); have n3_ := Aside0.mk ((by rw [hg]; exact (below_size (below_w HB.out)) : w.heap.size ≤ gb164)); clear HB; have HB := n0_; have BK164 := n1_; have GW164 := n2_; have GE164 := n3_; clear n0_ n1_ n2_ n3_; clear hb hbox hg))
 (try simp only [Act.put, List.setIfInBounds_toArray, List.set_cons_zero, List.set_cons_succ])
 go_cut [48] (fun v48 wc => ∃ (kq : Nat) (x48_1 : Bool), v48 = .bool x48_1 ∧ Aside0 (handoffref10_RightOp.j0 kq x48_1 a0_0 a0_1 a0_2 a0_3 l0_4 a0_5 = some r) ∧ Aside0 (kq ≤ k) ∧ Aside0 (wc.heap[gb164]? = some (.cells #[.int .i64 a0_0, .int .i64 a0_1, .int .i64 a0_2, .int .i64 a0_3, (.slice A0_4 l0_4.length c0_4), .bool a0_5] 39 (0, 0))) ∧ Aside0 (Below w.heap.size w wc))
 case first =>
  have H := HC2.out
  clear HC2
  by_cases c4 : a0_0 < 1
  ·rw [if_pos c4] at H
   have c4b0 : decide (a0_0 < 1) = true := decide_eq_true c4
   clear c4
   (first | rw [c4b0] | (simp only [i64_w, i32_w]; rw [c4b0]) | skip)
   have H' := Aside0.mk H
   clear H
   have hcz5 := blk6 BK164.out
   as_aux_lemma =>
    go_wp2
    go_meet
    case rel => exact ⟨_, (true), (by first | rfl | (simp; done) | (simp [*]; done)), H', ⟨by first | omega | exact Nat.le_refl _⟩, ⟨by exact blk_w BK164.out⟩, ⟨by repeat (with_reducible first | exact HB.out | apply below_t | refine below_set ?_ GE164.out)⟩⟩
  ·rw [if_neg c4] at H
   have c4b0 : decide (a0_0 < 1) = false := decide_eq_false c4
   clear c4
   (first | rw [c4b0] | (simp only [i64_w, i32_w]; rw [c4b0]) | skip)
   by_cases c6 : a0_0 > 9
   ·rw [if_pos c6] at H
    have c6b0 : decide (9 < a0_0) = true := decide_eq_true c6
    clear c6
    have H' := Aside0.mk H
    clear H
    have hcz7 := blk6 BK164.out
    as_aux_lemma =>
     go_wp2
     go_meet
     case rel => exact ⟨_, (true), (by first | rfl | (simp; done) | (simp [*]; done)), H', ⟨by first | omega | exact Nat.le_refl _⟩, ⟨by exact blk_w BK164.out⟩, ⟨by repeat (with_reducible first | exact HB.out | apply below_t | refine below_set ?_ GE164.out)⟩⟩
   ·rw [if_neg c6] at H
    have c6b0 : decide (9 < a0_0) = false := decide_eq_false c6
    clear c6
    by_cases c8 : a0_1 < 0
    ·rw [if_pos c8] at H
     have c8b0 : decide (a0_1 < 0) = true := decide_eq_true c8
     clear c8
     have H' := Aside0.mk H
     clear H
     have hcz9 := blk6 BK164.out
     as_aux_lemma =>
      go_wp2
      go_meet
      case rel => exact ⟨_, (true), (by first | rfl | (simp; done) | (simp [*]; done)), H', ⟨by first | omega | exact Nat.le_refl _⟩, ⟨by exact blk_w BK164.out⟩, ⟨by repeat (with_reducible first | exact HB.out | apply below_t | refine below_set ?_ GE164.out)⟩⟩
    ·rw [if_neg c8] at H
     have c8b0 : decide (a0_1 < 0) = false := decide_eq_false c8
     clear c8
     by_cases c10 : a0_1 > 8
     ·rw [if_pos c10] at H
      have c10b0 : decide (8 < a0_1) = true := decide_eq_true c10
      clear c10
      have H' := Aside0.mk H
      clear H
      have hcz11 := blk6 BK164.out
      as_aux_lemma =>
       go_wp2
       go_meet
       case rel => exact ⟨_, (true), (by first | rfl | (simp; done) | (simp [*]; done)), H', ⟨by first | omega | exact Nat.le_refl _⟩, ⟨by exact blk_w BK164.out⟩, ⟨by repeat (with_reducible first | exact HB.out | apply below_t | refine below_set ?_ GE164.out)⟩⟩
     ·rw [if_neg c10] at H
      have c10b0 : decide (8 < a0_1) = false := decide_eq_false c10
      clear c10
      by_cases c12 : a0_2 < 0
      ·rw [if_pos c12] at H
       have c12b0 : decide (a0_2 < 0) = true := decide_eq_true c12
       clear c12
       have H' := Aside0.mk H
       clear H
       have hcz13 := blk6 BK164.out
       as_aux_lemma =>
        go_wp2
        go_meet
        case rel => exact ⟨_, (true), (by first | rfl | (simp; done) | (simp [*]; done)), H', ⟨by first | omega | exact Nat.le_refl _⟩, ⟨by exact blk_w BK164.out⟩, ⟨by repeat (with_reducible first | exact HB.out | apply below_t | refine below_set ?_ GE164.out)⟩⟩
      ·rw [if_neg c12] at H
       have c12b0 : decide (a0_2 < 0) = false := decide_eq_false c12
       clear c12
       by_cases c14 : a0_2 > 4
       ·rw [if_pos c14] at H
        have c14b0 : decide (4 < a0_2) = true := decide_eq_true c14
        clear c14
        have H' := Aside0.mk H
        clear H
        have hcz15 := blk6 BK164.out
        as_aux_lemma =>
         go_wp2
         go_meet
         case rel => exact ⟨_, (true), (by first | rfl | (simp; done) | (simp [*]; done)), H', ⟨by first | omega | exact Nat.le_refl _⟩, ⟨by exact blk_w BK164.out⟩, ⟨by repeat (with_reducible first | exact HB.out | apply below_t | refine below_set ?_ GE164.out)⟩⟩
       ·rw [if_neg c14] at H
        have c14b0 : decide (4 < a0_2) = false := decide_eq_false c14
        clear c14
        by_cases c16 : a0_3 < 0
        ·rw [if_pos c16] at H
         have c16b0 : decide (a0_3 < 0) = true := decide_eq_true c16
         clear c16
         have H' := Aside0.mk H
         clear H
         have hcz17 := blk6 BK164.out
         as_aux_lemma =>
          go_wp2
          go_meet
          case rel => exact ⟨_, (true), (by first | rfl | (simp; done) | (simp [*]; done)), H', ⟨by first | omega | exact Nat.le_refl _⟩, ⟨by exact blk_w BK164.out⟩, ⟨by repeat (with_reducible first | exact HB.out | apply below_t | refine below_set ?_ GE164.out)⟩⟩
        ·rw [if_neg c16] at H
         have c16b0 : decide (a0_3 < 0) = false := decide_eq_false c16
         clear c16
         by_cases c18 : a0_3 > 255
         ·rw [if_pos c18] at H
          have c18b0 : decide (255 < a0_3) = true := decide_eq_true c18
          clear c18
          have H' := Aside0.mk H
          clear H
          have hcz19 := blk6 BK164.out
          as_aux_lemma =>
           go_wp2
           go_meet
           case rel => exact ⟨_, (true), (by first | rfl | (simp; done) | (simp [*]; done)), H', ⟨by first | omega | exact Nat.le_refl _⟩, ⟨by exact blk_w BK164.out⟩, ⟨by repeat (with_reducible first | exact HB.out | apply below_t | refine below_set ?_ GE164.out)⟩⟩
         ·rw [if_neg c18] at H
          have c18b0 : decide (255 < a0_3) = false := decide_eq_false c18
          clear c18
          have H' := Aside0.mk H
          clear H
          have hcz20 := blk6 BK164.out
          as_aux_lemma =>
           go_wp2
           go_meet
           case rel => exact ⟨_, (decide ((l0_4.length : Int) > 6)), (by first | rfl | (simp; done) | (simp [*]; done)), H', ⟨by first | omega | exact Nat.le_refl _⟩, ⟨by exact blk_w BK164.out⟩, ⟨by repeat (with_reducible first | exact HB.out | apply below_t | refine below_set ?_ GE164.out)⟩⟩
 case rest =>
  clear HC2
  obtain ⟨kq, x48_1, rfl, HA, HJ1, BK164, HB⟩ := hcut
  cases kq with
  | zero => exact absurd HA.out (by simp [handoffref10_RightOp.j0])
  | succ kj1 =>
   have H := HA.out
   clear HA
   simp only [handoffref10_RightOp.j0] at H
   by_cases c21 : x48_1 = true
   ·subst c21
    have H1 : (some false) = some r := by rw [if_pos rfl] at H; exact H
    clear H
    have H := H1
    clear H1
    obtain rfl := Option.some.inj H
    as_aux_lemma =>
     go_wp2
     go_ret
     exact ⟨by first | rfl | (simp [errW_none, errW_some] <;> rfl) | (simp [*, errW_none, errW_some] <;> rfl), by repeat (with_reducible first | exact HB.out | apply below_t | refine below_set ?_ GE164.out)⟩
   ·replace c21 := Bool.eq_false_iff.mpr c21
    subst c21
    have H1 : ((handoffref10_HasCh.f a0_0).bind fun t165 => (if t165 = true then ((handoffref10_HasV.f a0_0).bind fun t166 => (if t166 = true then (if a0_0 = 1 then (if a0_0 = 9 then (handoffref10_RightOp.j1 kj1 false a0_0 a0_1 a0_2 a0_3 l0_4 a0_5) else (if a0_5 = true then (handoffref10_RightOp.j1 kj1 true a0_0 a0_1 a0_2 a0_3 l0_4 a0_5) else (handoffref10_RightOp.j1 kj1 (decide ((l0_4.length : Int) > 0)) a0_0 a0_1 a0_2 a0_3 l0_4 a0_5))) else (if a0_2 = 0 then (if a0_0 = 9 then (handoffref10_RightOp.j1 kj1 false a0_0 a0_1 a0_2 a0_3 l0_4 a0_5) else (if a0_5 = true then (handoffref10_RightOp.j1 kj1 true a0_0 a0_1 a0_2 a0_3 l0_4 a0_5) else (handoffref10_RightOp.j1 kj1 (decide ((l0_4.length : Int) > 0)) a0_0 a0_1 a0_2 a0_3 l0_4 a0_5))) else (handoffref10_RightOp.j1 kj1 true a0_0 a0_1 a0_2 a0_3 l0_4 a0_5))) else (if a0_3 = 0 then (if a0_0 = 1 then (if a0_0 = 9 then (handoffref10_RightOp.j1 kj1 false a0_0 a0_1 a0_2 a0_3 l0_4 a0_5) else (if a0_5 = true then (handoffref10_RightOp.j1 kj1 true a0_0 a0_1 a0_2 a0_3 l0_4 a0_5) else (handoffref10_RightOp.j1 kj1 (decide ((l0_4.length : Int) > 0)) a0_0 a0_1 a0_2 a0_3 l0_4 a0_5))) else (if a0_2 = 0 then (if a0_0 = 9 then (handoffref10_RightOp.j1 kj1 false a0_0 a0_1 a0_2 a0_3 l0_4 a0_5) else (if a0_5 = true then (handoffref10_RightOp.j1 kj1 true a0_0 a0_1 a0_2 a0_3 l0_4 a0_5) else (handoffref10_RightOp.j1 kj1 (decide ((l0_4.length : Int) > 0)) a0_0 a0_1 a0_2 a0_3 l0_4 a0_5))) else (handoffref10_RightOp.j1 kj1 true a0_0 a0_1 a0_2 a0_3 l0_4 a0_5))) else (handoffref10_RightOp.j1 kj1 true a0_0 a0_1 a0_2 a0_3 l0_4 a0_5)))) else (if a0_1 = 0 then ((handoffref10_HasV.f a0_0).bind fun t167 => (if t167 = true then (if a0_0 = 1 then (if a0_0 = 9 then (handoffref10_RightOp.j1 kj1 false a0_0 a0_1 a0_2 a0_3 l0_4 a0_5) else (if a0_5 = true then (handoffref10_RightOp.j1 kj1 true a0_0 a0_1 a0_2 a0_3 l0_4 a0_5) else (handoffref10_RightOp.j1 kj1 (decide ((l0_4.length : Int) > 0)) a0_0 a0_1 a0_2 a0_3 l0_4 a0_5))) else (if a0_2 = 0 then (if a0_0 = 9 then (handoffref10_RightOp.j1 kj1 false a0_0 a0_1 a0_2 a0_3 l0_4 a0_5) else (if a0_5 = true then (handoffref10_RightOp.j1 kj1 true a0_0 a0_1 a0_2 a0_3 l0_4 a0_5) else (handoffref10_RightOp.j1 kj1 (decide ((l0_4.length : Int) > 0)) a0_0 a0_1 a0_2 a0_3 l0_4 a0_5))) else (handoffref10_RightOp.j1 kj1 true a0_0 a0_1 a0_2 a0_3 l0_4 a0_5))) else (if a0_3 = 0 then (if a0_0 = 1 then (if a0_0 = 9 then (handoffref10_RightOp.j1 kj1 false a0_0 a0_1 a0_2 a0_3 l0_4 a0_5) else (if a0_5 = true then (handoffref10_RightOp.j1 kj1 true a0_0 a0_1 a0_2 a0_3 l0_4 a0_5) else (handoffref10_RightOp.j1 kj1 (decide ((l0_4.length : Int) > 0)) a0_0 a0_1 a0_2 a0_3 l0_4 a0_5))) else (if a0_2 = 0 then (if a0_0 = 9 then (handoffref10_RightOp.j1 kj1 false a0_0 a0_1 a0_2 a0_3 l0_4 a0_5) else (if a0_5 = true then (handoffref10_RightOp.j1 kj1 true a0_0 a0_1 a0_2 a0_3 l0_4 a0_5) else (handoffref10_RightOp.j1 kj1 (decide ((l0_4.length : Int) > 0)) a0_0 a0_1 a0_2 a0_3 l0_4 a0_5))) else (handoffref10_RightOp.j1 kj1 true a0_0 a0_1 a0_2 a0_3 l0_4 a0_5))) else (handoffref10_RightOp.j1 kj1 true a0_0 a0_1 a0_2 a0_3 l0_4 a0_5)))) else (handoffref10_RightOp.j1 kj1 true a0_0 a0_1 a0_2 a0_3 l0_4 a0_5)))) = some r := by rw [if_neg (show ¬ (false = true) by decide)] at H; exact H
    clear H
    have H := H1
    clear H1
    have HC22 := Aside0.mk H
    clear H
    go_upto_region 3 with (fail)
    go_cut [93] (fun v93 wc => ∃ (kq : Nat) (x93_21 : Bool), v93 = .bool x93_21 ∧ Aside0 (handoffref10_RightOp.j1 kq x93_21 a0_0 a0_1 a0_2 a0_3 l0_4 a0_5 = some r) ∧ Aside0 (kq ≤ kj1) ∧ Aside0 (wc.heap[gb164]? = some (.cells #[.int .i64 a0_0, .int .i64 a0_1, .int .i64 a0_2, .int .i64 a0_3, (.slice A0_4 l0_4.length c0_4), .bool a0_5] 39 (0, 0))) ∧ Aside0 (Below w.heap.size w wc))
    case first =>
     have H := HC22.out
     clear HC22
     replace H := Option.bind_eq_some_iff.mp H
     obtain ⟨t165, A230, H⟩ := H
     try dsimp only at H
     have A23 := Aside0.mk A230
     clear A230
     by_cases c24 : t165 = true
     ·subst c24
      have H1 : ((handoffref10_HasV.f a0_0).bind fun t166 => (if t166 = true then (if a0_0 = 1 then (if a0_0 = 9 then (handoffref10_RightOp.j1 kj1 false a0_0 a0_1 a0_2 a0_3 l0_4 a0_5) else (if a0_5 = true then (handoffref10_RightOp.j1 kj1 true a0_0 a0_1 a0_2 a0_3 l0_4 a0_5) else (handoffref10_RightOp.j1 kj1 (decide ((l0_4.length : Int) > 0)) a0_0 a0_1 a0_2 a0_3 l0_4 a0_5))) else (if a0_2 = 0 then (if a0_0 = 9 then (handoffref10_RightOp.j1 kj1 false a0_0 a0_1 a0_2 a0_3 l0_4 a0_5) else (if a0_5 = true then (handoffref10_RightOp.j1 kj1 true a0_0 a0_1 a0_2 a0_3 l0_4 a0_5) else (handoffref10_RightOp.j1 kj1 (decide ((l0_4.length : Int) > 0)) a0_0 a0_1 a0_2 a0_3 l0_4 a0_5))) else (handoffref10_RightOp.j1 kj1 true a0_0 a0_1 a0_2 a0_3 l0_4 a0_5))) else (if a0_3 = 0 then (if a0_0 = 1 then (if a0_0 = 9 then (handoffref10_RightOp.j1 kj1 false a0_0 a0_1 a0_2 a0_3 l0_4 a0_5) else (if a0_5 = true then (handoffref10_RightOp.j1 kj1 true a0_0 a0_1 a0_2 a0_3 l0_4 a0_5) else (handoffref10_RightOp.j1 kj1 (decide ((l0_4.length : Int) > 0)) a0_0 a0_1 a0_2 a0_3 l0_4 a0_5))) else (if a0_2 = 0 then (if a0_0 = 9 then (handoffref10_RightOp.j1 kj1 false a0_0 a0_1 a0_2 a0_3 l0_4 a0_5) else (if a0_5 = true then (handoffref10_RightOp.j1 kj1 true a0_0 a0_1 a0_2 a0_3 l0_4 a0_5) else (handoffref10_RightOp.j1 kj1 (decide ((l0_4.length : Int) > 0)) a0_0 a0_1 a0_2 a0_3 l0_4 a0_5))) else (handoffref10_RightOp.j1 kj1 true a0_0 a0_1 a0_2 a0_3 l0_4 a0_5))) else (handoffref10_RightOp.j1 kj1 true a0_0 a0_1 a0_2 a0_3 l0_4 a0_5)))) = some r := by rw [if_pos rfl] at H; exact H
      clear H
      have H := H1
      clear H1
      replace H := Option.bind_eq_some_iff.mp H
      obtain ⟨t166, A250, H⟩ := H
      try dsimp only at H
      have A25 := Aside0.mk A250
      clear A250
      by_cases c26 : t166 = true
      ·subst c26
       have H1 : (if a0_0 = 1 then (if a0_0 = 9 then (handoffref10_RightOp.j1 kj1 false a0_0 a0_1 a0_2 a0_3 l0_4 a0_5) else (if a0_5 = true then (handoffref10_RightOp.j1 kj1 true a0_0 a0_1 a0_2 a0_3 l0_4 a0_5) else (handoffref10_RightOp.j1 kj1 (decide ((l0_4.length : Int) > 0)) a0_0 a0_1 a0_2 a0_3 l0_4 a0_5))) else (if a0_2 = 0 then (if a0_0 = 9 then (handoffref10_RightOp.j1 kj1 false a0_0 a0_1 a0_2 a0_3 l0_4 a0_5) else (if a0_5 = true then (handoffref10_RightOp.j1 kj1 true a0_0 a0_1 a0_2 a0_3 l0_4 a0_5) else (handoffref10_RightOp.j1 kj1 (decide ((l0_4.length : Int) > 0)) a0_0 a0_1 a0_2 a0_3 l0_4 a0_5))) else (handoffref10_RightOp.j1 kj1 true a0_0 a0_1 a0_2 a0_3 l0_4 a0_5))) = some r := by rw [if_pos rfl] at H; exact H
       clear H
       have H := H1
       clear H1
       by_cases c27 : a0_0 = 1
       ·rw [if_pos c27] at H
        have c27b0 : (a0_0 == 1) = true := beq_iff_eq.mpr c27
        have c27b1 : (a0_0 != 1) = false := bne_eq_false_iff_eq.mpr c27
        clear c27
        (first | rw [c27b0] | (simp only [i64_w, i32_w]; rw [c27b0]) | skip)
        by_cases c28 : a0_0 = 9
        ·rw [if_pos c28] at H
         have c28b0 : (a0_0 == 9) = true := beq_iff_eq.mpr c28
         have c28b1 : (a0_0 != 9) = false := bne_eq_false_iff_eq.mpr c28
         clear c28
         have H' := Aside0.mk H
         clear H
         have hcz29 := blk6 BK164.out
         as_aux_lemma =>
          go_wp2_with (first | ((with_reducible refine gate_callee (f := 65) rfl ?_); refine goesL_ (some 51) rfl rfl Try.func65 (by kernel_rfl) rfl #[.int .i64 a0_0] rfl (by (try simp only [List.map_toArray, List.map_cons, List.map_nil]); first | done | rfl | simp) ?_; (with_reducible refine (handoffref10_HasCh.calls a0_0 true _ A23.out).mono ?_); rintro e w' ⟨rfl, ⟨nd, rfl⟩⟩; refine ⟨_, rfl, ?_⟩) | (go_at_call 66; (with_reducible refine (handoffref10_HasV.calls a0_0 true _ A25.out).mono ?_); rintro e w' ⟨rfl, ⟨nd, rfl⟩⟩))
          go_meet
          case rel => exact ⟨_, (false), (by first | rfl | (simp; done) | (simp [*]; done)), H', ⟨by have := HJ1.out; first | omega | exact Nat.le_refl _⟩, ⟨by exact blk_w BK164.out⟩, ⟨by repeat (with_reducible first | exact HB.out | apply below_t | refine below_set ?_ GE164.out)⟩⟩
        ·rw [if_neg c28] at H
         have c28b0 : (a0_0 == 9) = false := beq_eq_false_iff_ne.mpr c28
         have c28b1 : (a0_0 != 9) = true := bne_iff_ne.mpr c28
         by_cases c30 : a0_5 = true
         ·subst c30
          have H1 : (handoffref10_RightOp.j1 kj1 true a0_0 a0_1 a0_2 a0_3 l0_4 true) = some r := by rw [if_pos rfl] at H; exact H
          clear H
          have H := H1
          clear H1
          have H' := Aside0.mk H
          clear H
          have hcz31 := blk6 BK164.out
          as_aux_lemma =>
           go_wp2_with (first | ((with_reducible refine gate_callee (f := 65) rfl ?_); refine goesL_ (some 51) rfl rfl Try.func65 (by kernel_rfl) rfl #[.int .i64 a0_0] rfl (by (try simp only [List.map_toArray, List.map_cons, List.map_nil]); first | done | rfl | simp) ?_; (with_reducible refine (handoffref10_HasCh.calls a0_0 true _ A23.out).mono ?_); rintro e w' ⟨rfl, ⟨nd, rfl⟩⟩; refine ⟨_, rfl, ?_⟩) | (go_at_call 66; (with_reducible refine (handoffref10_HasV.calls a0_0 true _ A25.out).mono ?_); rintro e w' ⟨rfl, ⟨nd, rfl⟩⟩))
           go_meet
           case rel => exact ⟨_, (true), (by first | rfl | (simp; done) | (simp [*]; done)), H', ⟨by have := HJ1.out; first | omega | exact Nat.le_refl _⟩, ⟨by exact blk_w BK164.out⟩, ⟨by repeat (with_reducible first | exact HB.out | apply below_t | refine below_set ?_ GE164.out)⟩⟩
         ·replace c30 := Bool.eq_false_iff.mpr c30
          subst c30
          have H1 : (handoffref10_RightOp.j1 kj1 (decide ((l0_4.length : Int) > 0)) a0_0 a0_1 a0_2 a0_3 l0_4 false) = some r := by rw [if_neg (show ¬ (false = true) by decide)] at H; exact H
          clear H
          have H := H1
          clear H1
          have H' := Aside0.mk H
          clear H
          have hcz32 := blk6 BK164.out
          as_aux_lemma =>
           go_wp2_with (first | ((with_reducible refine gate_callee (f := 65) rfl ?_); refine goesL_ (some 51) rfl rfl Try.func65 (by kernel_rfl) rfl #[.int .i64 a0_0] rfl (by (try simp only [List.map_toArray, List.map_cons, List.map_nil]); first | done | rfl | simp) ?_; (with_reducible refine (handoffref10_HasCh.calls a0_0 true _ A23.out).mono ?_); rintro e w' ⟨rfl, ⟨nd, rfl⟩⟩; refine ⟨_, rfl, ?_⟩) | (go_at_call 66; (with_reducible refine (handoffref10_HasV.calls a0_0 true _ A25.out).mono ?_); rintro e w' ⟨rfl, ⟨nd, rfl⟩⟩))
           go_meet
           case rel => exact ⟨_, (decide ((l0_4.length : Int) > 0)), (by first | rfl | (simp; done) | (simp [*]; done)), H', ⟨by have := HJ1.out; first | omega | exact Nat.le_refl _⟩, ⟨by exact blk_w BK164.out⟩, ⟨by repeat (with_reducible first | exact HB.out | apply below_t | refine below_set ?_ GE164.out)⟩⟩
       ·rw [if_neg c27] at H
        have c27b0 : (a0_0 == 1) = false := beq_eq_false_iff_ne.mpr c27
        have c27b1 : (a0_0 != 1) = true := bne_iff_ne.mpr c27
        (first | rw [c27b0] | (simp only [i64_w, i32_w]; rw [c27b0]) | skip)
        by_cases c33 : a0_2 = 0
        ·rw [if_pos c33] at H
         have c33b0 : (a0_2 == 0) = true := beq_iff_eq.mpr c33
         have c33b1 : (a0_2 != 0) = false := bne_eq_false_iff_eq.mpr c33
         clear c33
         by_cases c34 : a0_0 = 9
         ·rw [if_pos c34] at H
          have c34b0 : (a0_0 == 9) = true := beq_iff_eq.mpr c34
          have c34b1 : (a0_0 != 9) = false := bne_eq_false_iff_eq.mpr c34
          clear c34
          have H' := Aside0.mk H
          clear H
          have hcz35 := blk6 BK164.out
          as_aux_lemma =>
           go_wp2_with (first | ((with_reducible refine gate_callee (f := 65) rfl ?_); refine goesL_ (some 51) rfl rfl Try.func65 (by kernel_rfl) rfl #[.int .i64 a0_0] rfl (by (try simp only [List.map_toArray, List.map_cons, List.map_nil]); first | done | rfl | simp) ?_; (with_reducible refine (handoffref10_HasCh.calls a0_0 true _ A23.out).mono ?_); rintro e w' ⟨rfl, ⟨nd, rfl⟩⟩; refine ⟨_, rfl, ?_⟩) | (go_at_call 66; (with_reducible refine (handoffref10_HasV.calls a0_0 true _ A25.out).mono ?_); rintro e w' ⟨rfl, ⟨nd, rfl⟩⟩))
           go_meet
           case rel => exact ⟨_, (false), (by first | rfl | (simp; done) | (simp [*]; done)), H', ⟨by have := HJ1.out; first | omega | exact Nat.le_refl _⟩, ⟨by exact blk_w BK164.out⟩, ⟨by repeat (with_reducible first | exact HB.out | apply below_t | refine below_set ?_ GE164.out)⟩⟩
         ·rw [if_neg c34] at H
          have c34b0 : (a0_0 == 9) = false := beq_eq_false_iff_ne.mpr c34
          have c34b1 : (a0_0 != 9) = true := bne_iff_ne.mpr c34
          by_cases c36 : a0_5 = true
          ·subst c36
           have H1 : (handoffref10_RightOp.j1 kj1 true a0_0 a0_1 a0_2 a0_3 l0_4 true) = some r := by rw [if_pos rfl] at H; exact H
           clear H
           have H := H1
           clear H1
           have H' := Aside0.mk H
           clear H
           have hcz37 := blk6 BK164.out
           as_aux_lemma =>
            go_wp2_with (first | ((with_reducible refine gate_callee (f := 65) rfl ?_); refine goesL_ (some 51) rfl rfl Try.func65 (by kernel_rfl) rfl #[.int .i64 a0_0] rfl (by (try simp only [List.map_toArray, List.map_cons, List.map_nil]); first | done | rfl | simp) ?_; (with_reducible refine (handoffref10_HasCh.calls a0_0 true _ A23.out).mono ?_); rintro e w' ⟨rfl, ⟨nd, rfl⟩⟩; refine ⟨_, rfl, ?_⟩) | (go_at_call 66; (with_reducible refine (handoffref10_HasV.calls a0_0 true _ A25.out).mono ?_); rintro e w' ⟨rfl, ⟨nd, rfl⟩⟩))
            go_meet
            case rel => exact ⟨_, (true), (by first | rfl | (simp; done) | (simp [*]; done)), H', ⟨by have := HJ1.out; first | omega | exact Nat.le_refl _⟩, ⟨by exact blk_w BK164.out⟩, ⟨by repeat (with_reducible first | exact HB.out | apply below_t | refine below_set ?_ GE164.out)⟩⟩
          ·replace c36 := Bool.eq_false_iff.mpr c36
           subst c36
           have H1 : (handoffref10_RightOp.j1 kj1 (decide ((l0_4.length : Int) > 0)) a0_0 a0_1 a0_2 a0_3 l0_4 false) = some r := by rw [if_neg (show ¬ (false = true) by decide)] at H; exact H
           clear H
           have H := H1
           clear H1
           have H' := Aside0.mk H
           clear H
           have hcz38 := blk6 BK164.out
           as_aux_lemma =>
            go_wp2_with (first | ((with_reducible refine gate_callee (f := 65) rfl ?_); refine goesL_ (some 51) rfl rfl Try.func65 (by kernel_rfl) rfl #[.int .i64 a0_0] rfl (by (try simp only [List.map_toArray, List.map_cons, List.map_nil]); first | done | rfl | simp) ?_; (with_reducible refine (handoffref10_HasCh.calls a0_0 true _ A23.out).mono ?_); rintro e w' ⟨rfl, ⟨nd, rfl⟩⟩; refine ⟨_, rfl, ?_⟩) | (go_at_call 66; (with_reducible refine (handoffref10_HasV.calls a0_0 true _ A25.out).mono ?_); rintro e w' ⟨rfl, ⟨nd, rfl⟩⟩))
            go_meet
            case rel => exact ⟨_, (decide ((l0_4.length : Int) > 0)), (by first | rfl | (simp; done) | (simp [*]; done)), H', ⟨by have := HJ1.out; first | omega | exact Nat.le_refl _⟩, ⟨by exact blk_w BK164.out⟩, ⟨by repeat (with_reducible first | exact HB.out | apply below_t | refine below_set ?_ GE164.out)⟩⟩
        ·rw [if_neg c33] at H
         have c33b0 : (a0_2 == 0) = false := beq_eq_false_iff_ne.mpr c33
         have c33b1 : (a0_2 != 0) = true := bne_iff_ne.mpr c33
         have H' := Aside0.mk H
         clear H
         have hcz39 := blk6 BK164.out
         as_aux_lemma =>
          go_wp2_with (first | ((with_reducible refine gate_callee (f := 65) rfl ?_); refine goesL_ (some 51) rfl rfl Try.func65 (by kernel_rfl) rfl #[.int .i64 a0_0] rfl (by (try simp only [List.map_toArray, List.map_cons, List.map_nil]); first | done | rfl | simp) ?_; (with_reducible refine (handoffref10_HasCh.calls a0_0 true _ A23.out).mono ?_); rintro e w' ⟨rfl, ⟨nd, rfl⟩⟩; refine ⟨_, rfl, ?_⟩) | (go_at_call 66; (with_reducible refine (handoffref10_HasV.calls a0_0 true _ A25.out).mono ?_); rintro e w' ⟨rfl, ⟨nd, rfl⟩⟩))
          go_meet
          case rel => exact ⟨_, (true), (by first | rfl | (simp; done) | (simp [*]; done)), H', ⟨by have := HJ1.out; first | omega | exact Nat.le_refl _⟩, ⟨by exact blk_w BK164.out⟩, ⟨by repeat (with_reducible first | exact HB.out | apply below_t | refine below_set ?_ GE164.out)⟩⟩
      ·replace c26 := Bool.eq_false_iff.mpr c26
       subst c26
       have H1 : (if a0_3 = 0 then (if a0_0 = 1 then (if a0_0 = 9 then (handoffref10_RightOp.j1 kj1 false a0_0 a0_1 a0_2 a0_3 l0_4 a0_5) else (if a0_5 = true then (handoffref10_RightOp.j1 kj1 true a0_0 a0_1 a0_2 a0_3 l0_4 a0_5) else (handoffref10_RightOp.j1 kj1 (decide ((l0_4.length : Int) > 0)) a0_0 a0_1 a0_2 a0_3 l0_4 a0_5))) else (if a0_2 = 0 then (if a0_0 = 9 then (handoffref10_RightOp.j1 kj1 false a0_0 a0_1 a0_2 a0_3 l0_4 a0_5) else (if a0_5 = true then (handoffref10_RightOp.j1 kj1 true a0_0 a0_1 a0_2 a0_3 l0_4 a0_5) else (handoffref10_RightOp.j1 kj1 (decide ((l0_4.length : Int) > 0)) a0_0 a0_1 a0_2 a0_3 l0_4 a0_5))) else (handoffref10_RightOp.j1 kj1 true a0_0 a0_1 a0_2 a0_3 l0_4 a0_5))) else (handoffref10_RightOp.j1 kj1 true a0_0 a0_1 a0_2 a0_3 l0_4 a0_5)) = some r := by rw [if_neg (show ¬ (false = true) by decide)] at H; exact H
       clear H
       have H := H1
       clear H1
       by_cases c40 : a0_3 = 0
       ·rw [if_pos c40] at H
        have c40b0 : (a0_3 == 0) = true := beq_iff_eq.mpr c40
        have c40b1 : (a0_3 != 0) = false := bne_eq_false_iff_eq.mpr c40
        clear c40
        by_cases c41 : a0_0 = 1
        ·rw [if_pos c41] at H
         have c41b0 : (a0_0 == 1) = true := beq_iff_eq.mpr c41
         have c41b1 : (a0_0 != 1) = false := bne_eq_false_iff_eq.mpr c41
         clear c41
         by_cases c42 : a0_0 = 9
         ·rw [if_pos c42] at H
          have c42b0 : (a0_0 == 9) = true := beq_iff_eq.mpr c42
          have c42b1 : (a0_0 != 9) = false := bne_eq_false_iff_eq.mpr c42
          clear c42
          have H' := Aside0.mk H
          clear H
          have hcz43 := blk6 BK164.out
          as_aux_lemma =>
           go_wp2_with (first | ((with_reducible refine gate_callee (f := 65) rfl ?_); refine goesL_ (some 51) rfl rfl Try.func65 (by kernel_rfl) rfl #[.int .i64 a0_0] rfl (by (try simp only [List.map_toArray, List.map_cons, List.map_nil]); first | done | rfl | simp) ?_; (with_reducible refine (handoffref10_HasCh.calls a0_0 true _ A23.out).mono ?_); rintro e w' ⟨rfl, ⟨nd, rfl⟩⟩; refine ⟨_, rfl, ?_⟩) | (go_at_call 66; (with_reducible refine (handoffref10_HasV.calls a0_0 false _ A25.out).mono ?_); rintro e w' ⟨rfl, ⟨nd, rfl⟩⟩))
           go_meet
           case rel => exact ⟨_, (false), (by first | rfl | (simp; done) | (simp [*]; done)), H', ⟨by have := HJ1.out; first | omega | exact Nat.le_refl _⟩, ⟨by exact blk_w BK164.out⟩, ⟨by repeat (with_reducible first | exact HB.out | apply below_t | refine below_set ?_ GE164.out)⟩⟩
         ·rw [if_neg c42] at H
          have c42b0 : (a0_0 == 9) = false := beq_eq_false_iff_ne.mpr c42
          have c42b1 : (a0_0 != 9) = true := bne_iff_ne.mpr c42
          by_cases c44 : a0_5 = true
          ·subst c44
           have H1 : (handoffref10_RightOp.j1 kj1 true a0_0 a0_1 a0_2 a0_3 l0_4 true) = some r := by rw [if_pos rfl] at H; exact H
           clear H
           have H := H1
           clear H1
           have H' := Aside0.mk H
           clear H
           have hcz45 := blk6 BK164.out
           as_aux_lemma =>
            go_wp2_with (first | ((with_reducible refine gate_callee (f := 65) rfl ?_); refine goesL_ (some 51) rfl rfl Try.func65 (by kernel_rfl) rfl #[.int .i64 a0_0] rfl (by (try simp only [List.map_toArray, List.map_cons, List.map_nil]); first | done | rfl | simp) ?_; (with_reducible refine (handoffref10_HasCh.calls a0_0 true _ A23.out).mono ?_); rintro e w' ⟨rfl, ⟨nd, rfl⟩⟩; refine ⟨_, rfl, ?_⟩) | (go_at_call 66; (with_reducible refine (handoffref10_HasV.calls a0_0 false _ A25.out).mono ?_); rintro e w' ⟨rfl, ⟨nd, rfl⟩⟩))
            go_meet
            case rel => exact ⟨_, (true), (by first | rfl | (simp; done) | (simp [*]; done)), H', ⟨by have := HJ1.out; first | omega | exact Nat.le_refl _⟩, ⟨by exact blk_w BK164.out⟩, ⟨by repeat (with_reducible first | exact HB.out | apply below_t | refine below_set ?_ GE164.out)⟩⟩
          ·replace c44 := Bool.eq_false_iff.mpr c44
           subst c44
           have H1 : (handoffref10_RightOp.j1 kj1 (decide ((l0_4.length : Int) > 0)) a0_0 a0_1 a0_2 a0_3 l0_4 false) = some r := by rw [if_neg (show ¬ (false = true) by decide)] at H; exact H
           clear H
           have H := H1
           clear H1
           have H' := Aside0.mk H
           clear H
           have hcz46 := blk6 BK164.out
           as_aux_lemma =>
            go_wp2_with (first | ((with_reducible refine gate_callee (f := 65) rfl ?_); refine goesL_ (some 51) rfl rfl Try.func65 (by kernel_rfl) rfl #[.int .i64 a0_0] rfl (by (try simp only [List.map_toArray, List.map_cons, List.map_nil]); first | done | rfl | simp) ?_; (with_reducible refine (handoffref10_HasCh.calls a0_0 true _ A23.out).mono ?_); rintro e w' ⟨rfl, ⟨nd, rfl⟩⟩; refine ⟨_, rfl, ?_⟩) | (go_at_call 66; (with_reducible refine (handoffref10_HasV.calls a0_0 false _ A25.out).mono ?_); rintro e w' ⟨rfl, ⟨nd, rfl⟩⟩))
            go_meet
            case rel => exact ⟨_, (decide ((l0_4.length : Int) > 0)), (by first | rfl | (simp; done) | (simp [*]; done)), H', ⟨by have := HJ1.out; first | omega | exact Nat.le_refl _⟩, ⟨by exact blk_w BK164.out⟩, ⟨by repeat (with_reducible first | exact HB.out | apply below_t | refine below_set ?_ GE164.out)⟩⟩
        ·rw [if_neg c41] at H
         have c41b0 : (a0_0 == 1) = false := beq_eq_false_iff_ne.mpr c41
         have c41b1 : (a0_0 != 1) = true := bne_iff_ne.mpr c41
         by_cases c47 : a0_2 = 0
         ·rw [if_pos c47] at H
          have c47b0 : (a0_2 == 0) = true := beq_iff_eq.mpr c47
          have c47b1 : (a0_2 != 0) = false := bne_eq_false_iff_eq.mpr c47
          clear c47
          by_cases c48 : a0_0 = 9
          ·rw [if_pos c48] at H
           have c48b0 : (a0_0 == 9) = true := beq_iff_eq.mpr c48
           have c48b1 : (a0_0 != 9) = false := bne_eq_false_iff_eq.mpr c48
           clear c48
           have H' := Aside0.mk H
           clear H
           have hcz49 := blk6 BK164.out
           as_aux_lemma =>
            go_wp2_with (first | ((with_reducible refine gate_callee (f := 65) rfl ?_); refine goesL_ (some 51) rfl rfl Try.func65 (by kernel_rfl) rfl #[.int .i64 a0_0] rfl (by (try simp only [List.map_toArray, List.map_cons, List.map_nil]); first | done | rfl | simp) ?_; (with_reducible refine (handoffref10_HasCh.calls a0_0 true _ A23.out).mono ?_); rintro e w' ⟨rfl, ⟨nd, rfl⟩⟩; refine ⟨_, rfl, ?_⟩) | (go_at_call 66; (with_reducible refine (handoffref10_HasV.calls a0_0 false _ A25.out).mono ?_); rintro e w' ⟨rfl, ⟨nd, rfl⟩⟩))
            go_meet
            case rel => exact ⟨_, (false), (by first | rfl | (simp; done) | (simp [*]; done)), H', ⟨by have := HJ1.out; first | omega | exact Nat.le_refl _⟩, ⟨by exact blk_w BK164.out⟩, ⟨by repeat (with_reducible first | exact HB.out | apply below_t | refine below_set ?_ GE164.out)⟩⟩
          ·rw [if_neg c48] at H
           have c48b0 : (a0_0 == 9) = false := beq_eq_false_iff_ne.mpr c48
           have c48b1 : (a0_0 != 9) = true := bne_iff_ne.mpr c48
           by_cases c50 : a0_5 = true
           ·subst c50
            have H1 : (handoffref10_RightOp.j1 kj1 true a0_0 a0_1 a0_2 a0_3 l0_4 true) = some r := by rw [if_pos rfl] at H; exact H
            clear H
            have H := H1
            clear H1
            have H' := Aside0.mk H
            clear H
            have hcz51 := blk6 BK164.out
            as_aux_lemma =>
             go_wp2_with (first | ((with_reducible refine gate_callee (f := 65) rfl ?_); refine goesL_ (some 51) rfl rfl Try.func65 (by kernel_rfl) rfl #[.int .i64 a0_0] rfl (by (try simp only [List.map_toArray, List.map_cons, List.map_nil]); first | done | rfl | simp) ?_; (with_reducible refine (handoffref10_HasCh.calls a0_0 true _ A23.out).mono ?_); rintro e w' ⟨rfl, ⟨nd, rfl⟩⟩; refine ⟨_, rfl, ?_⟩) | (go_at_call 66; (with_reducible refine (handoffref10_HasV.calls a0_0 false _ A25.out).mono ?_); rintro e w' ⟨rfl, ⟨nd, rfl⟩⟩))
             go_meet
             case rel => exact ⟨_, (true), (by first | rfl | (simp; done) | (simp [*]; done)), H', ⟨by have := HJ1.out; first | omega | exact Nat.le_refl _⟩, ⟨by exact blk_w BK164.out⟩, ⟨by repeat (with_reducible first | exact HB.out | apply below_t | refine below_set ?_ GE164.out)⟩⟩
           ·replace c50 := Bool.eq_false_iff.mpr c50
            subst c50
            have H1 : (handoffref10_RightOp.j1 kj1 (decide ((l0_4.length : Int) > 0)) a0_0 a0_1 a0_2 a0_3 l0_4 false) = some r := by rw [if_neg (show ¬ (false = true) by decide)] at H; exact H
            clear H
            have H := H1
            clear H1
            have H' := Aside0.mk H
            clear H
            have hcz52 := blk6 BK164.out
            as_aux_lemma =>
             go_wp2_with (first | ((with_reducible refine gate_callee (f := 65) rfl ?_); refine goesL_ (some 51) rfl rfl Try.func65 (by kernel_rfl) rfl #[.int .i64 a0_0] rfl (by (try simp only [List.map_toArray, List.map_cons, List.map_nil]); first | done | rfl | simp) ?_; (with_reducible refine (handoffref10_HasCh.calls a0_0 true _ A23.out).mono ?_); rintro e w' ⟨rfl, ⟨nd, rfl⟩⟩; refine ⟨_, rfl, ?_⟩) | (go_at_call 66; (with_reducible refine (handoffref10_HasV.calls a0_0 false _ A25.out).mono ?_); rintro e w' ⟨rfl, ⟨nd, rfl⟩⟩))
             go_meet
             case rel => exact ⟨_, (decide ((l0_4.length : Int) > 0)), (by first | rfl | (simp; done) | (simp [*]; done)), H', ⟨by have := HJ1.out; first | omega | exact Nat.le_refl _⟩, ⟨by exact blk_w BK164.out⟩, ⟨by repeat (with_reducible first | exact HB.out | apply below_t | refine below_set ?_ GE164.out)⟩⟩
         ·rw [if_neg c47] at H
          have c47b0 : (a0_2 == 0) = false := beq_eq_false_iff_ne.mpr c47
          have c47b1 : (a0_2 != 0) = true := bne_iff_ne.mpr c47
          have H' := Aside0.mk H
          clear H
          have hcz53 := blk6 BK164.out
          as_aux_lemma =>
           go_wp2_with (first | ((with_reducible refine gate_callee (f := 65) rfl ?_); refine goesL_ (some 51) rfl rfl Try.func65 (by kernel_rfl) rfl #[.int .i64 a0_0] rfl (by (try simp only [List.map_toArray, List.map_cons, List.map_nil]); first | done | rfl | simp) ?_; (with_reducible refine (handoffref10_HasCh.calls a0_0 true _ A23.out).mono ?_); rintro e w' ⟨rfl, ⟨nd, rfl⟩⟩; refine ⟨_, rfl, ?_⟩) | (go_at_call 66; (with_reducible refine (handoffref10_HasV.calls a0_0 false _ A25.out).mono ?_); rintro e w' ⟨rfl, ⟨nd, rfl⟩⟩))
           go_meet
           case rel => exact ⟨_, (true), (by first | rfl | (simp; done) | (simp [*]; done)), H', ⟨by have := HJ1.out; first | omega | exact Nat.le_refl _⟩, ⟨by exact blk_w BK164.out⟩, ⟨by repeat (with_reducible first | exact HB.out | apply below_t | refine below_set ?_ GE164.out)⟩⟩
       ·rw [if_neg c40] at H
        have c40b0 : (a0_3 == 0) = false := beq_eq_false_iff_ne.mpr c40
        have c40b1 : (a0_3 != 0) = true := bne_iff_ne.mpr c40
        have H' := Aside0.mk H
        clear H
        have hcz54 := blk6 BK164.out
        as_aux_lemma =>
         go_wp2_with (first | ((with_reducible refine gate_callee (f := 65) rfl ?_); refine goesL_ (some 51) rfl rfl Try.func65 (by kernel_rfl) rfl #[.int .i64 a0_0] rfl (by (try simp only [List.map_toArray, List.map_cons, List.map_nil]); first | done | rfl | simp) ?_; (with_reducible refine (handoffref10_HasCh.calls a0_0 true _ A23.out).mono ?_); rintro e w' ⟨rfl, ⟨nd, rfl⟩⟩; refine ⟨_, rfl, ?_⟩) | (go_at_call 66; (with_reducible refine (handoffref10_HasV.calls a0_0 false _ A25.out).mono ?_); rintro e w' ⟨rfl, ⟨nd, rfl⟩⟩))
         go_meet
         case rel => exact ⟨_, (true), (by first | rfl | (simp; done) | (simp [*]; done)), H', ⟨by have := HJ1.out; first | omega | exact Nat.le_refl _⟩, ⟨by exact blk_w BK164.out⟩, ⟨by repeat (with_reducible first | exact HB.out | apply below_t | refine below_set ?_ GE164.out)⟩⟩
     ·replace c24 := Bool.eq_false_iff.mpr c24
      subst c24
      have H1 : (if a0_1 = 0 then ((handoffref10_HasV.f a0_0).bind fun t167 => (if t167 = true then (if a0_0 = 1 then (if a0_0 = 9 then (handoffref10_RightOp.j1 kj1 false a0_0 a0_1 a0_2 a0_3 l0_4 a0_5) else (if a0_5 = true then (handoffref10_RightOp.j1 kj1 true a0_0 a0_1 a0_2 a0_3 l0_4 a0_5) else (handoffref10_RightOp.j1 kj1 (decide ((l0_4.length : Int) > 0)) a0_0 a0_1 a0_2 a0_3 l0_4 a0_5))) else (if a0_2 = 0 then (if a0_0 = 9 then (handoffref10_RightOp.j1 kj1 false a0_0 a0_1 a0_2 a0_3 l0_4 a0_5) else (if a0_5 = true then (handoffref10_RightOp.j1 kj1 true a0_0 a0_1 a0_2 a0_3 l0_4 a0_5) else (handoffref10_RightOp.j1 kj1 (decide ((l0_4.length : Int) > 0)) a0_0 a0_1 a0_2 a0_3 l0_4 a0_5))) else (handoffref10_RightOp.j1 kj1 true a0_0 a0_1 a0_2 a0_3 l0_4 a0_5))) else (if a0_3 = 0 then (if a0_0 = 1 then (if a0_0 = 9 then (handoffref10_RightOp.j1 kj1 false a0_0 a0_1 a0_2 a0_3 l0_4 a0_5) else (if a0_5 = true then (handoffref10_RightOp.j1 kj1 true a0_0 a0_1 a0_2 a0_3 l0_4 a0_5) else (handoffref10_RightOp.j1 kj1 (decide ((l0_4.length : Int) > 0)) a0_0 a0_1 a0_2 a0_3 l0_4 a0_5))) else (if a0_2 = 0 then (if a0_0 = 9 then (handoffref10_RightOp.j1 kj1 false a0_0 a0_1 a0_2 a0_3 l0_4 a0_5) else (if a0_5 = true then (handoffref10_RightOp.j1 kj1 true a0_0 a0_1 a0_2 a0_3 l0_4 a0_5) else (handoffref10_RightOp.j1 kj1 (decide ((l0_4.length : Int) > 0)) a0_0 a0_1 a0_2 a0_3 l0_4 a0_5))) else (handoffref10_RightOp.j1 kj1 true a0_0 a0_1 a0_2 a0_3 l0_4 a0_5))) else (handoffref10_RightOp.j1 kj1 true a0_0 a0_1 a0_2 a0_3 l0_4 a0_5)))) else (handoffref10_RightOp.j1 kj1 true a0_0 a0_1 a0_2 a0_3 l0_4 a0_5)) = some r := by rw [if_neg (show ¬ (false = true) by decide)] at H; exact H
      clear H
      have H := H1
      clear H1
      by_cases c55 : a0_1 = 0
      ·rw [if_pos c55] at H
       have c55b0 : (a0_1 == 0) = true := beq_iff_eq.mpr c55
       have c55b1 : (a0_1 != 0) = false := bne_eq_false_iff_eq.mpr c55
       clear c55
       replace H := Option.bind_eq_some_iff.mp H
       obtain ⟨t167, A560, H⟩ := H
       try dsimp only at H
       have A56 := Aside0.mk A560
       clear A560
       by_cases c57 : t167 = true
       ·subst c57
        have H1 : (if a0_0 = 1 then (if a0_0 = 9 then (handoffref10_RightOp.j1 kj1 false a0_0 a0_1 a0_2 a0_3 l0_4 a0_5) else (if a0_5 = true then (handoffref10_RightOp.j1 kj1 true a0_0 a0_1 a0_2 a0_3 l0_4 a0_5) else (handoffref10_RightOp.j1 kj1 (decide ((l0_4.length : Int) > 0)) a0_0 a0_1 a0_2 a0_3 l0_4 a0_5))) else (if a0_2 = 0 then (if a0_0 = 9 then (handoffref10_RightOp.j1 kj1 false a0_0 a0_1 a0_2 a0_3 l0_4 a0_5) else (if a0_5 = true then (handoffref10_RightOp.j1 kj1 true a0_0 a0_1 a0_2 a0_3 l0_4 a0_5) else (handoffref10_RightOp.j1 kj1 (decide ((l0_4.length : Int) > 0)) a0_0 a0_1 a0_2 a0_3 l0_4 a0_5))) else (handoffref10_RightOp.j1 kj1 true a0_0 a0_1 a0_2 a0_3 l0_4 a0_5))) = some r := by rw [if_pos rfl] at H; exact H
        clear H
        have H := H1
        clear H1
        by_cases c58 : a0_0 = 1
        ·rw [if_pos c58] at H
         have c58b0 : (a0_0 == 1) = true := beq_iff_eq.mpr c58
         have c58b1 : (a0_0 != 1) = false := bne_eq_false_iff_eq.mpr c58
         clear c58
         by_cases c59 : a0_0 = 9
         ·rw [if_pos c59] at H
          have c59b0 : (a0_0 == 9) = true := beq_iff_eq.mpr c59
          have c59b1 : (a0_0 != 9) = false := bne_eq_false_iff_eq.mpr c59
          clear c59
          have H' := Aside0.mk H
          clear H
          have hcz60 := blk6 BK164.out
          as_aux_lemma =>
           go_wp2_with (first | ((with_reducible refine gate_callee (f := 65) rfl ?_); refine goesL_ (some 51) rfl rfl Try.func65 (by kernel_rfl) rfl #[.int .i64 a0_0] rfl (by (try simp only [List.map_toArray, List.map_cons, List.map_nil]); first | done | rfl | simp) ?_; (with_reducible refine (handoffref10_HasCh.calls a0_0 false _ A23.out).mono ?_); rintro e w' ⟨rfl, ⟨nd, rfl⟩⟩; refine ⟨_, rfl, ?_⟩) | (go_at_call 66; (with_reducible refine (handoffref10_HasV.calls a0_0 true _ A56.out).mono ?_); rintro e w' ⟨rfl, ⟨nd, rfl⟩⟩))
           go_meet
           case rel => exact ⟨_, (false), (by first | rfl | (simp; done) | (simp [*]; done)), H', ⟨by have := HJ1.out; first | omega | exact Nat.le_refl _⟩, ⟨by exact blk_w BK164.out⟩, ⟨by repeat (with_reducible first | exact HB.out | apply below_t | refine below_set ?_ GE164.out)⟩⟩
         ·rw [if_neg c59] at H
          have c59b0 : (a0_0 == 9) = false := beq_eq_false_iff_ne.mpr c59
          have c59b1 : (a0_0 != 9) = true := bne_iff_ne.mpr c59
          by_cases c61 : a0_5 = true
          ·subst c61
           have H1 : (handoffref10_RightOp.j1 kj1 true a0_0 a0_1 a0_2 a0_3 l0_4 true) = some r := by rw [if_pos rfl] at H; exact H
           clear H
           have H := H1
           clear H1
           have H' := Aside0.mk H
           clear H
           have hcz62 := blk6 BK164.out
           as_aux_lemma =>
            go_wp2_with (first | ((with_reducible refine gate_callee (f := 65) rfl ?_); refine goesL_ (some 51) rfl rfl Try.func65 (by kernel_rfl) rfl #[.int .i64 a0_0] rfl (by (try simp only [List.map_toArray, List.map_cons, List.map_nil]); first | done | rfl | simp) ?_; (with_reducible refine (handoffref10_HasCh.calls a0_0 false _ A23.out).mono ?_); rintro e w' ⟨rfl, ⟨nd, rfl⟩⟩; refine ⟨_, rfl, ?_⟩) | (go_at_call 66; (with_reducible refine (handoffref10_HasV.calls a0_0 true _ A56.out).mono ?_); rintro e w' ⟨rfl, ⟨nd, rfl⟩⟩))
            go_meet
            case rel => exact ⟨_, (true), (by first | rfl | (simp; done) | (simp [*]; done)), H', ⟨by have := HJ1.out; first | omega | exact Nat.le_refl _⟩, ⟨by exact blk_w BK164.out⟩, ⟨by repeat (with_reducible first | exact HB.out | apply below_t | refine below_set ?_ GE164.out)⟩⟩
          ·replace c61 := Bool.eq_false_iff.mpr c61
           subst c61
           have H1 : (handoffref10_RightOp.j1 kj1 (decide ((l0_4.length : Int) > 0)) a0_0 a0_1 a0_2 a0_3 l0_4 false) = some r := by rw [if_neg (show ¬ (false = true) by decide)] at H; exact H
           clear H
           have H := H1
           clear H1
           have H' := Aside0.mk H
           clear H
           have hcz63 := blk6 BK164.out
           as_aux_lemma =>
            go_wp2_with (first | ((with_reducible refine gate_callee (f := 65) rfl ?_); refine goesL_ (some 51) rfl rfl Try.func65 (by kernel_rfl) rfl #[.int .i64 a0_0] rfl (by (try simp only [List.map_toArray, List.map_cons, List.map_nil]); first | done | rfl | simp) ?_; (with_reducible refine (handoffref10_HasCh.calls a0_0 false _ A23.out).mono ?_); rintro e w' ⟨rfl, ⟨nd, rfl⟩⟩; refine ⟨_, rfl, ?_⟩) | (go_at_call 66; (with_reducible refine (handoffref10_HasV.calls a0_0 true _ A56.out).mono ?_); rintro e w' ⟨rfl, ⟨nd, rfl⟩⟩))
            go_meet
            case rel => exact ⟨_, (decide ((l0_4.length : Int) > 0)), (by first | rfl | (simp; done) | (simp [*]; done)), H', ⟨by have := HJ1.out; first | omega | exact Nat.le_refl _⟩, ⟨by exact blk_w BK164.out⟩, ⟨by repeat (with_reducible first | exact HB.out | apply below_t | refine below_set ?_ GE164.out)⟩⟩
        ·rw [if_neg c58] at H
         have c58b0 : (a0_0 == 1) = false := beq_eq_false_iff_ne.mpr c58
         have c58b1 : (a0_0 != 1) = true := bne_iff_ne.mpr c58
         by_cases c64 : a0_2 = 0
         ·rw [if_pos c64] at H
          have c64b0 : (a0_2 == 0) = true := beq_iff_eq.mpr c64
          have c64b1 : (a0_2 != 0) = false := bne_eq_false_iff_eq.mpr c64
          clear c64
          by_cases c65 : a0_0 = 9
          ·rw [if_pos c65] at H
           have c65b0 : (a0_0 == 9) = true := beq_iff_eq.mpr c65
           have c65b1 : (a0_0 != 9) = false := bne_eq_false_iff_eq.mpr c65
           clear c65
           have H' := Aside0.mk H
           clear H
           have hcz66 := blk6 BK164.out
           as_aux_lemma =>
            go_wp2_with (first | ((with_reducible refine gate_callee (f := 65) rfl ?_); refine goesL_ (some 51) rfl rfl Try.func65 (by kernel_rfl) rfl #[.int .i64 a0_0] rfl (by (try simp only [List.map_toArray, List.map_cons, List.map_nil]); first | done | rfl | simp) ?_; (with_reducible refine (handoffref10_HasCh.calls a0_0 false _ A23.out).mono ?_); rintro e w' ⟨rfl, ⟨nd, rfl⟩⟩; refine ⟨_, rfl, ?_⟩) | (go_at_call 66; (with_reducible refine (handoffref10_HasV.calls a0_0 true _ A56.out).mono ?_); rintro e w' ⟨rfl, ⟨nd, rfl⟩⟩))
            go_meet
            case rel => exact ⟨_, (false), (by first | rfl | (simp; done) | (simp [*]; done)), H', ⟨by have := HJ1.out; first | omega | exact Nat.le_refl _⟩, ⟨by exact blk_w BK164.out⟩, ⟨by repeat (with_reducible first | exact HB.out | apply below_t | refine below_set ?_ GE164.out)⟩⟩
          ·rw [if_neg c65] at H
           have c65b0 : (a0_0 == 9) = false := beq_eq_false_iff_ne.mpr c65
           have c65b1 : (a0_0 != 9) = true := bne_iff_ne.mpr c65
           by_cases c67 : a0_5 = true
           ·subst c67
            have H1 : (handoffref10_RightOp.j1 kj1 true a0_0 a0_1 a0_2 a0_3 l0_4 true) = some r := by rw [if_pos rfl] at H; exact H
            clear H
            have H := H1
            clear H1
            have H' := Aside0.mk H
            clear H
            have hcz68 := blk6 BK164.out
            as_aux_lemma =>
             go_wp2_with (first | ((with_reducible refine gate_callee (f := 65) rfl ?_); refine goesL_ (some 51) rfl rfl Try.func65 (by kernel_rfl) rfl #[.int .i64 a0_0] rfl (by (try simp only [List.map_toArray, List.map_cons, List.map_nil]); first | done | rfl | simp) ?_; (with_reducible refine (handoffref10_HasCh.calls a0_0 false _ A23.out).mono ?_); rintro e w' ⟨rfl, ⟨nd, rfl⟩⟩; refine ⟨_, rfl, ?_⟩) | (go_at_call 66; (with_reducible refine (handoffref10_HasV.calls a0_0 true _ A56.out).mono ?_); rintro e w' ⟨rfl, ⟨nd, rfl⟩⟩))
             go_meet
             case rel => exact ⟨_, (true), (by first | rfl | (simp; done) | (simp [*]; done)), H', ⟨by have := HJ1.out; first | omega | exact Nat.le_refl _⟩, ⟨by exact blk_w BK164.out⟩, ⟨by repeat (with_reducible first | exact HB.out | apply below_t | refine below_set ?_ GE164.out)⟩⟩
           ·replace c67 := Bool.eq_false_iff.mpr c67
            subst c67
            have H1 : (handoffref10_RightOp.j1 kj1 (decide ((l0_4.length : Int) > 0)) a0_0 a0_1 a0_2 a0_3 l0_4 false) = some r := by rw [if_neg (show ¬ (false = true) by decide)] at H; exact H
            clear H
            have H := H1
            clear H1
            have H' := Aside0.mk H
            clear H
            have hcz69 := blk6 BK164.out
            as_aux_lemma =>
             go_wp2_with (first | ((with_reducible refine gate_callee (f := 65) rfl ?_); refine goesL_ (some 51) rfl rfl Try.func65 (by kernel_rfl) rfl #[.int .i64 a0_0] rfl (by (try simp only [List.map_toArray, List.map_cons, List.map_nil]); first | done | rfl | simp) ?_; (with_reducible refine (handoffref10_HasCh.calls a0_0 false _ A23.out).mono ?_); rintro e w' ⟨rfl, ⟨nd, rfl⟩⟩; refine ⟨_, rfl, ?_⟩) | (go_at_call 66; (with_reducible refine (handoffref10_HasV.calls a0_0 true _ A56.out).mono ?_); rintro e w' ⟨rfl, ⟨nd, rfl⟩⟩))
             go_meet
             case rel => exact ⟨_, (decide ((l0_4.length : Int) > 0)), (by first | rfl | (simp; done) | (simp [*]; done)), H', ⟨by have := HJ1.out; first | omega | exact Nat.le_refl _⟩, ⟨by exact blk_w BK164.out⟩, ⟨by repeat (with_reducible first | exact HB.out | apply below_t | refine below_set ?_ GE164.out)⟩⟩
         ·rw [if_neg c64] at H
          have c64b0 : (a0_2 == 0) = false := beq_eq_false_iff_ne.mpr c64
          have c64b1 : (a0_2 != 0) = true := bne_iff_ne.mpr c64
          have H' := Aside0.mk H
          clear H
          have hcz70 := blk6 BK164.out
          as_aux_lemma =>
           go_wp2_with (first | ((with_reducible refine gate_callee (f := 65) rfl ?_); refine goesL_ (some 51) rfl rfl Try.func65 (by kernel_rfl) rfl #[.int .i64 a0_0] rfl (by (try simp only [List.map_toArray, List.map_cons, List.map_nil]); first | done | rfl | simp) ?_; (with_reducible refine (handoffref10_HasCh.calls a0_0 false _ A23.out).mono ?_); rintro e w' ⟨rfl, ⟨nd, rfl⟩⟩; refine ⟨_, rfl, ?_⟩) | (go_at_call 66; (with_reducible refine (handoffref10_HasV.calls a0_0 true _ A56.out).mono ?_); rintro e w' ⟨rfl, ⟨nd, rfl⟩⟩))
           go_meet
           case rel => exact ⟨_, (true), (by first | rfl | (simp; done) | (simp [*]; done)), H', ⟨by have := HJ1.out; first | omega | exact Nat.le_refl _⟩, ⟨by exact blk_w BK164.out⟩, ⟨by repeat (with_reducible first | exact HB.out | apply below_t | refine below_set ?_ GE164.out)⟩⟩
       ·replace c57 := Bool.eq_false_iff.mpr c57
        subst c57
        have H1 : (if a0_3 = 0 then (if a0_0 = 1 then (if a0_0 = 9 then (handoffref10_RightOp.j1 kj1 false a0_0 a0_1 a0_2 a0_3 l0_4 a0_5) else (if a0_5 = true then (handoffref10_RightOp.j1 kj1 true a0_0 a0_1 a0_2 a0_3 l0_4 a0_5) else (handoffref10_RightOp.j1 kj1 (decide ((l0_4.length : Int) > 0)) a0_0 a0_1 a0_2 a0_3 l0_4 a0_5))) else (if a0_2 = 0 then (if a0_0 = 9 then (handoffref10_RightOp.j1 kj1 false a0_0 a0_1 a0_2 a0_3 l0_4 a0_5) else (if a0_5 = true then (handoffref10_RightOp.j1 kj1 true a0_0 a0_1 a0_2 a0_3 l0_4 a0_5) else (handoffref10_RightOp.j1 kj1 (decide ((l0_4.length : Int) > 0)) a0_0 a0_1 a0_2 a0_3 l0_4 a0_5))) else (handoffref10_RightOp.j1 kj1 true a0_0 a0_1 a0_2 a0_3 l0_4 a0_5))) else (handoffref10_RightOp.j1 kj1 true a0_0 a0_1 a0_2 a0_3 l0_4 a0_5)) = some r := by rw [if_neg (show ¬ (false = true) by decide)] at H; exact H
        clear H
        have H := H1
        clear H1
        by_cases c71 : a0_3 = 0
        ·rw [if_pos c71] at H
         have c71b0 : (a0_3 == 0) = true := beq_iff_eq.mpr c71
         have c71b1 : (a0_3 != 0) = false := bne_eq_false_iff_eq.mpr c71
         clear c71
         by_cases c72 : a0_0 = 1
         ·rw [if_pos c72] at H
          have c72b0 : (a0_0 == 1) = true := beq_iff_eq.mpr c72
          have c72b1 : (a0_0 != 1) = false := bne_eq_false_iff_eq.mpr c72
          clear c72
          by_cases c73 : a0_0 = 9
          ·rw [if_pos c73] at H
           have c73b0 : (a0_0 == 9) = true := beq_iff_eq.mpr c73
           have c73b1 : (a0_0 != 9) = false := bne_eq_false_iff_eq.mpr c73
           clear c73
           have H' := Aside0.mk H
           clear H
           have hcz74 := blk6 BK164.out
           as_aux_lemma =>
            go_wp2_with (first | ((with_reducible refine gate_callee (f := 65) rfl ?_); refine goesL_ (some 51) rfl rfl Try.func65 (by kernel_rfl) rfl #[.int .i64 a0_0] rfl (by (try simp only [List.map_toArray, List.map_cons, List.map_nil]); first | done | rfl | simp) ?_; (with_reducible refine (handoffref10_HasCh.calls a0_0 false _ A23.out).mono ?_); rintro e w' ⟨rfl, ⟨nd, rfl⟩⟩; refine ⟨_, rfl, ?_⟩) | (go_at_call 66; (with_reducible refine (handoffref10_HasV.calls a0_0 false _ A56.out).mono ?_); rintro e w' ⟨rfl, ⟨nd, rfl⟩⟩))
            go_meet
            case rel => exact ⟨_, (false), (by first | rfl | (simp; done) | (simp [*]; done)), H', ⟨by have := HJ1.out; first | omega | exact Nat.le_refl _⟩, ⟨by exact blk_w BK164.out⟩, ⟨by repeat (with_reducible first | exact HB.out | apply below_t | refine below_set ?_ GE164.out)⟩⟩
          ·rw [if_neg c73] at H
           have c73b0 : (a0_0 == 9) = false := beq_eq_false_iff_ne.mpr c73
           have c73b1 : (a0_0 != 9) = true := bne_iff_ne.mpr c73
           by_cases c75 : a0_5 = true
           ·subst c75
            have H1 : (handoffref10_RightOp.j1 kj1 true a0_0 a0_1 a0_2 a0_3 l0_4 true) = some r := by rw [if_pos rfl] at H; exact H
            clear H
            have H := H1
            clear H1
            have H' := Aside0.mk H
            clear H
            have hcz76 := blk6 BK164.out
            as_aux_lemma =>
             go_wp2_with (first | ((with_reducible refine gate_callee (f := 65) rfl ?_); refine goesL_ (some 51) rfl rfl Try.func65 (by kernel_rfl) rfl #[.int .i64 a0_0] rfl (by (try simp only [List.map_toArray, List.map_cons, List.map_nil]); first | done | rfl | simp) ?_; (with_reducible refine (handoffref10_HasCh.calls a0_0 false _ A23.out).mono ?_); rintro e w' ⟨rfl, ⟨nd, rfl⟩⟩; refine ⟨_, rfl, ?_⟩) | (go_at_call 66; (with_reducible refine (handoffref10_HasV.calls a0_0 false _ A56.out).mono ?_); rintro e w' ⟨rfl, ⟨nd, rfl⟩⟩))
             go_meet
             case rel => exact ⟨_, (true), (by first | rfl | (simp; done) | (simp [*]; done)), H', ⟨by have := HJ1.out; first | omega | exact Nat.le_refl _⟩, ⟨by exact blk_w BK164.out⟩, ⟨by repeat (with_reducible first | exact HB.out | apply below_t | refine below_set ?_ GE164.out)⟩⟩
           ·replace c75 := Bool.eq_false_iff.mpr c75
            subst c75
            have H1 : (handoffref10_RightOp.j1 kj1 (decide ((l0_4.length : Int) > 0)) a0_0 a0_1 a0_2 a0_3 l0_4 false) = some r := by rw [if_neg (show ¬ (false = true) by decide)] at H; exact H
            clear H
            have H := H1
            clear H1
            have H' := Aside0.mk H
            clear H
            have hcz77 := blk6 BK164.out
            as_aux_lemma =>
             go_wp2_with (first | ((with_reducible refine gate_callee (f := 65) rfl ?_); refine goesL_ (some 51) rfl rfl Try.func65 (by kernel_rfl) rfl #[.int .i64 a0_0] rfl (by (try simp only [List.map_toArray, List.map_cons, List.map_nil]); first | done | rfl | simp) ?_; (with_reducible refine (handoffref10_HasCh.calls a0_0 false _ A23.out).mono ?_); rintro e w' ⟨rfl, ⟨nd, rfl⟩⟩; refine ⟨_, rfl, ?_⟩) | (go_at_call 66; (with_reducible refine (handoffref10_HasV.calls a0_0 false _ A56.out).mono ?_); rintro e w' ⟨rfl, ⟨nd, rfl⟩⟩))
             go_meet
             case rel => exact ⟨_, (decide ((l0_4.length : Int) > 0)), (by first | rfl | (simp; done) | (simp [*]; done)), H', ⟨by have := HJ1.out; first | omega | exact Nat.le_refl _⟩, ⟨by exact blk_w BK164.out⟩, ⟨by repeat (with_reducible first | exact HB.out | apply below_t | refine below_set ?_ GE164.out)⟩⟩
         ·rw [if_neg c72] at H
          have c72b0 : (a0_0 == 1) = false := beq_eq_false_iff_ne.mpr c72
          have c72b1 : (a0_0 != 1) = true := bne_iff_ne.mpr c72
          by_cases c78 : a0_2 = 0
          ·rw [if_pos c78] at H
           have c78b0 : (a0_2 == 0) = true := beq_iff_eq.mpr c78
           have c78b1 : (a0_2 != 0) = false := bne_eq_false_iff_eq.mpr c78
           clear c78
           by_cases c79 : a0_0 = 9
           ·rw [if_pos c79] at H
            have c79b0 : (a0_0 == 9) = true := beq_iff_eq.mpr c79
            have c79b1 : (a0_0 != 9) = false := bne_eq_false_iff_eq.mpr c79
            clear c79
            have H' := Aside0.mk H
            clear H
            have hcz80 := blk6 BK164.out
            as_aux_lemma =>
             go_wp2_with (first | ((with_reducible refine gate_callee (f := 65) rfl ?_); refine goesL_ (some 51) rfl rfl Try.func65 (by kernel_rfl) rfl #[.int .i64 a0_0] rfl (by (try simp only [List.map_toArray, List.map_cons, List.map_nil]); first | done | rfl | simp) ?_; (with_reducible refine (handoffref10_HasCh.calls a0_0 false _ A23.out).mono ?_); rintro e w' ⟨rfl, ⟨nd, rfl⟩⟩; refine ⟨_, rfl, ?_⟩) | (go_at_call 66; (with_reducible refine (handoffref10_HasV.calls a0_0 false _ A56.out).mono ?_); rintro e w' ⟨rfl, ⟨nd, rfl⟩⟩))
             go_meet
             case rel => exact ⟨_, (false), (by first | rfl | (simp; done) | (simp [*]; done)), H', ⟨by have := HJ1.out; first | omega | exact Nat.le_refl _⟩, ⟨by exact blk_w BK164.out⟩, ⟨by repeat (with_reducible first | exact HB.out | apply below_t | refine below_set ?_ GE164.out)⟩⟩
           ·rw [if_neg c79] at H
            have c79b0 : (a0_0 == 9) = false := beq_eq_false_iff_ne.mpr c79
            have c79b1 : (a0_0 != 9) = true := bne_iff_ne.mpr c79
            by_cases c81 : a0_5 = true
            ·subst c81
             have H1 : (handoffref10_RightOp.j1 kj1 true a0_0 a0_1 a0_2 a0_3 l0_4 true) = some r := by rw [if_pos rfl] at H; exact H
             clear H
             have H := H1
             clear H1
             have H' := Aside0.mk H
             clear H
             have hcz82 := blk6 BK164.out
             as_aux_lemma =>
              go_wp2_with (first | ((with_reducible refine gate_callee (f := 65) rfl ?_); refine goesL_ (some 51) rfl rfl Try.func65 (by kernel_rfl) rfl #[.int .i64 a0_0] rfl (by (try simp only [List.map_toArray, List.map_cons, List.map_nil]); first | done | rfl | simp) ?_; (with_reducible refine (handoffref10_HasCh.calls a0_0 false _ A23.out).mono ?_); rintro e w' ⟨rfl, ⟨nd, rfl⟩⟩; refine ⟨_, rfl, ?_⟩) | (go_at_call 66; (with_reducible refine (handoffref10_HasV.calls a0_0 false _ A56.out).mono ?_); rintro e w' ⟨rfl, ⟨nd, rfl⟩⟩))
              go_meet
              case rel => exact ⟨_, (true), (by first | rfl | (simp; done) | (simp [*]; done)), H', ⟨by have := HJ1.out; first | omega | exact Nat.le_refl _⟩, ⟨by exact blk_w BK164.out⟩, ⟨by repeat (with_reducible first | exact HB.out | apply below_t | refine below_set ?_ GE164.out)⟩⟩
            ·replace c81 := Bool.eq_false_iff.mpr c81
             subst c81
             have H1 : (handoffref10_RightOp.j1 kj1 (decide ((l0_4.length : Int) > 0)) a0_0 a0_1 a0_2 a0_3 l0_4 false) = some r := by rw [if_neg (show ¬ (false = true) by decide)] at H; exact H
             clear H
             have H := H1
             clear H1
             have H' := Aside0.mk H
             clear H
             have hcz83 := blk6 BK164.out
             as_aux_lemma =>
              go_wp2_with (first | ((with_reducible refine gate_callee (f := 65) rfl ?_); refine goesL_ (some 51) rfl rfl Try.func65 (by kernel_rfl) rfl #[.int .i64 a0_0] rfl (by (try simp only [List.map_toArray, List.map_cons, List.map_nil]); first | done | rfl | simp) ?_; (with_reducible refine (handoffref10_HasCh.calls a0_0 false _ A23.out).mono ?_); rintro e w' ⟨rfl, ⟨nd, rfl⟩⟩; refine ⟨_, rfl, ?_⟩) | (go_at_call 66; (with_reducible refine (handoffref10_HasV.calls a0_0 false _ A56.out).mono ?_); rintro e w' ⟨rfl, ⟨nd, rfl⟩⟩))
              go_meet
              case rel => exact ⟨_, (decide ((l0_4.length : Int) > 0)), (by first | rfl | (simp; done) | (simp [*]; done)), H', ⟨by have := HJ1.out; first | omega | exact Nat.le_refl _⟩, ⟨by exact blk_w BK164.out⟩, ⟨by repeat (with_reducible first | exact HB.out | apply below_t | refine below_set ?_ GE164.out)⟩⟩
          ·rw [if_neg c78] at H
           have c78b0 : (a0_2 == 0) = false := beq_eq_false_iff_ne.mpr c78
           have c78b1 : (a0_2 != 0) = true := bne_iff_ne.mpr c78
           have H' := Aside0.mk H
           clear H
           have hcz84 := blk6 BK164.out
           as_aux_lemma =>
            go_wp2_with (first | ((with_reducible refine gate_callee (f := 65) rfl ?_); refine goesL_ (some 51) rfl rfl Try.func65 (by kernel_rfl) rfl #[.int .i64 a0_0] rfl (by (try simp only [List.map_toArray, List.map_cons, List.map_nil]); first | done | rfl | simp) ?_; (with_reducible refine (handoffref10_HasCh.calls a0_0 false _ A23.out).mono ?_); rintro e w' ⟨rfl, ⟨nd, rfl⟩⟩; refine ⟨_, rfl, ?_⟩) | (go_at_call 66; (with_reducible refine (handoffref10_HasV.calls a0_0 false _ A56.out).mono ?_); rintro e w' ⟨rfl, ⟨nd, rfl⟩⟩))
            go_meet
            case rel => exact ⟨_, (true), (by first | rfl | (simp; done) | (simp [*]; done)), H', ⟨by have := HJ1.out; first | omega | exact Nat.le_refl _⟩, ⟨by exact blk_w BK164.out⟩, ⟨by repeat (with_reducible first | exact HB.out | apply below_t | refine below_set ?_ GE164.out)⟩⟩
        ·rw [if_neg c71] at H
         have c71b0 : (a0_3 == 0) = false := beq_eq_false_iff_ne.mpr c71
         have c71b1 : (a0_3 != 0) = true := bne_iff_ne.mpr c71
         have H' := Aside0.mk H
         clear H
         have hcz85 := blk6 BK164.out
         as_aux_lemma =>
          go_wp2_with (first | ((with_reducible refine gate_callee (f := 65) rfl ?_); refine goesL_ (some 51) rfl rfl Try.func65 (by kernel_rfl) rfl #[.int .i64 a0_0] rfl (by (try simp only [List.map_toArray, List.map_cons, List.map_nil]); first | done | rfl | simp) ?_; (with_reducible refine (handoffref10_HasCh.calls a0_0 false _ A23.out).mono ?_); rintro e w' ⟨rfl, ⟨nd, rfl⟩⟩; refine ⟨_, rfl, ?_⟩) | (go_at_call 66; (with_reducible refine (handoffref10_HasV.calls a0_0 false _ A56.out).mono ?_); rintro e w' ⟨rfl, ⟨nd, rfl⟩⟩))
          go_meet
          case rel => exact ⟨_, (true), (by first | rfl | (simp; done) | (simp [*]; done)), H', ⟨by have := HJ1.out; first | omega | exact Nat.le_refl _⟩, ⟨by exact blk_w BK164.out⟩, ⟨by repeat (with_reducible first | exact HB.out | apply below_t | refine below_set ?_ GE164.out)⟩⟩
      ·rw [if_neg c55] at H
       have c55b0 : (a0_1 == 0) = false := beq_eq_false_iff_ne.mpr c55
       have c55b1 : (a0_1 != 0) = true := bne_iff_ne.mpr c55
       have H' := Aside0.mk H
       clear H
       have hcz86 := blk6 BK164.out
       as_aux_lemma =>
        go_wp2_with (first | ((with_reducible refine gate_callee (f := 65) rfl ?_); refine goesL_ (some 51) rfl rfl Try.func65 (by kernel_rfl) rfl #[.int .i64 a0_0] rfl (by (try simp only [List.map_toArray, List.map_cons, List.map_nil]); first | done | rfl | simp) ?_; (with_reducible refine (handoffref10_HasCh.calls a0_0 false _ A23.out).mono ?_); rintro e w' ⟨rfl, ⟨nd, rfl⟩⟩; refine ⟨_, rfl, ?_⟩))
        go_meet
        case rel => exact ⟨_, (true), (by first | rfl | (simp; done) | (simp [*]; done)), H', ⟨by have := HJ1.out; first | omega | exact Nat.le_refl _⟩, ⟨by exact blk_w BK164.out⟩, ⟨by repeat (with_reducible first | exact HB.out | apply below_t | refine below_set ?_ GE164.out)⟩⟩
    case rest =>
     clear HC22
     obtain ⟨kq, x93_21, rfl, HA, HJ21, BK164, HB⟩ := hcut
     cases kq with
     | zero => exact absurd HA.out (by simp [handoffref10_RightOp.j1])
     | succ kj21 =>
      have H := HA.out
      clear HA
      simp only [handoffref10_RightOp.j1] at H
      by_cases c87 : x93_21 = true
      ·subst c87
       have H1 : (some false) = some r := by rw [if_pos rfl] at H; exact H
       clear H
       have H := H1
       clear H1
       obtain rfl := Option.some.inj H
       as_aux_lemma =>
        go_wp2
        go_ret
        exact ⟨by first | rfl | (simp [errW_none, errW_some] <;> rfl) | (simp [*, errW_none, errW_some] <;> rfl), by repeat (with_reducible first | exact HB.out | apply below_t | refine below_set ?_ GE164.out)⟩
      ·replace c87 := Bool.eq_false_iff.mpr c87
       subst c87
       have H1 : (handoffref10_RightOp.l0 kj21 l0_4 (l0_4.length : Int) 0) = some r := by rw [if_neg (show ¬ (false = true) by decide)] at H; exact H
       clear H
       have H := H1
       clear H1
       have H' := Aside0.mk H
       clear H
       have hcz88 := blk6 BK164.out
       as_aux_lemma =>
        go_wp2
        go_loopg [97] kj21 (fun kq v97 w' => ∃ (x97_3 : Int), v97 = .int .i64 x97_3 ∧ Aside0 (handoffref10_RightOp.l0 kq l0_4 (l0_4.length : Int) x97_3 = some r) ∧ Aside0 (kq ≤ kj21) ∧ Aside0 (w'.heap[gb164]? = some (.cells #[.int .i64 a0_0, .int .i64 a0_1, .int .i64 a0_2, .int .i64 a0_3, (.slice A0_4 l0_4.length c0_4), .bool a0_5] 39 (0, 0))) ∧ Aside0 (Below w.heap.size w w'))
        case atStart => exact ⟨(0), (by first | rfl | (simp; done) | (simp [*]; done)), H', ⟨Nat.le_refl _⟩, ⟨by exact blk_w BK164.out⟩, ⟨by repeat (with_reducible first | exact HB.out | apply below_t | refine below_set ?_ GE164.out)⟩⟩
        case round =>
         clear H'
         (try clear c87); (try clear hcz88); (try clear hcz88)
         obtain ⟨x97_3, rfl, HA, HK3, BK164, HB⟩ := hrel
         cases gk with
         | zero => exact absurd HA.out (by simp [handoffref10_RightOp.l0])
         | succ k3 =>
          have H := HA.out
          clear HA
          simp only [handoffref10_RightOp.l0] at H
          by_cases c89 : x97_3 < (l0_4.length : Int)
          ·rw [if_pos c89] at H
           have c89b0 : decide (x97_3 < (l0_4.length : Int)) = true := decide_eq_true c89
           clear c89
           by_cases c90 : 0 ≤ x97_3
           ·rw [if_pos c90] at H
            have c90b0 : decide (0 ≤ x97_3) = true := decide_eq_true c90
            clear c90
            by_cases c91 : x97_3 < (l0_4.length : Int)
            ·rw [if_pos c91] at H
             have c91b0 : decide (x97_3 < (l0_4.length : Int)) = true := decide_eq_true c91
             clear c91
             by_cases c92 : ((rd_T116 l0_4 x97_3).f1) < 0
             ·rw [if_pos c92] at H
              have c92b0 : decide (((rd_T116 l0_4 x97_3).f1) < 0) = true := decide_eq_true c92
              clear c92
              obtain rfl := Option.some.inj H
              have p168 : 0 ≤ (x97_3 : Int) := of_decide_eq_true (by first | (with_reducible assumption) | assumption)
              have q168 : x97_3 < (l0_4.length : Int) := of_decide_eq_true (by first | (with_reducible assumption) | assumption)
              obtain ⟨ad168, e168, hx168_0, hx168_1, hx168_2⟩ := at_T116 HR0_4.out x97_3 p168 q168
              cases e168
              replace hx168_0 := (HB.out.cell (World.block_lt_of_cell? w _ hx168_0)).trans hx168_0
              replace hx168_1 := (HB.out.cell (World.block_lt_of_cell? w _ hx168_1)).trans hx168_1
              replace hx168_2 := (HB.out.cell (World.block_lt_of_cell? w _ hx168_2)).trans hx168_2
              replace p168 := eq_true p168
              replace q168 := eq_true q168
              go_wp2_with (first | ((with_reducible refine gate_dst (N := 4) rfl ?_); (try (refine gate_guard (by rfl) ?_; dsimp only)); refine box_event ?hg (N := 4) ?hd (cs := #[.bool false, .int .i64 0, .int .i64 0]) (t := 116) ?hr ?_; (case hd => rfl); (case hg => rfl); (case hr => first | (go_simp; done) | (go_simp; rfl)); intro gb169 hg w93 hbox hb; have n0_ := Aside0.mk (blk_below (g := gb164) (o := .cells #[.int .i64 a0_0, .int .i64 a0_1, .int .i64 a0_2, .int .i64 a0_3, .slice (some ad168) l0_4.length c0_4, .bool a0_5] 39 (0, 0)) (by exact blk_w BK164.out) hb); have n1_ := Aside0.mk (below_step (by repeat (with_reducible first | exact HB.out | apply below_t | refine below_set ?_ GE164.out)) hb); have n2_ := Aside0.mk (hbox); have n3_ := Aside0.mk ((by rw [hg]; exact (below_size (by repeat (with_reducible first | exact HB.out | apply below_t | refine below_set ?_ GE164.out))) : w.heap.size ≤ gb169)); have n4_ := Aside0.mk ((by rw [hg]; exact (below_size (by repeat (with_reducible first | exact HB.out | apply below_t | refine below_set ?_ GE164.out))) : w.heap.size ≤ gb169)); have n5_ := Aside0.mk ((by rw [hg]; exact Nat.ne_of_lt (blk_lt (g := gb164) (o := .cells #[.int .i64 a0_0, .int .i64 a0_1, .int .i64 a0_2, .int .i64 a0_3, .slice (some ad168) l0_4.length c0_4, .bool a0_5] 39 (0, 0)) (by exact blk_w BK164.out)) : gb164 ≠ gb169)); have n6_ := Aside0.mk ((by rw [hg]; exact Nat.ne_of_gt (blk_lt (g := gb164) (o := .cells #[.int .i64 a0_0, .int .i64 a0_1, .int .i64 a0_2, .int .i64 a0_3, .slice (some ad168) l0_4.length c0_4, .bool a0_5] 39 (0, 0)) (by exact blk_w BK164.out)) : gb169 ≠ gb164)); clear BK164; clear HB; have BK164 := n0_; have HB := n1_; have BK169 := n2_; have GW169 := n3_; have GE169 := n4_; have NB164_169 := n5_; have NB169_164 := n6_; clear n0_ n1_ n2_ n3_ n4_ n5_ n6_; clear hb hbox hg; have hnb94 := NB169_164.out; have hnc94 := NB164_169.out; have hcz95 := blk3 BK169.out))
              go_ret
              exact ⟨by first | rfl | (simp [errW_none, errW_some] <;> rfl) | (simp [*, errW_none, errW_some] <;> rfl), by repeat (with_reducible first | exact HB.out | apply below_t | refine below_set ?_ GE164.out | refine below_set ?_ GE169.out)⟩
             ·rw [if_neg c92] at H
              have c92b0 : decide (((rd_T116 l0_4 x97_3).f1) < 0) = false := decide_eq_false c92
              clear c92
              by_cases c96 : ((rd_T116 l0_4 x97_3).f1) > 8
              ·rw [if_pos c96] at H
               have c96b0 : decide (8 < ((rd_T116 l0_4 x97_3).f1)) = true := decide_eq_true c96
               clear c96
               obtain rfl := Option.some.inj H
               have p168 : 0 ≤ (x97_3 : Int) := of_decide_eq_true (by first | (with_reducible assumption) | assumption)
               have q168 : x97_3 < (l0_4.length : Int) := of_decide_eq_true (by first | (with_reducible assumption) | assumption)
               obtain ⟨ad168, e168, hx168_0, hx168_1, hx168_2⟩ := at_T116 HR0_4.out x97_3 p168 q168
               cases e168
               replace hx168_0 := (HB.out.cell (World.block_lt_of_cell? w _ hx168_0)).trans hx168_0
               replace hx168_1 := (HB.out.cell (World.block_lt_of_cell? w _ hx168_1)).trans hx168_1
               replace hx168_2 := (HB.out.cell (World.block_lt_of_cell? w _ hx168_2)).trans hx168_2
               replace p168 := eq_true p168
               replace q168 := eq_true q168
               go_wp2_with (first | ((with_reducible refine gate_dst (N := 4) rfl ?_); (try (refine gate_guard (by rfl) ?_; dsimp only)); refine box_event ?hg (N := 4) ?hd (cs := #[.bool false, .int .i64 0, .int .i64 0]) (t := 116) ?hr ?_; (case hd => rfl); (case hg => rfl); (case hr => first | (go_simp; done) | (go_simp; rfl)); intro gb169 hg w97 hbox hb; have n0_ := Aside0.mk (blk_below (g := gb164) (o := .cells #[.int .i64 a0_0, .int .i64 a0_1, .int .i64 a0_2, .int .i64 a0_3, .slice (some ad168) l0_4.length c0_4, .bool a0_5] 39 (0, 0)) (by exact blk_w BK164.out) hb); have n1_ := Aside0.mk (below_step (by repeat (with_reducible first | exact HB.out | apply below_t | refine below_set ?_ GE164.out)) hb); have n2_ := Aside0.mk (hbox); have n3_ := Aside0.mk ((by rw [hg]; exact (below_size (by repeat (with_reducible first | exact HB.out | apply below_t | refine below_set ?_ GE164.out))) : w.heap.size ≤ gb169)); have n4_ := Aside0.mk ((by rw [hg]; exact (below_size (by repeat (with_reducible first | exact HB.out | apply below_t | refine below_set ?_ GE164.out))) : w.heap.size ≤ gb169)); have n5_ := Aside0.mk ((by rw [hg]; exact Nat.ne_of_lt (blk_lt (g := gb164) (o := .cells #[.int .i64 a0_0, .int .i64 a0_1, .int .i64 a0_2, .int .i64 a0_3, .slice (some ad168) l0_4.length c0_4, .bool a0_5] 39 (0, 0)) (by exact blk_w BK164.out)) : gb164 ≠ gb169)); have n6_ := Aside0.mk ((by rw [hg]; exact Nat.ne_of_gt (blk_lt (g := gb164) (o := .cells #[.int .i64 a0_0, .int .i64 a0_1, .int .i64 a0_2, .int .i64 a0_3, .slice (some ad168) l0_4.length c0_4, .bool a0_5] 39 (0, 0)) (by exact blk_w BK164.out)) : gb169 ≠ gb164)); clear BK164; clear HB; have BK164 := n0_; have HB := n1_; have BK169 := n2_; have GW169 := n3_; have GE169 := n4_; have NB164_169 := n5_; have NB169_164 := n6_; clear n0_ n1_ n2_ n3_ n4_ n5_ n6_; clear hb hbox hg; have hnb98 := NB169_164.out; have hnc98 := NB164_169.out; have hcz99 := blk3 BK169.out))
               go_ret
               exact ⟨by first | rfl | (simp [errW_none, errW_some] <;> rfl) | (simp [*, errW_none, errW_some] <;> rfl), by repeat (with_reducible first | exact HB.out | apply below_t | refine below_set ?_ GE164.out | refine below_set ?_ GE169.out)⟩
              ·rw [if_neg c96] at H
               have c96b0 : decide (8 < ((rd_T116 l0_4 x97_3).f1)) = false := decide_eq_false c96
               clear c96
               by_cases c100 : ((rd_T116 l0_4 x97_3).f2) < 0
               ·rw [if_pos c100] at H
                have c100b0 : decide (((rd_T116 l0_4 x97_3).f2) < 0) = true := decide_eq_true c100
                clear c100
                obtain rfl := Option.some.inj H
                have p168 : 0 ≤ (x97_3 : Int) := of_decide_eq_true (by first | (with_reducible assumption) | assumption)
                have q168 : x97_3 < (l0_4.length : Int) := of_decide_eq_true (by first | (with_reducible assumption) | assumption)
                obtain ⟨ad168, e168, hx168_0, hx168_1, hx168_2⟩ := at_T116 HR0_4.out x97_3 p168 q168
                cases e168
                replace hx168_0 := (HB.out.cell (World.block_lt_of_cell? w _ hx168_0)).trans hx168_0
                replace hx168_1 := (HB.out.cell (World.block_lt_of_cell? w _ hx168_1)).trans hx168_1
                replace hx168_2 := (HB.out.cell (World.block_lt_of_cell? w _ hx168_2)).trans hx168_2
                replace p168 := eq_true p168
                replace q168 := eq_true q168
                go_wp2_with (first | ((with_reducible refine gate_dst (N := 4) rfl ?_); (try (refine gate_guard (by rfl) ?_; dsimp only)); refine box_event ?hg (N := 4) ?hd (cs := #[.bool false, .int .i64 0, .int .i64 0]) (t := 116) ?hr ?_; (case hd => rfl); (case hg => rfl); (case hr => first | (go_simp; done) | (go_simp; rfl)); intro gb169 hg w101 hbox hb; have n0_ := Aside0.mk (blk_below (g := gb164) (o := .cells #[.int .i64 a0_0, .int .i64 a0_1, .int .i64 a0_2, .int .i64 a0_3, .slice (some ad168) l0_4.length c0_4, .bool a0_5] 39 (0, 0)) (by exact blk_w BK164.out) hb); have n1_ := Aside0.mk (below_step (by repeat (with_reducible first | exact HB.out | apply below_t | refine below_set ?_ GE164.out)) hb); have n2_ := Aside0.mk (hbox); have n3_ := Aside0.mk ((by rw [hg]; exact (below_size (by repeat (with_reducible first | exact HB.out | apply below_t | refine below_set ?_ GE164.out))) : w.heap.size ≤ gb169)); have n4_ := Aside0.mk ((by rw [hg]; exact (below_size (by repeat (with_reducible first | exact HB.out | apply below_t | refine below_set ?_ GE164.out))) : w.heap.size ≤ gb169)); have n5_ := Aside0.mk ((by rw [hg]; exact Nat.ne_of_lt (blk_lt (g := gb164) (o := .cells #[.int .i64 a0_0, .int .i64 a0_1, .int .i64 a0_2, .int .i64 a0_3, .slice (some ad168) l0_4.length c0_4, .bool a0_5] 39 (0, 0)) (by exact blk_w BK164.out)) : gb164 ≠ gb169)); have n6_ := Aside0.mk ((by rw [hg]; exact Nat.ne_of_gt (blk_lt (g := gb164) (o := .cells #[.int .i64 a0_0, .int .i64 a0_1, .int .i64 a0_2, .int .i64 a0_3, .slice (some ad168) l0_4.length c0_4, .bool a0_5] 39 (0, 0)) (by exact blk_w BK164.out)) : gb169 ≠ gb164)); clear BK164; clear HB; have BK164 := n0_; have HB := n1_; have BK169 := n2_; have GW169 := n3_; have GE169 := n4_; have NB164_169 := n5_; have NB169_164 := n6_; clear n0_ n1_ n2_ n3_ n4_ n5_ n6_; clear hb hbox hg; have hnb102 := NB169_164.out; have hnc102 := NB164_169.out; have hcz103 := blk3 BK169.out))
                go_ret
                exact ⟨by first | rfl | (simp [errW_none, errW_some] <;> rfl) | (simp [*, errW_none, errW_some] <;> rfl), by repeat (with_reducible first | exact HB.out | apply below_t | refine below_set ?_ GE164.out | refine below_set ?_ GE169.out)⟩
               ·rw [if_neg c100] at H
                have c100b0 : decide (((rd_T116 l0_4 x97_3).f2) < 0) = false := decide_eq_false c100
                clear c100
                by_cases c104 : ((rd_T116 l0_4 x97_3).f2) > 255
                ·rw [if_pos c104] at H
                 have c104b0 : decide (255 < ((rd_T116 l0_4 x97_3).f2)) = true := decide_eq_true c104
                 clear c104
                 obtain rfl := Option.some.inj H
                 have p168 : 0 ≤ (x97_3 : Int) := of_decide_eq_true (by first | (with_reducible assumption) | assumption)
                 have q168 : x97_3 < (l0_4.length : Int) := of_decide_eq_true (by first | (with_reducible assumption) | assumption)
                 obtain ⟨ad168, e168, hx168_0, hx168_1, hx168_2⟩ := at_T116 HR0_4.out x97_3 p168 q168
                 cases e168
                 replace hx168_0 := (HB.out.cell (World.block_lt_of_cell? w _ hx168_0)).trans hx168_0
                 replace hx168_1 := (HB.out.cell (World.block_lt_of_cell? w _ hx168_1)).trans hx168_1
                 replace hx168_2 := (HB.out.cell (World.block_lt_of_cell? w _ hx168_2)).trans hx168_2
                 replace p168 := eq_true p168
                 replace q168 := eq_true q168
                 go_wp2_with (first | ((with_reducible refine gate_dst (N := 4) rfl ?_); (try (refine gate_guard (by rfl) ?_; dsimp only)); refine box_event ?hg (N := 4) ?hd (cs := #[.bool false, .int .i64 0, .int .i64 0]) (t := 116) ?hr ?_; (case hd => rfl); (case hg => rfl); (case hr => first | (go_simp; done) | (go_simp; rfl)); intro gb169 hg w105 hbox hb; have n0_ := Aside0.mk (blk_below (g := gb164) (o := .cells #[.int .i64 a0_0, .int .i64 a0_1, .int .i64 a0_2, .int .i64 a0_3, .slice (some ad168) l0_4.length c0_4, .bool a0_5] 39 (0, 0)) (by exact blk_w BK164.out) hb); have n1_ := Aside0.mk (below_step (by repeat (with_reducible first | exact HB.out | apply below_t | refine below_set ?_ GE164.out)) hb); have n2_ := Aside0.mk (hbox); have n3_ := Aside0.mk ((by rw [hg]; exact (below_size (by repeat (with_reducible first | exact HB.out | apply below_t | refine below_set ?_ GE164.out))) : w.heap.size ≤ gb169)); have n4_ := Aside0.mk ((by rw [hg]; exact (below_size (by repeat (with_reducible first | exact HB.out | apply below_t | refine below_set ?_ GE164.out))) : w.heap.size ≤ gb169)); have n5_ := Aside0.mk ((by rw [hg]; exact Nat.ne_of_lt (blk_lt (g := gb164) (o := .cells #[.int .i64 a0_0, .int .i64 a0_1, .int .i64 a0_2, .int .i64 a0_3, .slice (some ad168) l0_4.length c0_4, .bool a0_5] 39 (0, 0)) (by exact blk_w BK164.out)) : gb164 ≠ gb169)); have n6_ := Aside0.mk ((by rw [hg]; exact Nat.ne_of_gt (blk_lt (g := gb164) (o := .cells #[.int .i64 a0_0, .int .i64 a0_1, .int .i64 a0_2, .int .i64 a0_3, .slice (some ad168) l0_4.length c0_4, .bool a0_5] 39 (0, 0)) (by exact blk_w BK164.out)) : gb169 ≠ gb164)); clear BK164; clear HB; have BK164 := n0_; have HB := n1_; have BK169 := n2_; have GW169 := n3_; have GE169 := n4_; have NB164_169 := n5_; have NB169_164 := n6_; clear n0_ n1_ n2_ n3_ n4_ n5_ n6_; clear hb hbox hg; have hnb106 := NB169_164.out; have hnc106 := NB164_169.out; have hcz107 := blk3 BK169.out))
                 go_ret
                 exact ⟨by first | rfl | (simp [errW_none, errW_some] <;> rfl) | (simp [*, errW_none, errW_some] <;> rfl), by repeat (with_reducible first | exact HB.out | apply below_t | refine below_set ?_ GE164.out | refine below_set ?_ GE169.out)⟩
                ·rw [if_neg c104] at H
                 have c104b0 : decide (255 < ((rd_T116 l0_4 x97_3).f2)) = false := decide_eq_false c104
                 clear c104
                 obtain ⟨bq108, hbq108⟩ : ∃ b_ : Bool, b_ = ((rd_T116 l0_4 x97_3).f0) := ⟨_, rfl⟩
                 replace H : (if (bq108 = true) then (handoffref10_RightOp.l0 k3 l0_4 (l0_4.length : Int) (wrap64 (x97_3 + 1))) else (if ((rd_T116 l0_4 x97_3).f2) = 0 then (handoffref10_RightOp.l0 k3 l0_4 (l0_4.length : Int) (wrap64 (x97_3 + 1))) else (some false))) = some r := by rw [← hbq108] at H; exact H
                 have Nbq108 := Aside0.mk hbq108
                 clear hbq108
                 by_cases c109 : (bq108 = true)
                 ·subst c109
                  have H1 : (handoffref10_RightOp.l0 k3 l0_4 (l0_4.length : Int) (wrap64 (x97_3 + 1))) = some r := by rw [if_pos rfl] at H; exact H
                  clear H
                  have H := H1
                  clear H1
                  have H' := Aside0.mk H
                  clear H
                  have p168 : 0 ≤ (x97_3 : Int) := of_decide_eq_true (by first | (with_reducible assumption) | assumption)
                  have q168 : x97_3 < (l0_4.length : Int) := of_decide_eq_true (by first | (with_reducible assumption) | assumption)
                  obtain ⟨ad168, e168, hx168_0, hx168_1, hx168_2⟩ := at_T116 HR0_4.out x97_3 p168 q168
                  (try rw [← Nbq108.out] at hx168_0)
                  cases e168
                  replace hx168_0 := (HB.out.cell (World.block_lt_of_cell? w _ hx168_0)).trans hx168_0
                  replace hx168_1 := (HB.out.cell (World.block_lt_of_cell? w _ hx168_1)).trans hx168_1
                  replace hx168_2 := (HB.out.cell (World.block_lt_of_cell? w _ hx168_2)).trans hx168_2
                  replace p168 := eq_true p168
                  replace q168 := eq_true q168
                  go_wp2_with (first | ((with_reducible refine gate_dst (N := 4) rfl ?_); (try (refine gate_guard (by rfl) ?_; dsimp only)); refine box_event ?hg (N := 4) ?hd (cs := #[.bool false, .int .i64 0, .int .i64 0]) (t := 116) ?hr ?_; (case hd => rfl); (case hg => rfl); (case hr => first | (go_simp; done) | (go_simp; rfl)); intro gb169 hg w110 hbox hb; have n0_ := Aside0.mk (blk_below (g := gb164) (o := .cells #[.int .i64 a0_0, .int .i64 a0_1, .int .i64 a0_2, .int .i64 a0_3, .slice (some ad168) l0_4.length c0_4, .bool a0_5] 39 (0, 0)) (by exact blk_w BK164.out) hb); have n1_ := Aside0.mk (below_step (by repeat (with_reducible first | exact HB.out | apply below_t | refine below_set ?_ GE164.out)) hb); have n2_ := Aside0.mk (hbox); have n3_ := Aside0.mk ((by rw [hg]; exact (below_size (by repeat (with_reducible first | exact HB.out | apply below_t | refine below_set ?_ GE164.out))) : w.heap.size ≤ gb169)); have n4_ := Aside0.mk ((by rw [hg]; exact (below_size (by repeat (with_reducible first | exact HB.out | apply below_t | refine below_set ?_ GE164.out))) : w.heap.size ≤ gb169)); have n5_ := Aside0.mk ((by rw [hg]; exact Nat.ne_of_lt (blk_lt (g := gb164) (o := .cells #[.int .i64 a0_0, .int .i64 a0_1, .int .i64 a0_2, .int .i64 a0_3, .slice (some ad168) l0_4.length c0_4, .bool a0_5] 39 (0, 0)) (by exact blk_w BK164.out)) : gb164 ≠ gb169)); have n6_ := Aside0.mk ((by rw [hg]; exact Nat.ne_of_gt (blk_lt (g := gb164) (o := .cells #[.int .i64 a0_0, .int .i64 a0_1, .int .i64 a0_2, .int .i64 a0_3, .slice (some ad168) l0_4.length c0_4, .bool a0_5] 39 (0, 0)) (by exact blk_w BK164.out)) : gb169 ≠ gb164)); clear BK164; clear HB; have BK164 := n0_; have HB := n1_; have BK169 := n2_; have GW169 := n3_; have GE169 := n4_; have NB164_169 := n5_; have NB169_164 := n6_; clear n0_ n1_ n2_ n3_ n4_ n5_ n6_; clear hb hbox hg; have hnb111 := NB169_164.out; have hnc111 := NB164_169.out; have hcz112 := blk3 BK169.out))
                  go_roundg k3
                  case measure => have := HJ1.out; have := HJ21.out; have := HK3.out; omega
                  case rel => exact ⟨(wrap64 (x97_3 + 1)), (by first | rfl | (simp; done) | (simp [*]; done)), H', ⟨by have := HJ1.out; have := HJ21.out; have := HK3.out; omega⟩, ⟨by refine blk_w ?_; refine blk_far (blk_w ?_) NB164_169.out _; refine blk_far (blk_w ?_) NB164_169.out _; exact blk_far (blk_w BK164.out) NB164_169.out _⟩, ⟨by repeat (with_reducible first | exact HB.out | apply below_t | refine below_set ?_ GE164.out | refine below_set ?_ GE169.out)⟩⟩
                 ·replace c109 := Bool.eq_false_iff.mpr c109
                  subst c109
                  have H1 : (if ((rd_T116 l0_4 x97_3).f2) = 0 then (handoffref10_RightOp.l0 k3 l0_4 (l0_4.length : Int) (wrap64 (x97_3 + 1))) else (some false)) = some r := by rw [if_neg (show ¬ (false = true) by decide)] at H; exact H
                  clear H
                  have H := H1
                  clear H1
                  by_cases c113 : ((rd_T116 l0_4 x97_3).f2) = 0
                  ·rw [if_pos c113] at H
                   have c113b0 : (((rd_T116 l0_4 x97_3).f2) == 0) = true := beq_iff_eq.mpr c113
                   have c113b1 : (((rd_T116 l0_4 x97_3).f2) != 0) = false := bne_eq_false_iff_eq.mpr c113
                   clear c113
                   have H' := Aside0.mk H
                   clear H
                   have p168 : 0 ≤ (x97_3 : Int) := of_decide_eq_true (by first | (with_reducible assumption) | assumption)
                   have q168 : x97_3 < (l0_4.length : Int) := of_decide_eq_true (by first | (with_reducible assumption) | assumption)
                   obtain ⟨ad168, e168, hx168_0, hx168_1, hx168_2⟩ := at_T116 HR0_4.out x97_3 p168 q168
                   (try rw [← Nbq108.out] at hx168_0)
                   cases e168
                   replace hx168_0 := (HB.out.cell (World.block_lt_of_cell? w _ hx168_0)).trans hx168_0
                   replace hx168_1 := (HB.out.cell (World.block_lt_of_cell? w _ hx168_1)).trans hx168_1
                   replace hx168_2 := (HB.out.cell (World.block_lt_of_cell? w _ hx168_2)).trans hx168_2
                   replace p168 := eq_true p168
                   replace q168 := eq_true q168
                   go_wp2_with (first | ((with_reducible refine gate_dst (N := 4) rfl ?_); (try (refine gate_guard (by rfl) ?_; dsimp only)); refine box_event ?hg (N := 4) ?hd (cs := #[.bool false, .int .i64 0, .int .i64 0]) (t := 116) ?hr ?_; (case hd => rfl); (case hg => rfl); (case hr => first | (go_simp; done) | (go_simp; rfl)); intro gb169 hg w114 hbox hb; have n0_ := Aside0.mk (blk_below (g := gb164) (o := .cells #[.int .i64 a0_0, .int .i64 a0_1, .int .i64 a0_2, .int .i64 a0_3, .slice (some ad168) l0_4.length c0_4, .bool a0_5] 39 (0, 0)) (by exact blk_w BK164.out) hb); have n1_ := Aside0.mk (below_step (by repeat (with_reducible first | exact HB.out | apply below_t | refine below_set ?_ GE164.out)) hb); have n2_ := Aside0.mk (hbox); have n3_ := Aside0.mk ((by rw [hg]; exact (below_size (by repeat (with_reducible first | exact HB.out | apply below_t | refine below_set ?_ GE164.out))) : w.heap.size ≤ gb169)); have n4_ := Aside0.mk ((by rw [hg]; exact (below_size (by repeat (with_reducible first | exact HB.out | apply below_t | refine below_set ?_ GE164.out))) : w.heap.size ≤ gb169)); have n5_ := Aside0.mk ((by rw [hg]; exact Nat.ne_of_lt (blk_lt (g := gb164) (o := .cells #[.int .i64 a0_0, .int .i64 a0_1, .int .i64 a0_2, .int .i64 a0_3, .slice (some ad168) l0_4.length c0_4, .bool a0_5] 39 (0, 0)) (by exact blk_w BK164.out)) : gb164 ≠ gb169)); have n6_ := Aside0.mk ((by rw [hg]; exact Nat.ne_of_gt (blk_lt (g := gb164) (o := .cells #[.int .i64 a0_0, .int .i64 a0_1, .int .i64 a0_2, .int .i64 a0_3, .slice (some ad168) l0_4.length c0_4, .bool a0_5] 39 (0, 0)) (by exact blk_w BK164.out)) : gb169 ≠ gb164)); clear BK164; clear HB; have BK164 := n0_; have HB := n1_; have BK169 := n2_; have GW169 := n3_; have GE169 := n4_; have NB164_169 := n5_; have NB169_164 := n6_; clear n0_ n1_ n2_ n3_ n4_ n5_ n6_; clear hb hbox hg; have hnb115 := NB169_164.out; have hnc115 := NB164_169.out; have hcz116 := blk3 BK169.out))
                   go_roundg k3
                   case measure => have := HJ1.out; have := HJ21.out; have := HK3.out; omega
                   case rel => exact ⟨(wrap64 (x97_3 + 1)), (by first | rfl | (simp; done) | (simp [*]; done)), H', ⟨by have := HJ1.out; have := HJ21.out; have := HK3.out; omega⟩, ⟨by refine blk_w ?_; refine blk_far (blk_w ?_) NB164_169.out _; refine blk_far (blk_w ?_) NB164_169.out _; exact blk_far (blk_w BK164.out) NB164_169.out _⟩, ⟨by repeat (with_reducible first | exact HB.out | apply below_t | refine below_set ?_ GE164.out | refine below_set ?_ GE169.out)⟩⟩
                  ·rw [if_neg c113] at H
                   have c113b0 : (((rd_T116 l0_4 x97_3).f2) == 0) = false := beq_eq_false_iff_ne.mpr c113
                   have c113b1 : (((rd_T116 l0_4 x97_3).f2) != 0) = true := bne_iff_ne.mpr c113
                   obtain rfl := Option.some.inj H
                   have p168 : 0 ≤ (x97_3 : Int) := of_decide_eq_true (by first | (with_reducible assumption) | assumption)
                   have q168 : x97_3 < (l0_4.length : Int) := of_decide_eq_true (by first | (with_reducible assumption) | assumption)
                   obtain ⟨ad168, e168, hx168_0, hx168_1, hx168_2⟩ := at_T116 HR0_4.out x97_3 p168 q168
                   (try rw [← Nbq108.out] at hx168_0)
                   cases e168
                   replace hx168_0 := (HB.out.cell (World.block_lt_of_cell? w _ hx168_0)).trans hx168_0
                   replace hx168_1 := (HB.out.cell (World.block_lt_of_cell? w _ hx168_1)).trans hx168_1
                   replace hx168_2 := (HB.out.cell (World.block_lt_of_cell? w _ hx168_2)).trans hx168_2
                   replace p168 := eq_true p168
                   replace q168 := eq_true q168
                   go_wp2_with (first | ((with_reducible refine gate_dst (N := 4) rfl ?_); (try (refine gate_guard (by rfl) ?_; dsimp only)); refine box_event ?hg (N := 4) ?hd (cs := #[.bool false, .int .i64 0, .int .i64 0]) (t := 116) ?hr ?_; (case hd => rfl); (case hg => rfl); (case hr => first | (go_simp; done) | (go_simp; rfl)); intro gb169 hg w117 hbox hb; have n0_ := Aside0.mk (blk_below (g := gb164) (o := .cells #[.int .i64 a0_0, .int .i64 a0_1, .int .i64 a0_2, .int .i64 a0_3, .slice (some ad168) l0_4.length c0_4, .bool a0_5] 39 (0, 0)) (by exact blk_w BK164.out) hb); have n1_ := Aside0.mk (below_step (by repeat (with_reducible first | exact HB.out | apply below_t | refine below_set ?_ GE164.out)) hb); have n2_ := Aside0.mk (hbox); have n3_ := Aside0.mk ((by rw [hg]; exact (below_size (by repeat (with_reducible first | exact HB.out | apply below_t | refine below_set ?_ GE164.out))) : w.heap.size ≤ gb169)); have n4_ := Aside0.mk ((by rw [hg]; exact (below_size (by repeat (with_reducible first | exact HB.out | apply below_t | refine below_set ?_ GE164.out))) : w.heap.size ≤ gb169)); have n5_ := Aside0.mk ((by rw [hg]; exact Nat.ne_of_lt (blk_lt (g := gb164) (o := .cells #[.int .i64 a0_0, .int .i64 a0_1, .int .i64 a0_2, .int .i64 a0_3, .slice (some ad168) l0_4.length c0_4, .bool a0_5] 39 (0, 0)) (by exact blk_w BK164.out)) : gb164 ≠ gb169)); have n6_ := Aside0.mk ((by rw [hg]; exact Nat.ne_of_gt (blk_lt (g := gb164) (o := .cells #[.int .i64 a0_0, .int .i64 a0_1, .int .i64 a0_2, .int .i64 a0_3, .slice (some ad168) l0_4.length c0_4, .bool a0_5] 39 (0, 0)) (by exact blk_w BK164.out)) : gb169 ≠ gb164)); clear BK164; clear HB; have BK164 := n0_; have HB := n1_; have BK169 := n2_; have GW169 := n3_; have GE169 := n4_; have NB164_169 := n5_; have NB169_164 := n6_; clear n0_ n1_ n2_ n3_ n4_ n5_ n6_; clear hb hbox hg; have hnb118 := NB169_164.out; have hnc118 := NB164_169.out; have hcz119 := blk3 BK169.out))
                   go_ret
                   exact ⟨by first | rfl | (simp [errW_none, errW_some] <;> rfl) | (simp [*, errW_none, errW_some] <;> rfl), by repeat (with_reducible first | exact HB.out | apply below_t | refine below_set ?_ GE164.out | refine below_set ?_ GE169.out)⟩
            ·rw [if_neg c91] at H
             exact absurd H (by simp)
           ·rw [if_neg c90] at H
            exact absurd H (by simp)
          ·rw [if_neg c89] at H
           have c89b0 : decide (x97_3 < (l0_4.length : Int)) = false := decide_eq_false c89
           clear c89
           obtain rfl := Option.some.inj H
           go_wp2
           go_ret
           exact ⟨by first | rfl | (simp [errW_none, errW_some] <;> rfl) | (simp [*, errW_none, errW_some] <;> rfl), by repeat (with_reducible first | exact HB.out | apply below_t | refine below_set ?_ GE164.out)⟩

end Go.Proofs.Ytjmpaeckpbpclaa.PPlK
