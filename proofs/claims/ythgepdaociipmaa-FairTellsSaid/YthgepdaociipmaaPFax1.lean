-- Out of the translation, by a program of this session.
import Derived.Test.YthgepdaociipmaaPFax0
namespace Go.Proofs.Ythgepdaociipmaa.PFa
open Go.RowKit Go.Proofs.YthgepdaociipmaaW.PrintWords Go.Proofs.YthgepdaociipmaaW.PrintLast Go.Proofs.YthgepdaociipmaaW.PrintMore
attribute [local go_sem] max2_int min2_int max_two min_two max_three min_three max_four min_four   -- for this text's walks alone
set_option linter.unusedVariables false
set_option linter.unusedSimpArgs false

/-! ### fair_Work: function 8 -/
mutual
def fair_Work.l0 : Nat → Int → List (List (S46)) → Int → Int → Option (Int)
  | 0, _, _, _, _ => none
  | k + 1, x3, x10, x11, x12 => if x12 < x11 then (if 0 ≤ x12 then (if x12 < (x10.length : Int) then (fair_Work.l1 k x3 x10 x11 x12 (rd_L5 x10 x12) ((rd_L5 x10 x12).length : Int) 0) else (none)) else (none)) else (some x3)
def fair_Work.l1 : Nat → Int → List (List (S46)) → Int → Int → List (S46) → Int → Int → Option (Int)
  | 0, _, _, _, _, _, _, _ => none
  | k + 1, x3, x10, x11, x12, x16, x17, x18 => if x18 < x17 then (if 0 ≤ x18 then (if x18 < (x16.length : Int) then (fair_Work.l1 k (wrap64 (x3 + (wrap64 (24 + (wrap64 (16 * (((rd_T46 x16 x18).f4).length : Int))))))) x10 x11 x12 x16 x17 (wrap64 (x18 + 1))) else (none)) else (none)) else (fair_Work.l0 k x3 x10 x11 (wrap64 (x12 + 1)))
end
def fair_Work.f (k : Nat) (l0 : List (List (S46))) : Option (Int) := fair_Work.l0 k (l0.length : Int) l0 (l0.length : Int) 0
theorem fair_Work.mono_l : ∀ k, (∀ y0 y1 y2 y3, LeO (fair_Work.l0 k y0 y1 y2 y3) (fair_Work.l0 (k + 1) y0 y1 y2 y3)) ∧ (∀ y0 y1 y2 y3 y4 y5 y6, LeO (fair_Work.l1 k y0 y1 y2 y3 y4 y5 y6) (fair_Work.l1 (k + 1) y0 y1 y2 y3 y4 y5 y6))
  | 0 => ⟨fun _ _ _ _ r h => by simp [fair_Work.l0] at h, fun _ _ _ _ _ _ _ r h => by simp [fair_Work.l1] at h⟩
  | k + 1 => by
    obtain ⟨ih0, ih1⟩ := fair_Work.mono_l k
    refine ⟨?_, ?_⟩
    · intro y0 y1 y2 y3
      unfold fair_Work.l0
      repeat' first
      | (with_reducible exact ih0 _ _ _ _)
      | (with_reducible exact ih1 _ _ _ _ _ _ _)
      | (with_reducible exact LeO.refl _)
      | (with_reducible exact LeO.none _)
      | (with_reducible refine LeO.ite ?_ ?_)
      | (with_reducible refine LeO.bind ?_ (fun _ => ?_))
      | exact ih0 _ _ _ _
      | exact ih1 _ _ _ _ _ _ _
      | exact LeO.none _
      | refine LeO.ite ?_ ?_
      | refine LeO.bind ?_ (fun _ => ?_)
    · intro y0 y1 y2 y3 y4 y5 y6
      unfold fair_Work.l1
      repeat' first
      | (with_reducible exact ih0 _ _ _ _)
      | (with_reducible exact ih1 _ _ _ _ _ _ _)
      | (with_reducible exact LeO.refl _)
      | (with_reducible exact LeO.none _)
      | (with_reducible refine LeO.ite ?_ ?_)
      | (with_reducible refine LeO.bind ?_ (fun _ => ?_))
      | exact ih0 _ _ _ _
      | exact ih1 _ _ _ _ _ _ _
      | exact LeO.none _
      | refine LeO.ite ?_ ?_
      | refine LeO.bind ?_ (fun _ => ?_)
theorem fair_Work.mono : ∀ a0 k, LeO (fair_Work.f k a0) (fair_Work.f (k + 1) a0) := by
  intro a0 k
  obtain ⟨ih0, ih1⟩ := fair_Work.mono_l k
  unfold fair_Work.f
  repeat' first
      | (with_reducible exact ih0 _ _ _ _)
      | (with_reducible exact ih1 _ _ _ _ _ _ _)
      | (with_reducible exact LeO.refl _)
      | (with_reducible exact LeO.none _)
      | (with_reducible refine LeO.ite ?_ ?_)
      | (with_reducible refine LeO.bind ?_ (fun _ => ?_))
      | exact ih0 _ _ _ _
      | exact ih1 _ _ _ _ _ _ _
      | exact LeO.none _
      | refine LeO.ite ?_ ?_
      | refine LeO.bind ?_ (fun _ => ?_)
set_option maxHeartbeats 8000000 in
set_option maxRecDepth 100000 in
theorem fair_Work.calls (k : Nat) (A0 : Option Addr) (c0 : Nat) (l0 : List (List (S46))) (r : Int) (w : World) (hr0 : Kd.C (Kd.slice 46 k46) w A0 l0.length l0) (hc0 : l0.length ≤ c0) (h : fair_Work.f k l0 = some r) :
    Calls Try.prog 8 #[.slice A0 l0.length c0] w fun e w' => e = .returned (.int .i64 r) ∧ Below w.heap.size w w' := by
  have hu46 := Try.underlying46
  have HR0 := Aside0.mk hr0
  have HC0 := Aside0.mk hc0
  clear hr0 hc0
  have HB := Aside0.mk (Below.refl w.heap.size w)
  have H : (fair_Work.l0 k (l0.length : Int) l0 (l0.length : Int) 0) = some r := h
  clear h
  have H' := Aside0.mk H
  clear H
  go_enter Try.func8, Try.ntmps8
  go_wp2
  go_loopg [3, 12] k (fun kq v3 v12 w' => ∃ (x3_1 : Int) (x12_1 : Int), v3 = .int .i64 x3_1 ∧ v12 = .int .i64 x12_1 ∧ Aside0 (fair_Work.l0 kq x3_1 l0 (l0.length : Int) x12_1 = some r) ∧ Aside0 (kq ≤ k) ∧ Aside0 (Below w.heap.size w w'))
  case atStart => exact ⟨((l0.length : Int)), (0), (by first | rfl | (simp; done) | (simp [*]; done)), (by first | rfl | (simp; done) | (simp [*]; done)), H', ⟨Nat.le_refl _⟩, ⟨by repeat (first | (with_reducible first | exact HB.out | apply below_alloc | apply pw_below_drewN | apply below_drew1) | exact HB.out)⟩⟩
  case round =>
    clear H'
    obtain ⟨x3_1, x12_1, rfl, rfl, HA, HK1, HB⟩ := hrel
    cases gk with
    | zero => exact absurd HA.out (by simp [fair_Work.l0])
    | succ k1 =>
      have H := HA.out
      clear HA
      simp only [fair_Work.l0] at H
      by_cases c2 : x12_1 < (l0.length : Int)
      · rw [if_pos c2] at H
        have c2b0 : decide (x12_1 < (l0.length : Int)) = true := decide_eq_true c2
        clear c2
        by_cases c3 : 0 ≤ x12_1
        · rw [if_pos c3] at H
          have c3b0 : decide (0 ≤ x12_1) = true := decide_eq_true c3
          clear c3
          by_cases c4 : x12_1 < (l0.length : Int)
          · rw [if_pos c4] at H
            have c4b0 : decide (x12_1 < (l0.length : Int)) = true := decide_eq_true c4
            clear c4
            have H' := Aside0.mk H
            clear H
            have p101 : 0 ≤ (x12_1 : Int) := of_decide_eq_true (by first | (with_reducible assumption) | assumption)
            have q101 : x12_1 < (l0.length : Int) := of_decide_eq_true (by first | (with_reducible assumption) | assumption)
            obtain ⟨ad101, A101_0, c101_0, e101, hx101_0, hl101_0, hi101_0⟩ := at_L5 HR0.out x12_1 p101 q101
            cases e101
            replace hx101_0 := (HB.out.cell (World.block_lt_of_cell? w _ hx101_0)).trans hx101_0
            have HR101_0 := Aside0.mk hi101_0
            have HC101_0 := Aside0.mk hl101_0
            clear hi101_0 hl101_0
            replace p101 := eq_true p101
            replace q101 := eq_true q101
            go_wp2
            go_loopg [3, 18] k1 (fun kq v3 v18 w' => ∃ (x3_2 : Int) (x18_2 : Int), v3 = .int .i64 x3_2 ∧ v18 = .int .i64 x18_2 ∧ Aside0 (fair_Work.l1 kq x3_2 l0 (l0.length : Int) x12_1 (rd_L5 l0 x12_1) ((rd_L5 l0 x12_1).length : Int) x18_2 = some r) ∧ Aside0 (kq ≤ k1) ∧ Aside0 (Below w.heap.size w w'))
            case atStart => exact ⟨(x3_1), (0), (by first | rfl | (simp; done) | (simp [*]; done)), (by first | rfl | (simp; done) | (simp [*]; done)), H', ⟨Nat.le_refl _⟩, ⟨by repeat (first | (with_reducible first | exact HB.out | apply below_alloc | apply pw_below_drewN | apply below_drew1) | exact HB.out)⟩⟩
            case round =>
              clear H'
              try clear c1
              try clear p1
              try clear q1
              try clear hx1
              try clear c2
              try clear c2b0
              try clear p2
              try clear c3
              try clear c3b0
              try clear c4
              try clear c4b0
              try clear hx101_0
              try clear p101
              try clear q101
              obtain ⟨x3_2, x18_2, rfl, rfl, HA, HK2, HB⟩ := hrel
              cases gk with
              | zero => exact absurd HA.out (by simp [fair_Work.l1])
              | succ k2 =>
                have H := HA.out
                clear HA
                simp only [fair_Work.l1] at H
                by_cases c5 : x18_2 < ((rd_L5 l0 x12_1).length : Int)
                · rw [if_pos c5] at H
                  have c5b0 : decide (x18_2 < ((rd_L5 l0 x12_1).length : Int)) = true := decide_eq_true c5
                  clear c5
                  by_cases c6 : 0 ≤ x18_2
                  · rw [if_pos c6] at H
                    have c6b0 : decide (0 ≤ x18_2) = true := decide_eq_true c6
                    clear c6
                    by_cases c7 : x18_2 < ((rd_L5 l0 x12_1).length : Int)
                    · rw [if_pos c7] at H
                      have c7b0 : decide (x18_2 < ((rd_L5 l0 x12_1).length : Int)) = true := decide_eq_true c7
                      clear c7
                      have H' := Aside0.mk H
                      clear H
                      have p102 : 0 ≤ (x18_2 : Int) := of_decide_eq_true (by first | (with_reducible assumption) | assumption)
                      have q102 : x18_2 < ((rd_L5 l0 x12_1).length : Int) := of_decide_eq_true (by first | (with_reducible assumption) | assumption)
                      obtain ⟨ad102, A102_4, c102_4, e102, hx102_0, hx102_1, hx102_2, hx102_3, hx102_4, hx102_5, hl102_4, hi102_4⟩ := at_T46 HR101_0.out x18_2 p102 q102
                      cases e102
                      replace hx102_0 := (HB.out.cell (World.block_lt_of_cell? w _ hx102_0)).trans hx102_0
                      replace hx102_1 := (HB.out.cell (World.block_lt_of_cell? w _ hx102_1)).trans hx102_1
                      replace hx102_2 := (HB.out.cell (World.block_lt_of_cell? w _ hx102_2)).trans hx102_2
                      replace hx102_3 := (HB.out.cell (World.block_lt_of_cell? w _ hx102_3)).trans hx102_3
                      replace hx102_4 := (HB.out.cell (World.block_lt_of_cell? w _ hx102_4)).trans hx102_4
                      replace hx102_5 := (HB.out.cell (World.block_lt_of_cell? w _ hx102_5)).trans hx102_5
                      have HR102_4 := Aside0.mk hi102_4
                      have HC102_4 := Aside0.mk hl102_4
                      clear hi102_4 hl102_4
                      replace p102 := eq_true p102
                      replace q102 := eq_true q102
                      go_wp2_with (first | ((with_reducible refine gate_dst (N := 7) rfl ?_); refine box_event ?hg (N := 7) ?hd (cs := #[.int .i64 0, .int .i64 0, .int .i64 0, .int .i64 0, .slice none 0 0, .bool false]) (t := 46) ?hr ?_; (case hd => rfl); (case hg => rfl); (case hr => first | (go_simp; done) | (go_simp; rfl)); intro gb103 hg w8 hbox hb; have n0_ := Aside0.mk (below_step (by repeat (first | (with_reducible first | exact HB.out | apply below_alloc | apply pw_below_drewN | apply below_drew1) | exact HB.out)) hb); have n1_ := Aside0.mk (hbox); have n2_ := Aside0.mk ((by rw [hg]; exact (below_size (by repeat (first | (with_reducible first | exact HB.out | apply below_alloc | apply pw_below_drewN | apply below_drew1) | exact HB.out))) : w.heap.size ≤ gb103)); have n3_ := Aside0.mk ((by rw [hg]; exact (below_size (by repeat (first | (with_reducible first | exact HB.out | apply below_alloc | apply pw_below_drewN | apply below_drew1) | exact HB.out))) : w.heap.size ≤ gb103)); clear HB; have HB := n0_; have BK103 := n1_; have GW103 := n2_; have GE103 := n3_; clear n0_ n1_ n2_ n3_; clear hb hbox hg; have hcz9_0 : w8.cell? ⟨gb103, 0, none⟩ = some (.int .i64 0) := (blk_cell BK103.out 0).trans rfl; have hcz9_1 : w8.cell? ⟨gb103, 1, none⟩ = some (.int .i64 0) := (blk_cell BK103.out 1).trans rfl; have hcz9_2 : w8.cell? ⟨gb103, 2, none⟩ = some (.int .i64 0) := (blk_cell BK103.out 2).trans rfl; have hcz9_3 : w8.cell? ⟨gb103, 3, none⟩ = some (.int .i64 0) := (blk_cell BK103.out 3).trans rfl; have hcz9_4 : w8.cell? ⟨gb103, 4, none⟩ = some (.slice none 0 0) := (blk_cell BK103.out 4).trans rfl; have hcz9_5 : w8.cell? ⟨gb103, 5, none⟩ = some (.bool false) := (blk_cell BK103.out 5).trans rfl; have hfz9_0 := blk_frozen BK103.out 0; have hfz9_1 := blk_frozen BK103.out 1; have hfz9_2 := blk_frozen BK103.out 2; have hfz9_3 := blk_frozen BK103.out 3; have hfz9_4 := blk_frozen BK103.out 4; have hfz9_5 := blk_frozen BK103.out 5))
                      go_roundg k2
                      case measure => have := HK1.out; have := HK2.out; omega
                      case rel => exact ⟨(wrap64 (x3_2 + (wrap64 (24 + (wrap64 (16 * (((rd_T46 (rd_L5 l0 x12_1) x18_2).f4).length : Int))))))), (wrap64 (x18_2 + 1)), (by first | rfl | (simp; done) | (simp [*]; done)), (by first | rfl | (simp; done) | (simp [*]; done)), H', ⟨by have := HK1.out; have := HK2.out; omega⟩, ⟨by repeat (first | (with_reducible first | exact HB.out | apply below_alloc | apply pw_below_drewN | apply below_drew1 | refine below_set ?_ GE103.out) | exact HB.out)⟩⟩
                    · rw [if_neg c7] at H
                      exact absurd H (by simp)
                  · rw [if_neg c6] at H
                    exact absurd H (by simp)
                · rw [if_neg c5] at H
                  have c5b0 : decide (x18_2 < ((rd_L5 l0 x12_1).length : Int)) = false := decide_eq_false c5
                  clear c5
                  have H' := Aside0.mk H
                  clear H
                  go_wp2
                  go_roundg k2
                  case measure => have := HK1.out; have := HK2.out; omega
                  case rel => exact ⟨(x3_2), (wrap64 (x12_1 + 1)), (by first | rfl | (simp; done) | (simp [*]; done)), (by first | rfl | (simp; done) | (simp [*]; done)), H', ⟨by have := HK1.out; have := HK2.out; omega⟩, ⟨by repeat (first | (with_reducible first | exact HB.out | apply below_alloc | apply pw_below_drewN | apply below_drew1) | exact HB.out)⟩⟩
          · rw [if_neg c4] at H
            exact absurd H (by simp)
        · rw [if_neg c3] at H
          exact absurd H (by simp)
      · rw [if_neg c2] at H
        have c2b0 : decide (x12_1 < (l0.length : Int)) = false := decide_eq_false c2
        clear c2
        obtain rfl := Option.some.inj H
        go_wp2
        go_ret
        exact ⟨by first | rfl | (simp [errW_none, errW_some] <;> rfl) | (simp [*, errW_none, errW_some] <;> rfl), by repeat (first | (with_reducible first | exact HB.out | apply below_alloc | apply pw_below_drewN | apply below_drew1) | exact HB.out)⟩

-- NOT PRINTED: function 58 (api_Op_58)

-- NOT PRINTED: function 39 (api_Op_39)

/-! ### fair_great: function 26 -/
def fair_great.op (x : S46) : Bool := decide (6 < x.f4.length)
def fair_great.row (l : List S46) : Bool := decide (16 < l.length) || l.any fair_great.op
def fair_great.f (l0 : List (List S46)) : Option Bool := some (decide (8 < l0.length) || l0.any fair_great.row)
set_option maxHeartbeats 2000000 in
theorem fair_great.one (x : S46) (A : Option Addr) (c : Nat) (w : World) :
    Calls Try.prog 42 #[.agg #[.int .i64 x.f0, .int .i64 x.f1, .int .i64 x.f2, .int .i64 x.f3, .slice A x.f4.length c, .bool x.f5]] w fun e w' => e = .returned (.bool (fair_great.op x)) ∧ Below w.heap.size w w' := by
  obtain ⟨x0, x1, x2, x3, x4, x5⟩ := x
  simp only
  have HB := Aside0.mk (below_alloc (Below.refl w.heap.size w) (.cells #[.int .i64 x0, .int .i64 x1, .int .i64 x2, .int .i64 x3, .slice A x4.length c, .bool x5] 46))
  by_cases h : 6 < x4.length
  · have d1 : decide ((6 : Int) < (x4.length : Int)) = true := decide_eq_true (by omega)
    have d1' : decide (6 < x4.length) = true := decide_eq_true h
    have e : fair_great.op ⟨x0, x1, x2, x3, x4, x5⟩ = true := d1'
    rw [e]
    clear e h
    go_enter Try.func42, Try.ntmps42
    go_wp2
    go_ret
    exact ⟨rfl, HB.out⟩
  · have d1 : decide ((6 : Int) < (x4.length : Int)) = false := decide_eq_false (by omega)
    have d1' : decide (6 < x4.length) = false := decide_eq_false h
    have e : fair_great.op ⟨x0, x1, x2, x3, x4, x5⟩ = false := d1'
    rw [e]
    clear e h
    go_enter Try.func42, Try.ntmps42
    go_wp2
    go_ret
    exact ⟨rfl, HB.out⟩
theorem fair_great.drop_op (l : List S46) (i : Nat) (h : i < l.length) : l.drop i = rd_T46 l (i : Int) :: l.drop (i + 1) := by
  rw [List.drop_eq_getElem_cons h]
  congr 1
  unfold rd_T46
  simp [List.getD_eq_getElem?_getD, h]
theorem fair_great.drop_row (l : List (List S46)) (i : Nat) (h : i < l.length) : l.drop i = rd_L5 l (i : Int) :: l.drop (i + 1) := by
  rw [List.drop_eq_getElem_cons h]
  congr 1
  unfold rd_L5
  simp [List.getD_eq_getElem?_getD, h]
set_option maxHeartbeats 2000000 in
theorem fair_great.index1 (A : Option Addr) (c : Nat) (l : List S46) (w : World) (hr : Kd.C k46 w A l.length l) :
    Calls Try.prog 59 #[.slice A l.length c, .func (.func 42) #[] #[]] w fun e w' => ∃ i : Int, e = .returned (.int .i64 i) ∧ decide (0 ≤ i) = l.any fair_great.op ∧ Below w.heap.size w w' := by
  have HR := Aside0.mk hr
  have hm := Kd.C_max hr
  have HB := Aside0.mk (Below.refl w.heap.size w)
  clear hr
  go_enter Try.func59, Try.ntmps59
  go_wp2
  go_loopg [8] l.length (fun kq v8 wr => ∃ (i : Nat), v8 = .int .i64 i ∧ i ≤ l.length ∧ Aside0 (kq = l.length - i) ∧ Aside0 (l.any fair_great.op = (l.drop i).any fair_great.op) ∧ Aside0 (Below w.heap.size w wr))
  case atStart => exact ⟨0, rfl, by omega, ⟨by omega⟩, ⟨by rw [List.drop_zero]⟩, HB⟩
  case round =>
    clear HB
    obtain ⟨i, rfl, hi, HK, HI, HB⟩ := hrel
    by_cases ci : i < l.length
    · have d1 : decide ((i : Int) < (l.length : Int)) = true := decide_eq_true (by omega)
      have d1' : decide (i < l.length) = true := decide_eq_true ci
      obtain ⟨ad, A4, c4, rfl, h0, h1, h2, h3, h4, h5, hl4, hc4⟩ := at_T46 (Kd.C_below HR.out HB.out) (i : Int) (by omega) (by omega)
      simp only [Int.toNat_natCast] at h0 h1 h2 h3 h4 h5
      have hd := Aside0.mk (fair_great.drop_op l i ci)
      obtain ⟨x, hx⟩ : ∃ x, rd_T46 l (i : Int) = x := ⟨_, rfl⟩
      rw [hx] at h0 h1 h2 h3 h4 h5 hd hl4 hc4
      have HN := Aside0.mk (fair_great.one x A4 c4 wr)
      clear hx hl4 hc4
      go_wp2_with fail
      go_at_call 42
      refine HN.out.mono ?_
      rintro e w1 ⟨rfl, b2⟩
      have HB2 := Aside0.mk (HB.out.trans (b2.mono HB.out.size))
      clear b2 HN h0 h1 h2 h3 h4 h5
      cases hq : fair_great.op x with
      | false =>
        have HI3 : Aside0 (l.any fair_great.op = (l.drop (i + 1)).any fair_great.op) := ⟨by rw [HI.out, hd.out, List.any_cons, hq]; rfl⟩
        clear HI hd
        go_wp2
        go_roundg (l.length - (i + 1))
        case measure => have := HK.out; omega
        case rel => exact ⟨i + 1, by go_num, by omega, ⟨rfl⟩, HI3, HB2⟩
      | true =>
        have HI3 : Aside0 (l.any fair_great.op = true) := ⟨by rw [HI.out, hd.out, List.any_cons, hq]; rfl⟩
        clear HI hd
        go_wp2
        go_ret
        exact ⟨i, rfl, by rw [HI3.out]; simp, HB2.out⟩
    · have d1 : decide ((i : Int) < (l.length : Int)) = false := decide_eq_false (by omega)
      have d1' : decide (i < l.length) = false := decide_eq_false ci
      have HI3 : Aside0 (l.any fair_great.op = false) := ⟨by rw [HI.out, List.drop_of_length_le (by omega)]; rfl⟩
      clear HI
      go_wp2
      go_ret
      exact ⟨-1, rfl, by rw [HI3.out]; decide, HB.out⟩
set_option maxHeartbeats 2000000 in
theorem fair_great.contains1 (A : Option Addr) (c : Nat) (l : List S46) (w : World) (hr : Kd.C k46 w A l.length l) :
    Calls Try.prog 41 #[.slice A l.length c, .func (.func 42) #[] #[]] w fun e w' => e = .returned (.bool (l.any fair_great.op)) ∧ Below w.heap.size w w' := by
  have HC := Aside0.mk (fair_great.index1 A c l w hr)
  clear hr
  go_enter Try.func41, Try.ntmps41
  go_wp2_with fail
  go_at_call 59
  refine HC.out.mono ?_
  rintro e w1 ⟨i, rfl, hb, b1⟩
  have HB := Aside0.mk b1
  have HE := Aside0.mk hb
  clear b1 hb
  go_wp2
  go_ret
  exact ⟨by rw [← HE.out]; rfl, HB.out⟩
set_option maxHeartbeats 2000000 in
theorem fair_great.two (A : Option Addr) (c : Nat) (l : List S46) (w : World) (hr : Kd.C k46 w A l.length l) :
    Calls Try.prog 40 #[.slice A l.length c] w fun e w' => e = .returned (.bool (fair_great.row l)) ∧ Below w.heap.size w w' := by
  have hm := Kd.C_max hr
  have HC := Aside0.mk (fair_great.contains1 A c l w hr)
  have HB := Aside0.mk (Below.refl w.heap.size w)
  clear hr
  by_cases h : 16 < l.length
  · have d1 : decide ((16 : Int) < (l.length : Int)) = true := decide_eq_true (by omega)
    have d1' : decide (16 < l.length) = true := decide_eq_true h
    have e : fair_great.row l = true := by unfold fair_great.row; rw [d1']; rfl
    rw [e]
    clear e h HC
    go_enter Try.func40, Try.ntmps40
    go_wp2
    go_ret
    exact ⟨rfl, HB.out⟩
  · have d1 : decide ((16 : Int) < (l.length : Int)) = false := decide_eq_false (by omega)
    have d1' : decide (16 < l.length) = false := decide_eq_false h
    have e : fair_great.row l = l.any fair_great.op := by unfold fair_great.row; rw [d1']; rfl
    rw [e]
    clear e h
    go_enter Try.func40, Try.ntmps40
    go_wp2_with fail
    go_at_call 41
    refine HC.out.mono ?_
    rintro e w1 ⟨rfl, b1⟩
    have HB1 := Aside0.mk b1
    clear b1
    go_wp2
    go_ret
    exact ⟨rfl, HB1.out⟩
set_option maxHeartbeats 2000000 in
theorem fair_great.index2 (A : Option Addr) (c : Nat) (l : List (List S46)) (w : World) (hr : Kd.C (Kd.slice 46 k46) w A l.length l) :
    Calls Try.prog 58 #[.slice A l.length c, .func (.func 40) #[] #[]] w fun e w' => ∃ i : Int, e = .returned (.int .i64 i) ∧ decide (0 ≤ i) = l.any fair_great.row ∧ Below w.heap.size w w' := by
  have HR := Aside0.mk hr
  have hm := Kd.C_max hr
  have HB := Aside0.mk (Below.refl w.heap.size w)
  clear hr
  go_enter Try.func58, Try.ntmps58
  go_wp2
  go_loopg [8] l.length (fun kq v8 wr => ∃ (i : Nat), v8 = .int .i64 i ∧ i ≤ l.length ∧ Aside0 (kq = l.length - i) ∧ Aside0 (l.any fair_great.row = (l.drop i).any fair_great.row) ∧ Aside0 (Below w.heap.size w wr))
  case atStart => exact ⟨0, rfl, by omega, ⟨by omega⟩, ⟨by rw [List.drop_zero]⟩, HB⟩
  case round =>
    clear HB
    obtain ⟨i, rfl, hi, HK, HI, HB⟩ := hrel
    by_cases ci : i < l.length
    · have d1 : decide ((i : Int) < (l.length : Int)) = true := decide_eq_true (by omega)
      have d1' : decide (i < l.length) = true := decide_eq_true ci
      obtain ⟨ad, A4, c4, rfl, h0, h1, h2⟩ := at_L5 (Kd.C_below HR.out HB.out) (i : Int) (by omega) (by omega)
      simp only [Int.toNat_natCast] at h0
      have hd := Aside0.mk (fair_great.drop_row l i ci)
      obtain ⟨x, hx⟩ : ∃ x, rd_L5 l (i : Int) = x := ⟨_, rfl⟩
      rw [hx] at h0 hd h1 h2
      have HN := Aside0.mk (fair_great.two A4 c4 x wr h2)
      clear hx h1 h2
      go_wp2_with fail
      go_at_call 40
      refine HN.out.mono ?_
      rintro e w1 ⟨rfl, b2⟩
      have HB2 := Aside0.mk (HB.out.trans (b2.mono HB.out.size))
      clear b2 HN h0
      cases hq : fair_great.row x with
      | false =>
        have HI3 : Aside0 (l.any fair_great.row = (l.drop (i + 1)).any fair_great.row) := ⟨by rw [HI.out, hd.out, List.any_cons, hq]; rfl⟩
        clear HI hd
        go_wp2
        go_roundg (l.length - (i + 1))
        case measure => have := HK.out; omega
        case rel => exact ⟨i + 1, by go_num, by omega, ⟨rfl⟩, HI3, HB2⟩
      | true =>
        have HI3 : Aside0 (l.any fair_great.row = true) := ⟨by rw [HI.out, hd.out, List.any_cons, hq]; rfl⟩
        clear HI hd
        go_wp2
        go_ret
        exact ⟨i, rfl, by rw [HI3.out]; simp, HB2.out⟩
    · have d1 : decide ((i : Int) < (l.length : Int)) = false := decide_eq_false (by omega)
      have d1' : decide (i < l.length) = false := decide_eq_false ci
      have HI3 : Aside0 (l.any fair_great.row = false) := ⟨by rw [HI.out, List.drop_of_length_le (by omega)]; rfl⟩
      clear HI
      go_wp2
      go_ret
      exact ⟨-1, rfl, by rw [HI3.out]; decide, HB.out⟩
set_option maxHeartbeats 2000000 in
theorem fair_great.contains2 (A : Option Addr) (c : Nat) (l : List (List S46)) (w : World) (hr : Kd.C (Kd.slice 46 k46) w A l.length l) :
    Calls Try.prog 39 #[.slice A l.length c, .func (.func 40) #[] #[]] w fun e w' => e = .returned (.bool (l.any fair_great.row)) ∧ Below w.heap.size w w' := by
  have HC := Aside0.mk (fair_great.index2 A c l w hr)
  clear hr
  go_enter Try.func39, Try.ntmps39
  go_wp2_with fail
  go_at_call 58
  refine HC.out.mono ?_
  rintro e w1 ⟨i, rfl, hb, b1⟩
  have HB := Aside0.mk b1
  have HE := Aside0.mk hb
  clear b1 hb
  go_wp2
  go_ret
  exact ⟨by rw [← HE.out]; rfl, HB.out⟩
set_option maxHeartbeats 2000000 in
theorem fair_great.calls (A0 : Option Addr) (c0 : Nat) (l0 : List (List (S46))) (r : Bool) (w : World) (hr0 : Kd.C (Kd.slice 46 k46) w A0 l0.length l0) (_hc0 : l0.length ≤ c0) (h : fair_great.f l0 = some r) :
    Calls Try.prog 26 #[.slice A0 l0.length c0] w fun e w' => e = .returned (.bool r) ∧ Below w.heap.size w w' := by
  have hm := Kd.C_max hr0
  obtain rfl := Option.some.inj h
  have HC := Aside0.mk (fair_great.contains2 A0 c0 l0 w hr0)
  have HB := Aside0.mk (Below.refl w.heap.size w)
  clear hr0 h
  by_cases h : 8 < l0.length
  · have d1 : decide ((8 : Int) < (l0.length : Int)) = true := decide_eq_true (by omega)
    have d1' : decide (8 < l0.length) = true := decide_eq_true h
    rw [d1']
    clear h HC
    go_enter Try.func26, Try.ntmps26
    go_wp2
    go_ret
    exact ⟨rfl, HB.out⟩
  · have d1 : decide ((8 : Int) < (l0.length : Int)) = false := decide_eq_false (by omega)
    have d1' : decide (8 < l0.length) = false := decide_eq_false h
    rw [d1']
    clear h
    go_enter Try.func26, Try.ntmps26
    go_wp2_with fail
    go_at_call 39
    refine HC.out.mono ?_
    rintro e w1 ⟨rfl, b1⟩
    have HB1 := Aside0.mk b1
    clear b1
    go_wp2
    go_ret
    exact ⟨rfl, HB1.out⟩

/-! ### fair_Bound: function 10 -/
def fair_Bound.f (k : Nat) (l0 : List (List (S46))) (a1 : Int) : Option (Int) := if a1 < 1 then (some 0) else (if a1 > 1048576 then (some 0) else ((fair_great.f l0).bind fun t104 => (if t104 = true then (some 0) else ((fair_Work.f k l0).bind fun t105 => (some (wrap64 (a1 * (wrap64 (t105 + 1)))))))))
theorem fair_Bound.mono : ∀ a0 a1 k, LeO (fair_Bound.f k a0 a1) (fair_Bound.f (k + 1) a0 a1) := by
  intro a0 a1 k
  unfold fair_Bound.f
  repeat' first
      | (with_reducible exact fair_Work.mono _ _)
      | (with_reducible exact LeO.refl _)
      | (with_reducible exact LeO.none _)
      | (with_reducible refine LeO.ite ?_ ?_)
      | (with_reducible refine LeO.bind ?_ (fun _ => ?_))
      | exact fair_Work.mono _ _
      | exact LeO.none _
      | refine LeO.ite ?_ ?_
      | refine LeO.bind ?_ (fun _ => ?_)
set_option maxHeartbeats 8000000 in
set_option maxRecDepth 100000 in
theorem fair_Bound.calls (k : Nat) (A0 : Option Addr) (c0 : Nat) (l0 : List (List (S46))) (a1 : Int) (r : Int) (w : World) (hr0 : Kd.C (Kd.slice 46 k46) w A0 l0.length l0) (hc0 : l0.length ≤ c0) (h : fair_Bound.f k l0 a1 = some r) :
    Calls Try.prog 10 #[.slice A0 l0.length c0, .int .i64 a1] w fun e w' => e = .returned (.int .i64 r) ∧ Below w.heap.size w w' := by
  have HR0 := Aside0.mk hr0
  have HC0 := Aside0.mk hc0
  clear hr0 hc0
  have HB := Aside0.mk (Below.refl w.heap.size w)
  have H : (if a1 < 1 then (some 0) else (if a1 > 1048576 then (some 0) else ((fair_great.f l0).bind fun t104 => (if t104 = true then (some 0) else ((fair_Work.f k l0).bind fun t105 => (some (wrap64 (a1 * (wrap64 (t105 + 1)))))))))) = some r := h
  clear h
  by_cases c3 : a1 < 1
  · rw [if_pos c3] at H
    have c3b0 : decide (a1 < 1) = true := decide_eq_true c3
    clear c3
    obtain rfl := Option.some.inj H
    go_enter Try.func10, Try.ntmps10
    go_wp2
    go_ret
    exact ⟨by first | rfl | (simp [errW_none, errW_some] <;> rfl) | (simp [*, errW_none, errW_some] <;> rfl), by repeat (first | (with_reducible first | exact HB.out | apply below_alloc | apply pw_below_drewN | apply below_drew1) | exact HB.out)⟩
  · rw [if_neg c3] at H
    have c3b0 : decide (a1 < 1) = false := decide_eq_false c3
    clear c3
    by_cases c4 : a1 > 1048576
    · rw [if_pos c4] at H
      have c4b0 : decide (1048576 < a1) = true := decide_eq_true c4
      clear c4
      obtain rfl := Option.some.inj H
      go_enter Try.func10, Try.ntmps10
      go_wp2
      go_ret
      exact ⟨by first | rfl | (simp [errW_none, errW_some] <;> rfl) | (simp [*, errW_none, errW_some] <;> rfl), by repeat (first | (with_reducible first | exact HB.out | apply below_alloc | apply pw_below_drewN | apply below_drew1) | exact HB.out)⟩
    · rw [if_neg c4] at H
      have c4b0 : decide (1048576 < a1) = false := decide_eq_false c4
      clear c4
      replace H := Option.bind_eq_some_iff.mp H
      obtain ⟨t104, A50, H⟩ := H
      replace H : (if t104 = true then (some 0) else ((fair_Work.f k l0).bind fun t105 => (some (wrap64 (a1 * (wrap64 (t105 + 1))))))) = some r := H
      have A5 := Aside0.mk A50
      clear A50
      by_cases c6 : t104 = true
      · subst c6
        have H1 : (some 0) = some r := by rw [if_pos rfl] at H; exact H
        clear H
        have H := H1
        clear H1
        obtain rfl := Option.some.inj H
        go_enter Try.func10, Try.ntmps10
        go_wp2_with (first | (go_at_call 26; (with_reducible refine (fair_great.calls _ _ l0 true _ ?side1 ?side2 A5.out).mono ?_); (case side1 => repeat (first | exact HR0.out | (with_reducible refine Kd.C_alloc ?_ _) | (with_reducible refine Kd.C_drewN ?_ _) | (with_reducible refine Kd.C_drew ?_))); (case side2 => exact HC0.out); rintro e w7 ⟨rfl, hb⟩; have n0_ := Aside0.mk (below_step (by repeat (first | (with_reducible first | exact HB.out | apply below_alloc | apply pw_below_drewN | apply below_drew1) | exact HB.out)) hb); clear HB; have HB := n0_; clear n0_; (try clear hb); (try clear hb2); (try clear hk); (try clear hi)))
        go_ret
        exact ⟨by first | rfl | (simp [errW_none, errW_some] <;> rfl) | (simp [*, errW_none, errW_some] <;> rfl), by repeat (first | (with_reducible first | exact HB.out | apply below_alloc | apply pw_below_drewN | apply below_drew1) | exact HB.out)⟩
      · replace c6 := Bool.eq_false_iff.mpr c6
        subst c6
        have H1 : ((fair_Work.f k l0).bind fun t105 => (some (wrap64 (a1 * (wrap64 (t105 + 1)))))) = some r := by rw [if_neg (show ¬ (false = true) by decide)] at H; exact H
        clear H
        have H := H1
        clear H1
        replace H := Option.bind_eq_some_iff.mp H
        obtain ⟨t105, A80, H⟩ := H
        replace H : (some (wrap64 (a1 * (wrap64 (t105 + 1))))) = some r := H
        have A8 := Aside0.mk A80
        clear A80
        obtain rfl := Option.some.inj H
        go_enter Try.func10, Try.ntmps10
        go_wp2_with (first | (go_at_call 26; (with_reducible refine (fair_great.calls _ _ l0 false _ ?side1 ?side2 A5.out).mono ?_); (case side1 => repeat (first | exact HR0.out | (with_reducible refine Kd.C_alloc ?_ _) | (with_reducible refine Kd.C_drewN ?_ _) | (with_reducible refine Kd.C_drew ?_))); (case side2 => exact HC0.out); rintro e w9 ⟨rfl, hb⟩; have n0_ := Aside0.mk (below_step (by repeat (first | (with_reducible first | exact HB.out | apply below_alloc | apply pw_below_drewN | apply below_drew1) | exact HB.out)) hb); clear HB; have HB := n0_; clear n0_; (try clear hb); (try clear hb2); (try clear hk); (try clear hi)) | ((with_reducible refine gate_callee (f := 8) rfl ?_); refine goesL_ (some 17) rfl rfl Try.func8 (by kernel_rfl) rfl #[.slice A0 l0.length c0] rfl (by (try simp only [List.map_toArray, List.map_cons, List.map_nil]); first | done | rfl | (simp only [List.length_drop, List.length_take]; rfl)) ?_; (with_reducible refine (fair_Work.calls k _ _ l0 t105 _ ?side1 ?side2 A8.out).mono ?_); (case side1 => repeat (first | exact (Kd.C_below HR0.out HB.out) | (with_reducible refine Kd.C_alloc ?_ _) | (with_reducible refine Kd.C_drewN ?_ _) | (with_reducible refine Kd.C_drew ?_))); (case side2 => exact HC0.out); rintro e w10 ⟨rfl, hb⟩; refine ⟨_, rfl, ?_⟩; have n0_ := Aside0.mk (below_step (by repeat (first | (with_reducible first | exact HB.out | apply below_alloc | apply pw_below_drewN | apply below_drew1) | exact HB.out)) hb); clear HB; have HB := n0_; clear n0_; (try clear hb); (try clear hb2); (try clear hk); (try clear hi)))
        go_ret
        exact ⟨by first | rfl | (simp [errW_none, errW_some] <;> rfl) | (simp [*, errW_none, errW_some] <;> rfl), by repeat (first | (with_reducible first | exact HB.out | apply below_alloc | apply pw_below_drewN | apply below_drew1) | exact HB.out)⟩

/-! ### handofflaw23_fairAlive: function 6 -/
def handofflaw23_fairAlive.f (k : Nat)  : Option (Bool) := (some (([[]] : List (List (S46))) : List (List (S46)))).bind fun y106 => ((fair_Work.f k y106).bind fun t109 => (if t109 = 1 then ((fair_Bound.f k y106 3).bind fun t110 => (some (t110 == 6))) else (some false)))
theorem handofflaw23_fairAlive.mono : ∀ k, LeO (handofflaw23_fairAlive.f k ) (handofflaw23_fairAlive.f (k + 1) ) := by
  intro  k
  unfold handofflaw23_fairAlive.f
  repeat' first
      | (with_reducible exact fair_Bound.mono _ _ _)
      | (with_reducible exact fair_Work.mono _ _)
      | (with_reducible exact LeO.refl _)
      | (with_reducible exact LeO.none _)
      | (with_reducible refine LeO.ite ?_ ?_)
      | (with_reducible refine LeO.bind ?_ (fun _ => ?_))
      | exact fair_Bound.mono _ _ _
      | exact fair_Work.mono _ _
      | exact LeO.none _
      | refine LeO.ite ?_ ?_
      | refine LeO.bind ?_ (fun _ => ?_)
set_option maxHeartbeats 8000000 in
set_option maxRecDepth 100000 in
theorem handofflaw23_fairAlive.calls (k : Nat)  (r : Bool) (w : World) (h : handofflaw23_fairAlive.f k  = some r) :
    Calls Try.prog 6 #[] w fun e w' => e = .returned (.bool r) ∧ Below w.heap.size w w' := by
  have HB := Aside0.mk (Below.refl w.heap.size w)
  have H : ((some (([[]] : List (List (S46))) : List (List (S46)))).bind fun y106 => ((fair_Work.f k y106).bind fun t109 => (if t109 = 1 then ((fair_Bound.f k y106 3).bind fun t110 => (some (t110 == 6))) else (some false)))) = some r := h
  clear h
  obtain ⟨y106, hy106⟩ : ∃ y_ : List (List (S46)), y_ = (([[]] : List (List (S46)))) := ⟨_, rfl⟩
  replace H : ((fair_Work.f k y106).bind fun t109 => (if t109 = 1 then ((fair_Bound.f k y106 3).bind fun t110 => (some (t110 == 6))) else (some false))) = some r := by first | (rw [hy106]; with_reducible exact H) | (have H2_ := (Option.bind_some _ _).symm.trans H; rw [hy106]; with_reducible exact H2_) | (have H2_ := (Option.bind_some _ _).symm.trans H; with_reducible exact H2_) | with_reducible exact H | (rw [hy106]; exact H) | exact H
  have Ny106 := Aside0.mk hy106
  clear hy106
  replace H := Option.bind_eq_some_iff.mp H
  obtain ⟨t109, A10, H⟩ := H
  replace H : (if t109 = 1 then ((fair_Bound.f k y106 3).bind fun t110 => (some (t110 == 6))) else (some false)) = some r := H
  have A1 := Aside0.mk A10
  clear A10
  by_cases c2 : t109 = 1
  · rw [if_pos c2] at H
    have c2b0 : (t109 == 1) = true := beq_iff_eq.mpr c2
    have c2b1 : (t109 != 1) = false := bne_eq_false_iff_eq.mpr c2
    clear c2
    replace H := Option.bind_eq_some_iff.mp H
    obtain ⟨t110, A30, H⟩ := H
    replace H : (some (t110 == 6)) = some r := H
    have A3 := Aside0.mk A30
    clear A30
    obtain rfl := Option.some.inj H
    go_enter Try.func6, Try.ntmps6
    go_wp2_with (first | ((with_reducible refine gate_dst (N := 2) rfl ?_); refine Kd.R_lit (Kd.slice 46 k46) _ 69 ?hg (N := 2) ?hd (xs := ([[]] : List (List (S46)))) (inner := [.slice none 0 0]) (ok := fun _ => True) (okp := fun _ => True) ?hr ?hp (fun _ hk => hk) trivial (Below.refl _ _) (Nat.le_refl _) (by simp) ?_; (case hd => rfl); (case hg => rfl); (case hr => first | (go_simp; done) | (go_simp; rfl)); (case hp => exact (Reps.one (show Kd.M (Kd.slice 46 k46) _ _ _ [] [.slice none 0 0] from ⟨_, rfl, Kd.R_nil _ _ _ _ _⟩) (Reps.none _ _))); intro v107 w4 ho5 hb hg_ hnew_; clear hg_ hnew_; (first | rw [← Ny106.out] at ho5 | (simp only [Int.reduceToNat] at ho5; rw [← Ny106.out] at ho5)); have n0_ := Aside0.mk (Kd.R_lower ho5 (below_size (by repeat (first | (with_reducible first | exact HB.out | apply below_alloc | apply pw_below_drewN | apply below_drew1) | exact HB.out)))); have n1_ := Aside0.mk (below_step (by repeat (first | (with_reducible first | exact HB.out | apply below_alloc | apply pw_below_drewN | apply below_drew1) | exact HB.out)) hb); clear HB; have HO108 := n0_; have HB := n1_; clear n0_ n1_; clear hb ho5; obtain ⟨Ao6, co6, eo6⟩ := Kd.R_slice HO108.out; subst eo6) | ((with_reducible refine gate_callee (f := 8) rfl ?_); refine goesL_ (some 4) rfl rfl Try.func8 (by kernel_rfl) rfl #[.slice Ao6 y106.length co6] rfl (by (try simp only [List.map_toArray, List.map_cons, List.map_nil]); first | done | rfl | (simp only [List.length_drop, List.length_take]; rfl)) ?_; (with_reducible refine (fair_Work.calls k _ _ y106 t109 _ ?side1 ?side2 A1.out).mono ?_); (case side1 => repeat (first | exact (Kd.R_reads' HO108.out).2.2 | (with_reducible refine Kd.C_alloc ?_ _) | (with_reducible refine Kd.C_drewN ?_ _) | (with_reducible refine Kd.C_drew ?_))); (case side2 => exact (Kd.R_reads' HO108.out).2.1); rintro e w7 ⟨rfl, hb⟩; refine ⟨_, rfl, ?_⟩; have n0_ := Aside0.mk (Kd.R_below (by (with_reducible repeat (first | apply Kd.R_alloc | apply Kd.R_drewN | apply Kd.R_drew)); exact HO108.out) hb); have n1_ := Aside0.mk (below_step (by repeat (first | (with_reducible first | exact HB.out | apply below_alloc | apply pw_below_drewN | apply below_drew1) | exact HB.out)) hb); clear HO108; clear HB; have HO108 := n0_; have HB := n1_; clear n0_ n1_; (try clear hb); (try clear hb2); (try clear hk); (try clear hi)) | (go_at_call 10; (with_reducible refine (fair_Bound.calls k _ _ y106 3 t110 _ ?side1 ?side2 A3.out).mono ?_); (case side1 => repeat (first | exact (Kd.R_reads' HO108.out).2.2 | (with_reducible refine Kd.C_alloc ?_ _) | (with_reducible refine Kd.C_drewN ?_ _) | (with_reducible refine Kd.C_drew ?_))); (case side2 => exact (Kd.R_reads' HO108.out).2.1); rintro e w8 ⟨rfl, hb⟩; have n0_ := Aside0.mk (Kd.R_below (by (with_reducible repeat (first | apply Kd.R_alloc | apply Kd.R_drewN | apply Kd.R_drew)); exact HO108.out) hb); have n1_ := Aside0.mk (below_step (by repeat (first | (with_reducible first | exact HB.out | apply below_alloc | apply pw_below_drewN | apply below_drew1) | exact HB.out)) hb); clear HO108; clear HB; have HO108 := n0_; have HB := n1_; clear n0_ n1_; (try clear hb); (try clear hb2); (try clear hk); (try clear hi)))
    go_ret
    exact ⟨by first | rfl | (simp [errW_none, errW_some] <;> rfl) | (simp [*, errW_none, errW_some] <;> rfl), by repeat (first | (with_reducible first | exact HB.out | apply below_alloc | apply pw_below_drewN | apply below_drew1) | exact HB.out)⟩
  · rw [if_neg c2] at H
    have c2b0 : (t109 == 1) = false := beq_eq_false_iff_ne.mpr c2
    have c2b1 : (t109 != 1) = true := bne_iff_ne.mpr c2
    obtain rfl := Option.some.inj H
    go_enter Try.func6, Try.ntmps6
    go_wp2_with (first | ((with_reducible refine gate_dst (N := 2) rfl ?_); refine Kd.R_lit (Kd.slice 46 k46) _ 69 ?hg (N := 2) ?hd (xs := ([[]] : List (List (S46)))) (inner := [.slice none 0 0]) (ok := fun _ => True) (okp := fun _ => True) ?hr ?hp (fun _ hk => hk) trivial (Below.refl _ _) (Nat.le_refl _) (by simp) ?_; (case hd => rfl); (case hg => rfl); (case hr => first | (go_simp; done) | (go_simp; rfl)); (case hp => exact (Reps.one (show Kd.M (Kd.slice 46 k46) _ _ _ [] [.slice none 0 0] from ⟨_, rfl, Kd.R_nil _ _ _ _ _⟩) (Reps.none _ _))); intro v107 w9 ho10 hb hg_ hnew_; clear hg_ hnew_; (first | rw [← Ny106.out] at ho10 | (simp only [Int.reduceToNat] at ho10; rw [← Ny106.out] at ho10)); have n0_ := Aside0.mk (Kd.R_lower ho10 (below_size (by repeat (first | (with_reducible first | exact HB.out | apply below_alloc | apply pw_below_drewN | apply below_drew1) | exact HB.out)))); have n1_ := Aside0.mk (below_step (by repeat (first | (with_reducible first | exact HB.out | apply below_alloc | apply pw_below_drewN | apply below_drew1) | exact HB.out)) hb); clear HB; have HO108 := n0_; have HB := n1_; clear n0_ n1_; clear hb ho10; obtain ⟨Ao11, co11, eo11⟩ := Kd.R_slice HO108.out; subst eo11) | ((with_reducible refine gate_callee (f := 8) rfl ?_); refine goesL_ (some 4) rfl rfl Try.func8 (by kernel_rfl) rfl #[.slice Ao11 y106.length co11] rfl (by (try simp only [List.map_toArray, List.map_cons, List.map_nil]); first | done | rfl | (simp only [List.length_drop, List.length_take]; rfl)) ?_; (with_reducible refine (fair_Work.calls k _ _ y106 t109 _ ?side1 ?side2 A1.out).mono ?_); (case side1 => repeat (first | exact (Kd.R_reads' HO108.out).2.2 | (with_reducible refine Kd.C_alloc ?_ _) | (with_reducible refine Kd.C_drewN ?_ _) | (with_reducible refine Kd.C_drew ?_))); (case side2 => exact (Kd.R_reads' HO108.out).2.1); rintro e w12 ⟨rfl, hb⟩; refine ⟨_, rfl, ?_⟩; have n0_ := Aside0.mk (Kd.R_below (by (with_reducible repeat (first | apply Kd.R_alloc | apply Kd.R_drewN | apply Kd.R_drew)); exact HO108.out) hb); have n1_ := Aside0.mk (below_step (by repeat (first | (with_reducible first | exact HB.out | apply below_alloc | apply pw_below_drewN | apply below_drew1) | exact HB.out)) hb); clear HO108; clear HB; have HO108 := n0_; have HB := n1_; clear n0_ n1_; (try clear hb); (try clear hb2); (try clear hk); (try clear hi)))
    go_ret
    exact ⟨by first | rfl | (simp [errW_none, errW_some] <;> rfl) | (simp [*, errW_none, errW_some] <;> rfl), by repeat (first | (with_reducible first | exact HB.out | apply below_alloc | apply pw_below_drewN | apply below_drew1) | exact HB.out)⟩

/-! ### handofflaw23_great: function 7 -/
mutual
def handofflaw23_great.l0 : Nat → List (List (S46)) → List (List (S46)) → Int → Int → Option (Bool)
  | 0, _, _, _, _ => none
  | k + 1, x0, x7, x8, x9 => if x9 < x8 then (if 0 ≤ x9 then (if x9 < (x7.length : Int) then (handofflaw23_great.l1 k x0 (rd_L5 x7 x9) x7 x8 x9 (rd_L5 x7 x9) ((rd_L5 x7 x9).length : Int) 0) else (none)) else (none)) else (some (decide ((x0.length : Int) > 100)))
def handofflaw23_great.l1 : Nat → List (List (S46)) → List (S46) → List (List (S46)) → Int → Int → List (S46) → Int → Int → Option (Bool)
  | 0, _, _, _, _, _, _, _, _ => none
  | k + 1, x0, x4, x7, x8, x9, x13, x14, x15 => if x15 < x14 then (if 0 ≤ x15 then (if x15 < (x13.length : Int) then (if (((rd_T46 x13 x15).f4).length : Int) > 100 then (some true) else (handofflaw23_great.l1 k x0 x4 x7 x8 x9 x13 x14 (wrap64 (x15 + 1)))) else (none)) else (none)) else (if (x4.length : Int) > 100 then (some true) else (handofflaw23_great.l0 k x0 x7 x8 (wrap64 (x9 + 1))))
end
def handofflaw23_great.f (k : Nat) (l0 : List (List (S46))) : Option (Bool) := handofflaw23_great.l0 k l0 l0 (l0.length : Int) 0
theorem handofflaw23_great.mono_l : ∀ k, (∀ y0 y1 y2 y3, LeO (handofflaw23_great.l0 k y0 y1 y2 y3) (handofflaw23_great.l0 (k + 1) y0 y1 y2 y3)) ∧ (∀ y0 y1 y2 y3 y4 y5 y6 y7, LeO (handofflaw23_great.l1 k y0 y1 y2 y3 y4 y5 y6 y7) (handofflaw23_great.l1 (k + 1) y0 y1 y2 y3 y4 y5 y6 y7))
  | 0 => ⟨fun _ _ _ _ r h => by simp [handofflaw23_great.l0] at h, fun _ _ _ _ _ _ _ _ r h => by simp [handofflaw23_great.l1] at h⟩
  | k + 1 => by
    obtain ⟨ih0, ih1⟩ := handofflaw23_great.mono_l k
    refine ⟨?_, ?_⟩
    · intro y0 y1 y2 y3
      unfold handofflaw23_great.l0
      repeat' first
      | (with_reducible exact ih0 _ _ _ _)
      | (with_reducible exact ih1 _ _ _ _ _ _ _ _)
      | (with_reducible exact LeO.refl _)
      | (with_reducible exact LeO.none _)
      | (with_reducible refine LeO.ite ?_ ?_)
      | (with_reducible refine LeO.bind ?_ (fun _ => ?_))
      | exact ih0 _ _ _ _
      | exact ih1 _ _ _ _ _ _ _ _
      | exact LeO.none _
      | refine LeO.ite ?_ ?_
      | refine LeO.bind ?_ (fun _ => ?_)
    · intro y0 y1 y2 y3 y4 y5 y6 y7
      unfold handofflaw23_great.l1
      repeat' first
      | (with_reducible exact ih0 _ _ _ _)
      | (with_reducible exact ih1 _ _ _ _ _ _ _ _)
      | (with_reducible exact LeO.refl _)
      | (with_reducible exact LeO.none _)
      | (with_reducible refine LeO.ite ?_ ?_)
      | (with_reducible refine LeO.bind ?_ (fun _ => ?_))
      | exact ih0 _ _ _ _
      | exact ih1 _ _ _ _ _ _ _ _
      | exact LeO.none _
      | refine LeO.ite ?_ ?_
      | refine LeO.bind ?_ (fun _ => ?_)
theorem handofflaw23_great.mono : ∀ a0 k, LeO (handofflaw23_great.f k a0) (handofflaw23_great.f (k + 1) a0) := by
  intro a0 k
  obtain ⟨ih0, ih1⟩ := handofflaw23_great.mono_l k
  unfold handofflaw23_great.f
  repeat' first
      | (with_reducible exact ih0 _ _ _ _)
      | (with_reducible exact ih1 _ _ _ _ _ _ _ _)
      | (with_reducible exact LeO.refl _)
      | (with_reducible exact LeO.none _)
      | (with_reducible refine LeO.ite ?_ ?_)
      | (with_reducible refine LeO.bind ?_ (fun _ => ?_))
      | exact ih0 _ _ _ _
      | exact ih1 _ _ _ _ _ _ _ _
      | exact LeO.none _
      | refine LeO.ite ?_ ?_
      | refine LeO.bind ?_ (fun _ => ?_)
set_option maxHeartbeats 8000000 in
set_option maxRecDepth 100000 in
theorem handofflaw23_great.calls (k : Nat) (A0 : Option Addr) (c0 : Nat) (l0 : List (List (S46))) (r : Bool) (w : World) (hr0 : Kd.C (Kd.slice 46 k46) w A0 l0.length l0) (hc0 : l0.length ≤ c0) (h : handofflaw23_great.f k l0 = some r) :
    Calls Try.prog 7 #[.slice A0 l0.length c0] w fun e w' => e = .returned (.bool r) ∧ Below w.heap.size w w' := by
  have hu46 := Try.underlying46
  have HR0 := Aside0.mk hr0
  have HC0 := Aside0.mk hc0
  clear hr0 hc0
  have HB := Aside0.mk (Below.refl w.heap.size w)
  have H : (handofflaw23_great.l0 k l0 l0 (l0.length : Int) 0) = some r := h
  clear h
  have H' := Aside0.mk H
  clear H
  go_enter Try.func7, Try.ntmps7
  go_wp2
  go_loopg [9] k (fun kq v9 w' => ∃ (x9_1 : Int), v9 = .int .i64 x9_1 ∧ Aside0 (handofflaw23_great.l0 kq l0 l0 (l0.length : Int) x9_1 = some r) ∧ Aside0 (kq ≤ k) ∧ Aside0 (Below w.heap.size w w'))
  case atStart => exact ⟨(0), (by first | rfl | (simp; done) | (simp [*]; done)), H', ⟨Nat.le_refl _⟩, ⟨by repeat (first | (with_reducible first | exact HB.out | apply below_alloc | apply pw_below_drewN | apply below_drew1) | exact HB.out)⟩⟩
  case round =>
    clear H'
    obtain ⟨x9_1, rfl, HA, HK1, HB⟩ := hrel
    cases gk with
    | zero => exact absurd HA.out (by simp [handofflaw23_great.l0])
    | succ k1 =>
      have H := HA.out
      clear HA
      simp only [handofflaw23_great.l0] at H
      by_cases c2 : x9_1 < (l0.length : Int)
      · rw [if_pos c2] at H
        have c2b0 : decide (x9_1 < (l0.length : Int)) = true := decide_eq_true c2
        clear c2
        by_cases c3 : 0 ≤ x9_1
        · rw [if_pos c3] at H
          have c3b0 : decide (0 ≤ x9_1) = true := decide_eq_true c3
          clear c3
          by_cases c4 : x9_1 < (l0.length : Int)
          · rw [if_pos c4] at H
            have c4b0 : decide (x9_1 < (l0.length : Int)) = true := decide_eq_true c4
            clear c4
            have H' := Aside0.mk H
            clear H
            have p111 : 0 ≤ (x9_1 : Int) := of_decide_eq_true (by first | (with_reducible assumption) | assumption)
            have q111 : x9_1 < (l0.length : Int) := of_decide_eq_true (by first | (with_reducible assumption) | assumption)
            obtain ⟨ad111, A111_0, c111_0, e111, hx111_0, hl111_0, hi111_0⟩ := at_L5 HR0.out x9_1 p111 q111
            cases e111
            replace hx111_0 := (HB.out.cell (World.block_lt_of_cell? w _ hx111_0)).trans hx111_0
            have HR111_0 := Aside0.mk hi111_0
            have HC111_0 := Aside0.mk hl111_0
            clear hi111_0 hl111_0
            replace p111 := eq_true p111
            replace q111 := eq_true q111
            go_wp2
            go_loopg [15] k1 (fun kq v15 w' => ∃ (x15_2 : Int), v15 = .int .i64 x15_2 ∧ Aside0 (handofflaw23_great.l1 kq l0 (rd_L5 l0 x9_1) l0 (l0.length : Int) x9_1 (rd_L5 l0 x9_1) ((rd_L5 l0 x9_1).length : Int) x15_2 = some r) ∧ Aside0 (kq ≤ k1) ∧ Aside0 (Below w.heap.size w w'))
            case atStart => exact ⟨(0), (by first | rfl | (simp; done) | (simp [*]; done)), H', ⟨Nat.le_refl _⟩, ⟨by repeat (first | (with_reducible first | exact HB.out | apply below_alloc | apply pw_below_drewN | apply below_drew1) | exact HB.out)⟩⟩
            case round =>
              clear H'
              try clear c1
              try clear p1
              try clear q1
              try clear hx1
              try clear c2
              try clear c2b0
              try clear p2
              try clear c3
              try clear c3b0
              try clear c4
              try clear c4b0
              try clear hx111_0
              try clear p111
              try clear q111
              obtain ⟨x15_2, rfl, HA, HK2, HB⟩ := hrel
              cases gk with
              | zero => exact absurd HA.out (by simp [handofflaw23_great.l1])
              | succ k2 =>
                have H := HA.out
                clear HA
                simp only [handofflaw23_great.l1] at H
                by_cases c5 : x15_2 < ((rd_L5 l0 x9_1).length : Int)
                · rw [if_pos c5] at H
                  have c5b0 : decide (x15_2 < ((rd_L5 l0 x9_1).length : Int)) = true := decide_eq_true c5
                  clear c5
                  by_cases c6 : 0 ≤ x15_2
                  · rw [if_pos c6] at H
                    have c6b0 : decide (0 ≤ x15_2) = true := decide_eq_true c6
                    clear c6
                    by_cases c7 : x15_2 < ((rd_L5 l0 x9_1).length : Int)
                    · rw [if_pos c7] at H
                      have c7b0 : decide (x15_2 < ((rd_L5 l0 x9_1).length : Int)) = true := decide_eq_true c7
                      clear c7
                      by_cases c8 : (((rd_T46 (rd_L5 l0 x9_1) x15_2).f4).length : Int) > 100
                      · rw [if_pos c8] at H
                        have c8b0 : decide (100 < (((rd_T46 (rd_L5 l0 x9_1) x15_2).f4).length : Int)) = true := decide_eq_true c8
                        have c8b1 : decide (100 < ((rd_T46 (rd_L5 l0 x9_1) x15_2).f4).length) = true := decide_eq_true (by omega)
                        clear c8
                        obtain rfl := Option.some.inj H
                        have p112 : 0 ≤ (x15_2 : Int) := of_decide_eq_true (by first | (with_reducible assumption) | assumption)
                        have q112 : x15_2 < ((rd_L5 l0 x9_1).length : Int) := of_decide_eq_true (by first | (with_reducible assumption) | assumption)
                        obtain ⟨ad112, A112_4, c112_4, e112, hx112_0, hx112_1, hx112_2, hx112_3, hx112_4, hx112_5, hl112_4, hi112_4⟩ := at_T46 HR111_0.out x15_2 p112 q112
                        cases e112
                        replace hx112_0 := (HB.out.cell (World.block_lt_of_cell? w _ hx112_0)).trans hx112_0
                        replace hx112_1 := (HB.out.cell (World.block_lt_of_cell? w _ hx112_1)).trans hx112_1
                        replace hx112_2 := (HB.out.cell (World.block_lt_of_cell? w _ hx112_2)).trans hx112_2
                        replace hx112_3 := (HB.out.cell (World.block_lt_of_cell? w _ hx112_3)).trans hx112_3
                        replace hx112_4 := (HB.out.cell (World.block_lt_of_cell? w _ hx112_4)).trans hx112_4
                        replace hx112_5 := (HB.out.cell (World.block_lt_of_cell? w _ hx112_5)).trans hx112_5
                        have HR112_4 := Aside0.mk hi112_4
                        have HC112_4 := Aside0.mk hl112_4
                        clear hi112_4 hl112_4
                        replace p112 := eq_true p112
                        replace q112 := eq_true q112
                        go_wp2_with (first | ((with_reducible refine gate_dst (N := 6) rfl ?_); refine box_event ?hg (N := 6) ?hd (cs := #[.int .i64 0, .int .i64 0, .int .i64 0, .int .i64 0, .slice none 0 0, .bool false]) (t := 46) ?hr ?_; (case hd => rfl); (case hg => rfl); (case hr => first | (go_simp; done) | (go_simp; rfl)); intro gb113 hg w9 hbox hb; have n0_ := Aside0.mk (below_step (by repeat (first | (with_reducible first | exact HB.out | apply below_alloc | apply pw_below_drewN | apply below_drew1) | exact HB.out)) hb); have n1_ := Aside0.mk (hbox); have n2_ := Aside0.mk ((by rw [hg]; exact (below_size (by repeat (first | (with_reducible first | exact HB.out | apply below_alloc | apply pw_below_drewN | apply below_drew1) | exact HB.out))) : w.heap.size ≤ gb113)); have n3_ := Aside0.mk ((by rw [hg]; exact (below_size (by repeat (first | (with_reducible first | exact HB.out | apply below_alloc | apply pw_below_drewN | apply below_drew1) | exact HB.out))) : w.heap.size ≤ gb113)); clear HB; have HB := n0_; have BK113 := n1_; have GW113 := n2_; have GE113 := n3_; clear n0_ n1_ n2_ n3_; clear hb hbox hg; have hcz10_0 : w9.cell? ⟨gb113, 0, none⟩ = some (.int .i64 0) := (blk_cell BK113.out 0).trans rfl; have hcz10_1 : w9.cell? ⟨gb113, 1, none⟩ = some (.int .i64 0) := (blk_cell BK113.out 1).trans rfl; have hcz10_2 : w9.cell? ⟨gb113, 2, none⟩ = some (.int .i64 0) := (blk_cell BK113.out 2).trans rfl; have hcz10_3 : w9.cell? ⟨gb113, 3, none⟩ = some (.int .i64 0) := (blk_cell BK113.out 3).trans rfl; have hcz10_4 : w9.cell? ⟨gb113, 4, none⟩ = some (.slice none 0 0) := (blk_cell BK113.out 4).trans rfl; have hcz10_5 : w9.cell? ⟨gb113, 5, none⟩ = some (.bool false) := (blk_cell BK113.out 5).trans rfl; have hfz10_0 := blk_frozen BK113.out 0; have hfz10_1 := blk_frozen BK113.out 1; have hfz10_2 := blk_frozen BK113.out 2; have hfz10_3 := blk_frozen BK113.out 3; have hfz10_4 := blk_frozen BK113.out 4; have hfz10_5 := blk_frozen BK113.out 5))
                        go_ret
                        exact ⟨by first | rfl | (simp [errW_none, errW_some] <;> rfl) | (simp [*, errW_none, errW_some] <;> rfl), by repeat (first | (with_reducible first | exact HB.out | apply below_alloc | apply pw_below_drewN | apply below_drew1 | refine below_set ?_ GE113.out) | exact HB.out)⟩
                      · rw [if_neg c8] at H
                        have c8b0 : decide (100 < (((rd_T46 (rd_L5 l0 x9_1) x15_2).f4).length : Int)) = false := decide_eq_false c8
                        have c8b1 : decide (100 < ((rd_T46 (rd_L5 l0 x9_1) x15_2).f4).length) = false := decide_eq_false (by omega)
                        clear c8
                        have H' := Aside0.mk H
                        clear H
                        have p112 : 0 ≤ (x15_2 : Int) := of_decide_eq_true (by first | (with_reducible assumption) | assumption)
                        have q112 : x15_2 < ((rd_L5 l0 x9_1).length : Int) := of_decide_eq_true (by first | (with_reducible assumption) | assumption)
                        obtain ⟨ad112, A112_4, c112_4, e112, hx112_0, hx112_1, hx112_2, hx112_3, hx112_4, hx112_5, hl112_4, hi112_4⟩ := at_T46 HR111_0.out x15_2 p112 q112
                        cases e112
                        replace hx112_0 := (HB.out.cell (World.block_lt_of_cell? w _ hx112_0)).trans hx112_0
                        replace hx112_1 := (HB.out.cell (World.block_lt_of_cell? w _ hx112_1)).trans hx112_1
                        replace hx112_2 := (HB.out.cell (World.block_lt_of_cell? w _ hx112_2)).trans hx112_2
                        replace hx112_3 := (HB.out.cell (World.block_lt_of_cell? w _ hx112_3)).trans hx112_3
                        replace hx112_4 := (HB.out.cell (World.block_lt_of_cell? w _ hx112_4)).trans hx112_4
                        replace hx112_5 := (HB.out.cell (World.block_lt_of_cell? w _ hx112_5)).trans hx112_5
                        have HR112_4 := Aside0.mk hi112_4
                        have HC112_4 := Aside0.mk hl112_4
                        clear hi112_4 hl112_4
                        replace p112 := eq_true p112
                        replace q112 := eq_true q112
                        go_wp2_with (first | ((with_reducible refine gate_dst (N := 6) rfl ?_); refine box_event ?hg (N := 6) ?hd (cs := #[.int .i64 0, .int .i64 0, .int .i64 0, .int .i64 0, .slice none 0 0, .bool false]) (t := 46) ?hr ?_; (case hd => rfl); (case hg => rfl); (case hr => first | (go_simp; done) | (go_simp; rfl)); intro gb113 hg w11 hbox hb; have n0_ := Aside0.mk (below_step (by repeat (first | (with_reducible first | exact HB.out | apply below_alloc | apply pw_below_drewN | apply below_drew1) | exact HB.out)) hb); have n1_ := Aside0.mk (hbox); have n2_ := Aside0.mk ((by rw [hg]; exact (below_size (by repeat (first | (with_reducible first | exact HB.out | apply below_alloc | apply pw_below_drewN | apply below_drew1) | exact HB.out))) : w.heap.size ≤ gb113)); have n3_ := Aside0.mk ((by rw [hg]; exact (below_size (by repeat (first | (with_reducible first | exact HB.out | apply below_alloc | apply pw_below_drewN | apply below_drew1) | exact HB.out))) : w.heap.size ≤ gb113)); clear HB; have HB := n0_; have BK113 := n1_; have GW113 := n2_; have GE113 := n3_; clear n0_ n1_ n2_ n3_; clear hb hbox hg; have hcz12_0 : w11.cell? ⟨gb113, 0, none⟩ = some (.int .i64 0) := (blk_cell BK113.out 0).trans rfl; have hcz12_1 : w11.cell? ⟨gb113, 1, none⟩ = some (.int .i64 0) := (blk_cell BK113.out 1).trans rfl; have hcz12_2 : w11.cell? ⟨gb113, 2, none⟩ = some (.int .i64 0) := (blk_cell BK113.out 2).trans rfl; have hcz12_3 : w11.cell? ⟨gb113, 3, none⟩ = some (.int .i64 0) := (blk_cell BK113.out 3).trans rfl; have hcz12_4 : w11.cell? ⟨gb113, 4, none⟩ = some (.slice none 0 0) := (blk_cell BK113.out 4).trans rfl; have hcz12_5 : w11.cell? ⟨gb113, 5, none⟩ = some (.bool false) := (blk_cell BK113.out 5).trans rfl; have hfz12_0 := blk_frozen BK113.out 0; have hfz12_1 := blk_frozen BK113.out 1; have hfz12_2 := blk_frozen BK113.out 2; have hfz12_3 := blk_frozen BK113.out 3; have hfz12_4 := blk_frozen BK113.out 4; have hfz12_5 := blk_frozen BK113.out 5))
                        go_roundg k2
                        case measure => have := HK1.out; have := HK2.out; omega
                        case rel => exact ⟨(wrap64 (x15_2 + 1)), (by first | rfl | (simp; done) | (simp [*]; done)), H', ⟨by have := HK1.out; have := HK2.out; omega⟩, ⟨by repeat (first | (with_reducible first | exact HB.out | apply below_alloc | apply pw_below_drewN | apply below_drew1 | refine below_set ?_ GE113.out) | exact HB.out)⟩⟩
                    · rw [if_neg c7] at H
                      exact absurd H (by simp)
                  · rw [if_neg c6] at H
                    exact absurd H (by simp)
                · rw [if_neg c5] at H
                  have c5b0 : decide (x15_2 < ((rd_L5 l0 x9_1).length : Int)) = false := decide_eq_false c5
                  clear c5
                  by_cases c13 : ((rd_L5 l0 x9_1).length : Int) > 100
                  · rw [if_pos c13] at H
                    have c13b0 : decide (100 < ((rd_L5 l0 x9_1).length : Int)) = true := decide_eq_true c13
                    have c13b1 : decide (100 < (rd_L5 l0 x9_1).length) = true := decide_eq_true (by omega)
                    clear c13
                    obtain rfl := Option.some.inj H
                    go_wp2
                    go_ret
                    exact ⟨by first | rfl | (simp [errW_none, errW_some] <;> rfl) | (simp [*, errW_none, errW_some] <;> rfl), by repeat (first | (with_reducible first | exact HB.out | apply below_alloc | apply pw_below_drewN | apply below_drew1) | exact HB.out)⟩
                  · rw [if_neg c13] at H
                    have c13b0 : decide (100 < ((rd_L5 l0 x9_1).length : Int)) = false := decide_eq_false c13
                    have c13b1 : decide (100 < (rd_L5 l0 x9_1).length) = false := decide_eq_false (by omega)
                    clear c13
                    have H' := Aside0.mk H
                    clear H
                    go_wp2
                    go_roundg k2
                    case measure => have := HK1.out; have := HK2.out; omega
                    case rel => exact ⟨(wrap64 (x9_1 + 1)), (by first | rfl | (simp; done) | (simp [*]; done)), H', ⟨by have := HK1.out; have := HK2.out; omega⟩, ⟨by repeat (first | (with_reducible first | exact HB.out | apply below_alloc | apply pw_below_drewN | apply below_drew1) | exact HB.out)⟩⟩
          · rw [if_neg c4] at H
            exact absurd H (by simp)
        · rw [if_neg c3] at H
          exact absurd H (by simp)
      · rw [if_neg c2] at H
        have c2b0 : decide (x9_1 < (l0.length : Int)) = false := decide_eq_false c2
        clear c2
        obtain rfl := Option.some.inj H
        go_wp2
        go_ret
        exact ⟨by first | rfl | (simp [errW_none, errW_some] <;> rfl) | (simp [*, errW_none, errW_some] <;> rfl), by repeat (first | (with_reducible first | exact HB.out | apply below_alloc | apply pw_below_drewN | apply below_drew1) | exact HB.out)⟩

end Go.Proofs.Ythgepdaociipmaa.PFa
