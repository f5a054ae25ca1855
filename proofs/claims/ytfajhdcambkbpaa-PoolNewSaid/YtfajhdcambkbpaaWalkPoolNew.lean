/- The walk of PoolNew: whether there can be such a pool, and where each thing is. -/
import Derived.Test.YtfajhdcambkbpaaPoolNW
import Derived.Test.YtfajhdcambkbpaaPoolNKinds
namespace Go.Proofs.Ytfajhdcambkbpaa.WalkPoolNew
open Go.RowKit Go.Proofs.YtfajhdcambkbpaaW.PrintWords Go.Proofs.YtfajhdcambkbpaaW.PrintMore Go.Proofs.Ytfajhdcambkbpaa.Pool Go.Proofs.Ytfajhdcambkbpaa.PoolNKinds
attribute [local go_sem] max2_int max_two

/-- The document's pool in its box, read. -/
structure Box (W w : World) (bx : Nat) (size most fresh : Int) (cs : List (List Int)) (mid : List Int) (AC : Option Addr) (cC : Nat) (AM : Option Addr) (cM : Nat) : Prop where
  rowsC : Kd.C (Kd.slice 3 (Kd.int .i64)) w AC cs.length cs
  midC : Kd.C (Kd.int .i64) w AM mid.length mid
  box : w.heap[bx]? = some (.cells #[.int .i64 size, .int .i64 most, .slice AC cs.length cC, .slice AM mid.length cM, .int .i64 fresh] 30 (0, 0))
  below : Below W.heap.size W w

variable {W w w' : World} {bx : Nat} {size most fresh : Int} {cs : List (List Int)} {mid : List Int} {AC AM : Option Addr} {cC cM : Nat}

theorem Box.step (h : Box W w bx size most fresh cs mid AC cC AM cM) (hb : Below w.heap.size w w') : Box W w' bx size most fresh cs mid AC cC AM cM where
  rowsC := Kd.C_below h.rowsC hb
  midC := Kd.C_below h.midC hb
  box := blk_below h.box hb
  below := h.below.trans (hb.mono h.below.size)

def BoxAt (W w : World) (R : World → Prop) (bx : Nat) (size most fresh : Int) (cs : List (List Int)) (mid : List Int) (AC : Option Addr) (cC : Nat) (AM : Option Addr) (cM : Nat) : Prop :=
  w.cell? ⟨bx, 0, none⟩ = some (.int .i64 size) ∧ w.cell? ⟨bx, 1, none⟩ = some (.int .i64 most) ∧ w.cell? ⟨bx, 2, none⟩ = some (.slice AC cs.length cC) ∧ w.cell? ⟨bx, 3, none⟩ = some (.slice AM mid.length cM) ∧ w.cell? ⟨bx, 4, none⟩ = some (.int .i64 fresh) ∧ Aside0 (Box W w bx size most fresh cs mid AC cC AM cM ∧ R w)

theorem Box.at (h : Box W w bx size most fresh cs mid AC cC AM cM) {R : World → Prop} (hr : R w) : BoxAt W w R bx size most fresh cs mid AC cC AM cM :=
  ⟨(blk_cell h.box 0).trans rfl, (blk_cell h.box 1).trans rfl, (blk_cell h.box 2).trans rfl, (blk_cell h.box 3).trans rfl, (blk_cell h.box 4).trans rfl, ⟨h, hr⟩⟩

/-- What stays where new memory is made. -/
structure Stays (R : World → Prop) : Prop where
  step : ∀ {w w' : World}, R w → Below w.heap.size w w' → R w'

theorem BoxAt.step {R : World → Prop} (hR : Stays R) (h : BoxAt W w R bx size most fresh cs mid AC cC AM cM) (hb : Below w.heap.size w w') : BoxAt W w' R bx size most fresh cs mid AC cC AM cM :=
  (h.2.2.2.2.2.out.1.step hb).at (hR.step h.2.2.2.2.2.out.2 hb)

theorem can_at {R : World → Prop} (hR : Stays R) (b : Bool) (takers : Int) (hb : PPoolR.handoffref05_Can.f size takers most = some b) (h : BoxAt W w R bx size most fresh cs mid AC cC AM cM) :
    Calls Try.prog 16 #[.int .i64 size, .int .i64 takers, .int .i64 most] w fun e w' => e = .returned (.bool b) ∧ BoxAt W w' R bx size most fresh cs mid AC cC AM cM :=
  (PPoolR.handoffref05_Can.calls size takers most b w hb).mono fun _ _ ⟨he, hd⟩ => ⟨he, h.step hR hd.below⟩

theorem right_at {R : World → Prop} (hR : Stays R) (b : Bool) (hb : PPoolR.handoffref05_Right.f 10000 size most cs mid fresh = some b) (hcC : cs.length ≤ cC) (hcM : mid.length ≤ cM) (h : BoxAt W w R bx size most fresh cs mid AC cC AM cM) :
    Calls Try.prog 17 #[.agg #[.int .i64 size, .int .i64 most, .slice AC cs.length cC, .slice AM mid.length cM, .int .i64 fresh]] w fun e w' => e = .returned (.bool b) ∧ BoxAt W w' R bx size most fresh cs mid AC cC AM cM :=
  (PPoolR.handoffref05_Right.calls 10000 size most AC cC cs AM cM mid fresh b w h.2.2.2.2.2.out.1.rowsC hcC h.2.2.2.2.2.out.1.midC hcM hb).mono fun _ _ ⟨he, hd⟩ => ⟨he, h.step hR hd⟩

/-- What New answered. -/
def NewIs (size takers most : Int) (v : Value) (n : Int) (w : World) : Prop :=
  (CanIs size takers most ∧ ∃ p base S, v = .pointer (some ⟨p, 0, none⟩) ∧ n = 0 ∧ PoolAt w base S p (PoolM.new size takers most)) ∨ (¬ CanIs size takers most ∧ v = .pointer none ∧ n = 1)

theorem new_any (size takers most : Int) (w : World) : Calls Try.prog 14 #[.int .i64 size, .int .i64 takers, .int .i64 most] w fun e w' => ∃ v n, e = .returned (.tuple #[v, .int .i64 n]) ∧ NewIs size takers most v n w' ∧ Below w.heap.size w w' := by
  by_cases h : CanIs size takers most
  · refine (new_calls w size takers most h).mono ?_
    rintro e w' ⟨p, rfl, h1, b1⟩
    exact ⟨_, _, rfl, .inl ⟨h, p, _, _, rfl, rfl, h1⟩, b1⟩
  · refine (new_no w size takers most h).mono ?_
    rintro e w' ⟨rfl, rfl⟩
    exact ⟨_, _, rfl, .inr ⟨h, rfl, rfl⟩, Below.refl _ _⟩

theorem newIs_stays (size takers most : Int) (v : Value) (n : Int) : Stays (NewIs size takers most v n) where
  step := fun h hb => by
    rcases h with ⟨h1, p, base, S, h2, h3, h4⟩ | h
    · exact .inl ⟨h1, p, base, S, h2, h3, h4.step (fun k _ hl => hb.block k hl)⟩
    · exact .inr h

/-- What Of answered. -/
def OfIs (size most : Int) (cs : List (List Int)) (mid : List Int) (fresh : Int) (v : Value) (n : Int) (w : World) : Prop :=
  (RightIs size most cs mid fresh ∧ ∃ p base S P, v = .pointer (some ⟨p, 0, none⟩) ∧ n = 0 ∧ PoolAt w base S p P ∧ P.Right ∧ P.caches = cs ∧ P.middle = mid ∧ P.fresh = fresh) ∨ (¬ RightIs size most cs mid fresh ∧ v = .pointer none ∧ n = 1)

theorem ofIs_stays (size most : Int) (cs : List (List Int)) (mid : List Int) (fresh : Int) (v : Value) (n : Int) : Stays (OfIs size most cs mid fresh v n) where
  step := fun h hb => by
    rcases h with ⟨h1, p, base, S, P, h2, h3, h4, h5⟩ | h
    · exact .inl ⟨h1, p, base, S, P, h2, h3, h4.step (fun k _ hl => hb.block k hl), h5⟩
    · exact .inr h

theorem of_any (w : World) (hC : Kd.C (Kd.slice 3 (Kd.int .i64)) w AC cs.length cs) (hM : Kd.C (Kd.int .i64) w AM mid.length mid) (hcM : mid.length ≤ cM) (hl : cs.length ≤ 20) (hr : ∀ row ∈ cs, row.length ≤ 100) (hm : mid.length ≤ 100) :
    Calls Try.prog 15 #[.int .i64 size, .int .i64 most, .slice AC cs.length cC, .slice AM mid.length cM, .int .i64 fresh] w fun e w' => ∃ v n, e = .returned (.tuple #[v, .int .i64 n]) ∧ OfIs size most cs mid fresh v n w' ∧ Below w.heap.size w w' := by
  refine (of_calls w w (Below.refl _ _) size most fresh AC cC cs AM cM mid hC hM hcM hl hr hm).mono ?_
  rintro e w' ⟨h1, h2, h3⟩
  by_cases h : RightIs size most cs mid fresh
  · obtain ⟨p, P, S, rfl, k1, k2⟩ := h1 h
    exact ⟨_, _, rfl, .inl ⟨h, p, _, S, P, rfl, rfl, k1, k2⟩, h3⟩
  · rw [h2 h]
    exact ⟨_, _, rfl, .inr ⟨h, rfl, rfl⟩, h3⟩

set_option maxRecDepth 100000 in
set_option maxHeartbeats 4000000 in
theorem walk (W : World) (cs0 : Array Value) (x0 : S30) (K0 : k30.K W x0 cs0.toList) {G0 : Prop} (_g0 : G0) (takers : Int) {G1 : Prop} (_w1 : G1) :
    Calls Try.prog 4 #[.agg cs0, .int .i64 takers] W fun e w' => e = .returned (.bool true) ∧ Below W.heap.size W w' := by
  obtain ⟨size, most, cs, mid, fresh⟩ := x0
  obtain ⟨AC, cC, AM, cM, hcs, hcC, hC, hcM, hM⟩ := pool_open K0
  simp only at hcs hcC hC hcM hM
  obtain rfl : cs0 = #[.int .i64 size, .int .i64 most, .slice AC cs.length cC, .slice AM mid.length cM, .int .i64 fresh] := by
    cases cs0
    simpa using hcs
  clear hcs K0
  have HB := Aside0.mk (show Box W (W.alloc (.cells #[.int .i64 size, .int .i64 most, .slice AC cs.length cC, .slice AM mid.length cM, .int .i64 fresh] 30)) W.heap.size size most fresh cs mid AC cC AM cM from
    { rowsC := Kd.C_alloc hC _, midC := Kd.C_alloc hM _, box := blk_new W _, below := below_alloc (Below.refl _ _) _ })
  have HCC := Aside0.mk hcC
  have HCM := Aside0.mk hcM
  have hm1 := Kd.C_max hC
  have hm2 := Kd.C_max hM
  clear hC hM hcC hcM
  go_enter Try.func4, Try.ntmps4
  go_wp2_with fail
  go_at_call 5
  generalize (W.alloc (.cells #[.int .i64 size, .int .i64 most, .slice AC cs.length cC, .slice AM mid.length cM, .int .i64 fresh] 30)) = wa at *
  obtain ⟨bx, hbx⟩ : ∃ b, W.heap.size = b := ⟨_, rfl⟩
  rw [hbx] at HB
  have HBX := Aside0.mk hbx
  refine (alive_calls _).mono ?_
  rintro e w1 ⟨rfl, b1⟩
  have H1 := Aside0.mk (HB.out.step b1)
  clear b1 HB
  rw [hbx]
  clear hbx
  have q2 : w1.cell? ⟨bx, 2, none⟩ = some (.slice AC cs.length cC) := (blk_cell H1.out.box 2).trans rfl
  have q3 : w1.cell? ⟨bx, 3, none⟩ = some (.slice AM mid.length cM) := (blk_cell H1.out.box 3).trans rfl
  by_cases c0 : 20 < (cs.length : Int)
  · have d0 : decide (20 < (cs.length : Int)) = true := decide_eq_true c0
    go_wp2_with fail
    go_ret
    exact ⟨rfl, H1.out.below⟩
  · have d0 : decide (20 < (cs.length : Int)) = false := decide_eq_false c0
    by_cases c1 : 100 < (mid.length : Int)
    · have d1 : decide (100 < (mid.length : Int)) = true := decide_eq_true c1
      go_wp2_with fail
      go_ret
      exact ⟨rfl, H1.out.below⟩
    · have d1 : decide (100 < (mid.length : Int)) = false := decide_eq_false c1
      have hl20 : cs.length ≤ 20 := by omega
      have hm100 : mid.length ≤ 100 := by omega
      clear c0 c1 hm1 hm2
      go_wp2_with fail
      go_loopg [28] cs.length (fun kq v28 wr => ∃ (g : Nat), v28 = .int .i64 g ∧ g ≤ cs.length ∧ Aside0 (kq = cs.length - g) ∧ Aside0 (w1 = wr) ∧ Aside0 (∀ i, i < g → (cs.getD i []).length ≤ 100))
      case atStart => exact ⟨0, rfl, by omega, ⟨by omega⟩, ⟨rfl⟩, ⟨fun i hi => by omega⟩⟩
      case round =>
        obtain ⟨g, rfl, hg, HK, HW, HL⟩ := hrel
        have hw := HW.out
        subst hw
        clear HW
        by_cases cg : g < cs.length
        · have d2 : decide ((g : Int) < (cs.length : Int)) = true := decide_eq_true (by omega)
          have d2' : decide (g < cs.length) = true := decide_eq_true cg
          obtain ⟨ad, rfl, A0, c0, hx, hl0, hc0⟩ := rows_at H1.out.rowsC g cg
          obtain ⟨row, hrow⟩ : ∃ row, cs.getD g [] = row := ⟨_, rfl⟩
          rw [hrow] at hx
          have HRO := Aside0.mk hrow
          clear hl0 hc0 hrow
          by_cases c2 : 100 < (row.length : Int)
          · have d3 : decide (100 < (row.length : Int)) = true := decide_eq_true c2
            have d3' : decide (100 < row.length) = true := decide_eq_true (by omega)
            go_wp2_with fail
            go_ret
            exact ⟨rfl, H1.out.below⟩
          · have d3 : decide (100 < (row.length : Int)) = false := decide_eq_false c2
            have d3' : decide (100 < row.length) = false := decide_eq_false (by omega)
            have HR2 := Aside0.mk (show row.length ≤ 100 by omega)
            clear c2
            go_wp2_with fail
            go_roundg (cs.length - (g + 1))
            case measure => have := HK.out; omega
            case rel => exact ⟨g + 1, by go_num, by omega, ⟨rfl⟩, ⟨rfl⟩, ⟨fun i hi => by
              by_cases e : i = g
              · rw [e, HRO.out]; exact HR2.out
              · exact HL.out i (by omega)⟩⟩
        · have d2 : decide ((g : Int) < (cs.length : Int)) = false := decide_eq_false (by omega)
          have d2' : decide (g < cs.length) = false := decide_eq_false cg
          have HRW : Aside0 (∀ row ∈ cs, row.length ≤ 100) := ⟨fun row hr => by
            obtain ⟨i, hi, rfl⟩ := List.getElem_of_mem hr
            have := HL.out i (by omega)
            simpa [List.getD_eq_getElem?_getD, List.getElem?_eq_getElem hi] using this⟩
          have e : g = cs.length := by omega
          clear cg HL HK hg
          subst e
          have hq0 : w1.cell? ⟨bx, 0, none⟩ = some (.int .i64 size) := (blk_cell H1.out.box 0).trans rfl
          have hq1 : w1.cell? ⟨bx, 1, none⟩ = some (.int .i64 most) := (blk_cell H1.out.box 1).trans rfl
          go_wp2_with fail
          go_at_call 14
          refine (new_any size takers most w1).mono ?_
          rintro e w2 ⟨va, na, rfl, ha, b2⟩
          have H2 := Aside0.mk (H1.out.step b2)
          have HA := Aside0.mk ha
          clear ha b2 H1 q2 q3 hq0 hq1
          have hq0 : w2.cell? ⟨bx, 0, none⟩ = some (.int .i64 size) := (blk_cell H2.out.box 0).trans rfl
          have hq1 : w2.cell? ⟨bx, 1, none⟩ = some (.int .i64 most) := (blk_cell H2.out.box 1).trans rfl
          have hq2 : w2.cell? ⟨bx, 2, none⟩ = some (.slice AC cs.length cC) := (blk_cell H2.out.box 2).trans rfl
          have hq3 : w2.cell? ⟨bx, 3, none⟩ = some (.slice AM mid.length cM) := (blk_cell H2.out.box 3).trans rfl
          have hq4 : w2.cell? ⟨bx, 4, none⟩ = some (.int .i64 fresh) := (blk_cell H2.out.box 4).trans rfl
          go_wp2_with fail
          go_at_call 15
          refine (of_any w2 H2.out.rowsC H2.out.midC HCM.out hl20 HRW.out hm100).mono ?_
          rintro e w3 ⟨vb, nb, rfl, hb, b3⟩
          have H3 := Aside0.mk (H2.out.step b3)
          have HA3 := Aside0.mk ((newIs_stays _ _ _ _ _).step HA.out b3)
          have HO := Aside0.mk hb
          clear hb b3 H2 HA hq0 hq1 hq2 hq3 hq4
          obtain ⟨ca, hca, hca'⟩ := ref_can size takers most
          obtain ⟨ri, hri, hri'⟩ := ref_right size most fresh cs mid hl20 HRW.out hm100
          have hst : Stays (fun w => NewIs size takers most va na w ∧ OfIs size most cs mid fresh vb nb w) := ⟨fun h hb => ⟨(newIs_stays _ _ _ _ _).step h.1 hb, (ofIs_stays _ _ _ _ _ _ _).step h.2 hb⟩⟩
          have HST := Aside0.mk hst
          have HCA := Aside0.mk hca
          have HRI := Aside0.mk hri
          have HCA' := Aside0.mk hca'
          have HRI' := Aside0.mk hri'
          clear hst hca hri hca' hri'
          go_wp2_with fail
          have h0 : BoxAt W w3.drew (fun w => NewIs size takers most va na w ∧ OfIs size most cs mid fresh vb nb w) bx size most fresh cs mid AC cC AM cM := (H3.out.step (below_drew (Below.refl _ _))).at ((HST.out.step ⟨HA3.out, HO.out⟩ (below_drew (Below.refl _ _))))
          go_region_held3 (fun w' => w'.cell? ⟨bx, 0, none⟩ = some (.int .i64 size) ∧ w'.cell? ⟨bx, 1, none⟩ = some (.int .i64 most) ∧ w'.cell? ⟨bx, 2, none⟩ = some (.slice AC cs.length cC) ∧ w'.cell? ⟨bx, 3, none⟩ = some (.slice AM mid.length cM) ∧ w'.cell? ⟨bx, 4, none⟩ = some (.int .i64 fresh) ∧ Aside0 (Box W w' bx size most fresh cs mid AC cC AM cM ∧ (NewIs size takers most va na w' ∧ OfIs size most cs mid fresh vb nb w'))) (first | exact h0 | (have h_ := (by assumption : BoxAt W _ (fun w => NewIs size takers most va na w ∧ OfIs size most cs mid fresh vb nb w) bx size most fresh cs mid AC cC AM cM); exact h_))
            (first
              | (go_at_call 16; refine (can_at (W := W) (bx := bx) (fresh := fresh) (cs := cs) (mid := mid) (AC := AC) (cC := cC) (AM := AM) (cM := cM) HST.out ca takers HCA.out ?h1).mono ?_; (case h1 => assumption); rintro e w4 ⟨rfl, h4⟩)
              | (go_at_call 17; refine (right_at (W := W) (bx := bx) (size := size) (most := most) (fresh := fresh) (cs := cs) (mid := mid) (AC := AC) (cC := cC) (AM := AM) (cM := cM) HST.out ri HRI.out HCC.out HCM.out ?h1).mono ?_; (case h1 => assumption); rintro e w4 ⟨rfl, h4⟩))
          all_goals
            have h_ := (by assumption : BoxAt W _ (fun w => NewIs size takers most va na w ∧ OfIs size most cs mid fresh vb nb w) bx size most fresh cs mid AC cC AM cM)
            obtain ⟨hq0, hq1, hq2, hq3, hq4, H4⟩ := h_
            obtain ⟨HBx, hna, hof⟩ := H4.out
            have H5 := Aside0.mk HBx
            clear HBx H4 H3 HA3 HO h0 HST
            try clear h4
            rcases hna with ⟨hc1, pa, ba, Sa, rfl, rfl, hpa⟩ | ⟨hc1, rfl, rfl⟩
            · obtain rfl : ca = true := HCA'.out.2 hc1
              have HPA := Aside0.mk hpa
              clear hpa hc1 HCA' HCA
              rcases hof with ⟨hr1, pb, bb, Sb, P, rfl, rfl, hpb, hPr, rfl, rfl, rfl⟩ | ⟨hr1, rfl, rfl⟩
              · obtain rfl : ri = true := HRI'.out.2 hr1
                have HPB := Aside0.mk hpb
                have HPR := Aside0.mk hPr
                clear hpb hPr hr1 HRI' HRI
                go_wp2_with fail
                go_at_call 18
                refine (count_calls _ _ _ pa _ HPA.out).mono ?_
                rintro e w5 ⟨rfl, rfl⟩
                go_wp2_with fail
                go_at_call 19
                refine (fresh_calls _ _ _ pa _ HPA.out).mono ?_
                rintro e w5 ⟨rfl, rfl⟩
                go_wp2_with fail
                go_at_call 11
                refine (same_pool _ _ _ pb P size most AC AM cC cM HPB.out HPR.out H5.out.rowsC HCC.out H5.out.midC HCM.out).mono ?_
                rintro e w5 ⟨rfl, b5⟩
                have B5 := Aside0.mk (H5.out.below.trans (b5.mono H5.out.below.size))
                clear b5
                go_wp2_with fail
                go_ret
                exact ⟨rfl, B5.out⟩
              · obtain rfl : ri = false := by
                  cases hri : ri with
                  | false => rfl
                  | true => exact absurd (HRI'.out.1 hri) hr1
                clear hr1 HRI' HRI
                go_wp2_with fail
                go_at_call 18
                refine (count_calls _ _ _ pa _ HPA.out).mono ?_
                rintro e w5 ⟨rfl, rfl⟩
                go_wp2_with fail
                go_at_call 19
                refine (fresh_calls _ _ _ pa _ HPA.out).mono ?_
                rintro e w5 ⟨rfl, rfl⟩
                go_wp2_with fail
                go_ret
                exact ⟨rfl, H5.out.below⟩
            · obtain rfl : ca = false := by
                cases hca : ca with
                | false => rfl
                | true => exact absurd (HCA'.out.1 hca) hc1
              clear hc1 HCA' HCA
              rcases hof with ⟨hr1, pb, bb, Sb, P, rfl, rfl, hpb, hPr, rfl, rfl, rfl⟩ | ⟨hr1, rfl, rfl⟩
              · obtain rfl : ri = true := HRI'.out.2 hr1
                have HPB := Aside0.mk hpb
                have HPR := Aside0.mk hPr
                clear hpb hPr hr1 HRI' HRI
                go_wp2_with fail
                go_at_call 11
                refine (same_pool _ _ _ pb P size most AC AM cC cM HPB.out HPR.out H5.out.rowsC HCC.out H5.out.midC HCM.out).mono ?_
                rintro e w5 ⟨rfl, b5⟩
                have B5 := Aside0.mk (H5.out.below.trans (b5.mono H5.out.below.size))
                clear b5
                go_wp2_with fail
                go_ret
                exact ⟨rfl, B5.out⟩
              · obtain rfl : ri = false := by
                  cases hri : ri with
                  | false => rfl
                  | true => exact absurd (HRI'.out.1 hri) hr1
                clear hr1 HRI' HRI
                go_wp2_with fail
                go_ret
                exact ⟨rfl, H5.out.below⟩
end Go.Proofs.Ytfajhdcambkbpaa.WalkPoolNew
