/- FairTells: walked. -/
import Derived.Test.YthgepdaociipmaaFairPlain
namespace Go.Proofs.Ythgepdaociipmaa.WalkFairTells
open Go.RowKit Go.Proofs.YthgepdaociipmaaW.PrintWords Go.Proofs.YthgepdaociipmaaW.PrintLast Go.Proofs.YthgepdaociipmaaW.PrintMore Go.Proofs.Ythgepdaociipmaa.PFa Go.Proofs.Ythgepdaociipmaa.FairPlain
attribute [local go_sem] max2_int min2_int max_two min_two max_three min_three max_four min_four
set_option linter.unusedVariables false
set_option linter.unusedSimpArgs false

/-- What is read of an element, in the world w0, whatever the world is now. -/
def veil {α : Type} (w0 : World) (d : Kd α) : Kd α where
  sz := d.sz
  E := []
  K := fun _ x cs => d.K w0 x cs
  M := fun _ _ _ x cs => d.K w0 x cs
  K_len := fun h => d.K_len h
  K_one := fun h => d.K_one h
  K_below := fun _ h => h
  K_of_M := fun h => h
  M_mono := fun _ h => h
  M_bound := fun h => h
  M_move := fun _ h => h
  M_lower := fun _ h => h

theorem info30 : (Try.prog.info? 30).map (fun i => (i.zero, i.size, i.bytes)) = some (some (.agg #[(.int .i64 0), (.slice none 0 0)]), 2, 32) := by kernel_rfl
theorem rows_max {w : World} {A : Option Addr} {n : Nat} {xs : List (List S46)} (h : Kd.C (Kd.slice 46 k46) w A n xs) (hn : n = xs.length) : ∀ l ∈ xs, l.length ≤ 9223372036854775807 := by
  intro l hl
  obtain ⟨i, hi, rfl⟩ := List.mem_iff_getElem.1 hl
  obtain ⟨ad, A0, c0, _, _, _, hc⟩ := at_L5 h (i : Int) (by omega) (by omega)
  have := Kd.C_max hc
  unfold rd_L5 at this
  simpa [List.getD_eq_getElem?_getD, hi] using this

set_option maxHeartbeats 4000000 in
set_option maxRecDepth 100000 in
theorem walk {G0 : Prop} (W : World) (A0 : Option Addr) (c0 : Nat) (l0 : List (List S46)) (hr0 : Kd.C (Kd.slice 46 k46) W A0 l0.length l0) (hc0 : l0.length ≤ c0) (_g0 : G0) (y0 : c0 * 24 ≤ 140737488351232)
    (A1 : Option Addr) (c1 : Nat) (l1 : List S29) (hr1 : Kd.C k29 W A1 l1.length l1) (hc1 : l1.length ≤ c1) (g1 : ∀ x ∈ l1, (Lit.int .i64 x.f0).wf = true ∧ ∀ y ∈ x.f1, (Lit.int .i64 y).wf = true) (y1 : c1 * 32 ≤ 140737488351232) (a2 : Int) (w2 : (Lit.int .i64 a2).wf = true) :
    Calls Try.prog 3 #[.slice A0 l0.length c0, .slice A1 l1.length c1, .int .i64 a2] W fun e W' => e = .returned (.bool true) ∧ Below W.heap.size W W' := by
  have hm0 := Kd.C_max hr0
  have hm1 := Kd.C_max hr1
  have ha2 : a2 ≤ 9223372036854775807 := by
    have e1 : IntKind.i64.min = -9223372036854775808 := rfl
    have e2 : IntKind.i64.max = 9223372036854775807 := rfl
    simp [Lit.wf] at w2
    omega
  have hgreat := great_l0 l0 hm0 (rows_max hr0 rfl) l0.length 0 30000 (by omega)
  rw [Int.natCast_zero, List.drop_zero] at hgreat
  have HR0 := Aside0.mk hr0
  have HR1 := Aside0.mk hr1
  have HC0 := Aside0.mk hc0
  have HC1 := Aside0.mk hc1
  have HG1 := Aside0.mk g1
  have HA2 := Aside0.mk ha2
  have hu29 := Try.underlying29
  have hu30 := Try.underlying30
  clear hr0 hr1 hc0 hc1 g1 ha2 w2 y0
  rcases hgreat with hg | ⟨hg, h100, hs⟩
  · have HG := Aside0.mk hg
    clear hg
    go_enter Try.func3, Try.ntmps3
    go_wp2_with fail
    go_at_call 6
    refine (handofflaw23_fairAlive.calls 30000 true _ (alive 30000 (by omega))).mono ?_
    rintro e w1 ⟨rfl, b1⟩
    have HB1 := Aside0.mk b1
    clear b1
    go_wp2_with fail
    go_at_call 7
    refine (handofflaw23_great.calls _ A0 c0 l0 true _ (Kd.C_below HR0.out HB1.out) HC0.out HG.out).mono ?_
    rintro e w2 ⟨rfl, b2⟩
    have HB2 := Aside0.mk (below_step HB1.out b2)
    clear b2
    go_wp2
    go_ret
    exact ⟨rfl, HB2.out⟩
  · have HG := Aside0.mk hg
    have HS := Aside0.mk (show small l0 from ⟨h100, hs⟩)
    clear hg h100 hs
    by_cases h1 : 100 < l1.length
    · have d1 : decide ((100 : Int) < (l1.length : Int)) = true := decide_eq_true (by omega)
      have d1' : decide (100 < l1.length) = true := decide_eq_true h1
      clear h1
      go_enter Try.func3, Try.ntmps3
      go_wp2_with fail
      go_at_call 6
      refine (handofflaw23_fairAlive.calls 30000 true _ (alive 30000 (by omega))).mono ?_
      rintro e w1 ⟨rfl, b1⟩
      have HB1 := Aside0.mk b1
      clear b1
      go_wp2_with fail
      go_at_call 7
      refine (handofflaw23_great.calls _ A0 c0 l0 false _ (Kd.C_below HR0.out HB1.out) HC0.out HG.out).mono ?_
      rintro e w2 ⟨rfl, b2⟩
      have HB2 := Aside0.mk (below_step HB1.out b2)
      clear b2
      go_wp2
      go_ret
      exact ⟨rfl, HB2.out⟩
    · have d1 : decide ((100 : Int) < (l1.length : Int)) = false := decide_eq_false (by omega)
      have d1' : decide (100 < l1.length) = false := decide_eq_false h1
      have h1' : l1.length ≤ 100 := by omega
      clear h1
      go_enter Try.func3, Try.ntmps3
      go_wp2_with fail
      go_at_call 6
      refine (handofflaw23_fairAlive.calls 30000 true _ (alive 30000 (by omega))).mono ?_
      rintro e w1 ⟨rfl, b1⟩
      have HB1 := Aside0.mk b1
      clear b1
      go_wp2_with fail
      go_at_call 7
      refine (handofflaw23_great.calls _ A0 c0 l0 false _ (Kd.C_below HR0.out HB1.out) HC0.out HG.out).mono ?_
      rintro e w2 ⟨rfl, b2⟩
      have HB2 := Aside0.mk (below_step HB1.out b2)
      clear b2 HB1
      go_wp2_with ((with_reducible refine gate_dst (N := 19) rfl ?_); refine Kd.R_lit (w0 := W) (veil W k29) W.heap.size 30 ?hg (N := 19) ?hd (xs := ([] : List S29)) (inner := []) (ok := fun _ => True) (okp := fun _ => True) ?hr ?hp (fun _ hk => hk) trivial HB2.out (below_size HB2.out) (by simp) ?_; (case hd => rfl); (case hg => rfl); (case hr => first | (go_simp; done) | (go_simp; rfl)); (case hp => exact (Reps.none _ _)); intro v3 w3 ho hb hg_ hnew_; clear hg_ hnew_; have HO3 := Aside0.mk ho; have HB3 := Aside0.mk hb; clear ho hb)
      go_loopg [7, 22] l1.length (fun kq v7 v22 wr => ∃ (i : Nat) (u7 : Value), v22 = .int .i64 i ∧ v7 = u7 ∧ i ≤ l1.length ∧ Aside0 (kq = l1.length - i) ∧ Aside0 (Kd.R (veil W k29) 30 wr W.heap.size (fun _ => True) u7 (l1.take i)) ∧ Aside0 (∀ t ∈ l1.take i, t.f1.length ≤ 20) ∧ Aside0 (Below W.heap.size W wr))
      case atStart => exact ⟨0, _, rfl, rfl, by omega, ⟨by omega⟩, HO3, ⟨by simp⟩, HB3⟩
      case round =>
        clear HO3 HB3 HB2
        obtain ⟨i, u7, rfl, rfl, hi, HK, HO, HT, HB⟩ := hrel
        by_cases ci : i < l1.length
        · have d2 : decide ((i : Int) < (l1.length : Int)) = true := decide_eq_true (by omega)
          have d2' : decide (i < l1.length) = true := decide_eq_true ci
          obtain ⟨ad, A5, c5, rfl, h0, h1, h2, h3⟩ := at_T29 HR1.out (i : Int) (by omega) (by omega)
          simp only [Int.toNat_natCast] at h0 h1
          have hd : l1[i]? = some (rd_T29 l1 (i : Int)) := by
            unfold rd_T29
            simp [List.getD_eq_getElem?_getD, ci]
          have htk : l1.take (i + 1) = l1.take i ++ [rd_T29 l1 (i : Int)] := by rw [List.take_add_one, hd]; rfl
          obtain ⟨t, ht⟩ : ∃ t, rd_T29 l1 (i : Int) = t := ⟨_, rfl⟩
          rw [ht] at h0 h1 h2 h3 htk
          obtain ⟨who, run⟩ := t
          simp only at h0 h1 h2 h3
          have q0 := (HB.out.cell (World.block_lt_of_cell? W _ h0)).trans h0
          have q1 := (HB.out.cell (World.block_lt_of_cell? W _ h1)).trans h1
          have hm2 := Kd.C_max h3
          have HTK := Aside0.mk htk
          have HC := Aside0.mk h3
          have HL := Aside0.mk h2
          obtain ⟨wo, hwo⟩ : ∃ x, x = wr := ⟨_, rfl⟩
          subst hwo
          clear h0 h1 h2 h3 hd htk ht
          by_cases c20 : 20 < run.length
          · have d3 : decide ((20 : Int) < (run.length : Int)) = true := decide_eq_true (by omega)
            have d3' : decide (20 < run.length) = true := decide_eq_true c20
            clear c20
            go_wp2
            go_ret
            exact ⟨rfl, below_alloc HB.out _⟩
          · have d3 : decide ((20 : Int) < (run.length : Int)) = false := decide_eq_false (by omega)
            have d3' : decide (20 < run.length) = false := decide_eq_false c20
            have HT2 : Aside0 (∀ t ∈ l1.take (i + 1), t.f1.length ≤ 20) := ⟨by
              rw [HTK.out]
              intro t ht
              rcases List.mem_append.1 ht with ht | ht
              · exact HT.out t ht
              · rw [List.mem_singleton] at ht
                subst ht
                show run.length ≤ 20
                omega⟩
            clear c20 HT
            go_wp2_with ((with_reducible refine gate_builtin (b := .append) (xs := #[.tmp 30, .tmp 32]) rfl ?_); at_builtin; refine Kd.R_append (veil W k29) (w0 := W) W.heap.size rfl (.tmp 30) (.tmp 32) 26 30 (.agg #[(.int .i64 0), (.slice none 0 0)]) 32 rfl Try.underlying26 info30 rfl (show 0 < 2 by decide) (by omega) u7 (l1.take i) (⟨who, run⟩ : S29) [.int .i64 who, .slice A5 run.length c5] (fun _ => True) (fun _ => False) rfl ?aX ?aP (fun _ hk => hk.elim) ?aF ?aO ?aB ?aS ?aL ?_; (case aX => first | (go_simp; done) | (go_simp; rfl)); (case aP => exact k29_mk W (⟨who, run⟩ : S29) HL.out HC.out); (case aF => exact (fun _ _ => trivial)); (case aO => (with_reducible repeat (first | apply Kd.R_alloc | apply Kd.R_drewN | apply Kd.R_drew)); exact HO.out); (case aB => exact below_alloc HB.out _); (case aS => exact below_size (below_alloc HB.out _)); (case aL => rw [List.length_take]; omega); intro v6 w6 ho hb hg hat; rw [← HTK.out] at ho; have HO6 := Aside0.mk ho; have HB6 := Aside0.mk hb; clear ho hb hg hat)
            go_roundg (l1.length - (i + 1))
            case measure => have := HK.out; omega
            case rel => exact ⟨i + 1, _, by go_num, rfl, by omega, ⟨rfl⟩, HO6, HT2, HB6⟩
        · have d2 : decide ((i : Int) < (l1.length : Int)) = false := decide_eq_false (by omega)
          have d2' : decide (i < l1.length) = false := decide_eq_false ci
          obtain rfl : i = l1.length := by omega
          have HO2 := HO.out
          have HT2 := HT.out
          rw [List.take_length] at HO2 HT2
          obtain ⟨A7, c7, rfl⟩ := Kd.R_slice HO2
          have hrd := (Kd.R_reads' HO2).2.2
          have hcc := (Kd.R_reads' HO2).2.1
          have hC : Kd.C k29 wr A7 l1.length l1 := ReadsRow.imp_ hrd (Below.refl _ _) (fun _ _ h => k29.K_below HB.out h)
          have e1 := work_is l0 HS.out 30000 (by omega)
          have e2 := rwork_is l0 HS.out 30000 (by omega)
          obtain ⟨x, e3, e4⟩ := bound_is l0 HS.out a2 30000 (by omega)
          have e5 := fair_same l1 h1' HT2 a2 HA2.out 30000 (by omega)
          obtain ⟨nw, hnw⟩ : ∃ n : Int, ((l0.length + costs l0 : Nat) : Int) = n := ⟨_, rfl⟩
          rw [hnw] at e1 e2
          obtain ⟨bf, hbf⟩ : ∃ b, FairWalk.fair_Fair.f l1 a2 = b := ⟨_, rfl⟩
          have HE1 := Aside0.mk e1
          have HE2 := Aside0.mk e2
          have HE3 := Aside0.mk e3
          have HE4 := Aside0.mk e4
          rw [hbf] at e5
          have HE5 := Aside0.mk e5
          have HBF := Aside0.mk hbf
          have HC7 := Aside0.mk hC
          have HCC := Aside0.mk hcc
          obtain ⟨wo, hwo⟩ : ∃ x, x = wr := ⟨_, rfl⟩
          subst hwo
          clear e1 e2 e3 e4 e5 hnw hbf hC hcc hrd HO2 HT2 HO HT
          go_wp2_with fail
          go_at_call 8
          refine (fair_Work.calls 30000 A0 c0 l0 nw _ (Kd.C_below HR0.out HB.out) HC0.out HE1.out).mono ?_
          rintro e w3 ⟨rfl, b1⟩
          have HB1 := Aside0.mk (below_step HB.out b1)
          have HS1 := Aside0.mk (b1)
          clear b1
          go_wp2_with fail
          go_at_call 9
          refine (handoffref23_Work.calls 30000 A0 c0 l0 nw _ (Kd.C_below HR0.out HB1.out) HC0.out HE2.out).mono ?_
          rintro e w4 ⟨rfl, b2⟩
          have HB2 := Aside0.mk (below_step HB1.out b2)
          have HS2 := Aside0.mk (below_step HS1.out b2)
          clear b2
          go_wp2_with fail
          go_at_call 10
          refine (fair_Bound.calls 30000 A0 c0 l0 a2 x _ (Kd.C_below HR0.out HB2.out) HC0.out HE3.out).mono ?_
          rintro e w5 ⟨rfl, b3⟩
          have HB3 := Aside0.mk (below_step HB2.out b3)
          have HS3 := Aside0.mk (below_step HS2.out b3)
          clear b3
          go_wp2_with fail
          go_at_call 11
          refine (handoffref23_Bound.calls 30000 A0 c0 l0 a2 x _ (Kd.C_below HR0.out HB3.out) HC0.out HE4.out).mono ?_
          rintro e w6 ⟨rfl, b4⟩
          have HB4 := Aside0.mk (below_step HB3.out b4)
          have HS4 := Aside0.mk (below_step HS3.out b4)
          clear b4
          go_wp2_with fail
          go_at_call 12
          refine (FairWalk.fair_Fair.calls A7 c7 l1 a2 _ (Kd.C_below HC7.out HS4.out) (fun t ht => (HG1.out t ht).2)).mono ?_
          rintro e w7 ⟨rfl, b5⟩
          have HB5 := Aside0.mk (below_step HB4.out b5)
          have HS5 := Aside0.mk (below_step HS4.out b5)
          clear b5
          rw [HBF.out]
          go_wp2_with fail
          go_at_call 13
          refine (handoffref23_Fair.calls 30000 A1 c1 l1 a2 bf _ (Kd.C_below HR1.out HB5.out) HC1.out HE5.out).mono ?_
          rintro e w8 ⟨rfl, b6⟩
          have HB6 := Aside0.mk (below_step HB5.out b6)
          have HS6 := Aside0.mk (below_step HS5.out b6)
          clear b6
          go_wp2
          go_ret
          exact ⟨rfl, HB6.out⟩
end Go.Proofs.Ythgepdaociipmaa.WalkFairTells
