/- fair.Fair, walked: by its maps of counts. -/
import Derived.Test.YthgepdaociipmaaPFax3
import Derived.Maps.OwnOps
import Derived.Maps.Views
namespace Go.Proofs.Ythgepdaociipmaa.FairWalk
open Go.RowKit Go.Proofs.YthgepdaociipmaaW.PrintWords Go.Proofs.YthgepdaociipmaaW.PrintLast Go.Proofs.YthgepdaociipmaaW.PrintMore Go.Proofs.Ythgepdaociipmaa.PFa
attribute [local go_sem] max2_int min2_int max_two min_two max_three min_three max_four min_four
set_option linter.unusedVariables false
set_option linter.unusedSimpArgs false
def fair_Fair.upd (f : Int → Int) (g v : Int) : Int → Int := fun x => if x = g then v else f x
/-- One turn's map, out of the last one's; none: one has waited too long. -/
def fair_Fair.row (k who : Int) (W : Int → Int) : (Int → Int) → List Int → Option (Int → Int)
  | nx, [] => some nx
  | nx, g :: r => if g = who then (if k ≤ nx g then none else fair_Fair.row k who W nx r) else (if k ≤ wrap64 (W g + 1) then none else fair_Fair.row k who W (fair_Fair.upd nx g (wrap64 (W g + 1))) r)
def fair_Fair.go (k : Int) : (Int → Int) → List S29 → Bool
  | _, [] => true
  | W, t :: ts => match fair_Fair.row k t.f0 W (fun _ => 0) t.f1 with
    | none => false
    | some nx => fair_Fair.go k nx ts
def fair_Fair.f (l0 : List S29) (a1 : Int) : Bool := if a1 < 1 then decide (l0.length = 0) else fair_Fair.go a1 (fun _ => 0) l0

/-- What a map of counts reads as. -/
structure fair_Fair.Tells (D : DataW Unit) (f : Int → Int) : Prop where
  map : Go.Maps.IsMap D
  at_ : ∀ g : Int, (Lit.int .i64 g).wf = true → D.atKey (.int .i64 g) (.lit (.int .i64 0)) = .lit (.int .i64 (f g))
namespace fair_Fair
open Go.Maps
theorem law3 : Keyed Try.prog 3 := int_keyed Try.underlying3
theorem zero3 (w : World) : (zeroValue 3).run Try.prog w = .ok (.int .i64 0) w := by kernel_rfl
theorem tells_none : Tells (.map []) (fun _ => 0) := ⟨isMap_empty, fun g _ => rfl⟩
theorem tells_eq {D : DataW Unit} {f : Int → Int} (h : Tells D f) {g c : Int} (hw : (Lit.int .i64 g).wf = true) (hc : D.atKey (.int .i64 g) (.lit (.int .i64 0)) = .lit (.int .i64 c)) : c = f g := by
  have := (h.at_ g hw).symm.trans hc
  injection this with h1
  injection h1 with h2 h3
  exact h3.symm
theorem tells_put {D : DataW Unit} {f : Int → Int} (h : Tells D f) {g v : Int} (hk : WideAt.IsKeyLit (.int .i64 g)) : Tells (D.put (.int .i64 g) (.lit (.int .i64 v))) (upd f g v) := by
  refine ⟨h.map.put _ _, fun x hx => ?_⟩
  by_cases e : x = g
  · subst e
    rw [atKey_put_same h.map hk]
    simp [upd]
  · rw [atKey_put_other (fun e2 => e (by injection e2)), h.at_ x hx]
    simp [upd, e]
end fair_Fair
open fair_Fair Go.Maps in
set_option maxHeartbeats 4000000 in
set_option maxRecDepth 100000 in
theorem fair_Fair.calls (A0 : Option Addr) (c0 : Nat) (l0 : List S29) (k : Int) (w : World) (hr0 : Kd.C k29 w A0 l0.length l0) (hwf : ∀ t ∈ l0, ∀ g ∈ t.f1, (Lit.int .i64 g).wf = true) :
    Calls Try.prog 12 #[.slice A0 l0.length c0, .int .i64 k] w fun e w' => e = .returned (.bool (fair_Fair.f l0 k)) ∧ Below w.heap.size w w' := by
  have hm := Kd.C_max hr0
  have HR := Aside0.mk hr0
  have HW := Aside0.mk hwf
  have HB := Aside0.mk (Below.refl w.heap.size w)
  have hu29 := Try.underlying29
  have hu30 := Try.underlying30
  clear hr0 hwf
  by_cases hk1 : k < 1
  · have d1 : decide (k < 1) = true := decide_eq_true hk1
    have e : fair_Fair.f l0 k = decide (l0.length = 0) := by unfold fair_Fair.f; rw [if_pos hk1]
    rw [e]
    clear e
    by_cases h0 : l0.length = 0
    · have d2 : ((l0.length : Int) == 0) = true := by simp [h0]
      have d3 : decide (l0.length = 0) = true := decide_eq_true h0
      have H0 := Aside0.mk h0
      rw [d3]
      clear h0 d3
      go_enter Try.func12, Try.ntmps12
      go_wp2
      go_ret
      exact ⟨by simp [H0.out], HB.out⟩
    · have d2 : ((l0.length : Int) == 0) = false := beq_eq_false_iff_ne.2 (by omega)
      have d3 : decide (l0.length = 0) = false := decide_eq_false h0
      have H0 := Aside0.mk h0
      rw [d3]
      clear h0 d3
      go_enter Try.func12, Try.ntmps12
      go_wp2
      go_ret
      exact ⟨by simp [H0.out], HB.out⟩
  · have d1 : decide (k < 1) = false := decide_eq_false hk1
    have e : fair_Fair.f l0 k = fair_Fair.go k (fun _ => 0) l0 := by unfold fair_Fair.f; rw [if_neg hk1]
    rw [e]
    clear e
    have hmm := @run_makeMap Try.prog
    go_enter Try.func12, Try.ntmps12
    go_wp2_with fail
    have HT0 := Aside0.mk tells_none
    have HO0 := Aside0.mk (World.ownsMap_made w Try.prog 3 (plainElem (H := Unit) Try.prog 3))
    go_loopg [5, 19] l0.length (fun kq v5 v19 wr => ∃ (i bw nw : Nat) (D : DataW Unit) (f : Int → Int), v19 = .int .i64 i ∧ v5 = .map (some bw) ∧ i ≤ l0.length ∧ Aside0 (kq = l0.length - i) ∧ Aside0 (wr.ownsMap Try.prog 3 (plainElem Try.prog 3) bw nw D) ∧ Aside0 (Tells D f) ∧ Aside0 (fair_Fair.go k (fun _ => 0) l0 = fair_Fair.go k f (l0.drop i)) ∧ Aside0 (Below w.heap.size w wr))
    case atStart => exact ⟨0, _, 0, _, _, rfl, rfl, by omega, ⟨by omega⟩, HO0, HT0, ⟨by rw [List.drop_zero]⟩, ⟨(Below.refl _ _).alloc (Nat.le_refl _) _⟩⟩
    case round =>
      clear HB HT0 HO0
      obtain ⟨i, bw, nw, D, f, rfl, rfl, hi, HK, HO, HT, HG, HB⟩ := hrel
      by_cases ci : i < l0.length
      · have d2 : decide ((i : Int) < (l0.length : Int)) = true := decide_eq_true (by omega)
        have d2' : decide (i < l0.length) = true := decide_eq_true ci
        obtain ⟨ad, A1, c1, rfl, h0, h1, h2, h3⟩ := at_T29 (Kd.C_below HR.out HB.out) (i : Int) (by omega) (by omega)
        simp only [Int.toNat_natCast] at h0 h1
        have hd : l0.drop i = rd_T29 l0 (i : Int) :: l0.drop (i + 1) := by
          rw [List.drop_eq_getElem_cons ci]
          congr 1
          unfold rd_T29
          simp [List.getD_eq_getElem?_getD, ci]
        have hmem : rd_T29 l0 (i : Int) ∈ l0 := List.mem_of_mem_drop (i := i) (by rw [hd]; simp)
        obtain ⟨t, ht⟩ : ∃ t, rd_T29 l0 (i : Int) = t := ⟨_, rfl⟩
        rw [ht] at h0 h1 h2 h3 hd hmem
        obtain ⟨who, run⟩ := t
        simp only at h0 h1 h2 h3
        have HD := Aside0.mk hd
        have HC := Aside0.mk h3
        have HWF := Aside0.mk (HW.out _ hmem)
        have hm2 := Kd.C_max h3
        obtain ⟨wo, hwo⟩ : ∃ x, x = wr := ⟨_, rfl⟩
        subst hwo
        clear hd hmem ht h3
        go_wp2_with fail
        have HBo := Aside0.mk (show Below wo.heap.size wo ((wo.alloc (.cells #[.int .i64 who, .slice A1 run.length c1] 30)).alloc (.map #[] 0)) from ((Below.refl _ _).alloc (Nat.le_refl _) _).alloc (by simp) _)
        have HO1 := Aside0.mk (HO.out.kept (grown_of_below HBo.out none) (by simp))
        have HO2 := Aside0.mk (World.ownsMap_made (wo.alloc (.cells #[.int .i64 who, .slice A1 run.length c1] 30)) Try.prog 3 (plainElem (H := Unit) Try.prog 3))
        have HT2 := Aside0.mk tells_none
        have HW2 : Aside0 (((wo.alloc (.cells #[.int .i64 who, .slice A1 run.length c1] 30)).alloc (.map #[] 0)).heap[wo.heap.size]? = some (.cells #[.int .i64 who, .slice A1 run.length c1] 30 (0, 0))) := ⟨blk_alloc (blk_new wo _) _⟩
        obtain ⟨bn, hbn⟩ : ∃ b, (wo.alloc (.cells #[.int .i64 who, .slice A1 run.length c1] 30)).heap.size = b := ⟨_, rfl⟩
        have hbn2 : wo.heap.size + 1 = bn := by rw [← hbn]; simp
        have hbl := HO.out.lt
        have HBN := Aside0.mk hbn2
        rw [hbn] at HO2
        rw [hbn2]
        clear hbn hbn2 HO
        go_loopg [27] run.length (fun kq v27 wr => ∃ (j nn : Nat) (Dn : DataW Unit) (nx : Int → Int), v27 = .int .i64 j ∧ j ≤ run.length ∧ Aside0 (kq = run.length - j) ∧ Aside0 (wr.ownsMap Try.prog 3 (plainElem Try.prog 3) bw nw D) ∧ Aside0 (wr.ownsMap Try.prog 3 (plainElem Try.prog 3) bn nn Dn) ∧ Aside0 (nn ≤ j) ∧ Aside0 (Tells Dn nx) ∧ Aside0 (row k who f (fun _ => 0) run = row k who f nx (run.drop j)) ∧ Aside0 (wr.heap[wo.heap.size]? = some (.cells #[.int .i64 who, .slice A1 run.length c1] 30 (0, 0))) ∧ Aside0 (Below wo.heap.size wo wr))
        case atStart => exact ⟨0, 0, _, _, rfl, by omega, ⟨by omega⟩, HO1, HO2, ⟨by omega⟩, HT2, ⟨by rw [List.drop_zero]⟩, HW2, HBo⟩
        case round =>
          clear HO1 HO2 HT2 HW2 HBo
          obtain ⟨j, nn, Dn, nx, rfl, hj, HKj, HO, HN, HNn, HTn, HRow, HBlk, HBo⟩ := hrel
          by_cases cj : j < run.length
          · have d3 : decide ((j : Int) < (run.length : Int)) = true := decide_eq_true (by omega)
            have d3' : decide (j < run.length) = true := decide_eq_true cj
            obtain ⟨ad1, rfl, hc⟩ := Kd.at_int (Kd.C_below HC.out HBo.out) (j : Int) (by omega) (by omega)
            simp only [Int.toNat_natCast] at hc
            have hdj : run.drop j = rd run (j : Int) :: run.drop (j + 1) := by
              rw [List.drop_eq_getElem_cons cj]
              congr 1
              unfold rd
              simp [List.getD_eq_getElem?_getD, cj]
            have hgm : rd run (j : Int) ∈ run := List.mem_of_mem_drop (i := j) (by rw [hdj]; simp)
            obtain ⟨g, hg⟩ : ∃ g, rd run (j : Int) = g := ⟨_, rfl⟩
            rw [hg] at hc hdj hgm
            have hwg := HWF.out g hgm
            have hkey : keyOf Try.prog 3 (.int .i64 g) = some (.int .i64 g) := keyOf_int_mk Try.underlying3 hwg
            have HKl := Aside0.mk (show WideAt.IsKeyLit (.int .i64 g) from trivial)
            have HWG := Aside0.mk hwg
            have HDJ := Aside0.mk hdj
            have hwho : wr.cell? ⟨wo.heap.size, 0, none⟩ = some (.int .i64 who) := (blk_cell HBlk.out 0).trans rfl
            have hnb := Aside0.mk (show some bw ≠ some bn from fun e => by injection e with e; have := HBN.out; omega)
            obtain ⟨wr2, hwr⟩ : ∃ x, x = wr := ⟨_, rfl⟩
            subst hwr
            clear hg hgm hwg hdj
            by_cases cg : g = who
            · have HROW : Aside0 (row k who f (fun _ => 0) run = if k ≤ nx g then none else row k who f nx (run.drop (j + 1))) := ⟨by rw [HRow.out, HDJ.out, row, if_pos cg]⟩
              have c1' : (g != who) = false := by simp [cg]
              clear cg HRow
              by_cases ck : k ≤ nx g
              · have d4 : decide (k ≤ nx g) = true := decide_eq_true ck
                have HF : Aside0 (go k (fun _ => 0) l0 = false) := ⟨by rw [HG.out, HD.out, go, HROW.out, if_pos ck]⟩
                clear HROW HG ck
                go_wp2_with (at_lookup; refine wpList_lookup_own_int _ rfl _ _ 70 rfl 3 3 .i64 law3 Try.underlying70 Try.underlying3 (zero3 _) bn nn Dn rfl HN.out _ _ rfl hkey ?_; intro c hat hwc; obtain rfl := tells_eq HTn.out HWG.out hat; clear hat hwc)
                go_ret
                exact ⟨by rw [HF.out]; rfl, HB.out.trans (HBo.out.mono HB.out.size)⟩
              · have d4 : decide (k ≤ nx g) = false := decide_eq_false ck
                have HR3 : Aside0 (row k who f (fun _ => 0) run = row k who f nx (run.drop (j + 1))) := ⟨by rw [HROW.out, if_neg ck]⟩
                clear HROW ck
                go_wp2_with (at_lookup; refine wpList_lookup_own_int _ rfl _ _ 70 rfl 3 3 .i64 law3 Try.underlying70 Try.underlying3 (zero3 _) bn nn Dn rfl HN.out _ _ rfl hkey ?_; intro c hat hwc; obtain rfl := tells_eq HTn.out HWG.out hat; clear hat hwc)
                go_roundg (run.length - (j + 1))
                case measure => have := HKj.out; omega
                case rel => exact ⟨j + 1, nn, Dn, nx, by go_num, by omega, ⟨rfl⟩, HO, HN, ⟨by have := HNn.out; omega⟩, HTn, HR3, HBlk, HBo⟩
            · have HROW : Aside0 (row k who f (fun _ => 0) run = if k ≤ wrap64 (f g + 1) then none else row k who f (upd nx g (wrap64 (f g + 1))) (run.drop (j + 1))) := ⟨by rw [HRow.out, HDJ.out, row, if_neg cg]⟩
              have c1' : (g != who) = true := by simp [cg]
              clear cg HRow
              by_cases ck : k ≤ wrap64 (f g + 1)
              · have d4 : decide (k ≤ wrap64 (f g + 1)) = true := decide_eq_true ck
                have HF : Aside0 (go k (fun _ => 0) l0 = false) := ⟨by rw [HG.out, HD.out, go, HROW.out, if_pos ck]⟩
                clear HROW HG ck
                go_wp2_with (first  | (at_lookup; refine wpList_lookup_own_int _ rfl _ _ 70 rfl 3 3 .i64 law3 Try.underlying70 Try.underlying3 (zero3 _) bw nw D rfl HO.out _ _ rfl hkey ?_; intro c hat hwc; obtain rfl := tells_eq HT.out HWG.out hat; clear hat hwc)  | (at_mapUpdate; refine wpList_mapUpdate_own _ rfl _ _ _ 70 rfl 3 3 law3 Try.underlying70 _ bn nn Dn rfl HN.out (by have := HNn.out; unfold maxLen; omega) _ _ _ rfl rfl hkey _ [] (plainElem_int Try.underlying3 (wrap64_wf _)) ?_; intro w1 hown1 hgrow1; have HN1 := Aside0.mk hown1; have HGR := Aside0.mk hgrow1; have HT1 := Aside0.mk (tells_put (v := wrap64 (f g + 1)) HTn.out HKl.out); clear hown1 hgrow1)  | (at_lookup; refine wpList_lookup_own_int _ rfl _ _ 70 rfl 3 3 .i64 law3 Try.underlying70 Try.underlying3 (zero3 _) bn (nn + 1) _ rfl HN1.out _ _ rfl hkey ?_; intro c hat hwc; obtain rfl : c = wrap64 (f g + 1) := (tells_eq HT1.out HWG.out hat).trans (by simp [upd]); clear hat hwc))
                go_ret
                exact ⟨by rw [HF.out]; rfl, HB.out.trans ((HBo.out.grown HGR.out HBo.out.size (fun q hq => by cases hq; have := HBN.out; omega)).mono HB.out.size)⟩
              · have d4 : decide (k ≤ wrap64 (f g + 1)) = false := decide_eq_false ck
                have HR3 : Aside0 (row k who f (fun _ => 0) run = row k who f (upd nx g (wrap64 (f g + 1))) (run.drop (j + 1))) := ⟨by rw [HROW.out, if_neg ck]⟩
                clear HROW ck
                go_wp2_with (first  | (at_lookup; refine wpList_lookup_own_int _ rfl _ _ 70 rfl 3 3 .i64 law3 Try.underlying70 Try.underlying3 (zero3 _) bw nw D rfl HO.out _ _ rfl hkey ?_; intro c hat hwc; obtain rfl := tells_eq HT.out HWG.out hat; clear hat hwc)  | (at_mapUpdate; refine wpList_mapUpdate_own _ rfl _ _ _ 70 rfl 3 3 law3 Try.underlying70 _ bn nn Dn rfl HN.out (by have := HNn.out; unfold maxLen; omega) _ _ _ rfl rfl hkey _ [] (plainElem_int Try.underlying3 (wrap64_wf _)) ?_; intro w1 hown1 hgrow1; have HN1 := Aside0.mk hown1; have HGR := Aside0.mk hgrow1; have HT1 := Aside0.mk (tells_put (v := wrap64 (f g + 1)) HTn.out HKl.out); clear hown1 hgrow1)  | (at_lookup; refine wpList_lookup_own_int _ rfl _ _ 70 rfl 3 3 .i64 law3 Try.underlying70 Try.underlying3 (zero3 _) bn (nn + 1) _ rfl HN1.out _ _ rfl hkey ?_; intro c hat hwc; obtain rfl : c = wrap64 (f g + 1) := (tells_eq HT1.out HWG.out hat).trans (by simp [upd]); clear hat hwc))
                go_roundg (run.length - (j + 1))
                case measure => have := HKj.out; omega
                case rel => exact ⟨j + 1, nn + 1, _, _, by go_num, by omega, ⟨rfl⟩, ⟨HO.out.kept HGR.out hnb.out⟩, HN1, ⟨by have := HNn.out; omega⟩, HT1, HR3, ⟨blk_grown HBlk.out HGR.out (fun e => by injection e with e; have := HBN.out; omega)⟩, ⟨HBo.out.grown HGR.out HBo.out.size (fun q hq => by cases hq; have := HBN.out; omega)⟩⟩
          · have d3 : decide ((j : Int) < (run.length : Int)) = false := decide_eq_false (by omega)
            have d3' : decide (j < run.length) = false := decide_eq_false cj
            have HG2 : Aside0 (go k (fun _ => 0) l0 = go k nx (l0.drop (i + 1))) := ⟨by rw [HG.out, HD.out, go, HRow.out, List.drop_of_length_le (by omega)]; rfl⟩
            clear HRow HG
            go_wp2_with fail
            go_roundg (l0.length - (i + 1))
            case measure => have := HK.out; omega
            case rel => exact ⟨i + 1, bn, nn, Dn, nx, by go_num, rfl, by omega, ⟨rfl⟩, HN, HTn, HG2, ⟨HB.out.trans (HBo.out.mono HB.out.size)⟩⟩
      · have d2 : decide ((i : Int) < (l0.length : Int)) = false := decide_eq_false (by omega)
        have d2' : decide (i < l0.length) = false := decide_eq_false ci
        have HF : Aside0 (go k (fun _ => 0) l0 = true) := ⟨by rw [HG.out, List.drop_of_length_le (by omega)]; rfl⟩
        clear HG
        go_wp2_with fail
        go_ret
        exact ⟨by rw [HF.out]; rfl, HB.out⟩
end Go.Proofs.Ythgepdaociipmaa.FairWalk
