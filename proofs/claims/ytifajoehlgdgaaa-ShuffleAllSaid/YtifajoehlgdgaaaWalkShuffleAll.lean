/- The walk of ShuffleAll: all draws make unlike orders, as many as there are. -/
import Derived.Test.YtifajoehlgdgaaaPShAx
import Derived.Test.YtifajoehlgdgaaaPlainFairShA
import Derived.Test.YtifajoehlgdgaaaOpen
import Derived.Deep.DeepCutAuto
import Derived.Deep.CutBlock
namespace Go.Proofs.Ytifajoehlgdgaaa.WalkShuffleAll
open Go.RowKit Go.Proofs.YtifajoehlgdgaaaW.PrintWords Go.Proofs.YtifajoehlgdgaaaW.PrintMore Go.Proofs.Ytifajoehlgdgaaa.PShA Go.Proofs.Ytifajoehlgdgaaa.Plain Go.Proofs.Ytifajoehlgdgaaa.PlainShA Go.Proofs.Ytifajoehlgdgaaa.PlainFairShA

theorem all_cnts : ∀ (n : Nat), ∀ l ∈ allF n, cnts l = l
  | 0, l, h => by simp [allF] at h; subst h; rfl
  | n + 1, l, h => by
    simp only [allF, List.mem_flatMap, List.mem_map, List.mem_range] at h
    obtain ⟨a, ha, d, hd, rfl⟩ := h
    rw [cnts_snoc, all_cnts n a ha, all_row n a ha, cnt_small hd]

theorem all_nodup : ∀ (n : Nat), (allF n).Nodup
  | 0 => by simp [allF]
  | n + 1 => by
    refine List.pairwise_flatMap.2 ⟨fun a _ => ?_, (all_nodup n).imp (fun {a b} hab x hx y hy => ?_)⟩
    · refine List.pairwise_map.2 (List.nodup_range.imp (fun {i j} hij e => hij ?_))
      have := List.append_cancel_left e
      have h2 : ((i : Nat) : Int) = ((j : Nat) : Int) := by simpa using this
      omega
    · simp only [List.mem_map] at hx hy
      obtain ⟨d, _, rfl⟩ := hx
      obtain ⟨e, _, rfl⟩ := hy
      exact fun h => hab (List.append_inj_left' h rfl)

theorem ord_ne {n : Nat} {i j : Nat} (hi : i < (allF n).length) (hj : j < (allF n).length) (hij : i ≠ j) : ord (allF n)[i] ≠ ord (allF n)[j] := by
  intro e
  have hmi := List.getElem_mem hi
  have hmj := List.getElem_mem hj
  have h1 := drw_ord (allF n)[i]
  have h2 := drw_ord (allF n)[j]
  rw [all_row n _ hmi, all_cnts n _ hmi] at h1
  rw [all_row n _ hmj, all_cnts n _ hmj, ← e, h1] at h2
  rcases Nat.lt_or_gt_of_ne hij with h | h
  · exact List.pairwise_iff_getElem.1 (all_nodup n) i j hi hj h h2
  · exact List.pairwise_iff_getElem.1 (all_nodup n) j i hj hi h h2.symm

theorem len_fact : ∀ m : Fin 7, ((allF m.val).length : Int) = fact m.val := by decide +kernel

/-- The first orders. -/
def made (n i : Nat) : List (List Int) := ((allF n).take i).map ord

theorem made_len (n i : Nat) (h : i ≤ (allF n).length) : (made n i).length = i := by simp [made]; omega

theorem made_succ (n i : Nat) (h : i < (allF n).length) : made n (i + 1) = made n i ++ [ord ((allF n).getD i [])] := by
  unfold made
  rw [List.take_succ_eq_append_getElem h, List.map_append]
  simp [List.getD_eq_getElem?_getD, h]

theorem made_ne (n i j : Nat) (h : i < (allF n).length) (hj : j < i) : (made n i).getD j [] ≠ ord ((allF n).getD i []) := by
  have hl : j < (made n i).length := by rw [made_len n i (by omega)]; exact hj
  have e1 : (made n i).getD j [] = ord (allF n)[j] := by
    simp [made, List.getD_eq_getElem?_getD, hj, show j < (allF n).length by omega]
  have e2 : (allF n).getD i [] = (allF n)[i] := by simp [List.getD_eq_getElem?_getD, h]
  rw [e1, e2]
  exact ord_ne (by omega) h (by omega)

theorem rows_at {w : World} {A : Option Addr} {n : Nat} {xs : List (List Int)} (h : Kd.C (Kd.slice 3 (Kd.int .i64)) w A n xs) (g : Nat) (hg : g < n) :
    ∃ ad, A = some ad ∧ ∃ A0 c0, w.cell? (ad.add g) = some (.slice A0 (xs.getD g []).length c0) ∧ (xs.getD g []).length ≤ c0 ∧ Kd.C (Kd.int .i64) w A0 (xs.getD g []).length (xs.getD g []) := by
  obtain ⟨ad, A0, c0, h1, h2, h3, h4⟩ := at_L1 h (g : Int) (by omega) (by omega)
  have e : rd_L1 xs (g : Int) = xs.getD g [] := by unfold rd_L1; rw [Int.toNat_natCast]
  rw [e] at h2 h3 h4
  rw [Int.toNat_natCast] at h2
  exact ⟨ad, h1, A0, c0, h2, h3, h4⟩

/-- A row of nothing. -/
theorem lit_none (w : World) (base : Nat) (hb : base ≤ w.heap.size) : Kd.R (Kd.slice 3 (Kd.int .i64)) 25 (w.alloc (.cells #[] 25)) base (fun k => k = w.heap.size) (.slice (some ⟨w.heap.size, 0, none⟩) 0 0) [] := by
  refine ⟨fun k hk => ?_, [], ?_, Reps.none _ _⟩
  · simpa [Value.ownBlock, eq_comm] using hk
  · have h2 := World.ownsRow_lit (base := base) (e := 25) (size := 1) w #[] 0 hb (by unfold maxLen; omega) (by simp)
    rw [show (Kd.slice 3 (Kd.int .i64)).sz = 1 from rfl]
    simpa using h2

/-- The rows of draws, and the orders that were made of the first of them. -/
structure All (W w : World) (ab N1 N2 n i : Nat) (AR : Option Addr) (cR : Nat) (v : Value) : Prop where
  rows : Kd.V (Kd.slice 3 (Kd.int .i64)) 25 w W.heap.size (fun k => N1 ≤ k ∧ k < N2) (.slice AR (allF n).length cR) (allF n)
  all : Kd.R (Kd.slice 3 (Kd.int .i64)) 25 w W.heap.size (fun k => k < N1 ∨ N2 ≤ k) v (made n i)
  below : Below W.heap.size W w
  n1 : N1 ≤ N2
  n2 : N2 ≤ w.heap.size
  n0 : W.heap.size ≤ N1

theorem All.step {W w w' : World} {ab N1 N2 n i : Nat} {AR : Option Addr} {cR : Nat} {v : Value} (h : All W w ab N1 N2 n i AR cR v) (hb : Below w.heap.size w w') : All W w' ab N1 N2 n i AR cR v where
  rows := Kd.V_below h.rows hb
  all := Kd.R_below h.all hb
  below := h.below.trans (hb.mono h.below.size)
  n1 := h.n1
  n2 := Nat.le_trans h.n2 hb.size
  n0 := h.n0

set_option maxRecDepth 100000 in
set_option maxHeartbeats 4000000 in
theorem walk (W : World) (a0 : Int) (w0 : (Lit.int .u8 a0).wf = true) :
    Calls Try.prog 3 #[.int .u8 a0] W fun e w' => e = .returned (.bool true) ∧ Below W.heap.size W w' := by
  have hb : 0 ≤ a0 ∧ a0 ≤ 255 := by
    have e1 : IntKind.u8.min = 0 := rfl
    have e2 : IntKind.u8.max = 255 := rfl
    simp [Lit.wf] at w0
    omega
  clear w0
  obtain ⟨n, hn⟩ := Int.eq_ofNat_of_zero_le (show 0 ≤ a0 % 7 by omega)
  have hn6 : n ≤ 6 := by omega
  have HN := Aside0.mk hn
  have HAL := Aside0.mk (handofflaw02_shuffleAlive.calls 100 true W (alive 100 (by omega)))
  clear hn
  go_enter Try.func3, Try.ntmps3
  go_wp2_with fail
  go_at_call 15
  refine HAL.out.mono ?_
  rintro e w1 ⟨rfl, b1⟩
  have B1 := Aside0.mk b1
  clear b1 HAL
  go_wp2_with fail
  rw [HN.out]
  go_at_call 16
  have h4 := lit_none w1 W.heap.size B1.out.size
  have HL1 : Aside0 (w1.heap.size < (w1.alloc (.cells #[] 25)).heap.size) := ⟨by simp⟩
  have B2 := Aside0.mk (below_alloc B1.out (.cells #[] 25))
  have H4 := Aside0.mk h4
  clear h4
  generalize (w1.alloc (.cells #[] 25)) = w2 at *
  generalize w1.heap.size = ab at *
  refine (handoffref02_All.calls 1200 n (allF n) w2 (all_ok n hn6 1200 (Nat.le_refl _))).mono ?_
  rintro e w3 ⟨v, rfl, hr, b3⟩
  have hv := Kd.V_bound (Kd.N_V (base' := W.heap.size) hr)
  obtain ⟨AR, cR, rfl⟩ := Kd.V_slice hv
  have H3 := Aside0.mk (show All W w3 ab w2.heap.size w3.heap.size n 0 AR cR (.slice (some ⟨ab, 0, none⟩) 0 0) from
    { rows := hv
      all := Kd.R_mono (Kd.R_below H4.out b3) (fun k hk => .inl (by rw [hk]; exact HL1.out))
      below := B2.out.trans (b3.mono B2.out.size)
      n1 := b3.size
      n2 := Nat.le_refl _
      n0 := B2.out.size })
  have hlen : (allF n).length ≤ 720 := all_len ⟨n, by omega⟩
  clear hr hv b3 H4 B2 B1 HL1
  go_wp2_with fail
  go_loopg [4, 19] (allF n).length (fun kq v4 v19 wr => ∃ (i : Nat), v19 = .int .i64 i ∧ i ≤ (allF n).length ∧ Aside0 (kq = (allF n).length - i) ∧ Aside0 (All W wr ab w2.heap.size w3.heap.size n i AR cR v4))
  case atStart => exact ⟨0, rfl, by omega, ⟨by omega⟩, H3⟩
  case round =>
    clear H3
    obtain ⟨i, rfl, hi, HK, HH⟩ := hrel
    obtain ⟨AA, cA, rfl⟩ := Kd.R_slice HH.out.all
    have hol : (made n i).length = i := made_len n i hi
    obtain ⟨os, hos⟩ : ∃ os, made n i = os := ⟨_, rfl⟩
    have HOS := Aside0.mk hos
    rw [hos] at hol HH ⊢
    have HOL := Aside0.mk hol
    have hol1 : os.length ≤ 720 := by omega
    clear hos hol
    by_cases ci : i < (allF n).length
    · have d1 : decide ((i : Int) < ((allF n).length : Int)) = true := decide_eq_true (by omega)
      have d1' : decide (i < (allF n).length) = true := decide_eq_true ci
      obtain ⟨ad, rfl, A0, c0, hx, hl, hc⟩ := rows_at (Kd.V_reads' HH.out.rows).2.2 i ci
      obtain ⟨row, hrow⟩ : ∃ row, (allF n).getD i [] = row := ⟨_, rfl⟩
      rw [hrow] at hx hl hc
      have hrl : row.length ≤ 6 := by
        rw [← hrow, List.getD_eq_getElem?_getD, List.getElem?_eq_getElem ci]
        have := all_row n _ (List.getElem_mem ci)
        simp only [Option.getD_some]
        omega
      have HROW := Aside0.mk hrow
      have HLC := Aside0.mk (And.intro hl hc)
      clear hrow hl hc
      go_wp2_with fail
      go_at_call 17
      refine (shuffle_Order.calls 100 A0 c0 row (ord row) wr HLC.out.2 HLC.out.1 (order_ok row (by omega) 100 (by omega))).mono ?_
      rintro e w4 ⟨v, rfl, hr4, b4⟩
      obtain ⟨AO, cO, rfl⟩ := Kd.R_slice hr4
      have H4 := Aside0.mk (HH.out.step b4)
      have ha4 := H4.out.all
      rw [HOS.out] at ha4
      have HA4 := Aside0.mk ha4
      clear ha4
      have HR4 := Aside0.mk hr4
      have HWR := Aside0.mk HH.out.n2
      have HB4 := Aside0.mk b4.size
      have HLT := Aside0.mk (Kd.R_lt HH.out.all)
      clear hr4 b4 HH hx
      go_wp2_with fail
      go_loopg [27] os.length (fun kq v27 wr => ∃ (j q : Nat), v27 = .int .i64 j ∧ j ≤ os.length ∧ Aside0 (kq = os.length - j) ∧ Aside0 (w4.drewN q = wr))
      case atStart => exact ⟨0, 0, rfl, by omega, ⟨by omega⟩, ⟨rfl⟩⟩
      case round =>
        obtain ⟨j, q, rfl, hj, HJ, HW⟩ := hrel
        have hw := HW.out
        subst hw
        clear HW
        by_cases cj : j < os.length
        · have d2 : decide ((j : Int) < (os.length : Int)) = true := decide_eq_true (by omega)
          have d2' : decide (j < os.length) = true := decide_eq_true cj
          obtain ⟨ad2, rfl, A5, c5, hx5, hl5, hc5⟩ := rows_at (Kd.C_drewN (Kd.R_reads' HA4.out).2.2 q) j cj
          obtain ⟨o5, ho5⟩ : ∃ o, os.getD j [] = o := ⟨_, rfl⟩
          have hne : o5 ≠ ord row := by
            have := made_ne n i j ci (by have := HOL.out; omega)
            rw [HOS.out, HROW.out, ho5] at this
            exact this
          have hl6 : o5.length ≤ 900 := by
            have h1 : o5 ∈ os := by rw [← ho5, List.getD_eq_getElem?_getD, List.getElem?_eq_getElem cj]; exact List.getElem_mem cj
            rw [← HOS.out] at h1
            obtain ⟨l, hl, rfl⟩ := List.mem_map.1 h1
            rw [ord_len, all_row n l (List.mem_of_mem_take hl)]
            omega
          rw [ho5] at hx5 hl5 hc5
          have HS := Aside0.mk (handoffref02_Same.calls 1000 A5 c5 o5 AO cO (ord row) false (w4.drewN q) hc5 hl5 (Kd.C_drewN (Kd.R_reads' HR4.out).2.2 q) (Kd.R_reads' HR4.out).2.1 (by rw [same_ok _ _ (by omega) _ (by omega), decide_eq_false hne]))
          clear hl5 hc5 hne ho5
          go_wp2_with fail
          go_at_call 18
          refine HS.out.mono ?_
          rintro e w5 ⟨rfl, ⟨⟨m5, rfl⟩⟩⟩
          go_wp2_with fail
          go_roundg (os.length - (j + 1))
          case measure => have := HJ.out; omega
          case rel => exact ⟨j + 1, q + m5, by go_num, by omega, ⟨rfl⟩, ⟨rfl⟩⟩
        · have d2 : decide ((j : Int) < (os.length : Int)) = false := decide_eq_false (by omega)
          have d2' : decide (j < os.length) = false := decide_eq_false cj
          have H5 := Aside0.mk (H4.out.step (pw_below_drewN (Below.refl _ _) q))
          have HR5 := Aside0.mk (Kd.R_drewN HR4.out q)
          have HSZ5 : Aside0 (wr.heap.size ≤ (w4.drewN q).heap.size) := ⟨show wr.heap.size ≤ w4.heap.size from HB4.out⟩
          have HA5 := Aside0.mk (Kd.R_drewN HA4.out q)
          clear H4 HR4 HA4
          generalize w4.drewN q = w5 at *
          have hM : (Kd.slice 3 (Kd.int .i64)).M w5 W.heap.size (fun k => wr.heap.size ≤ k) (ord row) [.slice AO (ord row).length cO] := Kd.M_row (Kd.R_lower (Kd.R_mono (Kd.R_bound HR5.out) (fun k hk => hk.2.1)) (Nat.le_trans H5.out.n0 (Nat.le_trans H5.out.n1 HWR.out)))
          have HM5 := Aside0.mk hM
          have HB5 := Aside0.mk H5.out.below
          clear hM HR5
          go_wp2_with ((with_reducible refine gate_builtin (b := .append) (xs := #[.tmp 35, .tmp 37]) rfl ?_); at_builtin; refine Kd.R_append (Kd.slice 3 (Kd.int .i64)) (w0 := W) W.heap.size rfl (.tmp 35) (.tmp 37) 23 25 (.slice none 0 0) 24 rfl Try.underlying23 info25 rfl (by decide) (by omega) (.slice AA os.length cA) os (ord row) [.slice AO (ord row).length cO] (fun k => k < w2.heap.size ∨ w3.heap.size ≤ k) (fun k => wr.heap.size ≤ k) rfl rfl ?aP ?aK ?aF ?aO ?aB ?aS ?aL ?_; (case aP => exact HM5.out); (case aK => exact fun k hk => ⟨.inr (Nat.le_trans HWR.out hk), fun e => by have := HLT.out k e.symm; omega⟩); (case aF => exact fun k hk => .inr (Nat.le_trans H5.out.n2 hk)); (case aO => exact HA5.out); (case aB => exact HB5.out); (case aS => exact HB5.out.size); (case aL => omega); intro v1 w6 hr6 hb6 hg6 hat6; have HR6 := Aside0.mk hr6; have HB6 := Aside0.mk hb6; have HG6 := Aside0.mk hg6; clear hr6 hb6 hg6 hat6)
          go_roundg ((allF n).length - (i + 1))
          case measure => have := HK.out; omega
          case rel =>
            have hfar : ∀ k, (w2.heap.size ≤ k ∧ k < w3.heap.size) → some k ≠ (Value.slice AA os.length cA).ownBlock := fun k hk e => by
              have h1 := HA5.out.1 k e.symm
              omega
            have hall : Kd.R (Kd.slice 3 (Kd.int .i64)) 25 w6 W.heap.size (fun k => k < w2.heap.size ∨ w3.heap.size ≤ k) v1 (made n (i + 1)) := by
              rw [made_succ n i ci, HOS.out, HROW.out]
              exact HR6.out
            exact ⟨i + 1, by go_num, by omega, ⟨rfl⟩, ⟨⟨Kd.V_grown H5.out.rows HG6.out hfar, hall, HB6.out, H5.out.n1, Nat.le_trans H5.out.n2 HG6.out.size, H5.out.n0⟩⟩⟩
    · have d1 : decide ((i : Int) < ((allF n).length : Int)) = false := decide_eq_false (by omega)
      have d1' : decide (i < (allF n).length) = false := decide_eq_false ci
      have hc := len_fact ⟨n, by omega⟩
      simp only at hc
      have hio : (os.length : Int) = fact n := by rw [← hc]; have := HOL.out; omega
      have HCN := Aside0.mk (shuffle_Count.calls 100 n (fact n) wr (count_small ⟨n, by omega⟩))
      have HIO := Aside0.mk hio
      have HB6 := Aside0.mk HH.out.below
      clear hc hio HH ci
      go_wp2_with fail
      go_at_call 19
      refine HCN.out.mono ?_
      rintro e w5 ⟨rfl, ⟨⟨m5, rfl⟩⟩⟩
      rw [← HIO.out]
      go_wp2_with fail
      go_ret
      exact ⟨rfl, pw_below_drewN HB6.out _⟩
end Go.Proofs.Ytifajoehlgdgaaa.WalkShuffleAll
