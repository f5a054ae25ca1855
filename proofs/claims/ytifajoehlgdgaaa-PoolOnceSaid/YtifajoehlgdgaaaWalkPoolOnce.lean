/- The walk of PoolOnce: nothing is given out twice, and all is accounted for. -/
import Derived.Test.YtifajoehlgdgaaaPoolP
import Derived.Deep.DeepCutAuto
import Derived.Deep.CutBlock
import Derived.Test.YtifajoehlgdgaaaPoolKinds
import Derived.Test.YtifajoehlgdgaaaWalkPoolAll
namespace Go.Proofs.Ytifajoehlgdgaaa.WalkPoolOnce
open Go.RowKit Go.Proofs.YtifajoehlgdgaaaW.PrintWords Go.Proofs.YtifajoehlgdgaaaW.PrintMore Go.Proofs.Ytifajoehlgdgaaa.Pool Go.Proofs.Ytifajoehlgdgaaa.PoolKinds Go.Proofs.Ytifajoehlgdgaaa.WalkPoolAll
attribute [local go_sem] max2_int max_two

theorem upto_le (P : PoolM) (g : Nat) : P.middle.length + P.upto g ≤ P.all.length := by
  have h : P.caches.flatten.length = (P.caches.take g).flatten.length + (P.caches.drop g).flatten.length := by
    conv => lhs; rw [← List.take_append_drop g P.caches]
    rw [List.flatten_append, List.length_append]
  unfold PoolM.upto PoolM.all
  rw [List.length_append]
  omega

theorem new_out (size takers most : Int) : (PoolM.new size takers most).out = List.replicate size.toNat false := rfl

set_option maxRecDepth 100000 in
set_option maxHeartbeats 8000000 in
theorem walk (W : World) (cs0 : Array Value) (x0 : S62) (K0 : k62.K W x0 cs0.toList) (_g0 : (Lit.int .u8 x0.f0).wf = true ∧ (Lit.int .u8 x0.f1).wf = true ∧ (Lit.int .u8 x0.f2).wf = true)
    (A1 : Option Addr) (c1 : Nat) (l1 : List S69) (hr1 : k69.C W A1 l1.length l1) (hc1 : l1.length ≤ c1) (_g1 : ∀ x ∈ l1, (Lit.int .i64 x.f0).wf = true ∧ (Lit.int .i64 x.f1).wf = true ∧ (Lit.int .i64 x.f2).wf = true) (_y1 : c1 * 24 ≤ 140737488351232) :
    Calls Try.prog 14 #[.agg cs0, .slice A1 l1.length c1] W fun e w' => e = .returned (.bool true) ∧ Below W.heap.size W w' := by
  have hcs := begun_open K0
  obtain rfl : cs0 = #[.int .u8 x0.f0, .int .u8 x0.f1, .int .u8 x0.f2] := by
    cases cs0
    simpa using hcs
  clear hcs K0
  have r0 := u8 _g0.1
  have r1 := u8 _g0.2.1
  have r2 := u8 _g0.2.2
  have hlen : l1.length ≤ 9223372036854775807 := by omega
  have HR := Aside0.mk hr1
  clear _g0 hr1
  go_enter Try.func14, Try.ntmps14
  go_wp2_with fail
  go_at_call 45
  refine (alive_calls _).mono ?_
  rintro e w1 ⟨rfl, b1⟩
  have hbox := blk_below (blk_new W (.cells #[.int .u8 x0.f0, .int .u8 x0.f1, .int .u8 x0.f2] 62)) b1
  have B1 : Aside0 (Below W.heap.size W w1) := ⟨(below_alloc (Below.refl _ _) _).trans (b1.mono (by simp))⟩
  clear b1
  have q0 : w1.cell? ⟨W.heap.size, 0, none⟩ = some (.int .u8 x0.f0) := (blk_cell hbox 0).trans rfl
  have q1 : w1.cell? ⟨W.heap.size, 1, none⟩ = some (.int .u8 x0.f1) := (blk_cell hbox 1).trans rfl
  have q2 : w1.cell? ⟨W.heap.size, 2, none⟩ = some (.int .u8 x0.f2) := (blk_cell hbox 2).trans rfl
  clear hbox
  go_wp2_with fail
  go_at_call 50
  refine (open_calls W w1 B1.out x0.f0 x0.f1 x0.f2 r0 r1 r2).mono ?_
  rintro e w2 ⟨p, S0, c, rfl, h2, hrw2⟩
  obtain ⟨n, hn⟩ : ∃ n : Int, x0.f0 % 30 = n := ⟨_, rfl⟩
  obtain ⟨m, hm⟩ : ∃ m : Int, 1 + x0.f2 % 16 = m := ⟨_, rfl⟩
  obtain ⟨T, hT⟩ := Int.eq_ofNat_of_zero_le (show 0 ≤ x0.f1 % 9 by omega)
  have n0 : 0 ≤ n := by omega
  have n1 : n ≤ 64 := by omega
  have t8 : T ≤ 8 := by omega
  rw [hn, hm, hT] at h2
  rw [hT] at hrw2
  rw [hn, hm, hT]
  simp only [Int.toNat_natCast] at h2 hrw2 ⊢
  clear hn hm hT q0 q1 q2 B1 r0 r1 r2
  have H2 := Aside0.mk h2.bound
  clear h2 hrw2
  by_cases h2 : 200 < (l1.length : Int)
  · have d2 : decide (200 < (l1.length : Int)) = true := decide_eq_true h2
    clear hc1 _y1 hlen
    go_wp2_with fail
    go_ret
    exact ⟨rfl, below_alloc H2.out.below _⟩
  · have d2 : decide (200 < (l1.length : Int)) = false := decide_eq_false h2
    have HL := Aside0.mk (show l1.length ≤ 200 by omega)
    clear hc1 _y1 hlen h2
    have hmB := fun w => make_run 30 4 (.bool false) rfl 1 undB infoB n n0 n1 (by omega) w
    have e1 : (w2.alloc (.cells #[.int .i64 n, .int .i64 m, .slice (some ⟨c, 0, none⟩) T T, .slice none 0 0, .int .i64 0] 65)).heap.size = w2.heap.size + 1 := by simp
    have hbx := blk_alloc (blk_new w2 (.cells #[.int .i64 n, .int .i64 m, .slice (some ⟨c, 0, none⟩) T T, .slice none 0 0, .int .i64 0] 65)) (.cells (Array.replicate n.toNat (.bool false)) 4)
    have hrow := made_bools (w2.alloc (.cells #[.int .i64 n, .int .i64 m, .slice (some ⟨c, 0, none⟩) T T, .slice none 0 0, .int .i64 0] 65)) W.heap.size n.toNat (fun b => ¬ (S0 b ∧ b < w2.heap.size) ∧ b ≠ w2.heap.size) (by rw [e1]; have := H2.out.below.size; omega) (by omega) (by rw [e1]; omega)
    rw [e1] at hrow
    have H3 := Aside0.mk (H2.out.step (w' := (w2.alloc (.cells #[.int .i64 n, .int .i64 m, .slice (some ⟨c, 0, none⟩) T T, .slice none 0 0, .int .i64 0] 65)).alloc (.cells (Array.replicate n.toNat (.bool false)) 4)) (below_alloc (below_alloc H2.out.below _) _) (fun k _ hl => (Below.heap_alloc _ _ k (by rw [e1]; omega)).trans (Below.heap_alloc _ _ k hl)))
    have HBX := Aside0.mk hbx
    have HROW := Aside0.mk hrow
    have HW2 : Aside0 (W.heap.size ≤ w2.heap.size) := ⟨H2.out.below.size⟩
    clear e1 hbx hrow H2
    go_wp2_with fail
    go_loopg [9, 40] l1.length (fun kq v9 v40 wr => ∃ (S : Nat → Prop) (P : PoolM) (i : Int), v9 = .int .i64 P.count ∧ v40 = .int .i64 i ∧ 0 ≤ i ∧ i ≤ (l1.length : Int) ∧ Aside0 (kq = l1.length - i.toNat) ∧ Aside0 (Hold W wr S p P n.toNat T m) ∧ Aside0 (Kd.R Kd.bool 4 wr W.heap.size (fun b => ¬ S b ∧ b ≠ w2.heap.size) (.slice (some ⟨w2.heap.size + 1, 0, none⟩) n.toNat n.toNat) P.out) ∧ Aside0 (wr.heap[w2.heap.size]? = some (.cells #[.int .i64 n, .int .i64 m, .slice (some ⟨c, 0, none⟩) T T, .slice none 0 0, .int .i64 0] 65 (0, 0)) ∧ ¬ S w2.heap.size))
    case atStart => exact ⟨_, _, 0, rfl, rfl, by omega, by omega, ⟨by simp⟩, H3, HROW, ⟨HBX.out, by omega⟩⟩
    case round =>
      clear H3 HROW HBX
      obtain ⟨S, P, i, rfl, rfl, i0, i1, HK, HH, HO, HX⟩ := hrel
      by_cases ci : i < (l1.length : Int)
      · have d1 : decide (i < (l1.length : Int)) = true := decide_eq_true ci
        obtain ⟨a, ha⟩ : ∃ a, l1[i.toNat]? = some a := ⟨_, List.getElem?_eq_getElem (by omega)⟩
        obtain ⟨ad, rfl, hx0, hx1, hx2⟩ := act_at (Kd.C_below HR.out HH.out.below) i.toNat a ha
        have HI := Aside0.mk ci
        clear ha
        go_upto_if 46 with (fail)
        have hbl := blk_lt HX.out.1
        obtain ⟨S1, HH2, HO2, HX2, HA2⟩ : ∃ S1 : Nat → Prop, Aside0 (Hold W (wr.alloc (.cells #[.int .i64 a.f0, .int .i64 a.f1, .int .i64 a.f2] 69)) S1 p P n.toNat T m) ∧ Aside0 (Kd.R Kd.bool 4 (wr.alloc (.cells #[.int .i64 a.f0, .int .i64 a.f1, .int .i64 a.f2] 69)) W.heap.size (fun b => ¬ S1 b ∧ b ≠ w2.heap.size) (.slice (some ⟨w2.heap.size + 1, 0, none⟩) n.toNat n.toNat) P.out) ∧ Aside0 ((wr.alloc (.cells #[.int .i64 a.f0, .int .i64 a.f1, .int .i64 a.f2] 69)).heap[w2.heap.size]? = some (.cells #[.int .i64 n, .int .i64 m, .slice (some ⟨c, 0, none⟩) T T, .slice none 0 0, .int .i64 0] 65 (0, 0)) ∧ ¬ S1 w2.heap.size) ∧ Aside0 ((wr.alloc (.cells #[.int .i64 a.f0, .int .i64 a.f1, .int .i64 a.f2] 69)).heap[wr.heap.size]? = some (.cells #[.int .i64 a.f0, .int .i64 a.f1, .int .i64 a.f2] 69 (0, 0)) ∧ ¬ S1 wr.heap.size ∧ wr.heap.size ≠ w2.heap.size) :=
          ⟨fun b => S b ∧ b < wr.heap.size, ⟨HH.out.bound.step (below_alloc HH.out.below _) (fun k _ hl => Below.heap_alloc wr _ k hl)⟩, ⟨Kd.R_alloc (Kd.R_mono HO.out (fun k hk => ⟨fun h => hk.1 h.1, hk.2⟩)) _⟩, ⟨blk_alloc HX.out.1 _, fun h => HX.out.2 h.1⟩, ⟨blk_new wr _, fun h => by omega, by omega⟩⟩
        clear hx0 hx1 hx2 hbl HH HO HX
        generalize (wr.alloc (.cells #[.int .i64 a.f0, .int .i64 a.f1, .int .i64 a.f2] 69)) = w3 at *
        generalize wr.heap.size = ab at *
        have ha0 : w3.cell? ⟨ab, 0, none⟩ = some (.int .i64 a.f0) := (blk_cell HA2.out.1 0).trans rfl
        have ha1 : w3.cell? ⟨ab, 1, none⟩ = some (.int .i64 a.f1) := (blk_cell HA2.out.1 1).trans rfl
        have ha2 : w3.cell? ⟨ab, 2, none⟩ = some (.int .i64 a.f2) := (blk_cell HA2.out.1 2).trans rfl
        obtain ⟨bv, hbv⟩ : ∃ bv, (a.f0 == 0) = bv := ⟨_, rfl⟩
        rw [hbv]
        clear hbv
        go_cut [9, 46] (fun v9 _ wc => ∃ (S : Nat → Prop) (P : PoolM), v9 = .int .i64 P.count ∧ Aside0 (Hold W wc S p P n.toNat T m) ∧ Aside0 (Kd.R Kd.bool 4 wc W.heap.size (fun b => ¬ S b ∧ b ≠ w2.heap.size) (.slice (some ⟨w2.heap.size + 1, 0, none⟩) n.toNat n.toNat) P.out) ∧ Aside0 (wc.heap[w2.heap.size]? = some (.cells #[.int .i64 n, .int .i64 m, .slice (some ⟨c, 0, none⟩) T T, .slice none 0 0, .int .i64 0] 65 (0, 0)) ∧ ¬ S w2.heap.size))
        case first =>
          have hcb := HH2.out.count_le
          have hcb1 : -1000000 ≤ P.count := by omega
          have hcb2 : P.count ≤ 1000000 := by omega
          clear hcb
          cases bv with
          | true =>
            go_wp2_with fail
            by_cases hg : 0 ≤ a.f1 ∧ a.f1 < (T : Int)
            · obtain ⟨g, hg'⟩ := Int.eq_ofNat_of_zero_le hg.1
              rw [hg']
              have hgT : g < T := by omega
              clear hg hg'
              go_at_call 47
              refine (take_kept HH2.out g hgT).mono ?_
              rintro e w4 ⟨S4, P4, x, ok, rfl, h4, _, _, htrue, hfalse, hkept⟩
              have HH4 := Aside0.mk h4
              have HO4 := Aside0.mk (row_kept HO2.out hkept)
              have hb4 := hkept _ HX2.out.2 (blk_lt HX2.out.1)
              have HX4 : Aside0 (w4.heap[w2.heap.size]? = some (.cells #[.int .i64 n, .int .i64 m, .slice (some ⟨c, 0, none⟩) T T, .slice none 0 0, .int .i64 0] 65 (0, 0)) ∧ ¬ S4 w2.heap.size) := ⟨hb4.1.trans HX2.out.1, hb4.2⟩
              have hb0 : w4.cell? ⟨w2.heap.size, 0, none⟩ = some (.int .i64 n) := (blk_cell HX4.out.1 0).trans rfl
              clear h4 hkept hb4 ha0 ha1 ha2
              cases ok with
              | true =>
                obtain ⟨y0, y1, y2, y3, y4⟩ := htrue rfl
                have HY := Aside0.mk (And.intro y3 y4)
                have e5 : decide (x < 0) = false := decide_eq_false (by omega)
                have e6 : decide (n ≤ x) = false := decide_eq_false (by omega)
                have hpl : P.out.length = n.toNat := HH2.out.size
                have hro : Kd.R Kd.bool 4 w4 W.heap.size (fun b => ¬ S4 b ∧ b ≠ w2.heap.size) (.slice (some ⟨w2.heap.size + 1, 0, none⟩) n.toNat n.toNat) P.out := HO4.out
                have hcl := Kd.R_celln false (n := n.toNat) (cap := n.toNat) hro x y0 y1
                have hval : rdOf false P.out x = false := by
                  cases e : rdOf false P.out x with
                  | false => rfl
                  | true =>
                    have h := live_mem.2 (show 0 ≤ x ∧ x < (P.out.length : Int) ∧ P.out.getD x.toNat false = true from ⟨y0, by rw [hpl]; exact y1, e⟩)
                    rw [y2] at h
                    cases h
                rw [hval] at hcl
                obtain ⟨hcl1, hcl2⟩ := hcl
                clear htrue hfalse y2 y3 y4 hro hval hpl
                go_wp2_with fail
                have hgo := HO4.out.1 (w2.heap.size + 1) (by simp [Value.ownBlock])
                go_meet
                case rel => exact ⟨S4, P4, by rw [HY.out.2], ⟨HH4.out.step (below_set HH4.out.below (by have := HW2.out; show W.heap.size ≤ w2.heap.size + 1; omega)) (fun k hk _ => Below.heap_setCell _ _ _ k (fun e => hgo.1 (by rw [← show k = w2.heap.size + 1 from e]; exact hk)))⟩, ⟨by rw [HY.out.1]; exact (Kd.R_putg HO4.out x true).1⟩, ⟨blk_far HX4.out.1 (by show w2.heap.size ≠ w2.heap.size + 1; omega) _, HX4.out.2⟩⟩
              | false =>
                have HY := Aside0.mk (hfalse rfl)
                clear htrue hfalse
                go_wp2_with fail
                go_meet
                case rel => exact ⟨S4, P4, by rw [HY.out.2.1], HH4, ⟨by rw [HY.out.1]; exact HO4.out⟩, HX4⟩
            · go_at_call 47
              refine (take_no p P a.f1 w3 _ _ HH2.out.lies (by rw [HH2.out.takers]; exact hg)).mono ?_
              rintro e w4 ⟨rfl, rfl⟩
              go_wp2_with fail
              go_meet
              case rel => exact ⟨S1, P, rfl, HH2, HO2, HX2⟩
          | false =>
            go_wp2_with fail
            by_cases hg : 0 ≤ a.f1 ∧ a.f1 < (T : Int) ∧ P.live a.f2 = true
            · obtain ⟨g, hg'⟩ := Int.eq_ofNat_of_zero_le hg.1
              have hlive := hg.2.2
              rw [hg']
              have hgT : g < T := by omega
              clear hg hg'
              go_at_call 49
              refine (give_kept HH2.out g a.f2 hgT hlive).mono ?_
              rintro e w4 ⟨S4, rfl, h4, _, ho4, hn4, hkept⟩
              have HH4 := Aside0.mk h4
              have HO4 := Aside0.mk (row_kept HO2.out hkept)
              have hb4 := hkept _ HX2.out.2 (blk_lt HX2.out.1)
              have HX4 : Aside0 (w4.heap[w2.heap.size]? = some (.cells #[.int .i64 n, .int .i64 m, .slice (some ⟨c, 0, none⟩) T T, .slice none 0 0, .int .i64 0] 65 (0, 0)) ∧ ¬ S4 w2.heap.size) := ⟨hb4.1.trans HX2.out.1, hb4.2⟩
              have hb0 : w4.cell? ⟨w2.heap.size, 0, none⟩ = some (.int .i64 n) := (blk_cell HX4.out.1 0).trans rfl
              have hab4 := (hkept _ HA2.out.2.1 (blk_lt HA2.out.1)).1.trans HA2.out.1
              have ha24 : w4.cell? ⟨ab, 2, none⟩ = some (.int .i64 a.f2) := (blk_cell hab4 2).trans rfl
              have HY := Aside0.mk (And.intro ho4 hn4)
              clear h4 hkept hb4 ha0 ha1 ha2 hab4 ho4 hn4
              obtain ⟨y0, y1, y2⟩ := live_mem.1 hlive
              rw [HH2.out.size] at y1
              have e5 : decide (a.f2 < 0) = false := decide_eq_false (by omega)
              have e6 : decide (n ≤ a.f2) = false := decide_eq_false (by omega)
              have hro : Kd.R Kd.bool 4 w4 W.heap.size (fun b => ¬ S4 b ∧ b ≠ w2.heap.size) (.slice (some ⟨w2.heap.size + 1, 0, none⟩) n.toNat n.toNat) P.out := HO4.out
              have hcl := Kd.R_celln false (n := n.toNat) (cap := n.toNat) hro a.f2 y0 y1
              rw [show rdOf false P.out a.f2 = true from y2] at hcl
              obtain ⟨hcl1, hcl2⟩ := hcl
              clear hro y2 hlive
              go_wp2_with fail
              have hgo := HO4.out.1 (w2.heap.size + 1) (by simp [Value.ownBlock])
              go_meet
              case rel => exact ⟨S4, P.give g a.f2, by rw [HY.out.2], ⟨HH4.out.step (below_set HH4.out.below (by have := HW2.out; show W.heap.size ≤ w2.heap.size + 1; omega)) (fun k hk _ => Below.heap_setCell _ _ _ k (fun e => hgo.1 (by rw [← show k = w2.heap.size + 1 from e]; exact hk)))⟩, ⟨by rw [HY.out.1]; exact (Kd.R_putg HO4.out a.f2 false).1⟩, ⟨blk_far HX4.out.1 (by show w2.heap.size ≠ w2.heap.size + 1; omega) _, HX4.out.2⟩⟩
            · go_at_call 49
              refine (give_no p P a.f1 a.f2 w3 _ _ HH2.out.lies (by rw [HH2.out.takers]; exact hg)).mono ?_
              rintro e w4 ⟨rfl, rfl⟩
              go_wp2_with fail
              go_meet
              case rel => exact ⟨S1, P, rfl, HH2, HO2, HX2⟩
        case rest =>
          clear HH2 HO2 HX2 HA2 ha0 ha1 ha2
          obtain ⟨S, P, rfl, HH, HO, HX⟩ := hcut
          have hcb := HH.out.count_le
          have hcb1 : 0 ≤ P.count := hcb.1
          have hcb2 : P.count ≤ 64 := by omega
          clear hcb
          have hall := HH.out.right.all_len
          have hfr := HH.out.right.fresh
          rw [HH.out.size] at hfr
          have HALL := Aside0.mk hall
          have HFR := Aside0.mk hfr
          clear hall hfr
          go_wp2_with fail
          go_at_call 56
          refine (middle_calls wc _ _ p P HH.out.lies HH.out.right.small'.mid).mono ?_
          rintro e w4 ⟨v, rfl, hr4, b4⟩
          obtain ⟨Am, cm, rfl⟩ := Kd.R_slice hr4
          have HH4 := Aside0.mk (HH.out.step (HH.out.below.trans (b4.mono HH.out.below.size)) (fun k _ hl => b4.block k hl))
          have HO4 := Aside0.mk (Kd.R_below HO.out b4)
          have HX4 : Aside0 (w4.heap[w2.heap.size]? = some (.cells #[.int .i64 n, .int .i64 m, .slice (some ⟨c, 0, none⟩) T T, .slice none 0 0, .int .i64 0] 65 (0, 0)) ∧ ¬ S w2.heap.size) := ⟨blk_below HX.out.1 b4, HX.out.2⟩
          clear hr4 b4 HH HO HX
          have hb2 : w4.cell? ⟨w2.heap.size, 2, none⟩ = some (.slice (some ⟨c, 0, none⟩) T T) := (blk_cell HX4.out.1 2).trans rfl
          have hu0 : P.upto 0 = 0 := by simp [PoolM.upto]
          go_wp2_with fail
          go_loopg [14, 113] T (fun kq v14 v113 wr => ∃ (g : Nat), v113 = .int .i64 g ∧ v14 = .int .i64 ((P.middle.length : Int) + P.upto g) ∧ Aside0 (g ≤ T) ∧ Aside0 (kq = T - g) ∧ Aside0 (Hold W wr S p P n.toNat T m) ∧ Aside0 (Kd.R Kd.bool 4 wr W.heap.size (fun b => ¬ S b ∧ b ≠ w2.heap.size) (.slice (some ⟨w2.heap.size + 1, 0, none⟩) n.toNat n.toNat) P.out) ∧ Aside0 (wr.heap[w2.heap.size]? = some (.cells #[.int .i64 n, .int .i64 m, .slice (some ⟨c, 0, none⟩) T T, .slice none 0 0, .int .i64 0] 65 (0, 0)) ∧ ¬ S w2.heap.size))
          case atStart => exact ⟨0, rfl, by simp [hu0], ⟨by omega⟩, ⟨by omega⟩, HH4, HO4, HX4⟩
          case round =>
            clear HH4 HO4 HX4 hb2 hu0
            obtain ⟨g, rfl, rfl, HG, HK2, HH, HO, HX⟩ := hrel
            by_cases cg : g < T
            · have d3 : decide ((g : Int) < (T : Int)) = true := decide_eq_true (by omega)
              have d3' : decide (g < T) = true := decide_eq_true cg
              obtain ⟨L, hL⟩ : ∃ L, P.caches.getD g [] = L := ⟨_, rfl⟩
              have hgc : g < P.caches.length := by rw [HH.out.takers]; exact cg
              have hk : P.kept (g : Int) = L := by unfold PoolM.kept; rw [if_pos (by omega), Int.toNat_natCast, hL]
              have hown := HH.out.right.own g
              rw [HH.out.most, hL] at hown
              have hst := upto_step P g hgc
              rw [hL] at hst
              have hs1 := upto_le P (g + 1)
              have hs2 := HALL.out
              have hs3 := HFR.out
              have hs4 : (P.middle.length : Int) + P.upto g + L.length ≤ 64 := by omega
              have hl64 : L.length ≤ 1000000 := by omega
              have d4 : decide (m < (L.length : Int)) = false := decide_eq_false (by omega)
              have HST := Aside0.mk hst
              have HKP := Aside0.mk hk
              have HGT := Aside0.mk cg
              clear hL hgc hk hown hst hs1 hs2 hs3 cg
              go_wp2_with fail
              go_at_call 57
              refine (cache_calls wr _ _ p P g HH.out.lies (by rw [HKP.out]; exact hl64)).mono ?_
              rintro e w5 ⟨v, rfl, hr5, b5⟩
              rw [HKP.out] at hr5
              obtain ⟨A5, c5, rfl⟩ := Kd.R_slice hr5
              have HH5 := Aside0.mk (HH.out.step (HH.out.below.trans (b5.mono HH.out.below.size)) (fun k _ hl => b5.block k hl))
              have HO5 := Aside0.mk (Kd.R_below HO.out b5)
              have HX5 : Aside0 (w5.heap[w2.heap.size]? = some (.cells #[.int .i64 n, .int .i64 m, .slice (some ⟨c, 0, none⟩) T T, .slice none 0 0, .int .i64 0] 65 (0, 0)) ∧ ¬ S w2.heap.size) := ⟨blk_below HX.out.1 b5, HX.out.2⟩
              clear hr5 b5 HH HO HX
              have hb1 : w5.cell? ⟨w2.heap.size, 1, none⟩ = some (.int .i64 m) := (blk_cell HX5.out.1 1).trans rfl
              go_wp2_with fail
              go_at_call 57
              refine (cache_calls w5 _ _ p P g HH5.out.lies (by rw [HKP.out]; exact hl64)).mono ?_
              rintro e w6 ⟨v, rfl, hr6, b6⟩
              rw [HKP.out] at hr6
              obtain ⟨A6, c6, rfl⟩ := Kd.R_slice hr6
              have HH6 := Aside0.mk (HH5.out.step (HH5.out.below.trans (b6.mono HH5.out.below.size)) (fun k _ hl => b6.block k hl))
              have HO6 := Aside0.mk (Kd.R_below HO5.out b6)
              have HX6 : Aside0 (w6.heap[w2.heap.size]? = some (.cells #[.int .i64 n, .int .i64 m, .slice (some ⟨c, 0, none⟩) T T, .slice none 0 0, .int .i64 0] 65 (0, 0)) ∧ ¬ S w2.heap.size) := ⟨blk_below HX5.out.1 b6, HX5.out.2⟩
              clear hr6 b6 HH5 HO5 HX5 hb1
              go_wp2_with fail
              go_roundg (T - (g + 1))
              case measure => have := HK2.out; have := HGT.out; omega
              case rel => exact ⟨g + 1, by rw [show wrap64 ((g : Int) + 1) = ((g + 1 : Nat) : Int) by unfold wrap64; have := HGT.out; omega], by rw [HST.out]; simp [Int.add_assoc], ⟨HGT.out⟩, ⟨rfl⟩, HH6, HO6, HX6⟩
            · have d3 : decide ((g : Int) < (T : Int)) = false := decide_eq_false (by omega)
              have hgT : g = T := by have := HG.out; omega
              subst hgT
              have hua := upto_all P
              rw [HH.out.takers] at hua
              have hcn := HH.out.right.count
              obtain ⟨K, hK⟩ : ∃ K : Int, (P.middle.length : Int) + P.upto g = K := ⟨_, rfl⟩
              rw [hK]
              have k0 : 0 ≤ K := by omega
              have k1 : K ≤ 64 := by have := HALL.out; have := HFR.out; omega
              have hks : K + P.count = P.fresh := by omega
              have k2 : decide (n < P.fresh) = false := decide_eq_false (by have := HFR.out; omega)
              have hb0 : wr.cell? ⟨w2.heap.size, 0, none⟩ = some (.int .i64 n) := (blk_cell HX.out.1 0).trans rfl
              clear hua hcn hK cg
              go_wp2_with fail
              go_quiet ((first | (go_at_call 48; refine Calls.quiet_of_same (count_calls _ W.heap.size S p P (HH.out.lies.step (fun _ _ _ => rfl)))) | (go_at_call 58; refine Calls.quiet_of_same (fresh_calls _ W.heap.size S p P (HH.out.lies.step (fun _ _ _ => rfl))))))
              go_wp2_with fail
              go_roundg (l1.length - (i + 1).toNat)
              case measure => have := HK.out; have := HI.out; omega
              case rel => exact ⟨S, P, i + 1, rfl, by rw [show wrap64 (i + 1) = i + 1 by unfold wrap64; have := HI.out; have := HL.out; omega], by omega, by have := HI.out; omega, ⟨rfl⟩, ⟨HH.out.step (pw_below_drewN HH.out.below _) (fun _ _ _ => rfl)⟩, ⟨Kd.R_drewN HO.out _⟩, ⟨blk_drewN HX.out.1 _, HX.out.2⟩⟩
      · have d1 : decide (i < (l1.length : Int)) = false := decide_eq_false ci
        go_wp2_with fail
        go_ret
        exact ⟨rfl, HH.out.below⟩
end Go.Proofs.Ytifajoehlgdgaaa.WalkPoolOnce
