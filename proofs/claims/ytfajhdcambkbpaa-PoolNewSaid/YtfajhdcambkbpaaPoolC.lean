/- Package pool: a thing comes back. -/
import Derived.Test.YtfajhdcambkbpaaPoolB
namespace Go.Proofs.Ytfajhdcambkbpaa.Pool
open Go.RowKit Go.Proofs.YtfajhdcambkbpaaW.PrintWords Go.Proofs.YtfajhdcambkbpaaW.PrintMore
attribute [local go_sem] max2_int max_two

def spill (half : Int) : Nat → List Int → List Int → List Int × List Int
  | 0, mid, own => (mid, own)
  | k + 1, mid, own => if half < (own.length : Int) then spill half k (mid ++ [lastI own]) (own.take (own.length - 1)) else (mid, own)

def PoolM.spilled (P : PoolM) (g : Nat) : List Int × List Int :=
  if ((P.caches.getD g []).length : Int) = P.most then spill (P.most / 2) (P.caches.getD g []).length P.middle (P.caches.getD g []) else (P.middle, P.caches.getD g [])

theorem spill_step {half : Int} {mid own : List Int} (h1 : 0 ≤ half) (h2 : half < (own.length : Int)) : spill half own.length mid own = spill half (own.length - 1) (mid ++ [lastI own]) (own.take (own.length - 1)) := by
  obtain ⟨m, hm⟩ : ∃ m, own.length = m + 1 := ⟨own.length - 1, by omega⟩
  rw [hm]
  simp only [spill, Nat.add_sub_cancel]
  rw [if_pos (by omega), hm, Nat.add_sub_cancel]

theorem spill_stop {half : Int} {mid own : List Int} (h : ¬ half < (own.length : Int)) : spill half own.length mid own = (mid, own) := by
  cases hm : own.length with
  | zero => rfl
  | succ m =>
    simp only [spill]
    rw [if_neg h]

theorem spill_len (half : Int) (h0 : 0 ≤ half) : ∀ (k : Nat) (mid own : List Int), (spill half k mid own).1.length + (spill half k mid own).2.length = mid.length + own.length
  | 0, _, _ => rfl
  | k + 1, mid, own => by
    simp only [spill]
    split
    · rename_i h
      rw [spill_len half h0 k, List.length_take, List.length_append, List.length_singleton]
      omega
    · rfl

theorem spilled_len (P : PoolM) (g : Nat) (h0 : 0 ≤ P.most) : (P.spilled g).1.length + (P.spilled g).2.length = P.middle.length + (P.caches.getD g []).length := by
  unfold PoolM.spilled
  split
  · rw [spill_len _ (by omega)]
  · rfl

/-- A round of the spilling: the cache's last one comes out, and behind all of the middle. -/
theorem spill_done {w4 w1 : World} {base : Nat} {S' : Nat → Prop} {ow' : Nat → Nat} {p c go capo g m : Nat} {vo vm' v1 : Value} {hh' : List Value} {P : PoolM} {mid own : List Int} {x : Int} (h : PoolIn w4 base S' ow' p c vo vm' hh' (P.rows g mid own)) (hg : g < hh'.length) (hgc : g < P.caches.length)
    (hv : hh'.getD g undef = .slice (some ⟨go, 0, none⟩) own.length capo) (hr : Kd.R (Kd.int .i64) 3 w1 base (fun b => S' b ∧ (ow' b = 3 ∨ w4.heap.size ≤ b)) v1 (mid ++ [x]))
    (hgr : ((w4.drewN m).setCell ⟨c, g, none⟩ (.slice (some ⟨go, 0, none⟩) (own.length - 1) capo)).grownBy w1 vm'.ownBlock) :
    ∃ ow'' hh'', hh''.length = hh'.length ∧ PoolIn (w1.setCell ⟨p, 2, none⟩ v1) base S' ow'' p c vo v1 hh'' (P.rows g (mid ++ [x]) (own.take (own.length - 1))) := by
  have h1 := h.step (w1 := w4.drewN m) (fun _ _ _ => rfl)
  have h3 := PoolIn.pop_row h1 hg (own := own) (by simp [PoolM.rows, List.getD_eq_getElem?_getD, hgc]) hv
  have hmd := h3.mid
  have hsz : ((w4.drewN m).setCell ⟨c, g, none⟩ (.slice (some ⟨go, 0, none⟩) (own.length - 1) capo)).heap.size = w4.heap.size := by simp [World.setCell]
  obtain ⟨ow'', h4⟩ := PoolIn.push_mid (v' := v1) (mid' := mid ++ [x]) h3 (fun k hk => (hmd.1 k hk).2) hgr (by rw [hsz]; exact hr)
  refine ⟨ow'', hh'.set g (.slice (some ⟨go, 0, none⟩) (own.length - 1) capo), List.length_set, ?_⟩
  have e : ({ ({ (P.rows g mid own) with caches := (P.rows g mid own).caches.set g (own.take (own.length - 1)) } : PoolM) with middle := mid ++ [x] } : PoolM) = P.rows g (mid ++ [x]) (own.take (own.length - 1)) := by
    simp [PoolM.rows]
  rw [← e]
  exact h4

/-- Give: a thing comes back. -/
def PoolM.give (P : PoolM) (g : Nat) (x : Int) : PoolM :=
  { P.rows g (P.spilled g).1 ((P.spilled g).2 ++ [x]) with out := P.out.set x.toNat false, count := P.count - 1 }

set_option maxHeartbeats 4000000 in
theorem give_calls (p : Nat) (P : PoolM) (g : Nat) (x : Int) (w0 w : World) (S : Nat → Prop) (hB : Below w0.heap.size w0 w) (h : PoolAt w w0.heap.size S p P) (hs : P.Small) (hg : g < P.caches.length) (hx : P.live x = true) :
    Calls Try.prog 10 #[.pointer (some ⟨p, 0, none⟩), .int .i64 g, .int .i64 x] w fun e w' => e = .returned (.bool true) ∧ PoolAt w' w0.heap.size (fun b => S b ∨ w.heap.size ≤ b) p (P.give g x) ∧ Below w0.heap.size w0 w' ∧ Kept w w' S := by
  obtain ⟨ow, c, vo, vm, hh, h⟩ := h
  have hT := fun w => taker_calls w w0.heap.size S p P g
  have hV := fun w => live_calls w w0.heap.size S p P x
  have hx2 : 0 ≤ x ∧ x < (P.out.length : Int) := by
    unfold PoolM.live at hx
    split at hx
    · assumption
    · cases hx
  have hc1 : w.cell? ⟨p, 1, none⟩ = some (.slice (some ⟨c, 0, none⟩) hh.length hh.length) := (blk_cell h.blk 1).trans rfl
  have hgl : (g : Int) < (hh.length : Int) := by rw [h.len]; omega
  have hx0 := hx2.1
  obtain ⟨own0, hown0⟩ : ∃ o, P.caches.getD g [] = o := ⟨_, rfl⟩
  have hrw := h.row g (by omega)
  rw [hown0] at hrw
  obtain ⟨A, cap, hrow⟩ := Kd.R_slice hrw
  have hc2 : w.cell? ⟨c, g, none⟩ = some (.slice A own0.length cap) := by
    rw [← hrow, blk_cell h.hdr g]
    simp [List.getD_eq_getElem?_getD, show g < hh.length by omega]
  have hcq0 : w.cell? ⟨p, 4, none⟩ = some (.int .i64 P.most) := (blk_cell h.blk 4).trans rfl
  have hP0 : P.rows g P.middle own0 = P := by
    unfold PoolM.rows
    have : P.caches.set g own0 = P.caches := by
      rw [← hown0]
      apply List.ext_getElem?
      intro i
      rw [List.getElem?_set]
      by_cases e : g = i
      · subst e; rw [if_pos rfl, if_pos hg]; simp [List.getD_eq_getElem?_getD, hg]
      · rw [if_neg e]
    rw [this]
  have hrf : P.spilled g = if (own0.length : Int) = P.most then spill (P.most / 2) own0.length P.middle own0 else (P.middle, own0) := by unfold PoolM.spilled; rw [hown0]
  have HH : Aside0 (PoolIn w w0.heap.size S ow p c vo vm hh (P.rows g P.middle own0)) := ⟨by rw [hP0]; exact h⟩
  have HS := Aside0.mk hs
  have HB := Aside0.mk hB
  have HT := Aside0.mk hT
  have HV := Aside0.mk hV
  have HRF := Aside0.mk hrf
  have HIN := Aside0.mk (show PoolAt w w0.heap.size S p P from ⟨_, _, _, _, _, h⟩)
  have hd : decide (0 ≤ (g : Int) ∧ (g : Int) < P.caches.length) = true := by simp [hg]
  have HG := Aside0.mk hg
  have HX := Aside0.mk hx2
  have HLV := Aside0.mk hx
  clear hx hx2
  clear h hs hB hT hV hrow hP0 hrf hown0 hrw hg
  go_enter Try.func10, Try.ntmps10
  go_upto_region 4 with (first | (go_at_call 23; refine (HT.out _ HIN.out).mono ?_; rintro e w' ⟨rfl, rfl⟩; rw [hd]) | (go_at_call 12; refine (HV.out _ HIN.out).mono ?_; rintro e w'' ⟨rfl, rfl⟩; rw [HLV.out]))
  go_quiet (fail)
  have HH1 := Aside0.mk (HH.out.step (w1 := w''.drewN nq) (fun _ _ _ => rfl))
  have HB1 := Aside0.mk (pw_below_drewN HB.out nq)
  have HK1 : Aside0 (Kept w'' (w''.drewN nq) S) := ⟨Kept.drewN (Kept.refl _ _) nq⟩
  have HHW : Aside0 (w''.heap.size ≤ (w''.drewN nq).heap.size) := ⟨Nat.le_refl _⟩
  clear HH HB HT HV HIN hc1 hc2 hcq0
  generalize w''.drewN nq = w4 at *
  clear nq
  go_upto_if 32 with (fail)
  obtain ⟨bv, hbv⟩ : ∃ bv, ((own0.length : Int) == P.most) = bv := ⟨_, rfl⟩
  rw [hbv]
  have HBV := Aside0.mk hbv
  clear hbv
  go_cut [7, 32] (fun v7 _ wc => v7 = .pointer (some ⟨c, g, none⟩) ∧ ∃ (ow' : Nat → Nat) (vm' : Value) (hh' : List Value), hh'.length = hh.length ∧ Aside0 (PoolIn wc w0.heap.size (fun b => S b ∨ w''.heap.size ≤ b) ow' p c vo vm' hh' (P.rows g (P.spilled g).1 (P.spilled g).2)) ∧ Aside0 (Below w0.heap.size w0 wc) ∧ Aside0 (Kept w'' wc S))
  case first =>
    by_cases c0 : (own0.length : Int) = P.most
    · have b0 : bv = true := by rw [← HBV.out]; simpa using c0
      subst b0
      have RF : Aside0 (P.spilled g = spill (P.most / 2) own0.length P.middle own0) := ⟨by rw [HRF.out, if_pos c0]⟩
      have c0' : Aside0 ((own0.length : Int) = P.most) := ⟨c0⟩
      clear HRF c0
      go_wp2
      go_loopg [] own0.length (fun kq wr => ∃ (ow' : Nat → Nat) (vm' : Value) (hh' : List Value) (mid own : List Int), Aside0 (hh'.length = hh.length) ∧ Aside0 (kq = own.length) ∧ Aside0 (mid.length + own.length ≤ 2000000) ∧ Aside0 (P.spilled g = spill (P.most / 2) kq mid own) ∧ Aside0 (PoolIn wr w0.heap.size (fun b => S b ∨ w''.heap.size ≤ b) ow' p c vo vm' hh' (P.rows g mid own)) ∧ Aside0 (Below w0.heap.size w0 wr) ∧ Aside0 (Kept w'' wr S))
      case atStart => exact ⟨ow, vm, hh, P.middle, own0, ⟨rfl⟩, ⟨rfl⟩, ⟨by have := HS.out.mid; have := HS.out.most; have := c0'.out; omega⟩, RF, ⟨HH1.out.mono (fun k hk => .inl hk)⟩, HB1, HK1⟩
      case round =>
        clear RF HH1 HB1 HK1
        obtain ⟨ow', vm', hh', mid, own, HL, HK1, HSZ, RF, HH, HB, HK⟩ := hrel
        have h := HH.out
        obtain ⟨Am, cm, hvm⟩ := Kd.R_slice h.mid
        have e1 : (P.rows g mid own).middle = mid := rfl
        have e2 : (P.rows g mid own).caches.getD g [] = own := by simp [PoolM.rows, List.getD_eq_getElem?_getD, HG.out]
        rw [e1] at hvm
        subst hvm
        obtain ⟨Ao, co, hvo, hco2, hco, hcof, hlast⟩ := h.row_at (by rw [HL.out]; have := hgl; omega) e2
        have hcm : wr.cell? ⟨p, 2, none⟩ = some (.slice Am mid.length cm) := (blk_cell h.blk 2).trans rfl
        have hcq : wr.cell? ⟨p, 4, none⟩ = some (.int .i64 P.most) := (blk_cell h.blk 4).trans rfl
        have q0 : 0 ≤ P.most := by have := HS.out.most; omega
        have HO := Aside0.mk hvo
        have HLA := Aside0.mk hlast
        clear h hvo e1 e2 hlast
        obtain ⟨q, hq⟩ : ∃ q, wrap64 (P.most.tdiv 2) = q := ⟨_, rfl⟩
        have hq2 : q = P.most / 2 := by rw [← hq, Int.tdiv_eq_ediv_of_nonneg q0]; have := HS.out.most; unfold wrap64; omega
        have HQ := Aside0.mk hq2
        have HQ0 : Aside0 (0 ≤ P.most / 2) := ⟨by omega⟩
        clear hq2
        by_cases c1 : q < (own.length : Int)
        · have b1 : decide (q < (own.length : Int)) = true := decide_eq_true c1
          have c2 : 0 < own.length := by have := HQ.out; omega
          obtain ⟨go, hAo, hlc⟩ := HLA.out c2
          subst hAo
          replace hlc : wr.cell? ⟨go, own.length - 1, none⟩ = some (.int .i64 (lastI own)) := hlc
          have HLC := Aside0.mk hlc
          clear HLA hlc
          go_wp2
          go_quiet (fail)
          have HH4 := Aside0.mk (HH.out.step (w1 := wr.drewN nq) (fun _ _ _ => rfl))
          have HB4 := Aside0.mk (pw_below_drewN HB.out nq)
          have HK4 := Aside0.mk (Kept.drewN HK.out nq)
          have hlc : (wr.drewN nq).cell? ⟨go, own.length - 1, none⟩ = some (.int .i64 (lastI own)) := HLC.out
          clear HH HB HK HLC hcm hco hcq hcof
          generalize wr.drewN nq = w5 at *
          clear nq
          have hcm : w5.cell? ⟨p, 2, none⟩ = some (.slice Am mid.length cm) := (blk_cell HH4.out.blk 2).trans rfl
          have hfm : w5.frozen? ⟨p, 2, none⟩ = false := blk_frozen HH4.out.blk 2
          have hco : w5.cell? ⟨c, g, none⟩ = some (.slice (some ⟨go, 0, none⟩) own.length co) := by
            rw [← HO.out, blk_cell HH4.out.hdr g]
            simp [List.getD_eq_getElem?_getD, show g < hh'.length by rw [HL.out]; have := hgl; omega]
          have hfo : w5.frozen? ⟨c, g, none⟩ = false := blk_frozen HH4.out.hdr g
          have hpc : ¬ (c = p) := fun e => HH4.out.pc e.symm
          have hpc' : ¬ (p = c) := HH4.out.pc
          have hcl : c < w5.heap.size := blk_lt HH4.out.hdr
          have hpl : p < w5.heap.size := blk_lt HH4.out.blk
          have hcn : ¬ (c = w5.heap.size) := by omega
          have hpn : ¬ (p = w5.heap.size) := by omega
          have hmid4 := HH4.out.mid
          rw [show (P.rows g mid own).middle = mid from rfl] at hmid4
          have HMID4 := Aside0.mk hmid4
          clear hmid4
          have HNE := Aside0.mk (show ∀ k, (Value.slice Am mid.length cm).ownBlock = some k → k ≠ c ∧ k ≠ p ∧ ow' k = 3 from fun k hk => by
            have h1 := (HMID4.out.1 k hk).2
            refine ⟨fun e => ?_, fun e => ?_, h1⟩
            · rw [e, HH4.out.oc] at h1; omega
            · rw [e, HH4.out.op] at h1; omega)
          go_wp2
          go_region_law
            (first | (go_simp; go_at_call 24; refine (pop_calls _ c g go own.length co (lastI own) c2 (by have := HSZ.out; omega) hco2 ?p1 ?p2 ?p3).mono ?_; (case p1 => go_simp); (case p2 => go_simp); (case p3 => go_simp); rintro e w6 ⟨rfl, m6, rfl⟩) | (refine Kd.R_append_step (Kd.int .i64) (w0 := w0) w0.heap.size (by rfl) (.tmp 47) (.tmp 50) 28 3 (.int .i64 0) 8 (by rfl) Try.underlying28 infoI rfl (by decide) (by omega) (.slice Am mid.length cm) mid (lastI own) [.int .i64 (lastI own)] (fun b => (S b ∨ w''.heap.size ≤ b) ∧ (ow' b = 3 ∨ w5.heap.size ≤ b)) (fun _ => False) (by rfl) (by first | rfl | (go_simp; done) | (simp [Act.eval]; done)) rfl (fun _ h => h.elim) ?aF ?aO ?aB ?aS ?aL ?_; (case aF => exact fun k hk => ⟨.inr (Nat.le_trans HK4.out.1 (by simpa using hk)), .inr (by simpa using hk)⟩); (case aO => exact Kd.R_mono (ok := fun b => (S b ∨ w''.heap.size ≤ b) ∧ ow' b = 3) (by repeat (first | exact HMID4.out | apply Kd.R_drewN | apply Kd.R_drew | refine Kd.R_far ?_ (fun k hk e => by have h1 := hk.2; rw [show k = c from e, HH4.out.oc] at h1; omega) _)) (fun k hk => ⟨hk.1, .inl hk.2⟩)); (case aB => exact (by repeat (first | exact HB4.out | apply pw_below_drewN | apply below_drew1 | refine below_set ?_ HH4.out.bc))); (case aS => simpa using HB4.out.size); (case aL => have := HSZ.out; omega); intro v1 w1 hr hb hg hat; obtain ⟨A1, k1, hv1⟩ := Kd.R_slice hr; subst hv1; have hp1 : w1.heap[p]? = some (.cells #[vo, .slice (some ⟨c, 0, none⟩) hh'.length hh'.length, .slice Am mid.length cm, .int .i64 P.fresh, .int .i64 P.most, .int .i64 P.count] 59 (0, 0)) := blk_grown (by repeat (first | exact HH4.out.blk | refine blk_drewN ?_ _ | refine blk_drew ?_ | refine blk_far ?_ hpc' _)) hg (fun e => (HNE.out p e.symm).2.1 rfl); have hp1c : w1.cell? ⟨p, 2, none⟩ = some (.slice Am mid.length cm) := (blk_cell hp1 2).trans rfl; have hp1f : w1.frozen? ⟨p, 2, none⟩ = false := blk_frozen hp1 2; have HR1 := Aside0.mk hr; have HB1 := Aside0.mk hb; have HG1 := Aside0.mk hg; clear hr hb hg hat))
          all_goals
            go_wp2
            obtain ⟨ow'', hh6, hl6, h6⟩ := spill_done HH4.out (by rw [HL.out]; have := hgl; omega) HG.out HO.out HR1.out HG1.out
            simp only [List.length_append, List.length_singleton] at h6
            have H6 := Aside0.mk h6
            have HL6 := Aside0.mk (hl6.trans HL.out)
            clear h6 hl6
            go_roundg (own.length - 1)
            case measure => have := HK1.out; omega
            case rel => exact ⟨ow'', _, hh6, mid ++ [lastI own], own.take (own.length - 1), HL6, ⟨by rw [List.length_take]; omega⟩, ⟨by have := HSZ.out; rw [List.length_take, List.length_append, List.length_singleton]; omega⟩, ⟨by rw [RF.out, HK1.out]; exact spill_step HQ0.out (by rw [← HQ.out]; exact c1)⟩, H6, ⟨below_set HB1.out HH4.out.bp⟩, ⟨Kept.setCell (kept_grown (Kept.setCell (Kept.drewN HK4.out _) HH4.out.sc _) HG1.out (fun k hk => (HMID4.out.1 k hk).1)) HH4.out.sp _⟩⟩
        · have b1 : decide (q < (own.length : Int)) = false := decide_eq_false c1
          clear HLA
          go_wp2
          go_quiet (fail)
          go_wp2
          go_meet
          case rel => exact ⟨rfl, ow', _, hh', HL.out, ⟨by rw [RF.out, HK1.out, spill_stop (by rw [← HQ.out]; omega)]; exact HH.out.step (fun _ _ _ => rfl)⟩, ⟨pw_below_drewN HB.out _⟩, ⟨Kept.drewN HK.out _⟩⟩
    · have b0 : bv = false := by rw [← HBV.out]; simpa using c0
      subst b0
      have RF : Aside0 (P.spilled g = (P.middle, own0)) := ⟨by rw [HRF.out, if_neg c0]⟩
      clear HRF c0
      go_wp2
      go_meet
      case rel => exact ⟨rfl, ow, vm, hh, rfl, ⟨by rw [RF.out]; exact HH1.out.mono (fun k hk => .inl hk)⟩, HB1, HK1⟩
  case rest =>
    clear HRF HH1 HB1 HK1
    obtain ⟨rfl, ow', vm', hh', hl, HH, HB, HK⟩ := hcut
    obtain ⟨mid, own, hr⟩ : ∃ mid own, P.spilled g = (mid, own) := ⟨_, _, rfl⟩
    have hsz : own.length ≤ 2000000 := by
      have h1 := spilled_len P g (by have := HS.out.most; omega)
      have h2 := HS.out.mid
      have h3 := HS.out.row g
      rw [hr] at h1
      simp only at h1
      omega
    have hgv : P.give g x = { P.rows g mid (own ++ [x]) with out := P.out.set x.toNat false, count := P.count - 1 } := by unfold PoolM.give; rw [hr]
    have HGV := Aside0.mk hgv
    have hh0 := HH.out
    rw [hr] at hh0
    simp only at hh0
    clear HH hr hgv
    have HSZ := Aside0.mk hsz
    have HL := Aside0.mk hl
    have hoe : (P.rows g mid own).caches.getD g [] = own := by simp [PoolM.rows, List.getD_eq_getElem?_getD, HG.out]
    obtain ⟨A2, capo, hvo, hcapo, hcr, hcrf, hlast⟩ := hh0.row_at (by rw [HL.out]; have := hgl; omega) hoe
    have hrw := hh0.row g (by rw [HL.out]; have := hgl; omega)
    rw [hvo, hoe] at hrw
    have HRW := Aside0.mk hrw
    have hcb1 : -1000000 ≤ P.count := HS.out.count.1
    have hcb2 : P.count ≤ 1000000 := HS.out.count.2
    have hpc : ¬ (p = c) := hh0.pc
    have hpc' : ¬ (c = p) := fun e => hh0.pc e.symm
    have hcl : c < wc.heap.size := blk_lt hh0.hdr
    have hcn : ¬ (c = wc.heap.size) := by omega
    have HOE := Aside0.mk hoe
    have HVO := Aside0.mk hvo
    have HH := Aside0.mk hh0
    have HNE := Aside0.mk (show ∀ k, (Value.slice A2 own.length capo).ownBlock = some k → k ≠ c from fun k hk e => by
      have h1 := (HRW.out.1 k hk).2
      rw [e, HH.out.oc] at h1; omega)
    clear hl hsz hoe hh0 hlast hvo hrw
    go_upto_region 8 with ((with_reducible refine gate_builtin (b := .append) (xs := #[.tmp 57, .tmp 59]) rfl ?_); at_builtin; refine Kd.R_append (Kd.int .i64) (w0 := w0) w0.heap.size rfl (.tmp 57) (.tmp 59) 28 3 (.int .i64 0) 8 rfl Try.underlying28 infoI rfl (by decide) (by omega) (.slice A2 own.length capo) own x [.int .i64 x] (fun b => (S b ∨ w''.heap.size ≤ b) ∧ (ow' b = 4 + g ∨ wc.heap.size ≤ b)) (fun _ => False) rfl rfl rfl (fun _ h => h.elim) ?aF ?aO ?aB ?aS ?aL ?_; (case aF => exact fun k hk => ⟨.inr (Nat.le_trans HK.out.1 hk), .inr hk⟩); (case aO => exact Kd.R_mono HRW.out (fun k hk => ⟨hk.1, .inl hk.2⟩)); (case aB => exact HB.out); (case aS => exact HB.out.size); (case aL => have := HSZ.out; omega); intro v1 w1 hr hb hg hat; obtain ⟨A1, k1, hv1⟩ := Kd.R_slice hr; subst hv1; have hc1 : w1.heap[c]? = some (.cells hh'.toArray 28 (0, 0)) := blk_grown HH.out.hdr hg (fun e => HNE.out c e.symm rfl); have hc1c : w1.cell? ⟨c, g, none⟩ = some (.slice A2 own.length capo) := (blk_cell hc1 g).trans ((blk_cell HH.out.hdr g).symm.trans hcr); have hc1f : w1.frozen? ⟨c, g, none⟩ = false := blk_frozen hc1 g; have HR1 := Aside0.mk hr; have HB1 := Aside0.mk hb; have HG1 := Aside0.mk hg; have HAT := Aside0.mk hat; clear hr hb hg hat)
    obtain ⟨ow5, h5⟩ := PoolIn.push_row (v' := Value.slice A1 (own ++ [x]).length k1) (own' := own ++ [x]) HH.out (by rw [HL.out]; have := hgl; omega) (fun k hk => by rw [HVO.out] at hk; exact (HRW.out.1 k hk).2) (by rw [HVO.out]; exact HG1.out) HR1.out
    have H5 : Aside0 (PoolIn (w1.setCell ⟨c, g, none⟩ (Value.slice A1 (own.length + 1) k1)) w0.heap.size (fun b => S b ∨ w''.heap.size ≤ b) ow5 p c vo vm' (hh'.set g (Value.slice A1 (own.length + 1) k1)) (P.rows g mid (own ++ [x]))) := ⟨by
      have e : ({ P.rows g mid own with caches := (P.rows g mid own).caches.set g (own ++ [x]) } : PoolM) = P.rows g mid (own ++ [x]) := by simp [PoolM.rows]
      rw [← e]
      simpa using h5⟩
    have HB5 : Aside0 (Below w0.heap.size w0 (w1.setCell ⟨c, g, none⟩ (Value.slice A1 (own.length + 1) k1))) := ⟨below_set HB1.out HH.out.bc⟩
    have HK5 : Aside0 (Kept w'' (w1.setCell ⟨c, g, none⟩ (Value.slice A1 (own.length + 1) k1)) S) := ⟨Kept.setCell (kept_grown HK.out HG1.out (fun k hk => (HRW.out.1 k hk).1)) HH.out.sc _⟩
    clear h5 HR1 HB1 HG1 HAT hc1 hc1c hc1f HH HB HK HRW hcr hcrf
    generalize w1.setCell ⟨c, g, none⟩ (Value.slice A1 (own.length + 1) k1) = w5 at *
    obtain ⟨go2, cap2, hvo2, hs2, hw2, hb2, hd1, hd2, hd3⟩ := PoolIn.out_at H5.out x HX.out.1 HX.out.2
    replace hd1 : w5.cell? ⟨p, 0, none⟩ = some (.slice (some ⟨go2, 0, none⟩) P.out.length cap2) := hd1
    have hx1 : x < (P.out.length : Int) := HX.out.2
    have hne2 : ¬ (p = go2) := (fun e => by have h1 := H5.out.op; rw [e, hw2] at h1; omega)
    have hne3 : ¬ (go2 = p) := (fun e => hne2 e.symm)
    have hcc : w5.cell? ⟨p, 5, none⟩ = some (.int .i64 P.count) := (blk_cell H5.out.blk 5).trans rfl
    have hcf : w5.frozen? ⟨p, 5, none⟩ = false := blk_frozen H5.out.blk 5
    have HVO2 := Aside0.mk hvo2
    have HS2 := Aside0.mk hs2
    have HBB := Aside0.mk hb2
    clear hvo2 hs2 hb2 hw2
    go_wp2_with fail
    go_ret
    refine ⟨rfl, ⟨ow5, c, vo, vm', (hh'.set g (Value.slice A1 (own.length + 1) k1)), ?_⟩, below_set (below_set HB5.out HBB.out) H5.out.bp, Kept.setCell (Kept.setCell HK5.out HS2.out _) H5.out.sp _⟩
    have h6 := (H5.out.set_out HVO2.out x false).set_count (P.count - 1)
    rw [HGV.out]
    exact h6

/-- Give: there is no such one, or it isn't out. -/
theorem give_no (p : Nat) (P : PoolM) (g x : Int) (w : World) (base : Nat) (S : Nat → Prop) (h : PoolAt w base S p P) (hn : ¬ (0 ≤ g ∧ g < (P.caches.length : Int) ∧ P.live x = true)) :
    Calls Try.prog 10 #[.pointer (some ⟨p, 0, none⟩), .int .i64 g, .int .i64 x] w fun e w' => e = .returned (.bool false) ∧ w' = w := by
  have HT := Aside0.mk (fun w => taker_calls w base S p P g)
  have HV := Aside0.mk (fun w => live_calls w base S p P x)
  have HIN := Aside0.mk h
  clear h
  by_cases c0 : 0 ≤ g ∧ g < (P.caches.length : Int)
  · have hd : decide (0 ≤ g ∧ g < (P.caches.length : Int)) = true := decide_eq_true c0
    have hl : P.live x = false := by
      cases e : P.live x
      · rfl
      · exact absurd ⟨c0.1, c0.2, e⟩ hn
    clear c0 hn
    go_enter Try.func10, Try.ntmps10
    go_wp2_with (first | (go_at_call 23; refine (HT.out _ HIN.out).mono ?_; rintro e w' ⟨rfl, rfl⟩; rw [hd]) | (go_at_call 12; refine (HV.out _ HIN.out).mono ?_; rintro e w'' ⟨rfl, rfl⟩; rw [hl]))
    go_ret
    exact ⟨rfl, rfl⟩
  · have hd : decide (0 ≤ g ∧ g < (P.caches.length : Int)) = false := decide_eq_false c0
    clear c0 hn
    go_enter Try.func10, Try.ntmps10
    go_wp2_with (go_at_call 23; refine (HT.out _ HIN.out).mono ?_; rintro e w' ⟨rfl, rfl⟩; rw [hd])
    go_ret
    exact ⟨rfl, rfl⟩

/-- Take: there is no such one. -/
theorem take_no (p : Nat) (P : PoolM) (g : Int) (w : World) (base : Nat) (S : Nat → Prop) (h : PoolAt w base S p P) (hn : ¬ (0 ≤ g ∧ g < (P.caches.length : Int))) :
    Calls Try.prog 8 #[.pointer (some ⟨p, 0, none⟩), .int .i64 g] w fun e w' => e = .returned (.tuple #[.int .i64 0, .bool false]) ∧ w' = w := by
  have HT := Aside0.mk (fun w => taker_calls w base S p P g)
  have HIN := Aside0.mk h
  have hd : decide (0 ≤ g ∧ g < (P.caches.length : Int)) = false := decide_eq_false hn
  clear hn h
  go_enter Try.func8, Try.ntmps8
  go_wp2_with (go_at_call 23; refine (HT.out _ HIN.out).mono ?_; rintro e w' ⟨rfl, rfl⟩; rw [hd])
  go_ret2
  exact ⟨rfl, rfl⟩
end Go.Proofs.Ytfajhdcambkbpaa.Pool
