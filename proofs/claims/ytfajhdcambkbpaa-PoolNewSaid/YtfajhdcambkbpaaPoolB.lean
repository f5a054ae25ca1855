/- Package pool: a thing is taken. -/
import Derived.Test.YtfajhdcambkbpaaPoolL
import Derived.Deep.RegionWith
import Derived.Deep.RegionLaw
import Derived.Deep.RegionLawGrows
import Derived.Deep.DeepCutAuto
import Derived.Deep.CutBlock
import Derived.OwnWalk
namespace Go.Proofs.Ytfajhdcambkbpaa.Pool
open Go.RowKit Go.Proofs.YtfajhdcambkbpaaW.PrintWords Go.Proofs.YtfajhdcambkbpaaW.PrintMore
attribute [local go_sem] max2_int max_two

theorem infoI : (Try.prog.info? 3).map (fun i => (i.zero, i.size, i.bytes)) = some (some (.int .i64 0), 1, 8) := by kernel_rfl

/-- All numbers are small. -/
structure PoolM.Small (P : PoolM) : Prop where
  most : 1 ≤ P.most ∧ P.most ≤ 1000
  fresh : 0 ≤ P.fresh ∧ P.fresh ≤ 1000000
  count : -1000000 ≤ P.count ∧ P.count ≤ 1000000
  out : P.out.length ≤ 1000000
  mid : P.middle.length ≤ 1000000
  row : ∀ g, (P.caches.getD g []).length ≤ 1000000

def PoolM.lim (P : PoolM) : Int := if P.most / 2 < 1 then 1 else P.most / 2

/-- The last one. -/
def lastI (l : List Int) : Int := rd l ((l.length : Int) - 1)

def refill (lim : Int) : Nat → List Int → List Int → List Int × List Int
  | 0, mid, own => (mid, own)
  | k + 1, mid, own => if 0 < mid.length ∧ (own.length : Int) < lim then refill lim k (mid.take (mid.length - 1)) (own ++ [lastI mid]) else (mid, own)

def PoolM.refilled (P : PoolM) (g : Nat) : List Int × List Int :=
  if (P.caches.getD g []).length = 0 then refill P.lim P.middle.length P.middle (P.caches.getD g []) else (P.middle, P.caches.getD g [])

theorem refill_step {lim : Int} {mid own : List Int} (h1 : 0 < mid.length) (h2 : (own.length : Int) < lim) : refill lim mid.length mid own = refill lim (mid.length - 1) (mid.take (mid.length - 1)) (own ++ [lastI mid]) := by
  obtain ⟨m, hm⟩ : ∃ m, mid.length = m + 1 := ⟨mid.length - 1, by omega⟩
  rw [hm]
  simp only [refill, Nat.add_sub_cancel]
  rw [if_pos ⟨by omega, h2⟩, hm, Nat.add_sub_cancel]

theorem refill_stop {lim : Int} {mid own : List Int} (h : ¬ (0 < mid.length ∧ (own.length : Int) < lim)) : refill lim mid.length mid own = (mid, own) := by
  cases hm : mid.length with
  | zero => rfl
  | succ m =>
    simp only [refill]
    rw [if_neg h]

theorem refill_len (lim : Int) : ∀ (k : Nat) (mid own : List Int), (refill lim k mid own).1.length + (refill lim k mid own).2.length = mid.length + own.length
  | 0, _, _ => rfl
  | k + 1, mid, own => by
    simp only [refill]
    split
    · rename_i h
      rw [refill_len lim k, List.length_take, List.length_append, List.length_singleton]
      omega
    · rfl

theorem refilled_len (P : PoolM) (g : Nat) : (P.refilled g).1.length + (P.refilled g).2.length = P.middle.length + (P.caches.getD g []).length := by
  unfold PoolM.refilled
  split
  · rw [refill_len]
  · rfl

theorem kept_grown {w W W2 : World} {S : Nat → Prop} {row : Option Nat} (h : Kept w W S) (hg : W.grownBy W2 row) (hr : ∀ k, row = some k → S k ∨ w.heap.size ≤ k) : Kept w W2 S :=
  ⟨Nat.le_trans h.1 hg.size, fun i hi hn => (hg.block i (Nat.lt_of_lt_of_le hi h.1) (fun e => by
    rcases hr i e.symm with h1 | h1
    · exact hn h1
    · omega)).trans (h.2 i hi hn)⟩

/-- A cell of a block that is known whole. -/
theorem three {W : World} {c g : Nat} {cs : Array Value} {t : TypeId} {v : Value} (h : W.heap[c]? = some (.cells cs t (0, 0))) (hv : cs[g]? = some v) : W.heap[c]? = some (.cells cs t (0, 0)) ∧ W.cell? ⟨c, g, none⟩ = some v ∧ W.frozen? ⟨c, g, none⟩ = false :=
  ⟨h, (blk_cell h g).trans hv, blk_frozen h g⟩

/-- A round of the refilling: the middle's last one comes out, and behind all of the cache. -/
theorem round_done {w4 w1 : World} {base : Nat} {S' : Nat → Prop} {ow' : Nat → Nat} {p c gm cm4 g m : Nat} {vo vm' vh v1 : Value} {hh' : List Value} {P : PoolM} {mid own : List Int} {x : Int} (h : PoolIn w4 base S' ow' p c vo vm' hh' (P.rows g mid own)) (hg : g < hh'.length) (_ : g < P.caches.length)
    (hv : vm' = .slice (some ⟨gm, 0, none⟩) mid.length cm4) (hh : hh'.getD g undef = vh) (hr : Kd.R (Kd.int .i64) 3 w1 base (fun b => S' b ∧ (ow' b = 4 + g ∨ w4.heap.size ≤ b)) v1 (own ++ [x]))
    (hgr : ((w4.drewN m).setCell ⟨p, 2, none⟩ (.slice (some ⟨gm, 0, none⟩) (mid.length - 1) cm4)).grownBy w1 vh.ownBlock) :
    ∃ ow'' vm'', PoolIn (w1.setCell ⟨c, g, none⟩ v1) base S' ow'' p c vo vm'' (hh'.set g v1) (P.rows g (mid.take (mid.length - 1)) (own ++ [x])) := by
  have h1 := h.step (w1 := w4.drewN m) (fun _ _ _ => rfl)
  have hm : Kd.R (Kd.int .i64) 3 (w4.drewN m) base (fun b => S' b ∧ ow' b = 3) (.slice (some ⟨gm, 0, none⟩) (mid.length - 1) cm4) (mid.take (mid.length - 1)) := by
    have h2 := h1.mid
    rw [hv] at h2
    exact Kd.R_take h2 (show mid.length - 1 ≤ mid.length by omega)
  have h3 := h1.set_mid hm
  have hrw := h3.row g hg
  have hsz : ((w4.drewN m).setCell ⟨p, 2, none⟩ (.slice (some ⟨gm, 0, none⟩) (mid.length - 1) cm4)).heap.size = w4.heap.size := by simp [World.setCell]
  obtain ⟨ow'', h4⟩ := PoolIn.push_row (v' := v1) (own' := own ++ [x]) h3 hg (fun k hk => (hrw.1 k hk).2) (by rw [hh]; exact hgr) (by rw [hsz]; exact hr)
  refine ⟨ow'', .slice (some ⟨gm, 0, none⟩) (mid.length - 1) cm4, ?_⟩
  have e : ({ ({ (P.rows g mid own) with middle := mid.take (mid.length - 1) } : PoolM) with caches := ((P.rows g mid own).caches).set g (own ++ [x]) } : PoolM) = P.rows g (mid.take (mid.length - 1)) (own ++ [x]) := by
    simp [PoolM.rows]
  rw [← e]
  exact h4

/-- Take: a thing. None: there would be a panic. -/
def PoolM.take (P : PoolM) (g : Nat) : Option (PoolM × Int × Bool) :=
  if 0 < (P.refilled g).2.length then
    (if 0 ≤ lastI (P.refilled g).2 ∧ lastI (P.refilled g).2 < P.out.length then some ({ P.rows g (P.refilled g).1 ((P.refilled g).2.take ((P.refilled g).2.length - 1)) with out := P.out.set (lastI (P.refilled g).2).toNat true, count := P.count + 1 }, lastI (P.refilled g).2, true) else none)
  else if P.fresh < P.out.length then some ({ P.rows g (P.refilled g).1 (P.refilled g).2 with out := P.out.set P.fresh.toNat true, fresh := P.fresh + 1, count := P.count + 1 }, P.fresh, true)
  else some (P.rows g (P.refilled g).1 (P.refilled g).2, 0, false)

set_option maxHeartbeats 4000000 in
theorem take_calls (p : Nat) (P : PoolM) (g : Nat) (w0 w : World) (S : Nat → Prop) (hB : Below w0.heap.size w0 w) (h : PoolAt w w0.heap.size S p P) (hs : P.Small) (hg : g < P.caches.length) (P' : PoolM) (x : Int) (b : Bool) (ht : P.take g = some (P', x, b)) :
    Calls Try.prog 8 #[.pointer (some ⟨p, 0, none⟩), .int .i64 g] w fun e w' => e = .returned (.tuple #[.int .i64 x, .bool b]) ∧ PoolAt w' w0.heap.size (fun b => S b ∨ w.heap.size ≤ b) p P' ∧ Below w0.heap.size w0 w' ∧ Kept w w' S := by
  obtain ⟨ow, c, vo, vm, hh, h⟩ := h
  have hT := fun w => taker_calls w w0.heap.size S p P g
  have hc1 : w.cell? ⟨p, 1, none⟩ = some (.slice (some ⟨c, 0, none⟩) hh.length hh.length) := (blk_cell h.blk 1).trans rfl
  have hgl : (g : Int) < (hh.length : Int) := by rw [h.len]; omega
  obtain ⟨own0, hown0⟩ : ∃ o, P.caches.getD g [] = o := ⟨_, rfl⟩
  have hrw := h.row g (by omega)
  rw [hown0] at hrw
  obtain ⟨A, cap, hrow⟩ := Kd.R_slice hrw
  have hc2 : w.cell? ⟨c, g, none⟩ = some (.slice A own0.length cap) := by
    rw [← hrow, blk_cell h.hdr g]
    simp [List.getD_eq_getElem?_getD, show g < hh.length by omega]
  have hP0 : P.rows g P.middle own0 = P := by
    unfold PoolM.rows
    have : P.caches.set g own0 = P.caches := by
      rw [← hown0]
      apply List.ext_getElem?
      intro i
      rw [List.getElem?_set]
      by_cases e : g = i
      · subst e; rw [if_pos rfl, if_pos hg]; simp [List.getD_eq_getElem?_getD, hg]
      · rw [if_neg e]
    rw [this]
  have hrf : P.refilled g = if own0.length = 0 then refill P.lim P.middle.length P.middle own0 else (P.middle, own0) := by unfold PoolM.refilled; rw [hown0]
  have HH : Aside0 (PoolIn w w0.heap.size S ow p c vo vm hh (P.rows g P.middle own0)) := ⟨by rw [hP0]; exact h⟩
  have HS := Aside0.mk hs
  have HB := Aside0.mk hB
  have HT := Aside0.mk hT
  have HRF := Aside0.mk hrf
  have HIN := Aside0.mk (show PoolAt w w0.heap.size S p P from ⟨_, _, _, _, _, h⟩)
  have hd : decide (0 ≤ (g : Int) ∧ (g : Int) < P.caches.length) = true := by simp [hg]
  have HG := Aside0.mk hg
  have HTK := Aside0.mk ht
  clear ht
  clear h hs hB hT hrow hP0 hrf hown0 hrw hg
  go_enter Try.func8, Try.ntmps8
  go_upto_if 22 with (go_at_call 23; refine (HT.out _ HIN.out).mono ?_; rintro e w' ⟨rfl, rfl⟩; rw [hd])
  go_cut [6] (fun v6 wc => v6 = .pointer (some ⟨c, g, none⟩) ∧ ∃ (ow' : Nat → Nat) (vm' : Value) (hh' : List Value), hh'.length = hh.length ∧ Aside0 (PoolIn wc w0.heap.size (fun b => S b ∨ w'.heap.size ≤ b) ow' p c vo vm' hh' (P.rows g (P.refilled g).1 (P.refilled g).2)) ∧ Aside0 (Below w0.heap.size w0 wc) ∧ Aside0 (Kept w' wc S))
  case first =>
    by_cases c0 : own0.length = 0
    · have hown0 : own0 = [] := List.length_eq_zero_iff.1 c0
      subst hown0
      have b0 : (((([] : List Int).length : Nat) : Int) == 0) = true := by simp
      have RF : Aside0 (P.refilled g = refill P.lim P.middle.length P.middle []) := ⟨by rw [HRF.out]; rfl⟩
      clear HRF c0
      go_wp2
      go_loopg [] P.middle.length (fun kq wr => ∃ (ow' : Nat → Nat) (vm' : Value) (hh' : List Value) (mid own : List Int), Aside0 (hh'.length = hh.length) ∧ Aside0 (kq = mid.length) ∧ Aside0 (mid.length + own.length ≤ 1000000) ∧ Aside0 (P.refilled g = refill P.lim kq mid own) ∧ Aside0 (PoolIn wr w0.heap.size (fun b => S b ∨ w'.heap.size ≤ b) ow' p c vo vm' hh' (P.rows g mid own)) ∧ Aside0 (Below w0.heap.size w0 wr) ∧ Aside0 (Kept w' wr S))
      case atStart => exact ⟨ow, vm, hh, P.middle, [], ⟨rfl⟩, ⟨rfl⟩, ⟨by have := HS.out.mid; simp; omega⟩, RF, ⟨HH.out.mono (fun k hk => .inl hk)⟩, HB, ⟨Kept.refl _ _⟩⟩
      case round =>
        clear RF HH HB
        obtain ⟨ow', vm', hh', mid, own, HL, HK1, HSZ, RF, HH, HB, HK⟩ := hrel
        have h := HH.out
        obtain ⟨Am, cm, hvm⟩ := Kd.R_slice h.mid
        have hrw := h.row g (by rw [HL.out]; have := hgl; omega)
        obtain ⟨Ao, co, hvo⟩ := Kd.R_slice hrw
        have e1 : (P.rows g mid own).middle = mid := rfl
        have e2 : (P.rows g mid own).caches.getD g [] = own := by simp [PoolM.rows, List.getD_eq_getElem?_getD, HG.out]
        rw [e1] at hvm
        rw [e2] at hvo hrw
        have hcm : wr.cell? ⟨p, 2, none⟩ = some (.slice Am mid.length cm) := by rw [← hvm]; exact (blk_cell h.blk 2).trans rfl
        have hco : wr.cell? ⟨c, g, none⟩ = some (.slice Ao own.length co) := by
          rw [← hvo, blk_cell h.hdr g]
          simp [List.getD_eq_getElem?_getD, show g < hh'.length by rw [HL.out]; have := hgl; omega]
        have hcq : wr.cell? ⟨p, 4, none⟩ = some (.int .i64 P.most) := (blk_cell h.blk 4).trans rfl
        have q0 : 0 ≤ P.most := by have := HS.out.most; omega
        have HM := Aside0.mk hvm
        have HO := Aside0.mk hvo
        have HRW := Aside0.mk hrw
        clear h hvm hvo hrw e1 e2
        obtain ⟨q, hq⟩ : ∃ q, wrap64 (P.most.tdiv 2) = q := ⟨_, rfl⟩
        have hq2 : q = P.most / 2 := by rw [← hq, Int.tdiv_eq_ediv_of_nonneg q0]; have := HS.out.most; unfold wrap64; omega
        have hlim : P.lim = if q < 1 then 1 else q := by unfold PoolM.lim; rw [hq2]
        have HQ := Aside0.mk hlim
        clear hq2 hlim
        by_cases c1 : 0 < mid.length
        · have b1 : decide ((0 : Int) < (mid.length : Int)) = true := decide_eq_true (by omega)
          have b1' : decide (0 < mid.length) = true := decide_eq_true c1
          by_cases c3 : q < 1
          · have hl1 : P.lim = 1 := by rw [HQ.out, if_pos c3]
            have HL1 := Aside0.mk hl1
            clear hl1
            by_cases c2 : (own.length : Int) < 1
            · have b2 : decide ((own.length : Int) < 1) = true := decide_eq_true c2
              have hm4 : ∀ (W : World), PoolIn W w0.heap.size (fun b => S b ∨ w'.heap.size ≤ b) ow' p c vo vm' hh' (P.rows g mid own) → ∃ gm cm, vm' = .slice (some ⟨gm, 0, none⟩) mid.length cm ∧ mid.length ≤ cm ∧ W.cell? ⟨gm, mid.length - 1, none⟩ = some (.int .i64 (lastI mid)) := by
                intro W h
                obtain ⟨gm, cm, hv, _⟩ := Kd.R_form h.mid c1
                have hR := h.mid
                rw [hv] at hR
                have h2 := (Kd.R_celln 0 hR ((mid.length : Int) - 1) (by omega) (by show (mid.length : Int) - 1 < (mid.length : Int); omega)).1
                rw [show ((mid.length : Int) - 1).toNat = mid.length - 1 by omega] at h2
                exact ⟨gm, cm, hv, (Kd.R_reads' hR).2.1, h2⟩
              have HM4 := Aside0.mk hm4
              clear hm4
              go_wp2
              go_quiet (fail)
              have HH4 := Aside0.mk (HH.out.step (w1 := wr.drewN nq) (fun _ _ _ => rfl))
              have HB4 := Aside0.mk (pw_below_drewN HB.out nq)
              have HK4 := Aside0.mk (Kept.drewN HK.out nq)
              clear HH HB HK HRW hcm hco hcq
              generalize wr.drewN nq = w4 at *
              clear nq
              obtain ⟨gm, cm4, hv4, hml, hlast⟩ := HM4.out w4 HH4.out
              have hcm : w4.cell? ⟨p, 2, none⟩ = some (.slice (some ⟨gm, 0, none⟩) mid.length cm4) := by rw [← hv4]; exact (blk_cell HH4.out.blk 2).trans rfl
              have hfm : w4.frozen? ⟨p, 2, none⟩ = false := blk_frozen HH4.out.blk 2
              have hco : w4.cell? ⟨c, g, none⟩ = some (.slice Ao own.length co) := by
                rw [← HO.out, blk_cell HH4.out.hdr g]
                simp [List.getD_eq_getElem?_getD, show g < hh'.length by rw [HL.out]; have := hgl; omega]
              have hfo : w4.frozen? ⟨c, g, none⟩ = false := blk_frozen HH4.out.hdr g
              have hpc : ¬ (c = p) := fun e => HH4.out.pc e.symm
              have hpc' : ¬ (p = c) := HH4.out.pc
              have hcl : c < w4.heap.size := blk_lt HH4.out.hdr
              have hpl : p < w4.heap.size := blk_lt HH4.out.blk
              have hcn : ¬ (c = w4.heap.size) := by omega
              have hpn : ¬ (p = w4.heap.size) := by omega
              have HV4 := Aside0.mk hv4
              have HGV := Aside0.mk (show hh'.toArray[g]? = some (.slice Ao own.length co) from (blk_cell HH4.out.hdr g).symm.trans hco)
              clear hv4 HM4
              have hrow4 := HH4.out.row g (by rw [HL.out]; have := hgl; omega)
              rw [HO.out, show (P.rows g mid own).caches.getD g [] = own by simp [PoolM.rows, List.getD_eq_getElem?_getD, HG.out]] at hrow4
              have HROW4 := Aside0.mk hrow4
              clear hrow4
              have HNE := Aside0.mk (show ∀ k, (Value.slice Ao own.length co).ownBlock = some k → k ≠ c ∧ k ≠ p ∧ ow' k = 4 + g from fun k hk => by
                have h1 := (HROW4.out.1 k hk).2
                refine ⟨fun e => ?_, fun e => ?_, h1⟩
                · rw [e, HH4.out.oc] at h1; omega
                · rw [e, HH4.out.op] at h1; omega)
              go_wp2
              go_region_law
                (first | (go_simp; go_at_call 24; refine (pop_calls _ p 2 gm mid.length cm4 (lastI mid) c1 (by have := HSZ.out; omega) hml ?p1 ?p2 ?p3).mono ?_; (case p1 => go_simp); (case p2 => go_simp); (case p3 => go_simp); rintro e w5 ⟨rfl, m5, rfl⟩) | (refine Kd.R_append_step (Kd.int .i64) (w0 := w0) w0.heap.size (by rfl) (.tmp 45) (.tmp 50) 28 3 (.int .i64 0) 8 (by rfl) Try.underlying28 infoI rfl (by decide) (by omega) (.slice Ao own.length co) own (lastI mid) [.int .i64 (lastI mid)] (fun b => (S b ∨ w'.heap.size ≤ b) ∧ (ow' b = 4 + g ∨ w4.heap.size ≤ b)) (fun _ => False) (by rfl) (by first | rfl | (go_simp; done) | (simp [Act.eval]; done)) rfl (fun _ h => h.elim) ?aF ?aO ?aB ?aS ?aL ?_; (case aF => exact fun k hk => ⟨.inr (Nat.le_trans HK4.out.1 (by simpa using hk)), .inr (by simpa using hk)⟩); (case aO => exact Kd.R_mono (ok := fun b => (S b ∨ w'.heap.size ≤ b) ∧ ow' b = 4 + g) (by repeat (first | exact HROW4.out | apply Kd.R_drewN | apply Kd.R_drew | refine Kd.R_far ?_ (fun k hk e => by have h1 := hk.2; rw [show k = p from e, HH4.out.op] at h1; omega) _)) (fun k hk => ⟨hk.1, .inl hk.2⟩)); (case aB => exact (by repeat (first | exact HB4.out | apply pw_below_drewN | apply below_drew1 | refine below_set ?_ HH4.out.bp))); (case aS => simpa using HB4.out.size); (case aL => have := HSZ.out; omega); intro v1 w1 hr hb hg hat; obtain ⟨A1, k1, hv1⟩ := Kd.R_slice hr; subst hv1; have hc1 : w1.heap[c]? = some (.cells hh'.toArray 28 (0, 0)) := blk_grown (by repeat (first | exact HH4.out.hdr | refine blk_drewN ?_ _ | refine blk_drew ?_ | refine blk_far ?_ hpc _)) hg (fun e => (HNE.out c e.symm).1 rfl); have hc1c : w1.cell? ⟨c, g, none⟩ = some (.slice Ao own.length co) := (blk_cell hc1 g).trans ((blk_cell HH4.out.hdr g).symm.trans hco); have hc1f : w1.frozen? ⟨c, g, none⟩ = false := blk_frozen hc1 g; have HR1 := Aside0.mk hr; have HB1 := Aside0.mk hb; have HG1 := Aside0.mk hg; clear hr hb hg hat))
              all_goals
                go_wp2
                obtain ⟨ow'', vm'', h6⟩ := round_done HH4.out (by rw [HL.out]; have := hgl; omega) HG.out HV4.out HO.out HR1.out HG1.out
                simp only [List.length_append, List.length_singleton] at h6
                obtain ⟨hh6, hl6, h6⟩ : ∃ hh6 : List Value, hh6.length = hh'.length ∧ PoolIn _ w0.heap.size (fun b => S b ∨ w'.heap.size ≤ b) ow'' p c vo vm'' hh6 (P.rows g (mid.take (mid.length - 1)) (own ++ [lastI mid])) := ⟨_, List.length_set, h6⟩
                have H6 := Aside0.mk h6
                have HL6 := Aside0.mk (hl6.trans HL.out)
                clear h6 hl6
                go_roundg (mid.length - 1)
                case measure => have := HK1.out; omega
                case rel => exact ⟨ow'', vm'', hh6, mid.take (mid.length - 1), own ++ [lastI mid], HL6, ⟨by rw [List.length_take]; omega⟩, ⟨by have := HSZ.out; rw [List.length_take, List.length_append, List.length_singleton]; omega⟩, ⟨by rw [RF.out, HK1.out]; exact refill_step c1 (by rw [HL1.out]; exact c2)⟩, H6, ⟨below_set HB1.out HH4.out.bc⟩, ⟨Kept.setCell (kept_grown (Kept.setCell (Kept.drewN HK4.out _) HH4.out.sp _) HG1.out (fun k hk => (HROW4.out.1 k hk).1)) HH4.out.sc _⟩⟩
            · have b2 : decide ((own.length : Int) < 1) = false := decide_eq_false c2
              go_wp2
              go_quiet (fail)
              go_wp2
              go_meet
              case rel => exact ⟨rfl, ow', vm', hh', HL.out, ⟨by rw [RF.out, HK1.out, refill_stop (by rw [HL1.out]; omega)]; exact HH.out.step (fun _ _ _ => rfl)⟩, ⟨pw_below_drewN HB.out _⟩, ⟨Kept.drewN HK.out _⟩⟩
          · have hl1 : P.lim = q := by rw [HQ.out, if_neg c3]
            have HL1 := Aside0.mk hl1
            clear hl1
            by_cases c2 : (own.length : Int) < q
            · have b2 : decide ((own.length : Int) < q) = true := decide_eq_true c2
              have hm4 : ∀ (W : World), PoolIn W w0.heap.size (fun b => S b ∨ w'.heap.size ≤ b) ow' p c vo vm' hh' (P.rows g mid own) → ∃ gm cm, vm' = .slice (some ⟨gm, 0, none⟩) mid.length cm ∧ mid.length ≤ cm ∧ W.cell? ⟨gm, mid.length - 1, none⟩ = some (.int .i64 (lastI mid)) := by
                intro W h
                obtain ⟨gm, cm, hv, _⟩ := Kd.R_form h.mid c1
                have hR := h.mid
                rw [hv] at hR
                have h2 := (Kd.R_celln 0 hR ((mid.length : Int) - 1) (by omega) (by show (mid.length : Int) - 1 < (mid.length : Int); omega)).1
                rw [show ((mid.length : Int) - 1).toNat = mid.length - 1 by omega] at h2
                exact ⟨gm, cm, hv, (Kd.R_reads' hR).2.1, h2⟩
              have HM4 := Aside0.mk hm4
              clear hm4
              go_wp2
              go_quiet (fail)
              have HH4 := Aside0.mk (HH.out.step (w1 := wr.drewN nq) (fun _ _ _ => rfl))
              have HB4 := Aside0.mk (pw_below_drewN HB.out nq)
              have HK4 := Aside0.mk (Kept.drewN HK.out nq)
              clear HH HB HK HRW hcm hco hcq
              generalize wr.drewN nq = w4 at *
              clear nq
              obtain ⟨gm, cm4, hv4, hml, hlast⟩ := HM4.out w4 HH4.out
              have hcm : w4.cell? ⟨p, 2, none⟩ = some (.slice (some ⟨gm, 0, none⟩) mid.length cm4) := by rw [← hv4]; exact (blk_cell HH4.out.blk 2).trans rfl
              have hfm : w4.frozen? ⟨p, 2, none⟩ = false := blk_frozen HH4.out.blk 2
              have hco : w4.cell? ⟨c, g, none⟩ = some (.slice Ao own.length co) := by
                rw [← HO.out, blk_cell HH4.out.hdr g]
                simp [List.getD_eq_getElem?_getD, show g < hh'.length by rw [HL.out]; have := hgl; omega]
              have hfo : w4.frozen? ⟨c, g, none⟩ = false := blk_frozen HH4.out.hdr g
              have hpc : ¬ (c = p) := fun e => HH4.out.pc e.symm
              have hpc' : ¬ (p = c) := HH4.out.pc
              have hcl : c < w4.heap.size := blk_lt HH4.out.hdr
              have hpl : p < w4.heap.size := blk_lt HH4.out.blk
              have hcn : ¬ (c = w4.heap.size) := by omega
              have hpn : ¬ (p = w4.heap.size) := by omega
              have HV4 := Aside0.mk hv4
              have HGV := Aside0.mk (show hh'.toArray[g]? = some (.slice Ao own.length co) from (blk_cell HH4.out.hdr g).symm.trans hco)
              clear hv4 HM4
              have hrow4 := HH4.out.row g (by rw [HL.out]; have := hgl; omega)
              rw [HO.out, show (P.rows g mid own).caches.getD g [] = own by simp [PoolM.rows, List.getD_eq_getElem?_getD, HG.out]] at hrow4
              have HROW4 := Aside0.mk hrow4
              clear hrow4
              have HNE := Aside0.mk (show ∀ k, (Value.slice Ao own.length co).ownBlock = some k → k ≠ c ∧ k ≠ p ∧ ow' k = 4 + g from fun k hk => by
                have h1 := (HROW4.out.1 k hk).2
                refine ⟨fun e => ?_, fun e => ?_, h1⟩
                · rw [e, HH4.out.oc] at h1; omega
                · rw [e, HH4.out.op] at h1; omega)
              go_wp2
              go_region_law
                (first | (go_simp; go_at_call 24; refine (pop_calls _ p 2 gm mid.length cm4 (lastI mid) c1 (by have := HSZ.out; omega) hml ?p1 ?p2 ?p3).mono ?_; (case p1 => go_simp); (case p2 => go_simp); (case p3 => go_simp); rintro e w5 ⟨rfl, m5, rfl⟩) | (refine Kd.R_append_step (Kd.int .i64) (w0 := w0) w0.heap.size (by rfl) (.tmp 45) (.tmp 50) 28 3 (.int .i64 0) 8 (by rfl) Try.underlying28 infoI rfl (by decide) (by omega) (.slice Ao own.length co) own (lastI mid) [.int .i64 (lastI mid)] (fun b => (S b ∨ w'.heap.size ≤ b) ∧ (ow' b = 4 + g ∨ w4.heap.size ≤ b)) (fun _ => False) (by rfl) (by first | rfl | (go_simp; done) | (simp [Act.eval]; done)) rfl (fun _ h => h.elim) ?aF ?aO ?aB ?aS ?aL ?_; (case aF => exact fun k hk => ⟨.inr (Nat.le_trans HK4.out.1 (by simpa using hk)), .inr (by simpa using hk)⟩); (case aO => exact Kd.R_mono (ok := fun b => (S b ∨ w'.heap.size ≤ b) ∧ ow' b = 4 + g) (by repeat (first | exact HROW4.out | apply Kd.R_drewN | apply Kd.R_drew | refine Kd.R_far ?_ (fun k hk e => by have h1 := hk.2; rw [show k = p from e, HH4.out.op] at h1; omega) _)) (fun k hk => ⟨hk.1, .inl hk.2⟩)); (case aB => exact (by repeat (first | exact HB4.out | apply pw_below_drewN | apply below_drew1 | refine below_set ?_ HH4.out.bp))); (case aS => simpa using HB4.out.size); (case aL => have := HSZ.out; omega); intro v1 w1 hr hb hg hat; obtain ⟨A1, k1, hv1⟩ := Kd.R_slice hr; subst hv1; have hc1 : w1.heap[c]? = some (.cells hh'.toArray 28 (0, 0)) := blk_grown (by repeat (first | exact HH4.out.hdr | refine blk_drewN ?_ _ | refine blk_drew ?_ | refine blk_far ?_ hpc _)) hg (fun e => (HNE.out c e.symm).1 rfl); have hc1c : w1.cell? ⟨c, g, none⟩ = some (.slice Ao own.length co) := (blk_cell hc1 g).trans ((blk_cell HH4.out.hdr g).symm.trans hco); have hc1f : w1.frozen? ⟨c, g, none⟩ = false := blk_frozen hc1 g; have HR1 := Aside0.mk hr; have HB1 := Aside0.mk hb; have HG1 := Aside0.mk hg; clear hr hb hg hat))
              all_goals
                go_wp2
                obtain ⟨ow'', vm'', h6⟩ := round_done HH4.out (by rw [HL.out]; have := hgl; omega) HG.out HV4.out HO.out HR1.out HG1.out
                simp only [List.length_append, List.length_singleton] at h6
                obtain ⟨hh6, hl6, h6⟩ : ∃ hh6 : List Value, hh6.length = hh'.length ∧ PoolIn _ w0.heap.size (fun b => S b ∨ w'.heap.size ≤ b) ow'' p c vo vm'' hh6 (P.rows g (mid.take (mid.length - 1)) (own ++ [lastI mid])) := ⟨_, List.length_set, h6⟩
                have H6 := Aside0.mk h6
                have HL6 := Aside0.mk (hl6.trans HL.out)
                clear h6 hl6
                go_roundg (mid.length - 1)
                case measure => have := HK1.out; omega
                case rel => exact ⟨ow'', vm'', hh6, mid.take (mid.length - 1), own ++ [lastI mid], HL6, ⟨by rw [List.length_take]; omega⟩, ⟨by have := HSZ.out; rw [List.length_take, List.length_append, List.length_singleton]; omega⟩, ⟨by rw [RF.out, HK1.out]; exact refill_step c1 (by rw [HL1.out]; exact c2)⟩, H6, ⟨below_set HB1.out HH4.out.bc⟩, ⟨Kept.setCell (kept_grown (Kept.setCell (Kept.drewN HK4.out _) HH4.out.sp _) HG1.out (fun k hk => (HROW4.out.1 k hk).1)) HH4.out.sc _⟩⟩
            · have b2 : decide ((own.length : Int) < q) = false := decide_eq_false c2
              go_wp2
              go_quiet (fail)
              go_wp2
              go_meet
              case rel => exact ⟨rfl, ow', vm', hh', HL.out, ⟨by rw [RF.out, HK1.out, refill_stop (by rw [HL1.out]; omega)]; exact HH.out.step (fun _ _ _ => rfl)⟩, ⟨pw_below_drewN HB.out _⟩, ⟨Kept.drewN HK.out _⟩⟩
        · have b1 : decide ((0 : Int) < (mid.length : Int)) = false := decide_eq_false (by omega)
          have b1' : decide (0 < mid.length) = false := decide_eq_false c1
          go_wp2
          go_quiet (fail)
          go_wp2
          go_meet
          case rel => exact ⟨rfl, ow', vm', hh', HL.out, ⟨by rw [RF.out, HK1.out, refill_stop (by exact fun h => c1 h.1)]; exact HH.out.step (fun _ _ _ => rfl)⟩, ⟨pw_below_drewN HB.out _⟩, ⟨Kept.drewN HK.out _⟩⟩
    · have b0 : ((own0.length : Int) == 0) = false := by simp; intro h; subst h; exact c0 rfl
      have RF : Aside0 (P.refilled g = (P.middle, own0)) := ⟨by rw [HRF.out, if_neg c0]⟩
      clear HRF c0
      go_wp2
      go_meet
      case rel => exact ⟨rfl, ow, vm, hh, rfl, ⟨by rw [RF.out]; exact HH.out.mono (fun k hk => .inl hk)⟩, HB, ⟨Kept.refl _ _⟩⟩
  case rest =>
    clear HRF HH HB HT HIN hc1 hc2
    obtain ⟨rfl, ow', vm', hh', hl, HH, HB, HK⟩ := hcut
    obtain ⟨mid, own, hr⟩ : ∃ mid own, P.refilled g = (mid, own) := ⟨_, _, rfl⟩
    have ht := HTK.out
    have hsz : own.length ≤ 2000000 := by
      have h1 := refilled_len P g
      have h2 := HS.out.mid
      have h3 := HS.out.row g
      rw [hr] at h1
      simp only at h1
      omega
    unfold PoolM.take at ht
    have hh0 := HH.out
    rw [hr] at ht hh0
    simp only at ht hh0
    clear HH HTK hr
    have HSZ := Aside0.mk hsz
    have HL := Aside0.mk hl
    have hoe : (P.rows g mid own).caches.getD g [] = own := by simp [PoolM.rows, List.getD_eq_getElem?_getD, HG.out]
    obtain ⟨A2, capo, hvo, hcapo, hcr, hcrf, hlast⟩ := hh0.row_at (by rw [HL.out]; have := hgl; omega) hoe
    have hcfr : wc.cell? ⟨p, 3, none⟩ = some (.int .i64 P.fresh) := (blk_cell hh0.blk 3).trans rfl
    have hcfz : wc.frozen? ⟨p, 3, none⟩ = false := blk_frozen hh0.blk 3
    have hcb1 : -1000000 ≤ P.count := HS.out.count.1
    have hcb2 : P.count ≤ 1000000 := HS.out.count.2
    have hfb1 : 0 ≤ P.fresh := HS.out.fresh.1
    have hfb2 : P.fresh ≤ 1000000 := HS.out.fresh.2
    have hpc : ¬ (p = c) := hh0.pc
    have hpc' : ¬ (c = p) := fun e => hh0.pc e.symm
    have HOE := Aside0.mk hoe
    have HVO := Aside0.mk hvo
    have HH := Aside0.mk hh0
    clear hl hsz hoe hh0
    by_cases c1 : 0 < own.length
    · rw [if_pos c1] at ht
      split at ht
      case isFalse => cases ht
      rename_i hx
      obtain ⟨x0, x1⟩ := hx
      simp only [Option.some.injEq, Prod.mk.injEq] at ht
      obtain ⟨rfl, rfl, rfl⟩ := ht
      obtain ⟨go, rfl, hlc⟩ := hlast c1
      have b1 : decide ((0 : Int) < (own.length : Int)) = true := decide_eq_true (by omega)
      have b1' : decide (0 < own.length) = true := decide_eq_true c1
      replace hlc : wc.cell? ⟨go, own.length - 1, none⟩ = some (.int .i64 (lastI own)) := hlc
      clear hlast hvo
      go_wp2_with fail
      refine (pop_calls _ c g go own.length capo (lastI own) c1 (by have := HSZ.out; omega) hcapo ?p1 ?p2 ?p3).mono ?_
      (case p1 => go_simp)
      (case p2 => go_simp)
      (case p3 => go_simp)
      rintro e w5 ⟨rfl, m5, hw5⟩
      have H5 : Aside0 (PoolIn w5 w0.heap.size (fun b => S b ∨ w'.heap.size ≤ b) ow' p c vo vm' (hh'.set g (.slice (some ⟨go, 0, none⟩) (own.length - 1) capo)) { P.rows g mid own with caches := (P.rows g mid own).caches.set g (own.take (own.length - 1)) }) := ⟨by rw [hw5]; exact PoolIn.pop_row (HH.out.step (w1 := wc.drewN m5) (fun _ _ _ => rfl)) (by rw [HL.out]; have := hgl; omega) HOE.out HVO.out⟩
      have HB5 : Aside0 (Below w0.heap.size w0 w5) := ⟨by rw [hw5]; exact below_set (pw_below_drewN HB.out _) HH.out.bc⟩
      have HK5 : Aside0 (Kept w' w5 S) := ⟨by rw [hw5]; exact Kept.setCell (Kept.drewN HK.out _) HH.out.sc _⟩
      clear hw5 HH HB HK
      obtain ⟨go2, cap2, hvo2, hs2, hw2, hb2, hd1, hd2, hd3⟩ := PoolIn.out_at H5.out (lastI own) x0 x1
      have hne2 : ¬ (p = go2) := (fun e => by have h1 := H5.out.op; rw [e, hw2] at h1; omega)
      have hne3 : ¬ (go2 = p) := (fun e => hne2 e.symm)
      have hcc : w5.cell? ⟨p, 5, none⟩ = some (.int .i64 P.count) := (blk_cell H5.out.blk 5).trans rfl
      have hcf : w5.frozen? ⟨p, 5, none⟩ = false := blk_frozen H5.out.blk 5
      have HVO2 := Aside0.mk hvo2
      have HS2 := Aside0.mk hs2
      have HBB := Aside0.mk hb2
      clear hvo2 hs2 hb2 hw2
      go_wp2_with fail
      go_ret2
      refine ⟨rfl, ⟨ow', c, vo, vm', hh'.set g (.slice (some ⟨go, 0, none⟩) (own.length - 1) capo), ?_⟩, below_set (below_set HB5.out HBB.out) H5.out.bp, Kept.setCell (Kept.setCell HK5.out HS2.out _) H5.out.sp _⟩
      have h6 := (H5.out.set_out HVO2.out (lastI own) true).set_count (P.count + 1)
      have e : ({ ({ ({ P.rows g mid own with caches := (P.rows g mid own).caches.set g (own.take (own.length - 1)) } : PoolM) with out := (P.rows g mid own).out.set (lastI own).toNat true } : PoolM) with count := P.count + 1 } : PoolM) = { P.rows g mid (own.take (own.length - 1)) with out := P.out.set (lastI own).toNat true, count := P.count + 1 } := by
        simp [PoolM.rows]
      rw [← e]
      exact h6
    · rw [if_neg c1] at ht
      have hown : own = [] := List.length_eq_zero_iff.1 (by omega)
      have b1 : decide ((0 : Int) < (own.length : Int)) = false := decide_eq_false (by omega)
      have b1' : decide (0 < own.length) = false := decide_eq_false c1
      clear hlast hvo
      by_cases c2 : P.fresh < (P.out.length : Int)
      · rw [if_pos c2] at ht
        simp only [Option.some.injEq, Prod.mk.injEq] at ht
        obtain ⟨rfl, rfl, rfl⟩ := ht
        have b2 : decide (P.fresh < (P.out.length : Int)) = true := decide_eq_true c2
        obtain ⟨go2, cap2, hvo2, hs2, hw2, hb2, hd1, hd2, hd3⟩ := PoolIn.out_at HH.out P.fresh hfb1 c2
        replace hd1 : wc.cell? ⟨p, 0, none⟩ = some (.slice (some ⟨go2, 0, none⟩) P.out.length cap2) := hd1
        have hne2 : ¬ (p = go2) := fun e => by have h1 := HH.out.op; rw [e, hw2] at h1; omega
        have hne3 : ¬ (go2 = p) := fun e => hne2 e.symm
        have hcc : wc.cell? ⟨p, 5, none⟩ = some (.int .i64 P.count) := (blk_cell HH.out.blk 5).trans rfl
        have hcf : wc.frozen? ⟨p, 5, none⟩ = false := blk_frozen HH.out.blk 5
        have HVO2 := Aside0.mk hvo2
        have HS2 := Aside0.mk hs2
        have HBB := Aside0.mk hb2
        have HOW := Aside0.mk hown
        clear hvo2 hs2 hb2 hw2 hown
        go_wp2
        go_ret2
        refine ⟨rfl, ⟨ow', c, vo, vm', hh', ?_⟩, below_set (below_set (below_set HB.out HH.out.bp) HBB.out) HH.out.bp, Kept.setCell (Kept.setCell (Kept.setCell HK.out HH.out.sp _) HS2.out _) HH.out.sp _⟩
        have h6 := ((HH.out.set_fresh (P.fresh + 1)).set_out HVO2.out P.fresh true).set_count (P.count + 1)
        exact h6
      · rw [if_neg c2] at ht
        simp only [Option.some.injEq, Prod.mk.injEq] at ht
        obtain ⟨rfl, rfl, rfl⟩ := ht
        have b2 : decide (P.fresh < (P.out.length : Int)) = false := decide_eq_false c2
        obtain ⟨Ao, capx, hvox⟩ := Kd.R_slice HH.out.out
        have hd1 : wc.cell? ⟨p, 0, none⟩ = some (.slice Ao P.out.length capx) := by
          have h1 := hvox
          have h2 : wc.cell? ⟨p, 0, none⟩ = some vo := (blk_cell HH.out.blk 0).trans rfl
          rw [h2, h1]
          rfl
        clear hvox hown
        go_wp2
        go_ret2
        exact ⟨rfl, ⟨ow', c, vo, vm', hh', HH.out⟩, HB.out, HK.out⟩
end Go.Proofs.Ytfajhdcambkbpaa.Pool
