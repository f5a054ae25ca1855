/- Package pool: what is kept, and a new pool. -/
import Derived.Test.YtfajhdcambkbpaaPoolC
import Derived.Test.YtfajhdcambkbpaaPoolClone
namespace Go.Proofs.Ytfajhdcambkbpaa.Pool
open Go.RowKit Go.Proofs.YtfajhdcambkbpaaW.PrintWords Go.Proofs.YtfajhdcambkbpaaW.PrintMore
attribute [local go_sem] max2_int max_two

set_option maxHeartbeats 1000000 in
theorem middle_calls (w : World) (base : Nat) (S : Nat → Prop) (p : Nat) (P : PoolM) (h : PoolAt w base S p P) (hs : P.middle.length ≤ 1000000) :
    Calls Try.prog 25 #[.pointer (some ⟨p, 0, none⟩)] w fun e w' => ∃ v, e = .returned v ∧ Kd.R (Kd.int .i64) 3 w' w.heap.size (fun _ => True) v P.middle ∧ Below w.heap.size w w' := by
  obtain ⟨ow, c, vo, vm, hh, h⟩ := h
  obtain ⟨A, cap, hv⟩ := Kd.R_slice h.mid
  have hm := h.mid
  rw [hv] at hm
  have hc : w.cell? ⟨p, 2, none⟩ = some (.slice A P.middle.length cap) := by rw [← hv]; exact (blk_cell h.blk 2).trans rfl
  have HCL := Aside0.mk (PoolClone.slices_Clone_int_int.calls A cap P.middle P.middle w (Kd.R_reads' hm).2.2 (Kd.R_reads' hm).2.1 (by unfold PoolClone.slices_Clone_int_int.f; rw [if_pos (by omega)]))
  clear h hm hv
  go_enter Try.func25, Try.ntmps25
  go_wp2_with (go_at_call 30; refine HCL.out.mono ?_; rintro e w' ⟨v, rfl, hr, hb⟩; have HR := Aside0.mk hr; have HB := Aside0.mk hb; clear hr hb)
  go_ret
  exact ⟨_, rfl, HR.out, HB.out⟩

/-- What one keeps. -/
def PoolM.kept (P : PoolM) (g : Int) : List Int := if 0 ≤ g ∧ g < (P.caches.length : Int) then P.caches.getD g.toNat [] else []

set_option maxHeartbeats 1000000 in
theorem cache_calls (w : World) (base : Nat) (S : Nat → Prop) (p : Nat) (P : PoolM) (g : Int) (h : PoolAt w base S p P) (hs : (P.kept g).length ≤ 1000000) :
    Calls Try.prog 21 #[.pointer (some ⟨p, 0, none⟩), .int .i64 g] w fun e w' => ∃ v, e = .returned v ∧ Kd.R (Kd.int .i64) 3 w' w.heap.size (fun _ => True) v (P.kept g) ∧ Below w.heap.size w w' := by
  have HT := Aside0.mk (fun w => taker_calls w base S p P g)
  have HIN := Aside0.mk h
  by_cases c0 : 0 ≤ g ∧ g < (P.caches.length : Int)
  · have hd : decide (0 ≤ g ∧ g < (P.caches.length : Int)) = true := decide_eq_true c0
    have hk : P.kept g = P.caches.getD g.toNat [] := by unfold PoolM.kept; rw [if_pos c0]
    rw [hk] at hs ⊢
    clear hk
    obtain ⟨g0, rfl⟩ := Int.eq_ofNat_of_zero_le c0.1
    simp only [Int.toNat_natCast] at hs ⊢
    obtain ⟨ow, c, vo, vm, hh, h⟩ := h
    have hgl : (g0 : Int) < (hh.length : Int) := by rw [h.len]; exact c0.2
    obtain ⟨own, hown⟩ : ∃ o, P.caches.getD g0 [] = o := ⟨_, rfl⟩
    obtain ⟨A, cap, hv, hcp, hco, _, _⟩ := h.row_at (by omega) hown
    have hrw := h.row g0 (by omega)
    rw [hv, hown] at hrw
    rw [hown] at hs ⊢
    have hc1 : w.cell? ⟨p, 1, none⟩ = some (.slice (some ⟨c, 0, none⟩) hh.length hh.length) := (blk_cell h.blk 1).trans rfl
    have HCL := Aside0.mk (PoolClone.slices_Clone_int_int.calls A cap own own w (Kd.R_reads' hrw).2.2 hcp (by unfold PoolClone.slices_Clone_int_int.f; rw [if_pos (by omega)]))
    clear h hrw hv c0 hown
    go_enter Try.func21, Try.ntmps21
    go_wp2_with (first | (go_at_call 23; refine (HT.out _ HIN.out).mono ?_; rintro e w' ⟨rfl, rfl⟩; rw [hd]) | (go_at_call 30; refine HCL.out.mono ?_; rintro e w'' ⟨v, rfl, hr, hb⟩; have HR := Aside0.mk hr; have HB := Aside0.mk hb; clear hr hb))
    go_ret
    exact ⟨_, rfl, HR.out, HB.out⟩
  · have hd : decide (0 ≤ g ∧ g < (P.caches.length : Int)) = false := decide_eq_false c0
    have hk : P.kept g = [] := by unfold PoolM.kept; rw [if_neg c0]
    rw [hk]
    clear c0 hk hs h
    go_enter Try.func21, Try.ntmps21
    go_wp2_with (go_at_call 23; refine (HT.out _ HIN.out).mono ?_; rintro e w' ⟨rfl, rfl⟩; rw [hd])
    go_ret
    exact ⟨_, rfl, Kd.R_nil _ _ _ _ _, Below.refl _ _⟩

theorem infoB : (Try.prog.info? 4).map (fun i => (i.zero, i.size, i.bytes)) = some (some (.bool false), 1, 1) := by kernel_rfl
theorem infoS : (Try.prog.info? 28).map (fun i => (i.zero, i.size, i.bytes)) = some (some (.slice none 0 0), 1, 24) := by kernel_rfl
theorem undB : Try.prog.underlying 57 = some (.slice 4) := by kernel_rfl
theorem undS : Try.prog.underlying 27 = some (.slice 28) := by kernel_rfl

theorem made_one (z : Value) (hz : z.cells = #[z]) (m : Nat) : madeCells z.cells m = (List.replicate m z).toArray := by
  apply Array.ext_getElem?
  intro i
  rw [hz]
  by_cases h : i < m
  · simp [madeCells, h, Nat.mod_one]
  · simp [madeCells, h]

theorem make_run (t e : TypeId) (z : Value) (hz : z.cells = #[z]) (b : Nat) (ht : Try.prog.underlying t = some (.slice e)) (hi : (Try.prog.info? e).map (fun i => (i.zero, i.size, i.bytes)) = some (some z, 1, b)) (n : Int) (h0 : 0 ≤ n) (hn : n ≤ 64) (hb : b ≤ 100) (w : World) :
    (Instr.makeSlice t (.int .i64 n) (.int .i64 n)).run Try.prog w = .ok (.slice (some ⟨w.heap.size, 0, none⟩) n.toNat n.toNat) (w.alloc (.cells (List.replicate n.toNat z).toArray e)) := by
  obtain ⟨i0, hi, hzz⟩ := Option.map_eq_some_iff.1 hi
  simp only [Prod.mk.injEq] at hzz
  obtain ⟨hz0, hz1, hz2⟩ := hzz
  have hr := run_make (P := Try.prog) w t e i0 z ht hi hz0 .i64 .i64 n n h0 (by omega)
    (by
      rw [hz2]
      have : (b : Int) * n ≤ 100 * 64 := Int.mul_le_mul (by omega) hn h0 (by omega)
      omega) (by omega)
  rw [hz1, Nat.mul_one, made_one z hz] at hr
  exact hr

theorem new_no (w : World) (size takers most : Int) (hn : ¬ (0 ≤ size ∧ size ≤ 64 ∧ 0 ≤ takers ∧ takers ≤ 8 ∧ 1 ≤ most ∧ most ≤ 16)) :
    Calls Try.prog 14 #[.int .i64 size, .int .i64 takers, .int .i64 most] w fun e w' => e = .returned (.tuple #[.pointer none, .int .i64 1]) ∧ w' = w := by
  have HN := Aside0.mk hn
  clear hn
  go_enter Try.func14, Try.ntmps14
  by_cases c1 : size < 0
  · have b1 : decide (size < 0) = true := decide_eq_true c1
    go_wp2
    go_ret2
    exact ⟨rfl, rfl⟩
  · have b1 : decide (size < 0) = false := decide_eq_false c1
    by_cases c2 : 64 < size
    · have b2 : decide (64 < size) = true := decide_eq_true c2
      go_wp2
      go_ret2
      exact ⟨rfl, rfl⟩
    · have b2 : decide (64 < size) = false := decide_eq_false c2
      by_cases c3 : takers < 0
      · have b3 : decide (takers < 0) = true := decide_eq_true c3
        go_wp2
        go_ret2
        exact ⟨rfl, rfl⟩
      · have b3 : decide (takers < 0) = false := decide_eq_false c3
        by_cases c4 : 8 < takers
        · have b4 : decide (8 < takers) = true := decide_eq_true c4
          go_wp2
          go_ret2
          exact ⟨rfl, rfl⟩
        · have b4 : decide (8 < takers) = false := decide_eq_false c4
          by_cases c5 : most < 1
          · have b5 : decide (most < 1) = true := decide_eq_true c5
            go_wp2
            go_ret2
            exact ⟨rfl, rfl⟩
          · have b5 : decide (most < 1) = false := decide_eq_false c5
            by_cases c6 : 16 < most
            · have b6 : decide (16 < most) = true := decide_eq_true c6
              go_wp2
              go_ret2
              exact ⟨rfl, rfl⟩
            · exact absurd ⟨by omega, by omega, by omega, by omega, by omega, by omega⟩ HN.out

/-- A new pool. -/
def PoolM.new (size takers most : Int) : PoolM := { out := List.replicate size.toNat false, caches := List.replicate takers.toNat [], middle := [], fresh := 0, most := most, count := 0 }

theorem made_bools (w : World) (base n : Nat) (ok : Nat → Prop) (hb : base ≤ w.heap.size) (hn : n ≤ 64) (hok : ok w.heap.size) :
    Kd.R Kd.bool 4 (w.alloc (.cells (Array.replicate n (.bool false)) 4)) base ok (.slice (some ⟨w.heap.size, 0, none⟩) n n) (List.replicate n false) := by
  have hm := Kd.reps_made (R := Kd.bool.M (w.alloc (.cells (Array.replicate n (.bool false)) 4)) base (fun k => ok k ∧ some k ≠ (Value.slice (some ⟨w.heap.size, 0, none⟩) n n).ownBlock)) (z := .bool false) (size := 1) (z0 := false) rfl (by omega) rfl n
  rw [Nat.mul_one, made_one (.bool false) rfl] at hm
  refine ⟨fun k hk => ?_, _, ?_, hm⟩
  · have : w.heap.size = k := by simpa [Value.ownBlock] using hk
    subst this
    exact hok
  · have h2 := World.ownsRow_lit (base := base) (e := 4) (size := 1) w (Array.replicate n (.bool false)) n hb (by unfold maxLen; omega) (by simp)
    rw [show Kd.bool.sz = 1 from rfl]
    simpa using h2

theorem new_in (w' : World) (base p c o : Nat) (size takers most : Int) (hpc : p ≠ c) (hpo : p ≠ o) (hco : c ≠ o) (bp : base ≤ p) (bc : base ≤ c) (bo : base ≤ o)
    (hp : w'.heap[p]? = some (.cells #[.slice (some ⟨o, 0, none⟩) size.toNat size.toNat, .slice (some ⟨c, 0, none⟩) takers.toNat takers.toNat, .slice none 0 0, .int .i64 0, .int .i64 most, .int .i64 0] 59 (0, 0)))
    (hc : w'.heap[c]? = some (.cells (Array.replicate takers.toNat (.slice none 0 0)) 28 (0, 0)))
    (ho : Kd.R Kd.bool 4 w' base (fun b => b = o) (.slice (some ⟨o, 0, none⟩) size.toNat size.toNat) (List.replicate size.toNat false)) :
    PoolAt w' base (fun b => base ≤ b) p (PoolM.new size takers most) := by
  refine ⟨fun b => if b = p then 0 else if b = c then 2 else 1, c, .slice (some ⟨o, 0, none⟩) size.toNat size.toNat, .slice none 0 0, List.replicate takers.toNat (.slice none 0 0), { sp := bp, op := if_pos rfl, bp := bp, blk := ?_, sc := bc, oc := ?_, bc := bc, hdr := ?_, len := ?_, out := ?_, mid := Kd.R_nil _ _ _ _ _, row := ?_ }⟩
  · rw [List.length_replicate]; exact hp
  · rw [if_neg (Ne.symm hpc), if_pos rfl]
  · simpa using hc
  · simp [PoolM.new]
  · exact Kd.R_mono ho (fun k hk => by subst hk; exact ⟨bo, by rw [if_neg (Ne.symm hpo), if_neg (Ne.symm hco)]⟩)
  · intro g hg
    rw [List.length_replicate] at hg
    have e1 : (List.replicate takers.toNat (Value.slice none 0 0)).getD g undef = .slice none 0 0 := by simp [List.getD_eq_getElem?_getD, hg]
    have e2 : (PoolM.new size takers most).caches.getD g [] = [] := by simp [PoolM.new, List.getD_eq_getElem?_getD, hg]
    rw [e1, e2]
    exact Kd.R_nil _ _ _ _ _

theorem three_blks (w : World) (a b d : Obj) : (((w.alloc a).alloc b).alloc d).drew.heap[w.heap.size + 1 + 1]? = some d ∧ (((w.alloc a).alloc b).alloc d).drew.heap[w.heap.size + 1]? = some b ∧ (((w.alloc a).alloc b).alloc d).drew.heap[w.heap.size]? = some a := by
  have e1 : (w.alloc a).heap.size = w.heap.size + 1 := by simp
  have e2 : ((w.alloc a).alloc b).heap.size = w.heap.size + 1 + 1 := by simp
  have h1 := blk_new w a
  have h2 := blk_new (w.alloc a) b
  have h3 := blk_new ((w.alloc a).alloc b) d
  rw [e1] at h2
  rw [e2] at h3
  exact ⟨blk_drew h3, blk_drew (blk_alloc h2 _), blk_drew (blk_alloc (blk_alloc h1 _) _)⟩

theorem new_calls (w : World) (size takers most : Int) (hn : 0 ≤ size ∧ size ≤ 64 ∧ 0 ≤ takers ∧ takers ≤ 8 ∧ 1 ≤ most ∧ most ≤ 16) :
    Calls Try.prog 14 #[.int .i64 size, .int .i64 takers, .int .i64 most] w fun e w' => ∃ p, e = .returned (.tuple #[.pointer (some ⟨p, 0, none⟩), .int .i64 0]) ∧ PoolAt w' w.heap.size (fun b => w.heap.size ≤ b) p (PoolM.new size takers most) ∧ Below w.heap.size w w' := by
  obtain ⟨h1, h2, h3, h4, h5, h6⟩ := hn
  have hmB := fun w => make_run 57 4 (.bool false) rfl 1 undB infoB size h1 h2 (by omega) w
  have hmS := fun w => make_run 27 28 (.slice none 0 0) rfl 24 undS infoS takers h3 (by omega) (by omega) w
  have b1 : decide (size < 0) = false := decide_eq_false (by omega)
  have b2 : decide (64 < size) = false := decide_eq_false (by omega)
  have b3 : decide (takers < 0) = false := decide_eq_false (by omega)
  have b4 : decide (8 < takers) = false := decide_eq_false (by omega)
  have b5 : decide (most < 1) = false := decide_eq_false (by omega)
  have b6 : decide (16 < most) = false := decide_eq_false (by omega)
  go_enter Try.func14, Try.ntmps14
  go_upto_region 3 with (fail)
  go_region
  go_wp2
  · go_ret2
    refine ⟨_, rfl, new_in _ w.heap.size (w.heap.size + 1 + 1) (w.heap.size + 1) w.heap.size size takers most (by omega) (by omega) (by omega) (by omega) (by omega) (by omega) (three_blks w _ _ _).1 (three_blks w _ _ _).2.1 ?_, below_drew (below_alloc (below_alloc (below_alloc (Below.refl _ _) _) _) _)⟩
    exact Kd.R_drew (Kd.R_alloc (Kd.R_alloc (made_bools w w.heap.size size.toNat (fun b => b = w.heap.size) (Nat.le_refl _) (by omega) rfl) _) _)
  · go_ret2
    refine ⟨_, rfl, new_in _ w.heap.size (w.heap.size + 1 + 1) w.heap.size (w.heap.size + 1) size takers most (by omega) (by omega) (by omega) (by omega) (by omega) (by omega) (three_blks w _ _ _).1 (three_blks w _ _ _).2.2 ?_, below_drew (below_alloc (below_alloc (below_alloc (Below.refl _ _) _) _) _)⟩
    have e1 : (w.alloc (.cells (Array.replicate takers.toNat (.slice none 0 0)) 28)).heap.size = w.heap.size + 1 := by simp
    have h := made_bools (w.alloc (.cells (Array.replicate takers.toNat (.slice none 0 0)) 28)) w.heap.size size.toNat (fun b => b = w.heap.size + 1) (by omega) (by omega) e1
    rw [e1] at h
    exact Kd.R_drew (Kd.R_alloc h _)
end Go.Proofs.Ytfajhdcambkbpaa.Pool
