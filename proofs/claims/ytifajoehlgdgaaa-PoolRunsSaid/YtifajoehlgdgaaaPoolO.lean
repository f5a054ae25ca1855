/- Package pool: how the laws' pools begin. -/
import Derived.Test.YtifajoehlgdgaaaPoolH
namespace Go.Proofs.Ytifajoehlgdgaaa.Pool
open Go.RowKit Go.Proofs.YtifajoehlgdgaaaW.PrintWords Go.Proofs.YtifajoehlgdgaaaW.PrintMore
attribute [local go_sem] max2_int max_two

theorem made_rows (w : World) (base n : Nat) (ok : Nat → Prop) (hb : base ≤ w.heap.size) (hn : n ≤ 64) (hok : ok w.heap.size) :
    Kd.R (Kd.slice 3 (Kd.int .i64)) 25 (w.alloc (.cells (Array.replicate n (.slice none 0 0)) 25)) base ok (.slice (some ⟨w.heap.size, 0, none⟩) n n) (List.replicate n []) := by
  have hm := Kd.reps_made (R := (Kd.slice 3 (Kd.int .i64)).M (w.alloc (.cells (Array.replicate n (.slice none 0 0)) 25)) base (fun k => ok k ∧ some k ≠ (Value.slice (some ⟨w.heap.size, 0, none⟩) n n).ownBlock)) (z := .slice none 0 0) (size := 1) (z0 := []) rfl (by omega) ⟨_, rfl, Kd.R_nil _ _ _ _ _⟩ n
  rw [Nat.mul_one, made_one (.slice none 0 0) rfl] at hm
  refine ⟨fun k hk => ?_, _, ?_, hm⟩
  · have : w.heap.size = k := by simpa [Value.ownBlock] using hk
    subst this
    exact hok
  · have h2 := World.ownsRow_lit (base := base) (e := 25) (size := 1) w (Array.replicate n (.slice none 0 0)) n hb (by unfold maxLen; omega) (by simp)
    rw [show (Kd.slice 3 (Kd.int .i64)).sz = 1 from rfl]
    simpa using h2

theorem four_blks (w : World) (a b c d : Obj) : ((((w.alloc a).alloc b).alloc c).alloc d).drew.heap[w.heap.size + 1]? = some b ∧ ((((w.alloc a).alloc b).alloc c).alloc d).drew.heap[w.heap.size + 1 + 1]? = some c ∧ ((((w.alloc a).alloc b).alloc c).alloc d).drew.heap[w.heap.size + 1 + 1 + 1]? = some d ∧ ((((w.alloc a).alloc b).alloc c).alloc d).drew.heap.size = w.heap.size + 1 + 1 + 1 + 1 := by
  have e1 : (w.alloc a).heap.size = w.heap.size + 1 := by simp
  have e2 : ((w.alloc a).alloc b).heap.size = w.heap.size + 1 + 1 := by simp
  have e3 : (((w.alloc a).alloc b).alloc c).heap.size = w.heap.size + 1 + 1 + 1 := by simp
  have e4 : ((((w.alloc a).alloc b).alloc c).alloc d).drew.heap.size = w.heap.size + 1 + 1 + 1 + 1 := by simp
  have h2 := blk_new (w.alloc a) b
  have h3 := blk_new ((w.alloc a).alloc b) c
  have h4 := blk_new (((w.alloc a).alloc b).alloc c) d
  rw [e1] at h2
  rw [e2] at h3
  rw [e3] at h4
  exact ⟨blk_drew (blk_alloc (blk_alloc h2 _) _), blk_drew (blk_alloc h3 _), blk_drew h4, e4⟩

theorem rows_third (w : World) (a b d : Obj) (base T : Nat) (hb : base ≤ w.heap.size) (hT : T ≤ 64) : Kd.R (Kd.slice 3 (Kd.int .i64)) 25 ((((w.alloc a).alloc b).alloc (.cells (Array.replicate T (.slice none 0 0)) 25)).alloc d).drew base (fun k => k = w.heap.size + 1 + 1) (.slice (some ⟨w.heap.size + 1 + 1, 0, none⟩) T T) (List.replicate T []) := by
  have e2 : ((w.alloc a).alloc b).heap.size = w.heap.size + 1 + 1 := by simp
  have h := made_rows ((w.alloc a).alloc b) base T (fun k => k = w.heap.size + 1 + 1) (by omega) hT e2
  rw [e2] at h
  exact Kd.R_drew (Kd.R_alloc h _)

theorem rows_fourth (w : World) (a b d : Obj) (base T : Nat) (hb : base ≤ w.heap.size) (hT : T ≤ 64) : Kd.R (Kd.slice 3 (Kd.int .i64)) 25 ((((w.alloc a).alloc b).alloc d).alloc (.cells (Array.replicate T (.slice none 0 0)) 25)).drew base (fun k => k = w.heap.size + 1 + 1 + 1) (.slice (some ⟨w.heap.size + 1 + 1 + 1, 0, none⟩) T T) (List.replicate T []) := by
  have e2 : (((w.alloc a).alloc b).alloc d).heap.size = w.heap.size + 1 + 1 + 1 := by simp
  have h := made_rows (((w.alloc a).alloc b).alloc d) base T (fun k => k = w.heap.size + 1 + 1 + 1) (by omega) hT e2
  rw [e2] at h
  exact Kd.R_drew h

set_option maxHeartbeats 2000000 in
theorem open_calls (W w : World) (hb : Below W.heap.size W w) (b0 b1 b2 : Int) (r0 : 0 ≤ b0 ∧ b0 ≤ 255) (r1 : 0 ≤ b1 ∧ b1 ≤ 255) (r2 : 0 ≤ b2 ∧ b2 ≤ 255) :
    Calls Try.prog 50 #[.agg #[.int .u8 b0, .int .u8 b1, .int .u8 b2]] w fun e w' => ∃ p S c, e = .returned (.tuple #[.pointer (some ⟨p, 0, none⟩), .agg #[.int .i64 (b0 % 30), .int .i64 (1 + b2 % 16), .slice (some ⟨c, 0, none⟩) (b1 % 9).toNat (b1 % 9).toNat, .slice none 0 0, .int .i64 0], .bool true]) ∧
      Hold W w' S p (PoolM.new (b0 % 30) (b1 % 9) (1 + b2 % 16)) (b0 % 30).toNat (b1 % 9).toNat (1 + b2 % 16) ∧ Kd.R (Kd.slice 3 (Kd.int .i64)) 25 w' W.heap.size (fun b => ¬ S b) (.slice (some ⟨c, 0, none⟩) (b1 % 9).toNat (b1 % 9).toNat) (List.replicate (b1 % 9).toNat []) := by
  obtain ⟨T, hT⟩ := Int.eq_ofNat_of_zero_le (show 0 ≤ b1 % 9 by omega)
  have hT8 : T ≤ 8 := by omega
  have HT := Aside0.mk hT
  clear hT
  have hmS := fun w => make_run 23 25 (.slice none 0 0) rfl 24 undS infoS (b1 % 9) (by have := HT.out; omega) (by omega) (by omega) w
  have HB := Aside0.mk hb
  have n0 : 0 ≤ b0 % 30 ∧ b0 % 30 ≤ 29 := by omega
  have m0 : 1 ≤ 1 + b2 % 16 ∧ 1 + b2 % 16 ≤ 16 := by omega
  clear hb
  go_enter Try.func50, Try.ntmps50
  go_wp2
  have hlo : W.heap.size ≤ w.heap.size + 1 := by have := HB.out.size; omega
  have HLO := Aside0.mk hlo
  clear hlo
  go_region
  · rw [HT.out]
    simp only [Int.toNat_natCast]
    obtain ⟨f1, f2, f3, f4⟩ := four_blks w (.cells #[.int .u8 b0, .int .u8 b1, .int .u8 b2] 62) (.cells #[.int .i64 0, .int .i64 0, .slice none 0 0, .slice none 0 0, .int .i64 0] 65) (.cells (Array.replicate T (.slice none 0 0)) 25) (.cells #[.int .i64 (b0 % 30), .int .i64 (1 + b2 % 16), .slice (some ⟨w.heap.size + 1 + 1, 0, none⟩) T T, .slice none 0 0, .int .i64 0] 65)
    have hR := rows_third w (.cells #[.int .u8 b0, .int .u8 b1, .int .u8 b2] 62) (.cells #[.int .i64 0, .int .i64 0, .slice none 0 0, .slice none 0 0, .int .i64 0] 65) (.cells #[.int .i64 (b0 % 30), .int .i64 (1 + b2 % 16), .slice (some ⟨w.heap.size + 1 + 1, 0, none⟩) T T, .slice none 0 0, .int .i64 0] 65) W.heap.size T HB.out.size (by omega)
    go_wp2_with fail
    go_at_call 46
    refine (new_hold W _ (below_drew (below_alloc (below_alloc (below_alloc (below_alloc HB.out _) _) _) _)) (b0 % 30) T (1 + b2 % 16) (by omega)).mono ?_
    rintro e w5 ⟨p, rfl, h5, b5⟩
    have g1 := blk_below f1 b5
    have g3 := blk_below f3 b5
    have hR5 := Kd.R_step hR (fun k _ hl => b5.block k hl)
    rw [f4] at h5
    rw [Int.toNat_natCast] at h5
    have H5 := Aside0.mk h5
    have HR5 := Aside0.mk hR5
    clear h5 hR5 hR b5 f1 f2 f3 f4
    have q0 : w5.cell? ⟨w.heap.size + 1 + 1 + 1, 0, none⟩ = some (.int .i64 (b0 % 30)) := (blk_cell g3 0).trans rfl
    have qf0 : w5.frozen? ⟨w.heap.size + 1 + 1 + 1, 0, none⟩ = false := blk_frozen g3 0
    have q1 : w5.cell? ⟨w.heap.size + 1 + 1 + 1, 1, none⟩ = some (.int .i64 (1 + b2 % 16)) := (blk_cell g3 1).trans rfl
    have qf1 : w5.frozen? ⟨w.heap.size + 1 + 1 + 1, 1, none⟩ = false := blk_frozen g3 1
    have q2 : w5.cell? ⟨w.heap.size + 1 + 1 + 1, 2, none⟩ = some (.slice (some ⟨w.heap.size + 1 + 1, 0, none⟩) T T) := (blk_cell g3 2).trans rfl
    have qf2 : w5.frozen? ⟨w.heap.size + 1 + 1 + 1, 2, none⟩ = false := blk_frozen g3 2
    have q3 : w5.cell? ⟨w.heap.size + 1 + 1 + 1, 3, none⟩ = some (.slice none 0 0) := (blk_cell g3 3).trans rfl
    have qf3 : w5.frozen? ⟨w.heap.size + 1 + 1 + 1, 3, none⟩ = false := blk_frozen g3 3
    have q4 : w5.cell? ⟨w.heap.size + 1 + 1 + 1, 4, none⟩ = some (.int .i64 0) := (blk_cell g3 4).trans rfl
    have qf4 : w5.frozen? ⟨w.heap.size + 1 + 1 + 1, 4, none⟩ = false := blk_frozen g3 4
    have r0 : w5.cell? ⟨w.heap.size + 1, 0, none⟩ = some (.int .i64 0) := (blk_cell g1 0).trans rfl
    have rf0 : w5.frozen? ⟨w.heap.size + 1, 0, none⟩ = false := blk_frozen g1 0
    have r1 : w5.cell? ⟨w.heap.size + 1, 1, none⟩ = some (.int .i64 0) := (blk_cell g1 1).trans rfl
    have rf1 : w5.frozen? ⟨w.heap.size + 1, 1, none⟩ = false := blk_frozen g1 1
    have r2 : w5.cell? ⟨w.heap.size + 1, 2, none⟩ = some (.slice none 0 0) := (blk_cell g1 2).trans rfl
    have rf2 : w5.frozen? ⟨w.heap.size + 1, 2, none⟩ = false := blk_frozen g1 2
    have r3 : w5.cell? ⟨w.heap.size + 1, 3, none⟩ = some (.slice none 0 0) := (blk_cell g1 3).trans rfl
    have rf3 : w5.frozen? ⟨w.heap.size + 1, 3, none⟩ = false := blk_frozen g1 3
    have r4 : w5.cell? ⟨w.heap.size + 1, 4, none⟩ = some (.int .i64 0) := (blk_cell g1 4).trans rfl
    have rf4 : w5.frozen? ⟨w.heap.size + 1, 4, none⟩ = false := blk_frozen g1 4
    go_wp2_with fail
    go_region
    go_wp2
    have hlo := HLO.out
    have hg := blk_drew (blk_put (blk_put (blk_put (blk_put (blk_put g1 0 (.int .i64 (b0 % 30)) rfl) 1 (.int .i64 (1 + b2 % 16)) rfl) 2 (.slice (some ⟨w.heap.size + 1 + 1, 0, none⟩) T T) rfl) 3 (.slice none 0 0) rfl) 4 (.int .i64 0) rfl)
    refine bodyPost_ret (results_list (rs := [.tmp 2, .cell 3 65, .tmp 4]) rfl (by simp) (.tmp (.cell (w.heap.size + 1) 65 _ (0, 0) _ rfl hg Try.underlying65 rfl (by kernel_rfl) (.tmp .nil)))) rfl ?_
    simp only [HT.out, Int.toNat_natCast]
    have hfar : ∀ k, k = w.heap.size + 1 + 1 → k ≠ w.heap.size + 1 := fun k hk => by omega
    refine ⟨p, _, w.heap.size + 1 + 1, rfl, H5.out.step (below_drew (below_set (below_set (below_set (below_set (below_set H5.out.below hlo) hlo) hlo) hlo) hlo)) (fun k hk _ => ?_), ?_⟩
    · have hne : k ≠ w.heap.size + 1 := by omega
      exact (Below.heap_setCell _ _ _ k hne).trans ((Below.heap_setCell _ _ _ k hne).trans ((Below.heap_setCell _ _ _ k hne).trans ((Below.heap_setCell _ _ _ k hne).trans (Below.heap_setCell _ _ _ k hne))))
    · exact Kd.R_mono (Kd.R_drew (Kd.R_far (Kd.R_far (Kd.R_far (Kd.R_far (Kd.R_far HR5.out hfar _) hfar _) hfar _) hfar _) hfar _)) (fun k hk => by omega)
  · rw [HT.out]
    simp only [Int.toNat_natCast]
    obtain ⟨f1, f2, f3, f4⟩ := four_blks w (.cells #[.int .u8 b0, .int .u8 b1, .int .u8 b2] 62) (.cells #[.int .i64 0, .int .i64 0, .slice none 0 0, .slice none 0 0, .int .i64 0] 65) (.cells #[.int .i64 (b0 % 30), .int .i64 (1 + b2 % 16), .slice (some ⟨w.heap.size + 1 + 1 + 1, 0, none⟩) T T, .slice none 0 0, .int .i64 0] 65) (.cells (Array.replicate T (.slice none 0 0)) 25)
    have hR := rows_fourth w (.cells #[.int .u8 b0, .int .u8 b1, .int .u8 b2] 62) (.cells #[.int .i64 0, .int .i64 0, .slice none 0 0, .slice none 0 0, .int .i64 0] 65) (.cells #[.int .i64 (b0 % 30), .int .i64 (1 + b2 % 16), .slice (some ⟨w.heap.size + 1 + 1 + 1, 0, none⟩) T T, .slice none 0 0, .int .i64 0] 65) W.heap.size T HB.out.size (by omega)
    go_wp2_with fail
    go_at_call 46
    refine (new_hold W _ (below_drew (below_alloc (below_alloc (below_alloc (below_alloc HB.out _) _) _) _)) (b0 % 30) T (1 + b2 % 16) (by omega)).mono ?_
    rintro e w5 ⟨p, rfl, h5, b5⟩
    have g1 := blk_below f1 b5
    have g3 := blk_below f2 b5
    have hR5 := Kd.R_step hR (fun k _ hl => b5.block k hl)
    rw [f4] at h5
    rw [Int.toNat_natCast] at h5
    have H5 := Aside0.mk h5
    have HR5 := Aside0.mk hR5
    clear h5 hR5 hR b5 f1 f2 f3 f4
    have q0 : w5.cell? ⟨w.heap.size + 1 + 1, 0, none⟩ = some (.int .i64 (b0 % 30)) := (blk_cell g3 0).trans rfl
    have qf0 : w5.frozen? ⟨w.heap.size + 1 + 1, 0, none⟩ = false := blk_frozen g3 0
    have q1 : w5.cell? ⟨w.heap.size + 1 + 1, 1, none⟩ = some (.int .i64 (1 + b2 % 16)) := (blk_cell g3 1).trans rfl
    have qf1 : w5.frozen? ⟨w.heap.size + 1 + 1, 1, none⟩ = false := blk_frozen g3 1
    have q2 : w5.cell? ⟨w.heap.size + 1 + 1, 2, none⟩ = some (.slice (some ⟨w.heap.size + 1 + 1 + 1, 0, none⟩) T T) := (blk_cell g3 2).trans rfl
    have qf2 : w5.frozen? ⟨w.heap.size + 1 + 1, 2, none⟩ = false := blk_frozen g3 2
    have q3 : w5.cell? ⟨w.heap.size + 1 + 1, 3, none⟩ = some (.slice none 0 0) := (blk_cell g3 3).trans rfl
    have qf3 : w5.frozen? ⟨w.heap.size + 1 + 1, 3, none⟩ = false := blk_frozen g3 3
    have q4 : w5.cell? ⟨w.heap.size + 1 + 1, 4, none⟩ = some (.int .i64 0) := (blk_cell g3 4).trans rfl
    have qf4 : w5.frozen? ⟨w.heap.size + 1 + 1, 4, none⟩ = false := blk_frozen g3 4
    have r0 : w5.cell? ⟨w.heap.size + 1, 0, none⟩ = some (.int .i64 0) := (blk_cell g1 0).trans rfl
    have rf0 : w5.frozen? ⟨w.heap.size + 1, 0, none⟩ = false := blk_frozen g1 0
    have r1 : w5.cell? ⟨w.heap.size + 1, 1, none⟩ = some (.int .i64 0) := (blk_cell g1 1).trans rfl
    have rf1 : w5.frozen? ⟨w.heap.size + 1, 1, none⟩ = false := blk_frozen g1 1
    have r2 : w5.cell? ⟨w.heap.size + 1, 2, none⟩ = some (.slice none 0 0) := (blk_cell g1 2).trans rfl
    have rf2 : w5.frozen? ⟨w.heap.size + 1, 2, none⟩ = false := blk_frozen g1 2
    have r3 : w5.cell? ⟨w.heap.size + 1, 3, none⟩ = some (.slice none 0 0) := (blk_cell g1 3).trans rfl
    have rf3 : w5.frozen? ⟨w.heap.size + 1, 3, none⟩ = false := blk_frozen g1 3
    have r4 : w5.cell? ⟨w.heap.size + 1, 4, none⟩ = some (.int .i64 0) := (blk_cell g1 4).trans rfl
    have rf4 : w5.frozen? ⟨w.heap.size + 1, 4, none⟩ = false := blk_frozen g1 4
    go_wp2_with fail
    go_region
    go_wp2
    have hlo := HLO.out
    have hg := blk_drew (blk_put (blk_put (blk_put (blk_put (blk_put g1 0 (.int .i64 (b0 % 30)) rfl) 1 (.int .i64 (1 + b2 % 16)) rfl) 2 (.slice (some ⟨w.heap.size + 1 + 1 + 1, 0, none⟩) T T) rfl) 3 (.slice none 0 0) rfl) 4 (.int .i64 0) rfl)
    refine bodyPost_ret (results_list (rs := [.tmp 2, .cell 3 65, .tmp 4]) rfl (by simp) (.tmp (.cell (w.heap.size + 1) 65 _ (0, 0) _ rfl hg Try.underlying65 rfl (by kernel_rfl) (.tmp .nil)))) rfl ?_
    simp only [HT.out, Int.toNat_natCast]
    have hfar : ∀ k, k = w.heap.size + 1 + 1 + 1 → k ≠ w.heap.size + 1 := fun k hk => by omega
    refine ⟨p, _, w.heap.size + 1 + 1 + 1, rfl, H5.out.step (below_drew (below_set (below_set (below_set (below_set (below_set H5.out.below hlo) hlo) hlo) hlo) hlo)) (fun k hk _ => ?_), ?_⟩
    · have hne : k ≠ w.heap.size + 1 := by omega
      exact (Below.heap_setCell _ _ _ k hne).trans ((Below.heap_setCell _ _ _ k hne).trans ((Below.heap_setCell _ _ _ k hne).trans ((Below.heap_setCell _ _ _ k hne).trans (Below.heap_setCell _ _ _ k hne))))
    · exact Kd.R_mono (Kd.R_drew (Kd.R_far (Kd.R_far (Kd.R_far (Kd.R_far (Kd.R_far HR5.out hfar _) hfar _) hfar _) hfar _) hfar _)) (fun k hk => by omega)
end Go.Proofs.Ytifajoehlgdgaaa.Pool
