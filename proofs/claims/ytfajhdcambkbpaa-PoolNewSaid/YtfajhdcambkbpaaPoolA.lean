/- Package pool: what a pool is in memory, and its small functions. -/
import Derived.Test.YtfajhdcambkbpaaWWords
import Derived.Test.YtfajhdcambkbpaaWKept
import Derived.Test.YtfajhdcambkbpaaWMore
import Derived.Test.YtfajhdcambkbpaaProg
import Derived.WalkSpells
import Derived.WalkKit
import Derived.KernelRfl
import Derived.BigRegion
import Derived.Deep.QuietTactic
import Derived.BigQuiet
import Derived.Deep.LoopGhost
import Derived.Deep.RegionHeld3
import Derived.Deep.AppendLies
import Derived.Outline
namespace Go.Proofs.Ytfajhdcambkbpaa.Pool
open Go.RowKit Go.Proofs.YtfajhdcambkbpaaW.PrintWords

/-- The last one of a row comes out. -/
theorem pop_calls (w : World) (b off g n cap : Nat) (x : Int) (hn : 0 < n) (hn2 : n ≤ 2000000) (hcap : n ≤ cap) (hc : w.cell? ⟨b, off, none⟩ = some (.slice (some ⟨g, 0, none⟩) n cap)) (hf : w.frozen? ⟨b, off, none⟩ = false) (hx : w.cell? ⟨g, n - 1, none⟩ = some (.int .i64 x)) :
    Calls Try.prog 24 #[.pointer (some ⟨b, off, none⟩)] w fun e w' => e = .returned (.int .i64 x) ∧ ∃ m, w' = (w.drewN m).setCell ⟨b, off, none⟩ (.slice (some ⟨g, 0, none⟩) (n - 1) cap) := by
  have p1 : 0 ≤ (n : Int) - 1 := by omega
  have p2 : (n : Int) - 1 < (n : Int) := by omega
  have p3 : (n : Int) - 1 ≤ (n : Int) := by omega
  have p4 : (n : Int) - 1 ≤ (cap : Int) := by omega
  have p5 : ((n : Int) - 1).toNat = n - 1 := by omega
  go_enter Try.func24, Try.ntmps24
  go_wp2
  go_quiet (fail)
  go_wp2
  generalize hw4 : w.drewN nq = w4
  have hc4 : w4.cell? ⟨b, off, none⟩ = some (.slice (some ⟨g, 0, none⟩) n cap) := by rw [← hw4]; exact hc
  have hf4 : w4.frozen? ⟨b, off, none⟩ = false := by rw [← hw4]; exact hf
  have HW := Aside0.mk hw4
  clear hw4 hc hf hx
  go_region
  go_wp2
  go_ret
  refine ⟨rfl, nq + 1, ?_⟩
  have := HW.out
  subst this
  rfl

/-- A pool as plain data. -/
structure PoolM where
  out : List Bool
  caches : List (List Int)
  middle : List Int
  fresh : Int
  most : Int
  count : Int

/-- Where its parts lie: ow tells of each of its blocks which part it is. -/
structure PoolIn (w : World) (base : Nat) (S : Nat → Prop) (ow : Nat → Nat) (p c : Nat) (vo vm : Value) (hs : List Value) (P : PoolM) : Prop where
  sp : S p
  op : ow p = 0
  bp : base ≤ p
  blk : w.heap[p]? = some (.cells #[vo, .slice (some ⟨c, 0, none⟩) hs.length hs.length, vm, .int .i64 P.fresh, .int .i64 P.most, .int .i64 P.count] 59 (0, 0))
  sc : S c
  oc : ow c = 2
  bc : base ≤ c
  hdr : w.heap[c]? = some (.cells hs.toArray 28 (0, 0))
  len : hs.length = P.caches.length
  out : Kd.R Kd.bool 4 w base (fun b => S b ∧ ow b = 1) vo P.out
  mid : Kd.R (Kd.int .i64) 3 w base (fun b => S b ∧ ow b = 3) vm P.middle
  row : ∀ g, g < hs.length → Kd.R (Kd.int .i64) 3 w base (fun b => S b ∧ ow b = 4 + g) (hs.getD g undef) (P.caches.getD g [])

def PoolAt (w : World) (base : Nat) (S : Nat → Prop) (p : Nat) (P : PoolM) : Prop := ∃ ow c vo vm hs, PoolIn w base S ow p c vo vm hs P

/-- Another world in which the blocks of S are as they were. -/
theorem PoolIn.step {w w1 : World} {base : Nat} {S : Nat → Prop} {ow : Nat → Nat} {p c : Nat} {vo vm : Value} {hs : List Value} {P : PoolM} (h : PoolIn w base S ow p c vo vm hs P) (hm : ∀ k, S k → k < w.heap.size → w1.heap[k]? = w.heap[k]?) : PoolIn w1 base S ow p c vo vm hs P :=
  { h with
    blk := (hm p h.sp (blk_lt h.blk)).trans h.blk
    hdr := (hm c h.sc (blk_lt h.hdr)).trans h.hdr
    out := Kd.R_step h.out (fun k hk hl => hm k hk.1 hl)
    mid := Kd.R_step h.mid (fun k hk hl => hm k hk.1 hl)
    row := fun g hg => Kd.R_step (h.row g hg) (fun k hk hl => hm k hk.1 hl) }

theorem PoolAt.step {w w1 : World} {base : Nat} {S : Nat → Prop} {p : Nat} {P : PoolM} (h : PoolAt w base S p P) (hm : ∀ k, S k → k < w.heap.size → w1.heap[k]? = w.heap[k]?) : PoolAt w1 base S p P := by
  obtain ⟨ow, c, vo, vm, hs, h⟩ := h
  exact ⟨ow, c, vo, vm, hs, h.step hm⟩

/-- The blocks may be more. -/
theorem PoolIn.mono {w : World} {base : Nat} {S S' : Nat → Prop} {ow : Nat → Nat} {p c : Nat} {vo vm : Value} {hs : List Value} {P : PoolM} (h : PoolIn w base S ow p c vo vm hs P) (hm : ∀ k, S k → S' k) : PoolIn w base S' ow p c vo vm hs P :=
  { h with
    sp := hm _ h.sp
    sc := hm _ h.sc
    out := Kd.R_mono h.out (fun k hk => ⟨hm k hk.1, hk.2⟩)
    mid := Kd.R_mono h.mid (fun k hk => ⟨hm k hk.1, hk.2⟩)
    row := fun g hg => Kd.R_mono (h.row g hg) (fun k hk => ⟨hm k hk.1, hk.2⟩) }

theorem PoolAt.mono {w : World} {base : Nat} {S S' : Nat → Prop} {p : Nat} {P : PoolM} (h : PoolAt w base S p P) (hm : ∀ k, S k → S' k) : PoolAt w base S' p P := by
  obtain ⟨ow, c, vo, vm, hs, h⟩ := h
  exact ⟨ow, c, vo, vm, hs, h.mono hm⟩

/-- taker: is there such a one? -/
theorem taker_calls (w : World) (base : Nat) (S : Nat → Prop) (p : Nat) (P : PoolM) (g : Int) (h : PoolAt w base S p P) :
    Calls Try.prog 23 #[.pointer (some ⟨p, 0, none⟩), .int .i64 g] w fun e w' => e = .returned (.bool (decide (0 ≤ g ∧ g < P.caches.length))) ∧ w' = w := by
  obtain ⟨ow, c, vo, vm, hs, h⟩ := h
  have hc1 : w.cell? ⟨p, 1, none⟩ = some (.slice (some ⟨c, 0, none⟩) hs.length hs.length) := (blk_cell h.blk 1).trans rfl
  have hl := h.len
  have HH := Aside0.mk h
  clear h
  by_cases c0 : 0 ≤ g
  · have b0 : decide (0 ≤ g) = true := decide_eq_true c0
    have e : decide (0 ≤ g ∧ g < P.caches.length) = decide (g < (hs.length : Int)) := by rw [hl]; simp [c0]
    rw [e]
    clear c0 hl e
    go_enter Try.func23, Try.ntmps23
    go_wp2
    go_ret
    exact ⟨rfl, rfl⟩
  · have b0 : decide (0 ≤ g) = false := decide_eq_false c0
    have e : decide (0 ≤ g ∧ g < P.caches.length) = false := decide_eq_false (fun h => c0 h.1)
    rw [e]
    clear c0 hl e
    go_enter Try.func23, Try.ntmps23
    go_wp2
    go_ret
    exact ⟨rfl, rfl⟩

theorem count_calls (w : World) (base : Nat) (S : Nat → Prop) (p : Nat) (P : PoolM) (h : PoolAt w base S p P) :
    Calls Try.prog 18 #[.pointer (some ⟨p, 0, none⟩)] w fun e w' => e = .returned (.int .i64 P.count) ∧ w' = w := by
  obtain ⟨ow, c, vo, vm, hs, h⟩ := h
  have hc : w.cell? ⟨p, 5, none⟩ = some (.int .i64 P.count) := (blk_cell h.blk 5).trans rfl
  clear h
  go_enter Try.func18, Try.ntmps18
  go_wp2
  go_ret
  exact ⟨rfl, rfl⟩

theorem fresh_calls (w : World) (base : Nat) (S : Nat → Prop) (p : Nat) (P : PoolM) (h : PoolAt w base S p P) :
    Calls Try.prog 19 #[.pointer (some ⟨p, 0, none⟩)] w fun e w' => e = .returned (.int .i64 P.fresh) ∧ w' = w := by
  obtain ⟨ow, c, vo, vm, hs, h⟩ := h
  have hc : w.cell? ⟨p, 3, none⟩ = some (.int .i64 P.fresh) := (blk_cell h.blk 3).trans rfl
  clear h
  go_enter Try.func19, Try.ntmps19
  go_wp2
  go_ret
  exact ⟨rfl, rfl⟩

/-- Live: is a thing out? -/
def PoolM.live (P : PoolM) (x : Int) : Bool := if 0 ≤ x ∧ x < P.out.length then P.out.getD x.toNat false else false

theorem live_calls (w : World) (base : Nat) (S : Nat → Prop) (p : Nat) (P : PoolM) (x : Int) (h : PoolAt w base S p P) :
    Calls Try.prog 12 #[.pointer (some ⟨p, 0, none⟩), .int .i64 x] w fun e w' => e = .returned (.bool (P.live x)) ∧ w' = w := by
  obtain ⟨ow, c, vo, vm, hs, h⟩ := h
  obtain ⟨A, cap, rfl⟩ := Kd.R_slice h.out
  have hc : w.cell? ⟨p, 0, none⟩ = some (.slice A P.out.length cap) := (blk_cell h.blk 0).trans rfl
  by_cases c0 : 0 ≤ x
  · have b0 : decide (0 ≤ x) = true := decide_eq_true c0
    by_cases c1 : x < P.out.length
    · have b1 : decide (x < (P.out.length : Int)) = true := decide_eq_true c1
      have e : P.live x = rdOf false P.out x := by unfold PoolM.live rdOf; rw [if_pos ⟨c0, c1⟩]
      rw [e]
      obtain ⟨ad, rfl, hx⟩ := Kd.at_bool (Kd.R_reads' h.out).2.2 x c0 c1
      clear h e
      go_enter Try.func12, Try.ntmps12
      go_wp2
      go_ret
      exact ⟨rfl, rfl⟩
    · have b1 : decide (x < (P.out.length : Int)) = false := decide_eq_false c1
      have e : P.live x = false := by unfold PoolM.live; rw [if_neg (fun h => c1 h.2)]
      rw [e]
      clear h e c1
      go_enter Try.func12, Try.ntmps12
      go_wp2
      go_ret
      exact ⟨rfl, rfl⟩
  · have b0 : decide (0 ≤ x) = false := decide_eq_false c0
    have e : P.live x = false := by unfold PoolM.live; rw [if_neg (fun h => c0 h.1)]
    rw [e]
    clear h e c0
    go_enter Try.func12, Try.ntmps12
    go_wp2
    go_ret
    exact ⟨rfl, rfl⟩
end Go.Proofs.Ytfajhdcambkbpaa.Pool
