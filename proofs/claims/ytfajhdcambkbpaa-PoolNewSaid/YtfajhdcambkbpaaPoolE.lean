/- Package pool: the chapter's example, and what lies beside a pool. -/
import Derived.Test.YtfajhdcambkbpaaPoolD
import Derived.Test.YtfajhdcambkbpaaPoolW
import Derived.Test.YtfajhdcambkbpaaPPoolx1
namespace Go.Proofs.Ytfajhdcambkbpaa.Pool
open Go.RowKit Go.Proofs.YtfajhdcambkbpaaW.PrintWords Go.Proofs.YtfajhdcambkbpaaW.PrintMore Go.Proofs.Ytfajhdcambkbpaa.PPool

/-- What lies in blocks that aren't the pool's stays. -/
theorem other_row {α : Type} {d : Kd α} {e : Nat} {w w' : World} {base : Nat} {S : Nat → Prop} {v : Value} {xs : List α} (h : d.R e w base (fun b => ¬ S b) v xs) (hk : Kept w w' S) : d.R e w' base (fun b => ¬ (S b ∨ w.heap.size ≤ b)) v xs :=
  Kd.R_mono (Kd.R_step (Kd.R_bound h) (fun k hk' hl => hk.2 k hl hk'.1)) (fun k hk' hn => by
    rcases hn with h1 | h1
    · exact hk'.1 h1
    · have := hk'.2.2.1; omega)

theorem PoolAt.lower {w : World} {base base' : Nat} {S : Nat → Prop} {p : Nat} {P : PoolM} (h : PoolAt w base S p P) (hb : base' ≤ base) : PoolAt w base' S p P := by
  obtain ⟨ow, c, vo, vm, hs, h⟩ := h
  exact ⟨ow, c, vo, vm, hs, { h with bp := Nat.le_trans hb h.bp, bc := Nat.le_trans hb h.bc, out := Kd.R_lower h.out hb, mid := Kd.R_lower h.mid hb, row := fun g hg => Kd.R_lower (h.row g hg) hb }⟩

/-- No block of the pool is one that isn't there yet. -/
theorem PoolAt.bound {w : World} {base : Nat} {S : Nat → Prop} {p : Nat} {P : PoolM} (h : PoolAt w base S p P) : PoolAt w base (fun b => S b ∧ b < w.heap.size) p P := by
  obtain ⟨ow, c, vo, vm, hs, h⟩ := h
  have hm : ∀ {α : Type} {d : Kd α} {e : Nat} {v : Value} {xs : List α} {t : Nat}, d.R e w base (fun b => S b ∧ ow b = t) v xs → d.R e w base (fun b => (S b ∧ b < w.heap.size) ∧ ow b = t) v xs := fun h => Kd.R_mono (Kd.R_bound h) (fun k hk => ⟨⟨hk.1.1, hk.2.2.1⟩, hk.1.2⟩)
  exact ⟨ow, c, vo, vm, hs, { h with sp := ⟨h.sp, blk_lt h.blk⟩, sc := ⟨h.sc, blk_lt h.hdr⟩, out := hm h.out, mid := hm h.mid, row := fun g hg => hm (h.row g hg) }⟩

theorem new_right (size takers most : Int) (hn : 0 ≤ size ∧ size ≤ 64 ∧ 0 ≤ takers ∧ takers ≤ 8 ∧ 1 ≤ most ∧ most ≤ 16) : (PoolM.new size takers most).Right where
  most := hn.2.2.2.2
  takers := by simp [PoolM.new]; omega
  size := by simp [PoolM.new]; omega
  fresh := ⟨Int.le_refl _, by show (0 : Int) ≤ _; omega⟩
  nodup := by simp [PoolM.all, PoolM.new]
  small := by simp [PoolM.all, PoolM.new]
  live := fun x => by
    rw [live_mem]
    constructor
    · rintro ⟨h1, h2, h3⟩
      simp only [PoolM.new, List.length_replicate] at h2
      simp [PoolM.new, List.getD_eq_getElem?_getD, List.getElem?_replicate] at h3
      split at h3 <;> cases h3
    · rintro ⟨h1, h2, h3⟩
      have : x < 0 := h2
      omega
  count := by simp [PoolM.all, PoolM.new]
  own := fun g => by
    have : (PoolM.new size takers most).caches.getD g [] = [] := by
      simp only [PoolM.new, List.getD_eq_getElem?_getD, List.getElem?_replicate]
      split <;> rfl
    rw [this]
    show (0 : Int) ≤ most
    omega

theorem lit_one (w : World) (x : Int) : Kd.C (Kd.int .i64) (w.alloc (.cells #[.int .i64 x] 3)) (some ⟨w.heap.size, 0, none⟩) 1 [x] := by
  have h : Kd.R (Kd.int .i64) 3 (w.alloc (.cells #[.int .i64 x] 3)) w.heap.size (fun _ => True) (.slice (some ⟨w.heap.size, 0, none⟩) 1 1) [x] := by
    refine ⟨fun _ _ => trivial, [.int .i64 x], ?_, ?_⟩
    · have h2 := World.ownsRow_lit (base := w.heap.size) (e := 3) (size := 1) w #[.int .i64 x] 1 (Nat.le_refl _) (by unfold maxLen; omega) (by simp)
      rw [show (Kd.int .i64).sz = 1 from rfl]
      simpa using h2
    · exact ⟨rfl, fun j p hj => by
        cases j with
        | zero => simp at hj; subst hj; exact rfl
        | succ j => simp at hj⟩
  exact (Kd.R_reads' h).2.2

theorem same_calls (k : Nat) (A0 : Option Addr) (c0 : Nat) (l0 : List Int) (A1 : Option Addr) (c1 : Nat) (l1 : List Int) (r : Bool) (w : World) (hr0 : Kd.C (Kd.int .i64) w A0 l0.length l0) (hc0 : l0.length ≤ c0) (hr1 : Kd.C (Kd.int .i64) w A1 l1.length l1) (hc1 : l1.length ≤ c1) (h : handoffref02_Same.f k l0 l1 = some r) :
    Calls Try.prog 20 #[.slice A0 l0.length c0, .slice A1 l1.length c1] w fun e w' => e = .returned (.bool r) ∧ Drawn0 w w' :=
  handoffref02_Same.calls k A0 c0 l0 A1 c1 l1 r w hr0 hc0 hr1 hc1 h

theorem two_right : (PoolM.new 1 2 2).Right := new_right 1 2 2 (by decide)

def alive1 : PoolM := { out := [true], caches := [[], []], middle := [], fresh := 1, most := 2, count := 1 }
def alive2 : PoolM := { out := [false], caches := [[], [0]], middle := [], fresh := 1, most := 2, count := 0 }

theorem alive_take0 : (PoolM.new 1 2 2).take 0 = some (alive1, 0, true) := rfl
theorem alive_take1 : alive1.take 1 = some (alive1, 0, false) := rfl
theorem alive_live : alive1.live 0 = true := rfl
theorem alive_give : alive1.give 1 0 = alive2 := rfl
theorem alive_take2 : alive2.take 0 = some (alive2, 0, false) := rfl
theorem alive_kept : alive2.kept 1 = [0] := rfl

theorem alive1_small : alive1.Small where
  most := by decide
  fresh := by decide
  count := by decide
  out := by decide
  mid := by decide
  row := fun g => by rcases g with _ | _ | g <;> simp [alive1]

theorem alive2_small : alive2.Small where
  most := by decide
  fresh := by decide
  count := by decide
  out := by decide
  mid := by decide
  row := fun g => by rcases g with _ | _ | g <;> simp [alive2]

set_option maxHeartbeats 2000000 in
theorem alive_calls (w : World) : Calls Try.prog 5 #[] w fun e w' => e = .returned (.bool true) ∧ Below w.heap.size w w' := by
  have HB := Aside0.mk (Below.refl w.heap.size w)
  go_enter Try.func5, Try.ntmps5
  go_wp2_with fail
  go_at_call 14
  refine (new_calls _ 1 2 2 (by decide)).mono ?_
  rintro e w1 ⟨p, rfl, h1, b1⟩
  have H1 := Aside0.mk h1
  have B1 := Aside0.mk b1
  clear h1 b1
  go_wp2_with fail
  go_at_call 8
  refine (take_calls p _ 0 w w1 _ B1.out H1.out two_right.small' (by decide) _ _ _ alive_take0).mono ?_
  rintro e w2 ⟨rfl, h1, b1, _⟩
  have H2 := Aside0.mk h1
  have B2 := Aside0.mk b1
  clear h1 b1
  go_wp2_with fail
  go_at_call 8
  refine (take_calls p _ 1 w w2 _ B2.out H2.out alive1_small (by decide) _ _ _ alive_take1).mono ?_
  rintro e w3 ⟨rfl, h1, b1, _⟩
  have H3 := Aside0.mk h1
  have B3 := Aside0.mk b1
  clear h1 b1
  go_wp2_with fail
  go_at_call 10
  refine (give_calls p _ 1 0 w w3 _ B3.out H3.out alive1_small (by decide) alive_live).mono ?_
  rintro e w4 ⟨rfl, h1, b1, _⟩
  rw [alive_give] at h1
  have H4 := Aside0.mk h1
  have B4 := Aside0.mk b1
  clear h1 b1
  go_wp2_with fail
  go_at_call 8
  refine (take_calls p _ 0 w w4 _ B4.out H4.out alive2_small (by decide) _ _ _ alive_take2).mono ?_
  rintro e w5 ⟨rfl, h1, b1, _⟩
  have H5 := Aside0.mk h1
  have B5 := Aside0.mk b1
  clear h1 b1
  go_wp2_with fail
  go_at_call 21
  refine (cache_calls w5 _ _ p _ 1 H5.out (by rw [alive_kept]; decide)).mono ?_
  rw [alive_kept]
  rintro e w6 ⟨v, rfl, hr, b1⟩
  obtain ⟨A, c, rfl⟩ := Kd.R_slice hr
  have HR := Aside0.mk hr
  have B6 := Aside0.mk (B5.out.trans (b1.mono B5.out.size))
  clear hr b1
  go_wp2_with fail
  go_at_call 20
  refine (same_calls 9 A c [0] (some ⟨w6.heap.size, 0, none⟩) 1 [0] true _ (Kd.C_alloc (Kd.R_reads' HR.out).2.2 _) (Kd.R_reads' HR.out).2.1 (lit_one w6 0) (by decide) (by decide +kernel)).mono ?_
  rintro e w7 ⟨rfl, ⟨⟨m7, rfl⟩⟩⟩
  go_wp2_with fail
  go_ret
  exact ⟨rfl, pw_below_drewN (below_alloc B6.out _) _⟩
end Go.Proofs.Ytfajhdcambkbpaa.Pool
