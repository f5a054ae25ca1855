/- Package pool: what a pool's callers hold on to. -/
import Derived.Test.YtifajoehlgdgaaaPoolE
namespace Go.Proofs.Ytifajoehlgdgaaa.Pool
open Go.RowKit Go.Proofs.YtifajoehlgdgaaaW.PrintWords Go.Proofs.YtifajoehlgdgaaaW.PrintMore

/-- A pool that lies in blocks of its own. -/
structure Hold (w0 w : World) (S : Nat → Prop) (p : Nat) (P : PoolM) (size takers : Nat) (most : Int) : Prop where
  lies : PoolAt w w0.heap.size S p P
  right : P.Right
  takers : P.caches.length = takers
  size : P.out.length = size
  most : P.most = most
  below : Below w0.heap.size w0 w

theorem live_cong {P Q : PoolM} (h : Q.out = P.out) (y : Int) : Q.live y = P.live y := by unfold PoolM.live; rw [h]

variable {w0 w : World} {S : Nat → Prop} {p : Nat} {P : PoolM} {size takers : Nat} {most : Int}

theorem take_hold (h : Hold w0 w S p P size takers most) (g : Nat) (hg : g < takers) :
    Calls Try.prog 47 #[.pointer (some ⟨p, 0, none⟩), .int .i64 g] w fun e w' => ∃ S' P' x b, e = .returned (.tuple #[.int .i64 x, .bool b]) ∧ Hold w0 w' S' p P' size takers most ∧ P.take g = some (P', x, b) ∧
      (∀ {α : Type} {d : Kd α} {t : Nat} {v : Value} {xs : List α}, d.R t w w0.heap.size (fun b => ¬ S b) v xs → d.R t w' w0.heap.size (fun b => ¬ S' b) v xs) ∧
      (b = true → 0 ≤ x ∧ x < (size : Int) ∧ P.live x = false ∧ P'.out = P.out.set x.toNat true ∧ P'.count = P.count + 1) ∧
      (b = false → P'.out = P.out ∧ P'.count = P.count ∧ (takers = 1 → P'.count = size)) := by
  obtain ⟨P', x, b, ht, hr, hm, ho, hc, htrue, hfalse⟩ := take_right P g h.right (by rw [h.takers]; exact hg)
  refine (take_calls p P g w0 w S h.below h.lies h.right.small' (by rw [h.takers]; exact hg) P' x b ht).mono ?_
  rintro e w' ⟨rfl, h1, h2, h3⟩
  refine ⟨_, P', x, b, rfl, ⟨h1, hr, hc.trans h.takers, ho.trans h.size, hm.trans h.most, h2⟩, ht, fun h4 => other_row h4 h3, fun hb => ?_, fun hb => ?_⟩
  · obtain ⟨h5, h6, h7, h8, h9⟩ := htrue hb
    exact ⟨h5, by rw [← h.size]; exact h6, h7, h8, h9⟩
  · obtain ⟨h5, h6, h7, h8, h9, h10, h11⟩ := hfalse hb
    refine ⟨h5, h6, fun h1t => ?_⟩
    have hl := h.takers
    rw [h1t] at hl
    have hg0 : g = 0 := by omega
    subst hg0
    have hz : P.all = [] := by
      match hcs : P.caches, hl with
      | [c], _ =>
        rw [hcs] at h9
        have h9' : c = [] := h9
        simp [PoolM.all, h8, hcs, h9']
    have := h.right.count
    rw [hz] at this
    rw [h6, this, h7, h.size]
    simp

theorem give_hold (h : Hold w0 w S p P size takers most) (g : Nat) (x : Int) (hg : g < takers) (hx : P.live x = true) :
    Calls Try.prog 49 #[.pointer (some ⟨p, 0, none⟩), .int .i64 g, .int .i64 x] w fun e w' => ∃ S', e = .returned (.bool true) ∧ Hold w0 w' S' p (P.give g x) size takers most ∧
      (∀ {α : Type} {d : Kd α} {t : Nat} {v : Value} {xs : List α}, d.R t w w0.heap.size (fun b => ¬ S b) v xs → d.R t w' w0.heap.size (fun b => ¬ S' b) v xs) ∧
      (P.give g x).out = P.out.set x.toNat false ∧ (P.give g x).count = P.count - 1 := by
  have hg' : g < P.caches.length := by rw [h.takers]; exact hg
  obtain ⟨hr, hm, hc, ho, hn, _⟩ := give_right P g x h.right hg' hx
  refine (give_calls p P g x w0 w S h.below h.lies h.right.small' hg' hx).mono ?_
  rintro e w' ⟨rfl, h1, h2, h3⟩
  exact ⟨_, rfl, ⟨h1, hr, hc.trans h.takers, by rw [ho, List.length_set]; exact h.size, hm.trans h.most, h2⟩, fun h4 => other_row h4 h3, ho, hn⟩

/-- What isn't the pool's may turn. -/
theorem Hold.step {w' : World} (h : Hold w0 w S p P size takers most) (hb : Below w0.heap.size w0 w') (hm : ∀ k, S k → k < w.heap.size → w'.heap[k]? = w.heap[k]?) : Hold w0 w' S p P size takers most :=
  ⟨h.lies.step hm, h.right, h.takers, h.size, h.most, hb⟩

theorem Hold.bound (h : Hold w0 w S p P size takers most) : Hold w0 w (fun b => S b ∧ b < w.heap.size) p P size takers most :=
  ⟨h.lies.bound, h.right, h.takers, h.size, h.most, h.below⟩

theorem new_hold (w0 w : World) (hb : Below w0.heap.size w0 w) (sz tk most : Int) (hn : 0 ≤ sz ∧ sz ≤ 64 ∧ 0 ≤ tk ∧ tk ≤ 8 ∧ 1 ≤ most ∧ most ≤ 16) :
    Calls Try.prog 46 #[.int .i64 sz, .int .i64 tk, .int .i64 most] w fun e w' => ∃ p, e = .returned (.tuple #[.pointer (some ⟨p, 0, none⟩), .int .i64 0]) ∧ Hold w0 w' (fun b => w.heap.size ≤ b) p (PoolM.new sz tk most) sz.toNat tk.toNat most ∧ Below w.heap.size w w' := by
  refine (new_calls w sz tk most hn).mono ?_
  rintro e w' ⟨p, rfl, h1, h2⟩
  exact ⟨p, rfl, ⟨h1.lower hb.size, new_right sz tk most hn, by simp [PoolM.new], by simp [PoolM.new], rfl, hb.trans (h2.mono hb.size)⟩, h2⟩

/-- No more are out than there are. -/
theorem Hold.count_le (h : Hold w0 w S p P size takers most) : 0 ≤ P.count ∧ P.count ≤ size := by
  have h1 := h.right.count
  have h2 := h.right.all_len
  have h3 := h.right.fresh
  have h4 := h.size
  omega
end Go.Proofs.Ytifajoehlgdgaaa.Pool
