/- Package pool: what a call leaves as it is, block by block. -/
import Derived.Test.YtifajoehlgdgaaaPoolO
namespace Go.Proofs.Ytifajoehlgdgaaa.Pool
open Go.RowKit Go.Proofs.YtifajoehlgdgaaaW.PrintWords Go.Proofs.YtifajoehlgdgaaaW.PrintMore
variable {w0 w : World} {S : Nat → Prop} {p : Nat} {P : PoolM} {size takers : Nat} {most : Int}

theorem take_kept (h : Hold w0 w S p P size takers most) (g : Nat) (hg : g < takers) :
    Calls Try.prog 47 #[.pointer (some ⟨p, 0, none⟩), .int .i64 g] w fun e w' => ∃ S' P' x b, e = .returned (.tuple #[.int .i64 x, .bool b]) ∧ Hold w0 w' S' p P' size takers most ∧ P.take g = some (P', x, b) ∧
      (∀ {α : Type} {d : Kd α} {t : Nat} {v : Value} {xs : List α}, d.R t w w0.heap.size (fun b => ¬ S b) v xs → d.R t w' w0.heap.size (fun b => ¬ S' b) v xs) ∧
      (b = true → 0 ≤ x ∧ x < (size : Int) ∧ P.live x = false ∧ P'.out = P.out.set x.toNat true ∧ P'.count = P.count + 1) ∧
      (b = false → P'.out = P.out ∧ P'.count = P.count ∧ (takers = 1 → P'.count = size)) ∧ (∀ k, ¬ S k → k < w.heap.size → w'.heap[k]? = w.heap[k]? ∧ ¬ S' k) ∧ w.heap.size ≤ w'.heap.size := by
  obtain ⟨P', x, b, ht, hr, hm, ho, hc, htrue, hfalse⟩ := take_right P g h.right (by rw [h.takers]; exact hg)
  refine (take_calls p P g w0 w S h.below h.lies h.right.small' (by rw [h.takers]; exact hg) P' x b ht).mono ?_
  rintro e w' ⟨rfl, h1, h2, h3⟩
  refine ⟨_, P', x, b, rfl, ⟨h1, hr, hc.trans h.takers, ho.trans h.size, hm.trans h.most, h2⟩, ht, fun h4 => other_row h4 h3, fun hb => ?_, fun hb => ?_, fun k hk hl => ⟨h3.2 k hl hk, fun h4 => h4.elim hk (fun h5 => absurd h5 (by omega))⟩, h3.1⟩
  · obtain ⟨h5, h6, h7, h8, h9⟩ := htrue hb
    exact ⟨h5, by rw [← h.size]; exact h6, h7, h8, h9⟩
  · obtain ⟨h5, h6, h7, h8, h9, h10, h11⟩ := hfalse hb
    refine ⟨h5, h6, fun h1t => ?_⟩
    have hl := h.takers
    rw [h1t] at hl
    have hg0 : g = 0 := by omega
    subst hg0
    have hz : P.all = [] := by
      match hcs : P.caches, hl with
      | [c], _ =>
        rw [hcs] at h9
        have h9' : c = [] := h9
        simp [PoolM.all, h8, hcs, h9']
    have := h.right.count
    rw [hz] at this
    rw [h6, this, h7, h.size]
    simp

theorem give_kept (h : Hold w0 w S p P size takers most) (g : Nat) (x : Int) (hg : g < takers) (hx : P.live x = true) :
    Calls Try.prog 49 #[.pointer (some ⟨p, 0, none⟩), .int .i64 g, .int .i64 x] w fun e w' => ∃ S', e = .returned (.bool true) ∧ Hold w0 w' S' p (P.give g x) size takers most ∧
      (∀ {α : Type} {d : Kd α} {t : Nat} {v : Value} {xs : List α}, d.R t w w0.heap.size (fun b => ¬ S b) v xs → d.R t w' w0.heap.size (fun b => ¬ S' b) v xs) ∧
      (P.give g x).out = P.out.set x.toNat false ∧ (P.give g x).count = P.count - 1 ∧ (∀ k, ¬ S k → k < w.heap.size → w'.heap[k]? = w.heap[k]? ∧ ¬ S' k) ∧ w.heap.size ≤ w'.heap.size := by
  have hg' : g < P.caches.length := by rw [h.takers]; exact hg
  obtain ⟨hr, hm, hc, ho, hn, _⟩ := give_right P g x h.right hg' hx
  refine (give_calls p P g x w0 w S h.below h.lies h.right.small' hg' hx).mono ?_
  rintro e w' ⟨rfl, h1, h2, h3⟩
  exact ⟨_, rfl, ⟨h1, hr, hc.trans h.takers, by rw [ho, List.length_set]; exact h.size, hm.trans h.most, h2⟩, fun h4 => other_row h4 h3, ho, hn, fun k hk hl => ⟨h3.2 k hl hk, fun h4 => h4.elim hk (fun h5 => absurd h5 (by omega))⟩, h3.1⟩

/-- What lies elsewhere than the pool, and not in one block, lies so behind a call. -/
theorem row_kept {α : Type} {d : Kd α} {t : Nat} {w' : World} {S' : Nat → Prop} {bx : Nat} {v : Value} {xs : List α} (h : d.R t w w0.heap.size (fun b => ¬ S b ∧ b ≠ bx) v xs) (hk : ∀ k, ¬ S k → k < w.heap.size → w'.heap[k]? = w.heap[k]? ∧ ¬ S' k) : d.R t w' w0.heap.size (fun b => ¬ S' b ∧ b ≠ bx) v xs :=
  Kd.R_mono (Kd.R_step (Kd.R_bound h) (fun k hk' hl => (hk k hk'.1.1 hl).1)) (fun k hk' => ⟨(hk k hk'.1.1 hk'.2.2.1).2, hk'.1.2⟩)

/-- How many are in the first caches. -/
def PoolM.upto (P : PoolM) (g : Nat) : Nat := ((P.caches.take g).flatten).length

theorem upto_step (P : PoolM) (g : Nat) (hg : g < P.caches.length) : P.upto (g + 1) = P.upto g + (P.caches.getD g []).length := by
  unfold PoolM.upto
  rw [List.take_add_one, List.flatten_append, List.length_append]
  simp [List.getD_eq_getElem?_getD, List.getElem?_eq_getElem hg]

theorem upto_all (P : PoolM) : P.middle.length + P.upto P.caches.length = P.all.length := by
  simp [PoolM.upto, PoolM.all]
end Go.Proofs.Ytifajoehlgdgaaa.Pool
