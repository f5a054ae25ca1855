/- The walk of PoolRuns: each answer is the document's, and each thing is where the document has it. -/
import Derived.Test.YtifajoehlgdgaaaPoolR
import Derived.Test.YtifajoehlgdgaaaPoolKinds
import Derived.Test.YtifajoehlgdgaaaWalkPoolAll
import Derived.Deep.DeepCutAuto
import Derived.Deep.CutBlock
namespace Go.Proofs.Ytifajoehlgdgaaa.WalkPoolRuns
open Go.RowKit Go.Proofs.YtifajoehlgdgaaaW.PrintWords Go.Proofs.YtifajoehlgdgaaaW.PrintMore Go.Proofs.Ytifajoehlgdgaaa.Pool Go.Proofs.Ytifajoehlgdgaaa.PoolKinds Go.Proofs.Ytifajoehlgdgaaa.WalkPoolAll
attribute [local go_sem] max2_int max_two

/-- The document's pool in its box. -/
abbrev boxed (n m : Int) (AC : Option Addr) (cC : Nat) (AM : Option Addr) (cM : Nat) (P : PoolM) : Obj := .cells #[.int .i64 n, .int .i64 m, .slice AC P.caches.length cC, .slice AM P.middle.length cM, .int .i64 P.fresh] 65 (0, 0)

/-- The pool, and the document's: each in blocks of its own. -/
structure Run (W w : World) (S D : Nat → Prop) (p bx : Nat) (P : PoolM) (n : Int) (T : Nat) (m : Int) (AC : Option Addr) (cC : Nat) (AM : Option Addr) (cM : Nat) : Prop where
  hold : Hold W w S p P n.toNat T m
  doc : Doc W w D P AC cC AM cM
  box : w.heap[bx]? = some (boxed n m AC cC AM cM P)
  sb : ¬ S bx
  db : ¬ D bx
  sd : ∀ k, S k → ¬ D k
  lo : W.heap.size ≤ bx

theorem Run.step {W w w' : World} {S D : Nat → Prop} {p bx : Nat} {P : PoolM} {n : Int} {T : Nat} {m : Int} {AC AM : Option Addr} {cC cM : Nat} (h : Run W w S D p bx P n T m AC cC AM cM) (hb : Below w.heap.size w w') : Run W w' S D p bx P n T m AC cC AM cM where
  hold := h.hold.step (h.hold.below.trans (hb.mono h.hold.below.size)) (fun k _ hl => hb.block k hl)
  doc := h.doc.below hb
  box := blk_below h.box hb
  sb := h.sb
  db := h.db
  sd := h.sd
  lo := h.lo

theorem Run.bound {W w : World} {S D : Nat → Prop} {p bx : Nat} {P : PoolM} {n : Int} {T : Nat} {m : Int} {AC AM : Option Addr} {cC cM : Nat} (h : Run W w S D p bx P n T m AC cC AM cM) : Run W w (fun k => S k ∧ k < w.heap.size) D p bx P n T m AC cC AM cM where
  hold := h.hold.bound
  doc := h.doc
  box := h.box
  sb := fun hk => h.sb hk.1
  db := h.db
  sd := fun k hk => h.sd k hk.1
  lo := h.lo

/-- Five cells of a box are written. -/
theorem store5 {w : World} {bx t : Nat} {a0 a1 a2 a3 a4 b0 b1 b2 b3 b4 : Value} (h : w.heap[bx]? = some (.cells #[a0, a1, a2, a3, a4] t (0, 0))) :
    (((((w.setCell ⟨bx, 0, none⟩ b0).setCell ⟨bx, 1, none⟩ b1).setCell ⟨bx, 2, none⟩ b2).setCell ⟨bx, 3, none⟩ b3).setCell ⟨bx, 4, none⟩ b4).heap[bx]? = some (.cells #[b0, b1, b2, b3, b4] t (0, 0)) ∧
    (∀ k, k ≠ bx → (((((w.setCell ⟨bx, 0, none⟩ b0).setCell ⟨bx, 1, none⟩ b1).setCell ⟨bx, 2, none⟩ b2).setCell ⟨bx, 3, none⟩ b3).setCell ⟨bx, 4, none⟩ b4).heap[k]? = w.heap[k]?) ∧
    (∀ B w0, Below B w0 w → B ≤ bx → Below B w0 (((((w.setCell ⟨bx, 0, none⟩ b0).setCell ⟨bx, 1, none⟩ b1).setCell ⟨bx, 2, none⟩ b2).setCell ⟨bx, 3, none⟩ b3).setCell ⟨bx, 4, none⟩ b4)) ∧
    (((((w.setCell ⟨bx, 0, none⟩ b0).setCell ⟨bx, 1, none⟩ b1).setCell ⟨bx, 2, none⟩ b2).setCell ⟨bx, 3, none⟩ b3).setCell ⟨bx, 4, none⟩ b4).heap.size = w.heap.size := by
  refine ⟨blk_put (blk_put (blk_put (blk_put (blk_put h 0 b0 rfl) 1 b1 rfl) 2 b2 rfl) 3 b3 rfl) 4 b4 rfl, fun k hk => ?_, fun B w0 hb hB => ((((hb.setCell hB _).setCell hB _).setCell hB _).setCell hB _).setCell hB _, by simp [World.setCell]⟩
  exact (Below.heap_setCell _ _ _ k hk).trans ((Below.heap_setCell _ _ _ k hk).trans ((Below.heap_setCell _ _ _ k hk).trans ((Below.heap_setCell _ _ _ k hk).trans (Below.heap_setCell _ _ _ k hk))))

/-- A box of five cells, cell by cell. -/
theorem five {w : World} {bx t : Nat} {a0 a1 a2 a3 a4 : Value} (h : w.heap[bx]? = some (.cells #[a0, a1, a2, a3, a4] t (0, 0))) :
    (w.cell? ⟨bx, 0, none⟩ = some a0 ∧ w.frozen? ⟨bx, 0, none⟩ = false) ∧ (w.cell? ⟨bx, 1, none⟩ = some a1 ∧ w.frozen? ⟨bx, 1, none⟩ = false) ∧ (w.cell? ⟨bx, 2, none⟩ = some a2 ∧ w.frozen? ⟨bx, 2, none⟩ = false) ∧ (w.cell? ⟨bx, 3, none⟩ = some a3 ∧ w.frozen? ⟨bx, 3, none⟩ = false) ∧ (w.cell? ⟨bx, 4, none⟩ = some a4 ∧ w.frozen? ⟨bx, 4, none⟩ = false) :=
  ⟨⟨(blk_cell h 0).trans rfl, blk_frozen h 0⟩, ⟨(blk_cell h 1).trans rfl, blk_frozen h 1⟩, ⟨(blk_cell h 2).trans rfl, blk_frozen h 2⟩, ⟨(blk_cell h 3).trans rfl, blk_frozen h 3⟩, ⟨(blk_cell h 4).trans rfl, blk_frozen h 4⟩⟩

theorem Run.nums {W w : World} {S D : Nat → Prop} {p bx : Nat} {P : PoolM} {n : Int} {T : Nat} {m : Int} {AC AM : Option Addr} {cC cM : Nat} (h : Run W w S D p bx P n T m AC cC AM cM) (h0 : 0 ≤ n) : (P.out.length : Int) = n ∧ P.most = m ∧ P.caches.length = T :=
  ⟨by rw [h.hold.size]; omega, h.hold.most, h.hold.takers⟩

theorem take_run {W w : World} {S D : Nat → Prop} {p bx : Nat} {P : PoolM} {n : Int} {T : Nat} {m : Int} {AC AM : Option Addr} {cC cM : Nat} (h : Run W w S D p bx P n T m AC cC AM cM) (g : Nat) (hg : g < T) (h0 : 0 ≤ n) :
    Calls Try.prog 51 #[.agg #[.int .i64 n, .int .i64 m, .slice AC P.caches.length cC, .slice AM P.middle.length cM, .int .i64 P.fresh], .int .i64 g] w fun e w' => ∃ D' P' x b AC' cC' AM' cM', P.take g = some (P', x, b) ∧
      e = .returned (.tuple #[.agg #[.int .i64 n, .int .i64 m, .slice AC' P'.caches.length cC', .slice AM' P'.middle.length cM', .int .i64 P'.fresh], .int .i64 x, .bool b]) ∧ Made W w w' D D' P' AC' cC' AM' cM' := by
  obtain ⟨e1, e2, e3⟩ := h.nums h0
  have h1 := take_doc h.hold.below h.doc h.hold.right g (by rw [e3]; exact hg)
  rw [e1, e2] at h1
  refine h1.mono ?_
  rintro e w' ⟨D', P', x, b, AC', cC', AM', cM', ht, ho, hm, rfl, hd⟩
  exact ⟨D', P', x, b, AC', cC', AM', cM', ht, rfl, hd⟩

/-- Behind the document's step: its next pool is written into the box. -/
structure Half (W w : World) (S D : Nat → Prop) (p bx : Nat) (P P' : PoolM) (n : Int) (T : Nat) (m : Int) (AC : Option Addr) (cC : Nat) (AM : Option Addr) (cM : Nat) : Prop where
  hold : Hold W w S p P n.toNat T m
  doc : Doc W w D P' AC cC AM cM
  sb : ¬ S bx
  db : ¬ D bx
  sd : ∀ k, S k → ¬ D k
  sl : ∀ k, S k → k < w.heap.size
  lo : W.heap.size ≤ bx

theorem after_doc {W w w' : World} {S D D' : Nat → Prop} {p bx : Nat} {P P' : PoolM} {n : Int} {T : Nat} {m : Int} {AC AM AC' AM' : Option Addr} {cC cM cC' cM' : Nat} (h : Run W w S D p bx P n T m AC cC AM cM) (hd : Made W w w' D D' P' AC' cC' AM' cM') (o : Obj) :
    Half W (w'.alloc o) (fun k => S k ∧ k < w.heap.size) D' p bx P P' n T m AC' cC' AM' cM' where
  hold := h.hold.bound.step (below_alloc hd.below _) (fun k hk hl => (Below.heap_alloc w' _ k (Nat.lt_of_lt_of_le hl hd.size)).trans (hd.kept k (h.sd k hk.1) hl).1)
  doc := hd.doc.below (below_alloc (Below.refl _ _) _)
  sb := fun hk => h.sb hk.1
  db := (hd.kept bx h.db (blk_lt h.box)).2
  sd := fun k hk => (hd.kept k (h.sd k hk.1) hk.2).2
  sl := fun k hk => by have := hd.size; have := hk.2; simp; omega
  lo := h.lo

theorem Half.put {W w : World} {S D : Nat → Prop} {p bx : Nat} {P P' : PoolM} {n : Int} {T : Nat} {m : Int} {AC AM : Option Addr} {cC cM : Nat} {w' : World} (h : Half W w S D p bx P P' n T m AC cC AM cM) (hm : ∀ k, k ≠ bx → w'.heap[k]? = w.heap[k]?) (hb : Below W.heap.size W w') (hs : w'.heap.size = w.heap.size) :
    Half W w' S D p bx P P' n T m AC cC AM cM where
  hold := h.hold.step hb (fun k hk _ => hm k (fun e => h.sb (e ▸ hk)))
  doc := h.doc.step (by omega) (fun k hk _ => hm k (fun e => h.db (e ▸ hk)))
  sb := h.sb
  db := h.db
  sd := h.sd
  sl := fun k hk => by rw [hs]; exact h.sl k hk
  lo := h.lo

theorem Half.full {W w w' : World} {S S' D : Nat → Prop} {p bx : Nat} {P P' : PoolM} {n : Int} {T : Nat} {m : Int} {AC AM : Option Addr} {cC cM : Nat} (h : Half W w S D p bx P P' n T m AC cC AM cM) (hh : Hold W w' S' p P' n.toNat T m) (hk : ∀ k, ¬ S k → k < w.heap.size → w'.heap[k]? = w.heap[k]? ∧ ¬ S' k) (hx : w.heap[bx]? = some (boxed n m AC cC AM cM P')) (hs : w.heap.size ≤ w'.heap.size) :
    Run W w' S' D p bx P' n T m AC cC AM cM where
  hold := hh
  doc := h.doc.step hs (fun k hd hl => (hk k (fun hS => h.sd k hS hd) hl).1)
  box := (hk bx h.sb (blk_lt hx)).1.trans hx
  sb := (hk bx h.sb (blk_lt hx)).2
  db := h.db
  sd := fun k hS hd => (hk k (fun hS2 => h.sd k hS2 hd) (h.doc.own k hd)).2 hS
  lo := h.lo

theorem Half.same {W w : World} {S D : Nat → Prop} {p bx : Nat} {P : PoolM} {n : Int} {T : Nat} {m : Int} {AC AM : Option Addr} {cC cM : Nat} (h : Half W w S D p bx P P n T m AC cC AM cM) (hx : w.heap[bx]? = some (boxed n m AC cC AM cM P)) : Run W w S D p bx P n T m AC cC AM cM where
  hold := h.hold
  doc := h.doc
  box := hx
  sb := h.sb
  db := h.db
  sd := h.sd
  lo := h.lo

theorem take_run_no {W w : World} {S D : Nat → Prop} {p bx : Nat} {P : PoolM} {n : Int} {T : Nat} {m : Int} {AC AM : Option Addr} {cC cM : Nat} (h : Run W w S D p bx P n T m AC cC AM cM) (g : Int) (hg : ¬ (0 ≤ g ∧ g < (T : Int))) :
    Calls Try.prog 51 #[.agg #[.int .i64 n, .int .i64 m, .slice AC P.caches.length cC, .slice AM P.middle.length cM, .int .i64 P.fresh], .int .i64 g] w fun e w' => ∃ D' AC' cC' AM' cM',
      e = .returned (.tuple #[.agg #[.int .i64 n, .int .i64 m, .slice AC' P.caches.length cC', .slice AM' P.middle.length cM', .int .i64 P.fresh], .int .i64 0, .bool false]) ∧ Made W w w' D D' P AC' cC' AM' cM' :=
  take_doc_no h.hold.below h.doc g n m (by rw [h.hold.takers]; exact hg)

theorem give_run {W w : World} {S D : Nat → Prop} {p bx : Nat} {P : PoolM} {n : Int} {T : Nat} {m : Int} {AC AM : Option Addr} {cC cM : Nat} (h : Run W w S D p bx P n T m AC cC AM cM) (g : Nat) (x : Int) (hg : g < T) (hx : P.live x = true) (h0 : 0 ≤ n) :
    Calls Try.prog 52 #[.agg #[.int .i64 n, .int .i64 m, .slice AC P.caches.length cC, .slice AM P.middle.length cM, .int .i64 P.fresh], .int .i64 g, .int .i64 x] w fun e w' => ∃ D' P' AC' cC' AM' cM', P' = P.give g x ∧
      e = .returned (.tuple #[.agg #[.int .i64 n, .int .i64 m, .slice AC' P'.caches.length cC', .slice AM' P'.middle.length cM', .int .i64 P'.fresh], .bool true]) ∧ Made W w w' D D' P' AC' cC' AM' cM' := by
  obtain ⟨e1, e2, e3⟩ := h.nums h0
  have h1 := give_doc h.hold.below h.doc h.hold.right g x (by rw [e3]; exact hg) hx
  rw [e1, e2] at h1
  refine h1.mono ?_
  rintro e w' ⟨D', AC', cC', AM', cM', rfl, hd⟩
  exact ⟨D', P.give g x, AC', cC', AM', cM', rfl, rfl, hd⟩

theorem give_run_no {W w : World} {S D : Nat → Prop} {p bx : Nat} {P : PoolM} {n : Int} {T : Nat} {m : Int} {AC AM : Option Addr} {cC cM : Nat} (h : Run W w S D p bx P n T m AC cC AM cM) (g x : Int) (hn : ¬ (0 ≤ g ∧ g < (T : Int) ∧ P.live x = true)) :
    Calls Try.prog 52 #[.agg #[.int .i64 n, .int .i64 m, .slice AC P.caches.length cC, .slice AM P.middle.length cM, .int .i64 P.fresh], .int .i64 g, .int .i64 x] w fun e w' => ∃ D' AC' cC' AM' cM',
      e = .returned (.tuple #[.agg #[.int .i64 n, .int .i64 m, .slice AC' P.caches.length cC', .slice AM' P.middle.length cM', .int .i64 P.fresh], .bool false]) ∧ Made W w w' D D' P AC' cC' AM' cM' :=
  give_doc_no h.hold.below h.doc h.hold.right g x n m (by rw [h.hold.takers]; exact hn)

/-- All that is held while the round's last test runs. -/
def RunAt (W w : World) (S D : Nat → Prop) (p bx ab : Nat) (P : PoolM) (n : Int) (T : Nat) (m : Int) (AC : Option Addr) (cC : Nat) (AM : Option Addr) (cM : Nat) (f0 f1 f2 : Int) : Prop :=
  w.cell? ⟨bx, 0, none⟩ = some (.int .i64 n) ∧ w.cell? ⟨bx, 1, none⟩ = some (.int .i64 m) ∧ w.cell? ⟨bx, 2, none⟩ = some (.slice AC P.caches.length cC) ∧ w.cell? ⟨bx, 3, none⟩ = some (.slice AM P.middle.length cM) ∧ w.cell? ⟨bx, 4, none⟩ = some (.int .i64 P.fresh) ∧ w.cell? ⟨ab, 2, none⟩ = some (.int .i64 f2) ∧
    Aside0 (Run W w S D p bx P n T m AC cC AM cM ∧ w.heap[ab]? = some (.cells #[.int .i64 f0, .int .i64 f1, .int .i64 f2] 69 (0, 0)))

section
variable {W w w' : World} {S D : Nat → Prop} {p bx ab : Nat} {P : PoolM} {n : Int} {T : Nat} {m : Int} {AC AM : Option Addr} {cC cM : Nat} {f0 f1 f2 : Int}
theorem RunAt.mk' (h : Run W w S D p bx P n T m AC cC AM cM) (ha : w.heap[ab]? = some (.cells #[.int .i64 f0, .int .i64 f1, .int .i64 f2] 69 (0, 0))) : RunAt W w S D p bx ab P n T m AC cC AM cM f0 f1 f2 :=
  ⟨(blk_cell h.box 0).trans rfl, (blk_cell h.box 1).trans rfl, (blk_cell h.box 2).trans rfl, (blk_cell h.box 3).trans rfl, (blk_cell h.box 4).trans rfl, (blk_cell ha 2).trans rfl, ⟨h, ha⟩⟩

theorem RunAt.run (h : RunAt W w S D p bx ab P n T m AC cC AM cM f0 f1 f2) : Run W w S D p bx P n T m AC cC AM cM := h.2.2.2.2.2.2.out.1

theorem RunAt.step (h : RunAt W w S D p bx ab P n T m AC cC AM cM f0 f1 f2) (hb : Below w.heap.size w w') : RunAt W w' S D p bx ab P n T m AC cC AM cM f0 f1 f2 := RunAt.mk' (h.run.step hb) (blk_below h.2.2.2.2.2.2.out.2 hb)

theorem same_run (h : RunAt W w S D p bx ab P n T m AC cC AM cM f0 f1 f2) :
    Calls Try.prog 53 #[.pointer (some ⟨p, 0, none⟩), .agg #[.int .i64 n, .int .i64 m, .slice AC P.caches.length cC, .slice AM P.middle.length cM, .int .i64 P.fresh]] w fun e w' => e = .returned (.bool true) ∧ RunAt W w' S D p bx ab P n T m AC cC AM cM f0 f1 f2 :=
  (same_pool w _ S p P n m AC AM cC cM h.run.hold.lies h.run.hold.right h.run.doc.rowsC.2 h.run.doc.rowsC.1 h.run.doc.midC.2 h.run.doc.midC.1).mono fun _ _ ⟨he, hb⟩ => ⟨he, h.step hb⟩

theorem live_run (h : RunAt W w S D p bx ab P n T m AC cC AM cM f0 f1 f2) :
    Calls Try.prog 54 #[.pointer (some ⟨p, 0, none⟩), .int .i64 f2] w fun e w' => e = .returned (.bool (P.live f2)) ∧ RunAt W w' S D p bx ab P n T m AC cC AM cM f0 f1 f2 :=
  (live_calls w _ S p P f2 h.run.hold.lies).mono fun _ _ ⟨he, hw⟩ => ⟨he, hw ▸ h⟩

theorem live_run_doc (h : RunAt W w S D p bx ab P n T m AC cC AM cM f0 f1 f2) :
    Calls Try.prog 55 #[.agg #[.int .i64 n, .int .i64 m, .slice AC P.caches.length cC, .slice AM P.middle.length cM, .int .i64 P.fresh], .int .i64 f2] w fun e w' => e = .returned (.bool (P.live f2)) ∧ RunAt W w' S D p bx ab P n T m AC cC AM cM f0 f1 f2 :=
  (live_doc h.run.doc h.run.hold.right f2 n m).mono fun _ _ ⟨he, hb⟩ => ⟨he, h.step hb⟩
end

set_option maxRecDepth 100000 in
set_option maxHeartbeats 8000000 in
theorem walk (W : World) (cs0 : Array Value) (x0 : S62) (K0 : k62.K W x0 cs0.toList) (_g0 : (Lit.int .u8 x0.f0).wf = true ∧ (Lit.int .u8 x0.f1).wf = true ∧ (Lit.int .u8 x0.f2).wf = true)
    (A1 : Option Addr) (c1 : Nat) (l1 : List S69) (hr1 : k69.C W A1 l1.length l1) (hc1 : l1.length ≤ c1) (_g1 : ∀ x ∈ l1, (Lit.int .i64 x.f0).wf = true ∧ (Lit.int .i64 x.f1).wf = true ∧ (Lit.int .i64 x.f2).wf = true) (_y1 : c1 * 24 ≤ 140737488351232) :
    Calls Try.prog 13 #[.agg cs0, .slice A1 l1.length c1] W fun e w' => e = .returned (.bool true) ∧ Below W.heap.size W w' := by
  have hcs := begun_open K0
  obtain rfl : cs0 = #[.int .u8 x0.f0, .int .u8 x0.f1, .int .u8 x0.f2] := by
    cases cs0
    simpa using hcs
  clear hcs K0
  have r0 := u8 _g0.1
  have r1 := u8 _g0.2.1
  have r2 := u8 _g0.2.2
  have hlen : l1.length ≤ 9223372036854775807 := by omega
  have HR := Aside0.mk hr1
  clear _g0 hr1
  go_enter Try.func13, Try.ntmps13
  go_wp2_with fail
  go_at_call 45
  refine (alive_calls _).mono ?_
  rintro e w1 ⟨rfl, b1⟩
  have hbox := blk_below (blk_new W (.cells #[.int .u8 x0.f0, .int .u8 x0.f1, .int .u8 x0.f2] 62)) b1
  have B1 : Aside0 (Below W.heap.size W w1) := ⟨(below_alloc (Below.refl _ _) _).trans (b1.mono (by simp))⟩
  clear b1
  have q0 : w1.cell? ⟨W.heap.size, 0, none⟩ = some (.int .u8 x0.f0) := (blk_cell hbox 0).trans rfl
  have q1 : w1.cell? ⟨W.heap.size, 1, none⟩ = some (.int .u8 x0.f1) := (blk_cell hbox 1).trans rfl
  have q2 : w1.cell? ⟨W.heap.size, 2, none⟩ = some (.int .u8 x0.f2) := (blk_cell hbox 2).trans rfl
  clear hbox
  go_wp2_with fail
  go_at_call 50
  refine (open_calls W w1 B1.out x0.f0 x0.f1 x0.f2 r0 r1 r2).mono ?_
  rintro e w2 ⟨p, S0, c, rfl, h2, hrw2⟩
  obtain ⟨n, hn⟩ : ∃ n : Int, x0.f0 % 30 = n := ⟨_, rfl⟩
  obtain ⟨m, hm⟩ : ∃ m : Int, 1 + x0.f2 % 16 = m := ⟨_, rfl⟩
  obtain ⟨T, hT⟩ := Int.eq_ofNat_of_zero_le (show 0 ≤ x0.f1 % 9 by omega)
  have n0 : 0 ≤ n := by omega
  have n1 : n ≤ 64 := by omega
  have t8 : T ≤ 8 := by omega
  rw [hn, hm, hT] at h2
  rw [hT] at hrw2
  rw [hn, hm, hT]
  simp only [Int.toNat_natCast] at h2 hrw2 ⊢
  clear hn hm hT q0 q1 q2 B1 r0 r1 r2
  have H2 := Aside0.mk h2
  have HRW := Aside0.mk hrw2
  clear h2 hrw2
  by_cases h2 : 200 < (l1.length : Int)
  · have d2 : decide (200 < (l1.length : Int)) = true := decide_eq_true h2
    clear hc1 _y1 hlen
    go_wp2_with fail
    go_ret
    exact ⟨rfl, below_alloc H2.out.below _⟩
  · have d2 : decide (200 < (l1.length : Int)) = false := decide_eq_false h2
    have HL := Aside0.mk (show l1.length ≤ 200 by omega)
    clear hc1 _y1 hlen h2
    have h3 : Run W (w2.alloc (.cells #[.int .i64 n, .int .i64 m, .slice (some ⟨c, 0, none⟩) T T, .slice none 0 0, .int .i64 0] 65)) (fun k => S0 k ∧ k < w2.heap.size) (fun k => ¬ S0 k ∧ k < w2.heap.size) p w2.heap.size (PoolM.new n T m) n T m (some ⟨c, 0, none⟩) T none 0 :=
      { hold := H2.out.bound.step (below_alloc H2.out.below _) (fun k hk hl => Below.heap_alloc w2 _ k hl)
        doc :=
          { rows := by
              have h4 := Kd.R_V (base' := W.heap.size) (Kd.R_bound HRW.out)
              have h5 := Kd.V_mono h4 (ok' := fun k => (¬ S0 k ∧ k < w2.heap.size) ∧ some k ≠ (Value.slice none (PoolM.new n T m).middle.length 0).ownBlock) (fun k hk => ⟨⟨hk.1, hk.2.2.1⟩, by simp [Value.ownBlock]⟩)
              have h6 := Kd.V_alloc h5 (.cells #[.int .i64 n, .int .i64 m, .slice (some ⟨c, 0, none⟩) T T, .slice none 0 0, .int .i64 0] 65)
              simpa [PoolM.new] using h6
            mid := Kd.R_nil _ _ _ _ _
            own := fun k hk => by simp; omega }
        box := (blk_new w2 _).trans (by simp [boxed, PoolM.new])
        sb := fun h => by omega
        db := fun h => by omega
        sd := fun k hk hd => hd.1 hk.1
        lo := H2.out.below.size }
    have H3 := Aside0.mk h3
    have HW2 : Aside0 (W.heap.size ≤ w2.heap.size) := ⟨H2.out.below.size⟩
    clear h3 H2 HRW
    go_wp2_with fail
    go_loopg [37] l1.length (fun kq v37 wr => ∃ (S D : Nat → Prop) (P : PoolM) (AC : Option Addr) (cC : Nat) (AM : Option Addr) (cM : Nat) (i : Int), v37 = .int .i64 i ∧ 0 ≤ i ∧ i ≤ (l1.length : Int) ∧ Aside0 (kq = l1.length - i.toNat) ∧ Aside0 (Run W wr S D p w2.heap.size P n T m AC cC AM cM))
    case atStart => exact ⟨_, _, _, _, _, _, _, 0, rfl, by omega, by omega, ⟨by simp⟩, H3⟩
    case round =>
      clear H3
      obtain ⟨S, D, P, AC, cC, AM, cM, i, rfl, i0, i1, HK, HH⟩ := hrel
      by_cases ci : i < (l1.length : Int)
      · have d1 : decide (i < (l1.length : Int)) = true := decide_eq_true ci
        obtain ⟨a, ha⟩ : ∃ a, l1[i.toNat]? = some a := ⟨_, List.getElem?_eq_getElem (by omega)⟩
        obtain ⟨ad, rfl, hx0, hx1, hx2⟩ := act_at (Kd.C_below HR.out HH.out.hold.below) i.toNat a ha
        have HI := Aside0.mk ci
        clear ha
        go_upto_block 2 with (fail)
        have hbl := blk_lt HH.out.box
        obtain ⟨S1, HH2, HA2⟩ : ∃ S1 : Nat → Prop, Aside0 (Run W (wr.alloc (.cells #[.int .i64 a.f0, .int .i64 a.f1, .int .i64 a.f2] 69)) S1 D p w2.heap.size P n T m AC cC AM cM) ∧ Aside0 ((wr.alloc (.cells #[.int .i64 a.f0, .int .i64 a.f1, .int .i64 a.f2] 69)).heap[wr.heap.size]? = some (.cells #[.int .i64 a.f0, .int .i64 a.f1, .int .i64 a.f2] 69 (0, 0)) ∧ ¬ S1 wr.heap.size ∧ ¬ D wr.heap.size ∧ wr.heap.size ≠ w2.heap.size) :=
          ⟨_, ⟨HH.out.bound.step (below_alloc (Below.refl _ _) _)⟩, ⟨blk_new wr _, fun h => by omega, fun h => by have := HH.out.doc.own _ h; omega, by omega⟩⟩
        clear hx0 hx1 hx2 hbl HH
        generalize (wr.alloc (.cells #[.int .i64 a.f0, .int .i64 a.f1, .int .i64 a.f2] 69)) = w3 at *
        generalize wr.heap.size = ab at *
        generalize w2.heap.size = bx at *
        have ha0 : w3.cell? ⟨ab, 0, none⟩ = some (.int .i64 a.f0) := (blk_cell HA2.out.1 0).trans rfl
        have ha1 : w3.cell? ⟨ab, 1, none⟩ = some (.int .i64 a.f1) := (blk_cell HA2.out.1 1).trans rfl
        have ha2 : w3.cell? ⟨ab, 2, none⟩ = some (.int .i64 a.f2) := (blk_cell HA2.out.1 2).trans rfl
        go_cut [43] (fun _ wc => ∃ (S D : Nat → Prop) (P : PoolM) (AC : Option Addr) (cC : Nat) (AM : Option Addr) (cM : Nat), Aside0 (Run W wc S D p bx P n T m AC cC AM cM) ∧ Aside0 (wc.heap[ab]? = some (.cells #[.int .i64 a.f0, .int .i64 a.f1, .int .i64 a.f2] 69 (0, 0))))
        case first =>
          have hq0 : w3.cell? ⟨bx, 0, none⟩ = some (.int .i64 n) := (blk_cell HH2.out.box 0).trans rfl
          have hq1 : w3.cell? ⟨bx, 1, none⟩ = some (.int .i64 m) := (blk_cell HH2.out.box 1).trans rfl
          have hq2 : w3.cell? ⟨bx, 2, none⟩ = some (.slice AC P.caches.length cC) := (blk_cell HH2.out.box 2).trans rfl
          have hq3 : w3.cell? ⟨bx, 3, none⟩ = some (.slice AM P.middle.length cM) := (blk_cell HH2.out.box 3).trans rfl
          have hq4 : w3.cell? ⟨bx, 4, none⟩ = some (.int .i64 P.fresh) := (blk_cell HH2.out.box 4).trans rfl
          by_cases hk0 : a.f0 = 0
          · have b0 : (a.f0 == 0) = true := by simp [hk0]
            clear hk0
            go_wp2_with fail
            by_cases hg : 0 ≤ a.f1 ∧ a.f1 < (T : Int)
            · obtain ⟨g, hg'⟩ := Int.eq_ofNat_of_zero_le hg.1
              rw [hg']
              have hgT : g < T := by omega
              go_at_call 51
              refine (take_run HH2.out g hgT n0).mono ?_
              rintro e w4 ⟨D4, P4, x, b, AC4, cC4, AM4, cM4, ht, rfl, hmd⟩
              have HT := Aside0.mk ht
              have h4 := after_doc HH2.out hmd (.cells #[.int .i64 n, .int .i64 m, .slice AC4 P4.caches.length cC4, .slice AM4 P4.middle.length cM4, .int .i64 P4.fresh] 65)
              have hlb := Nat.lt_of_lt_of_le (blk_lt HH2.out.box) hmd.size
              have hbx4 := (Below.heap_alloc w4 (.cells #[.int .i64 n, .int .i64 m, .slice AC4 P4.caches.length cC4, .slice AM4 P4.middle.length cM4, .int .i64 P4.fresh] 65) bx hlb).trans ((hmd.kept bx HH2.out.db (blk_lt HH2.out.box)).1.trans HH2.out.box)
              have hbn := blk_new w4 (.cells #[.int .i64 n, .int .i64 m, .slice AC4 P4.caches.length cC4, .slice AM4 P4.middle.length cM4, .int .i64 P4.fresh] 65)
              have hla := Nat.lt_of_lt_of_le (blk_lt HA2.out.1) hmd.size
              have hab4 := (Below.heap_alloc w4 (.cells #[.int .i64 n, .int .i64 m, .slice AC4 P4.caches.length cC4, .slice AM4 P4.middle.length cM4, .int .i64 P4.fresh] 65) ab hla).trans ((hmd.kept ab HA2.out.2.2.1 (blk_lt HA2.out.1)).1.trans HA2.out.1)
              have hne : ¬ (w4.heap.size = bx) := by omega
              have hab1 : ¬ (ab = bx) := HA2.out.2.2.2
              have H4 := Aside0.mk h4
              have HX4 := Aside0.mk hbx4
              have HN4 := Aside0.mk hbn
              have HA4 := Aside0.mk hab4
              clear ht hmd h4 hbn hq0 hq1 hq2 hq3 hq4 ha0 ha1 ha2 hbx4 hab4 hlb hla
              go_upto_region 12 with (fail)
              generalize (w4.alloc (.cells #[.int .i64 n, .int .i64 m, .slice AC4 P4.caches.length cC4, .slice AM4 P4.middle.length cM4, .int .i64 P4.fresh] 65)) = w5 at *
              generalize w4.heap.size = nb at *
              obtain ⟨⟨k0, f0⟩, ⟨k1, f1⟩, ⟨k2, f2⟩, ⟨k3, f3⟩, ⟨k4, f4⟩⟩ := five HX4.out
              obtain ⟨⟨l0, _⟩, ⟨l1', _⟩, ⟨l2, _⟩, ⟨l3, _⟩, ⟨l4, _⟩⟩ := five HN4.out
              have ha1 : w5.cell? ⟨ab, 1, none⟩ = some (.int .i64 a.f1) := (blk_cell HA4.out 1).trans rfl
              go_wp2_with fail
              obtain ⟨hbx6, hm6, hb6, hs6⟩ := store5 (b0 := .int .i64 n) (b1 := .int .i64 m) (b2 := .slice AC4 P4.caches.length cC4) (b3 := .slice AM4 P4.middle.length cM4) (b4 := .int .i64 P4.fresh) HX4.out
              have H6 := Aside0.mk (H4.out.put hm6 (hb6 _ _ H4.out.hold.below H4.out.lo) hs6)
              have HX6 := Aside0.mk hbx6
              have HA6 := Aside0.mk ((hm6 ab hab1).trans HA4.out)
              clear hbx6 hm6 hb6 hs6 k0 k1 k2 k3 k4 f0 f1 f2 f3 f4 l0 l1' l2 l3 l4 ha1 H4 HX4 HN4 HA4
              go_at_call 47
              refine (take_kept H6.out.hold g hgT).mono ?_
              rintro e w7 ⟨S7, P7, x7, b7, rfl, h7, ht7, _, _, _, hkept, hs7⟩
              rw [HT.out] at ht7
              simp only [Option.some.injEq, Prod.mk.injEq] at ht7
              obtain ⟨rfl, rfl, rfl⟩ := ht7
              have H7 := Aside0.mk (H6.out.full h7 hkept HX6.out hs7)
              have HA7 := Aside0.mk ((hkept ab (fun hk => HA2.out.2.1 hk.1) (blk_lt HA6.out)).1.trans HA6.out)
              clear h7 hkept H6 HX6 HA6
              go_wp2_with fail
              go_meet
              case rel => exact ⟨_, _, _, _, _, _, _, H7, HA7⟩
            · go_at_call 51
              refine (take_run_no HH2.out a.f1 hg).mono ?_
              rintro e w4 ⟨D4, AC4, cC4, AM4, cM4, rfl, hmd⟩
              have h4 := after_doc HH2.out hmd (.cells #[.int .i64 n, .int .i64 m, .slice AC4 P.caches.length cC4, .slice AM4 P.middle.length cM4, .int .i64 P.fresh] 65)
              have hlb := Nat.lt_of_lt_of_le (blk_lt HH2.out.box) hmd.size
              have hbx4 := (Below.heap_alloc w4 (.cells #[.int .i64 n, .int .i64 m, .slice AC4 P.caches.length cC4, .slice AM4 P.middle.length cM4, .int .i64 P.fresh] 65) bx hlb).trans ((hmd.kept bx HH2.out.db (blk_lt HH2.out.box)).1.trans HH2.out.box)
              have hbn := blk_new w4 (.cells #[.int .i64 n, .int .i64 m, .slice AC4 P.caches.length cC4, .slice AM4 P.middle.length cM4, .int .i64 P.fresh] 65)
              have hla := Nat.lt_of_lt_of_le (blk_lt HA2.out.1) hmd.size
              have hab4 := (Below.heap_alloc w4 (.cells #[.int .i64 n, .int .i64 m, .slice AC4 P.caches.length cC4, .slice AM4 P.middle.length cM4, .int .i64 P.fresh] 65) ab hla).trans ((hmd.kept ab HA2.out.2.2.1 (blk_lt HA2.out.1)).1.trans HA2.out.1)
              have hne : ¬ (w4.heap.size = bx) := by omega
              have hab1 : ¬ (ab = bx) := HA2.out.2.2.2
              have H4 := Aside0.mk h4
              have HX4 := Aside0.mk hbx4
              have HN4 := Aside0.mk hbn
              have HA4 := Aside0.mk hab4
              clear hmd h4 hbn hq0 hq1 hq2 hq3 hq4 ha0 ha1 ha2 hbx4 hab4 hlb hla
              go_upto_region 12 with (fail)
              generalize (w4.alloc (.cells #[.int .i64 n, .int .i64 m, .slice AC4 P.caches.length cC4, .slice AM4 P.middle.length cM4, .int .i64 P.fresh] 65)) = w5 at *
              generalize w4.heap.size = nb at *
              obtain ⟨⟨k0, f0⟩, ⟨k1, f1⟩, ⟨k2, f2⟩, ⟨k3, f3⟩, ⟨k4, f4⟩⟩ := five HX4.out
              obtain ⟨⟨l0, _⟩, ⟨l1', _⟩, ⟨l2, _⟩, ⟨l3, _⟩, ⟨l4, _⟩⟩ := five HN4.out
              have ha1 : w5.cell? ⟨ab, 1, none⟩ = some (.int .i64 a.f1) := (blk_cell HA4.out 1).trans rfl
              go_wp2_with fail
              obtain ⟨hbx6, hm6, hb6, hs6⟩ := store5 (b0 := .int .i64 n) (b1 := .int .i64 m) (b2 := .slice AC4 P.caches.length cC4) (b3 := .slice AM4 P.middle.length cM4) (b4 := .int .i64 P.fresh) HX4.out
              have H6 := Aside0.mk (H4.out.put hm6 (hb6 _ _ H4.out.hold.below H4.out.lo) hs6)
              have HX6 := Aside0.mk hbx6
              have HA6 := Aside0.mk ((hm6 ab hab1).trans HA4.out)
              clear hbx6 hm6 hb6 hs6 k0 k1 k2 k3 k4 f0 f1 f2 f3 f4 l0 l1' l2 l3 l4 ha1 H4 HX4 HN4 HA4
              go_at_call 47
              refine (take_no p P a.f1 _ _ _ H6.out.hold.lies (by rw [H6.out.hold.takers]; exact hg)).mono ?_
              rintro e w7 ⟨rfl, rfl⟩
              have H7 := Aside0.mk (H6.out.same HX6.out)
              have HA7 := HA6
              clear H6 HX6
              go_wp2_with fail
              go_meet
              case rel => exact ⟨_, _, _, _, _, _, _, H7, HA7⟩
          · have b0 : (a.f0 == 0) = false := by simp [hk0]
            clear hk0
            by_cases hk1 : a.f0 = 1
            · have b1 : (a.f0 == 1) = true := by simp [hk1]
              clear hk1
              go_wp2_with fail
              by_cases hg : 0 ≤ a.f1 ∧ a.f1 < (T : Int) ∧ P.live a.f2 = true
              · obtain ⟨g, hg'⟩ := Int.eq_ofNat_of_zero_le hg.1
                rw [hg']
                have hgT : g < T := by omega
                have hlv := hg.2.2
                go_at_call 52
                refine (give_run HH2.out g a.f2 hgT hlv n0).mono ?_
                rintro e w4 ⟨D4, P4, AC4, cC4, AM4, cM4, ht, rfl, hmd⟩
                have HT := Aside0.mk ht
                have h4 := after_doc HH2.out hmd (.cells #[.int .i64 n, .int .i64 m, .slice AC4 P4.caches.length cC4, .slice AM4 P4.middle.length cM4, .int .i64 P4.fresh] 65)
                have hlb := Nat.lt_of_lt_of_le (blk_lt HH2.out.box) hmd.size
                have hbx4 := (Below.heap_alloc w4 (.cells #[.int .i64 n, .int .i64 m, .slice AC4 P4.caches.length cC4, .slice AM4 P4.middle.length cM4, .int .i64 P4.fresh] 65) bx hlb).trans ((hmd.kept bx HH2.out.db (blk_lt HH2.out.box)).1.trans HH2.out.box)
                have hbn := blk_new w4 (.cells #[.int .i64 n, .int .i64 m, .slice AC4 P4.caches.length cC4, .slice AM4 P4.middle.length cM4, .int .i64 P4.fresh] 65)
                have hla := Nat.lt_of_lt_of_le (blk_lt HA2.out.1) hmd.size
                have hab4 := (Below.heap_alloc w4 (.cells #[.int .i64 n, .int .i64 m, .slice AC4 P4.caches.length cC4, .slice AM4 P4.middle.length cM4, .int .i64 P4.fresh] 65) ab hla).trans ((hmd.kept ab HA2.out.2.2.1 (blk_lt HA2.out.1)).1.trans HA2.out.1)
                have hne : ¬ (w4.heap.size = bx) := by omega
                have hab1 : ¬ (ab = bx) := HA2.out.2.2.2
                have H4 := Aside0.mk h4
                have HX4 := Aside0.mk hbx4
                have HN4 := Aside0.mk hbn
                have HA4 := Aside0.mk hab4
                clear ht hmd h4 hbn hq0 hq1 hq2 hq3 hq4 ha0 ha1 ha2 hbx4 hab4 hlb hla
                go_upto_region 18 with (fail)
                generalize (w4.alloc (.cells #[.int .i64 n, .int .i64 m, .slice AC4 P4.caches.length cC4, .slice AM4 P4.middle.length cM4, .int .i64 P4.fresh] 65)) = w5 at *
                generalize w4.heap.size = nb at *
                obtain ⟨⟨k0, f0⟩, ⟨k1, f1⟩, ⟨k2, f2⟩, ⟨k3, f3⟩, ⟨k4, f4⟩⟩ := five HX4.out
                obtain ⟨⟨l0, _⟩, ⟨l1', _⟩, ⟨l2, _⟩, ⟨l3, _⟩, ⟨l4, _⟩⟩ := five HN4.out
                have ha1 : w5.cell? ⟨ab, 1, none⟩ = some (.int .i64 a.f1) := (blk_cell HA4.out 1).trans rfl
                have ha2 : w5.cell? ⟨ab, 2, none⟩ = some (.int .i64 a.f2) := (blk_cell HA4.out 2).trans rfl
                go_wp2_with fail
                obtain ⟨hbx6, hm6, hb6, hs6⟩ := store5 (b0 := .int .i64 n) (b1 := .int .i64 m) (b2 := .slice AC4 P4.caches.length cC4) (b3 := .slice AM4 P4.middle.length cM4) (b4 := .int .i64 P4.fresh) HX4.out
                have H6 := Aside0.mk (H4.out.put hm6 (hb6 _ _ H4.out.hold.below H4.out.lo) hs6)
                have HX6 := Aside0.mk hbx6
                have HA6 := Aside0.mk ((hm6 ab hab1).trans HA4.out)
                clear hbx6 hm6 hb6 hs6 k0 k1 k2 k3 k4 f0 f1 f2 f3 f4 l0 l1' l2 l3 l4 ha1 ha2 H4 HX4 HN4 HA4
                go_at_call 49
                refine (give_kept H6.out.hold g a.f2 hgT hlv).mono ?_
                rintro e w7 ⟨S7, rfl, h7, _, _, _, hkept, hs7⟩
                rw [← HT.out] at h7
                have H7 := Aside0.mk (H6.out.full h7 hkept HX6.out hs7)
                have HA7 := Aside0.mk ((hkept ab (fun hk => HA2.out.2.1 hk.1) (blk_lt HA6.out)).1.trans HA6.out)
                clear h7 hkept H6 HX6 HA6
                go_wp2_with fail
                go_meet
                case rel => exact ⟨_, _, _, _, _, _, _, H7, HA7⟩
              · go_at_call 52
                refine (give_run_no HH2.out a.f1 a.f2 hg).mono ?_
                rintro e w4 ⟨D4, AC4, cC4, AM4, cM4, rfl, hmd⟩
                have h4 := after_doc HH2.out hmd (.cells #[.int .i64 n, .int .i64 m, .slice AC4 P.caches.length cC4, .slice AM4 P.middle.length cM4, .int .i64 P.fresh] 65)
                have hlb := Nat.lt_of_lt_of_le (blk_lt HH2.out.box) hmd.size
                have hbx4 := (Below.heap_alloc w4 (.cells #[.int .i64 n, .int .i64 m, .slice AC4 P.caches.length cC4, .slice AM4 P.middle.length cM4, .int .i64 P.fresh] 65) bx hlb).trans ((hmd.kept bx HH2.out.db (blk_lt HH2.out.box)).1.trans HH2.out.box)
                have hbn := blk_new w4 (.cells #[.int .i64 n, .int .i64 m, .slice AC4 P.caches.length cC4, .slice AM4 P.middle.length cM4, .int .i64 P.fresh] 65)
                have hla := Nat.lt_of_lt_of_le (blk_lt HA2.out.1) hmd.size
                have hab4 := (Below.heap_alloc w4 (.cells #[.int .i64 n, .int .i64 m, .slice AC4 P.caches.length cC4, .slice AM4 P.middle.length cM4, .int .i64 P.fresh] 65) ab hla).trans ((hmd.kept ab HA2.out.2.2.1 (blk_lt HA2.out.1)).1.trans HA2.out.1)
                have hne : ¬ (w4.heap.size = bx) := by omega
                have hab1 : ¬ (ab = bx) := HA2.out.2.2.2
                have H4 := Aside0.mk h4
                have HX4 := Aside0.mk hbx4
                have HN4 := Aside0.mk hbn
                have HA4 := Aside0.mk hab4
                clear hmd h4 hbn hq0 hq1 hq2 hq3 hq4 ha0 ha1 ha2 hbx4 hab4 hlb hla
                go_upto_region 18 with (fail)
                generalize (w4.alloc (.cells #[.int .i64 n, .int .i64 m, .slice AC4 P.caches.length cC4, .slice AM4 P.middle.length cM4, .int .i64 P.fresh] 65)) = w5 at *
                generalize w4.heap.size = nb at *
                obtain ⟨⟨k0, f0⟩, ⟨k1, f1⟩, ⟨k2, f2⟩, ⟨k3, f3⟩, ⟨k4, f4⟩⟩ := five HX4.out
                obtain ⟨⟨l0, _⟩, ⟨l1', _⟩, ⟨l2, _⟩, ⟨l3, _⟩, ⟨l4, _⟩⟩ := five HN4.out
                have ha1 : w5.cell? ⟨ab, 1, none⟩ = some (.int .i64 a.f1) := (blk_cell HA4.out 1).trans rfl
                have ha2 : w5.cell? ⟨ab, 2, none⟩ = some (.int .i64 a.f2) := (blk_cell HA4.out 2).trans rfl
                go_wp2_with fail
                obtain ⟨hbx6, hm6, hb6, hs6⟩ := store5 (b0 := .int .i64 n) (b1 := .int .i64 m) (b2 := .slice AC4 P.caches.length cC4) (b3 := .slice AM4 P.middle.length cM4) (b4 := .int .i64 P.fresh) HX4.out
                have H6 := Aside0.mk (H4.out.put hm6 (hb6 _ _ H4.out.hold.below H4.out.lo) hs6)
                have HX6 := Aside0.mk hbx6
                have HA6 := Aside0.mk ((hm6 ab hab1).trans HA4.out)
                clear hbx6 hm6 hb6 hs6 k0 k1 k2 k3 k4 f0 f1 f2 f3 f4 l0 l1' l2 l3 l4 ha1 ha2 H4 HX4 HN4 HA4
                go_at_call 49
                refine (give_no p P a.f1 a.f2 _ _ _ H6.out.hold.lies (by rw [H6.out.hold.takers]; exact hg)).mono ?_
                rintro e w7 ⟨rfl, rfl⟩
                have H7 := Aside0.mk (H6.out.same HX6.out)
                have HA7 := HA6
                clear H6 HX6
                go_wp2_with fail
                go_meet
                case rel => exact ⟨_, _, _, _, _, _, _, H7, HA7⟩
            · have b1 : (a.f0 == 1) = false := by simp [hk1]
              clear hk1
              go_wp2_with fail
              go_meet
              case rel => exact ⟨_, _, _, _, _, _, _, HH2, ⟨HA2.out.1⟩⟩
        case rest =>
          clear HH2 HA2 ha0 ha1 ha2
          obtain ⟨S, D, P, AC, cC, AM, cM, HH, HA⟩ := hcut
          go_wp2_with fail
          have h0 : RunAt W wc.drew S D p bx ab P n T m AC cC AM cM a.f0 a.f1 a.f2 := RunAt.mk' (HH.out.step (below_drew (Below.refl _ _))) (blk_drew HA.out)
          go_region_held3 (fun w' => w'.cell? ⟨bx, 0, none⟩ = some (.int .i64 n) ∧ w'.cell? ⟨bx, 1, none⟩ = some (.int .i64 m) ∧ w'.cell? ⟨bx, 2, none⟩ = some (.slice AC P.caches.length cC) ∧ w'.cell? ⟨bx, 3, none⟩ = some (.slice AM P.middle.length cM) ∧ w'.cell? ⟨bx, 4, none⟩ = some (.int .i64 P.fresh) ∧ w'.cell? ⟨ab, 2, none⟩ = some (.int .i64 a.f2) ∧ Aside0 (Run W w' S D p bx P n T m AC cC AM cM ∧ w'.heap[ab]? = some (.cells #[.int .i64 a.f0, .int .i64 a.f1, .int .i64 a.f2] 69 (0, 0)))) (first | exact h0 | (have h_ := (by assumption : RunAt W _ S D p bx ab P n T m AC cC AM cM a.f0 a.f1 a.f2); exact h_))
            (first
              | (go_at_call 53; refine (same_run (W := W) (S := S) (D := D) (p := p) (bx := bx) (ab := ab) (P := P) (n := n) (T := T) (m := m) (AC := AC) (AM := AM) (cC := cC) (cM := cM) (f0 := a.f0) (f1 := a.f1) (f2 := a.f2) ?h1).mono ?_; (case h1 => assumption); rintro e w2 ⟨rfl, h2⟩)
              | (go_at_call 54; refine (live_run (W := W) (S := S) (D := D) (p := p) (bx := bx) (ab := ab) (P := P) (n := n) (T := T) (m := m) (AC := AC) (AM := AM) (cC := cC) (cM := cM) (f0 := a.f0) (f1 := a.f1) (f2 := a.f2) ?h1).mono ?_; (case h1 => assumption); rintro e w2 ⟨rfl, h2⟩)
              | (go_at_call 55; refine (live_run_doc (W := W) (S := S) (D := D) (p := p) (bx := bx) (ab := ab) (P := P) (n := n) (T := T) (m := m) (AC := AC) (AM := AM) (cC := cC) (cM := cM) (f0 := a.f0) (f1 := a.f1) (f2 := a.f2) ?h1).mono ?_; (case h1 => assumption); rintro e w2 ⟨rfl, h2⟩))
          all_goals
            have h_ := (by assumption : RunAt W _ S D p bx ab P n T m AC cC AM cM a.f0 a.f1 a.f2)
            have HR5 := Aside0.mk h_.run
            clear h_
            go_wp2_with fail
            go_roundg (l1.length - (i + 1).toNat)
            case measure => have := HK.out; have := HI.out; omega
            case rel => exact ⟨S, D, P, AC, cC, AM, cM, i + 1, by rw [show wrap64 (i + 1) = i + 1 by unfold wrap64; have := HI.out; have := HL.out; omega], by omega, by have := HI.out; omega, ⟨rfl⟩, HR5⟩
      · have d1 : decide (i < (l1.length : Int)) = false := decide_eq_false ci
        go_wp2_with fail
        go_ret
        exact ⟨rfl, HH.out.hold.below⟩
end Go.Proofs.Ytifajoehlgdgaaa.WalkPoolRuns
