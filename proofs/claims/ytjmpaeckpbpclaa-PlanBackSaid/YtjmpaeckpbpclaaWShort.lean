/- Short words for worlds that come out of another one by draws and new blocks, and for blocks that are known whole. -/
import Derived.Test.YtjmpaeckpbpclaaWWords
import Derived.Test.YtjmpaeckpbpclaaWMore
import Derived.Test.YtjmpaeckpbpclaaWKept
import Derived.Test.YtjmpaeckpbpclaaWApart
import Derived.Test.YtjmpaeckpbpclaaWN
namespace Go.Proofs.YtjmpaeckpbpclaaW.PrintWords
open Go.RowKit
/-- The first world comes out of the second one by draws and new blocks. -/
class WS (w' : World) (w : outParam World) : Prop where
  b : Below w.heap.size w w'
/-- The same, by one of them at least. -/
class WT (w' : World) (w : outParam World) : Prop where
  b : Below w.heap.size w w'
instance (priority := low) WS.same (w : World) : WS w w := ⟨Below.refl _ _⟩
instance WS.more {w' w : World} [h : WT w' w] : WS w' w := ⟨h.b⟩
instance WT.al {w' w : World} [h : WS w' w] (o : Obj) : WT (w'.alloc o) w := ⟨below_alloc h.b o⟩
instance WT.dr {w' w : World} [h : WS w' w] : WT w'.drew w := ⟨below_drew h.b⟩
instance WT.dn {w' w : World} [h : WS w' w] (n : Nat) : WT (w'.drewN n) w := ⟨pw_below_drewN h.b n⟩
theorem below_w {w0 w w' : World} [k : WS w' w] (h : Below w0.heap.size w0 w) : Below w0.heap.size w0 w' := below_step h k.b
theorem below_t {w0 w w' : World} [k : WT w' w] (h : Below w0.heap.size w0 w) : Below w0.heap.size w0 w' := below_step h k.b
theorem blk_w {w w' : World} [k : WS w' w] {g : Nat} {o : Obj} (h : w.heap[g]? = some o) : w'.heap[g]? = some o := blk_below h k.b
theorem keep_t {w0 w w' : World} [k : WT w' w] {g : Nat} (h : KeepBut w0 w g none) : KeepBut w0 w' g none := KeepBut.trans h (KeepBut.of_below k.b g none) (.inl rfl)
theorem kept_t {w0 w w' : World} {S : Nat → Prop} [k : WT w' w] (h : Kept w0 w S) : Kept w0 w' S := Kept.below h k.b
namespace Kd
variable {α : Type} {d : Kd α} {e : TypeId} {w w' : World} {base : Nat} {ok : Nat → Prop} {v : Value} {xs : List α}
theorem R_w [k : WS w' w] (h : Kd.R d e w base ok v xs) : Kd.R d e w' base ok v xs := R_below h k.b
theorem S_w [k : WS w' w] (h : Kd.S d e w base ok v xs) : Kd.S d e w' base ok v xs := S_below h k.b
theorem C_w [k : WS w' w] {A : Option Addr} {n : Nat} (h : Kd.C d w A n xs) : Kd.C d w' A n xs := C_below h k.b
end Kd
theorem blk3 {w : World} {g : Nat} {t : TypeId} {a0 a1 a2 : Value} (h : w.heap[g]? = some (.cells #[a0, a1, a2] t (0, 0))) : w.cell? ⟨g, 0, none⟩ = some a0 ∧ w.cell? ⟨g, 1, none⟩ = some a1 ∧ w.cell? ⟨g, 2, none⟩ = some a2 ∧ w.frozen? ⟨g, 0, none⟩ = false ∧ w.frozen? ⟨g, 1, none⟩ = false ∧ w.frozen? ⟨g, 2, none⟩ = false :=
  ⟨blk_cell h 0, blk_cell h 1, blk_cell h 2, blk_frozen h 0, blk_frozen h 1, blk_frozen h 2⟩
theorem blk4 {w : World} {g : Nat} {t : TypeId} {a0 a1 a2 a3 : Value} (h : w.heap[g]? = some (.cells #[a0, a1, a2, a3] t (0, 0))) : w.cell? ⟨g, 0, none⟩ = some a0 ∧ w.cell? ⟨g, 1, none⟩ = some a1 ∧ w.cell? ⟨g, 2, none⟩ = some a2 ∧ w.cell? ⟨g, 3, none⟩ = some a3 ∧ w.frozen? ⟨g, 0, none⟩ = false ∧ w.frozen? ⟨g, 1, none⟩ = false ∧ w.frozen? ⟨g, 2, none⟩ = false ∧ w.frozen? ⟨g, 3, none⟩ = false :=
  ⟨blk_cell h 0, blk_cell h 1, blk_cell h 2, blk_cell h 3, blk_frozen h 0, blk_frozen h 1, blk_frozen h 2, blk_frozen h 3⟩
theorem blk6 {w : World} {g : Nat} {t : TypeId} {a0 a1 a2 a3 a4 a5 : Value} (h : w.heap[g]? = some (.cells #[a0, a1, a2, a3, a4, a5] t (0, 0))) : w.cell? ⟨g, 0, none⟩ = some a0 ∧ w.cell? ⟨g, 1, none⟩ = some a1 ∧ w.cell? ⟨g, 2, none⟩ = some a2 ∧ w.cell? ⟨g, 3, none⟩ = some a3 ∧ w.cell? ⟨g, 4, none⟩ = some a4 ∧ w.cell? ⟨g, 5, none⟩ = some a5 ∧ w.frozen? ⟨g, 0, none⟩ = false ∧ w.frozen? ⟨g, 1, none⟩ = false ∧ w.frozen? ⟨g, 2, none⟩ = false ∧ w.frozen? ⟨g, 3, none⟩ = false ∧ w.frozen? ⟨g, 4, none⟩ = false ∧ w.frozen? ⟨g, 5, none⟩ = false :=
  ⟨blk_cell h 0, blk_cell h 1, blk_cell h 2, blk_cell h 3, blk_cell h 4, blk_cell h 5, blk_frozen h 0, blk_frozen h 1, blk_frozen h 2, blk_frozen h 3, blk_frozen h 4, blk_frozen h 5⟩
end Go.Proofs.YtjmpaeckpbpclaaW.PrintWords
