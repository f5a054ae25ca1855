/-
  No cell of these rows narrows 'for every input' (looked for: loops, veiled, ifaces, maps, wideKeys, modest, calm, conditions, laid).
  DERIVED. THE GIVEN ROWS OF THIS SEAT. 12 by the template 'for every input the law returns true; each argument reads behind the call as it read before'; 0 by the template 'total and deterministic' (their statements: YtifajoehlgdgaaaTotals.lean).
  GIVEN WITH THE SEED: the statements are not yours to turn. If you find one false, say at which input.
  Laid BY PROGRAM, IN A SANDBOX (cutbox-rows.mjs): the forced cells as the released guide's own fill.sh prints them over the translation 802c8553a3f5bfd7… (all of the seat's roots in one cut). By AI agents, Wed Nov 11 2026. No macro, syntax, notation, axiom, sorry.
-/
import Derived.Test.YtifajoehlgdgaaaChecked
import GoSem.Claim
import GoSem.ClaimJoined
import GoSem.ClaimMapViews
import Derived.JoinedTies
import Derived.KernelRfl
namespace Go.Proofs.Ytifajoehlgdgaaa
/- THE CELL 'sum', in the pinned program and in every row, IS THE sha256 OF THE DUMP (.gsa) THAT YtifajoehlgdgaaaProg.lean LOADS. Nothing in Lean hashes anything: it is a label: what it is worth is what the hold of that sum in a sandbox is worth. -/
noncomputable def Try.pinned : Pinned := { name := "ytifajoehlgdgaaa", sum := "802c8553a3f5bfd7894100d18fa9b76df81d90256cafec83be8d92639d52a2e5", checked := Try.checked }
namespace Rows
def none {H : Type} : Left H := { results := [], args := [] }

/-- 'handofflaw02.ShuffleAll': WHATEVER THE INPUT: true; the input reads as it did. -/
def shuffleAllSpec : ChangeSpec := { name := "shuffleAll", fn := fun _ => fun
  | [d] => { results := [.lit (.bool true)], args := [d] }
  | _ => none }
def shuffleAllRow : OpenClaim := { program := "ytifajoehlgdgaaa", sum := "802c8553a3f5bfd7894100d18fa9b76df81d90256cafec83be8d92639d52a2e5", func := "handoff/handofflaw02.ShuffleAll", spec := "shuffleAll", recurses := true, apart := false }
def ShuffleAllSaid : Prop := shuffleAllRow.holds Try.pinned (OpenSpec.ofChange shuffleAllSpec)

/-- ITS FALSE NEIGHBOUR: 'it returns false'. Refute it at one input. -/
def shuffleAllWrong : ChangeSpec := { name := "shuffleAll", fn := fun _ => fun
  | [d] => { results := [.lit (.bool false)], args := [d] }
  | _ => none }
def ShuffleAllWrongFalsely : Prop := shuffleAllRow.holds Try.pinned (OpenSpec.ofChange shuffleAllWrong)

/-- 'handofflaw02.ShuffleFirsts': WHATEVER THE INPUT: true; the input reads as it did. -/
def shuffleFirstsSpec : ChangeSpec := { name := "shuffleFirsts", fn := fun _ => fun
  | [d1, d2] => { results := [.lit (.bool true)], args := [d1, d2] }
  | _ => none }
def shuffleFirstsRow : OpenClaim := { program := "ytifajoehlgdgaaa", sum := "802c8553a3f5bfd7894100d18fa9b76df81d90256cafec83be8d92639d52a2e5", func := "handoff/handofflaw02.ShuffleFirsts", spec := "shuffleFirsts", apart := false }
def ShuffleFirstsSaid : Prop := shuffleFirstsRow.holds Try.pinned (OpenSpec.ofChange shuffleFirstsSpec)

/-- ITS FALSE NEIGHBOUR: 'it returns false'. Refute it at one input. -/
def shuffleFirstsWrong : ChangeSpec := { name := "shuffleFirsts", fn := fun _ => fun
  | [d1, d2] => { results := [.lit (.bool false)], args := [d1, d2] }
  | _ => none }
def ShuffleFirstsWrongFalsely : Prop := shuffleFirstsRow.holds Try.pinned (OpenSpec.ofChange shuffleFirstsWrong)

/-- 'handofflaw02.ShuffleFair': WHATEVER THE INPUT: true; the input reads as it did. -/
def shuffleFairSpec : ChangeSpec := { name := "shuffleFair", fn := fun _ => fun
  | [d] => { results := [.lit (.bool true)], args := [d] }
  | _ => none }
def shuffleFairRow : OpenClaim := { program := "ytifajoehlgdgaaa", sum := "802c8553a3f5bfd7894100d18fa9b76df81d90256cafec83be8d92639d52a2e5", func := "handoff/handofflaw02.ShuffleFair", spec := "shuffleFair", recurses := true, apart := false }
def ShuffleFairSaid : Prop := shuffleFairRow.holds Try.pinned (OpenSpec.ofChange shuffleFairSpec)

/-- ITS FALSE NEIGHBOUR: 'it returns false'. Refute it at one input. -/
def shuffleFairWrong : ChangeSpec := { name := "shuffleFair", fn := fun _ => fun
  | [d] => { results := [.lit (.bool false)], args := [d] }
  | _ => none }
def ShuffleFairWrongFalsely : Prop := shuffleFairRow.holds Try.pinned (OpenSpec.ofChange shuffleFairWrong)

/-- 'handofflaw02.ShuffleOrders': WHATEVER THE INPUT: true; the input reads as it did. -/
def shuffleOrdersSpec : ChangeSpec := { name := "shuffleOrders", fn := fun _ => fun
  | [d1, d2, d3] => { results := [.lit (.bool true)], args := [d1, d2, d3] }
  | _ => none }
def shuffleOrdersRow : OpenClaim := { program := "ytifajoehlgdgaaa", sum := "802c8553a3f5bfd7894100d18fa9b76df81d90256cafec83be8d92639d52a2e5", func := "handoff/handofflaw02.ShuffleOrders", spec := "shuffleOrders", recurses := true, apart := false }
def ShuffleOrdersSaid : Prop := shuffleOrdersRow.holds Try.pinned (OpenSpec.ofChange shuffleOrdersSpec)

/-- ITS FALSE NEIGHBOUR: 'it returns false'. Refute it at one input. -/
def shuffleOrdersWrong : ChangeSpec := { name := "shuffleOrders", fn := fun _ => fun
  | [d1, d2, d3] => { results := [.lit (.bool false)], args := [d1, d2, d3] }
  | _ => none }
def ShuffleOrdersWrongFalsely : Prop := shuffleOrdersRow.holds Try.pinned (OpenSpec.ofChange shuffleOrdersWrong)

/-- 'handofflaw02.ShuffleBack': WHATEVER THE INPUT: true; the input reads as it did. -/
def shuffleBackSpec : ChangeSpec := { name := "shuffleBack", fn := fun _ => fun
  | [d] => { results := [.lit (.bool true)], args := [d] }
  | _ => none }
def shuffleBackRow : OpenClaim := { program := "ytifajoehlgdgaaa", sum := "802c8553a3f5bfd7894100d18fa9b76df81d90256cafec83be8d92639d52a2e5", func := "handoff/handofflaw02.ShuffleBack", spec := "shuffleBack", apart := false }
def ShuffleBackSaid : Prop := shuffleBackRow.holds Try.pinned (OpenSpec.ofChange shuffleBackSpec)

/-- ITS FALSE NEIGHBOUR: 'it returns false'. Refute it at one input. -/
def shuffleBackWrong : ChangeSpec := { name := "shuffleBack", fn := fun _ => fun
  | [d] => { results := [.lit (.bool false)], args := [d] }
  | _ => none }
def ShuffleBackWrongFalsely : Prop := shuffleBackRow.holds Try.pinned (OpenSpec.ofChange shuffleBackWrong)

/-- 'handofflaw03.OrderLocks': WHATEVER THE INPUT: true; the input reads as it did. -/
def orderLocksSpec : ChangeSpec := { name := "orderLocks", fn := fun _ => fun
  | [d] => { results := [.lit (.bool true)], args := [d] }
  | _ => none }
def orderLocksRow : OpenClaim := { program := "ytifajoehlgdgaaa", sum := "802c8553a3f5bfd7894100d18fa9b76df81d90256cafec83be8d92639d52a2e5", func := "handoff/handofflaw03.OrderLocks", spec := "orderLocks", apart := false }
def OrderLocksSaid : Prop := orderLocksRow.holds Try.pinned (OpenSpec.ofChange orderLocksSpec)

/-- ITS FALSE NEIGHBOUR: 'it returns false'. Refute it at one input. -/
def orderLocksWrong : ChangeSpec := { name := "orderLocks", fn := fun _ => fun
  | [d] => { results := [.lit (.bool false)], args := [d] }
  | _ => none }
def OrderLocksWrongFalsely : Prop := orderLocksRow.holds Try.pinned (OpenSpec.ofChange orderLocksWrong)

/-- 'handofflaw03.OrderSorts': WHATEVER THE INPUT: true; the input reads as it did. -/
def orderSortsSpec : ChangeSpec := { name := "orderSorts", fn := fun _ => fun
  | [d] => { results := [.lit (.bool true)], args := [d] }
  | _ => none }
def orderSortsRow : OpenClaim := { program := "ytifajoehlgdgaaa", sum := "802c8553a3f5bfd7894100d18fa9b76df81d90256cafec83be8d92639d52a2e5", func := "handoff/handofflaw03.OrderSorts", spec := "orderSorts", apart := false }
def OrderSortsSaid : Prop := orderSortsRow.holds Try.pinned (OpenSpec.ofChange orderSortsSpec)

/-- ITS FALSE NEIGHBOUR: 'it returns false'. Refute it at one input. -/
def orderSortsWrong : ChangeSpec := { name := "orderSorts", fn := fun _ => fun
  | [d] => { results := [.lit (.bool false)], args := [d] }
  | _ => none }
def OrderSortsWrongFalsely : Prop := orderSortsRow.holds Try.pinned (OpenSpec.ofChange orderSortsWrong)

/-- 'handofflaw03.OrderKeeps': WHATEVER THE INPUT: true; the input reads as it did. -/
def orderKeepsSpec : ChangeSpec := { name := "orderKeeps", fn := fun _ => fun
  | [d1, d2] => { results := [.lit (.bool true)], args := [d1, d2] }
  | _ => none }
def orderKeepsRow : OpenClaim := { program := "ytifajoehlgdgaaa", sum := "802c8553a3f5bfd7894100d18fa9b76df81d90256cafec83be8d92639d52a2e5", func := "handoff/handofflaw03.OrderKeeps", spec := "orderKeeps", apart := false }
def OrderKeepsSaid : Prop := orderKeepsRow.holds Try.pinned (OpenSpec.ofChange orderKeepsSpec)

/-- ITS FALSE NEIGHBOUR: 'it returns false'. Refute it at one input. -/
def orderKeepsWrong : ChangeSpec := { name := "orderKeeps", fn := fun _ => fun
  | [d1, d2] => { results := [.lit (.bool false)], args := [d1, d2] }
  | _ => none }
def OrderKeepsWrongFalsely : Prop := orderKeepsRow.holds Try.pinned (OpenSpec.ofChange orderKeepsWrong)

/-- 'handofflaw23.FairTells': WHATEVER THE INPUT: true; the input reads as it did. -/
def fairTellsSpec : ChangeSpec := { name := "fairTells", fn := fun _ => fun
  | [d1, d2, d3] => { results := [.lit (.bool true)], args := [d1, d2, d3] }
  | _ => none }
def fairTellsRow : OpenClaim := { program := "ytifajoehlgdgaaa", sum := "802c8553a3f5bfd7894100d18fa9b76df81d90256cafec83be8d92639d52a2e5", func := "handoff/handofflaw23.FairTells", spec := "fairTells", unfollowed := true, recurses := true, apart := false }
def FairTellsSaid : Prop := fairTellsRow.holds Try.pinned (OpenSpec.ofChange fairTellsSpec)

/-- ITS FALSE NEIGHBOUR: 'it returns false'. Refute it at one input. -/
def fairTellsWrong : ChangeSpec := { name := "fairTells", fn := fun _ => fun
  | [d1, d2, d3] => { results := [.lit (.bool false)], args := [d1, d2, d3] }
  | _ => none }
def FairTellsWrongFalsely : Prop := fairTellsRow.holds Try.pinned (OpenSpec.ofChange fairTellsWrong)

/-- 'handofflaw05.PoolAll': WHATEVER THE INPUT: true; the input reads as it did. -/
def poolAllSpec : ChangeSpec := { name := "poolAll", fn := fun _ => fun
  | [d1, d2, d3] => { results := [.lit (.bool true)], args := [d1, d2, d3] }
  | _ => none }
def poolAllRow : OpenClaim := { program := "ytifajoehlgdgaaa", sum := "802c8553a3f5bfd7894100d18fa9b76df81d90256cafec83be8d92639d52a2e5", func := "handoff/handofflaw05.PoolAll", spec := "poolAll", apart := false }
def PoolAllSaid : Prop := poolAllRow.holds Try.pinned (OpenSpec.ofChange poolAllSpec)

/-- ITS FALSE NEIGHBOUR: 'it returns false'. Refute it at one input. -/
def poolAllWrong : ChangeSpec := { name := "poolAll", fn := fun _ => fun
  | [d1, d2, d3] => { results := [.lit (.bool false)], args := [d1, d2, d3] }
  | _ => none }
def PoolAllWrongFalsely : Prop := poolAllRow.holds Try.pinned (OpenSpec.ofChange poolAllWrong)

/-- 'handofflaw05.PoolRuns': WHATEVER THE INPUT: true; the input reads as it did. -/
def poolRunsSpec : ChangeSpec := { name := "poolRuns", fn := fun _ => fun
  | [d1, d2] => { results := [.lit (.bool true)], args := [d1, d2] }
  | _ => none }
def poolRunsRow : OpenClaim := { program := "ytifajoehlgdgaaa", sum := "802c8553a3f5bfd7894100d18fa9b76df81d90256cafec83be8d92639d52a2e5", func := "handoff/handofflaw05.PoolRuns", spec := "poolRuns", apart := false }
def PoolRunsSaid : Prop := poolRunsRow.holds Try.pinned (OpenSpec.ofChange poolRunsSpec)

/-- ITS FALSE NEIGHBOUR: 'it returns false'. Refute it at one input. -/
def poolRunsWrong : ChangeSpec := { name := "poolRuns", fn := fun _ => fun
  | [d1, d2] => { results := [.lit (.bool false)], args := [d1, d2] }
  | _ => none }
def PoolRunsWrongFalsely : Prop := poolRunsRow.holds Try.pinned (OpenSpec.ofChange poolRunsWrong)

/-- 'handofflaw05.PoolOnce': WHATEVER THE INPUT: true; the input reads as it did. -/
def poolOnceSpec : ChangeSpec := { name := "poolOnce", fn := fun _ => fun
  | [d1, d2] => { results := [.lit (.bool true)], args := [d1, d2] }
  | _ => none }
def poolOnceRow : OpenClaim := { program := "ytifajoehlgdgaaa", sum := "802c8553a3f5bfd7894100d18fa9b76df81d90256cafec83be8d92639d52a2e5", func := "handoff/handofflaw05.PoolOnce", spec := "poolOnce", apart := false }
def PoolOnceSaid : Prop := poolOnceRow.holds Try.pinned (OpenSpec.ofChange poolOnceSpec)

/-- ITS FALSE NEIGHBOUR: 'it returns false'. Refute it at one input. -/
def poolOnceWrong : ChangeSpec := { name := "poolOnce", fn := fun _ => fun
  | [d1, d2] => { results := [.lit (.bool false)], args := [d1, d2] }
  | _ => none }
def PoolOnceWrongFalsely : Prop := poolOnceRow.holds Try.pinned (OpenSpec.ofChange poolOnceWrong)

/- THE SECOND FORM. 'bulk': how many values and letters a reading holds, each counted each time it is reached (what is shared counts as often as it is met; a slice's spare places count too). A statement '..UptoSaid' is the law's where the arguments, and the package variables that the reading takes, are together of bulk at most 1048576: NARROWER than '..Said'. Prove '..Said' where nothing that the law and all that it calls make is longer than what came in: it says more and counts as full. Else prove '..UptoSaid'. A law counts once. -/
mutual
def uptoBulk {H : Type} : DataW H → Nat
  | .lit (.string bytes) => bytes.length + 1
  | .lit _ => 1
  | .nil => 1
  | .ptr d => uptoBulk d + 1
  | .slice elems spare => uptoBulkAll elems + uptoBulkAll spare + 1
  | .agg parts => uptoBulkAll parts + 1
  | .iface _ d => uptoBulk d + 1
  | .map entries => uptoBulkEntries entries + 1
  | .held _ => 1
def uptoBulkAll {H : Type} : List (DataW H) → Nat
  | [] => 0
  | d :: r => uptoBulk d + uptoBulkAll r
def uptoBulkEntries {H : Type} : List (Lit × DataW H) → Nat
  | [] => 0
  | x :: r => uptoBulkEntry x + uptoBulkEntries r
def uptoBulkEntry {H : Type} : Lit × DataW H → Nat
  | (.string bytes, d) => bytes.length + uptoBulk d + 1
  | (_, d) => uptoBulk d + 1
 end
def uptoSmall : (H : Type) → List (DataW H) → Bool := fun _ ds => decide (uptoBulkAll ds ≤ 1048576)
def OpenSpec.upto (s : _root_.Go.ChangeSpec) : _root_.Go.OpenSpec := { _root_.Go.OpenSpec.ofChange s with cond := some uptoSmall }

/-- 'handofflaw02.ShuffleAll', WHERE WHAT IT READS IS OF BULK AT MOST 1048576: true; the input reads as it did. -/
def shuffleAllUptoRow : OpenClaim := { program := "ytifajoehlgdgaaa", sum := "802c8553a3f5bfd7894100d18fa9b76df81d90256cafec83be8d92639d52a2e5", func := "handoff/handofflaw02.ShuffleAll", spec := "shuffleAll", recurses := true, apart := false, narrowed := true }
def ShuffleAllUptoSaid : Prop := shuffleAllUptoRow.holds Try.pinned (OpenSpec.upto shuffleAllSpec)

/-- 'handofflaw02.ShuffleFirsts', WHERE WHAT IT READS IS OF BULK AT MOST 1048576: true; the input reads as it did. -/
def shuffleFirstsUptoRow : OpenClaim := { program := "ytifajoehlgdgaaa", sum := "802c8553a3f5bfd7894100d18fa9b76df81d90256cafec83be8d92639d52a2e5", func := "handoff/handofflaw02.ShuffleFirsts", spec := "shuffleFirsts", apart := false, narrowed := true }
def ShuffleFirstsUptoSaid : Prop := shuffleFirstsUptoRow.holds Try.pinned (OpenSpec.upto shuffleFirstsSpec)

/-- 'handofflaw02.ShuffleFair', WHERE WHAT IT READS IS OF BULK AT MOST 1048576: true; the input reads as it did. -/
def shuffleFairUptoRow : OpenClaim := { program := "ytifajoehlgdgaaa", sum := "802c8553a3f5bfd7894100d18fa9b76df81d90256cafec83be8d92639d52a2e5", func := "handoff/handofflaw02.ShuffleFair", spec := "shuffleFair", recurses := true, apart := false, narrowed := true }
def ShuffleFairUptoSaid : Prop := shuffleFairUptoRow.holds Try.pinned (OpenSpec.upto shuffleFairSpec)

/-- 'handofflaw02.ShuffleOrders', WHERE WHAT IT READS IS OF BULK AT MOST 1048576: true; the input reads as it did. -/
def shuffleOrdersUptoRow : OpenClaim := { program := "ytifajoehlgdgaaa", sum := "802c8553a3f5bfd7894100d18fa9b76df81d90256cafec83be8d92639d52a2e5", func := "handoff/handofflaw02.ShuffleOrders", spec := "shuffleOrders", recurses := true, apart := false, narrowed := true }
def ShuffleOrdersUptoSaid : Prop := shuffleOrdersUptoRow.holds Try.pinned (OpenSpec.upto shuffleOrdersSpec)

/-- 'handofflaw02.ShuffleBack', WHERE WHAT IT READS IS OF BULK AT MOST 1048576: true; the input reads as it did. -/
def shuffleBackUptoRow : OpenClaim := { program := "ytifajoehlgdgaaa", sum := "802c8553a3f5bfd7894100d18fa9b76df81d90256cafec83be8d92639d52a2e5", func := "handoff/handofflaw02.ShuffleBack", spec := "shuffleBack", apart := false, narrowed := true }
def ShuffleBackUptoSaid : Prop := shuffleBackUptoRow.holds Try.pinned (OpenSpec.upto shuffleBackSpec)

/-- 'handofflaw03.OrderLocks', WHERE WHAT IT READS IS OF BULK AT MOST 1048576: true; the input reads as it did. -/
def orderLocksUptoRow : OpenClaim := { program := "ytifajoehlgdgaaa", sum := "802c8553a3f5bfd7894100d18fa9b76df81d90256cafec83be8d92639d52a2e5", func := "handoff/handofflaw03.OrderLocks", spec := "orderLocks", apart := false, narrowed := true }
def OrderLocksUptoSaid : Prop := orderLocksUptoRow.holds Try.pinned (OpenSpec.upto orderLocksSpec)

/-- 'handofflaw03.OrderSorts', WHERE WHAT IT READS IS OF BULK AT MOST 1048576: true; the input reads as it did. -/
def orderSortsUptoRow : OpenClaim := { program := "ytifajoehlgdgaaa", sum := "802c8553a3f5bfd7894100d18fa9b76df81d90256cafec83be8d92639d52a2e5", func := "handoff/handofflaw03.OrderSorts", spec := "orderSorts", apart := false, narrowed := true }
def OrderSortsUptoSaid : Prop := orderSortsUptoRow.holds Try.pinned (OpenSpec.upto orderSortsSpec)

/-- 'handofflaw03.OrderKeeps', WHERE WHAT IT READS IS OF BULK AT MOST 1048576: true; the input reads as it did. -/
def orderKeepsUptoRow : OpenClaim := { program := "ytifajoehlgdgaaa", sum := "802c8553a3f5bfd7894100d18fa9b76df81d90256cafec83be8d92639d52a2e5", func := "handoff/handofflaw03.OrderKeeps", spec := "orderKeeps", apart := false, narrowed := true }
def OrderKeepsUptoSaid : Prop := orderKeepsUptoRow.holds Try.pinned (OpenSpec.upto orderKeepsSpec)

/-- 'handofflaw23.FairTells', WHERE WHAT IT READS IS OF BULK AT MOST 1048576: true; the input reads as it did. -/
def fairTellsUptoRow : OpenClaim := { program := "ytifajoehlgdgaaa", sum := "802c8553a3f5bfd7894100d18fa9b76df81d90256cafec83be8d92639d52a2e5", func := "handoff/handofflaw23.FairTells", spec := "fairTells", unfollowed := true, recurses := true, apart := false, narrowed := true }
def FairTellsUptoSaid : Prop := fairTellsUptoRow.holds Try.pinned (OpenSpec.upto fairTellsSpec)

/-- 'handofflaw05.PoolAll', WHERE WHAT IT READS IS OF BULK AT MOST 1048576: true; the input reads as it did. -/
def poolAllUptoRow : OpenClaim := { program := "ytifajoehlgdgaaa", sum := "802c8553a3f5bfd7894100d18fa9b76df81d90256cafec83be8d92639d52a2e5", func := "handoff/handofflaw05.PoolAll", spec := "poolAll", apart := false, narrowed := true }
def PoolAllUptoSaid : Prop := poolAllUptoRow.holds Try.pinned (OpenSpec.upto poolAllSpec)

/-- 'handofflaw05.PoolRuns', WHERE WHAT IT READS IS OF BULK AT MOST 1048576: true; the input reads as it did. -/
def poolRunsUptoRow : OpenClaim := { program := "ytifajoehlgdgaaa", sum := "802c8553a3f5bfd7894100d18fa9b76df81d90256cafec83be8d92639d52a2e5", func := "handoff/handofflaw05.PoolRuns", spec := "poolRuns", apart := false, narrowed := true }
def PoolRunsUptoSaid : Prop := poolRunsUptoRow.holds Try.pinned (OpenSpec.upto poolRunsSpec)

/-- 'handofflaw05.PoolOnce', WHERE WHAT IT READS IS OF BULK AT MOST 1048576: true; the input reads as it did. -/
def poolOnceUptoRow : OpenClaim := { program := "ytifajoehlgdgaaa", sum := "802c8553a3f5bfd7894100d18fa9b76df81d90256cafec83be8d92639d52a2e5", func := "handoff/handofflaw05.PoolOnce", spec := "poolOnce", apart := false, narrowed := true }
def PoolOnceUptoSaid : Prop := poolOnceUptoRow.holds Try.pinned (OpenSpec.upto poolOnceSpec)

end Rows
end Go.Proofs.Ytifajoehlgdgaaa
