/-
  No cell of these rows narrows 'for every input' (looked for: loops, veiled, ifaces, maps, wideKeys, modest, calm, conditions, laid).
  DERIVED. THE GIVEN ROWS OF THIS SEAT. 9 by the template 'for every input the law returns true; each argument reads behind the call as it read before'; 0 by the template 'total and deterministic' (their statements: YtjmpaeckpbpclaaTotals.lean).
  GIVEN WITH THE SEED: the statements are not yours to turn. If you find one false, say at which input.
  Laid BY PROGRAM, IN A SANDBOX (cutbox-rows.mjs): the forced cells as the released guide's own fill.sh prints them over the translation f24587938a7ec3d1… (all of the seat's roots in one cut). By AI agents, Wed Nov 11 2026. No macro, syntax, notation, axiom, sorry.
-/
import Derived.Test.YtjmpaeckpbpclaaChecked
import GoSem.Claim
import GoSem.ClaimJoined
import GoSem.ClaimMapViews
import Derived.JoinedTies
import Derived.KernelRfl
namespace Go.Proofs.Ytjmpaeckpbpclaa
/- THE CELL 'sum', in the pinned program and in every row, IS THE sha256 OF THE DUMP (.gsa) THAT YtjmpaeckpbpclaaProg.lean LOADS. Nothing in Lean hashes anything: it is a label: what it is worth is what the hold of that sum in a sandbox is worth. -/
noncomputable def Try.pinned : Pinned := { name := "ytjmpaeckpbpclaa", sum := "f24587938a7ec3d192f2b3bd4bee71685c6b480d70db50b97be638560c46e65c", checked := Try.checked }
namespace Rows
def none {H : Type} : Left H := { results := [], args := [] }

/-- 'handofflaw05.PoolNew': WHATEVER THE INPUT: true; the input reads as it did. -/
def poolNewSpec : ChangeSpec := { name := "poolNew", fn := fun _ => fun
  | [d1, d2] => { results := [.lit (.bool true)], args := [d1, d2] }
  | _ => none }
def poolNewRow : OpenClaim := { program := "ytjmpaeckpbpclaa", sum := "f24587938a7ec3d192f2b3bd4bee71685c6b480d70db50b97be638560c46e65c", func := "handoff/handofflaw05.PoolNew", spec := "poolNew", apart := false }
def PoolNewSaid : Prop := poolNewRow.holds Try.pinned (OpenSpec.ofChange poolNewSpec)

/-- ITS FALSE NEIGHBOUR: 'it returns false'. Refute it at one input. -/
def poolNewWrong : ChangeSpec := { name := "poolNew", fn := fun _ => fun
  | [d1, d2] => { results := [.lit (.bool false)], args := [d1, d2] }
  | _ => none }
def PoolNewWrongFalsely : Prop := poolNewRow.holds Try.pinned (OpenSpec.ofChange poolNewWrong)

/-- 'handofflaw10.PlanChecks': WHATEVER THE INPUT: true; the input reads as it did. -/
def planChecksSpec : ChangeSpec := { name := "planChecks", fn := fun _ => fun
  | [d1, d2] => { results := [.lit (.bool true)], args := [d1, d2] }
  | _ => none }
def planChecksRow : OpenClaim := { program := "ytjmpaeckpbpclaa", sum := "f24587938a7ec3d192f2b3bd4bee71685c6b480d70db50b97be638560c46e65c", func := "handoff/handofflaw10.PlanChecks", spec := "planChecks", apart := false }
def PlanChecksSaid : Prop := planChecksRow.holds Try.pinned (OpenSpec.ofChange planChecksSpec)

/-- ITS FALSE NEIGHBOUR: 'it returns false'. Refute it at one input. -/
def planChecksWrong : ChangeSpec := { name := "planChecks", fn := fun _ => fun
  | [d1, d2] => { results := [.lit (.bool false)], args := [d1, d2] }
  | _ => none }
def PlanChecksWrongFalsely : Prop := planChecksRow.holds Try.pinned (OpenSpec.ofChange planChecksWrong)

/-- 'handofflaw10.PlanNames': WHATEVER THE INPUT: true; the input reads as it did. -/
def planNamesSpec : ChangeSpec := { name := "planNames", fn := fun _ => fun
  | [] => { results := [.lit (.bool true)], args := [] }
  | _ => none }
def planNamesRow : OpenClaim := { program := "ytjmpaeckpbpclaa", sum := "f24587938a7ec3d192f2b3bd4bee71685c6b480d70db50b97be638560c46e65c", func := "handoff/handofflaw10.PlanNames", spec := "planNames", unfollowed := true, recurses := true, apart := false }
def PlanNamesSaid : Prop := planNamesRow.holds Try.pinned (OpenSpec.ofChange planNamesSpec)

/-- ITS FALSE NEIGHBOUR: 'it returns false'. Refute it at one input. -/
def planNamesWrong : ChangeSpec := { name := "planNames", fn := fun _ => fun
  | [] => { results := [.lit (.bool false)], args := [] }
  | _ => none }
def PlanNamesWrongFalsely : Prop := planNamesRow.holds Try.pinned (OpenSpec.ofChange planNamesWrong)

/-- 'handofflaw10.PlanBytes': WHATEVER THE INPUT: true; the input reads as it did. -/
def planBytesSpec : ChangeSpec := { name := "planBytes", fn := fun _ => fun
  | [d1, d2] => { results := [.lit (.bool true)], args := [d1, d2] }
  | _ => none }
def planBytesRow : OpenClaim := { program := "ytjmpaeckpbpclaa", sum := "f24587938a7ec3d192f2b3bd4bee71685c6b480d70db50b97be638560c46e65c", func := "handoff/handofflaw10.PlanBytes", spec := "planBytes", unfollowed := true, recurses := true, apart := false }
def PlanBytesSaid : Prop := planBytesRow.holds Try.pinned (OpenSpec.ofChange planBytesSpec)

/-- ITS FALSE NEIGHBOUR: 'it returns false'. Refute it at one input. -/
def planBytesWrong : ChangeSpec := { name := "planBytes", fn := fun _ => fun
  | [d1, d2] => { results := [.lit (.bool false)], args := [d1, d2] }
  | _ => none }
def PlanBytesWrongFalsely : Prop := planBytesRow.holds Try.pinned (OpenSpec.ofChange planBytesWrong)

/-- 'handofflaw10.PlanBack': WHATEVER THE INPUT: true; the input reads as it did. -/
def planBackSpec : ChangeSpec := { name := "planBack", fn := fun _ => fun
  | [d1, d2] => { results := [.lit (.bool true)], args := [d1, d2] }
  | _ => none }
def planBackRow : OpenClaim := { program := "ytjmpaeckpbpclaa", sum := "f24587938a7ec3d192f2b3bd4bee71685c6b480d70db50b97be638560c46e65c", func := "handoff/handofflaw10.PlanBack", spec := "planBack", unfollowed := true, recurses := true, apart := false }
def PlanBackSaid : Prop := planBackRow.holds Try.pinned (OpenSpec.ofChange planBackSpec)

/-- ITS FALSE NEIGHBOUR: 'it returns false'. Refute it at one input. -/
def planBackWrong : ChangeSpec := { name := "planBack", fn := fun _ => fun
  | [d1, d2] => { results := [.lit (.bool false)], args := [d1, d2] }
  | _ => none }
def PlanBackWrongFalsely : Prop := planBackRow.holds Try.pinned (OpenSpec.ofChange planBackWrong)

/-- 'handofflaw24.ScriptBytes': WHATEVER THE INPUT: true; the input reads as it did. -/
def scriptBytesSpec : ChangeSpec := { name := "scriptBytes", fn := fun _ => fun
  | [d1, d2] => { results := [.lit (.bool true)], args := [d1, d2] }
  | _ => none }
def scriptBytesRow : OpenClaim := { program := "ytjmpaeckpbpclaa", sum := "f24587938a7ec3d192f2b3bd4bee71685c6b480d70db50b97be638560c46e65c", func := "handoff/handofflaw24.ScriptBytes", spec := "scriptBytes", unfollowed := true, recurses := true, apart := false }
def ScriptBytesSaid : Prop := scriptBytesRow.holds Try.pinned (OpenSpec.ofChange scriptBytesSpec)

/-- ITS FALSE NEIGHBOUR: 'it returns false'. Refute it at one input. -/
def scriptBytesWrong : ChangeSpec := { name := "scriptBytes", fn := fun _ => fun
  | [d1, d2] => { results := [.lit (.bool false)], args := [d1, d2] }
  | _ => none }
def ScriptBytesWrongFalsely : Prop := scriptBytesRow.holds Try.pinned (OpenSpec.ofChange scriptBytesWrong)

/-- 'handofflaw24.ScriptBack': WHATEVER THE INPUT: true; the input reads as it did. -/
def scriptBackSpec : ChangeSpec := { name := "scriptBack", fn := fun _ => fun
  | [d1, d2] => { results := [.lit (.bool true)], args := [d1, d2] }
  | _ => none }
def scriptBackRow : OpenClaim := { program := "ytjmpaeckpbpclaa", sum := "f24587938a7ec3d192f2b3bd4bee71685c6b480d70db50b97be638560c46e65c", func := "handoff/handofflaw24.ScriptBack", spec := "scriptBack", unfollowed := true, recurses := true, apart := false }
def ScriptBackSaid : Prop := scriptBackRow.holds Try.pinned (OpenSpec.ofChange scriptBackSpec)

/-- ITS FALSE NEIGHBOUR: 'it returns false'. Refute it at one input. -/
def scriptBackWrong : ChangeSpec := { name := "scriptBack", fn := fun _ => fun
  | [d1, d2] => { results := [.lit (.bool false)], args := [d1, d2] }
  | _ => none }
def ScriptBackWrongFalsely : Prop := scriptBackRow.holds Try.pinned (OpenSpec.ofChange scriptBackWrong)

/-- 'handofflaw20.ModelOrder': WHATEVER THE INPUT: true; the input reads as it did. -/
def modelOrderSpec : ChangeSpec := { name := "modelOrder", fn := fun _ => fun
  | [d1, d2, d3] => { results := [.lit (.bool true)], args := [d1, d2, d3] }
  | _ => none }
def modelOrderRow : OpenClaim := { program := "ytjmpaeckpbpclaa", sum := "f24587938a7ec3d192f2b3bd4bee71685c6b480d70db50b97be638560c46e65c", func := "handoff/handofflaw20.ModelOrder", spec := "modelOrder", unfollowed := true, recurses := true, apart := false }
def ModelOrderSaid : Prop := modelOrderRow.holds Try.pinned (OpenSpec.ofChange modelOrderSpec)

/-- ITS FALSE NEIGHBOUR: 'it returns false'. Refute it at one input. -/
def modelOrderWrong : ChangeSpec := { name := "modelOrder", fn := fun _ => fun
  | [d1, d2, d3] => { results := [.lit (.bool false)], args := [d1, d2, d3] }
  | _ => none }
def ModelOrderWrongFalsely : Prop := modelOrderRow.holds Try.pinned (OpenSpec.ofChange modelOrderWrong)

/-- 'handofflaw19.TaleTells': WHATEVER THE INPUT: true; the input reads as it did. -/
def taleTellsSpec : ChangeSpec := { name := "taleTells", fn := fun _ => fun
  | [d1, d2] => { results := [.lit (.bool true)], args := [d1, d2] }
  | _ => none }
def taleTellsRow : OpenClaim := { program := "ytjmpaeckpbpclaa", sum := "f24587938a7ec3d192f2b3bd4bee71685c6b480d70db50b97be638560c46e65c", func := "handoff/handofflaw19.TaleTells", spec := "taleTells", unfollowed := true, recurses := true, apart := false }
def TaleTellsSaid : Prop := taleTellsRow.holds Try.pinned (OpenSpec.ofChange taleTellsSpec)

/-- ITS FALSE NEIGHBOUR: 'it returns false'. Refute it at one input. -/
def taleTellsWrong : ChangeSpec := { name := "taleTells", fn := fun _ => fun
  | [d1, d2] => { results := [.lit (.bool false)], args := [d1, d2] }
  | _ => none }
def TaleTellsWrongFalsely : Prop := taleTellsRow.holds Try.pinned (OpenSpec.ofChange taleTellsWrong)

/- THE SECOND FORM. 'bulk': how many values and letters a reading holds, each counted each time it is reached (what is shared counts as often as it is met; a slice's spare places count too). A statement '..UptoSaid' is the law's where the arguments, and the package variables that the reading takes, are together of bulk at most 1048576: NARROWER than '..Said'. Prove '..Said' where nothing that the law and all that it calls make is longer than what came in: it says more and counts as full. Else prove '..UptoSaid'. A law counts once. -/
mutual
def uptoBulk {H : Type} : DataW H → Nat
  | .lit (.string bytes) => bytes.length + 1
  | .lit _ => 1
  | .nil => 1
  | .ptr d => uptoBulk d + 1
  | .slice elems spare => uptoBulkAll elems + uptoBulkAll spare + 1
  | .agg parts => uptoBulkAll parts + 1
  | .iface _ d => uptoBulk d + 1
  | .map entries => uptoBulkEntries entries + 1
  | .held _ => 1
def uptoBulkAll {H : Type} : List (DataW H) → Nat
  | [] => 0
  | d :: r => uptoBulk d + uptoBulkAll r
def uptoBulkEntries {H : Type} : List (Lit × DataW H) → Nat
  | [] => 0
  | x :: r => uptoBulkEntry x + uptoBulkEntries r
def uptoBulkEntry {H : Type} : Lit × DataW H → Nat
  | (.string bytes, d) => bytes.length + uptoBulk d + 1
  | (_, d) => uptoBulk d + 1
 end
def uptoSmall : (H : Type) → List (DataW H) → Bool := fun _ ds => decide (uptoBulkAll ds ≤ 1048576)
def OpenSpec.upto (s : _root_.Go.ChangeSpec) : _root_.Go.OpenSpec := { _root_.Go.OpenSpec.ofChange s with cond := some uptoSmall }

/-- 'handofflaw05.PoolNew', WHERE WHAT IT READS IS OF BULK AT MOST 1048576: true; the input reads as it did. -/
def poolNewUptoRow : OpenClaim := { program := "ytjmpaeckpbpclaa", sum := "f24587938a7ec3d192f2b3bd4bee71685c6b480d70db50b97be638560c46e65c", func := "handoff/handofflaw05.PoolNew", spec := "poolNew", apart := false, narrowed := true }
def PoolNewUptoSaid : Prop := poolNewUptoRow.holds Try.pinned (OpenSpec.upto poolNewSpec)

/-- 'handofflaw10.PlanChecks', WHERE WHAT IT READS IS OF BULK AT MOST 1048576: true; the input reads as it did. -/
def planChecksUptoRow : OpenClaim := { program := "ytjmpaeckpbpclaa", sum := "f24587938a7ec3d192f2b3bd4bee71685c6b480d70db50b97be638560c46e65c", func := "handoff/handofflaw10.PlanChecks", spec := "planChecks", apart := false, narrowed := true }
def PlanChecksUptoSaid : Prop := planChecksUptoRow.holds Try.pinned (OpenSpec.upto planChecksSpec)

/-- 'handofflaw10.PlanNames', WHERE WHAT IT READS IS OF BULK AT MOST 1048576: true; the input reads as it did. -/
def planNamesUptoRow : OpenClaim := { program := "ytjmpaeckpbpclaa", sum := "f24587938a7ec3d192f2b3bd4bee71685c6b480d70db50b97be638560c46e65c", func := "handoff/handofflaw10.PlanNames", spec := "planNames", unfollowed := true, recurses := true, apart := false, narrowed := true }
def PlanNamesUptoSaid : Prop := planNamesUptoRow.holds Try.pinned (OpenSpec.upto planNamesSpec)

/-- 'handofflaw10.PlanBytes', WHERE WHAT IT READS IS OF BULK AT MOST 1048576: true; the input reads as it did. -/
def planBytesUptoRow : OpenClaim := { program := "ytjmpaeckpbpclaa", sum := "f24587938a7ec3d192f2b3bd4bee71685c6b480d70db50b97be638560c46e65c", func := "handoff/handofflaw10.PlanBytes", spec := "planBytes", unfollowed := true, recurses := true, apart := false, narrowed := true }
def PlanBytesUptoSaid : Prop := planBytesUptoRow.holds Try.pinned (OpenSpec.upto planBytesSpec)

/-- 'handofflaw10.PlanBack', WHERE WHAT IT READS IS OF BULK AT MOST 1048576: true; the input reads as it did. -/
def planBackUptoRow : OpenClaim := { program := "ytjmpaeckpbpclaa", sum := "f24587938a7ec3d192f2b3bd4bee71685c6b480d70db50b97be638560c46e65c", func := "handoff/handofflaw10.PlanBack", spec := "planBack", unfollowed := true, recurses := true, apart := false, narrowed := true }
def PlanBackUptoSaid : Prop := planBackUptoRow.holds Try.pinned (OpenSpec.upto planBackSpec)

/-- 'handofflaw24.ScriptBytes', WHERE WHAT IT READS IS OF BULK AT MOST 1048576: true; the input reads as it did. -/
def scriptBytesUptoRow : OpenClaim := { program := "ytjmpaeckpbpclaa", sum := "f24587938a7ec3d192f2b3bd4bee71685c6b480d70db50b97be638560c46e65c", func := "handoff/handofflaw24.ScriptBytes", spec := "scriptBytes", unfollowed := true, recurses := true, apart := false, narrowed := true }
def ScriptBytesUptoSaid : Prop := scriptBytesUptoRow.holds Try.pinned (OpenSpec.upto scriptBytesSpec)

/-- 'handofflaw24.ScriptBack', WHERE WHAT IT READS IS OF BULK AT MOST 1048576: true; the input reads as it did. -/
def scriptBackUptoRow : OpenClaim := { program := "ytjmpaeckpbpclaa", sum := "f24587938a7ec3d192f2b3bd4bee71685c6b480d70db50b97be638560c46e65c", func := "handoff/handofflaw24.ScriptBack", spec := "scriptBack", unfollowed := true, recurses := true, apart := false, narrowed := true }
def ScriptBackUptoSaid : Prop := scriptBackUptoRow.holds Try.pinned (OpenSpec.upto scriptBackSpec)

/-- 'handofflaw20.ModelOrder', WHERE WHAT IT READS IS OF BULK AT MOST 1048576: true; the input reads as it did. -/
def modelOrderUptoRow : OpenClaim := { program := "ytjmpaeckpbpclaa", sum := "f24587938a7ec3d192f2b3bd4bee71685c6b480d70db50b97be638560c46e65c", func := "handoff/handofflaw20.ModelOrder", spec := "modelOrder", unfollowed := true, recurses := true, apart := false, narrowed := true }
def ModelOrderUptoSaid : Prop := modelOrderUptoRow.holds Try.pinned (OpenSpec.upto modelOrderSpec)

/-- 'handofflaw19.TaleTells', WHERE WHAT IT READS IS OF BULK AT MOST 1048576: true; the input reads as it did. -/
def taleTellsUptoRow : OpenClaim := { program := "ytjmpaeckpbpclaa", sum := "f24587938a7ec3d192f2b3bd4bee71685c6b480d70db50b97be638560c46e65c", func := "handoff/handofflaw19.TaleTells", spec := "taleTells", unfollowed := true, recurses := true, apart := false, narrowed := true }
def TaleTellsUptoSaid : Prop := taleTellsUptoRow.holds Try.pinned (OpenSpec.upto taleTellsSpec)

end Rows
end Go.Proofs.Ytjmpaeckpbpclaa
