/-
  No cell of these rows narrows 'for every input' (looked for: loops, veiled, ifaces, maps, wideKeys, modest, calm, conditions, laid).
  DERIVED. THE GIVEN ROWS OF THIS SEAT. 3 by the template 'for every input the law returns true; each argument reads behind the call as it read before'; 0 by the template 'total and deterministic' (their statements: YthgepdaociipmaaTotals.lean).
  GIVEN WITH THE SEED: the statements are not yours to turn. If you find one false, say at which input.
  Laid BY PROGRAM, IN A SANDBOX (cutbox-rows.mjs): the forced cells as the released guide's own fill.sh prints them over the translation b7dcd9f9eefbc31a… (all of the seat's roots in one cut). By AI agents, Wed Nov 11 2026. No macro, syntax, notation, axiom, sorry.
-/
import Derived.Test.YthgepdaociipmaaChecked
import GoSem.Claim
import GoSem.ClaimJoined
import GoSem.ClaimMapViews
import Derived.JoinedTies
import Derived.KernelRfl
namespace Go.Proofs.Ythgepdaociipmaa
/- THE CELL 'sum', in the pinned program and in every row, IS THE sha256 OF THE DUMP (.gsa) THAT YthgepdaociipmaaProg.lean LOADS. Nothing in Lean hashes anything: it is a label: what it is worth is what the hold of that sum in a sandbox is worth. -/
noncomputable def Try.pinned : Pinned := { name := "ythgepdaociipmaa", sum := "b7dcd9f9eefbc31abd7bd2ec0e52ef5578becf7cfa3851821a463b53c27bd3e9", checked := Try.checked }
namespace Rows
def none {H : Type} : Left H := { results := [], args := [] }

/-- 'handofflaw23.FairTells': WHATEVER THE INPUT: true; the input reads as it did. -/
def fairTellsSpec : ChangeSpec := { name := "fairTells", fn := fun _ => fun
  | [d1, d2, d3] => { results := [.lit (.bool true)], args := [d1, d2, d3] }
  | _ => none }
def fairTellsRow : OpenClaim := { program := "ythgepdaociipmaa", sum := "b7dcd9f9eefbc31abd7bd2ec0e52ef5578becf7cfa3851821a463b53c27bd3e9", func := "handoff/handofflaw23.FairTells", spec := "fairTells", unfollowed := true, recurses := true, apart := false }
def FairTellsSaid : Prop := fairTellsRow.holds Try.pinned (OpenSpec.ofChange fairTellsSpec)

/-- ITS FALSE NEIGHBOUR: 'it returns false'. Refute it at one input. -/
def fairTellsWrong : ChangeSpec := { name := "fairTells", fn := fun _ => fun
  | [d1, d2, d3] => { results := [.lit (.bool false)], args := [d1, d2, d3] }
  | _ => none }
def FairTellsWrongFalsely : Prop := fairTellsRow.holds Try.pinned (OpenSpec.ofChange fairTellsWrong)

/-- 'handofflaw20.ModelOrder': WHATEVER THE INPUT: true; the input reads as it did. -/
def modelOrderSpec : ChangeSpec := { name := "modelOrder", fn := fun _ => fun
  | [d1, d2, d3] => { results := [.lit (.bool true)], args := [d1, d2, d3] }
  | _ => none }
def modelOrderRow : OpenClaim := { program := "ythgepdaociipmaa", sum := "b7dcd9f9eefbc31abd7bd2ec0e52ef5578becf7cfa3851821a463b53c27bd3e9", func := "handoff/handofflaw20.ModelOrder", spec := "modelOrder", unfollowed := true, recurses := true, apart := false }
def ModelOrderSaid : Prop := modelOrderRow.holds Try.pinned (OpenSpec.ofChange modelOrderSpec)

/-- ITS FALSE NEIGHBOUR: 'it returns false'. Refute it at one input. -/
def modelOrderWrong : ChangeSpec := { name := "modelOrder", fn := fun _ => fun
  | [d1, d2, d3] => { results := [.lit (.bool false)], args := [d1, d2, d3] }
  | _ => none }
def ModelOrderWrongFalsely : Prop := modelOrderRow.holds Try.pinned (OpenSpec.ofChange modelOrderWrong)

/-- 'handofflaw19.TaleTells': WHATEVER THE INPUT: true; the input reads as it did. -/
def taleTellsSpec : ChangeSpec := { name := "taleTells", fn := fun _ => fun
  | [d1, d2] => { results := [.lit (.bool true)], args := [d1, d2] }
  | _ => none }
def taleTellsRow : OpenClaim := { program := "ythgepdaociipmaa", sum := "b7dcd9f9eefbc31abd7bd2ec0e52ef5578becf7cfa3851821a463b53c27bd3e9", func := "handoff/handofflaw19.TaleTells", spec := "taleTells", unfollowed := true, recurses := true, apart := false }
def TaleTellsSaid : Prop := taleTellsRow.holds Try.pinned (OpenSpec.ofChange taleTellsSpec)

/-- ITS FALSE NEIGHBOUR: 'it returns false'. Refute it at one input. -/
def taleTellsWrong : ChangeSpec := { name := "taleTells", fn := fun _ => fun
  | [d1, d2] => { results := [.lit (.bool false)], args := [d1, d2] }
  | _ => none }
def TaleTellsWrongFalsely : Prop := taleTellsRow.holds Try.pinned (OpenSpec.ofChange taleTellsWrong)

/- THE SECOND FORM. 'bulk': how many values and letters a reading holds, each counted each time it is reached (what is shared counts as often as it is met; a slice's spare places count too). A statement '..UptoSaid' is the law's where the arguments, and the package variables that the reading takes, are together of bulk at most 1048576: NARROWER than '..Said'. Prove '..Said' where nothing that the law and all that it calls make is longer than what came in: it says more and counts as full. Else prove '..UptoSaid'. A law counts once. -/
mutual
def uptoBulk {H : Type} : DataW H → Nat
  | .lit (.string bytes) => bytes.length + 1
  | .lit _ => 1
  | .nil => 1
  | .ptr d => uptoBulk d + 1
  | .slice elems spare => uptoBulkAll elems + uptoBulkAll spare + 1
  | .agg parts => uptoBulkAll parts + 1
  | .iface _ d => uptoBulk d + 1
  | .map entries => uptoBulkEntries entries + 1
  | .held _ => 1
def uptoBulkAll {H : Type} : List (DataW H) → Nat
  | [] => 0
  | d :: r => uptoBulk d + uptoBulkAll r
def uptoBulkEntries {H : Type} : List (Lit × DataW H) → Nat
  | [] => 0
  | x :: r => uptoBulkEntry x + uptoBulkEntries r
def uptoBulkEntry {H : Type} : Lit × DataW H → Nat
  | (.string bytes, d) => bytes.length + uptoBulk d + 1
  | (_, d) => uptoBulk d + 1
 end
def uptoSmall : (H : Type) → List (DataW H) → Bool := fun _ ds => decide (uptoBulkAll ds ≤ 1048576)
def OpenSpec.upto (s : _root_.Go.ChangeSpec) : _root_.Go.OpenSpec := { _root_.Go.OpenSpec.ofChange s with cond := some uptoSmall }

/-- 'handofflaw23.FairTells', WHERE WHAT IT READS IS OF BULK AT MOST 1048576: true; the input reads as it did. -/
def fairTellsUptoRow : OpenClaim := { program := "ythgepdaociipmaa", sum := "b7dcd9f9eefbc31abd7bd2ec0e52ef5578becf7cfa3851821a463b53c27bd3e9", func := "handoff/handofflaw23.FairTells", spec := "fairTells", unfollowed := true, recurses := true, apart := false, narrowed := true }
def FairTellsUptoSaid : Prop := fairTellsUptoRow.holds Try.pinned (OpenSpec.upto fairTellsSpec)

/-- 'handofflaw20.ModelOrder', WHERE WHAT IT READS IS OF BULK AT MOST 1048576: true; the input reads as it did. -/
def modelOrderUptoRow : OpenClaim := { program := "ythgepdaociipmaa", sum := "b7dcd9f9eefbc31abd7bd2ec0e52ef5578becf7cfa3851821a463b53c27bd3e9", func := "handoff/handofflaw20.ModelOrder", spec := "modelOrder", unfollowed := true, recurses := true, apart := false, narrowed := true }
def ModelOrderUptoSaid : Prop := modelOrderUptoRow.holds Try.pinned (OpenSpec.upto modelOrderSpec)

/-- 'handofflaw19.TaleTells', WHERE WHAT IT READS IS OF BULK AT MOST 1048576: true; the input reads as it did. -/
def taleTellsUptoRow : OpenClaim := { program := "ythgepdaociipmaa", sum := "b7dcd9f9eefbc31abd7bd2ec0e52ef5578becf7cfa3851821a463b53c27bd3e9", func := "handoff/handofflaw19.TaleTells", spec := "taleTells", unfollowed := true, recurses := true, apart := false, narrowed := true }
def TaleTellsUptoSaid : Prop := taleTellsUptoRow.holds Try.pinned (OpenSpec.upto taleTellsSpec)

end Rows
end Go.Proofs.Ythgepdaociipmaa
