-- Out of the translation, by a program of this session.
import Derived.Test.YtifajoehlgdgaaaProg
import Derived.WalkSpells
import Derived.BigRegion
import Derived.Outline
import Derived.Below
import Derived.Deep.Draws
import Derived.Deep.AppendLies
import Derived.Maps.AppendAt
import Derived.OwnWalk
import Derived.Laws.BytesArg
import Derived.Laws.MakeOwn
import Derived.Laws.OwnMore
import Derived.Deep.OwnRows
import Derived.Tactics
import Derived.Lib.ConvBytes
import Derived.Laws.Slices
import Derived.WalkKit
import Derived.KernelRfl
import Derived.RowKit3
import Derived.Deep.LoopGhost
import Derived.Deep.QuietTactic
import Derived.BigQuiet
import Derived.WideLaws
import Derived.Deep.DeepCutAuto
import Derived.Deep.CutBlock
import Derived.Deep.RegionHeld3
import Derived.Laws.Rows
import Derived.Lib.AppendStr
import Derived.ArgAppend
import Derived.Laws.IdiomCopy
import Derived.OrdersHeld
import Derived.Laws.BitsLemmas
import Derived.RowKit
import Derived.Test.YtifajoehlgdgaaaWWords
import Derived.Test.YtifajoehlgdgaaaWLast
import Derived.Test.YtifajoehlgdgaaaWTab
import Derived.Test.YtifajoehlgdgaaaWFour
import Derived.Test.YtifajoehlgdgaaaWQPut
import Derived.Test.YtifajoehlgdgaaaWApart
import Derived.Test.YtifajoehlgdgaaaWArr
import Derived.Test.YtifajoehlgdgaaaWZeros
import Derived.Test.YtifajoehlgdgaaaWFoot
import Derived.Test.YtifajoehlgdgaaaWKept
import Derived.Test.YtifajoehlgdgaaaWShare
import Derived.Test.YtifajoehlgdgaaaWN
import Derived.Test.YtifajoehlgdgaaaWFootNe
import Derived.Test.YtifajoehlgdgaaaWAt
import Derived.Test.YtifajoehlgdgaaaWEqStruct
import Derived.Test.YtifajoehlgdgaaaWRepsOne
import Derived.Test.YtifajoehlgdgaaaWInv
import Derived.Test.YtifajoehlgdgaaaWInvWords
import Derived.Test.YtifajoehlgdgaaaWGuard
import Derived.Test.YtifajoehlgdgaaaWNEv
import Derived.Test.YtifajoehlgdgaaaWMore
namespace Go.Proofs.Ytifajoehlgdgaaa.PPool
open Go.RowKit Go.Proofs.YtifajoehlgdgaaaW.PrintWords Go.Proofs.YtifajoehlgdgaaaW.PrintLast Go.Proofs.YtifajoehlgdgaaaW.PrintMore
attribute [local go_sem] max2_int min2_int max_two min_two max_three min_three max_four min_four   -- for this text's walks alone
set_option linter.unusedVariables false
set_option linter.unusedSimpArgs false



def errW : Option Int → Value
  | none => .nilIface
  | some c => .iface 0 (.int .i64 c)
theorem errW_none : errW none = .nilIface := rfl
theorem errW_some (c : Int) : errW (some c) = .iface 0 (.int .i64 c) := rfl

-- the values' own types

end Go.Proofs.Ytifajoehlgdgaaa.PPool
