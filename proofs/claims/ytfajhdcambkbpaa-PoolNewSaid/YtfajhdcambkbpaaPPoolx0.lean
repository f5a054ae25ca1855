-- Out of the translation, by a program of this session.
import Derived.Test.YtfajhdcambkbpaaProg
import Derived.WalkSpells
import Derived.BigRegion
import Derived.Outline
import Derived.Below
import Derived.Deep.Draws
import Derived.Deep.AppendLies
import Derived.Maps.AppendAt
import Derived.OwnWalk
import Derived.Laws.BytesArg
import Derived.Laws.MakeOwn
import Derived.Laws.OwnMore
import Derived.Deep.OwnRows
import Derived.Tactics
import Derived.Lib.ConvBytes
import Derived.Laws.Slices
import Derived.WalkKit
import Derived.KernelRfl
import Derived.RowKit3
import Derived.Deep.LoopGhost
import Derived.Deep.QuietTactic
import Derived.BigQuiet
import Derived.WideLaws
import Derived.Deep.DeepCutAuto
import Derived.Deep.CutBlock
import Derived.Deep.RegionHeld3
import Derived.Laws.Rows
import Derived.Lib.AppendStr
import Derived.ArgAppend
import Derived.Laws.IdiomCopy
import Derived.OrdersHeld
import Derived.Laws.BitsLemmas
import Derived.RowKit
import Derived.Test.YtfajhdcambkbpaaWWords
import Derived.Test.YtfajhdcambkbpaaWLast
import Derived.Test.YtfajhdcambkbpaaWTab
import Derived.Test.YtfajhdcambkbpaaWFour
import Derived.Test.YtfajhdcambkbpaaWQPut
import Derived.Test.YtfajhdcambkbpaaWApart
import Derived.Test.YtfajhdcambkbpaaWArr
import Derived.Test.YtfajhdcambkbpaaWZeros
import Derived.Test.YtfajhdcambkbpaaWFoot
import Derived.Test.YtfajhdcambkbpaaWKept
import Derived.Test.YtfajhdcambkbpaaWShare
import Derived.Test.YtfajhdcambkbpaaWN
import Derived.Test.YtfajhdcambkbpaaWFootNe
import Derived.Test.YtfajhdcambkbpaaWAt
import Derived.Test.YtfajhdcambkbpaaWEqStruct
import Derived.Test.YtfajhdcambkbpaaWRepsOne
import Derived.Test.YtfajhdcambkbpaaWInv
import Derived.Test.YtfajhdcambkbpaaWInvWords
import Derived.Test.YtfajhdcambkbpaaWGuard
import Derived.Test.YtfajhdcambkbpaaWNEv
import Derived.Test.YtfajhdcambkbpaaWMore
namespace Go.Proofs.Ytfajhdcambkbpaa.PPool
open Go.RowKit Go.Proofs.YtfajhdcambkbpaaW.PrintWords Go.Proofs.YtfajhdcambkbpaaW.PrintLast Go.Proofs.YtfajhdcambkbpaaW.PrintMore
attribute [local go_sem] max2_int min2_int max_two min_two max_three min_three max_four min_four   -- for this text's walks alone
set_option linter.unusedVariables false
set_option linter.unusedSimpArgs false



def errW : Option Int → Value
  | none => .nilIface
  | some c => .iface 0 (.int .i64 c)
theorem errW_none : errW none = .nilIface := rfl
theorem errW_some (c : Int) : errW (some c) = .iface 0 (.int .i64 c) := rfl

-- the values' own types

end Go.Proofs.Ytfajhdcambkbpaa.PPool
