-- Out of the translation, by a program of this session.
import Derived.Test.YtifajoehlgdgaaaPShAx0
import Derived.Test.YtifajoehlgdgaaaPShAx1
import Derived.Test.YtifajoehlgdgaaaPShAx2
import Derived.Test.YtifajoehlgdgaaaPShAx3
import Derived.Test.YtifajoehlgdgaaaPShAx4
import Derived.Test.YtifajoehlgdgaaaPShAx5
import Derived.Test.YtifajoehlgdgaaaPShAx6
import Derived.Test.YtifajoehlgdgaaaPShAx7
namespace Go.Proofs.Ytifajoehlgdgaaa.PShA
open Go.RowKit Go.Proofs.YtifajoehlgdgaaaW.PrintWords Go.Proofs.YtifajoehlgdgaaaW.PrintLast Go.Proofs.YtifajoehlgdgaaaW.PrintMore
attribute [local go_sem] max2_int min2_int max_two min_two max_three min_three max_four min_four   -- for this text's walks alone
set_option linter.unusedVariables false
set_option linter.unusedSimpArgs false

end Go.Proofs.Ytifajoehlgdgaaa.PShA
