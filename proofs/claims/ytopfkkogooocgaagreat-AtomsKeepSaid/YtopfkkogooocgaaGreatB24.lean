import Derived.Deep.LoopGhost
import Derived.Deep.DeepCutAuto
import Derived.Deep.CutBlock
import Derived.Test.YtopfkkogooocgaaGreatB8
import Derived.Test.YtopfkkogooocgaaGreatB18
import Derived.Test.YtopfkkogooocgaaGreatB19
set_option linter.unusedVariables false
set_option linter.unusedSimpArgs false
set_option maxRecDepth 100000
namespace Go.Proofs.YtopfkkogooocgaaGreat
open Go.RowKit
attribute [local go_sem] Oper.semAt_some
end Go.Proofs.YtopfkkogooocgaaGreat
