import Derived.Deep.LoopGhost
import Derived.Deep.DeepCutAuto
import Derived.Deep.CutBlock
import Derived.Test.YtonhfknjcbakiaaDoorB6
import Derived.Test.YtonhfknjcbakiaaDoorB19
set_option linter.unusedVariables false
set_option linter.unusedSimpArgs false
set_option maxRecDepth 100000
namespace Go.Proofs.YtonhfknjcbakiaaDoor
open Go.RowKit
attribute [local go_sem] Oper.semAt_some
end Go.Proofs.YtonhfknjcbakiaaDoor
