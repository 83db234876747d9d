import Derived.Test.YtonhfknjcbakiaaDoorB31
set_option linter.unusedVariables false
set_option linter.unusedSimpArgs false
set_option maxRecDepth 100000
namespace Go.Proofs.YtonhfknjcbakiaaDoor
open Go.RowKit Go.Lib
attribute [-go_sem] z7
end Go.Proofs.YtonhfknjcbakiaaDoor
