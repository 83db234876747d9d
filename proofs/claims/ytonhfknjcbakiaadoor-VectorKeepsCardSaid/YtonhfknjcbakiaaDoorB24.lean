import Derived.Test.YtonhfknjcbakiaaDoorB12
set_option linter.unusedVariables false
set_option linter.unusedSimpArgs false
namespace Go.Proofs.YtonhfknjcbakiaaDoor
open Go.RowKit
end Go.Proofs.YtonhfknjcbakiaaDoor
