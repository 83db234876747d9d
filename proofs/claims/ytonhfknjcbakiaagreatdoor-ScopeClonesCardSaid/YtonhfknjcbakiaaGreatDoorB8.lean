import Derived.Test.YtonhfknjcbakiaaGreatDoorB5
set_option linter.unusedVariables false
set_option linter.unusedSimpArgs false
namespace Go.Proofs.YtonhfknjcbakiaaGreatDoor
open Go.RowKit
attribute [local go_sem] Oper.semAt_some
end Go.Proofs.YtonhfknjcbakiaaGreatDoor
