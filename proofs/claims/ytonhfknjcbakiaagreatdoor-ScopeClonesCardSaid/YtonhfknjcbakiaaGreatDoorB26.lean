import Derived.Test.YtonhfknjcbakiaaGreatDoorProg
import Derived.JoinedOf
import Derived.RowKit
import Derived.WalkKit
set_option linter.unusedVariables false
set_option linter.unusedSimpArgs false
namespace Go.Proofs.YtonhfknjcbakiaaGreatDoor
open Go.RowKit
theorem zj0:Tryz.prog.make=some .cut:=by kernel_rfl
end Go.Proofs.YtonhfknjcbakiaaGreatDoor
