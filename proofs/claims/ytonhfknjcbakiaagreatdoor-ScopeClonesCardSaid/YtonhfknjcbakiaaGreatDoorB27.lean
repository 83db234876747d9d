import Derived.Test.YtonhfknjcbakiaaGreatDoorProg
import Derived.JoinedOf
import Derived.RowKit
import Derived.WalkKit
set_option linter.unusedVariables false
set_option linter.unusedSimpArgs false
namespace Go.Proofs.YtonhfknjcbakiaaGreatDoor
open Go.RowKit
theorem zjY:Tryz.prog.liftsFinal=false:=by kernel_rfl
end Go.Proofs.YtonhfknjcbakiaaGreatDoor
