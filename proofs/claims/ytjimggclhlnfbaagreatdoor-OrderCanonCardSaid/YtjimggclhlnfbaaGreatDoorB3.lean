import Derived.Test.YtjimggclhlnfbaaGreatDoorProg
import Derived.JoinedOf
import Derived.RowKit
import Derived.WalkKit
import Derived.Test.YtjimggclhlnfbaaGreatDoorB2
set_option linter.unusedVariables false
set_option linter.unusedSimpArgs false
namespace Go.Proofs.YtjimggclhlnfbaaGreatDoor
open Go.RowKit
theorem zj0:Tryz.prog.make=some .cut:=by kernel_rfl
end Go.Proofs.YtjimggclhlnfbaaGreatDoor
