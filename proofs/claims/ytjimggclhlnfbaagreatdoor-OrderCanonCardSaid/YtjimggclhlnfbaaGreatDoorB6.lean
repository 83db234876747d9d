import Derived.Test.YtjimggclhlnfbaaGreatDoorProg
import Derived.JoinedOf
import Derived.RowKit
import Derived.WalkKit
import Derived.Test.YtjimggclhlnfbaaGreatDoorB5
set_option linter.unusedVariables false
set_option linter.unusedSimpArgs false
namespace Go.Proofs.YtjimggclhlnfbaaGreatDoor
open Go.RowKit
theorem zjZ:Tryz.prog.mainIs=some (true, "4ee32604e3f18e34a1463147aee784edc742f3cd42fae9706bd9649d3e61930b".toList):=by kernel_rfl
end Go.Proofs.YtjimggclhlnfbaaGreatDoor
