import Derived.Test.YtjmhmeadcphfmaaGreatDoorProg
import Derived.JoinedOf
import Derived.RowKit
import Derived.WalkKit
import Derived.Test.YtjmhmeadcphfmaaGreatDoorB1
namespace Go.Proofs.YtjmhmeadcphfmaaGreatDoor
set_option linter.unusedVariables false
set_option linter.unusedSimpArgs false
open Go.RowKit
theorem fMake : Tryz.prog.make = some .cut := by kernel_rfl
end Go.Proofs.YtjmhmeadcphfmaaGreatDoor
