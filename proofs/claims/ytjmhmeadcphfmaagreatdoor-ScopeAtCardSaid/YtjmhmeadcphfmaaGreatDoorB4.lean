import Derived.Test.YtjmhmeadcphfmaaGreatDoorProg
import Derived.JoinedOf
import Derived.RowKit
import Derived.WalkKit
import Derived.Test.YtjmhmeadcphfmaaGreatDoorB3
namespace Go.Proofs.YtjmhmeadcphfmaaGreatDoor
set_option linter.unusedVariables false
set_option linter.unusedSimpArgs false
open Go.RowKit
theorem fMay : Tryz.prog.mayEnter = true := by kernel_rfl
end Go.Proofs.YtjmhmeadcphfmaaGreatDoor
