import Derived.Test.YtjmhmeadcphfmaaGreatDoorProg
import Derived.JoinedOf
import Derived.RowKit
import Derived.WalkKit
import Derived.Test.YtjmhmeadcphfmaaGreatDoorB4
namespace Go.Proofs.YtjmhmeadcphfmaaGreatDoor
set_option linter.unusedVariables false
set_option linter.unusedSimpArgs false
open Go.RowKit
theorem fMain : Tryz.prog.mainIs = some (true, "a29159b029850e140d4ab882c732e393f08e219d249790523ad18611876b09aa".toList) := by kernel_rfl
end Go.Proofs.YtjmhmeadcphfmaaGreatDoor
