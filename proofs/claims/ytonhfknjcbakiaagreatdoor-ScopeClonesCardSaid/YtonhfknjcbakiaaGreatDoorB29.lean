import Derived.Test.YtonhfknjcbakiaaGreatDoorProg
import Derived.JoinedOf
import Derived.RowKit
import Derived.WalkKit
set_option linter.unusedVariables false
set_option linter.unusedSimpArgs false
namespace Go.Proofs.YtonhfknjcbakiaaGreatDoor
open Go.RowKit
theorem zjZ:Tryz.prog.mainIs=some (true, "0c2a32dd10aa613ab11aeb917e382f6b1689d99cbab020f5564da442ddbb1877".toList):=by kernel_rfl
end Go.Proofs.YtonhfknjcbakiaaGreatDoor
