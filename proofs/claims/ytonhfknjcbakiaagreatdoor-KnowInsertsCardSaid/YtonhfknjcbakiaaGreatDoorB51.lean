import Derived.Test.YtonhfknjcbakiaaGreatDoorB49
import Derived.Test.YtonhfknjcbakiaaGreatDoorB50
set_option linter.unusedVariables false
set_option linter.unusedSimpArgs false
set_option maxRecDepth 100000
namespace Go.Proofs.YtonhfknjcbakiaaGreatDoor
open Go.RowKit
theorem Kn.up {C:Nat->List Nat} {R:List Nat} {n m:Nat} {k:List Fg} (h:Kn C R n k) (a:n<=m):Kn C R m k:=h.mono (fun _ _ h=>h) (fun _ h=>h) a
def zpu (f:FuncId):PV:=.fn (.func f) [] []
attribute [go_sem] zpu
end Go.Proofs.YtonhfknjcbakiaaGreatDoor
