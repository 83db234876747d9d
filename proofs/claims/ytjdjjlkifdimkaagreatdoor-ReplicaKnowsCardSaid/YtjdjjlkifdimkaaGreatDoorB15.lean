import Derived.Test.YtjdjjlkifdimkaaGreatDoorProg
import Derived.JoinedOf
import Derived.RowKit
import Derived.WalkKit
set_option linter.all false
namespace Go.Proofs.YtjdjjlkifdimkaaGreatDoor
def dQ{p:Prop}(h:p:=by kernel_rfl):p:=h
section
open Go.RowKit
def zjZ:Tryz.prog.mainIs=some (true, "5c7fb562887f983fd7d48ea7b277cb899f96af25a3c7538ebf4a09872248ad74".toList):=dQ
end
end Go.Proofs.YtjdjjlkifdimkaaGreatDoor
