import Derived.Test.YtjdjjlkifdimkaaGreatDoorProg
import Derived.JoinedOf
import Derived.RowKit
import Derived.WalkKit
set_option linter.all false
namespace Go.Proofs.YtjdjjlkifdimkaaGreatDoor
def dP{p:Prop}(h:p:=by kernel_rfl):p:=h
section
open Go.RowKit
def zmu:Tryz.prog.mayEnter=true:=dP
end
end Go.Proofs.YtjdjjlkifdimkaaGreatDoor
