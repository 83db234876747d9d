import Derived.Test.YtjdjjlkifdimkaaGreatDoorProg
import Derived.JoinedOf
import Derived.RowKit
import Derived.WalkKit
set_option linter.all false
namespace Go.Proofs.YtjdjjlkifdimkaaGreatDoor
def dN{p:Prop}(h:p:=by kernel_rfl):p:=h
section
open Go.RowKit
def zj0:Tryz.prog.make=some .cut:=dN
end
end Go.Proofs.YtjdjjlkifdimkaaGreatDoor
