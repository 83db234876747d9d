import Derived.Test.YtmpnbdhadjfbhaaGreatDoorProg
import Derived.JoinedOf
import Derived.RowKit
import Derived.WalkKit
set_option linter.all false
namespace Go.Proofs.YtmpnbdhadjfbhaaGreatDoor
def dN{p:Prop}(h:p:=by kernel_rfl):p:=h
section
open Go.RowKit
def zmu:Tryz.prog.mayEnter=true:=dN
end
end Go.Proofs.YtmpnbdhadjfbhaaGreatDoor
