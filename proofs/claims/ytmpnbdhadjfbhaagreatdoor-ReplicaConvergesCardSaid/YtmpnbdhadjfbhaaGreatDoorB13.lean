import Derived.Test.YtmpnbdhadjfbhaaGreatDoorProg
import Derived.JoinedOf
import Derived.RowKit
import Derived.WalkKit
set_option linter.all false
namespace Go.Proofs.YtmpnbdhadjfbhaaGreatDoor
def dL{p:Prop}(h:p:=by kernel_rfl):p:=h
section
open Go.RowKit
def zj0:Tryz.prog.make=some .cut:=dL
end
end Go.Proofs.YtmpnbdhadjfbhaaGreatDoor
