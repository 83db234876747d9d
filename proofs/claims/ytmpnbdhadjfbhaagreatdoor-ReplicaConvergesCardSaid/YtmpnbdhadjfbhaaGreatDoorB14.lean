import Derived.Test.YtmpnbdhadjfbhaaGreatDoorProg
import Derived.JoinedOf
import Derived.RowKit
import Derived.WalkKit
set_option linter.all false
namespace Go.Proofs.YtmpnbdhadjfbhaaGreatDoor
def dM{p:Prop}(h:p:=by kernel_rfl):p:=h
section
open Go.RowKit
def zjY:Tryz.prog.liftsFinal=false:=dM
end
end Go.Proofs.YtmpnbdhadjfbhaaGreatDoor
