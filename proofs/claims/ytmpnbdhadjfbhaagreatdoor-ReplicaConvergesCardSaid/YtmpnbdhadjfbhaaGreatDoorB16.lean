import Derived.Test.YtmpnbdhadjfbhaaGreatDoorProg
import Derived.JoinedOf
import Derived.RowKit
import Derived.WalkKit
set_option linter.all false
namespace Go.Proofs.YtmpnbdhadjfbhaaGreatDoor
def dO{p:Prop}(h:p:=by kernel_rfl):p:=h
section
open Go.RowKit
def zjZ:Tryz.prog.mainIs=some (true, "d223efeb1d2c9855de1f44617bf8539ed0bd9834076af6539c8394327e0e52b1".toList):=dO
end
end Go.Proofs.YtmpnbdhadjfbhaaGreatDoor
