import Derived.Test.YtllbegidbdiokaaGreatDoorProg
import Derived.JoinedOf
import Derived.RowKit
import Derived.WalkKit
set_option linter.all false
namespace Go.Proofs.YtllbegidbdiokaaGreatDoor
def dO{p:Prop}(h:p:=by kernel_rfl):p:=h
section
open Go.RowKit
def zjZ:Tryz.prog.mainIs=some (true, "3988487781b4bda1377995ac1567d1dfcbcb635a4344cd0aeb07ac006386e753".toList):=dO
end
end Go.Proofs.YtllbegidbdiokaaGreatDoor
