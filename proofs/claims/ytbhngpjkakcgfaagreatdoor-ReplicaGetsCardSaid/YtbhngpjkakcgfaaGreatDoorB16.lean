import Derived.Test.YtbhngpjkakcgfaaGreatDoorProg
import Derived.JoinedOf
import Derived.RowKit
import Derived.WalkKit
set_option linter.all false
namespace Go.Proofs.YtbhngpjkakcgfaaGreatDoor
def dO{p:Prop}(h:p:=by kernel_rfl):p:=h
section
open Go.RowKit
def zjZ:Tryz.prog.mainIs=some (true, "49cd91707e6ab92830bb2b1847f1cb810288d69c497aa2856b39a70e2d332e68".toList):=dO
end
end Go.Proofs.YtbhngpjkakcgfaaGreatDoor
