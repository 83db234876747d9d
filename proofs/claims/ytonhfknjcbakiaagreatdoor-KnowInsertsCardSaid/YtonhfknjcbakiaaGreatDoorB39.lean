import Derived.Test.YtonhfknjcbakiaaGreatDoorB37
set_option linter.unusedVariables false
set_option linter.unusedSimpArgs false
set_option maxRecDepth 100000
namespace Go.Proofs.YtonhfknjcbakiaaGreatDoor
open Go.RowKit
def cp2 (a b:Nat):PV:=.agg [.v (.int .u64 a),.v (.int .u64 b)]
def cw (n:Nat):PV:=cp2 (n / M64) (n % M64)
attribute [go_sem] cp2 cw
end Go.Proofs.YtonhfknjcbakiaaGreatDoor
