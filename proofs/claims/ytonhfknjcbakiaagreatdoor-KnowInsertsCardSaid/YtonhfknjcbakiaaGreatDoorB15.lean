import Derived.Test.YtonhfknjcbakiaaGreatDoorB5
set_option linter.unusedVariables false
set_option linter.unusedSimpArgs false
namespace Go.Proofs.YtonhfknjcbakiaaGreatDoor
def jn (f:Bool->Bool->Bool) (a b:En):En × Bool:=Qi a.rep (qy f (kn a) (kn b))
variable {f:Bool->Bool->Bool} {a b c:En}
def below (c:Nat):List Iv:=if c=0 then [] else [⟨0,c - 1⟩]
def kP (e:En):En × Bool:=Qi e.rep (kn e)
end Go.Proofs.YtonhfknjcbakiaaGreatDoor
