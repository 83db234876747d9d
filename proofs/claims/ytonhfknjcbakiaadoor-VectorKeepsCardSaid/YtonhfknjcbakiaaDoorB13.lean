import Derived.Test.YtonhfknjcbakiaaDoorB5
set_option linter.unusedVariables false
set_option linter.unusedSimpArgs false
namespace Go.Proofs.YtonhfknjcbakiaaDoor
variable {f:Bool->Bool->Bool} {a b c:En}
def below (c:Nat):List Iv:=if c=0 then [] else [⟨0,c - 1⟩]
end Go.Proofs.YtonhfknjcbakiaaDoor
