import Derived.Test.YtonhfknjcbakiaaGreatDoorB14
set_option linter.unusedVariables false
set_option linter.unusedSimpArgs false
namespace Go.Proofs.YtonhfknjcbakiaaGreatDoor
open Go.RowKit
instance kpoW:Pl.Kpo World:=⟨Keep qe,fun w=>Keep.refl _ w,fun _ _ _ h k=>h.trans k⟩
namespace Pl
variable {Ω:Type} [Kpo Ω]
section
variable {P:Program} {Q:Exit->Act->World->Prop} {a0:Act} {w0:World} {C:World->Prop} {E:List (Option Tmp × VP World)->Prop} {l:List Oper} {o:Oper} {env:List (Option Tmp × VP World)} {f:Nat->Nat}
end
end Pl
end Go.Proofs.YtonhfknjcbakiaaGreatDoor
