import Derived.Test.YtonhfknjcbakiaaGreatDoorB14
set_option linter.unusedVariables false
set_option linter.unusedSimpArgs false
namespace Go.Proofs.YtonhfknjcbakiaaGreatDoor
open Go.RowKit
def zgV (P:Program) (w:Nat) (u:List Nat) (id:Nat) (j:Array Oper) (a:Bool):PC:=(qx P w u (.region id j a)).getD .sk
def zgW (c:Operand):PO:=(po c).getD (.c .und)
def pcT (P:Program) (u:Nat) (j:List Nat) (k:Nat) (X:PC):Code->PC
 | .region id ops draw=>if id=k then X else zgV P u j id ops draw
 | .seq a b=>.sq (pcT P u j k X a) (pcT P u j k X b)
 | .cond c a b=>.cd (zgW c) (pcT P u j k X a) (pcT P u j k X b)
 | .block id a=>.bk id (pcT P u j k X a)
 | .loop a=>.lp [] (pcT P u j k X a)
 | .exit id=>.ex id
 | .ret=>.rt
 | .scope a=>pcT P u j k X a
 | _=>.sk
theorem zhs {P:Program} {f:FuncId} {fn:Func} (B:P.funcs[f]? = some fn) (a:List Nat) {j:List PV} {r:PV} (n:Nat) (u:zbo P fn a n=true) (hl:j.length=n) (w:∀ p ∈ j,p.own=none) (k:Nat) (X:PC) {c:Code} (A:xN fn=c) (C:qx P fn.ntmps a c=some (pcT P fn.ntmps a k X c)) (y:pW P fn.ntmps True (pcT P fn.ntmps a k X c) (jG (zgk P fn) r) ⟨qQ 0 j,[]⟩):Cn P f j r:=by
 refine zgM B a n u hl w ?_
 unfold zbt
 rw [A,C,Option.getD_some]
 exact y
end Go.Proofs.YtonhfknjcbakiaaGreatDoor
