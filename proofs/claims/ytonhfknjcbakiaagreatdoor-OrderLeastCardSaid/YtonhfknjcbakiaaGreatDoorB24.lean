import Derived.Test.YtonhfknjcbakiaaGreatDoorB14
set_option linter.unusedVariables false
set_option linter.unusedSimpArgs false
namespace Go.Proofs.YtonhfknjcbakiaaGreatDoor
open Go.RowKit
def zgV (P:Program) (nt:Nat) (ms:List Nat) (id:Nat) (ops:Array Oper) (draw:Bool):PC:=(qx P nt ms (.region id ops draw)).getD .sk
def zgW (c:Operand):PO:=(po c).getD (.c .und)
def pcT (P:Program) (nt:Nat) (ms:List Nat) (k:Nat) (X:PC):Code->PC
 | .region id ops draw=>if id=k then X else zgV P nt ms id ops draw
 | .seq a b=>.sq (pcT P nt ms k X a) (pcT P nt ms k X b)
 | .cond c a b=>.cd (zgW c) (pcT P nt ms k X a) (pcT P nt ms k X b)
 | .block id a=>.bk id (pcT P nt ms k X a)
 | .loop a=>.lp [] (pcT P nt ms k X a)
 | .exit id=>.ex id
 | .ret=>.rt
 | .scope a=>pcT P nt ms k X a
 | _=>.sk
theorem zhs {P:Program} {f:FuncId} {fn:Func} (hf:P.funcs[f]? = some fn) (ms:List Nat) {ps:List PV} {r:PV} (n:Nat) (hok:zbo P fn ms n=true) (hl:ps.length=n) (hps:∀ p ∈ ps,p.own=none) (k:Nat) (X:PC) {c:Code} (hc:xN fn=c) (hx:qx P fn.ntmps ms c=some (pcT P fn.ntmps ms k X c)) (hvc:pW P fn.ntmps True (pcT P fn.ntmps ms k X c) (jG (zgk P fn) r) ⟨qQ 0 ps,[]⟩):Cn P f ps r:=by
 refine zgM hf ms n hok hl hps ?_
 unfold zbt
 rw [hc,hx,Option.getD_some]
 exact hvc
end Go.Proofs.YtonhfknjcbakiaaGreatDoor
