import Derived.Test.YtopfkkogooocgaaGreatB20
import Derived.Test.YtopfkkogooocgaaGreatB31
set_option linter.unusedVariables false
set_option linter.unusedSimpArgs false
set_option maxRecDepth 100000
namespace Go.Proofs.YtopfkkogooocgaaGreat
open Go.ChangeShapes Go.WideShapes Go.ChangeAt Go.RowKit Go.Deep
def ZG (w:World):Nat->Nat->Prop:=fun b _=>b<w.heap.size
def zhi (D:Nat->Nat->Prop) (w:World):List Value->List PV->Prop
 | [],[]=>True
 | v::l,p::ps=>Dat D w v p/\zhi D w l ps
 | _,_=>False
theorem XX {D:Nat->Nat->Prop} {w:World}:∀ {l:List Value} {ps:List PV},zhi D w l ps->l.length=ps.length/\∀(i:Nat) p,ps[i]? = some p->Dat D w (l.getD i undef) p
 | [],[],_=>⟨rfl,fun i p h=>by simp at h⟩
 | v::l,p::ps,h=>by
   obtain⟨h1,h2⟩:=XX h.2
   refine⟨by simp [h1],fun i q hq=>?_⟩
   cases i with
   | zero=>cases hq;exact h.1
   | succ i=>simpa using h2 i q (by simpa using hq)
 | [],_::_,h=>h.elim
 | _::_,[],h=>h.elim
theorem zeZ {f:FuncId} {ps:List PV} {l:List Value} {W:World} (h:Cn Tryz.prog f ps (.v (.bool true))) (hgl:GL (ZG W) W) (hd:zhi (ZG W) W l ps):Calls Tryz.prog f l.toArray W fun e W'=>e=.returned (.bool true)/\Below W.heap.size W W':=by
 obtain⟨h1,h2⟩:=XX hd
 refine(h.2 (ZG W) W l.toArray hgl (fun _ _ h=>h) (by simpa using h1) (fun i p hp=>by have:=h2 i p hp;simpa [List.getD_eq_getElem?_getD] using this)).mono ?_
 rintro e W' ⟨v,D',rfl,hb,_,_,_,hv,_⟩
 rw [hv.v_inv]
 exact⟨rfl,hb⟩
section
variable {H:Type} {enc:TypeId × Value->H} {w:World} {base:Nat} {spare:Nat->Bool} {held:Bool}
end
end Go.Proofs.YtopfkkogooocgaaGreat
