import Derived.Test.YtonhfknjcbakiaaGreatDoorB18
import Derived.Test.YtonhfknjcbakiaaGreatDoorB34
set_option linter.unusedVariables false
set_option linter.unusedSimpArgs false
set_option maxRecDepth 100000
namespace Go.Proofs.YtonhfknjcbakiaaGreatDoor
open Go.ChangeShapes Go.WideShapes Go.ChangeAt Go.RowKit Go.Deep
def ZG (w:World):Nat->Nat->Prop:=fun b _=>b<w.heap.size
def zhi (D:Nat->Nat->Prop) (w:World):List Value->List PV->Prop
 | [],[]=>True
 | v::l,p::ps=>Dat D w v p/\zhi D w l ps
 | _,_=>False
theorem XX {D:Nat->Nat->Prop} {w:World}:∀ {l:List Value} {a:List PV},zhi D w l a->l.length=a.length/\∀(i:Nat) p,a[i]? = some p->Dat D w (l.getD i undef) p
 | [],[],_=>⟨rfl,fun i p h=>by simp at h⟩
 | v::l,p::a,h=>by
   obtain⟨u,y⟩:=XX h.2
   refine⟨by simp [u],fun i q j=>?_⟩
   cases i with
   | zero=>cases j;exact h.1
   | succ i=>simpa using y i q (by simpa using j)
 | [],_::_,h=>h.elim
 | _::_,[],h=>h.elim
theorem zeZ {f:FuncId} {u:List PV} {l:List Value} {W:World} (h:Cn Tryz.prog f u (.v (.bool true))) (a:GL (ZG W) W) (A:zhi (ZG W) W l u):Calls Tryz.prog f l.toArray W fun e j=>e=.returned (.bool true)/\Below W.heap.size W j:=by
 obtain⟨w,y⟩:=XX A
 refine(h.2 (ZG W) W l.toArray a (fun _ _ h=>h) (by simpa using w) (fun i p B=>by have:=y i p B;simpa [List.getD_eq_getElem?_getD] using this)).mono ?_
 rintro e j ⟨v,E,rfl,hb,_,_,_,C,_⟩
 rw [C.v_inv]
 exact⟨rfl,hb⟩
section
variable {H:Type} {enc:TypeId × Value->H} {w:World} {base:Nat} {spare:Nat->Bool} {held:Bool}
theorem zrh {r:Reach} {j:Nat} {v:Value} {d:DataW H} {u:List MemPlace} (a:Value.okWide Tryz.prog w r j 30 v) (h:DataW.Trod enc Tryz.prog w base spare held 30 v d u):∃ l,Dat (ZG w) w v (rg l)/\∀ s ∈ l,s.lo<M64/\s.hi<M64:=by
 obtain⟨l,hl⟩:=zpo a h
 exact⟨l,jp hl fun _ _ _ h=>h,hl.bound⟩
end
end Go.Proofs.YtonhfknjcbakiaaGreatDoor
