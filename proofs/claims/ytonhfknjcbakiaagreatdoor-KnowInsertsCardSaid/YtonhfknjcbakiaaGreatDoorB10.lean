import Derived.Test.YtonhfknjcbakiaaGreatDoorB4
set_option linter.unusedVariables false
set_option linter.unusedSimpArgs false
namespace Go.Proofs.YtonhfknjcbakiaaGreatDoor
open Go.RowKit
def zlE (f:Nat->Nat) (e:Edge):Edge:={ e with on:=f e.on }
def jA (f:Nat->Nat) (o:Oper):Oper:={ o with after:=o.after.map (zlE f),guard:=o.guard.map fun y=>(f y.1,y.2) }
def z8 (l:List Oper) (σ:List Nat):List Oper:=σ.map fun i=>jA (fun j=>σ.idxOf j) (l.getD i default)
def q9 (n:Nat) (σ:List Nat):Bool:=σ.length == n && (List.range n).all (fun i=>decide (σ.idxOf i<n)) && (List.range n).all fun k=>decide (σ.getD k n<n) && decide (σ.idxOf (σ.getD k n)=k)
section
variable {P:Program} {Q:Exit->Act->World->Prop} {l:List Oper} {σ:List Nat}
theorem Xq (f:Nat->Nat) (o:Oper) (a:Act) (w:World) (K:Act->World->Prop):(jA f o).wp P a w K Q=o.wp P a w K Q:=by cases o;rfl
theorem zbD (f:Nat->Nat) (o:Oper) (a:Act) (w:World):(jA f o).asks P a w=o.asks P a w:=by cases o;rfl
theorem qU {n:Nat} (h:q9 n σ=true):σ.length=n/\(∀ i,i<n->σ.idxOf i<n)/\∀ k,k<n->σ.getD k n<n/\σ.idxOf (σ.getD k n)=k:=by
 unfold q9 at h
 simp only [Bool.and_eq_true,beq_iff_eq,List.all_eq_true,List.mem_range,decide_eq_true_eq] at h
 exact⟨h.1.1,h.1.2,h.2⟩
theorem vP {n i:Nat} (h:q9 n σ=true) (hi:i<n):σ.getD (σ.idxOf i) n=i:=by
 obtain⟨j,a,u⟩:=qU h
 have w:=a i hi
 rw [List.getD_eq_getElem?_getD,List.getElem?_eq_getElem (by omega)]
 exact List.getElem_idxOf (by omega)
theorem VD {n j:Nat} (h:q9 n σ=true) (A:n<=j):σ.idxOf j=n:=by
 obtain⟨a,y,u⟩:=qU h
 rw [<-a]
 refine List.idxOf_eq_length fun w=>?_
 obtain⟨k,hk,e⟩:=List.getElem_of_mem w
 have:=(u k (by omega)).1
 rw [List.getD_eq_getElem?_getD,List.getElem?_eq_getElem hk] at this
 simp at this
 omega
theorem Qt {k:Nat} (h:q9 l.length σ=true) (hk:k<l.length):∃ o,l[σ.getD k l.length]? = some o/\(z8 l σ)[k]? = some (jA (fun j=>σ.idxOf j) o):=by
 obtain⟨w,y,u⟩:=qU h
 have a:=(u k hk).1
 refine⟨l[σ.getD k l.length],List.getElem?_eq_getElem a,?_⟩
 unfold z8
 have e:σ[k]? = some (σ.getD k l.length):=by
  rw [List.getD_eq_getElem?_getD,List.getElem?_eq_getElem (by omega)]
  rfl
 rw [List.getElem?_map,e]
 simp only [Option.map_some]
 congr 2
 rw [List.getD_eq_getElem?_getD,List.getElem?_eq_getElem a]
 rfl
structure PermM (n:Nat) (σ:List Nat) (m m':Array Bool):Prop where
 s:m.size=n
 s':m'.size=n
 h:∀ k,k<n->m'.getD k false=m.getD (σ.getD k n) false
theorem PermM.at {n:Nat} {m w:Array Bool} (u:q9 n σ=true) (h:PermM n σ m w) (j:Nat):w.getD (σ.idxOf j) false=m.getD j false:=by
 obtain⟨A,y,B⟩:=qU u
 rcases Nat.lt_or_ge j n with a | a
 ·rw [h.h _ (y j a),vP u a]
 ·rw [VD u a]
  have e1:w.getD n false=false:=by
   rw [Array.getD_eq_getD_getElem?,Array.getElem?_eq_none (by rw [h.s'];exact Nat.le_refl _)];rfl
  have e2:m.getD j false=false:=by
   rw [Array.getD_eq_getD_getElem?,Array.getElem?_eq_none (by rw [h.s];exact a)];rfl
  rw [e1,e2]
theorem K0 {m:Array Bool} {i:Nat} (h:i<m.size):m.getD i true=m.getD i false:=by simp [h]
theorem PermM.set {n k:Nat} {m w:Array Bool} (A:q9 n σ=true) (h:PermM n σ m w) (hk:k<n):PermM n σ (m.setIfInBounds (σ.getD k n) true) (w.setIfInBounds k true):=by
 obtain⟨B,C,u⟩:=qU A
 refine⟨by simpa using h.s,by simpa using h.s',fun j a=>?_⟩
 by_cases e:j=k
 ·subst e
  rw [zl (by rw [h.s'];exact a),zl (by rw [h.s];exact(u j a).1)]
 ·have y:σ.getD j n≠σ.getD k n:=fun e2=>e (by have:=(u j a).2;have:=(u k hk).2;rw [e2] at *;omega)
  rw [zj e,zj y,h.h j a]
theorem xG {a:Array Oper} {m:Array Bool} {i:Nat}:i ∈ Region.ready .any a m ↔ i<a.size/\m.getD i true=false/\∃ o,a[i]? = some o/\(o.after.all fun e=>!Region.binds .any e || m.getD e.on false)=true:=by
 unfold Region.ready
 simp only [List.mem_filter,List.mem_range,Bool.and_eq_true,Bool.not_eq_true']
 refine and_congr_right fun hi=>and_congr_right fun _=>?_
 rw [Array.getElem?_eq_getElem hi]
 simp
theorem jZ {m a:Array Bool} {k:Nat} (w:q9 l.length σ=true) (h:PermM l.length σ m a) (hk:k<l.length):k ∈ Region.ready .any (z8 l σ).toArray a ↔ σ.getD k l.length ∈ Region.ready .any l.toArray m:=by
 obtain⟨C,E,y⟩:=qU w
 obtain⟨o,A,B⟩:=Qt w hk
 have u:(z8 l σ).length=l.length:=by unfold z8;simpa using C
 have e:(a.getD k true=false) ↔ (m.getD (σ.getD k l.length) true=false):=by
  rw [K0 (by rw [h.s'];exact hk),K0 (by rw [h.s];exact(y k hk).1),h.h k hk]
 have e2:((jA (fun j=>σ.idxOf j) o).after.all fun e=>!Region.binds .any e || a.getD e.on false)=(o.after.all fun e=>!Region.binds .any e || m.getD e.on false):=by
  show ((o.after.map (zlE fun j=>σ.idxOf j)).all fun e=>!Region.binds .any e || a.getD e.on false)=_
  rw [Array.all_map]
  congr 1
  funext e
  show (!Region.binds .any e || a.getD (σ.idxOf e.on) false)=_
  rw [h.at w]
 rw [xG,xG,e]
 simp only [List.size_toArray,u,List.getElem?_toArray,A,B,Option.some.injEq,exists_eq_left',e2,hk,(y k hk).1]
theorem J6 (w:q9 l.length σ=true) (a:Array Value) (j:Nat):yielded (z8 l σ).toArray a (σ.idxOf j)=yielded l.toArray a j:=by
 obtain⟨C,E,F⟩:=qU w
 have A:(z8 l σ).length=l.length:=by unfold z8;simpa using C
 have e:((z8 l σ).toArray[σ.idxOf j]?).bind (·.dst)=(l.toArray[j]?).bind (·.dst):=by
  simp only [List.getElem?_toArray]
  rcases Nat.lt_or_ge j l.length with u | u
  ·obtain⟨o,y,B⟩:=Qt w (E j u)
   rw [vP w u] at y
   rw [y,B]
   rfl
  ·rw [VD w u,List.getElem?_eq_none (by omega),List.getElem?_eq_none u]
 unfold yielded
 rw [e]
theorem VE (u:q9 l.length σ=true) (o:Oper) (a:Array Value):Region.wanted (jA (fun j=>σ.idxOf j) o) (yielded (z8 l σ).toArray a)=Region.wanted o (yielded l.toArray a):=by
 unfold Region.wanted jA
 cases o.guard with
 | none=>rfl
 | some y=>obtain⟨j,b⟩:=y;simp only [Option.map_some,J6 u]
theorem Kx (A:q9 l.length σ=true):∀(j:Nat) (m y:Array Bool) (a:Act) (w:World),PermM l.length σ m y->wpAny P .any (z8 l σ).toArray Q j y a w->wpAny P .any l.toArray Q j m a w:=by
 obtain⟨K,I,N⟩:=qU A
 have nil:∀ {m y:Array Bool},PermM l.length σ m y->Region.ready .any l.toArray m=[]->Region.ready .any (z8 l σ).toArray y=[]:=fun {m y} h e=>by
  refine List.eq_nil_iff_forall_not_mem.2 fun k hk=>?_
  have B:(z8 l σ).length=l.length:=by unfold z8;simpa using K
  have G:k<l.length:=by have:=(xG.1 hk).1;simp only [List.size_toArray,B] at this;exact this
  have:=(jZ A h G).1 hk
  rw [e] at this
  cases this
 have E:∀ {m y:Array Bool},PermM l.length σ m y->Region.ready .any (z8 l σ).toArray y=[]->Region.ready .any l.toArray m=[]:=fun {m y} h e=>by
  refine List.eq_nil_iff_forall_not_mem.2 fun i hi=>?_
  have u:i<l.length:=by simpa using (xG.1 hi).1
  have:=(jZ A h (I i u)).2 (by rw [vP A u];exact hi)
  rw [e] at this
  cases this
 intro j
 induction j with
 | zero=>intro m y a w h C;exact⟨E h C.1,C.2⟩
 | succ j ih=>
   intro m y a w h C
   refine⟨fun e=>C.1 (nil h e),fun i hi=>?_⟩
   have u:i<l.length:=by simpa using (xG.1 hi).1
   have hk:=I i u
   have M:=(jZ A h hk).2 (by rw [vP A u];exact hi)
   have hs:=C.2 _ M
   obtain⟨o,H,J⟩:=Qt A hk
   have F:=h.set A hk
   rw [vP A u] at H F
   unfold wpOp at hs ⊢
   simp only [List.getElem?_toArray,H,J,VE A,Xq,zbD] at hs ⊢
   split
   ·rename_i hwa
    rw [if_pos hwa] at hs
    exact hs.imp (Oper.wp_mono fun a w L=>ih _ _ a w F L) id
   ·rename_i hwa
    rw [if_neg hwa] at hs
    exact ih _ _ _ w F hs
theorem xd (y:q9 l.length σ=true) {a:Act} {w:World} (h:wpAny P .any (z8 l σ).toArray Q (z8 l σ).toArray.size (Array.replicate (z8 l σ).toArray.size false) a w):wpAny P .any l.toArray Q l.toArray.size (Array.replicate l.toArray.size false) a w:=by
 obtain⟨A,B,C⟩:=qU y
 have j:(z8 l σ).length=l.length:=by unfold z8;simpa using A
 simp only [List.size_toArray,j] at h ⊢
 refine Kx y _ _ _ a w ⟨by simp,by simp,fun k hk=>?_⟩ h
 have u:∀ i:Nat,(Array.replicate l.length false).getD i false=false:=fun i=>by
  simp only [Array.getD_eq_getD_getElem?,Array.getElem?_replicate]
  split<;>rfl
 rw [u,u]
end
end Go.Proofs.YtonhfknjcbakiaaGreatDoor
