import Derived.Test.YtopfkkogooocgaaGreatB4
set_option linter.unusedVariables false
set_option linter.unusedSimpArgs false
namespace Go.Proofs.YtopfkkogooocgaaGreat
open Go.RowKit
def zlE (f:Nat->Nat) (e:Edge):Edge:={ e with on:=f e.on }
def jA (f:Nat->Nat) (o:Oper):Oper:={ o with after:=o.after.map (zlE f),guard:=o.guard.map fun y=>(f y.1,y.2) }
def z8 (l:List Oper) (σ:List Nat):List Oper:=σ.map fun i=>jA (fun j=>σ.idxOf j) (l.getD i default)
def q9 (n:Nat) (σ:List Nat):Bool:=σ.length == n && (List.range n).all (fun i=>decide (σ.idxOf i<n)) && (List.range n).all fun k=>decide (σ.getD k n<n) && decide (σ.idxOf (σ.getD k n)=k)
section
variable {P:Program} {Q:Exit->Act->World->Prop} {l:List Oper} {σ:List Nat}
theorem Xq (f:Nat->Nat) (o:Oper) (a:Act) (w:World) (K:Act->World->Prop):(jA f o).wp P a w K Q=o.wp P a w K Q:=by cases o;rfl
theorem zbD (f:Nat->Nat) (o:Oper) (a:Act) (w:World):(jA f o).asks P a w=o.asks P a w:=by cases o;rfl
theorem qU {n:Nat} (h:q9 n σ=true):σ.length=n/\(∀ i,i<n->σ.idxOf i<n)/\∀ k,k<n->σ.getD k n<n/\σ.idxOf (σ.getD k n)=k:=by
 unfold q9 at h
 simp only [Bool.and_eq_true,beq_iff_eq,List.all_eq_true,List.mem_range,decide_eq_true_eq] at h
 exact⟨h.1.1,h.1.2,h.2⟩
theorem vP {n i:Nat} (h:q9 n σ=true) (hi:i<n):σ.getD (σ.idxOf i) n=i:=by
 obtain⟨h1,h2,h3⟩:=qU h
 have h4:=h2 i hi
 rw [List.getD_eq_getElem?_getD,List.getElem?_eq_getElem (by omega)]
 exact List.getElem_idxOf (by omega)
theorem VD {n j:Nat} (h:q9 n σ=true) (hj:n<=j):σ.idxOf j=n:=by
 obtain⟨h1,h2,h3⟩:=qU h
 rw [<-h1]
 refine List.idxOf_eq_length fun hm=>?_
 obtain⟨k,hk,e⟩:=List.getElem_of_mem hm
 have:=(h3 k (by omega)).1
 rw [List.getD_eq_getElem?_getD,List.getElem?_eq_getElem hk] at this
 simp at this
 omega
theorem Qt {k:Nat} (h:q9 l.length σ=true) (hk:k<l.length):∃ o,l[σ.getD k l.length]? = some o/\(z8 l σ)[k]? = some (jA (fun j=>σ.idxOf j) o):=by
 obtain⟨h1,h2,h3⟩:=qU h
 have h4:=(h3 k hk).1
 refine⟨l[σ.getD k l.length],List.getElem?_eq_getElem h4,?_⟩
 unfold z8
 have e:σ[k]? = some (σ.getD k l.length):=by
  rw [List.getD_eq_getElem?_getD,List.getElem?_eq_getElem (by omega)]
  rfl
 rw [List.getElem?_map,e]
 simp only [Option.map_some]
 congr 2
 rw [List.getD_eq_getElem?_getD,List.getElem?_eq_getElem h4]
 rfl
structure PermM (n:Nat) (σ:List Nat) (m m':Array Bool):Prop where
 s:m.size=n
 s':m'.size=n
 h:∀ k,k<n->m'.getD k false=m.getD (σ.getD k n) false
theorem PermM.at {n:Nat} {m m':Array Bool} (hp:q9 n σ=true) (h:PermM n σ m m') (j:Nat):m'.getD (σ.idxOf j) false=m.getD j false:=by
 obtain⟨h1,h2,h3⟩:=qU hp
 rcases Nat.lt_or_ge j n with hj | hj
 ·rw [h.h _ (h2 j hj),vP hp hj]
 ·rw [VD hp hj]
  have e1:m'.getD n false=false:=by
   rw [Array.getD_eq_getD_getElem?,Array.getElem?_eq_none (by rw [h.s'];exact Nat.le_refl _)];rfl
  have e2:m.getD j false=false:=by
   rw [Array.getD_eq_getD_getElem?,Array.getElem?_eq_none (by rw [h.s];exact hj)];rfl
  rw [e1,e2]
theorem K0 {m:Array Bool} {i:Nat} (h:i<m.size):m.getD i true=m.getD i false:=by simp [h]
theorem PermM.set {n k:Nat} {m m':Array Bool} (hp:q9 n σ=true) (h:PermM n σ m m') (hk:k<n):PermM n σ (m.setIfInBounds (σ.getD k n) true) (m'.setIfInBounds k true):=by
 obtain⟨h1,h2,h3⟩:=qU hp
 refine⟨by simpa using h.s,by simpa using h.s',fun j hj=>?_⟩
 by_cases e:j=k
 ·subst e
  rw [zl (by rw [h.s'];exact hj),zl (by rw [h.s];exact(h3 j hj).1)]
 ·have e':σ.getD j n≠σ.getD k n:=fun e2=>e (by have:=(h3 j hj).2;have:=(h3 k hk).2;rw [e2] at *;omega)
  rw [zj e,zj e',h.h j hj]
theorem xG {ops:Array Oper} {m:Array Bool} {i:Nat}:i ∈ Region.ready .any ops m ↔ i<ops.size/\m.getD i true=false/\∃ o,ops[i]? = some o/\(o.after.all fun e=>!Region.binds .any e || m.getD e.on false)=true:=by
 unfold Region.ready
 simp only [List.mem_filter,List.mem_range,Bool.and_eq_true,Bool.not_eq_true']
 refine and_congr_right fun hi=>and_congr_right fun _=>?_
 rw [Array.getElem?_eq_getElem hi]
 simp
theorem jZ {m m':Array Bool} {k:Nat} (hp:q9 l.length σ=true) (h:PermM l.length σ m m') (hk:k<l.length):k ∈ Region.ready .any (z8 l σ).toArray m' ↔ σ.getD k l.length ∈ Region.ready .any l.toArray m:=by
 obtain⟨h1,h2,h3⟩:=qU hp
 obtain⟨o,g1,g2⟩:=Qt hp hk
 have hlen:(z8 l σ).length=l.length:=by unfold z8;simpa using h1
 have e:(m'.getD k true=false) ↔ (m.getD (σ.getD k l.length) true=false):=by
  rw [K0 (by rw [h.s'];exact hk),K0 (by rw [h.s];exact(h3 k hk).1),h.h k hk]
 have e2:((jA (fun j=>σ.idxOf j) o).after.all fun e=>!Region.binds .any e || m'.getD e.on false)=(o.after.all fun e=>!Region.binds .any e || m.getD e.on false):=by
  show ((o.after.map (zlE fun j=>σ.idxOf j)).all fun e=>!Region.binds .any e || m'.getD e.on false)=_
  rw [Array.all_map]
  congr 1
  funext e
  show (!Region.binds .any e || m'.getD (σ.idxOf e.on) false)=_
  rw [h.at hp]
 rw [xG,xG,e]
 simp only [List.size_toArray,hlen,List.getElem?_toArray,g1,g2,Option.some.injEq,exists_eq_left',e2,hk,(h3 k hk).1]
theorem J6 (hp:q9 l.length σ=true) (tmps:Array Value) (j:Nat):yielded (z8 l σ).toArray tmps (σ.idxOf j)=yielded l.toArray tmps j:=by
 obtain⟨h1,h2,h3⟩:=qU hp
 have hlen:(z8 l σ).length=l.length:=by unfold z8;simpa using h1
 have e:((z8 l σ).toArray[σ.idxOf j]?).bind (·.dst)=(l.toArray[j]?).bind (·.dst):=by
  simp only [List.getElem?_toArray]
  rcases Nat.lt_or_ge j l.length with hj | hj
  ·obtain⟨o,g1,g2⟩:=Qt hp (h2 j hj)
   rw [vP hp hj] at g1
   rw [g1,g2]
   rfl
  ·rw [VD hp hj,List.getElem?_eq_none (by omega),List.getElem?_eq_none hj]
 unfold yielded
 rw [e]
theorem VE (hp:q9 l.length σ=true) (o:Oper) (tmps:Array Value):Region.wanted (jA (fun j=>σ.idxOf j) o) (yielded (z8 l σ).toArray tmps)=Region.wanted o (yielded l.toArray tmps):=by
 unfold Region.wanted jA
 cases o.guard with
 | none=>rfl
 | some y=>obtain⟨j,b⟩:=y;simp only [Option.map_some,J6 hp]
theorem Kx (hp:q9 l.length σ=true):∀(fuel:Nat) (m m':Array Bool) (a:Act) (w:World),PermM l.length σ m m'->wpAny P .any (z8 l σ).toArray Q fuel m' a w->wpAny P .any l.toArray Q fuel m a w:=by
 obtain⟨h1,h2,h3⟩:=qU hp
 have nil:∀ {m m':Array Bool},PermM l.length σ m m'->Region.ready .any l.toArray m=[]->Region.ready .any (z8 l σ).toArray m'=[]:=fun {m m'} h e=>by
  refine List.eq_nil_iff_forall_not_mem.2 fun k hk=>?_
  have hlen:(z8 l σ).length=l.length:=by unfold z8;simpa using h1
  have hkl:k<l.length:=by have:=(xG.1 hk).1;simp only [List.size_toArray,hlen] at this;exact this
  have:=(jZ hp h hkl).1 hk
  rw [e] at this
  cases this
 have nil':∀ {m m':Array Bool},PermM l.length σ m m'->Region.ready .any (z8 l σ).toArray m'=[]->Region.ready .any l.toArray m=[]:=fun {m m'} h e=>by
  refine List.eq_nil_iff_forall_not_mem.2 fun i hi=>?_
  have hil:i<l.length:=by simpa using (xG.1 hi).1
  have:=(jZ hp h (h2 i hil)).2 (by rw [vP hp hil];exact hi)
  rw [e] at this
  cases this
 intro fuel
 induction fuel with
 | zero=>intro m m' a w h hw;exact⟨nil' h hw.1,hw.2⟩
 | succ fuel ih=>
   intro m m' a w h hw
   refine⟨fun e=>hw.1 (nil h e),fun i hi=>?_⟩
   have hil:i<l.length:=by simpa using (xG.1 hi).1
   have hk:=h2 i hil
   have hr:=(jZ hp h hk).2 (by rw [vP hp hil];exact hi)
   have hs:=hw.2 _ hr
   obtain⟨o,g1,g2⟩:=Qt hp hk
   have hM:=h.set hp hk
   rw [vP hp hil] at g1 hM
   unfold wpOp at hs ⊢
   simp only [List.getElem?_toArray,g1,g2,VE hp,Xq,zbD] at hs ⊢
   split
   ·rename_i hwa
    rw [if_pos hwa] at hs
    exact hs.imp (Oper.wp_mono fun a w hK=>ih _ _ a w hM hK) id
   ·rename_i hwa
    rw [if_neg hwa] at hs
    exact ih _ _ _ w hM hs
theorem xd (hp:q9 l.length σ=true) {a:Act} {w:World} (h:wpAny P .any (z8 l σ).toArray Q (z8 l σ).toArray.size (Array.replicate (z8 l σ).toArray.size false) a w):wpAny P .any l.toArray Q l.toArray.size (Array.replicate l.toArray.size false) a w:=by
 obtain⟨h1,h2,h3⟩:=qU hp
 have hlen:(z8 l σ).length=l.length:=by unfold z8;simpa using h1
 simp only [List.size_toArray,hlen] at h ⊢
 refine Kx hp _ _ _ a w ⟨by simp,by simp,fun k hk=>?_⟩ h
 have hf:∀ i:Nat,(Array.replicate l.length false).getD i false=false:=fun i=>by
  simp only [Array.getD_eq_getD_getElem?,Array.getElem?_replicate]
  split<;>rfl
 rw [hf,hf]
end
end Go.Proofs.YtopfkkogooocgaaGreat
