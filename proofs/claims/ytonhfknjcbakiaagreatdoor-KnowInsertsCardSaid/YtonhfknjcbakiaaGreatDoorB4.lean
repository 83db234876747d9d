import Derived.Test.YtonhfknjcbakiaaGreatDoorB2
set_option linter.unusedVariables false
set_option linter.unusedSimpArgs false
namespace Go.Proofs.YtonhfknjcbakiaaGreatDoor
open Go.RowKit
abbrev VP:=Value->World->Prop
abbrev qe:Nat->Prop:=fun _=>False
def zJ (ops:Array Oper) (j:Nat):Option Tmp:=(ops[j]?).bind (·.dst)
def edge (ops:Array Oper) (i j:Nat):Bool:=match ops[i]? with | some o=>o.after.any fun e=>Region.binds .any e && e.on == j | none=>false
def zA (o:Oper):List Tmp:=o.op.operands.toList.filterMap fun | .tmp t=>some t | _=>none
def RdEq (a:Act) (t:Tmp) (u:Value):Prop:=a.eval (.tmp t)=u/\a.tmps.getD t undef=u/\a.tmps[t]?.getD undef=u
theorem RdEq.of {a:Act} {t:Tmp} {u:Value} (h:a.tmps.getD t undef=u):RdEq a t u:=⟨h,h,by rw [<-h];simp⟩
def XG (ops:Array Oper) (nh:Nat) (t:Tmp):Option Nat:=(List.range nh).find? fun j=>zJ ops j == some t
def yB (ops:Array Oper) (nh i:Nat) (t:Tmp):Bool:=
 match XG ops nh t with
 | some j=>if j<i then edge ops i j else if i<j then edge ops j i else true
 | none=>true
def xk (ops:Array Oper) (nh a:Nat):Bool:=
 decide (nh<=ops.size) &&
 (List.range nh).all fun i=>
   match ops[i]? with
   | none=>false
   | some o=>((zA o).all (yB ops nh i)) &&
     (match o.guard with | none=>true | some (j,_)=>decide (j<i) && edge ops i j && (zJ ops j).isSome) &&
     (match o.dst with | none=>true | some d=>decide (d<a) && (List.range nh).all fun j=>decide (j=i) || !(zJ ops j == some d)) &&
     (decide (nh=ops.size) || (List.range (nh+1)).any fun j=>decide (i<j) && edge ops j i)
def yK (ops:Array Oper) (nh:Nat):Bool:=(List.range ops.size).all fun t=>(decide (t<=nh) || edge ops t (t - 1)) && match ops[t]? with | some o=>o.after.all fun e=>!Region.binds .any e || decide (e.on<t) | none=>false
section
variable {ops:Array Oper} {nh:Nat}
theorem Z1 {i j:Nat} {o:Oper} (ho:ops[i]? = some o):edge ops i j=true ↔ ∃ e ∈ o.after,Region.binds .any e=true/\e.on=j:=by
 unfold edge
 simp only [ho]
 rw [Array.any_eq_true']
 constructor
 ·rintro⟨e,a,hb⟩
  simp only [Bool.and_eq_true,beq_iff_eq] at hb
  exact⟨e,a,hb.1,hb.2⟩
 ·rintro⟨e,a,hb,rfl⟩
  exact⟨e,a,by simp [hb]⟩
theorem zx {a:Array Bool} {i:Nat} (h:a.getD i true=false):a.getD i false=false/\i<a.size:=by
 rcases Nat.lt_or_ge i a.size with j | j
 ·simp [j] at h ⊢;exact h
 ·simp [Array.getElem?_eq_none j] at h
theorem zfm {a:Array Bool} {i:Nat} (h:a.getD i false=false) (hi:i<a.size):a.getD i true=false:=by
 simp [hi] at h ⊢;exact h
theorem zl {a:Array Bool} {i:Nat} (hi:i<a.size):(a.setIfInBounds i true).getD i false=true:=by simp [hi]
theorem zj {a:Array Bool} {i j:Nat} (h:j≠i):(a.setIfInBounds i true).getD j false=a.getD j false:=by
 simp [Array.getElem?_setIfInBounds_ne (Ne.symm h)]
theorem yh {a:Act} {d:Tmp} {u:Value} (h:d<a.tmps.size):(a.put (some d) u).tmps.getD d undef=u:=by simp [Act.put,h]
theorem qn {a:Act} {d t:Tmp} {u:Value} (h:t≠d):(a.put (some d) u).tmps.getD t undef=a.tmps.getD t undef:=by
 simp [Act.put,Array.getElem?_setIfInBounds_ne (Ne.symm h)]
theorem yb {B i:Nat} (h:xk ops nh B=true) (hi:i<nh):∃ o,ops[i]? = some o/\(∀ t ∈ zA o,yB ops nh i t=true) /\
 (∀ j b,o.guard=some (j,b)->j<i/\edge ops i j=true/\(zJ ops j).isSome)/\(∀ d,o.dst=some d->d<B/\∀ j,j<nh->zJ ops j=some d->j=i) /\
 (nh=ops.size\/∃ j,j<=nh/\i<j/\edge ops j i=true):=by
 unfold xk at h
 simp only [Bool.and_eq_true,List.all_eq_true,List.mem_range] at h
 have h:=h.2 i hi
 cases ho:ops[i]? with
 | none=>simp [ho] at h
 | some o=>
   simp only [ho,Bool.and_eq_true,List.all_eq_true,Bool.or_eq_true,decide_eq_true_eq,List.any_eq_true,List.mem_range] at h
   obtain⟨⟨⟨C,a⟩,u⟩,w⟩:=h
   refine⟨o,rfl,C,?_,?_,?_⟩
   ·intro j b H
    simp only [H,Bool.and_eq_true,decide_eq_true_eq] at a
    exact⟨a.1.1,a.1.2,a.2⟩
   ·intro d G
    simp only [G,Bool.and_eq_true,decide_eq_true_eq,List.all_eq_true,List.mem_range,Bool.or_eq_true,Bool.not_eq_true',beq_eq_false_iff_ne] at u
    exact⟨u.1,fun j A e=>(u.2 j A).resolve_right fun y=>y e⟩
   ·rcases w with w | ⟨j,A,E,F⟩
    ·exact .inl w
    ·exact .inr ⟨j,by omega,E,F⟩
theorem xf {t:Tmp} {j:Nat} (h:XG ops nh t=some j):j<nh/\zJ ops j=some t:=by
 have a:=List.find?_some h
 have u:=List.mem_of_find?_eq_some h
 simp at a u
 exact⟨u,a⟩
theorem jw {t:Tmp} {j:Nat} (u:j<nh) (h:zJ ops j=some t):∃ a,XG ops nh t=some a:=by
 cases hw:XG ops nh t with
 | some a=>exact⟨a,rfl⟩
 | none=>
   have:=List.find?_eq_none.1 hw j (by simpa using u)
   simp [h] at this
theorem Act.ext' {a b:Act} (hs:a.tmps.size=b.tmps.size) (u:a.defers=b.defers) (h:∀ t,t<b.tmps.size->a.tmps.getD t undef=b.tmps.getD t undef):a=b:=by
 obtain⟨y,B⟩:=a
 obtain⟨A,C⟩:=b
 simp only at hs u h
 subst u
 have:y=A:=Array.ext hs fun i w j=>by
  have:=h i j
  simpa [w,j] using this
 rw [this]
theorem yS {j:Nat} {d:Tmp} {tmps:Array Value} (a:zJ ops j=some d) (hs:d<tmps.size):yielded ops tmps j=match tmps.getD d undef with | .bool b=>some b | _=>none:=by
 unfold yielded
 unfold zJ at a
 rw [a]
 simp only [Option.bind_some,Array.getElem?_eq_getElem hs,Array.getD_eq_getD_getElem?,Option.getD_some]
 split<;>simp_all
theorem qP {t:Nat} (h:yK ops nh=true) (ht:t<ops.size):(t<=nh\/edge ops t (t - 1)=true)/\∀ j,edge ops t j=true->j<t:=by
 unfold yK at h
 rw [List.all_eq_true] at h
 have h:=h t (by simpa using ht)
 simp only [Bool.and_eq_true,Bool.or_eq_true,decide_eq_true_eq] at h
 refine⟨h.1,fun j w=>?_⟩
 have a:=h.2
 cases ho:ops[t]? with
 | none=>simp [ho] at a
 | some o=>
   simp only [ho,Array.all_eq_true'] at a
   obtain⟨e,u,hb,rfl⟩:=(Z1 ho).1 w
   have:=a e u
   simpa [hb] using this
theorem zo {i:Nat} {a:Array Bool} (h:i ∈ Region.ready .any ops a):a.getD i true=false/\i<ops.size/\(∃ o,ops[i]? = some o)/\∀ j,edge ops i j=true->a.getD j false=true:=by
 obtain⟨u,o,ho,w⟩:=mem_ready.1 h
 refine⟨u,(Array.getElem?_eq_some_iff.1 ho).1,⟨o,ho⟩,fun j A=>?_⟩
 obtain⟨e,y,hb,rfl⟩:=(Z1 ho).1 A
 exact w e y hb
theorem zd1 {i:Nat} {a:Array Bool} {o:Oper} (ho:ops[i]? = some o) (u:a.getD i true=false) (w:∀ j,edge ops i j=true->a.getD j false=true):i ∈ Region.ready .any ops a:=
 mem_ready.2 ⟨u,o,ho,fun e y hb=>w _ ((Z1 ho).2 ⟨e,y,hb,rfl⟩)⟩
theorem qh {a:Array Bool} (w:yK ops nh=true) (hs:a.size=ops.size):∀(i:Nat),i<ops.size->a.getD i false=false->∃ k,k ∈ Region.ready .any ops a:=by
 intro i
 induction i using Nat.strongRecOn with
 | _ i ih=>
   intro hi A
   by_cases u:∀ j,edge ops i j=true->a.getD j false=true
   ·exact⟨i,zd1 (Array.getElem?_eq_getElem hi) (zfm A (by omega)) u⟩
   ·have:∃ j,edge ops i j=true/\a.getD j false=false:=by
     apply Classical.byContradiction
     intro B
     refine u fun j y=>?_
     cases h:a.getD j false with
     | true=>rfl
     | false=>exact absurd ⟨j,y,h⟩ B
    obtain⟨j,y,C⟩:=this
    have:=(qP w hi).2 j y
    exact ih j this (by omega) C
theorem qM:∀(l S:List Nat),l.Nodup->l ⊆ S->l.length<=S.length
 | [],_,_,_=>Nat.zero_le _
 | x::l,S,hn,hs=>by
   have a:x ∈ S:=hs (by simp)
   have u:l ⊆ S.erase x:=fun y j=>(List.mem_erase_of_ne (fun e=>(List.nodup_cons.1 hn).1 (by rw [<-e];exact j))).2 (hs (by simp [j]))
   have:=qM l (S.erase x) (List.nodup_cons.1 hn).2 u
   rw [List.length_erase_of_mem a] at this
   have:=List.length_pos_of_mem a
   simp;omega
end
structure Hd (p:Prop):Prop where
 h:p
end Go.Proofs.YtonhfknjcbakiaaGreatDoor
namespace Go.Proofs.YtonhfknjcbakiaaGreatDoor.Pl
open Go.RowKit
set_option linter.unusedSectionVars false
abbrev VP (Ω:Type):=Value->Ω->Prop
class Kpo (Ω:Type) where
 kp:Ω->Ω->Prop
 refl:∀ w,kp w w
 trans:∀ a b c,kp a b->kp b c->kp a c
variable {Ω:Type} [Kpo Ω]
def lk:List (Option Tmp × VP Ω)->Tmp->Option (VP Ω)
 | [],_=>none
 | (d,V)::r,t=>if d=some t then some V else lk r t
def Rds (env:List (Option Tmp × VP Ω)) (a0:Act):List Tmp->Act->Ω->Prop
 | [],_,_=>True
 | t::ts,a,w=>(match lk env t with | some V=>∃ u,RdEq a t u/\V u w | none=>RdEq a t (a0.tmps.getD t undef))/\Rds env a0 ts a w
def headOk (y:Oper->Act->Ω->(Act->Ω->Prop)->Prop) (a0:Act) (w0:Ω) (C:Ω->Prop) (env:List (Option Tmp × VP Ω)) (o:Oper) (V:VP Ω):Prop:=
 ∀ a w,C w->Kpo.kp w0 w->Rds env a0 (zA o) a w->∀ K:Act->Ω->Prop,(∀ u j,Kpo.kp w j->C j->V u j->K (a.put o.dst u) j)->y o a w K
def isV (env:List (Option Tmp × VP Ω)) (j:Nat) (x:Value):Prop:=match env[j]? with | some (_,V)=>∀ u w,V u w->u=x | none=>False
def stepOk (a:Oper->Act->Ω->(Act->Ω->Prop)->Prop) (a0:Act) (w0:Ω) (C:Ω->Prop) (env:List (Option Tmp × VP Ω)) (o:Oper) (V:VP Ω):Prop:=
 match o.guard with
 | none=>headOk a a0 w0 C env o V
 | some (j,b)=>(isV env j (.bool b)/\headOk a a0 w0 C env o V)\/((isV env j (.bool !b)\/isV env j undef)/\V=fun u _=>u=undef)
def finG (F:Act->Ω->Prop) (w:Ω):List (Option Tmp × VP Ω)->Act->Prop
 | [],a=>F a w
 | (none,_)::r,a=>finG F w r a
 | (some d,V)::r,a=>∀ u,V u w->finG F w r (a.put (some d) u)
def walkG (a:Oper->Act->Ω->(Act->Ω->Prop)->Prop) (a0:Act) (w0:Ω) (C:Ω->Prop) (F:Act->Ω->Prop):List Oper->List (Option Tmp × VP Ω)->Prop
 | [],env=>∀ w,C w->Kpo.kp w0 w->finG F w env a0
 | o::l,env=>∃ V:VP Ω,(∀ u w j,V u w->Kpo.kp w j->V u j)/\stepOk a a0 w0 C env o V/\walkG a a0 w0 C F l (env++[(o.dst,V)])
structure GI (ops:Array Oper) (nh:Nat) (a0:Act) (w0:Ω) (C:Ω->Prop) (env:List (Option Tmp × VP Ω)) (listed:Array Bool) (a:Act) (w:Ω):Prop where
 size:listed.size=ops.size
 closed:∀ i j,listed.getD i false=true->edge ops i j=true->listed.getD j false=true
 heads:∀ i,listed.getD i false=true->i<nh
 c:C w
 keep:Kpo.kp w0 w
 vals:∀ j d V,listed.getD j false=true->env[j]? = some (some d,V)->V (a.tmps.getD d undef) w
 rest:∀ t,(∀ j,listed.getD j false=true->zJ ops j≠some t)->a.tmps.getD t undef=a0.tmps.getD t undef
 tsize:a.tmps.size=a0.tmps.size
 defers:a.defers=a0.defers
section
variable {ops:Array Oper} {nh:Nat} {a0:Act} {w0:Ω} {C:Ω->Prop}
theorem lk_some {env:List (Option Tmp × VP Ω)} {t:Tmp} {V:VP Ω} (h:lk env t=some V):∃ j:Nat,env[j]? = some (some t,V):=by
 induction env with
 | nil=>cases h
 | cons x r ih=>
   obtain⟨d,u⟩:=x
   unfold lk at h
   split at h
   ·rename_i e;cases h;exact⟨0,by simp [e]⟩
   ·obtain⟨j,a⟩:=ih h;exact⟨j+1,by simpa using a⟩
theorem lk_none {env:List (Option Tmp × VP Ω)} {t:Tmp} (h:lk env t=none):∀(j:Nat) V,env[j]? ≠ some (some t,V):=by
 induction env with
 | nil=>intro j V;simp
 | cons x r ih=>
   obtain⟨d,u⟩:=x
   unfold lk at h
   split at h
   ·cases h
   ·rename_i e
    intro j V
    cases j with
    | zero=>simp;intro a;exact absurd a e
    | succ j=>simpa using ih h j V
def ChkR (ops:Array Oper) (nh a:Nat):Prop:=∀ i,i<nh->∃ o,ops[i]? = some o/\(∀ t ∈ zA o,yB ops nh i t=true) /\
 (∀ j b,o.guard=some (j,b)->j<i/\edge ops i j=true/\(zJ ops j).isSome)/\(∀ d,o.dst=some d->d<a/\∀ j,j<nh->zJ ops j=some d->j=i)
omit [Kpo Ω] in
theorem chkR_of {a:Nat} (h:xk ops nh a=true):ChkR ops nh a:=fun i hi=>by
 obtain⟨o,j,u,w,y,_⟩:=yb h hi
 exact⟨o,j,u,w,y⟩
theorem GI.rds {nt i:Nat} {o:Oper} {env G:List (Option Tmp × VP Ω)} {y:Array Bool} {a:Act} {w:Ω} (U:GI ops nh a0 w0 C G y a w) (H:ChkR ops nh nt)
 (hi:i<nh) (ho:ops[i]? = some o) (Q:y.getD i false=false) (F:∀ j,edge ops i j=true->y.getD j false=true)
 (N:env.length=i) (O:∀ j:Nat,j<i->G[j]? = env[j]?) (I:∀(j:Nat) x,env[j]? = some x->zJ ops j=x.1) :
 ∀ T:List Tmp,(∀ t ∈ T,yB ops nh i t=true)->Rds env a0 T a w:=by
 intro T
 induction T with
 | nil=>intro _;trivial
 | cons t T ih=>
   intro P
   refine⟨?_,ih fun t' h'=>P t' (by simp [h'])⟩
   have B:=P t (by simp)
   unfold yB at B
   cases hl:lk env t with
   | some V=>
     obtain⟨j,Y⟩:=lk_some hl
     have K:j<i:=by rw [<-N];exact(List.getElem?_eq_some_iff.1 Y).1
     have u:=I j _ Y
     obtain⟨A,S⟩:=jw (nh:=nh) (show j<nh by omega) u
     obtain⟨Z,w2⟩:=xf S
     obtain⟨oj,J,_,_,X⟩:=H j (show j<nh by omega)
     have:A=j:=(X t (by unfold zJ at u;rw [J] at u;exact u)).2 A Z w2
     subst this
     simp only [S,if_pos K] at B
     have:=U.vals A t V (F A B) (by rw [O A K];exact Y)
     exact⟨_,RdEq.of rfl,this⟩
   | none=>
     refine RdEq.of (U.rest t fun j E u=>?_)
     have M:=U.heads j E
     obtain⟨A,S⟩:=jw M u
     obtain⟨Z,w2⟩:=xf S
     obtain⟨oj,J,_,_,X⟩:=H _ M
     have:A=j:=(X t (by unfold zJ at u;rw [J] at u;exact u)).2 A Z w2
     subst this
     simp only [S] at B
     by_cases h1:A<i
     ·have L:A<env.length:=by omega
      have:=I A _ (List.getElem?_eq_getElem L)
      rw [u] at this
      exact lk_none hl A env[A].2 (by rw [List.getElem?_eq_getElem L];congr 1;exact Prod.ext this.symm rfl)
     ·rw [if_neg h1] at B
      by_cases h2:i<A
      ·rw [if_pos h2] at B
       have:=U.closed A i E B
       rw [Q] at this;cases this
      ·have:A=i:=by omega
       subst this
       rw [Q] at E;cases E
theorem GI.step {nt i:Nat} {o:Oper} {V:VP Ω} {env:List (Option Tmp × VP Ω)} {y:Array Bool} {a:Act} {w I:Ω} {u:Value} (B:GI ops nh a0 w0 C env y a w) (K:ChkR ops nh nt)
 (S:a0.tmps.size=nt) (hi:i<nh) (ho:ops[i]? = some o) (X:y.getD i true=false) (H:∀ j,edge ops i j=true->y.getD j false=true)
 (U:∀(j:Nat) d V,env[j]? = some (d,V)->∀ u w I,V u w->Kpo.kp w I->V u I) (M:∀(j:Nat) x,env[j]? = some x->zJ ops j=x.1)
 (hV:env[i]? = some (o.dst,V)) (hk:Kpo.kp w I) (hc:C I) (hu:V u I):GI ops nh a0 w0 C env (y.setIfInBounds i true) (a.put o.dst u) I:=by
 obtain⟨hf,N⟩:=zx X
 have hl:∀ j,(y.setIfInBounds i true).getD j false=true->j=i\/y.getD j false=true:=fun j A=>by
  by_cases e:j=i
  ·exact .inl e
  ·exact .inr (by rwa [zj e] at A)
 have G:∀ j,y.getD j false=true->(y.setIfInBounds i true).getD j false=true:=fun j A=>by
  by_cases e:j=i
  ·subst e;exact zl N
  ·rwa [zj e]
 obtain⟨O,T,_,_,Y⟩:=K _ hi
 obtain rfl:O=o:=Option.some.inj (T.symm.trans ho)
 refine⟨by simp [B.size],?_,?_,hc,Kpo.trans _ _ _ B.keep hk,?_,?_,?_,?_⟩
 ·intro j k A Z
  rcases hl j A with rfl | A
  ·exact G _ (H k Z)
  ·exact G _ (B.closed j k A Z)
 ·intro j A
  rcases hl j A with rfl | A
  ·exact hi
  ·exact B.heads j A
 ·intro j d V' A E
  have P:=M j _ E
  rcases hl j A with rfl | F
  ·have J:=hV.symm.trans E
   simp only [Option.some.injEq,Prod.mk.injEq] at J
   obtain⟨L,rfl⟩:=J
   rw [L,yh (by rw [B.tsize,S];exact(Y d L).1)]
   exact hu
  ·have:=U j _ _ E _ _ _ (B.vals j d V' F E) hk
   cases hod:O.dst with
   | none=>exact this
   | some d'=>
     rw [qn]
     ·exact this
     ·intro e
      subst e
      have Q:=B.heads j F
      have:=(Y d hod).2 j Q P
      subst this
      rw [hf] at F;cases F
 ·intro t ht
  cases hod:O.dst with
  | none=>exact B.rest t fun j A=>ht j (G j A)
  | some d'=>
    rw [qn]
    ·exact B.rest t fun j A=>ht j (G j A)
    ·intro e
     subst e
     exact ht i (zl N) (by unfold zJ;rw [ho];exact hod)
 ·rw [<-B.tsize];cases O.dst<;>simp [Act.put]
 ·rw [<-B.defers];cases O.dst<;>simp [Act.put]
def fillA (a:Act) (b:Act) (x:Option Tmp × VP Ω):Act:=match x.1 with | none=>b | some d=>b.put (some d) (a.tmps.getD d undef)
theorem finG_fill {F:Act->Ω->Prop} {w:Ω} {a:Act}:∀(env:List (Option Tmp × VP Ω)) (b:Act),finG F w env b->(∀ d V,(some d,V) ∈ env->V (a.tmps.getD d undef) w)->F (env.foldl (fillA a) b) w
 | [],_,h,_=>h
 | (none,_)::r,b,h,hv=>finG_fill r b h fun d V j=>hv d V (by simp [j])
 | (some d,V)::r,b,h,hv=>finG_fill r _ (h _ (hv d V (by simp))) fun d V j=>hv d V (by simp [j])
theorem fill_getD {a:Act} (t:Tmp):∀(env:List (Option Tmp × VP Ω)) (b:Act),t<b.tmps.size->((∃ V,(some t,V) ∈ env)\/b.tmps.getD t undef=a.tmps.getD t undef) ->
 (env.foldl (fillA a) b).tmps.getD t undef=a.tmps.getD t undef
 | [],b,_,h=>h.resolve_left (by rintro⟨V,j⟩;cases j)
 | (none,V)::r,b,hs,h=>fill_getD t r b hs (by
     rcases h with⟨u,j⟩ | h
     ·simp at j;exact .inl ⟨u,j⟩
     ·exact .inr h)
 | (some d,V)::r,b,hs,h=>fill_getD t r (b.put (some d) (a.tmps.getD d undef)) (by simpa [Act.put] using hs) (by
     by_cases e:t=d
     ·subst e;exact .inr (yh hs)
     ·rcases h with⟨u,j⟩ | h
      ·simp [e] at j;exact .inl ⟨u,j⟩
      ·exact .inr ((qn e).trans h))
theorem fill_size {a:Act}:∀(env:List (Option Tmp × VP Ω)) (b:Act),(env.foldl (fillA a) b).tmps.size=b.tmps.size/\(env.foldl (fillA a) b).defers=b.defers
 | [],_=>⟨rfl,rfl⟩
 | (none,_)::r,b=>fill_size r b
 | (some d,V)::r,b=>by
   have:=fill_size (a:=a) r (b.put (some d) (a.tmps.getD d undef))
   exact⟨this.1.trans (by simp [Act.put]),this.2.trans (by simp [Act.put])⟩
theorem GI.fin {F:Act->Ω->Prop} {env:List (Option Tmp × VP Ω)} {u:Array Bool} {a:Act} {w:Ω} (y:GI ops nh a0 w0 C env u a w) (H:env.length=nh)
 (E:∀(j:Nat) x,env[j]? = some x->zJ ops j=x.1) (B:∀ i,i<nh->u.getD i false=true)
 (M:finG F w env a0):F a w:=by
 have K:=finG_fill (a:=a) env a0 M fun d V O=>by
  obtain⟨j,A⟩:=List.getElem?_of_mem O
  exact y.vals j d V (B j (by rw [<-H];exact(List.getElem?_eq_some_iff.1 A).1)) A
 have L:env.foldl (fillA a) a0=a:=by
  obtain⟨P,Q⟩:=fill_size (a:=a) env a0
  refine Act.ext' (P.trans y.tsize.symm) (Q.trans y.defers.symm) fun t ht=>fill_getD t env a0 (by rw [<-y.tsize];exact ht) ?_
  by_cases J:∃ j,u.getD j false=true/\zJ ops j=some t
  ·obtain⟨j,A,I⟩:=J
   have N:=y.heads j A
   have G:j<env.length:=by omega
   have:=E j _ (List.getElem?_eq_getElem G)
   rw [I] at this
   exact .inl ⟨env[j].2,by rw [show (some t,env[j].2)=env[j] from Prod.ext this rfl];exact List.getElem_mem G⟩
  ·exact .inr (y.rest t fun j A I=>J ⟨j,A,I⟩).symm
 rwa [L] at K
theorem isV_of {env a:List (Option Tmp × VP Ω)} {i j:Nat} {x:Value} (h:isV env j x) (u:∀ j:Nat,j<i->a[j]? = env[j]?) (w:j<i):isV a j x:=by
 unfold isV at *
 rw [u j w];exact h
theorem gcore {nt:Nat} (au:Oper->Act->Ω->(Act->Ω->Prop)->Prop) (step:Nat->(Act->Ω->Prop)->Act->Ω->Prop) (W:Nat->Array Bool->Act->Ω->Prop) (Qn:Act->Ω->Prop) (T:Nat->Act->Ω->Prop)
 (af:∀ i o K a w,ops[i]? = some o->(if Region.wanted o (yielded ops a.tmps) then au o a w K else K (a.put o.dst undef) w)->step i K a w)
 (ae:∀ i K K' a w,(∀ a w,K a w->K' a w)->step i K a w->step i K' a w)
 (ax:∀ y a w,Region.ready .any ops y=[]->Qn a w->W 0 y a w)
 (hW:∀ A y a w,(Region.ready .any ops y=[]->Qn a w)->(∀ i ∈ Region.ready .any ops y,step i (W A (y.setIfInBounds i true)) a w)->W (A+1) y a w)
 (hT:∀ k a w,k<ops.size->T k a w->step k (T (k+1)) a w) (ag:∀ a w,T ops.size a w->Qn a w)
 (F:xk ops nh nt=true) (O:yK ops nh=true) (aF:nh<=ops.size) (ao:a0.tmps.size=nt) (env:List (Option Tmp × VP Ω)) (am:env.length=nh)
 (aL:∀(j:Nat) d V,env[j]? = some (d,V)->∀ u w U,V u w->Kpo.kp w U->V u U) (G:∀(j:Nat) x,env[j]? = some x->zJ ops j=x.1)
 (aJ:∀(i:Nat) o V,ops[i]? = some o->env[i]? = some (o.dst,V)->stepOk au a0 w0 C (env.take i) o V)
 (aj:∀ w,C w->Kpo.kp w0 w->finG (T nh) w env a0) :
 ∀(A:Nat) (y:Array Bool) (a:Act) (w:Ω) (S:List Nat),GI ops nh a0 w0 C env y a w->(∀ i,i<ops.size->y.getD i false=false->i ∈ S)->S.length<=A->W A y a w:=by
 -- the tail
 have tail:∀(A k:Nat) (y:Array Bool) (a:Act) (w:Ω),y.size=ops.size->(∀ i,y.getD i false=true ↔ i<k)->nh<=k->k<=ops.size->ops.size - k<=A->T k a w->W A y a w:=by
  intro A
  induction A with
  | zero=>
    intro k y a w hs hl _ hk hf ht
    obtain rfl:k=ops.size:=by omega
    refine ax _ _ _ ?_ (ag _ _ ht)
    refine List.eq_nil_iff_forall_not_mem.2 fun i hi=>?_
    obtain⟨I,N,_⟩:=zo hi
    have:=(zx I).1
    rw [(hl i).2 N] at this;cases this
  | succ A ih=>
    intro k y a w hs hl hn hk hf ht
    by_cases aD:k=ops.size
    ·subst aD
     have an:Region.ready .any ops y=[]:=List.eq_nil_iff_forall_not_mem.2 fun i hi=>by
      obtain⟨I,N,_⟩:=zo hi
      have:=(zx I).1
      rw [(hl i).2 N] at this;cases this
     exact hW _ _ _ _ (fun _=>ag _ _ ht) fun i hi=>by rw [an] at hi;cases hi
    ·refine hW _ _ _ _ (fun h0=>?_) fun i hi=>?_
     ·exfalso
      have hu:y.getD k false=false:=by
       cases h:y.getD k false with
       | false=>rfl
       | true=>have:=(hl k).1 h;omega
      obtain⟨j,J⟩:=qh O hs k (by omega) hu
      rw [h0] at J;cases J
     ·obtain⟨I,N,_,X⟩:=zo hi
      have aR:¬ i<k:=fun h=>by have:=(zx I).1;rw [(hl i).2 h] at this;cases this
      have:i=k:=by
       rcases (qP O N).1 with h | h
       ·omega
       ·have:=(hl _).1 (X _ h);omega
      subst this
      refine ae _ _ _ _ _ (fun a' U aM=>ih (i+1) _ _ _ (by simp [hs]) (fun j=>?_) (by omega) (by omega) (by omega) aM) (hT i a w N ht)
      by_cases e:j=i
      ·subst e;simp [zl (zx I).2]
      ·rw [zj e,hl];omega
 intro A
 have av:∀(y:Array Bool) (a:Act) (w:Ω),GI ops nh a0 w0 C env y a w->nh ∈ Region.ready .any ops y->∀(n i:Nat),nh - i=n->i<nh->y.getD i false=true:=by
  intro y a w E hr n
  obtain⟨I,N,_,X⟩:=zo hr
  induction n using Nat.strongRecOn with
  | _ n ih=>
    intro i hn hi
    obtain⟨_,_,_,_,_,h4⟩:=yb F hi
    rcases h4 with h4 | ⟨j,J,aQ,he⟩
    ·omega
    ·by_cases e:j=nh
     ·subst e;exact X i he
     ·exact E.closed j i (ih (nh - j) (by omega) j rfl (by omega)) he
 have full:∀(A:Nat) (y:Array Bool) (a:Act) (w:Ω),GI ops nh a0 w0 C env y a w->(∀ i,i<nh->y.getD i false=true)->ops.size - nh<=A->W A y a w:=by
  intro A y a w E B hf
  exact tail A nh y a w E.size (fun i=>⟨E.heads i,B i⟩) (Nat.le_refl _) aF hf (E.fin am G B (aj w E.c E.keep))
 induction A with
 | zero=>
   intro y a w S E hS hf
   have B:∀ i,i<ops.size->y.getD i false=true:=fun i hi=>by
    cases h:y.getD i false with
    | true=>rfl
    | false=>have:=hS i hi h;rw [List.eq_nil_of_length_eq_zero (by omega:S.length=0)] at this;cases this
   have:nh=ops.size:=by
    apply Classical.byContradiction
    intro aS
    have:=E.heads nh (B nh (by omega));omega
   exact full 0 y a w E (fun i hi=>B i (by omega)) (by omega)
 | succ A ih=>
   intro y a w S E hS hf
   by_cases B:∀ i,i<nh->y.getD i false=true
   ·-- all of the head has come
    refine full _ y a w E B ?_
    have aq:(List.range' nh (ops.size - nh)) ⊆ S:=fun i hi=>by
     simp only [List.mem_range'_1] at hi
     refine hS i (by omega) ?_
     cases h:y.getD i false with
     | false=>rfl
     | true=>have:=E.heads i h;omega
    have aE:(List.range' nh (ops.size - nh)).Nodup:=List.nodup_range'
    have:=qM _ _ aE aq
    simp at this
    omega
   ·have ar:∃ i,i<nh/\y.getD i false=false:=by
     apply Classical.byContradiction
     intro hn
     refine B fun i hi=>?_
     cases h:y.getD i false with
     | true=>rfl
     | false=>exact absurd ⟨i,hi,h⟩ hn
    refine hW _ _ _ _ (fun h0=>?_) fun i hi=>?_
    ·exfalso
     obtain⟨i,hi,hu⟩:=ar
     obtain⟨j,J⟩:=qh O E.size i (by omega) hu
     rw [h0] at J;cases J
    ·obtain⟨I,N,⟨o,ho⟩,X⟩:=zo hi
     have ac:i<nh:=by
      apply Classical.byContradiction
      intro aP
      have aG:i=nh:=by
       rcases (qP O N).1 with h | h
       ·omega
       ·have:=E.heads _ (X _ h);omega
      subst aG
      obtain⟨j,J,hu⟩:=ar
      rw [av y a w E hi _ j rfl J] at hu;cases hu
     obtain⟨o',aH,aK,aA,_,_⟩:=yb F ac
     obtain rfl:o'=o:=Option.some.inj (aH.symm.trans ho)
     have ak:i<env.length:=by omega
     have ah:env[i]? = some (o'.dst,env[i].2):=by
      have:=G i _ (List.getElem?_eq_getElem ak)
      unfold zJ at this
      rw [ho] at this
      rw [List.getElem?_eq_getElem ak]
      exact congrArg some (Prod.ext this.symm rfl)
     have Y:∀ j:Nat,j<i->env[j]? = (env.take i)[j]?:=fun j J=>by rw [List.getElem?_take,if_pos J]
     have Z:=E.rds (env:=env.take i) (chkR_of F) ac ho (zx I).1 X (by simp;omega) Y (fun j x H=>G j x (by rw [List.getElem?_take] at H;split at H;exact H;cases H)) (zA o') aK
     have L:=aJ i o' _ ho ah
     have ab:∀ u U,Kpo.kp w U->C U->env[i].2 u U->W A (y.setIfInBounds i true) (a.put o'.dst u) U:=fun u U hk hc hu=>
      ih _ _ _ (S.erase i) (E.step (chkR_of F) ao ac ho I X aL G ah hk hc hu) (fun j J Q=>by
       have P:j≠i:=fun e=>by subst e;rw [zl (zx I).2] at Q;cases Q
       rw [zj P] at Q
       exact(List.mem_erase_of_ne P).2 (hS j J Q)) (by rw [List.length_erase_of_mem (hS i N (zx I).1)];omega)
     refine af i o' _ a w ho ?_
     unfold stepOk at L
     cases hgu:o'.guard with
     | none=>
       simp only [hgu] at L
       rw [if_pos (by simp [Region.wanted,hgu])]
       exact L a w E.c E.keep Z _ ab
     | some jb=>
       obtain⟨j,b⟩:=jb
       simp only [hgu] at L
       obtain⟨P,aC,aB⟩:=aA j b hgu
       obtain⟨d,hd⟩:=Option.isSome_iff_exists.1 aB
       have ad:j<env.length:=by omega
       have ai:=G j _ (List.getElem?_eq_getElem ad)
       rw [hd] at ai
       have aN:=E.vals j d env[j].2 (X j aC) (by rw [List.getElem?_eq_getElem ad];exact congrArg some (Prod.ext ai.symm rfl))
       obtain⟨oj,aI,_,_,ay,_⟩:=yb F (show j<nh by omega)
       have az:d<a.tmps.size:=by rw [E.tsize,ao];exact(ay d (by unfold zJ at hd;rw [aI] at hd;exact hd)).1
       have hy:=yS (tmps:=a.tmps) hd az
       have M:∀ x,isV (env.take i) j x->a.tmps.getD d undef=x:=fun x H=>by
        have:=isV_of H Y P
        unfold isV at this
        rw [List.getElem?_eq_getElem ad] at this
        exact this _ _ aN
       rcases L with⟨H,hh⟩ | ⟨H,aw⟩
       ·have:=M _ H
        rw [this] at hy
        rw [if_pos (by simp [Region.wanted,hgu,hy])]
        exact hh a w E.c E.keep Z _ ab
       ·have aO:yielded ops a.tmps j≠some b:=by
         rcases H with H | H
         ·have:=M _ H
          rw [this] at hy
          rw [hy];cases b<;>simp
         ·have:=M _ H
          rw [this] at hy
          rw [hy];simp [undef]
        rw [if_neg (by simp [Region.wanted,hgu];exact aO)]
        exact ab undef w (Kpo.refl _) E.c (by rw [aw])
theorem gcoreF {nt:Nat} (aC:Oper->Act->Ω->(Act->Ω->Prop)->Prop) (step:Nat->(Act->Ω->Prop)->Act->Ω->Prop) (W:Nat->Array Bool->Act->Ω->Prop) (Qn:Act->Ω->Prop) (T:Nat->Act->Ω->Prop)
 (ao:∀ i o K a w,ops[i]? = some o->(if Region.wanted o (yielded ops a.tmps) then aC o a w K else K (a.put o.dst undef) w)->step i K a w)
 (I:∀ i K K' a w,(∀ a w,K a w->K' a w)->step i K a w->step i K' a w)
 (aF:∀ y a w,Region.ready .any ops y=[]->Qn a w->W 0 y a w)
 (hW:∀ A y a w,(Region.ready .any ops y=[]->Qn a w)->(∀ i ∈ Region.ready .any ops y,step i (W A (y.setIfInBounds i true)) a w)->W (A+1) y a w)
 (hT:∀ k a w,k<ops.size->T k a w->step k (T (k+1)) a w) (aq:∀ a w,T ops.size a w->Qn a w)
 (J:ChkR ops (nh+1) nt) (ak:∀ i,i<nh->∃ j,j<=nh+1/\i<j/\j≠nh/\edge ops j i=true) (ag:nh+2<ops.size->edge ops (nh+2) nh=true) (O:yK ops (nh+1)=true) (aP:nh+2<=ops.size) (aA:a0.tmps.size=nt) (env:List (Option Tmp × VP Ω)) (ax:env.length=nh+1)
 (aV:∀(j:Nat) d V,env[j]? = some (d,V)->∀ u w Y,V u w->Kpo.kp w Y->V u Y) (G:∀(j:Nat) x,env[j]? = some x->zJ ops j=x.1)
 (aT:∀(i:Nat) o V,ops[i]? = some o->env[i]? = some (o.dst,V)->stepOk aC a0 w0 C (env.take i) o V)
 (av:∀ w,C w->Kpo.kp w0 w->finG (T (nh+1)) w env a0) (ah:∀ w,C w->Kpo.kp w0 w->finG (fun a w=>step (nh+1) (fun a w=>step nh (T (nh+2)) a w) a w) w (env.take nh) a0) :
 ∀(A:Nat) (y:Array Bool) (a:Act) (w:Ω) (S:List Nat),GI ops (nh+1) a0 w0 C env y a w->(∀ i,i<ops.size->y.getD i false=false->i ∈ S)->S.length<=A->W A y a w:=by
 -- the tail
 have tail:∀(A k:Nat) (y:Array Bool) (a:Act) (w:Ω),y.size=ops.size->(∀ i,y.getD i false=true ↔ i<k)->nh+1<=k->k<=ops.size->ops.size - k<=A->T k a w->W A y a w:=by
  intro A
  induction A with
  | zero=>
    intro k y a w hs hl _ hk hf ht
    obtain rfl:k=ops.size:=by omega
    refine aF _ _ _ ?_ (aq _ _ ht)
    refine List.eq_nil_iff_forall_not_mem.2 fun i hi=>?_
    obtain⟨M,N,_⟩:=zo hi
    have:=(zx M).1
    rw [(hl i).2 N] at this;cases this
  | succ A ih=>
    intro k y a w hs hl hn hk hf ht
    by_cases aM:k=ops.size
    ·subst aM
     have az:Region.ready .any ops y=[]:=List.eq_nil_iff_forall_not_mem.2 fun i hi=>by
      obtain⟨M,N,_⟩:=zo hi
      have:=(zx M).1
      rw [(hl i).2 N] at this;cases this
     exact hW _ _ _ _ (fun _=>aq _ _ ht) fun i hi=>by rw [az] at hi;cases hi
    ·refine hW _ _ _ _ (fun h0=>?_) fun i hi=>?_
     ·exfalso
      have L:y.getD k false=false:=by
       cases h:y.getD k false with
       | false=>rfl
       | true=>have:=(hl k).1 h;omega
      obtain⟨j,F⟩:=qh O hs k (by omega) L
      rw [h0] at F;cases F
     ·obtain⟨M,N,_,h3⟩:=zo hi
      have bb:¬ i<k:=fun h=>by have:=(zx M).1;rw [(hl i).2 h] at this;cases this
      have:i=k:=by
       rcases (qP O N).1 with h | h
       ·omega
       ·have:=(hl _).1 (h3 _ h);omega
      subst this
      refine I _ _ _ _ _ (fun a' Y aW=>ih (i+1) _ _ _ (by simp [hs]) (fun j=>?_) (by omega) (by omega) (by omega) aW) (hT i a w N ht)
      by_cases e:j=i
      ·subst e;simp [zl (zx M).2]
      ·rw [zj e,hl];omega
 intro A
 have aD:∀(y:Array Bool) (a:Act) (w:Ω),GI ops (nh+1) a0 w0 C env y a w->nh+1 ∈ Region.ready .any ops y->∀(n i:Nat),nh+1 - i=n->i<nh->y.getD i false=true:=by
  intro y a w B hr n
  obtain⟨M,N,_,h3⟩:=zo hr
  induction n using Nat.strongRecOn with
  | _ n ih=>
    intro i hn hi
    obtain⟨j,F,ba,bc,he⟩:=ak i hi
    by_cases e:j=nh+1
    ·subst e;exact h3 i he
    ·exact B.closed j i (ih (nh+1 - j) (by omega) j rfl (by omega)) he
 have full:∀(A:Nat) (y:Array Bool) (a:Act) (w:Ω),GI ops (nh+1) a0 w0 C env y a w->(∀ i,i<nh+1->y.getD i false=true)->ops.size - (nh+1)<=A->W A y a w:=by
  intro A y a w B E hf
  exact tail A (nh+1) y a w B.size (fun i=>⟨B.heads i,E i⟩) (Nat.le_refl _) (by omega) hf (B.fin ax G E (av w B.c B.keep))
 induction A with
 | zero=>
   intro y a w S B hS hf
   have E:∀ i,i<ops.size->y.getD i false=true:=fun i hi=>by
    cases h:y.getD i false with
    | true=>rfl
    | false=>have:=hS i hi h;rw [List.eq_nil_of_length_eq_zero (by omega:S.length=0)] at this;cases this
   exfalso
   have:=B.heads (nh+1) (E (nh+1) (by omega))
   omega
 | succ A ih=>
   intro y a w S B hS hf
   by_cases E:∀ i,i<nh+1->y.getD i false=true
   ·-- all of the head has come
    refine full _ y a w B E ?_
    have U:(List.range' (nh+1) (ops.size - (nh+1))) ⊆ S:=fun i hi=>by
     simp only [List.mem_range'_1] at hi
     refine hS i (by omega) ?_
     cases h:y.getD i false with
     | false=>rfl
     | true=>have:=B.heads i h;omega
    have am:(List.range' (nh+1) (ops.size - (nh+1))).Nodup:=List.nodup_range'
    have:=qM _ _ am U
    simp at this
    omega
   ·have aB:∃ i,i<nh+1/\y.getD i false=false:=by
     apply Classical.byContradiction
     intro hn
     refine E fun i hi=>?_
     cases h:y.getD i false with
     | true=>rfl
     | false=>exact absurd ⟨i,hi,h⟩ hn
    refine hW _ _ _ _ (fun h0=>?_) fun i hi=>?_
    ·exfalso
     obtain⟨i,hi,L⟩:=aB
     obtain⟨j,F⟩:=qh O B.size i (by omega) L
     rw [h0] at F;cases F
    ·obtain⟨M,N,⟨o,ho⟩,h3⟩:=zo hi
     by_cases aZ:¬ i<nh+1
     ·-- the tail begins before the floating operation
      have aQ:i=nh+1:=by
       rcases (qP O N).1 with h | h
       ·omega
       ·have:=B.heads _ (h3 _ h);omega
      subst aQ
      have hs:=aD y a w B hi
      have an:y.getD nh false=false:=by
       obtain⟨j,F,L⟩:=aB
       by_cases e:j=nh
       ·subst e;exact L
       ·rw [hs _ j rfl (by omega)] at L;cases L
      have ay:∀ j,y.getD j false=true->j<nh:=fun j F=>by
       have:=B.heads j F
       by_cases e:j=nh
       ·rw [e,an] at F;cases F
       ·omega
      have aI:GI ops nh a0 w0 C (env.take nh) y a w:=⟨B.size,B.closed,ay,B.c,B.keep,fun j d V F hV=>B.vals j d V F (by rw [List.getElem?_take] at hV;split at hV;exact hV;cases hV),B.rest,B.tsize,B.defers⟩
      have hB:=aI.fin (by simp;omega) (fun j x H=>G j x (by rw [List.getElem?_take] at H;split at H;exact H;cases H)) (fun j F=>hs _ j rfl F) (ah w B.c B.keep)
      have aN:y.getD (nh+1) false=false:=(zx M).1
      refine I _ _ _ _ _ (fun a' Y h'=>?_) hB
      have aO:nh ∈ S:=hS nh (by omega) an
      have bf:nh+1 ∈ S:=hS (nh+1) N aN
      have be:2+(ops.size - (nh+2))<=S.length:=by
       have U:(nh::List.range' (nh+1) (ops.size - (nh+1))) ⊆ S:=fun i hi=>by
        rcases List.mem_cons.1 hi with rfl | hi
        ·exact aO
        ·simp only [List.mem_range'_1] at hi
         refine hS i (by omega) ?_
         cases h:y.getD i false with
         | false=>rfl
         | true=>have:=B.heads i h;omega
       have am:(nh::List.range' (nh+1) (ops.size - (nh+1))).Nodup:=List.nodup_cons.2 ⟨fun h=>by simp only [List.mem_range'_1] at h;omega,List.nodup_range'⟩
       have:=qM _ _ am U
       simp at this
       omega
      obtain⟨f',rfl⟩:∃ f',A=f'+1:=⟨A - 1,by omega⟩
      have af:(y.setIfInBounds (nh+1) true).size=ops.size:=by simp [B.size]
      have ac:(y.setIfInBounds (nh+1) true).getD nh false=false:=by rw [zj (by omega)];exact an
      refine hW _ _ _ _ (fun h0=>?_) fun i hi=>?_
      ·exfalso
       obtain⟨j,F⟩:=qh O af nh (by omega) ac
       rw [h0] at F;cases F
      ·obtain⟨k1,k2,_,k3⟩:=zo hi
       have P:i=nh:=by
        have L:=(zx k1).1
        rcases Nat.lt_trichotomy i nh with h | h | h
        ·rw [zj (by omega),hs _ i rfl h] at L;cases L
        ·exact h
        ·exfalso
         by_cases e:i=nh+1
         ·subst e;rw [zl (by rw [B.size];exact N)] at L;cases L
         ·by_cases e2:i=nh+2
          ·subst e2
           have:=k3 nh (ag k2)
           rw [ac] at this;cases this
          ·rcases (qP O k2).1 with h4 | h4
           ·omega
           ·have h5:=k3 _ h4
            rw [zj (by omega)] at h5
            have:=B.heads _ h5;omega
       subst P
       refine I _ _ _ _ _ (fun a2 w2 ht=>tail f' (i+2) _ _ _ (by simp [B.size]) (fun j=>?_) (by omega) aP (by omega) ht) h'
       by_cases e:j=i
       ·subst e;rw [zl (by rw [af];omega)];simp
       ·rw [zj e]
        by_cases e2:j=i+1
        ·subst e2;rw [zl (by rw [B.size];exact N)];simp
        ·rw [zj e2]
         constructor
         ·intro h;have:=B.heads j h;omega
         ·intro h;exact hs _ j rfl (by omega)
     have P:i<nh+1:=by omega
     obtain⟨o',aR,aU,aJ,_⟩:=J _ P
     obtain rfl:o'=o:=Option.some.inj (aR.symm.trans ho)
     have aw:i<env.length:=by omega
     have ar:env[i]? = some (o'.dst,env[i].2):=by
      have:=G i _ (List.getElem?_eq_getElem aw)
      unfold zJ at this
      rw [ho] at this
      rw [List.getElem?_eq_getElem aw]
      exact congrArg some (Prod.ext this.symm rfl)
     have ad:∀ j:Nat,j<i->env[j]? = (env.take i)[j]?:=fun j F=>by rw [List.getElem?_take,if_pos F]
     have ae:=B.rds (env:=env.take i) J P ho (zx M).1 h3 (by simp;omega) ad (fun j x H=>G j x (by rw [List.getElem?_take] at H;split at H;exact H;cases H)) (zA o') aU
     have Q:=aT i o' _ ho ar
     have ai:∀ u Y,Kpo.kp w Y->C Y->env[i].2 u Y->W A (y.setIfInBounds i true) (a.put o'.dst u) Y:=fun u Y hk hc L=>
      ih _ _ _ (S.erase i) (B.step J aA P ho M h3 aV G ar hk hc L) (fun j F ab=>by
       have Z:j≠i:=fun e=>by subst e;rw [zl (zx M).2] at ab;cases ab
       rw [zj Z] at ab
       exact(List.mem_erase_of_ne Z).2 (hS j F ab)) (by rw [List.length_erase_of_mem (hS i N (zx M).1)];omega)
     refine ao i o' _ a w ho ?_
     unfold stepOk at Q
     cases hgu:o'.guard with
     | none=>
       simp only [hgu] at Q
       rw [if_pos (by simp [Region.wanted,hgu])]
       exact Q a w B.c B.keep ae _ ai
     | some jb=>
       obtain⟨j,b⟩:=jb
       simp only [hgu] at Q
       obtain⟨Z,aL,aK⟩:=aJ j b hgu
       obtain⟨d,hd⟩:=Option.isSome_iff_exists.1 aK
       have aj:j<env.length:=by omega
       have au:=G j _ (List.getElem?_eq_getElem aj)
       rw [hd] at au
       have aX:=B.vals j d env[j].2 (h3 j aL) (by rw [List.getElem?_eq_getElem aj];exact congrArg some (Prod.ext au.symm rfl))
       obtain⟨oj,aS,_,_,aG⟩:=J j (show j<nh+1 by omega)
       have aH:d<a.tmps.size:=by rw [B.tsize,aA];exact(aG d (by unfold zJ at hd;rw [aS] at hd;exact hd)).1
       have hy:=yS (tmps:=a.tmps) hd aH
       have X:∀ x,isV (env.take i) j x->a.tmps.getD d undef=x:=fun x H=>by
        have:=isV_of H ad Z
        unfold isV at this
        rw [List.getElem?_eq_getElem aj] at this
        exact this _ _ aX
       rcases Q with⟨H,hh⟩ | ⟨H,aE⟩
       ·have:=X _ H
        rw [this] at hy
        rw [if_pos (by simp [Region.wanted,hgu,hy])]
        exact hh a w B.c B.keep ae _ ai
       ·have aY:yielded ops a.tmps j≠some b:=by
         rcases H with H | H
         ·have:=X _ H
          rw [this] at hy
          rw [hy];cases b<;>simp
         ·have:=X _ H
          rw [this] at hy
          rw [hy];simp [undef]
        rw [if_neg (by simp [Region.wanted,hgu];exact aY)]
        exact ai undef w (Kpo.refl _) B.c (by rw [aE])
theorem walkG_env {j:Oper->Act->Ω->(Act->Ω->Prop)->Prop} {F:Act->Ω->Prop}:∀(l:List Oper) (env:List (Option Tmp × VP Ω)),walkG j a0 w0 C F l env ->
 ∃ r:List (Option Tmp × VP Ω),r.length=l.length/\(∀(i:Nat) o,l[i]? = some o->∃ V,r[i]? = some (o.dst,V)/\(∀ u w A,V u w->Kpo.kp w A->V u A)/\stepOk j a0 w0 C (env++r.take i) o V) /\
  (∀ w,C w->Kpo.kp w0 w->finG F w (env++r) a0)
 | [],env,h=>⟨[],rfl,(fun i o ho=>by simp at ho),by rw [List.append_nil];exact h⟩
 | o::l,env,⟨V,hs,hk,hw⟩=>by
   obtain⟨r,I,J,K⟩:=walkG_env l _ hw
   refine⟨(o.dst,V)::r,by simp [I],fun i y a=>?_,by simpa using K⟩
   cases i with
   | zero=>
     obtain rfl:o=y:=by simpa using a
     exact⟨V,rfl,hs,by simpa using hk⟩
   | succ i=>
     obtain⟨B,E,G,H⟩:=J i y (by simpa using a)
     exact⟨B,by simpa using E,G,by simpa using H⟩
theorem gcoreC {nt r:Nat} (aC:Oper->Act->Ω->(Act->Ω->Prop)->Prop) (step:Nat->(Act->Ω->Prop)->Act->Ω->Prop) (W:Nat->Array Bool->Act->Ω->Prop) (Qn:Act->Ω->Prop) (T:Nat->Act->Ω->Prop)
 (an:∀ i o K a w,ops[i]? = some o->(if Region.wanted o (yielded ops a.tmps) then aC o a w K else K (a.put o.dst undef) w)->step i K a w)
 (I:∀ i K K' a w,(∀ a w,K a w->K' a w)->step i K a w->step i K' a w)
 (aG:∀ y a w,Region.ready .any ops y=[]->Qn a w->W 0 y a w)
 (hW:∀ A y a w,(Region.ready .any ops y=[]->Qn a w)->(∀ i ∈ Region.ready .any ops y,step i (W A (y.setIfInBounds i true)) a w)->W (A+1) y a w)
 (hT:∀ k a w,k<ops.size->T k a w->step k (T (k+1)) a w) (ar:∀ a w,T ops.size a w->Qn a w)
 (bj:1<=r) (L:ChkR ops (nh+r) nt) (ak:∀ i,i<nh->∃ j,j<=nh+r/\i<j/\¬(nh<=j/\j<nh+r)/\edge ops j i=true) (J:∀ i,nh<=i->i+1<nh+r->edge ops (i+1) i=true) (ag:nh+r+1<ops.size->edge ops (nh+r+1) (nh+r - 1)=true) (M:yK ops (nh+r)=true) (bh:nh+r+1<=ops.size)
 (CT:Nat->Act->Ω->Prop) (aE:∀ c a w,c<r->CT c a w->step (nh+c) (CT (c+1)) a w) (aq:∀ a w,CT r a w->T (nh+r+1) a w) (aB:a0.tmps.size=nt) (env:List (Option Tmp × VP Ω)) (ay:env.length=nh+r)
 (aV:∀(j:Nat) d V,env[j]? = some (d,V)->∀ u w w',V u w->Kpo.kp w w'->V u w') (F:∀(j:Nat) x,env[j]? = some x->zJ ops j=x.1)
 (aS:∀(i:Nat) o V,ops[i]? = some o->env[i]? = some (o.dst,V)->stepOk aC a0 w0 C (env.take i) o V)
 (aw:∀ w,C w->Kpo.kp w0 w->finG (T (nh+r)) w env a0) (ah:∀ c,c<r->∀ w,C w->Kpo.kp w0 w->finG (fun a w=>step (nh+r) (CT c) a w) w (env.take (nh+c)) a0) :
 ∀(A:Nat) (y:Array Bool) (a:Act) (w:Ω) (S:List Nat),GI ops (nh+r) a0 w0 C env y a w->(∀ i,i<ops.size->y.getD i false=false->i ∈ S)->S.length<=A->W A y a w:=by
 -- the tail
 have tail:∀(A k:Nat) (y:Array Bool) (a:Act) (w:Ω),y.size=ops.size->(∀ i,y.getD i false=true ↔ i<k)->nh+r<=k->k<=ops.size->ops.size - k<=A->T k a w->W A y a w:=by
  intro A
  induction A with
  | zero=>
    intro k y a w hs hl _ hk hf ht
    obtain rfl:k=ops.size:=by omega
    refine aG _ _ _ ?_ (ar _ _ ht)
    refine List.eq_nil_iff_forall_not_mem.2 fun i hi=>?_
    obtain⟨N,O,_⟩:=zo hi
    have:=(zx N).1
    rw [(hl i).2 O] at this;cases this
  | succ A ih=>
    intro k y a w hs hl hn hk hf ht
    by_cases aO:k=ops.size
    ·subst aO
     have aA:Region.ready .any ops y=[]:=List.eq_nil_iff_forall_not_mem.2 fun i hi=>by
      obtain⟨N,O,_⟩:=zo hi
      have:=(zx N).1
      rw [(hl i).2 O] at this;cases this
     exact hW _ _ _ _ (fun _=>ar _ _ ht) fun i hi=>by rw [aA] at hi;cases hi
    ·refine hW _ _ _ _ (fun h0=>?_) fun i hi=>?_
     ·exfalso
      have Y:y.getD k false=false:=by
       cases h:y.getD k false with
       | false=>rfl
       | true=>have:=(hl k).1 h;omega
      obtain⟨j,G⟩:=qh M hs k (by omega) Y
      rw [h0] at G;cases G
     ·obtain⟨N,O,_,h3⟩:=zo hi
      have be:¬ i<k:=fun h=>by have:=(zx N).1;rw [(hl i).2 h] at this;cases this
      have:i=k:=by
       rcases (qP M O).1 with h | h
       ·omega
       ·have:=(hl _).1 (h3 _ h);omega
      subst this
      refine I _ _ _ _ _ (fun a' w' aW=>ih (i+1) _ _ _ (by simp [hs]) (fun j=>?_) (by omega) (by omega) (by omega) aW) (hT i a w O ht)
      by_cases e:j=i
      ·subst e;simp [zl (zx N).2]
      ·rw [zj e,hl];omega
 intro A
 have aD:∀(y:Array Bool) (a:Act) (w:Ω),GI ops (nh+r) a0 w0 C env y a w->nh+r ∈ Region.ready .any ops y->∀(n i:Nat),nh+r - i=n->i<nh->y.getD i false=true:=by
  intro y a w B hr n
  obtain⟨N,O,_,h3⟩:=zo hr
  induction n using Nat.strongRecOn with
  | _ n ih=>
    intro i hn hi
    obtain⟨j,G,bc,bf,he⟩:=ak i hi
    by_cases e:j=nh+r
    ·subst e;exact h3 i he
    ·exact B.closed j i (ih (nh+r - j) (by omega) j rfl (by omega)) he
 -- what floats,behind the first of the tail
 have ao:∀(n c A:Nat) (y:Array Bool) (a:Act) (w:Ω),r - c=n->c<=r->y.size=ops.size->(∀ i,y.getD i false=true ↔ i<nh+c\/i=nh+r)->(r - c)+(ops.size - (nh+r+1))<=A->CT c a w->W A y a w:=by
  intro n
  induction n with
  | zero=>
    intro c A y a w hn hc hs hl hf ht
    obtain rfl:c=r:=by omega
    exact tail A (nh+c+1) y a w hs (fun i=>by rw [hl];omega) (by omega) (by omega) (by omega) (aq a w ht)
  | succ n ih=>
    intro c A y a w hn hc hs hl hf ht
    obtain⟨f',rfl⟩:∃ f',A=f'+1:=⟨A - 1,by omega⟩
    have ad:y.getD (nh+c) false=false:=by
     cases h:y.getD (nh+c) false with
     | false=>rfl
     | true=>have:=(hl _).1 h;omega
    refine hW _ _ _ _ (fun h0=>?_) fun i hi=>?_
    ·exfalso
     obtain⟨j,G⟩:=qh M hs (nh+c) (by omega) ad
     rw [h0] at G;cases G
    ·obtain⟨k1,k2,_,k3⟩:=zo hi
     have Y:=(zx k1).1
     have P:i=nh+c:=by
      have bi:¬(i<nh+c\/i=nh+r):=fun h=>by rw [(hl i).2 h] at Y;cases Y
      rcases Nat.lt_trichotomy i (nh+c) with h | h | h
      ·omega
      ·exact h
      ·exfalso
       by_cases e:i<nh+r
       ·have:=(hl _).1 (k3 (i - 1) (by have:=J (i - 1) (by omega) (by omega);rwa [show i - 1+1=i by omega] at this))
        omega
       ·by_cases e2:i=nh+r+1
        ·subst e2
         have:=(hl _).1 (k3 _ (ag k2))
         omega
        ·rcases (qP M k2).1 with h4 | h4
         ·omega
         ·have:=(hl _).1 (k3 _ h4);omega
     subst P
     refine I _ _ _ _ _ (fun a2 w2 aX=>ih (c+1) f' _ _ _ (by omega) (by omega) (by simp [hs]) (fun j=>?_) (by omega) aX) (aE c a w (by omega) ht)
     by_cases e:j=nh+c
     ·subst e;rw [zl (by rw [hs];omega)];simp
     ·rw [zj e,hl];omega
 have full:∀(A:Nat) (y:Array Bool) (a:Act) (w:Ω),GI ops (nh+r) a0 w0 C env y a w->(∀ i,i<nh+r->y.getD i false=true)->ops.size - (nh+r)<=A->W A y a w:=by
  intro A y a w B E hf
  exact tail A (nh+r) y a w B.size (fun i=>⟨B.heads i,E i⟩) (Nat.le_refl _) (by omega) hf (B.fin ay F E (aw w B.c B.keep))
 induction A with
 | zero=>
   intro y a w S B hS hf
   have E:∀ i,i<ops.size->y.getD i false=true:=fun i hi=>by
    cases h:y.getD i false with
    | true=>rfl
    | false=>have:=hS i hi h;rw [List.eq_nil_of_length_eq_zero (by omega:S.length=0)] at this;cases this
   exfalso
   have:=B.heads (nh+r) (E (nh+r) (by omega))
   omega
 | succ A ih=>
   intro y a w S B hS hf
   by_cases E:∀ i,i<nh+r->y.getD i false=true
   ·-- all of the head has come
    refine full _ y a w B E ?_
    have X:(List.range' (nh+r) (ops.size - (nh+r))) ⊆ S:=fun i hi=>by
     simp only [List.mem_range'_1] at hi
     refine hS i (by omega) ?_
     cases h:y.getD i false with
     | false=>rfl
     | true=>have:=B.heads i h;omega
    have am:(List.range' (nh+r) (ops.size - (nh+r))).Nodup:=List.nodup_range'
    have:=qM _ _ am X
    simp at this
    omega
   ·have ad:∃ i,i<nh+r/\y.getD i false=false:=by
     apply Classical.byContradiction
     intro hn
     refine E fun i hi=>?_
     cases h:y.getD i false with
     | true=>rfl
     | false=>exact absurd ⟨i,hi,h⟩ hn
    refine hW _ _ _ _ (fun h0=>?_) fun i hi=>?_
    ·exfalso
     obtain⟨i,hi,Y⟩:=ad
     obtain⟨j,G⟩:=qh M B.size i (by omega) Y
     rw [h0] at G;cases G
    ·obtain⟨N,O,⟨o,ho⟩,h3⟩:=zo hi
     by_cases ba:¬ i<nh+r
     ·-- the tail begins before what floats
      have aP:i=nh+r:=by
       rcases (qP M O).1 with h | h
       ·omega
       ·have:=B.heads _ (h3 _ h);omega
      subst aP
      have hs:=aD y a w B hi
      -- how much of it has come
      have zdg:∃ c,c<r/\y.getD (nh+c) false=false/\∀ i,i<nh+c->y.getD i false=true:=by
       obtain⟨j,G,Y⟩:=ad
       have:∀ n c,c+n=r->(∀ i,i<nh+c->y.getD i false=true)->∃ c,c<r/\y.getD (nh+c) false=false/\∀ i,i<nh+c->y.getD i false=true:=by
        intro n
        induction n with
        | zero=>intro c hc hl;rw [hl j (by omega)] at Y;cases Y
        | succ n ih=>
          intro c hc hl
          cases h:y.getD (nh+c) false with
          | false=>exact⟨c,by omega,h,hl⟩
          | true=>
            refine ih (c+1) (by omega) fun i hi=>?_
            by_cases e:i=nh+c
            ·rw [e];exact h
            ·exact hl i (by omega)
       exact this r 0 (by omega) fun i hi=>hs _ i rfl (by omega)
      obtain⟨c,hc,aT,az⟩:=zdg
      have aL:∀ k,nh+c+k<nh+r->y.getD (nh+c+k) false=false:=by
       intro k
       induction k with
       | zero=>intro _;exact aT
       | succ k ih=>
         intro hk
         cases h:y.getD (nh+c+(k+1)) false with
         | false=>rfl
         | true=>
           have:=B.closed _ _ h (J (nh+c+k) (by omega) (by omega))
           rw [ih (by omega)] at this;cases this
      have Q:∀ j,y.getD j false=true->j<nh+c:=fun j G=>by
       have:=B.heads j G
       apply Classical.byContradiction
       intro bb
       have:=aL (j - (nh+c)) (by omega)
       rw [show nh+c+(j - (nh+c))=j by omega,G] at this;cases this
      have aJ:GI ops (nh+c) a0 w0 C (env.take (nh+c)) y a w:=⟨B.size,B.closed,Q,B.c,B.keep,fun j d V G hV=>B.vals j d V G (by rw [List.getElem?_take] at hV;split at hV;exact hV;cases hV),B.rest,B.tsize,B.defers⟩
      have hB:=aJ.fin (by simp;omega) (fun j x H=>F j x (by rw [List.getElem?_take] at H;split at H;exact H;cases H)) az (ah c hc w B.c B.keep)
      refine I _ _ _ _ _ (fun a' w' h'=>?_) hB
      have bg:(r - c)+(ops.size - (nh+r))<=S.length:=by
       have X:(List.range' (nh+c) (ops.size - (nh+c))) ⊆ S:=fun i hi=>by
        simp only [List.mem_range'_1] at hi
        refine hS i (by omega) ?_
        cases h:y.getD i false with
        | false=>rfl
        | true=>have:=Q i h;omega
       have am:(List.range' (nh+c) (ops.size - (nh+c))).Nodup:=List.nodup_range'
       have:=qM _ _ am X
       simp at this
       omega
      refine ao (r - c) c A _ a' w' rfl (by omega) (by simp [B.size]) (fun j=>?_) (by omega) h'
      by_cases e:j=nh+r
      ·subst e;rw [zl (by rw [B.size];exact O)];simp
      ·rw [zj e]
       constructor
       ·intro h;exact .inl (Q j h)
       ·intro h;exact az j (by omega)
     have P:i<nh+r:=by omega
     obtain⟨o',aQ,aU,aK,_⟩:=L _ P
     obtain rfl:o'=o:=Option.some.inj (aQ.symm.trans ho)
     have ax:i<env.length:=by omega
     have au:env[i]? = some (o'.dst,env[i].2):=by
      have:=F i _ (List.getElem?_eq_getElem ax)
      unfold zJ at this
      rw [ho] at this
      rw [List.getElem?_eq_getElem ax]
      exact congrArg some (Prod.ext this.symm rfl)
     have ae:∀ j:Nat,j<i->env[j]? = (env.take i)[j]?:=fun j G=>by rw [List.getElem?_take,if_pos G]
     have af:=B.rds (env:=env.take i) L P ho (zx N).1 h3 (by simp;omega) ae (fun j x H=>F j x (by rw [List.getElem?_take] at H;split at H;exact H;cases H)) (zA o') aU
     have U:=aS i o' _ ho au
     have ai:∀ u w',Kpo.kp w w'->C w'->env[i].2 u w'->W A (y.setIfInBounds i true) (a.put o'.dst u) w':=fun u w' hk hc Y=>
      ih _ _ _ (S.erase i) (B.step L aB P ho N h3 aV F au hk hc Y) (fun j G ac=>by
       have ab:j≠i:=fun e=>by subst e;rw [zl (zx N).2] at ac;cases ac
       rw [zj ab] at ac
       exact(List.mem_erase_of_ne ab).2 (hS j G ac)) (by rw [List.length_erase_of_mem (hS i O (zx N).1)];omega)
     refine an i o' _ a w ho ?_
     unfold stepOk at U
     cases hgu:o'.guard with
     | none=>
       simp only [hgu] at U
       rw [if_pos (by simp [Region.wanted,hgu])]
       exact U a w B.c B.keep af _ ai
     | some jb=>
       obtain⟨j,b⟩:=jb
       simp only [hgu] at U
       obtain⟨ab,aN,aM⟩:=aK j b hgu
       obtain⟨d,hd⟩:=Option.isSome_iff_exists.1 aM
       have aj:j<env.length:=by omega
       have av:=F j _ (List.getElem?_eq_getElem aj)
       rw [hd] at av
       have aY:=B.vals j d env[j].2 (h3 j aN) (by rw [List.getElem?_eq_getElem aj];exact congrArg some (Prod.ext av.symm rfl))
       obtain⟨oj,aR,_,_,aH⟩:=L j (show j<nh+r by omega)
       have aI:d<a.tmps.size:=by rw [B.tsize,aB];exact(aH d (by unfold zJ at hd;rw [aR] at hd;exact hd)).1
       have hy:=yS (tmps:=a.tmps) hd aI
       have Z:∀ x,isV (env.take i) j x->a.tmps.getD d undef=x:=fun x H=>by
        have:=isV_of H ae ab
        unfold isV at this
        rw [List.getElem?_eq_getElem aj] at this
        exact this _ _ aY
       rcases U with⟨H,hh⟩ | ⟨H,aF⟩
       ·have:=Z _ H
        rw [this] at hy
        rw [if_pos (by simp [Region.wanted,hgu,hy])]
        exact hh a w B.c B.keep af _ ai
       ·have aZ:yielded ops a.tmps j≠some b:=by
         rcases H with H | H
         ·have:=Z _ H
          rw [this] at hy
          rw [hy];cases b<;>simp
         ·have:=Z _ H
          rw [this] at hy
          rw [hy];simp [undef]
        rw [if_neg (by simp [Region.wanted,hgu];exact aZ)]
        exact ai undef w (Kpo.refl _) B.c (by rw [aF])
def walkE (a:Oper->Act->Ω->(Act->Ω->Prop)->Prop) (a0:Act) (w0:Ω) (C:Ω->Prop) (E:List (Option Tmp × VP Ω)->Prop):List Oper->List (Option Tmp × VP Ω)->Prop
 | [],env=>E env
 | o::l,env=>∃ V:VP Ω,(∀ u w j,V u w->Kpo.kp w j->V u j)/\stepOk a a0 w0 C env o V/\walkE a a0 w0 C E l (env++[(o.dst,V)])
theorem walkG_of {a:Oper->Act->Ω->(Act->Ω->Prop)->Prop} {F:Act->Ω->Prop}:∀(l:List Oper) (env:List (Option Tmp × VP Ω)),walkE a a0 w0 C (fun env=>∀ w,C w->Kpo.kp w0 w->finG F w env a0) l env->walkG a a0 w0 C F l env
 | [],env,h=>h
 | o::l,env,⟨V,h1,h2,h3⟩=>⟨V,h1,h2,walkG_of l _ h3⟩
theorem walkE_env {j:Oper->Act->Ω->(Act->Ω->Prop)->Prop} {E:List (Option Tmp × VP Ω)->Prop}:∀(l:List Oper) (env:List (Option Tmp × VP Ω)),walkE j a0 w0 C E l env ->
 ∃ r:List (Option Tmp × VP Ω),r.length=l.length/\(∀(i:Nat) o,l[i]? = some o->∃ V,r[i]? = some (o.dst,V)/\(∀ u w A,V u w->Kpo.kp w A->V u A)/\stepOk j a0 w0 C (env++r.take i) o V) /\
  E (env++r)
 | [],env,h=>⟨[],rfl,(fun i o ho=>by simp at ho),by rw [List.append_nil];exact h⟩
 | o::l,env,⟨V,hs,hk,hw⟩=>by
   obtain⟨r,I,J,K⟩:=walkE_env l _ hw
   refine⟨(o.dst,V)::r,by simp [I],fun i y a=>?_,by simpa using K⟩
   cases i with
   | zero=>
     obtain rfl:o=y:=by simpa using a
     exact⟨V,rfl,hs,by simpa using hk⟩
   | succ i=>
     obtain⟨B,F,G,H⟩:=J i y (by simpa using a)
     exact⟨B,by simpa using F,G,by simpa using H⟩
theorem gready {nt:Nat} {l:List Oper} (hO:ops=l.toArray) (F:Oper->Act->Ω->(Act->Ω->Prop)->Prop) (step:Nat->(Act->Ω->Prop)->Act->Ω->Prop) (W:Nat->Array Bool->Act->Ω->Prop) (N:Act->Ω->Prop) (T:Nat->Act->Ω->Prop)
 (I:∀ i o K a w,ops[i]? = some o->(if Region.wanted o (yielded ops a.tmps) then F o a w K else K (a.put o.dst undef) w)->step i K a w)
 (H:∀ i K K' a w,(∀ a w,K a w->K' a w)->step i K a w->step i K' a w)
 (X:∀ y a w,Region.ready .any ops y=[]->N a w->W 0 y a w)
 (hW:∀ G y a w,(Region.ready .any ops y=[]->N a w)->(∀ i ∈ Region.ready .any ops y,step i (W G (y.setIfInBounds i true)) a w)->W (G+1) y a w)
 (hT:∀ k a w,k<ops.size->T k a w->step k (T (k+1)) a w) (U:∀ a w,T ops.size a w->N a w)
 (A:xk ops nh nt=true) (Y:yK ops nh=true) (ab:a0.tmps.size=nt) (hC:C w0)
 (h:walkG F a0 w0 C (T nh) (l.take nh) []):W ops.size (Array.replicate ops.size false) a0 w0:=by
 subst hO
 have M:nh<=l.toArray.size:=by
  unfold xk at A
  simp only [Bool.and_eq_true,decide_eq_true_eq] at A
  exact A.1
 have ac:nh<=l.length:=by simpa using M
 obtain⟨env,h1,h2,h3⟩:=walkG_env _ _ h
 have B:env.length=nh:=by rw [h1];simp;omega
 have get:∀ i:Nat,i<nh->∃ o V,l[i]? = some o/\env[i]? = some (o.dst,V)/\(∀ u w w',V u w->Kpo.kp w w'->V u w')/\stepOk F a0 w0 C (env.take i) o V:=fun i hi=>by
  have L:i<l.length:=by omega
  obtain⟨V,g⟩:=h2 i l[i] (by rw [List.getElem?_take,if_pos hi];exact List.getElem?_eq_getElem L)
  exact⟨l[i],V,List.getElem?_eq_getElem L,by simpa using g⟩
 refine gcore (nt:=nt) F step W N T I H X hW hT U A Y M ab env B (fun j d V E=>?_) (fun j x E=>?_) (fun i o V ho P=>?_) (by simpa using h3) _ _ _ _ (List.range l.toArray.size) ?_ (fun i hi _=>by simpa using hi) (by simp)
 ·obtain⟨o,V',O,J,Q,S⟩:=get j (by rw [<-B];exact(List.getElem?_eq_some_iff.1 E).1)
  rw [J] at E
  cases E
  exact Q
 ·obtain⟨o,V',O,J,Q,S⟩:=get j (by rw [<-B];exact(List.getElem?_eq_some_iff.1 E).1)
  rw [J] at E
  cases E
  unfold zJ
  simp [O]
 ·obtain⟨o',V',O,J,Q,S⟩:=get i (by rw [<-B];exact(List.getElem?_eq_some_iff.1 P).1)
  have e1:o'=o:=by have:l[i]? = some o:=by simpa using ho
                   rw [O] at this;exact Option.some.inj this
  subst e1
  rw [J] at P
  simp only [Option.some.injEq,Prod.mk.injEq,true_and] at P
  subst P
  exact S
 ·have Z:∀ i:Nat,(Array.replicate l.toArray.size false).getD i false=false:=fun i=>by
   simp only [Array.getD_eq_getD_getElem?,Array.getElem?_replicate]
   split<;>rfl
  exact⟨by simp,(fun i j hi=>by rw [Z] at hi;cases hi),(fun i hi=>by rw [Z] at hi;cases hi),hC,Kpo.refl _,(fun j d V E=>by rw [Z] at E;cases E),fun _ _=>rfl,rfl,rfl⟩
theorem greadyF {nt:Nat} {l:List Oper} (hO:ops=l.toArray) (E:Oper->Act->Ω->(Act->Ω->Prop)->Prop) (step:Nat->(Act->Ω->Prop)->Act->Ω->Prop) (W:Nat->Array Bool->Act->Ω->Prop) (P:Act->Ω->Prop) (T:Nat->Act->Ω->Prop)
 (J:∀ i o K a w,ops[i]? = some o->(if Region.wanted o (yielded ops a.tmps) then E o a w K else K (a.put o.dst undef) w)->step i K a w)
 (I:∀ i K K' a w,(∀ a w,K a w->K' a w)->step i K a w->step i K' a w)
 (Z:∀ y a w,Region.ready .any ops y=[]->P a w->W 0 y a w)
 (hW:∀ F y a w,(Region.ready .any ops y=[]->P a w)->(∀ i ∈ Region.ready .any ops y,step i (W F (y.setIfInBounds i true)) a w)->W (F+1) y a w)
 (hT:∀ k a w,k<ops.size->T k a w->step k (T (k+1)) a w) (Y:∀ a w,T ops.size a w->P a w)
 (M:ChkR ops (nh+1) nt) (H:∀ i,i<nh->∃ j,j<=nh+1/\i<j/\j≠nh/\edge ops j i=true) (G:nh+2<ops.size->edge ops (nh+2) nh=true) (ab:yK ops (nh+1)=true) (O:nh+2<=ops.size) (ac:a0.tmps.size=nt) (hC:C w0)
 (h:walkE E a0 w0 C (fun env=>(∀ w,C w->Kpo.kp w0 w->finG (T (nh+1)) w env a0)/\∀ w,C w->Kpo.kp w0 w->finG (fun a w=>step (nh+1) (fun a w=>step nh (T (nh+2)) a w) a w) w (env.take nh) a0) (l.take (nh+1)) []):W ops.size (Array.replicate ops.size false) a0 w0:=by
 subst hO
 have ad:nh+2<=l.length:=by simpa using O
 obtain⟨env,h1,h2,h3⟩:=walkE_env _ _ h
 have A:env.length=nh+1:=by rw [h1];simp;omega
 have get:∀ i:Nat,i<nh+1->∃ o V,l[i]? = some o/\env[i]? = some (o.dst,V)/\(∀ u w w',V u w->Kpo.kp w w'->V u w')/\stepOk E a0 w0 C (env.take i) o V:=fun i hi=>by
  have N:i<l.length:=by omega
  obtain⟨V,g⟩:=h2 i l[i] (by rw [List.getElem?_take,if_pos hi];exact List.getElem?_eq_getElem N)
  exact⟨l[i],V,List.getElem?_eq_getElem N,by simpa using g⟩
 refine gcoreF (nt:=nt) E step W P T J I Z hW hT Y M H G ab O ac env A (fun j d V B=>?_) (fun j x B=>?_) (fun i o V ho S=>?_) (by simpa using h3.1) (by simpa using h3.2) _ _ _ _ (List.range l.toArray.size) ?_ (fun i hi _=>by simpa using hi) (by simp)
 ·obtain⟨o,V',Q,L,U,X⟩:=get j (by rw [<-A];exact(List.getElem?_eq_some_iff.1 B).1)
  rw [L] at B
  cases B
  exact U
 ·obtain⟨o,V',Q,L,U,X⟩:=get j (by rw [<-A];exact(List.getElem?_eq_some_iff.1 B).1)
  rw [L] at B
  cases B
  unfold zJ
  simp [Q]
 ·obtain⟨o',V',Q,L,U,X⟩:=get i (by rw [<-A];exact(List.getElem?_eq_some_iff.1 S).1)
  have e1:o'=o:=by have:l[i]? = some o:=by simpa using ho
                   rw [Q] at this;exact Option.some.inj this
  subst e1
  rw [L] at S
  simp only [Option.some.injEq,Prod.mk.injEq,true_and] at S
  subst S
  exact X
 ·have hf:∀ i:Nat,(Array.replicate l.toArray.size false).getD i false=false:=fun i=>by
   simp only [Array.getD_eq_getD_getElem?,Array.getElem?_replicate]
   split<;>rfl
  exact⟨by simp,(fun i j hi=>by rw [hf] at hi;cases hi),(fun i hi=>by rw [hf] at hi;cases hi),hC,Kpo.refl _,(fun j d V B=>by rw [hf] at B;cases B),fun _ _=>rfl,rfl,rfl⟩
theorem greadyC {nt r:Nat} {l:List Oper} (hO:ops=l.toArray) (F:Oper->Act->Ω->(Act->Ω->Prop)->Prop) (step:Nat->(Act->Ω->Prop)->Act->Ω->Prop) (W:Nat->Array Bool->Act->Ω->Prop) (U:Act->Ω->Prop) (T:Nat->Act->Ω->Prop)
 (L:∀ i o K a w,ops[i]? = some o->(if Region.wanted o (yielded ops a.tmps) then F o a w K else K (a.put o.dst undef) w)->step i K a w)
 (J:∀ i K K' a w,(∀ a w,K a w->K' a w)->step i K a w->step i K' a w)
 (ad:∀ y a w,Region.ready .any ops y=[]->U a w->W 0 y a w)
 (hW:∀ G y a w,(Region.ready .any ops y=[]->U a w)->(∀ i ∈ Region.ready .any ops y,step i (W G (y.setIfInBounds i true)) a w)->W (G+1) y a w)
 (hT:∀ k a w,k<ops.size->T k a w->step k (T (k+1)) a w) (ac:∀ a w,T ops.size a w->U a w)
 (ag:1<=r) (P:ChkR ops (nh+r) nt) (I:∀ i,i<nh->∃ j,j<=nh+r/\i<j/\¬(nh<=j/\j<nh+r)/\edge ops j i=true) (E:∀ i,nh<=i->i+1<nh+r->edge ops (i+1) i=true) (H:nh+r+1<ops.size->edge ops (nh+r+1) (nh+r - 1)=true) (ae:yK ops (nh+r)=true) (S:nh+r+1<=ops.size)
 (M:Nat->Act->Ω->Prop) (ab:∀ c a w,c<r->M c a w->step (nh+c) (M (c+1)) a w) (O:∀ a w,M r a w->T (nh+r+1) a w) (af:a0.tmps.size=nt) (hC:C w0)
 (h:walkE F a0 w0 C (fun env=>(∀ w,C w->Kpo.kp w0 w->finG (T (nh+r)) w env a0)/\∀ c,c<r->∀ w,C w->Kpo.kp w0 w->finG (fun a w=>step (nh+r) (M c) a w) w (env.take (nh+c)) a0) (l.take (nh+r)) []):W ops.size (Array.replicate ops.size false) a0 w0:=by
 subst hO
 have ah:nh+r+1<=l.length:=by simpa using S
 obtain⟨env,h1,h2,h3⟩:=walkE_env _ _ h
 have A:env.length=nh+r:=by rw [h1];simp;omega
 have get:∀ i:Nat,i<nh+r->∃ o V,l[i]? = some o/\env[i]? = some (o.dst,V)/\(∀ u w w',V u w->Kpo.kp w w'->V u w')/\stepOk F a0 w0 C (env.take i) o V:=fun i hi=>by
  have Q:i<l.length:=by omega
  obtain⟨V,g⟩:=h2 i l[i] (by rw [List.getElem?_take,if_pos hi];exact List.getElem?_eq_getElem Q)
  exact⟨l[i],V,List.getElem?_eq_getElem Q,by simpa using g⟩
 refine gcoreC (nt:=nt) F step W U T L J ad hW hT ac ag P I E H ae S M ab O af env A (fun j d V B=>?_) (fun j x B=>?_) (fun i o V ho Y=>?_) (by simpa using h3.1) (by simpa using h3.2) _ _ _ _ (List.range l.toArray.size) ?_ (fun i hi _=>by simpa using hi) (by simp)
 ·obtain⟨o,V',X,N,Z,g4⟩:=get j (by rw [<-A];exact(List.getElem?_eq_some_iff.1 B).1)
  rw [N] at B
  cases B
  exact Z
 ·obtain⟨o,V',X,N,Z,g4⟩:=get j (by rw [<-A];exact(List.getElem?_eq_some_iff.1 B).1)
  rw [N] at B
  cases B
  unfold zJ
  simp [X]
 ·obtain⟨o',V',X,N,Z,g4⟩:=get i (by rw [<-A];exact(List.getElem?_eq_some_iff.1 Y).1)
  have e1:o'=o:=by have:l[i]? = some o:=by simpa using ho
                   rw [X] at this;exact Option.some.inj this
  subst e1
  rw [N] at Y
  simp only [Option.some.injEq,Prod.mk.injEq,true_and] at Y
  subst Y
  exact g4
 ·have hf:∀ i:Nat,(Array.replicate l.toArray.size false).getD i false=false:=fun i=>by
   simp only [Array.getD_eq_getD_getElem?,Array.getElem?_replicate]
   split<;>rfl
  exact⟨by simp,(fun i j hi=>by rw [hf] at hi;cases hi),(fun i hi=>by rw [hf] at hi;cases hi),hC,Kpo.refl _,(fun j d V B=>by rw [hf] at B;cases B),fun _ _=>rfl,rfl,rfl⟩
end
end Go.Proofs.YtonhfknjcbakiaaGreatDoor.Pl
namespace Go.Proofs.YtonhfknjcbakiaaGreatDoor
open Go.RowKit
def lk:List (Option Tmp × VP)->Tmp->Option VP
 | [],_=>none
 | (d,V)::r,t=>if d=some t then some V else lk r t
def Rds (env:List (Option Tmp × VP)) (a0:Act):List Tmp->Act->World->Prop
 | [],_,_=>True
 | t::ts,a,w=>(match lk env t with | some V=>∃ u,RdEq a t u/\V u w | none=>RdEq a t (a0.tmps.getD t undef))/\Rds env a0 ts a w
def headOk (Sw:Nat->Prop) (y:Oper->Act->World->(Act->World->Prop)->Prop) (a0:Act) (w0:World) (C:World->Prop) (env:List (Option Tmp × VP)) (o:Oper) (V:VP):Prop:=
 ∀ a w,C w->Keep Sw w0 w->Rds env a0 (zA o) a w->∀ K:Act->World->Prop,(∀ u j,Keep Sw w j->C j->V u j->K (a.put o.dst u) j)->y o a w K
def isV (env:List (Option Tmp × VP)) (j:Nat) (x:Value):Prop:=match env[j]? with | some (_,V)=>∀ u w,V u w->u=x | none=>False
def stepOk (Sw:Nat->Prop) (a:Oper->Act->World->(Act->World->Prop)->Prop) (a0:Act) (w0:World) (C:World->Prop) (env:List (Option Tmp × VP)) (o:Oper) (V:VP):Prop:=
 match o.guard with
 | none=>headOk Sw a a0 w0 C env o V
 | some (j,b)=>(isV env j (.bool b)/\headOk Sw a a0 w0 C env o V)\/((isV env j (.bool !b)\/isV env j undef)/\V=fun u _=>u=undef)
def finG (F:Act->World->Prop) (w:World):List (Option Tmp × VP)->Act->Prop
 | [],a=>F a w
 | (none,_)::r,a=>finG F w r a
 | (some d,V)::r,a=>∀ u,V u w->finG F w r (a.put (some d) u)
def walkG (Sw:Nat->Prop) (a:Oper->Act->World->(Act->World->Prop)->Prop) (a0:Act) (w0:World) (C:World->Prop) (F:Act->World->Prop):List Oper->List (Option Tmp × VP)->Prop
 | [],env=>∀ w,C w->Keep Sw w0 w->finG F w env a0
 | o::l,env=>∃ V:VP,(∀ u w j,V u w->Keep Sw w j->V u j)/\stepOk Sw a a0 w0 C env o V/\walkG Sw a a0 w0 C F l (env++[(o.dst,V)])
section
variable {Sw:Nat->Prop} {ops:Array Oper} {nh:Nat} {a0:Act} {w0:World} {C:World->Prop}
@[reducible] def zoB (Sw:Nat->Prop):Pl.Kpo World:=⟨Keep Sw,Keep.refl Sw,fun _ _ _ h k=>h.trans k⟩
theorem zoO:∀(env:List (Option Tmp × VP)) (t:Tmp),@Pl.lk World env t=lk env t
 | [],t=>rfl
 | (d,V)::r,t=>by
   rw [lk,Pl.lk,zoO r t]
theorem zop (env:List (Option Tmp × VP)) (a0:Act):∀(j:List Tmp) (a:Act) (w:World),@Pl.Rds World env a0 j a w=Rds env a0 j a w
 | [],a,w=>rfl
 | t::j,a,w=>by
   rw [Rds,Pl.Rds,zop env a0 j a w,zoO]
   cases lk env t<;>rfl
theorem zoV (env:List (Option Tmp × VP)) (j:Nat) (x:Value):@Pl.isV World env j x=isV env j x:=by
 unfold isV Pl.isV
 cases env[j]?<;>rfl
theorem zoy {a:Oper->Act->World->(Act->World->Prop)->Prop} {env:List (Option Tmp × VP)} {o:Oper} {V:VP}:@Pl.headOk World (zoB Sw) a a0 w0 C env o V=headOk Sw a a0 w0 C env o V:=by
 unfold headOk Pl.headOk
 simp only [zop]
 rfl
theorem zoI {a:Oper->Act->World->(Act->World->Prop)->Prop} {env:List (Option Tmp × VP)} {o:Oper} {V:VP}:@Pl.stepOk World (zoB Sw) a a0 w0 C env o V=stepOk Sw a a0 w0 C env o V:=by
 unfold stepOk Pl.stepOk
 rw [zoy]
 cases o.guard with
 | none=>rfl
 | some p=>
   obtain⟨j,b⟩:=p
   simp only [zoV]
theorem znS {F:Act->World->Prop} {w:World}:∀(env:List (Option Tmp × VP)) (a:Act),@Pl.finG World F w env a=finG F w env a
 | [],a=>rfl
 | (none,_)::r,a=>by rw [finG,Pl.finG,znS r a]
 | (some d,V)::r,a=>by
   rw [finG,Pl.finG]
   simp only [znS r]
theorem znZ {a:Oper->Act->World->(Act->World->Prop)->Prop} {F:Act->World->Prop}:∀(l:List Oper) (env:List (Option Tmp × VP)),walkG Sw a a0 w0 C F l env->@Pl.walkG World (zoB Sw) a a0 w0 C F l env
 | [],env,h=>fun w j hk=>by rw [znS];exact h w j hk
 | o::l,env,⟨V,h1,h2,h3⟩=>⟨V,h1,by rw [zoI];exact h2,znZ l _ h3⟩
theorem gready {L:Nat} {l:List Oper} (O:ops=l.toArray) (B:Oper->Act->World->(Act->World->Prop)->Prop) (step:Nat->(Act->World->Prop)->Act->World->Prop) (W:Nat->Array Bool->Act->World->Prop) (F:Act->World->Prop) (T:Nat->Act->World->Prop)
 (A:∀ i o K a w,ops[i]? = some o->(if Region.wanted o (yielded ops a.tmps) then B o a w K else K (a.put o.dst undef) w)->step i K a w)
 (y:∀ i K M a w,(∀ a w,K a w->M a w)->step i K a w->step i M a w)
 (H:∀ j a w,Region.ready .any ops j=[]->F a w->W 0 j a w)
 (Q:∀ u j a w,(Region.ready .any ops j=[]->F a w)->(∀ i ∈ Region.ready .any ops j,step i (W u (j.setIfInBounds i true)) a w)->W (u+1) j a w)
 (P:∀ k a w,k<ops.size->T k a w->step k (T (k+1)) a w) (G:∀ a w,T ops.size a w->F a w)
 (E:xk ops nh L=true) (I:yK ops nh=true) (J:a0.tmps.size=L) (N:C w0)
 (h:walkG Sw B a0 w0 C (T nh) (l.take nh) []):W ops.size (Array.replicate ops.size false) a0 w0:=
 @Pl.gready World (zoB Sw) ops nh a0 w0 C L l O B step W F T A y H Q P G E I J N (znZ _ _ h)
end
theorem Kg {Sw:Nat->Prop} {P:Program} {id:Nat} {l:List Oper} {Q:Exit->Act->World->Prop} {a:Act} {w:World} (nh G:Nat) (C:World->Prop) (I:P.follows .mixedOrders=true)
 (B:(xk l.toArray nh G && yK l.toArray nh)=true) (E:a.tmps.size=G) (H:C w.drew)
 (h:walkG Sw (fun o a w K=>o.wp P a w K Q) a w.drew C (fun a w=>wpList P l.toArray Q (l.drop nh) a w) (l.take nh) []):(Code.region id l.toArray true).wp P Q a w:=by
 rw [Bool.and_eq_true] at B
 refine wp_region_any I ?_
 refine gready (ops:=l.toArray) (a0:=a) (w0:=w.drew) (C:=C) rfl (fun o a w K=>o.wp P a w K Q) (wpOp P l.toArray Q) (wpAny P .any l.toArray Q) (fun a w=>Q .normal a w) (fun k a w=>wpList P l.toArray Q (l.drop k) a w)
  ?_ (fun i K J a w hk hs=>wpOp_mono hk hs) (fun j a w y A=>⟨y,A⟩) (fun F j a w y A=>⟨y,A⟩) ?_ ?_ B.1 B.2 E H h
 ·intro i o K a w ho hs
  unfold wpOp
  simp only [ho]
  split
  ·rename_i hw;rw [if_pos hw] at hs;exact .inl hs
  ·rename_i hw;rw [if_neg hw] at hs;exact hs
 ·intro k a w hk ht
  have u:k<l.length:=by simpa using hk
  simp only [List.drop_eq_getElem_cons u,wpList] at ht
  unfold wpOp
  simp only [List.getElem?_toArray,List.getElem?_eq_getElem u]
  exact ht
 ·intro a w ht
  simpa [wpList] using ht
theorem Kh {Sw:Nat->Prop} {P:Program} {F:Fence} {n:Nat} (hF:∀ f,F.fn f) {id:Nat} {l:List Oper} {Q:Exit->Act->World->Prop} {a:Act} {w:World} (nh H:Nat) (C:World->Prop) (J:P.follows .mixedOrders=true)
 (B:(xk l.toArray nh H && yK l.toArray nh)=true) (E:a.tmps.size=H) (I:C w.drew)
 (h:walkG Sw (fun o a w K=>o.wpIn F n P a w K Q) a w.drew C (fun a w=>wpListIn F n P l.toArray Q (l.drop nh) a w) (l.take nh) []):(Code.region id l.toArray true).wpIn F n P Q a w:=by
 rw [Bool.and_eq_true] at B
 refine wpIn_region_any J ?_
 refine gready (ops:=l.toArray) (a0:=a) (w0:=w.drew) (C:=C) rfl (fun o a w K=>o.wpIn F n P a w K Q) (wpOpIn F n P l.toArray Q) (wpAnyIn F n P .any l.toArray Q) (fun a w=>Q .normal a w) (fun k a w=>wpListIn F n P l.toArray Q (l.drop k) a w)
  ?_ (fun i K L a w hk hs=>wpOpIn_mono hk hs) (fun j a w y A=>⟨y,A⟩) (fun G j a w y A=>⟨y,A⟩) ?_ ?_ B.1 B.2 E I h
 ·intro i o K a w ho hs
  unfold wpOpIn
  simp only [ho]
  split
  ·rename_i hw;rw [if_pos hw] at hs;exact hs
  ·rename_i hw;rw [if_neg hw] at hs;exact⟨fun f _=>hF f,hs⟩
 ·intro k a w hk ht
  have u:k<l.length:=by simpa using hk
  simp only [List.drop_eq_getElem_cons u,wpListIn] at ht
  unfold wpOpIn
  simp only [List.getElem?_toArray,List.getElem?_eq_getElem u]
  exact ht
 ·intro a w ht
  simpa [wpListIn] using ht
section
variable {Sw:Nat->Prop} {P:Program} {Q:Exit->Act->World->Prop} {a0:Act} {w0:World} {C:World->Prop} {F:Act->World->Prop} {l:List Oper} {o:Oper} {env:List (Option Tmp × VP)}
abbrev xC (P:Program) (Q:Exit->Act->World->Prop):Oper->Act->World->(Act->World->Prop)->Prop:=fun o a w K=>o.wp P a w K Q
abbrev zdw (G:Fence) (n:Nat) (P:Program) (Q:Exit->Act->World->Prop):Oper->Act->World->(Act->World->Prop)->Prop:=fun o a w K=>o.wpIn G n P a w K Q
theorem yj (v:Value):∀(u:Value) (w a:World),(fun(u:Value) (_:World)=>u=v) u w->Keep Sw w a->(fun(u:Value) (_:World)=>u=v) u a:=fun _ _ _ h _=>h
theorem zG {j:Nat} {d:Option Tmp} {v x:Value} (h:env[j]? = some (d,fun u _=>u=v)) (e:v=x):isV env j x:=by unfold isV;rw [h];exact fun u _ h=>h.trans e
theorem Vc (v:Value) (h:∀ a w,C w->Keep Sw w0 w->Rds env a0 (zA o) a w->(execOp a.eval o).run P w=.ok (.value v) w):headOk Sw (xC P Q) a0 w0 C env o (fun u _=>u=v):=by
 intro a w j hk A K y
 show o.upon P a K Q ((execOp a.eval o).run P w)
 rw [h a w j hk A]
 exact y v w (Keep.refl _ _) j rfl
theorem Yu {G:Fence} {n:Nat} (y:∀ f,G.fn f) (v:Value) (h:∀ a w,C w->Keep Sw w0 w->Rds env a0 (zA o) a w->(o.semAt G.round a.eval).run P w=.ok (.value v) w):headOk Sw (zdw G n P Q) a0 w0 C env o (fun u _=>u=v):=by
 intro a w j hk B K A
 refine⟨fun f _=>y f,?_⟩
 rw [h a w j hk B]
 exact A v w (Keep.refl _ _) j rfl
theorem zev (v:Value) (j:o.guard=none) (h:∀ a w,C w->Keep Sw w0 w->Rds env a0 (zA o) a w->(execOp a.eval o).run P w=.ok (.value v) w)
 (y:walkG Sw (xC P Q) a0 w0 C F l (env++[(o.dst,fun u _=>u=v)])):walkG Sw (xC P Q) a0 w0 C F (o::l) env:=
 ⟨_,yj v,by unfold stepOk;rw [j];exact Vc v h,y⟩
theorem V5 {G:Fence} {n:Nat} (j:∀ f,G.fn f) (v:Value) (y:o.guard=none) (h:∀ a w,C w->Keep Sw w0 w->Rds env a0 (zA o) a w->(o.semAt G.round a.eval).run P w=.ok (.value v) w)
 (A:walkG Sw (zdw G n P Q) a0 w0 C F l (env++[(o.dst,fun u _=>u=v)])):walkG Sw (zdw G n P Q) a0 w0 C F (o::l) env:=
 ⟨_,yj v,by unfold stepOk;rw [y];exact Yu j v h,A⟩
theorem V6 {j:Nat} {b:Bool} (y:o.guard=some (j,b)) (A:isV env j (.bool b)) (v:Value) (h:∀ a w,C w->Keep Sw w0 w->Rds env a0 (zA o) a w->(execOp a.eval o).run P w=.ok (.value v) w)
 (B:walkG Sw (xC P Q) a0 w0 C F l (env++[(o.dst,fun u _=>u=v)])):walkG Sw (xC P Q) a0 w0 C F (o::l) env:=
 ⟨_,yj v,by unfold stepOk;rw [y];exact .inl ⟨A,Vc v h⟩,B⟩
theorem QQ {G:Fence} {n:Nat} (y:∀ f,G.fn f) {j:Nat} {b:Bool} (A:o.guard=some (j,b)) (B:isV env j (.bool b)) (v:Value) (h:∀ a w,C w->Keep Sw w0 w->Rds env a0 (zA o) a w->(o.semAt G.round a.eval).run P w=.ok (.value v) w)
 (E:walkG Sw (zdw G n P Q) a0 w0 C F l (env++[(o.dst,fun u _=>u=v)])):walkG Sw (zdw G n P Q) a0 w0 C F (o::l) env:=
 ⟨_,yj v,by unfold stepOk;rw [A];exact .inl ⟨B,Yu y v h⟩,E⟩
theorem jI {a:Oper->Act->World->(Act->World->Prop)->Prop} {j:Nat} {b:Bool} (w:o.guard=some (j,b)) (y:isV env j (.bool !b)\/isV env j undef)
 (A:walkG Sw a a0 w0 C F l (env++[(o.dst,fun u _=>u=undef)])):walkG Sw a a0 w0 C F (o::l) env:=
 ⟨_,yj undef,by unfold stepOk;rw [w];exact .inr ⟨y,rfl⟩,A⟩
theorem V7 {a:Oper->Act->World->(Act->World->Prop)->Prop} (V:VP) (hs:∀ u w j,V u w->Keep Sw w j->V u j) (y:o.guard=none)
 (h:headOk Sw a a0 w0 C env o V) (A:walkG Sw a a0 w0 C F l (env++[(o.dst,V)])):walkG Sw a a0 w0 C F (o::l) env:=
 ⟨V,hs,by unfold stepOk;rw [y];exact h,A⟩
theorem zhg {a:Oper->Act->World->(Act->World->Prop)->Prop} {j:Nat} {b:Bool} (V:VP) (hs:∀ u w y,V u w->Keep Sw w y->V u y) (A:o.guard=some (j,b)) (B:isV env j (.bool b))
 (h:headOk Sw a a0 w0 C env o V) (E:walkG Sw a a0 w0 C F l (env++[(o.dst,V)])):walkG Sw a a0 w0 C F (o::l) env:=
 ⟨V,hs,by unfold stepOk;rw [A];exact .inl ⟨B,h⟩,E⟩
end
theorem Jz {G u:Prop} (k:u) (e:Hd u->G:=by
 intro A
 repeat (first
  | (refine zev ?_ rfl (fun a w y _ j=>?_) ?_;rotate_left;(simp [Rds,zA,lk,Op.operands,Call.operands,RdEq] at j;go_simp;with_reducible rfl);dsimp only [List.nil_append,List.cons_append])
  | (refine jI rfl ?_ ?_;(first | exact .inl (zG rfl rfl) | exact .inr (zG rfl rfl));dsimp only [List.nil_append,List.cons_append])
  | (refine V6 rfl ?_ ?_ (fun a w y _ j=>?_) ?_;exact(zG rfl rfl);rotate_left;(simp [Rds,zA,lk,Op.operands,Call.operands,RdEq] at j;go_simp;with_reducible rfl);dsimp only [List.nil_append,List.cons_append]))
 exact A.h):G:=e ⟨k⟩
end Go.Proofs.YtonhfknjcbakiaaGreatDoor
