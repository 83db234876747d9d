import Derived.Test.YtopfkkogooocgaaGreatB2
set_option linter.unusedVariables false
set_option linter.unusedSimpArgs false
namespace Go.Proofs.YtopfkkogooocgaaGreat
open Go.RowKit
abbrev VP:=Value->World->Prop
abbrev qe:Nat->Prop:=fun _=>False
def zJ (ops:Array Oper) (j:Nat):Option Tmp:=(ops[j]?).bind (·.dst)
def edge (ops:Array Oper) (i j:Nat):Bool:=match ops[i]? with | some o=>o.after.any fun e=>Region.binds .any e && e.on == j | none=>false
def zA (o:Oper):List Tmp:=o.op.operands.toList.filterMap fun | .tmp t=>some t | _=>none
def RdEq (a:Act) (t:Tmp) (u:Value):Prop:=a.eval (.tmp t)=u/\a.tmps.getD t undef=u/\a.tmps[t]?.getD undef=u
theorem RdEq.of {a:Act} {t:Tmp} {u:Value} (h:a.tmps.getD t undef=u):RdEq a t u:=⟨h,h,by rw [<-h];simp⟩
def XG (ops:Array Oper) (nh:Nat) (t:Tmp):Option Nat:=(List.range nh).find? fun j=>zJ ops j == some t
def yB (ops:Array Oper) (nh i:Nat) (t:Tmp):Bool:=
 match XG ops nh t with
 | some j=>if j<i then edge ops i j else if i<j then edge ops j i else true
 | none=>true
def xk (ops:Array Oper) (nh nt:Nat):Bool:=
 decide (nh<=ops.size) &&
 (List.range nh).all fun i=>
   match ops[i]? with
   | none=>false
   | some o=>((zA o).all (yB ops nh i)) &&
     (match o.guard with | none=>true | some (j,_)=>decide (j<i) && edge ops i j && (zJ ops j).isSome) &&
     (match o.dst with | none=>true | some d=>decide (d<nt) && (List.range nh).all fun j=>decide (j=i) || !(zJ ops j == some d)) &&
     (decide (nh=ops.size) || (List.range (nh+1)).any fun j=>decide (i<j) && edge ops j i)
def yK (ops:Array Oper) (nh:Nat):Bool:=(List.range ops.size).all fun t=>(decide (t<=nh) || edge ops t (t - 1)) && match ops[t]? with | some o=>o.after.all fun e=>!Region.binds .any e || decide (e.on<t) | none=>false
section
variable {ops:Array Oper} {nh:Nat}
theorem Z1 {i j:Nat} {o:Oper} (ho:ops[i]? = some o):edge ops i j=true ↔ ∃ e ∈ o.after,Region.binds .any e=true/\e.on=j:=by
 unfold edge
 simp only [ho]
 rw [Array.any_eq_true']
 constructor
 ·rintro⟨e,he,hb⟩
  simp only [Bool.and_eq_true,beq_iff_eq] at hb
  exact⟨e,he,hb.1,hb.2⟩
 ·rintro⟨e,he,hb,rfl⟩
  exact⟨e,he,by simp [hb]⟩
theorem zx {listed:Array Bool} {i:Nat} (h:listed.getD i true=false):listed.getD i false=false/\i<listed.size:=by
 rcases Nat.lt_or_ge i listed.size with h' | h'
 ·simp [h'] at h ⊢;exact h
 ·simp [Array.getElem?_eq_none h'] at h
theorem zfm {listed:Array Bool} {i:Nat} (h:listed.getD i false=false) (hi:i<listed.size):listed.getD i true=false:=by
 simp [hi] at h ⊢;exact h
theorem zl {listed:Array Bool} {i:Nat} (hi:i<listed.size):(listed.setIfInBounds i true).getD i false=true:=by simp [hi]
theorem zj {listed:Array Bool} {i j:Nat} (h:j≠i):(listed.setIfInBounds i true).getD j false=listed.getD j false:=by
 simp [Array.getElem?_setIfInBounds_ne (Ne.symm h)]
theorem yh {a:Act} {d:Tmp} {u:Value} (h:d<a.tmps.size):(a.put (some d) u).tmps.getD d undef=u:=by simp [Act.put,h]
theorem qn {a:Act} {d t:Tmp} {u:Value} (h:t≠d):(a.put (some d) u).tmps.getD t undef=a.tmps.getD t undef:=by
 simp [Act.put,Array.getElem?_setIfInBounds_ne (Ne.symm h)]
theorem yb {nt i:Nat} (h:xk ops nh nt=true) (hi:i<nh):∃ o,ops[i]? = some o/\(∀ t ∈ zA o,yB ops nh i t=true) /\
 (∀ j b,o.guard=some (j,b)->j<i/\edge ops i j=true/\(zJ ops j).isSome)/\(∀ d,o.dst=some d->d<nt/\∀ j,j<nh->zJ ops j=some d->j=i) /\
 (nh=ops.size\/∃ j,j<=nh/\i<j/\edge ops j i=true):=by
 unfold xk at h
 simp only [Bool.and_eq_true,List.all_eq_true,List.mem_range] at h
 have h:=h.2 i hi
 cases ho:ops[i]? with
 | none=>simp [ho] at h
 | some o=>
   simp only [ho,Bool.and_eq_true,List.all_eq_true,Bool.or_eq_true,decide_eq_true_eq,List.any_eq_true,List.mem_range] at h
   obtain⟨⟨⟨h1,h2⟩,h3⟩,h4⟩:=h
   refine⟨o,rfl,h1,?_,?_,?_⟩
   ·intro j b hg
    simp only [hg,Bool.and_eq_true,decide_eq_true_eq] at h2
    exact⟨h2.1.1,h2.1.2,h2.2⟩
   ·intro d hd
    simp only [hd,Bool.and_eq_true,decide_eq_true_eq,List.all_eq_true,List.mem_range,Bool.or_eq_true,Bool.not_eq_true',beq_eq_false_iff_ne] at h3
    exact⟨h3.1,fun j hj e=>(h3.2 j hj).resolve_right fun hne=>hne e⟩
   ·rcases h4 with h4 | ⟨j,hj,h5,h6⟩
    ·exact .inl h4
    ·exact .inr ⟨j,by omega,h5,h6⟩
theorem xf {t:Tmp} {j:Nat} (h:XG ops nh t=some j):j<nh/\zJ ops j=some t:=by
 have h1:=List.find?_some h
 have h2:=List.mem_of_find?_eq_some h
 simp at h1 h2
 exact⟨h2,h1⟩
theorem jw {t:Tmp} {j:Nat} (hj:j<nh) (h:zJ ops j=some t):∃ j',XG ops nh t=some j':=by
 cases hw:XG ops nh t with
 | some j'=>exact⟨j',rfl⟩
 | none=>
   have:=List.find?_eq_none.1 hw j (by simpa using hj)
   simp [h] at this
theorem Act.ext' {a b:Act} (hs:a.tmps.size=b.tmps.size) (hd:a.defers=b.defers) (h:∀ t,t<b.tmps.size->a.tmps.getD t undef=b.tmps.getD t undef):a=b:=by
 obtain⟨ta,da⟩:=a
 obtain⟨tb,db⟩:=b
 simp only at hs hd h
 subst hd
 have:ta=tb:=Array.ext hs fun i h1 h2=>by
  have:=h i h2
  simpa [h1,h2] using this
 rw [this]
theorem yS {j:Nat} {d:Tmp} {tmps:Array Value} (hd:zJ ops j=some d) (hs:d<tmps.size):yielded ops tmps j=match tmps.getD d undef with | .bool b=>some b | _=>none:=by
 unfold yielded
 unfold zJ at hd
 rw [hd]
 simp only [Option.bind_some,Array.getElem?_eq_getElem hs,Array.getD_eq_getD_getElem?,Option.getD_some]
 split<;>simp_all
theorem qP {t:Nat} (h:yK ops nh=true) (ht:t<ops.size):(t<=nh\/edge ops t (t - 1)=true)/\∀ j,edge ops t j=true->j<t:=by
 unfold yK at h
 rw [List.all_eq_true] at h
 have h:=h t (by simpa using ht)
 simp only [Bool.and_eq_true,Bool.or_eq_true,decide_eq_true_eq] at h
 refine⟨h.1,fun j hj=>?_⟩
 have h2:=h.2
 cases ho:ops[t]? with
 | none=>simp [ho] at h2
 | some o=>
   simp only [ho,Array.all_eq_true'] at h2
   obtain⟨e,he,hb,rfl⟩:=(Z1 ho).1 hj
   have:=h2 e he
   simpa [hb] using this
theorem zo {i:Nat} {listed:Array Bool} (h:i ∈ Region.ready .any ops listed):listed.getD i true=false/\i<ops.size/\(∃ o,ops[i]? = some o)/\∀ j,edge ops i j=true->listed.getD j false=true:=by
 obtain⟨h1,o,ho,h2⟩:=mem_ready.1 h
 refine⟨h1,(Array.getElem?_eq_some_iff.1 ho).1,⟨o,ho⟩,fun j hj=>?_⟩
 obtain⟨e,he,hb,rfl⟩:=(Z1 ho).1 hj
 exact h2 e he hb
theorem zd1 {i:Nat} {listed:Array Bool} {o:Oper} (ho:ops[i]? = some o) (h1:listed.getD i true=false) (h2:∀ j,edge ops i j=true->listed.getD j false=true):i ∈ Region.ready .any ops listed:=
 mem_ready.2 ⟨h1,o,ho,fun e he hb=>h2 _ ((Z1 ho).2 ⟨e,he,hb,rfl⟩)⟩
theorem qh {listed:Array Bool} (hct:yK ops nh=true) (hs:listed.size=ops.size):∀(i:Nat),i<ops.size->listed.getD i false=false->∃ k,k ∈ Region.ready .any ops listed:=by
 intro i
 induction i using Nat.strongRecOn with
 | _ i ih=>
   intro hi hun
   by_cases hall:∀ j,edge ops i j=true->listed.getD j false=true
   ·exact⟨i,zd1 (Array.getElem?_eq_getElem hi) (zfm hun (by omega)) hall⟩
   ·have:∃ j,edge ops i j=true/\listed.getD j false=false:=by
     apply Classical.byContradiction
     intro hn
     refine hall fun j hj=>?_
     cases h:listed.getD j false with
     | true=>rfl
     | false=>exact absurd ⟨j,hj,h⟩ hn
    obtain⟨j,hj,hu⟩:=this
    have:=(qP hct hi).2 j hj
    exact ih j this (by omega) hu
theorem qM:∀(l S:List Nat),l.Nodup->l ⊆ S->l.length<=S.length
 | [],_,_,_=>Nat.zero_le _
 | x::l,S,hn,hs=>by
   have hx:x ∈ S:=hs (by simp)
   have h1:l ⊆ S.erase x:=fun y hy=>(List.mem_erase_of_ne (fun e=>(List.nodup_cons.1 hn).1 (by rw [<-e];exact hy))).2 (hs (by simp [hy]))
   have:=qM l (S.erase x) (List.nodup_cons.1 hn).2 h1
   rw [List.length_erase_of_mem hx] at this
   have:=List.length_pos_of_mem hx
   simp;omega
end
structure Hd (p:Prop):Prop where
 h:p
end Go.Proofs.YtopfkkogooocgaaGreat
namespace Go.Proofs.YtopfkkogooocgaaGreat.Pl
open Go.RowKit
set_option linter.unusedSectionVars false
abbrev VP (Ω:Type):=Value->Ω->Prop
class Kpo (Ω:Type) where
 kp:Ω->Ω->Prop
 refl:∀ w,kp w w
 trans:∀ a b c,kp a b->kp b c->kp a c
variable {Ω:Type} [Kpo Ω]
def lk:List (Option Tmp × VP Ω)->Tmp->Option (VP Ω)
 | [],_=>none
 | (d,V)::r,t=>if d=some t then some V else lk r t
def Rds (env:List (Option Tmp × VP Ω)) (a0:Act):List Tmp->Act->Ω->Prop
 | [],_,_=>True
 | t::ts,a,w=>(match lk env t with | some V=>∃ u,RdEq a t u/\V u w | none=>RdEq a t (a0.tmps.getD t undef))/\Rds env a0 ts a w
def headOk (opw:Oper->Act->Ω->(Act->Ω->Prop)->Prop) (a0:Act) (w0:Ω) (C:Ω->Prop) (env:List (Option Tmp × VP Ω)) (o:Oper) (V:VP Ω):Prop:=
 ∀ a w,C w->Kpo.kp w0 w->Rds env a0 (zA o) a w->∀ K:Act->Ω->Prop,(∀ u w',Kpo.kp w w'->C w'->V u w'->K (a.put o.dst u) w')->opw o a w K
def isV (env:List (Option Tmp × VP Ω)) (j:Nat) (x:Value):Prop:=match env[j]? with | some (_,V)=>∀ u w,V u w->u=x | none=>False
def stepOk (opw:Oper->Act->Ω->(Act->Ω->Prop)->Prop) (a0:Act) (w0:Ω) (C:Ω->Prop) (env:List (Option Tmp × VP Ω)) (o:Oper) (V:VP Ω):Prop:=
 match o.guard with
 | none=>headOk opw a0 w0 C env o V
 | some (j,b)=>(isV env j (.bool b)/\headOk opw a0 w0 C env o V)\/((isV env j (.bool !b)\/isV env j undef)/\V=fun u _=>u=undef)
def finG (F:Act->Ω->Prop) (w:Ω):List (Option Tmp × VP Ω)->Act->Prop
 | [],a=>F a w
 | (none,_)::r,a=>finG F w r a
 | (some d,V)::r,a=>∀ u,V u w->finG F w r (a.put (some d) u)
def walkG (opw:Oper->Act->Ω->(Act->Ω->Prop)->Prop) (a0:Act) (w0:Ω) (C:Ω->Prop) (F:Act->Ω->Prop):List Oper->List (Option Tmp × VP Ω)->Prop
 | [],env=>∀ w,C w->Kpo.kp w0 w->finG F w env a0
 | o::l,env=>∃ V:VP Ω,(∀ u w w',V u w->Kpo.kp w w'->V u w')/\stepOk opw a0 w0 C env o V/\walkG opw a0 w0 C F l (env++[(o.dst,V)])
structure GI (ops:Array Oper) (nh:Nat) (a0:Act) (w0:Ω) (C:Ω->Prop) (env:List (Option Tmp × VP Ω)) (listed:Array Bool) (a:Act) (w:Ω):Prop where
 size:listed.size=ops.size
 closed:∀ i j,listed.getD i false=true->edge ops i j=true->listed.getD j false=true
 heads:∀ i,listed.getD i false=true->i<nh
 c:C w
 keep:Kpo.kp w0 w
 vals:∀ j d V,listed.getD j false=true->env[j]? = some (some d,V)->V (a.tmps.getD d undef) w
 rest:∀ t,(∀ j,listed.getD j false=true->zJ ops j≠some t)->a.tmps.getD t undef=a0.tmps.getD t undef
 tsize:a.tmps.size=a0.tmps.size
 defers:a.defers=a0.defers
section
variable {ops:Array Oper} {nh:Nat} {a0:Act} {w0:Ω} {C:Ω->Prop}
theorem lk_some {env:List (Option Tmp × VP Ω)} {t:Tmp} {V:VP Ω} (h:lk env t=some V):∃ j:Nat,env[j]? = some (some t,V):=by
 induction env with
 | nil=>cases h
 | cons x r ih=>
   obtain⟨d,V'⟩:=x
   unfold lk at h
   split at h
   ·rename_i e;cases h;exact⟨0,by simp [e]⟩
   ·obtain⟨j,hj⟩:=ih h;exact⟨j+1,by simpa using hj⟩
theorem lk_none {env:List (Option Tmp × VP Ω)} {t:Tmp} (h:lk env t=none):∀(j:Nat) V,env[j]? ≠ some (some t,V):=by
 induction env with
 | nil=>intro j V;simp
 | cons x r ih=>
   obtain⟨d,V'⟩:=x
   unfold lk at h
   split at h
   ·cases h
   ·rename_i e
    intro j V
    cases j with
    | zero=>simp;intro h1;exact absurd h1 e
    | succ j=>simpa using ih h j V
def ChkR (ops:Array Oper) (nh nt:Nat):Prop:=∀ i,i<nh->∃ o,ops[i]? = some o/\(∀ t ∈ zA o,yB ops nh i t=true) /\
 (∀ j b,o.guard=some (j,b)->j<i/\edge ops i j=true/\(zJ ops j).isSome)/\(∀ d,o.dst=some d->d<nt/\∀ j,j<nh->zJ ops j=some d->j=i)
omit [Kpo Ω] in
theorem chkR_of {nt:Nat} (h:xk ops nh nt=true):ChkR ops nh nt:=fun i hi=>by
 obtain⟨o,h1,h2,h3,h4,_⟩:=yb h hi
 exact⟨o,h1,h2,h3,h4⟩
theorem GI.rds {nt i:Nat} {o:Oper} {env env':List (Option Tmp × VP Ω)} {listed:Array Bool} {a:Act} {w:Ω} (hg:GI ops nh a0 w0 C env' listed a w) (hchk:ChkR ops nh nt)
 (hi:i<nh) (ho:ops[i]? = some o) (hun:listed.getD i false=false) (hready:∀ j,edge ops i j=true->listed.getD j false=true)
 (hlen:env.length=i) (hpre:∀ j:Nat,j<i->env'[j]? = env[j]?) (hdst:∀(j:Nat) x,env[j]? = some x->zJ ops j=x.1) :
 ∀ ts:List Tmp,(∀ t ∈ ts,yB ops nh i t=true)->Rds env a0 ts a w:=by
 intro ts
 induction ts with
 | nil=>intro _;trivial
 | cons t ts ih=>
   intro hts
   refine⟨?_,ih fun t' h'=>hts t' (by simp [h'])⟩
   have hct:=hts t (by simp)
   unfold yB at hct
   cases hl:lk env t with
   | some V=>
     obtain⟨j,hj⟩:=lk_some hl
     have hji:j<i:=by rw [<-hlen];exact(List.getElem?_eq_some_iff.1 hj).1
     have hdj:=hdst j _ hj
     obtain⟨j',hw⟩:=jw (nh:=nh) (show j<nh by omega) hdj
     obtain⟨w1,w2⟩:=xf hw
     obtain⟨oj,hoj,_,_,hd⟩:=hchk j (show j<nh by omega)
     have:j'=j:=(hd t (by unfold zJ at hdj;rw [hoj] at hdj;exact hdj)).2 j' w1 w2
     subst this
     simp only [hw,if_pos hji] at hct
     have:=hg.vals j' t V (hready j' hct) (by rw [hpre j' hji];exact hj)
     exact⟨_,RdEq.of rfl,this⟩
   | none=>
     refine RdEq.of (hg.rest t fun j hlj hdj=>?_)
     have hjn:=hg.heads j hlj
     obtain⟨j',hw⟩:=jw hjn hdj
     obtain⟨w1,w2⟩:=xf hw
     obtain⟨oj,hoj,_,_,hd⟩:=hchk _ hjn
     have:j'=j:=(hd t (by unfold zJ at hdj;rw [hoj] at hdj;exact hdj)).2 j' w1 w2
     subst this
     simp only [hw] at hct
     by_cases h1:j'<i
     ·have hjl:j'<env.length:=by omega
      have:=hdst j' _ (List.getElem?_eq_getElem hjl)
      rw [hdj] at this
      exact lk_none hl j' env[j'].2 (by rw [List.getElem?_eq_getElem hjl];congr 1;exact Prod.ext this.symm rfl)
     ·rw [if_neg h1] at hct
      by_cases h2:i<j'
      ·rw [if_pos h2] at hct
       have:=hg.closed j' i hlj hct
       rw [hun] at this;cases this
      ·have:j'=i:=by omega
       subst this
       rw [hun] at hlj;cases hlj
theorem GI.step {nt i:Nat} {o:Oper} {V:VP Ω} {env:List (Option Tmp × VP Ω)} {listed:Array Bool} {a:Act} {w w':Ω} {u:Value} (hg:GI ops nh a0 w0 C env listed a w) (hchk:ChkR ops nh nt)
 (hnt:a0.tmps.size=nt) (hi:i<nh) (ho:ops[i]? = some o) (hun:listed.getD i true=false) (hready:∀ j,edge ops i j=true->listed.getD j false=true)
 (hst:∀(j:Nat) d V,env[j]? = some (d,V)->∀ u w w',V u w->Kpo.kp w w'->V u w') (hdst:∀(j:Nat) x,env[j]? = some x->zJ ops j=x.1)
 (hV:env[i]? = some (o.dst,V)) (hk:Kpo.kp w w') (hc:C w') (hu:V u w'):GI ops nh a0 w0 C env (listed.setIfInBounds i true) (a.put o.dst u) w':=by
 obtain⟨hf,hlt⟩:=zx hun
 have hl:∀ j,(listed.setIfInBounds i true).getD j false=true->j=i\/listed.getD j false=true:=fun j hj=>by
  by_cases e:j=i
  ·exact .inl e
  ·exact .inr (by rwa [zj e] at hj)
 have hl':∀ j,listed.getD j false=true->(listed.setIfInBounds i true).getD j false=true:=fun j hj=>by
  by_cases e:j=i
  ·subst e;exact zl hlt
  ·rwa [zj e]
 obtain⟨o',ho',_,_,hd⟩:=hchk _ hi
 obtain rfl:o'=o:=Option.some.inj (ho'.symm.trans ho)
 refine⟨by simp [hg.size],?_,?_,hc,Kpo.trans _ _ _ hg.keep hk,?_,?_,?_,?_⟩
 ·intro j k hj he
  rcases hl j hj with rfl | hj
  ·exact hl' _ (hready k he)
  ·exact hl' _ (hg.closed j k hj he)
 ·intro j hj
  rcases hl j hj with rfl | hj
  ·exact hi
  ·exact hg.heads j hj
 ·intro j d V' hj hV'
  have hdj:=hdst j _ hV'
  rcases hl j hj with rfl | hj2
  ·have hVV:=hV.symm.trans hV'
   simp only [Option.some.injEq,Prod.mk.injEq] at hVV
   obtain⟨hd0,rfl⟩:=hVV
   rw [hd0,yh (by rw [hg.tsize,hnt];exact(hd d hd0).1)]
   exact hu
  ·have:=hst j _ _ hV' _ _ _ (hg.vals j d V' hj2 hV') hk
   cases hod:o'.dst with
   | none=>exact this
   | some d'=>
     rw [qn]
     ·exact this
     ·intro e
      subst e
      have hjn:=hg.heads j hj2
      have:=(hd d hod).2 j hjn hdj
      subst this
      rw [hf] at hj2;cases hj2
 ·intro t ht
  cases hod:o'.dst with
  | none=>exact hg.rest t fun j hj=>ht j (hl' j hj)
  | some d'=>
    rw [qn]
    ·exact hg.rest t fun j hj=>ht j (hl' j hj)
    ·intro e
     subst e
     exact ht i (zl hlt) (by unfold zJ;rw [ho];exact hod)
 ·rw [<-hg.tsize];cases o'.dst<;>simp [Act.put]
 ·rw [<-hg.defers];cases o'.dst<;>simp [Act.put]
def fillA (a:Act) (b:Act) (x:Option Tmp × VP Ω):Act:=match x.1 with | none=>b | some d=>b.put (some d) (a.tmps.getD d undef)
theorem finG_fill {F:Act->Ω->Prop} {w:Ω} {a:Act}:∀(env:List (Option Tmp × VP Ω)) (b:Act),finG F w env b->(∀ d V,(some d,V) ∈ env->V (a.tmps.getD d undef) w)->F (env.foldl (fillA a) b) w
 | [],_,h,_=>h
 | (none,_)::r,b,h,hv=>finG_fill r b h fun d V hm=>hv d V (by simp [hm])
 | (some d,V)::r,b,h,hv=>finG_fill r _ (h _ (hv d V (by simp))) fun d V hm=>hv d V (by simp [hm])
theorem fill_getD {a:Act} (t:Tmp):∀(env:List (Option Tmp × VP Ω)) (b:Act),t<b.tmps.size->((∃ V,(some t,V) ∈ env)\/b.tmps.getD t undef=a.tmps.getD t undef) ->
 (env.foldl (fillA a) b).tmps.getD t undef=a.tmps.getD t undef
 | [],b,_,h=>h.resolve_left (by rintro⟨V,hV⟩;cases hV)
 | (none,V)::r,b,hs,h=>fill_getD t r b hs (by
     rcases h with⟨V',hV⟩ | h
     ·simp at hV;exact .inl ⟨V',hV⟩
     ·exact .inr h)
 | (some d,V)::r,b,hs,h=>fill_getD t r (b.put (some d) (a.tmps.getD d undef)) (by simpa [Act.put] using hs) (by
     by_cases e:t=d
     ·subst e;exact .inr (yh hs)
     ·rcases h with⟨V',hV⟩ | h
      ·simp [e] at hV;exact .inl ⟨V',hV⟩
      ·exact .inr ((qn e).trans h))
theorem fill_size {a:Act}:∀(env:List (Option Tmp × VP Ω)) (b:Act),(env.foldl (fillA a) b).tmps.size=b.tmps.size/\(env.foldl (fillA a) b).defers=b.defers
 | [],_=>⟨rfl,rfl⟩
 | (none,_)::r,b=>fill_size r b
 | (some d,V)::r,b=>by
   have:=fill_size (a:=a) r (b.put (some d) (a.tmps.getD d undef))
   exact⟨this.1.trans (by simp [Act.put]),this.2.trans (by simp [Act.put])⟩
theorem GI.fin {F:Act->Ω->Prop} {env:List (Option Tmp × VP Ω)} {listed:Array Bool} {a:Act} {w:Ω} (hg:GI ops nh a0 w0 C env listed a w) (hlen:env.length=nh)
 (hdst:∀(j:Nat) x,env[j]? = some x->zJ ops j=x.1) (hall:∀ i,i<nh->listed.getD i false=true)
 (hf:finG F w env a0):F a w:=by
 have h1:=finG_fill (a:=a) env a0 hf fun d V hm=>by
  obtain⟨j,hj⟩:=List.getElem?_of_mem hm
  exact hg.vals j d V (hall j (by rw [<-hlen];exact(List.getElem?_eq_some_iff.1 hj).1)) hj
 have h2:env.foldl (fillA a) a0=a:=by
  obtain⟨s1,s2⟩:=fill_size (a:=a) env a0
  refine Act.ext' (s1.trans hg.tsize.symm) (s2.trans hg.defers.symm) fun t ht=>fill_getD t env a0 (by rw [<-hg.tsize];exact ht) ?_
  by_cases hw:∃ j,listed.getD j false=true/\zJ ops j=some t
  ·obtain⟨j,hj,hd⟩:=hw
   have hjn:=hg.heads j hj
   have hjl:j<env.length:=by omega
   have:=hdst j _ (List.getElem?_eq_getElem hjl)
   rw [hd] at this
   exact .inl ⟨env[j].2,by rw [show (some t,env[j].2)=env[j] from Prod.ext this rfl];exact List.getElem_mem hjl⟩
  ·exact .inr (hg.rest t fun j hj hd=>hw ⟨j,hj,hd⟩).symm
 rwa [h2] at h1
theorem isV_of {env env':List (Option Tmp × VP Ω)} {i j:Nat} {x:Value} (h:isV env j x) (hpre:∀ j:Nat,j<i->env'[j]? = env[j]?) (hj:j<i):isV env' j x:=by
 unfold isV at *
 rw [hpre j hj];exact h
theorem gcore {nt:Nat} (opw:Oper->Act->Ω->(Act->Ω->Prop)->Prop) (step:Nat->(Act->Ω->Prop)->Act->Ω->Prop) (W:Nat->Array Bool->Act->Ω->Prop) (Qn:Act->Ω->Prop) (T:Nat->Act->Ω->Prop)
 (hstep:∀ i o K a w,ops[i]? = some o->(if Region.wanted o (yielded ops a.tmps) then opw o a w K else K (a.put o.dst undef) w)->step i K a w)
 (hmono:∀ i K K' a w,(∀ a w,K a w->K' a w)->step i K a w->step i K' a w)
 (hW0:∀ listed a w,Region.ready .any ops listed=[]->Qn a w->W 0 listed a w)
 (hW:∀ fuel listed a w,(Region.ready .any ops listed=[]->Qn a w)->(∀ i ∈ Region.ready .any ops listed,step i (W fuel (listed.setIfInBounds i true)) a w)->W (fuel+1) listed a w)
 (hT:∀ k a w,k<ops.size->T k a w->step k (T (k+1)) a w) (hT0:∀ a w,T ops.size a w->Qn a w)
 (hchk:xk ops nh nt=true) (hct:yK ops nh=true) (hnh:nh<=ops.size) (hnt:a0.tmps.size=nt) (env:List (Option Tmp × VP Ω)) (hlen:env.length=nh)
 (hst:∀(j:Nat) d V,env[j]? = some (d,V)->∀ u w w',V u w->Kpo.kp w w'->V u w') (hdst:∀(j:Nat) x,env[j]? = some x->zJ ops j=x.1)
 (hok:∀(i:Nat) o V,ops[i]? = some o->env[i]? = some (o.dst,V)->stepOk opw a0 w0 C (env.take i) o V)
 (hfin:∀ w,C w->Kpo.kp w0 w->finG (T nh) w env a0) :
 ∀(fuel:Nat) (listed:Array Bool) (a:Act) (w:Ω) (S:List Nat),GI ops nh a0 w0 C env listed a w->(∀ i,i<ops.size->listed.getD i false=false->i ∈ S)->S.length<=fuel->W fuel listed a w:=by
 -- the tail
 have tail:∀(fuel k:Nat) (listed:Array Bool) (a:Act) (w:Ω),listed.size=ops.size->(∀ i,listed.getD i false=true ↔ i<k)->nh<=k->k<=ops.size->ops.size - k<=fuel->T k a w->W fuel listed a w:=by
  intro fuel
  induction fuel with
  | zero=>
    intro k listed a w hs hl _ hk hf ht
    obtain rfl:k=ops.size:=by omega
    refine hW0 _ _ _ ?_ (hT0 _ _ ht)
    refine List.eq_nil_iff_forall_not_mem.2 fun i hi=>?_
    obtain⟨h1,h2,_⟩:=zo hi
    have:=(zx h1).1
    rw [(hl i).2 h2] at this;cases this
  | succ fuel ih=>
    intro k listed a w hs hl hn hk hf ht
    by_cases hkk:k=ops.size
    ·subst hkk
     have hnil:Region.ready .any ops listed=[]:=List.eq_nil_iff_forall_not_mem.2 fun i hi=>by
      obtain⟨h1,h2,_⟩:=zo hi
      have:=(zx h1).1
      rw [(hl i).2 h2] at this;cases this
     exact hW _ _ _ _ (fun _=>hT0 _ _ ht) fun i hi=>by rw [hnil] at hi;cases hi
    ·refine hW _ _ _ _ (fun h0=>?_) fun i hi=>?_
     ·exfalso
      have hu:listed.getD k false=false:=by
       cases h:listed.getD k false with
       | false=>rfl
       | true=>have:=(hl k).1 h;omega
      obtain⟨j,hj⟩:=qh hct hs k (by omega) hu
      rw [h0] at hj;cases hj
     ·obtain⟨h1,h2,_,h3⟩:=zo hi
      have hik:¬ i<k:=fun h=>by have:=(zx h1).1;rw [(hl i).2 h] at this;cases this
      have:i=k:=by
       rcases (qP hct h2).1 with h | h
       ·omega
       ·have:=(hl _).1 (h3 _ h);omega
      subst this
      refine hmono _ _ _ _ _ (fun a' w' ht'=>ih (i+1) _ _ _ (by simp [hs]) (fun j=>?_) (by omega) (by omega) (by omega) ht') (hT i a w h2 ht)
      by_cases e:j=i
      ·subst e;simp [zl (zx h1).2]
      ·rw [zj e,hl];omega
 intro fuel
 have sink:∀(listed:Array Bool) (a:Act) (w:Ω),GI ops nh a0 w0 C env listed a w->nh ∈ Region.ready .any ops listed->∀(n i:Nat),nh - i=n->i<nh->listed.getD i false=true:=by
  intro listed a w hg hr n
  obtain⟨h1,h2,_,h3⟩:=zo hr
  induction n using Nat.strongRecOn with
  | _ n ih=>
    intro i hn hi
    obtain⟨_,_,_,_,_,h4⟩:=yb hchk hi
    rcases h4 with h4 | ⟨j,hj,hij,he⟩
    ·omega
    ·by_cases e:j=nh
     ·subst e;exact h3 i he
     ·exact hg.closed j i (ih (nh - j) (by omega) j rfl (by omega)) he
 have full:∀(fuel:Nat) (listed:Array Bool) (a:Act) (w:Ω),GI ops nh a0 w0 C env listed a w->(∀ i,i<nh->listed.getD i false=true)->ops.size - nh<=fuel->W fuel listed a w:=by
  intro fuel listed a w hg hall hf
  exact tail fuel nh listed a w hg.size (fun i=>⟨hg.heads i,hall i⟩) (Nat.le_refl _) hnh hf (hg.fin hlen hdst hall (hfin w hg.c hg.keep))
 induction fuel with
 | zero=>
   intro listed a w S hg hS hf
   have hall:∀ i,i<ops.size->listed.getD i false=true:=fun i hi=>by
    cases h:listed.getD i false with
    | true=>rfl
    | false=>have:=hS i hi h;rw [List.eq_nil_of_length_eq_zero (by omega:S.length=0)] at this;cases this
   have:nh=ops.size:=by
    apply Classical.byContradiction
    intro hne
    have:=hg.heads nh (hall nh (by omega));omega
   exact full 0 listed a w hg (fun i hi=>hall i (by omega)) (by omega)
 | succ fuel ih=>
   intro listed a w S hg hS hf
   by_cases hall:∀ i,i<nh->listed.getD i false=true
   ·-- all of the head has come
    refine full _ listed a w hg hall ?_
    have hsub:(List.range' nh (ops.size - nh)) ⊆ S:=fun i hi=>by
     simp only [List.mem_range'_1] at hi
     refine hS i (by omega) ?_
     cases h:listed.getD i false with
     | false=>rfl
     | true=>have:=hg.heads i h;omega
    have hnd:(List.range' nh (ops.size - nh)).Nodup:=List.nodup_range'
    have:=qM _ _ hnd hsub
    simp at this
    omega
   ·have hun:∃ i,i<nh/\listed.getD i false=false:=by
     apply Classical.byContradiction
     intro hn
     refine hall fun i hi=>?_
     cases h:listed.getD i false with
     | true=>rfl
     | false=>exact absurd ⟨i,hi,h⟩ hn
    refine hW _ _ _ _ (fun h0=>?_) fun i hi=>?_
    ·exfalso
     obtain⟨i,hi,hu⟩:=hun
     obtain⟨j,hj⟩:=qh hct hg.size i (by omega) hu
     rw [h0] at hj;cases hj
    ·obtain⟨h1,h2,⟨o,ho⟩,h3⟩:=zo hi
     have hin:i<nh:=by
      apply Classical.byContradiction
      intro hge
      have hnn:i=nh:=by
       rcases (qP hct h2).1 with h | h
       ·omega
       ·have:=hg.heads _ (h3 _ h);omega
      subst hnn
      obtain⟨j,hj,hu⟩:=hun
      rw [sink listed a w hg hi _ j rfl hj] at hu;cases hu
     obtain⟨o',ho',hrd,hgd,_,_⟩:=yb hchk hin
     obtain rfl:o'=o:=Option.some.inj (ho'.symm.trans ho)
     have hil:i<env.length:=by omega
     have hei:env[i]? = some (o'.dst,env[i].2):=by
      have:=hdst i _ (List.getElem?_eq_getElem hil)
      unfold zJ at this
      rw [ho] at this
      rw [List.getElem?_eq_getElem hil]
      exact congrArg some (Prod.ext this.symm rfl)
     have hpre:∀ j:Nat,j<i->env[j]? = (env.take i)[j]?:=fun j hj=>by rw [List.getElem?_take,if_pos hj]
     have hrds:=hg.rds (env:=env.take i) (chkR_of hchk) hin ho (zx h1).1 h3 (by simp;omega) hpre (fun j x hx=>hdst j x (by rw [List.getElem?_take] at hx;split at hx;exact hx;cases hx)) (zA o') hrd
     have hsk:=hok i o' _ ho hei
     have hgo:∀ u w',Kpo.kp w w'->C w'->env[i].2 u w'->W fuel (listed.setIfInBounds i true) (a.put o'.dst u) w':=fun u w' hk hc hu=>
      ih _ _ _ (S.erase i) (hg.step (chkR_of hchk) hnt hin ho h1 h3 hst hdst hei hk hc hu) (fun j hj hu'=>by
       have hji:j≠i:=fun e=>by subst e;rw [zl (zx h1).2] at hu';cases hu'
       rw [zj hji] at hu'
       exact(List.mem_erase_of_ne hji).2 (hS j hj hu')) (by rw [List.length_erase_of_mem (hS i h2 (zx h1).1)];omega)
     refine hstep i o' _ a w ho ?_
     unfold stepOk at hsk
     cases hgu:o'.guard with
     | none=>
       simp only [hgu] at hsk
       rw [if_pos (by simp [Region.wanted,hgu])]
       exact hsk a w hg.c hg.keep hrds _ hgo
     | some jb=>
       obtain⟨j,b⟩:=jb
       simp only [hgu] at hsk
       obtain⟨hji,hje,hjd⟩:=hgd j b hgu
       obtain⟨d,hd⟩:=Option.isSome_iff_exists.1 hjd
       have hjl:j<env.length:=by omega
       have hej:=hdst j _ (List.getElem?_eq_getElem hjl)
       rw [hd] at hej
       have hvj:=hg.vals j d env[j].2 (h3 j hje) (by rw [List.getElem?_eq_getElem hjl];exact congrArg some (Prod.ext hej.symm rfl))
       obtain⟨oj,hoj,_,_,hdj,_⟩:=yb hchk (show j<nh by omega)
       have hds:d<a.tmps.size:=by rw [hg.tsize,hnt];exact(hdj d (by unfold zJ at hd;rw [hoj] at hd;exact hd)).1
       have hy:=yS (tmps:=a.tmps) hd hds
       have hval:∀ x,isV (env.take i) j x->a.tmps.getD d undef=x:=fun x hx=>by
        have:=isV_of hx hpre hji
        unfold isV at this
        rw [List.getElem?_eq_getElem hjl] at this
        exact this _ _ hvj
       rcases hsk with⟨hx,hh⟩ | ⟨hx,hVu⟩
       ·have:=hval _ hx
        rw [this] at hy
        rw [if_pos (by simp [Region.wanted,hgu,hy])]
        exact hh a w hg.c hg.keep hrds _ hgo
       ·have hyb:yielded ops a.tmps j≠some b:=by
         rcases hx with hx | hx
         ·have:=hval _ hx
          rw [this] at hy
          rw [hy];cases b<;>simp
         ·have:=hval _ hx
          rw [this] at hy
          rw [hy];simp [undef]
        rw [if_neg (by simp [Region.wanted,hgu];exact hyb)]
        exact hgo undef w (Kpo.refl _) hg.c (by rw [hVu])
theorem gcoreF {nt:Nat} (opw:Oper->Act->Ω->(Act->Ω->Prop)->Prop) (step:Nat->(Act->Ω->Prop)->Act->Ω->Prop) (W:Nat->Array Bool->Act->Ω->Prop) (Qn:Act->Ω->Prop) (T:Nat->Act->Ω->Prop)
 (hstep:∀ i o K a w,ops[i]? = some o->(if Region.wanted o (yielded ops a.tmps) then opw o a w K else K (a.put o.dst undef) w)->step i K a w)
 (hmono:∀ i K K' a w,(∀ a w,K a w->K' a w)->step i K a w->step i K' a w)
 (hW0:∀ listed a w,Region.ready .any ops listed=[]->Qn a w->W 0 listed a w)
 (hW:∀ fuel listed a w,(Region.ready .any ops listed=[]->Qn a w)->(∀ i ∈ Region.ready .any ops listed,step i (W fuel (listed.setIfInBounds i true)) a w)->W (fuel+1) listed a w)
 (hT:∀ k a w,k<ops.size->T k a w->step k (T (k+1)) a w) (hT0:∀ a w,T ops.size a w->Qn a w)
 (hchk:ChkR ops (nh+1) nt) (hlead:∀ i,i<nh->∃ j,j<=nh+1/\i<j/\j≠nh/\edge ops j i=true) (hback:nh+2<ops.size->edge ops (nh+2) nh=true) (hct:yK ops (nh+1)=true) (hnh:nh+2<=ops.size) (hnt:a0.tmps.size=nt) (env:List (Option Tmp × VP Ω)) (hlen:env.length=nh+1)
 (hst:∀(j:Nat) d V,env[j]? = some (d,V)->∀ u w w',V u w->Kpo.kp w w'->V u w') (hdst:∀(j:Nat) x,env[j]? = some x->zJ ops j=x.1)
 (hok:∀(i:Nat) o V,ops[i]? = some o->env[i]? = some (o.dst,V)->stepOk opw a0 w0 C (env.take i) o V)
 (hfin:∀ w,C w->Kpo.kp w0 w->finG (T (nh+1)) w env a0) (hfinB:∀ w,C w->Kpo.kp w0 w->finG (fun a w=>step (nh+1) (fun a w=>step nh (T (nh+2)) a w) a w) w (env.take nh) a0) :
 ∀(fuel:Nat) (listed:Array Bool) (a:Act) (w:Ω) (S:List Nat),GI ops (nh+1) a0 w0 C env listed a w->(∀ i,i<ops.size->listed.getD i false=false->i ∈ S)->S.length<=fuel->W fuel listed a w:=by
 -- the tail
 have tail:∀(fuel k:Nat) (listed:Array Bool) (a:Act) (w:Ω),listed.size=ops.size->(∀ i,listed.getD i false=true ↔ i<k)->nh+1<=k->k<=ops.size->ops.size - k<=fuel->T k a w->W fuel listed a w:=by
  intro fuel
  induction fuel with
  | zero=>
    intro k listed a w hs hl _ hk hf ht
    obtain rfl:k=ops.size:=by omega
    refine hW0 _ _ _ ?_ (hT0 _ _ ht)
    refine List.eq_nil_iff_forall_not_mem.2 fun i hi=>?_
    obtain⟨h1,h2,_⟩:=zo hi
    have:=(zx h1).1
    rw [(hl i).2 h2] at this;cases this
  | succ fuel ih=>
    intro k listed a w hs hl hn hk hf ht
    by_cases hkk:k=ops.size
    ·subst hkk
     have hnil:Region.ready .any ops listed=[]:=List.eq_nil_iff_forall_not_mem.2 fun i hi=>by
      obtain⟨h1,h2,_⟩:=zo hi
      have:=(zx h1).1
      rw [(hl i).2 h2] at this;cases this
     exact hW _ _ _ _ (fun _=>hT0 _ _ ht) fun i hi=>by rw [hnil] at hi;cases hi
    ·refine hW _ _ _ _ (fun h0=>?_) fun i hi=>?_
     ·exfalso
      have hu:listed.getD k false=false:=by
       cases h:listed.getD k false with
       | false=>rfl
       | true=>have:=(hl k).1 h;omega
      obtain⟨j,hj⟩:=qh hct hs k (by omega) hu
      rw [h0] at hj;cases hj
     ·obtain⟨h1,h2,_,h3⟩:=zo hi
      have hik:¬ i<k:=fun h=>by have:=(zx h1).1;rw [(hl i).2 h] at this;cases this
      have:i=k:=by
       rcases (qP hct h2).1 with h | h
       ·omega
       ·have:=(hl _).1 (h3 _ h);omega
      subst this
      refine hmono _ _ _ _ _ (fun a' w' ht'=>ih (i+1) _ _ _ (by simp [hs]) (fun j=>?_) (by omega) (by omega) (by omega) ht') (hT i a w h2 ht)
      by_cases e:j=i
      ·subst e;simp [zl (zx h1).2]
      ·rw [zj e,hl];omega
 intro fuel
 have sink:∀(listed:Array Bool) (a:Act) (w:Ω),GI ops (nh+1) a0 w0 C env listed a w->nh+1 ∈ Region.ready .any ops listed->∀(n i:Nat),nh+1 - i=n->i<nh->listed.getD i false=true:=by
  intro listed a w hg hr n
  obtain⟨h1,h2,_,h3⟩:=zo hr
  induction n using Nat.strongRecOn with
  | _ n ih=>
    intro i hn hi
    obtain⟨j,hj,hij,hjn,he⟩:=hlead i hi
    by_cases e:j=nh+1
    ·subst e;exact h3 i he
    ·exact hg.closed j i (ih (nh+1 - j) (by omega) j rfl (by omega)) he
 have full:∀(fuel:Nat) (listed:Array Bool) (a:Act) (w:Ω),GI ops (nh+1) a0 w0 C env listed a w->(∀ i,i<nh+1->listed.getD i false=true)->ops.size - (nh+1)<=fuel->W fuel listed a w:=by
  intro fuel listed a w hg hall hf
  exact tail fuel (nh+1) listed a w hg.size (fun i=>⟨hg.heads i,hall i⟩) (Nat.le_refl _) (by omega) hf (hg.fin hlen hdst hall (hfin w hg.c hg.keep))
 induction fuel with
 | zero=>
   intro listed a w S hg hS hf
   have hall:∀ i,i<ops.size->listed.getD i false=true:=fun i hi=>by
    cases h:listed.getD i false with
    | true=>rfl
    | false=>have:=hS i hi h;rw [List.eq_nil_of_length_eq_zero (by omega:S.length=0)] at this;cases this
   exfalso
   have:=hg.heads (nh+1) (hall (nh+1) (by omega))
   omega
 | succ fuel ih=>
   intro listed a w S hg hS hf
   by_cases hall:∀ i,i<nh+1->listed.getD i false=true
   ·-- all of the head has come
    refine full _ listed a w hg hall ?_
    have hsub:(List.range' (nh+1) (ops.size - (nh+1))) ⊆ S:=fun i hi=>by
     simp only [List.mem_range'_1] at hi
     refine hS i (by omega) ?_
     cases h:listed.getD i false with
     | false=>rfl
     | true=>have:=hg.heads i h;omega
    have hnd:(List.range' (nh+1) (ops.size - (nh+1))).Nodup:=List.nodup_range'
    have:=qM _ _ hnd hsub
    simp at this
    omega
   ·have hun:∃ i,i<nh+1/\listed.getD i false=false:=by
     apply Classical.byContradiction
     intro hn
     refine hall fun i hi=>?_
     cases h:listed.getD i false with
     | true=>rfl
     | false=>exact absurd ⟨i,hi,h⟩ hn
    refine hW _ _ _ _ (fun h0=>?_) fun i hi=>?_
    ·exfalso
     obtain⟨i,hi,hu⟩:=hun
     obtain⟨j,hj⟩:=qh hct hg.size i (by omega) hu
     rw [h0] at hj;cases hj
    ·obtain⟨h1,h2,⟨o,ho⟩,h3⟩:=zo hi
     by_cases hin0:¬ i<nh+1
     ·-- the tail begins before the floating operation
      have hnn:i=nh+1:=by
       rcases (qP hct h2).1 with h | h
       ·omega
       ·have:=hg.heads _ (h3 _ h);omega
      subst hnn
      have hs:=sink listed a w hg hi
      have hph:listed.getD nh false=false:=by
       obtain⟨j,hj,hu⟩:=hun
       by_cases e:j=nh
       ·subst e;exact hu
       ·rw [hs _ j rfl (by omega)] at hu;cases hu
      have hlow:∀ j,listed.getD j false=true->j<nh:=fun j hj=>by
       have:=hg.heads j hj
       by_cases e:j=nh
       ·rw [e,hph] at hj;cases hj
       ·omega
      have hgB:GI ops nh a0 w0 C (env.take nh) listed a w:=⟨hg.size,hg.closed,hlow,hg.c,hg.keep,fun j d V hj hV=>hg.vals j d V hj (by rw [List.getElem?_take] at hV;split at hV;exact hV;cases hV),hg.rest,hg.tsize,hg.defers⟩
      have hB:=hgB.fin (by simp;omega) (fun j x hx=>hdst j x (by rw [List.getElem?_take] at hx;split at hx;exact hx;cases hx)) (fun j hj=>hs _ j rfl hj) (hfinB w hg.c hg.keep)
      have hl1:listed.getD (nh+1) false=false:=(zx h1).1
      refine hmono _ _ _ _ _ (fun a' w' h'=>?_) hB
      have hm1:nh ∈ S:=hS nh (by omega) hph
      have hm2:nh+1 ∈ S:=hS (nh+1) h2 hl1
      have hlS:2+(ops.size - (nh+2))<=S.length:=by
       have hsub:(nh::List.range' (nh+1) (ops.size - (nh+1))) ⊆ S:=fun i hi=>by
        rcases List.mem_cons.1 hi with rfl | hi
        ·exact hm1
        ·simp only [List.mem_range'_1] at hi
         refine hS i (by omega) ?_
         cases h:listed.getD i false with
         | false=>rfl
         | true=>have:=hg.heads i h;omega
       have hnd:(nh::List.range' (nh+1) (ops.size - (nh+1))).Nodup:=List.nodup_cons.2 ⟨fun h=>by simp only [List.mem_range'_1] at h;omega,List.nodup_range'⟩
       have:=qM _ _ hnd hsub
       simp at this
       omega
      obtain⟨f',rfl⟩:∃ f',fuel=f'+1:=⟨fuel - 1,by omega⟩
      have hsz':(listed.setIfInBounds (nh+1) true).size=ops.size:=by simp [hg.size]
      have hph':(listed.setIfInBounds (nh+1) true).getD nh false=false:=by rw [zj (by omega)];exact hph
      refine hW _ _ _ _ (fun h0=>?_) fun i hi=>?_
      ·exfalso
       obtain⟨j,hj⟩:=qh hct hsz' nh (by omega) hph'
       rw [h0] at hj;cases hj
      ·obtain⟨k1,k2,_,k3⟩:=zo hi
       have hin:i=nh:=by
        have hu:=(zx k1).1
        rcases Nat.lt_trichotomy i nh with h | h | h
        ·rw [zj (by omega),hs _ i rfl h] at hu;cases hu
        ·exact h
        ·exfalso
         by_cases e:i=nh+1
         ·subst e;rw [zl (by rw [hg.size];exact h2)] at hu;cases hu
         ·by_cases e2:i=nh+2
          ·subst e2
           have:=k3 nh (hback k2)
           rw [hph'] at this;cases this
          ·rcases (qP hct k2).1 with h4 | h4
           ·omega
           ·have h5:=k3 _ h4
            rw [zj (by omega)] at h5
            have:=hg.heads _ h5;omega
       subst hin
       refine hmono _ _ _ _ _ (fun a2 w2 ht=>tail f' (i+2) _ _ _ (by simp [hg.size]) (fun j=>?_) (by omega) hnh (by omega) ht) h'
       by_cases e:j=i
       ·subst e;rw [zl (by rw [hsz'];omega)];simp
       ·rw [zj e]
        by_cases e2:j=i+1
        ·subst e2;rw [zl (by rw [hg.size];exact h2)];simp
        ·rw [zj e2]
         constructor
         ·intro h;have:=hg.heads j h;omega
         ·intro h;exact hs _ j rfl (by omega)
     have hin:i<nh+1:=by omega
     obtain⟨o',ho',hrd,hgd,_⟩:=hchk _ hin
     obtain rfl:o'=o:=Option.some.inj (ho'.symm.trans ho)
     have hil:i<env.length:=by omega
     have hei:env[i]? = some (o'.dst,env[i].2):=by
      have:=hdst i _ (List.getElem?_eq_getElem hil)
      unfold zJ at this
      rw [ho] at this
      rw [List.getElem?_eq_getElem hil]
      exact congrArg some (Prod.ext this.symm rfl)
     have hpre:∀ j:Nat,j<i->env[j]? = (env.take i)[j]?:=fun j hj=>by rw [List.getElem?_take,if_pos hj]
     have hrds:=hg.rds (env:=env.take i) hchk hin ho (zx h1).1 h3 (by simp;omega) hpre (fun j x hx=>hdst j x (by rw [List.getElem?_take] at hx;split at hx;exact hx;cases hx)) (zA o') hrd
     have hsk:=hok i o' _ ho hei
     have hgo:∀ u w',Kpo.kp w w'->C w'->env[i].2 u w'->W fuel (listed.setIfInBounds i true) (a.put o'.dst u) w':=fun u w' hk hc hu=>
      ih _ _ _ (S.erase i) (hg.step hchk hnt hin ho h1 h3 hst hdst hei hk hc hu) (fun j hj hu'=>by
       have hji:j≠i:=fun e=>by subst e;rw [zl (zx h1).2] at hu';cases hu'
       rw [zj hji] at hu'
       exact(List.mem_erase_of_ne hji).2 (hS j hj hu')) (by rw [List.length_erase_of_mem (hS i h2 (zx h1).1)];omega)
     refine hstep i o' _ a w ho ?_
     unfold stepOk at hsk
     cases hgu:o'.guard with
     | none=>
       simp only [hgu] at hsk
       rw [if_pos (by simp [Region.wanted,hgu])]
       exact hsk a w hg.c hg.keep hrds _ hgo
     | some jb=>
       obtain⟨j,b⟩:=jb
       simp only [hgu] at hsk
       obtain⟨hji,hje,hjd⟩:=hgd j b hgu
       obtain⟨d,hd⟩:=Option.isSome_iff_exists.1 hjd
       have hjl:j<env.length:=by omega
       have hej:=hdst j _ (List.getElem?_eq_getElem hjl)
       rw [hd] at hej
       have hvj:=hg.vals j d env[j].2 (h3 j hje) (by rw [List.getElem?_eq_getElem hjl];exact congrArg some (Prod.ext hej.symm rfl))
       obtain⟨oj,hoj,_,_,hdj⟩:=hchk j (show j<nh+1 by omega)
       have hds:d<a.tmps.size:=by rw [hg.tsize,hnt];exact(hdj d (by unfold zJ at hd;rw [hoj] at hd;exact hd)).1
       have hy:=yS (tmps:=a.tmps) hd hds
       have hval:∀ x,isV (env.take i) j x->a.tmps.getD d undef=x:=fun x hx=>by
        have:=isV_of hx hpre hji
        unfold isV at this
        rw [List.getElem?_eq_getElem hjl] at this
        exact this _ _ hvj
       rcases hsk with⟨hx,hh⟩ | ⟨hx,hVu⟩
       ·have:=hval _ hx
        rw [this] at hy
        rw [if_pos (by simp [Region.wanted,hgu,hy])]
        exact hh a w hg.c hg.keep hrds _ hgo
       ·have hyb:yielded ops a.tmps j≠some b:=by
         rcases hx with hx | hx
         ·have:=hval _ hx
          rw [this] at hy
          rw [hy];cases b<;>simp
         ·have:=hval _ hx
          rw [this] at hy
          rw [hy];simp [undef]
        rw [if_neg (by simp [Region.wanted,hgu];exact hyb)]
        exact hgo undef w (Kpo.refl _) hg.c (by rw [hVu])
theorem walkG_env {opw:Oper->Act->Ω->(Act->Ω->Prop)->Prop} {F:Act->Ω->Prop}:∀(l:List Oper) (env:List (Option Tmp × VP Ω)),walkG opw a0 w0 C F l env ->
 ∃ r:List (Option Tmp × VP Ω),r.length=l.length/\(∀(i:Nat) o,l[i]? = some o->∃ V,r[i]? = some (o.dst,V)/\(∀ u w w',V u w->Kpo.kp w w'->V u w')/\stepOk opw a0 w0 C (env++r.take i) o V) /\
  (∀ w,C w->Kpo.kp w0 w->finG F w (env++r) a0)
 | [],env,h=>⟨[],rfl,(fun i o ho=>by simp at ho),by rw [List.append_nil];exact h⟩
 | o::l,env,⟨V,hs,hk,hw⟩=>by
   obtain⟨r,h1,h2,h3⟩:=walkG_env l _ hw
   refine⟨(o.dst,V)::r,by simp [h1],fun i o' ho'=>?_,by simpa using h3⟩
   cases i with
   | zero=>
     obtain rfl:o=o':=by simpa using ho'
     exact⟨V,rfl,hs,by simpa using hk⟩
   | succ i=>
     obtain⟨V',g1,g2,g3⟩:=h2 i o' (by simpa using ho')
     exact⟨V',by simpa using g1,g2,by simpa using g3⟩
theorem gcoreC {nt r:Nat} (opw:Oper->Act->Ω->(Act->Ω->Prop)->Prop) (step:Nat->(Act->Ω->Prop)->Act->Ω->Prop) (W:Nat->Array Bool->Act->Ω->Prop) (Qn:Act->Ω->Prop) (T:Nat->Act->Ω->Prop)
 (hstep:∀ i o K a w,ops[i]? = some o->(if Region.wanted o (yielded ops a.tmps) then opw o a w K else K (a.put o.dst undef) w)->step i K a w)
 (hmono:∀ i K K' a w,(∀ a w,K a w->K' a w)->step i K a w->step i K' a w)
 (hW0:∀ listed a w,Region.ready .any ops listed=[]->Qn a w->W 0 listed a w)
 (hW:∀ fuel listed a w,(Region.ready .any ops listed=[]->Qn a w)->(∀ i ∈ Region.ready .any ops listed,step i (W fuel (listed.setIfInBounds i true)) a w)->W (fuel+1) listed a w)
 (hT:∀ k a w,k<ops.size->T k a w->step k (T (k+1)) a w) (hT0:∀ a w,T ops.size a w->Qn a w)
 (hr0:1<=r) (hchk:ChkR ops (nh+r) nt) (hlead:∀ i,i<nh->∃ j,j<=nh+r/\i<j/\¬(nh<=j/\j<nh+r)/\edge ops j i=true) (hchain:∀ i,nh<=i->i+1<nh+r->edge ops (i+1) i=true) (hback:nh+r+1<ops.size->edge ops (nh+r+1) (nh+r - 1)=true) (hct:yK ops (nh+r)=true) (hnh:nh+r+1<=ops.size)
 (CT:Nat->Act->Ω->Prop) (hCT:∀ c a w,c<r->CT c a w->step (nh+c) (CT (c+1)) a w) (hCTr:∀ a w,CT r a w->T (nh+r+1) a w) (hnt:a0.tmps.size=nt) (env:List (Option Tmp × VP Ω)) (hlen:env.length=nh+r)
 (hst:∀(j:Nat) d V,env[j]? = some (d,V)->∀ u w w',V u w->Kpo.kp w w'->V u w') (hdst:∀(j:Nat) x,env[j]? = some x->zJ ops j=x.1)
 (hok:∀(i:Nat) o V,ops[i]? = some o->env[i]? = some (o.dst,V)->stepOk opw a0 w0 C (env.take i) o V)
 (hfin:∀ w,C w->Kpo.kp w0 w->finG (T (nh+r)) w env a0) (hfinB:∀ c,c<r->∀ w,C w->Kpo.kp w0 w->finG (fun a w=>step (nh+r) (CT c) a w) w (env.take (nh+c)) a0) :
 ∀(fuel:Nat) (listed:Array Bool) (a:Act) (w:Ω) (S:List Nat),GI ops (nh+r) a0 w0 C env listed a w->(∀ i,i<ops.size->listed.getD i false=false->i ∈ S)->S.length<=fuel->W fuel listed a w:=by
 -- the tail
 have tail:∀(fuel k:Nat) (listed:Array Bool) (a:Act) (w:Ω),listed.size=ops.size->(∀ i,listed.getD i false=true ↔ i<k)->nh+r<=k->k<=ops.size->ops.size - k<=fuel->T k a w->W fuel listed a w:=by
  intro fuel
  induction fuel with
  | zero=>
    intro k listed a w hs hl _ hk hf ht
    obtain rfl:k=ops.size:=by omega
    refine hW0 _ _ _ ?_ (hT0 _ _ ht)
    refine List.eq_nil_iff_forall_not_mem.2 fun i hi=>?_
    obtain⟨h1,h2,_⟩:=zo hi
    have:=(zx h1).1
    rw [(hl i).2 h2] at this;cases this
  | succ fuel ih=>
    intro k listed a w hs hl hn hk hf ht
    by_cases hkk:k=ops.size
    ·subst hkk
     have hnil:Region.ready .any ops listed=[]:=List.eq_nil_iff_forall_not_mem.2 fun i hi=>by
      obtain⟨h1,h2,_⟩:=zo hi
      have:=(zx h1).1
      rw [(hl i).2 h2] at this;cases this
     exact hW _ _ _ _ (fun _=>hT0 _ _ ht) fun i hi=>by rw [hnil] at hi;cases hi
    ·refine hW _ _ _ _ (fun h0=>?_) fun i hi=>?_
     ·exfalso
      have hu:listed.getD k false=false:=by
       cases h:listed.getD k false with
       | false=>rfl
       | true=>have:=(hl k).1 h;omega
      obtain⟨j,hj⟩:=qh hct hs k (by omega) hu
      rw [h0] at hj;cases hj
     ·obtain⟨h1,h2,_,h3⟩:=zo hi
      have hik:¬ i<k:=fun h=>by have:=(zx h1).1;rw [(hl i).2 h] at this;cases this
      have:i=k:=by
       rcases (qP hct h2).1 with h | h
       ·omega
       ·have:=(hl _).1 (h3 _ h);omega
      subst this
      refine hmono _ _ _ _ _ (fun a' w' ht'=>ih (i+1) _ _ _ (by simp [hs]) (fun j=>?_) (by omega) (by omega) (by omega) ht') (hT i a w h2 ht)
      by_cases e:j=i
      ·subst e;simp [zl (zx h1).2]
      ·rw [zj e,hl];omega
 intro fuel
 have sink:∀(listed:Array Bool) (a:Act) (w:Ω),GI ops (nh+r) a0 w0 C env listed a w->nh+r ∈ Region.ready .any ops listed->∀(n i:Nat),nh+r - i=n->i<nh->listed.getD i false=true:=by
  intro listed a w hg hr n
  obtain⟨h1,h2,_,h3⟩:=zo hr
  induction n using Nat.strongRecOn with
  | _ n ih=>
    intro i hn hi
    obtain⟨j,hj,hij,hjn,he⟩:=hlead i hi
    by_cases e:j=nh+r
    ·subst e;exact h3 i he
    ·exact hg.closed j i (ih (nh+r - j) (by omega) j rfl (by omega)) he
 -- what floats,behind the first of the tail
 have phase:∀(n c fuel:Nat) (listed:Array Bool) (a:Act) (w:Ω),r - c=n->c<=r->listed.size=ops.size->(∀ i,listed.getD i false=true ↔ i<nh+c\/i=nh+r)->(r - c)+(ops.size - (nh+r+1))<=fuel->CT c a w->W fuel listed a w:=by
  intro n
  induction n with
  | zero=>
    intro c fuel listed a w hn hc hs hl hf ht
    obtain rfl:c=r:=by omega
    exact tail fuel (nh+c+1) listed a w hs (fun i=>by rw [hl];omega) (by omega) (by omega) (by omega) (hCTr a w ht)
  | succ n ih=>
    intro c fuel listed a w hn hc hs hl hf ht
    obtain⟨f',rfl⟩:∃ f',fuel=f'+1:=⟨fuel - 1,by omega⟩
    have hun:listed.getD (nh+c) false=false:=by
     cases h:listed.getD (nh+c) false with
     | false=>rfl
     | true=>have:=(hl _).1 h;omega
    refine hW _ _ _ _ (fun h0=>?_) fun i hi=>?_
    ·exfalso
     obtain⟨j,hj⟩:=qh hct hs (nh+c) (by omega) hun
     rw [h0] at hj;cases hj
    ·obtain⟨k1,k2,_,k3⟩:=zo hi
     have hu:=(zx k1).1
     have hin:i=nh+c:=by
      have hnl:¬(i<nh+c\/i=nh+r):=fun h=>by rw [(hl i).2 h] at hu;cases hu
      rcases Nat.lt_trichotomy i (nh+c) with h | h | h
      ·omega
      ·exact h
      ·exfalso
       by_cases e:i<nh+r
       ·have:=(hl _).1 (k3 (i - 1) (by have:=hchain (i - 1) (by omega) (by omega);rwa [show i - 1+1=i by omega] at this))
        omega
       ·by_cases e2:i=nh+r+1
        ·subst e2
         have:=(hl _).1 (k3 _ (hback k2))
         omega
        ·rcases (qP hct k2).1 with h4 | h4
         ·omega
         ·have:=(hl _).1 (k3 _ h4);omega
     subst hin
     refine hmono _ _ _ _ _ (fun a2 w2 ht2=>ih (c+1) f' _ _ _ (by omega) (by omega) (by simp [hs]) (fun j=>?_) (by omega) ht2) (hCT c a w (by omega) ht)
     by_cases e:j=nh+c
     ·subst e;rw [zl (by rw [hs];omega)];simp
     ·rw [zj e,hl];omega
 have full:∀(fuel:Nat) (listed:Array Bool) (a:Act) (w:Ω),GI ops (nh+r) a0 w0 C env listed a w->(∀ i,i<nh+r->listed.getD i false=true)->ops.size - (nh+r)<=fuel->W fuel listed a w:=by
  intro fuel listed a w hg hall hf
  exact tail fuel (nh+r) listed a w hg.size (fun i=>⟨hg.heads i,hall i⟩) (Nat.le_refl _) (by omega) hf (hg.fin hlen hdst hall (hfin w hg.c hg.keep))
 induction fuel with
 | zero=>
   intro listed a w S hg hS hf
   have hall:∀ i,i<ops.size->listed.getD i false=true:=fun i hi=>by
    cases h:listed.getD i false with
    | true=>rfl
    | false=>have:=hS i hi h;rw [List.eq_nil_of_length_eq_zero (by omega:S.length=0)] at this;cases this
   exfalso
   have:=hg.heads (nh+r) (hall (nh+r) (by omega))
   omega
 | succ fuel ih=>
   intro listed a w S hg hS hf
   by_cases hall:∀ i,i<nh+r->listed.getD i false=true
   ·-- all of the head has come
    refine full _ listed a w hg hall ?_
    have hsub:(List.range' (nh+r) (ops.size - (nh+r))) ⊆ S:=fun i hi=>by
     simp only [List.mem_range'_1] at hi
     refine hS i (by omega) ?_
     cases h:listed.getD i false with
     | false=>rfl
     | true=>have:=hg.heads i h;omega
    have hnd:(List.range' (nh+r) (ops.size - (nh+r))).Nodup:=List.nodup_range'
    have:=qM _ _ hnd hsub
    simp at this
    omega
   ·have hun:∃ i,i<nh+r/\listed.getD i false=false:=by
     apply Classical.byContradiction
     intro hn
     refine hall fun i hi=>?_
     cases h:listed.getD i false with
     | true=>rfl
     | false=>exact absurd ⟨i,hi,h⟩ hn
    refine hW _ _ _ _ (fun h0=>?_) fun i hi=>?_
    ·exfalso
     obtain⟨i,hi,hu⟩:=hun
     obtain⟨j,hj⟩:=qh hct hg.size i (by omega) hu
     rw [h0] at hj;cases hj
    ·obtain⟨h1,h2,⟨o,ho⟩,h3⟩:=zo hi
     by_cases hin0:¬ i<nh+r
     ·-- the tail begins before what floats
      have hnn:i=nh+r:=by
       rcases (qP hct h2).1 with h | h
       ·omega
       ·have:=hg.heads _ (h3 _ h);omega
      subst hnn
      have hs:=sink listed a w hg hi
      -- how much of it has come
      have zdg:∃ c,c<r/\listed.getD (nh+c) false=false/\∀ i,i<nh+c->listed.getD i false=true:=by
       obtain⟨j,hj,hu⟩:=hun
       have:∀ n c,c+n=r->(∀ i,i<nh+c->listed.getD i false=true)->∃ c,c<r/\listed.getD (nh+c) false=false/\∀ i,i<nh+c->listed.getD i false=true:=by
        intro n
        induction n with
        | zero=>intro c hc hl;rw [hl j (by omega)] at hu;cases hu
        | succ n ih=>
          intro c hc hl
          cases h:listed.getD (nh+c) false with
          | false=>exact⟨c,by omega,h,hl⟩
          | true=>
            refine ih (c+1) (by omega) fun i hi=>?_
            by_cases e:i=nh+c
            ·rw [e];exact h
            ·exact hl i (by omega)
       exact this r 0 (by omega) fun i hi=>hs _ i rfl (by omega)
      obtain⟨c,hc,hph,hlo⟩:=zdg
      have hhi:∀ k,nh+c+k<nh+r->listed.getD (nh+c+k) false=false:=by
       intro k
       induction k with
       | zero=>intro _;exact hph
       | succ k ih=>
         intro hk
         cases h:listed.getD (nh+c+(k+1)) false with
         | false=>rfl
         | true=>
           have:=hg.closed _ _ h (hchain (nh+c+k) (by omega) (by omega))
           rw [ih (by omega)] at this;cases this
      have hlow:∀ j,listed.getD j false=true->j<nh+c:=fun j hj=>by
       have:=hg.heads j hj
       apply Classical.byContradiction
       intro hge
       have:=hhi (j - (nh+c)) (by omega)
       rw [show nh+c+(j - (nh+c))=j by omega,hj] at this;cases this
      have hgB:GI ops (nh+c) a0 w0 C (env.take (nh+c)) listed a w:=⟨hg.size,hg.closed,hlow,hg.c,hg.keep,fun j d V hj hV=>hg.vals j d V hj (by rw [List.getElem?_take] at hV;split at hV;exact hV;cases hV),hg.rest,hg.tsize,hg.defers⟩
      have hB:=hgB.fin (by simp;omega) (fun j x hx=>hdst j x (by rw [List.getElem?_take] at hx;split at hx;exact hx;cases hx)) hlo (hfinB c hc w hg.c hg.keep)
      refine hmono _ _ _ _ _ (fun a' w' h'=>?_) hB
      have hlS:(r - c)+(ops.size - (nh+r))<=S.length:=by
       have hsub:(List.range' (nh+c) (ops.size - (nh+c))) ⊆ S:=fun i hi=>by
        simp only [List.mem_range'_1] at hi
        refine hS i (by omega) ?_
        cases h:listed.getD i false with
        | false=>rfl
        | true=>have:=hlow i h;omega
       have hnd:(List.range' (nh+c) (ops.size - (nh+c))).Nodup:=List.nodup_range'
       have:=qM _ _ hnd hsub
       simp at this
       omega
      refine phase (r - c) c fuel _ a' w' rfl (by omega) (by simp [hg.size]) (fun j=>?_) (by omega) h'
      by_cases e:j=nh+r
      ·subst e;rw [zl (by rw [hg.size];exact h2)];simp
      ·rw [zj e]
       constructor
       ·intro h;exact .inl (hlow j h)
       ·intro h;exact hlo j (by omega)
     have hin:i<nh+r:=by omega
     obtain⟨o',ho',hrd,hgd,_⟩:=hchk _ hin
     obtain rfl:o'=o:=Option.some.inj (ho'.symm.trans ho)
     have hil:i<env.length:=by omega
     have hei:env[i]? = some (o'.dst,env[i].2):=by
      have:=hdst i _ (List.getElem?_eq_getElem hil)
      unfold zJ at this
      rw [ho] at this
      rw [List.getElem?_eq_getElem hil]
      exact congrArg some (Prod.ext this.symm rfl)
     have hpre:∀ j:Nat,j<i->env[j]? = (env.take i)[j]?:=fun j hj=>by rw [List.getElem?_take,if_pos hj]
     have hrds:=hg.rds (env:=env.take i) hchk hin ho (zx h1).1 h3 (by simp;omega) hpre (fun j x hx=>hdst j x (by rw [List.getElem?_take] at hx;split at hx;exact hx;cases hx)) (zA o') hrd
     have hsk:=hok i o' _ ho hei
     have hgo:∀ u w',Kpo.kp w w'->C w'->env[i].2 u w'->W fuel (listed.setIfInBounds i true) (a.put o'.dst u) w':=fun u w' hk hc hu=>
      ih _ _ _ (S.erase i) (hg.step hchk hnt hin ho h1 h3 hst hdst hei hk hc hu) (fun j hj hu'=>by
       have hji:j≠i:=fun e=>by subst e;rw [zl (zx h1).2] at hu';cases hu'
       rw [zj hji] at hu'
       exact(List.mem_erase_of_ne hji).2 (hS j hj hu')) (by rw [List.length_erase_of_mem (hS i h2 (zx h1).1)];omega)
     refine hstep i o' _ a w ho ?_
     unfold stepOk at hsk
     cases hgu:o'.guard with
     | none=>
       simp only [hgu] at hsk
       rw [if_pos (by simp [Region.wanted,hgu])]
       exact hsk a w hg.c hg.keep hrds _ hgo
     | some jb=>
       obtain⟨j,b⟩:=jb
       simp only [hgu] at hsk
       obtain⟨hji,hje,hjd⟩:=hgd j b hgu
       obtain⟨d,hd⟩:=Option.isSome_iff_exists.1 hjd
       have hjl:j<env.length:=by omega
       have hej:=hdst j _ (List.getElem?_eq_getElem hjl)
       rw [hd] at hej
       have hvj:=hg.vals j d env[j].2 (h3 j hje) (by rw [List.getElem?_eq_getElem hjl];exact congrArg some (Prod.ext hej.symm rfl))
       obtain⟨oj,hoj,_,_,hdj⟩:=hchk j (show j<nh+r by omega)
       have hds:d<a.tmps.size:=by rw [hg.tsize,hnt];exact(hdj d (by unfold zJ at hd;rw [hoj] at hd;exact hd)).1
       have hy:=yS (tmps:=a.tmps) hd hds
       have hval:∀ x,isV (env.take i) j x->a.tmps.getD d undef=x:=fun x hx=>by
        have:=isV_of hx hpre hji
        unfold isV at this
        rw [List.getElem?_eq_getElem hjl] at this
        exact this _ _ hvj
       rcases hsk with⟨hx,hh⟩ | ⟨hx,hVu⟩
       ·have:=hval _ hx
        rw [this] at hy
        rw [if_pos (by simp [Region.wanted,hgu,hy])]
        exact hh a w hg.c hg.keep hrds _ hgo
       ·have hyb:yielded ops a.tmps j≠some b:=by
         rcases hx with hx | hx
         ·have:=hval _ hx
          rw [this] at hy
          rw [hy];cases b<;>simp
         ·have:=hval _ hx
          rw [this] at hy
          rw [hy];simp [undef]
        rw [if_neg (by simp [Region.wanted,hgu];exact hyb)]
        exact hgo undef w (Kpo.refl _) hg.c (by rw [hVu])
def walkE (opw:Oper->Act->Ω->(Act->Ω->Prop)->Prop) (a0:Act) (w0:Ω) (C:Ω->Prop) (E:List (Option Tmp × VP Ω)->Prop):List Oper->List (Option Tmp × VP Ω)->Prop
 | [],env=>E env
 | o::l,env=>∃ V:VP Ω,(∀ u w w',V u w->Kpo.kp w w'->V u w')/\stepOk opw a0 w0 C env o V/\walkE opw a0 w0 C E l (env++[(o.dst,V)])
theorem walkG_of {opw:Oper->Act->Ω->(Act->Ω->Prop)->Prop} {F:Act->Ω->Prop}:∀(l:List Oper) (env:List (Option Tmp × VP Ω)),walkE opw a0 w0 C (fun env=>∀ w,C w->Kpo.kp w0 w->finG F w env a0) l env->walkG opw a0 w0 C F l env
 | [],env,h=>h
 | o::l,env,⟨V,h1,h2,h3⟩=>⟨V,h1,h2,walkG_of l _ h3⟩
theorem walkE_env {opw:Oper->Act->Ω->(Act->Ω->Prop)->Prop} {E:List (Option Tmp × VP Ω)->Prop}:∀(l:List Oper) (env:List (Option Tmp × VP Ω)),walkE opw a0 w0 C E l env ->
 ∃ r:List (Option Tmp × VP Ω),r.length=l.length/\(∀(i:Nat) o,l[i]? = some o->∃ V,r[i]? = some (o.dst,V)/\(∀ u w w',V u w->Kpo.kp w w'->V u w')/\stepOk opw a0 w0 C (env++r.take i) o V) /\
  E (env++r)
 | [],env,h=>⟨[],rfl,(fun i o ho=>by simp at ho),by rw [List.append_nil];exact h⟩
 | o::l,env,⟨V,hs,hk,hw⟩=>by
   obtain⟨r,h1,h2,h3⟩:=walkE_env l _ hw
   refine⟨(o.dst,V)::r,by simp [h1],fun i o' ho'=>?_,by simpa using h3⟩
   cases i with
   | zero=>
     obtain rfl:o=o':=by simpa using ho'
     exact⟨V,rfl,hs,by simpa using hk⟩
   | succ i=>
     obtain⟨V',g1,g2,g3⟩:=h2 i o' (by simpa using ho')
     exact⟨V',by simpa using g1,g2,by simpa using g3⟩
theorem gready {nt:Nat} {l:List Oper} (hO:ops=l.toArray) (opw:Oper->Act->Ω->(Act->Ω->Prop)->Prop) (step:Nat->(Act->Ω->Prop)->Act->Ω->Prop) (W:Nat->Array Bool->Act->Ω->Prop) (Qn:Act->Ω->Prop) (T:Nat->Act->Ω->Prop)
 (hstep:∀ i o K a w,ops[i]? = some o->(if Region.wanted o (yielded ops a.tmps) then opw o a w K else K (a.put o.dst undef) w)->step i K a w)
 (hmono:∀ i K K' a w,(∀ a w,K a w->K' a w)->step i K a w->step i K' a w)
 (hW0:∀ listed a w,Region.ready .any ops listed=[]->Qn a w->W 0 listed a w)
 (hW:∀ fuel listed a w,(Region.ready .any ops listed=[]->Qn a w)->(∀ i ∈ Region.ready .any ops listed,step i (W fuel (listed.setIfInBounds i true)) a w)->W (fuel+1) listed a w)
 (hT:∀ k a w,k<ops.size->T k a w->step k (T (k+1)) a w) (hT0:∀ a w,T ops.size a w->Qn a w)
 (hchk:xk ops nh nt=true) (hct:yK ops nh=true) (hnt:a0.tmps.size=nt) (hC:C w0)
 (h:walkG opw a0 w0 C (T nh) (l.take nh) []):W ops.size (Array.replicate ops.size false) a0 w0:=by
 subst hO
 have hnh:nh<=l.toArray.size:=by
  unfold xk at hchk
  simp only [Bool.and_eq_true,decide_eq_true_eq] at hchk
  exact hchk.1
 have hnl:nh<=l.length:=by simpa using hnh
 obtain⟨env,h1,h2,h3⟩:=walkG_env _ _ h
 have hlen:env.length=nh:=by rw [h1];simp;omega
 have get:∀ i:Nat,i<nh->∃ o V,l[i]? = some o/\env[i]? = some (o.dst,V)/\(∀ u w w',V u w->Kpo.kp w w'->V u w')/\stepOk opw a0 w0 C (env.take i) o V:=fun i hi=>by
  have hil:i<l.length:=by omega
  obtain⟨V,g⟩:=h2 i l[i] (by rw [List.getElem?_take,if_pos hi];exact List.getElem?_eq_getElem hil)
  exact⟨l[i],V,List.getElem?_eq_getElem hil,by simpa using g⟩
 refine gcore (nt:=nt) opw step W Qn T hstep hmono hW0 hW hT hT0 hchk hct hnh hnt env hlen (fun j d V hj=>?_) (fun j x hj=>?_) (fun i o V ho hV=>?_) (by simpa using h3) _ _ _ _ (List.range l.toArray.size) ?_ (fun i hi _=>by simpa using hi) (by simp)
 ·obtain⟨o,V',g1,g2,g3,g4⟩:=get j (by rw [<-hlen];exact(List.getElem?_eq_some_iff.1 hj).1)
  rw [g2] at hj
  cases hj
  exact g3
 ·obtain⟨o,V',g1,g2,g3,g4⟩:=get j (by rw [<-hlen];exact(List.getElem?_eq_some_iff.1 hj).1)
  rw [g2] at hj
  cases hj
  unfold zJ
  simp [g1]
 ·obtain⟨o',V',g1,g2,g3,g4⟩:=get i (by rw [<-hlen];exact(List.getElem?_eq_some_iff.1 hV).1)
  have e1:o'=o:=by have:l[i]? = some o:=by simpa using ho
                   rw [g1] at this;exact Option.some.inj this
  subst e1
  rw [g2] at hV
  simp only [Option.some.injEq,Prod.mk.injEq,true_and] at hV
  subst hV
  exact g4
 ·have hf:∀ i:Nat,(Array.replicate l.toArray.size false).getD i false=false:=fun i=>by
   simp only [Array.getD_eq_getD_getElem?,Array.getElem?_replicate]
   split<;>rfl
  exact⟨by simp,(fun i j hi=>by rw [hf] at hi;cases hi),(fun i hi=>by rw [hf] at hi;cases hi),hC,Kpo.refl _,(fun j d V hj=>by rw [hf] at hj;cases hj),fun _ _=>rfl,rfl,rfl⟩
theorem greadyF {nt:Nat} {l:List Oper} (hO:ops=l.toArray) (opw:Oper->Act->Ω->(Act->Ω->Prop)->Prop) (step:Nat->(Act->Ω->Prop)->Act->Ω->Prop) (W:Nat->Array Bool->Act->Ω->Prop) (Qn:Act->Ω->Prop) (T:Nat->Act->Ω->Prop)
 (hstep:∀ i o K a w,ops[i]? = some o->(if Region.wanted o (yielded ops a.tmps) then opw o a w K else K (a.put o.dst undef) w)->step i K a w)
 (hmono:∀ i K K' a w,(∀ a w,K a w->K' a w)->step i K a w->step i K' a w)
 (hW0:∀ listed a w,Region.ready .any ops listed=[]->Qn a w->W 0 listed a w)
 (hW:∀ fuel listed a w,(Region.ready .any ops listed=[]->Qn a w)->(∀ i ∈ Region.ready .any ops listed,step i (W fuel (listed.setIfInBounds i true)) a w)->W (fuel+1) listed a w)
 (hT:∀ k a w,k<ops.size->T k a w->step k (T (k+1)) a w) (hT0:∀ a w,T ops.size a w->Qn a w)
 (hchk:ChkR ops (nh+1) nt) (hlead:∀ i,i<nh->∃ j,j<=nh+1/\i<j/\j≠nh/\edge ops j i=true) (hback:nh+2<ops.size->edge ops (nh+2) nh=true) (hct:yK ops (nh+1)=true) (hnh:nh+2<=ops.size) (hnt:a0.tmps.size=nt) (hC:C w0)
 (h:walkE opw a0 w0 C (fun env=>(∀ w,C w->Kpo.kp w0 w->finG (T (nh+1)) w env a0)/\∀ w,C w->Kpo.kp w0 w->finG (fun a w=>step (nh+1) (fun a w=>step nh (T (nh+2)) a w) a w) w (env.take nh) a0) (l.take (nh+1)) []):W ops.size (Array.replicate ops.size false) a0 w0:=by
 subst hO
 have hnl:nh+2<=l.length:=by simpa using hnh
 obtain⟨env,h1,h2,h3⟩:=walkE_env _ _ h
 have hlen:env.length=nh+1:=by rw [h1];simp;omega
 have get:∀ i:Nat,i<nh+1->∃ o V,l[i]? = some o/\env[i]? = some (o.dst,V)/\(∀ u w w',V u w->Kpo.kp w w'->V u w')/\stepOk opw a0 w0 C (env.take i) o V:=fun i hi=>by
  have hil:i<l.length:=by omega
  obtain⟨V,g⟩:=h2 i l[i] (by rw [List.getElem?_take,if_pos hi];exact List.getElem?_eq_getElem hil)
  exact⟨l[i],V,List.getElem?_eq_getElem hil,by simpa using g⟩
 refine gcoreF (nt:=nt) opw step W Qn T hstep hmono hW0 hW hT hT0 hchk hlead hback hct hnh hnt env hlen (fun j d V hj=>?_) (fun j x hj=>?_) (fun i o V ho hV=>?_) (by simpa using h3.1) (by simpa using h3.2) _ _ _ _ (List.range l.toArray.size) ?_ (fun i hi _=>by simpa using hi) (by simp)
 ·obtain⟨o,V',g1,g2,g3,g4⟩:=get j (by rw [<-hlen];exact(List.getElem?_eq_some_iff.1 hj).1)
  rw [g2] at hj
  cases hj
  exact g3
 ·obtain⟨o,V',g1,g2,g3,g4⟩:=get j (by rw [<-hlen];exact(List.getElem?_eq_some_iff.1 hj).1)
  rw [g2] at hj
  cases hj
  unfold zJ
  simp [g1]
 ·obtain⟨o',V',g1,g2,g3,g4⟩:=get i (by rw [<-hlen];exact(List.getElem?_eq_some_iff.1 hV).1)
  have e1:o'=o:=by have:l[i]? = some o:=by simpa using ho
                   rw [g1] at this;exact Option.some.inj this
  subst e1
  rw [g2] at hV
  simp only [Option.some.injEq,Prod.mk.injEq,true_and] at hV
  subst hV
  exact g4
 ·have hf:∀ i:Nat,(Array.replicate l.toArray.size false).getD i false=false:=fun i=>by
   simp only [Array.getD_eq_getD_getElem?,Array.getElem?_replicate]
   split<;>rfl
  exact⟨by simp,(fun i j hi=>by rw [hf] at hi;cases hi),(fun i hi=>by rw [hf] at hi;cases hi),hC,Kpo.refl _,(fun j d V hj=>by rw [hf] at hj;cases hj),fun _ _=>rfl,rfl,rfl⟩
theorem greadyC {nt r:Nat} {l:List Oper} (hO:ops=l.toArray) (opw:Oper->Act->Ω->(Act->Ω->Prop)->Prop) (step:Nat->(Act->Ω->Prop)->Act->Ω->Prop) (W:Nat->Array Bool->Act->Ω->Prop) (Qn:Act->Ω->Prop) (T:Nat->Act->Ω->Prop)
 (hstep:∀ i o K a w,ops[i]? = some o->(if Region.wanted o (yielded ops a.tmps) then opw o a w K else K (a.put o.dst undef) w)->step i K a w)
 (hmono:∀ i K K' a w,(∀ a w,K a w->K' a w)->step i K a w->step i K' a w)
 (hW0:∀ listed a w,Region.ready .any ops listed=[]->Qn a w->W 0 listed a w)
 (hW:∀ fuel listed a w,(Region.ready .any ops listed=[]->Qn a w)->(∀ i ∈ Region.ready .any ops listed,step i (W fuel (listed.setIfInBounds i true)) a w)->W (fuel+1) listed a w)
 (hT:∀ k a w,k<ops.size->T k a w->step k (T (k+1)) a w) (hT0:∀ a w,T ops.size a w->Qn a w)
 (hr0:1<=r) (hchk:ChkR ops (nh+r) nt) (hlead:∀ i,i<nh->∃ j,j<=nh+r/\i<j/\¬(nh<=j/\j<nh+r)/\edge ops j i=true) (hchain:∀ i,nh<=i->i+1<nh+r->edge ops (i+1) i=true) (hback:nh+r+1<ops.size->edge ops (nh+r+1) (nh+r - 1)=true) (hct:yK ops (nh+r)=true) (hnh:nh+r+1<=ops.size)
 (CT:Nat->Act->Ω->Prop) (hCT:∀ c a w,c<r->CT c a w->step (nh+c) (CT (c+1)) a w) (hCTr:∀ a w,CT r a w->T (nh+r+1) a w) (hnt:a0.tmps.size=nt) (hC:C w0)
 (h:walkE opw a0 w0 C (fun env=>(∀ w,C w->Kpo.kp w0 w->finG (T (nh+r)) w env a0)/\∀ c,c<r->∀ w,C w->Kpo.kp w0 w->finG (fun a w=>step (nh+r) (CT c) a w) w (env.take (nh+c)) a0) (l.take (nh+r)) []):W ops.size (Array.replicate ops.size false) a0 w0:=by
 subst hO
 have hnl:nh+r+1<=l.length:=by simpa using hnh
 obtain⟨env,h1,h2,h3⟩:=walkE_env _ _ h
 have hlen:env.length=nh+r:=by rw [h1];simp;omega
 have get:∀ i:Nat,i<nh+r->∃ o V,l[i]? = some o/\env[i]? = some (o.dst,V)/\(∀ u w w',V u w->Kpo.kp w w'->V u w')/\stepOk opw a0 w0 C (env.take i) o V:=fun i hi=>by
  have hil:i<l.length:=by omega
  obtain⟨V,g⟩:=h2 i l[i] (by rw [List.getElem?_take,if_pos hi];exact List.getElem?_eq_getElem hil)
  exact⟨l[i],V,List.getElem?_eq_getElem hil,by simpa using g⟩
 refine gcoreC (nt:=nt) opw step W Qn T hstep hmono hW0 hW hT hT0 hr0 hchk hlead hchain hback hct hnh CT hCT hCTr hnt env hlen (fun j d V hj=>?_) (fun j x hj=>?_) (fun i o V ho hV=>?_) (by simpa using h3.1) (by simpa using h3.2) _ _ _ _ (List.range l.toArray.size) ?_ (fun i hi _=>by simpa using hi) (by simp)
 ·obtain⟨o,V',g1,g2,g3,g4⟩:=get j (by rw [<-hlen];exact(List.getElem?_eq_some_iff.1 hj).1)
  rw [g2] at hj
  cases hj
  exact g3
 ·obtain⟨o,V',g1,g2,g3,g4⟩:=get j (by rw [<-hlen];exact(List.getElem?_eq_some_iff.1 hj).1)
  rw [g2] at hj
  cases hj
  unfold zJ
  simp [g1]
 ·obtain⟨o',V',g1,g2,g3,g4⟩:=get i (by rw [<-hlen];exact(List.getElem?_eq_some_iff.1 hV).1)
  have e1:o'=o:=by have:l[i]? = some o:=by simpa using ho
                   rw [g1] at this;exact Option.some.inj this
  subst e1
  rw [g2] at hV
  simp only [Option.some.injEq,Prod.mk.injEq,true_and] at hV
  subst hV
  exact g4
 ·have hf:∀ i:Nat,(Array.replicate l.toArray.size false).getD i false=false:=fun i=>by
   simp only [Array.getD_eq_getD_getElem?,Array.getElem?_replicate]
   split<;>rfl
  exact⟨by simp,(fun i j hi=>by rw [hf] at hi;cases hi),(fun i hi=>by rw [hf] at hi;cases hi),hC,Kpo.refl _,(fun j d V hj=>by rw [hf] at hj;cases hj),fun _ _=>rfl,rfl,rfl⟩
end
end Go.Proofs.YtopfkkogooocgaaGreat.Pl
namespace Go.Proofs.YtopfkkogooocgaaGreat
open Go.RowKit
def lk:List (Option Tmp × VP)->Tmp->Option VP
 | [],_=>none
 | (d,V)::r,t=>if d=some t then some V else lk r t
def Rds (env:List (Option Tmp × VP)) (a0:Act):List Tmp->Act->World->Prop
 | [],_,_=>True
 | t::ts,a,w=>(match lk env t with | some V=>∃ u,RdEq a t u/\V u w | none=>RdEq a t (a0.tmps.getD t undef))/\Rds env a0 ts a w
def headOk (Sw:Nat->Prop) (opw:Oper->Act->World->(Act->World->Prop)->Prop) (a0:Act) (w0:World) (C:World->Prop) (env:List (Option Tmp × VP)) (o:Oper) (V:VP):Prop:=
 ∀ a w,C w->Keep Sw w0 w->Rds env a0 (zA o) a w->∀ K:Act->World->Prop,(∀ u w',Keep Sw w w'->C w'->V u w'->K (a.put o.dst u) w')->opw o a w K
def isV (env:List (Option Tmp × VP)) (j:Nat) (x:Value):Prop:=match env[j]? with | some (_,V)=>∀ u w,V u w->u=x | none=>False
def stepOk (Sw:Nat->Prop) (opw:Oper->Act->World->(Act->World->Prop)->Prop) (a0:Act) (w0:World) (C:World->Prop) (env:List (Option Tmp × VP)) (o:Oper) (V:VP):Prop:=
 match o.guard with
 | none=>headOk Sw opw a0 w0 C env o V
 | some (j,b)=>(isV env j (.bool b)/\headOk Sw opw a0 w0 C env o V)\/((isV env j (.bool !b)\/isV env j undef)/\V=fun u _=>u=undef)
def finG (F:Act->World->Prop) (w:World):List (Option Tmp × VP)->Act->Prop
 | [],a=>F a w
 | (none,_)::r,a=>finG F w r a
 | (some d,V)::r,a=>∀ u,V u w->finG F w r (a.put (some d) u)
def walkG (Sw:Nat->Prop) (opw:Oper->Act->World->(Act->World->Prop)->Prop) (a0:Act) (w0:World) (C:World->Prop) (F:Act->World->Prop):List Oper->List (Option Tmp × VP)->Prop
 | [],env=>∀ w,C w->Keep Sw w0 w->finG F w env a0
 | o::l,env=>∃ V:VP,(∀ u w w',V u w->Keep Sw w w'->V u w')/\stepOk Sw opw a0 w0 C env o V/\walkG Sw opw a0 w0 C F l (env++[(o.dst,V)])
section
variable {Sw:Nat->Prop} {ops:Array Oper} {nh:Nat} {a0:Act} {w0:World} {C:World->Prop}
@[reducible] def zoB (Sw:Nat->Prop):Pl.Kpo World:=⟨Keep Sw,Keep.refl Sw,fun _ _ _ h k=>h.trans k⟩
theorem zoO:∀(env:List (Option Tmp × VP)) (t:Tmp),@Pl.lk World env t=lk env t
 | [],t=>rfl
 | (d,V)::r,t=>by
   rw [lk,Pl.lk,zoO r t]
theorem zop (env:List (Option Tmp × VP)) (a0:Act):∀(ts:List Tmp) (a:Act) (w:World),@Pl.Rds World env a0 ts a w=Rds env a0 ts a w
 | [],a,w=>rfl
 | t::ts,a,w=>by
   rw [Rds,Pl.Rds,zop env a0 ts a w,zoO]
   cases lk env t<;>rfl
theorem zoV (env:List (Option Tmp × VP)) (j:Nat) (x:Value):@Pl.isV World env j x=isV env j x:=by
 unfold isV Pl.isV
 cases env[j]?<;>rfl
theorem zoy {opw:Oper->Act->World->(Act->World->Prop)->Prop} {env:List (Option Tmp × VP)} {o:Oper} {V:VP}:@Pl.headOk World (zoB Sw) opw a0 w0 C env o V=headOk Sw opw a0 w0 C env o V:=by
 unfold headOk Pl.headOk
 simp only [zop]
 rfl
theorem zoI {opw:Oper->Act->World->(Act->World->Prop)->Prop} {env:List (Option Tmp × VP)} {o:Oper} {V:VP}:@Pl.stepOk World (zoB Sw) opw a0 w0 C env o V=stepOk Sw opw a0 w0 C env o V:=by
 unfold stepOk Pl.stepOk
 rw [zoy]
 cases o.guard with
 | none=>rfl
 | some p=>
   obtain⟨j,b⟩:=p
   simp only [zoV]
theorem znS {F:Act->World->Prop} {w:World}:∀(env:List (Option Tmp × VP)) (a:Act),@Pl.finG World F w env a=finG F w env a
 | [],a=>rfl
 | (none,_)::r,a=>by rw [finG,Pl.finG,znS r a]
 | (some d,V)::r,a=>by
   rw [finG,Pl.finG]
   simp only [znS r]
theorem znZ {opw:Oper->Act->World->(Act->World->Prop)->Prop} {F:Act->World->Prop}:∀(l:List Oper) (env:List (Option Tmp × VP)),walkG Sw opw a0 w0 C F l env->@Pl.walkG World (zoB Sw) opw a0 w0 C F l env
 | [],env,h=>fun w hc hk=>by rw [znS];exact h w hc hk
 | o::l,env,⟨V,h1,h2,h3⟩=>⟨V,h1,by rw [zoI];exact h2,znZ l _ h3⟩
theorem gready {nt:Nat} {l:List Oper} (hO:ops=l.toArray) (opw:Oper->Act->World->(Act->World->Prop)->Prop) (step:Nat->(Act->World->Prop)->Act->World->Prop) (W:Nat->Array Bool->Act->World->Prop) (Qn:Act->World->Prop) (T:Nat->Act->World->Prop)
 (hstep:∀ i o K a w,ops[i]? = some o->(if Region.wanted o (yielded ops a.tmps) then opw o a w K else K (a.put o.dst undef) w)->step i K a w)
 (hmono:∀ i K K' a w,(∀ a w,K a w->K' a w)->step i K a w->step i K' a w)
 (hW0:∀ listed a w,Region.ready .any ops listed=[]->Qn a w->W 0 listed a w)
 (hW:∀ fuel listed a w,(Region.ready .any ops listed=[]->Qn a w)->(∀ i ∈ Region.ready .any ops listed,step i (W fuel (listed.setIfInBounds i true)) a w)->W (fuel+1) listed a w)
 (hT:∀ k a w,k<ops.size->T k a w->step k (T (k+1)) a w) (hT0:∀ a w,T ops.size a w->Qn a w)
 (hchk:xk ops nh nt=true) (hct:yK ops nh=true) (hnt:a0.tmps.size=nt) (hC:C w0)
 (h:walkG Sw opw a0 w0 C (T nh) (l.take nh) []):W ops.size (Array.replicate ops.size false) a0 w0:=
 @Pl.gready World (zoB Sw) ops nh a0 w0 C nt l hO opw step W Qn T hstep hmono hW0 hW hT hT0 hchk hct hnt hC (znZ _ _ h)
end
theorem Kg {Sw:Nat->Prop} {P:Program} {id:Nat} {l:List Oper} {Q:Exit->Act->World->Prop} {a:Act} {w:World} (nh nt:Nat) (C:World->Prop) (hm:P.follows .mixedOrders=true)
 (hB:(xk l.toArray nh nt && yK l.toArray nh)=true) (hnt:a.tmps.size=nt) (hC:C w.drew)
 (h:walkG Sw (fun o a w K=>o.wp P a w K Q) a w.drew C (fun a w=>wpList P l.toArray Q (l.drop nh) a w) (l.take nh) []):(Code.region id l.toArray true).wp P Q a w:=by
 rw [Bool.and_eq_true] at hB
 refine wp_region_any hm ?_
 refine gready (ops:=l.toArray) (a0:=a) (w0:=w.drew) (C:=C) rfl (fun o a w K=>o.wp P a w K Q) (wpOp P l.toArray Q) (wpAny P .any l.toArray Q) (fun a w=>Q .normal a w) (fun k a w=>wpList P l.toArray Q (l.drop k) a w)
  ?_ (fun i K K' a w hk hs=>wpOp_mono hk hs) (fun listed a w h1 h2=>⟨h1,h2⟩) (fun fuel listed a w h1 h2=>⟨h1,h2⟩) ?_ ?_ hB.1 hB.2 hnt hC h
 ·intro i o K a w ho hs
  unfold wpOp
  simp only [ho]
  split
  ·rename_i hw;rw [if_pos hw] at hs;exact .inl hs
  ·rename_i hw;rw [if_neg hw] at hs;exact hs
 ·intro k a w hk ht
  have hk':k<l.length:=by simpa using hk
  simp only [List.drop_eq_getElem_cons hk',wpList] at ht
  unfold wpOp
  simp only [List.getElem?_toArray,List.getElem?_eq_getElem hk']
  exact ht
 ·intro a w ht
  simpa [wpList] using ht
theorem Kh {Sw:Nat->Prop} {P:Program} {F:Fence} {n:Nat} (hF:∀ f,F.fn f) {id:Nat} {l:List Oper} {Q:Exit->Act->World->Prop} {a:Act} {w:World} (nh nt:Nat) (C:World->Prop) (hm:P.follows .mixedOrders=true)
 (hB:(xk l.toArray nh nt && yK l.toArray nh)=true) (hnt:a.tmps.size=nt) (hC:C w.drew)
 (h:walkG Sw (fun o a w K=>o.wpIn F n P a w K Q) a w.drew C (fun a w=>wpListIn F n P l.toArray Q (l.drop nh) a w) (l.take nh) []):(Code.region id l.toArray true).wpIn F n P Q a w:=by
 rw [Bool.and_eq_true] at hB
 refine wpIn_region_any hm ?_
 refine gready (ops:=l.toArray) (a0:=a) (w0:=w.drew) (C:=C) rfl (fun o a w K=>o.wpIn F n P a w K Q) (wpOpIn F n P l.toArray Q) (wpAnyIn F n P .any l.toArray Q) (fun a w=>Q .normal a w) (fun k a w=>wpListIn F n P l.toArray Q (l.drop k) a w)
  ?_ (fun i K K' a w hk hs=>wpOpIn_mono hk hs) (fun listed a w h1 h2=>⟨h1,h2⟩) (fun fuel listed a w h1 h2=>⟨h1,h2⟩) ?_ ?_ hB.1 hB.2 hnt hC h
 ·intro i o K a w ho hs
  unfold wpOpIn
  simp only [ho]
  split
  ·rename_i hw;rw [if_pos hw] at hs;exact hs
  ·rename_i hw;rw [if_neg hw] at hs;exact⟨fun f _=>hF f,hs⟩
 ·intro k a w hk ht
  have hk':k<l.length:=by simpa using hk
  simp only [List.drop_eq_getElem_cons hk',wpListIn] at ht
  unfold wpOpIn
  simp only [List.getElem?_toArray,List.getElem?_eq_getElem hk']
  exact ht
 ·intro a w ht
  simpa [wpListIn] using ht
section
variable {Sw:Nat->Prop} {P:Program} {Q:Exit->Act->World->Prop} {a0:Act} {w0:World} {C:World->Prop} {F:Act->World->Prop} {l:List Oper} {o:Oper} {env:List (Option Tmp × VP)}
abbrev xC (P:Program) (Q:Exit->Act->World->Prop):Oper->Act->World->(Act->World->Prop)->Prop:=fun o a w K=>o.wp P a w K Q
abbrev zdw (G:Fence) (n:Nat) (P:Program) (Q:Exit->Act->World->Prop):Oper->Act->World->(Act->World->Prop)->Prop:=fun o a w K=>o.wpIn G n P a w K Q
theorem yj (v:Value):∀(u:Value) (w w':World),(fun(u:Value) (_:World)=>u=v) u w->Keep Sw w w'->(fun(u:Value) (_:World)=>u=v) u w':=fun _ _ _ h _=>h
theorem zG {j:Nat} {d:Option Tmp} {v x:Value} (h:env[j]? = some (d,fun u _=>u=v)) (e:v=x):isV env j x:=by unfold isV;rw [h];exact fun u _ h=>h.trans e
theorem Vc (v:Value) (h:∀ a w,C w->Keep Sw w0 w->Rds env a0 (zA o) a w->(execOp a.eval o).run P w=.ok (.value v) w):headOk Sw (xC P Q) a0 w0 C env o (fun u _=>u=v):=by
 intro a w hc hk hr K hK
 show o.upon P a K Q ((execOp a.eval o).run P w)
 rw [h a w hc hk hr]
 exact hK v w (Keep.refl _ _) hc rfl
theorem Yu {G:Fence} {n:Nat} (hG:∀ f,G.fn f) (v:Value) (h:∀ a w,C w->Keep Sw w0 w->Rds env a0 (zA o) a w->(o.semAt G.round a.eval).run P w=.ok (.value v) w):headOk Sw (zdw G n P Q) a0 w0 C env o (fun u _=>u=v):=by
 intro a w hc hk hr K hK
 refine⟨fun f _=>hG f,?_⟩
 rw [h a w hc hk hr]
 exact hK v w (Keep.refl _ _) hc rfl
theorem zev (v:Value) (hg:o.guard=none) (h:∀ a w,C w->Keep Sw w0 w->Rds env a0 (zA o) a w->(execOp a.eval o).run P w=.ok (.value v) w)
 (hn:walkG Sw (xC P Q) a0 w0 C F l (env++[(o.dst,fun u _=>u=v)])):walkG Sw (xC P Q) a0 w0 C F (o::l) env:=
 ⟨_,yj v,by unfold stepOk;rw [hg];exact Vc v h,hn⟩
theorem V5 {G:Fence} {n:Nat} (hG:∀ f,G.fn f) (v:Value) (hg:o.guard=none) (h:∀ a w,C w->Keep Sw w0 w->Rds env a0 (zA o) a w->(o.semAt G.round a.eval).run P w=.ok (.value v) w)
 (hn:walkG Sw (zdw G n P Q) a0 w0 C F l (env++[(o.dst,fun u _=>u=v)])):walkG Sw (zdw G n P Q) a0 w0 C F (o::l) env:=
 ⟨_,yj v,by unfold stepOk;rw [hg];exact Yu hG v h,hn⟩
theorem V6 {j:Nat} {b:Bool} (hg:o.guard=some (j,b)) (hj:isV env j (.bool b)) (v:Value) (h:∀ a w,C w->Keep Sw w0 w->Rds env a0 (zA o) a w->(execOp a.eval o).run P w=.ok (.value v) w)
 (hn:walkG Sw (xC P Q) a0 w0 C F l (env++[(o.dst,fun u _=>u=v)])):walkG Sw (xC P Q) a0 w0 C F (o::l) env:=
 ⟨_,yj v,by unfold stepOk;rw [hg];exact .inl ⟨hj,Vc v h⟩,hn⟩
theorem QQ {G:Fence} {n:Nat} (hG:∀ f,G.fn f) {j:Nat} {b:Bool} (hg:o.guard=some (j,b)) (hj:isV env j (.bool b)) (v:Value) (h:∀ a w,C w->Keep Sw w0 w->Rds env a0 (zA o) a w->(o.semAt G.round a.eval).run P w=.ok (.value v) w)
 (hn:walkG Sw (zdw G n P Q) a0 w0 C F l (env++[(o.dst,fun u _=>u=v)])):walkG Sw (zdw G n P Q) a0 w0 C F (o::l) env:=
 ⟨_,yj v,by unfold stepOk;rw [hg];exact .inl ⟨hj,Yu hG v h⟩,hn⟩
theorem jI {opw:Oper->Act->World->(Act->World->Prop)->Prop} {j:Nat} {b:Bool} (hg:o.guard=some (j,b)) (hj:isV env j (.bool !b)\/isV env j undef)
 (hn:walkG Sw opw a0 w0 C F l (env++[(o.dst,fun u _=>u=undef)])):walkG Sw opw a0 w0 C F (o::l) env:=
 ⟨_,yj undef,by unfold stepOk;rw [hg];exact .inr ⟨hj,rfl⟩,hn⟩
theorem V7 {opw:Oper->Act->World->(Act->World->Prop)->Prop} (V:VP) (hs:∀ u w w',V u w->Keep Sw w w'->V u w') (hg:o.guard=none)
 (h:headOk Sw opw a0 w0 C env o V) (hn:walkG Sw opw a0 w0 C F l (env++[(o.dst,V)])):walkG Sw opw a0 w0 C F (o::l) env:=
 ⟨V,hs,by unfold stepOk;rw [hg];exact h,hn⟩
theorem zhg {opw:Oper->Act->World->(Act->World->Prop)->Prop} {j:Nat} {b:Bool} (V:VP) (hs:∀ u w w',V u w->Keep Sw w w'->V u w') (hg:o.guard=some (j,b)) (hj:isV env j (.bool b))
 (h:headOk Sw opw a0 w0 C env o V) (hn:walkG Sw opw a0 w0 C F l (env++[(o.dst,V)])):walkG Sw opw a0 w0 C F (o::l) env:=
 ⟨V,hs,by unfold stepOk;rw [hg];exact .inl ⟨hj,h⟩,hn⟩
end
theorem Jz {G G':Prop} (k:G') (e:Hd G'->G:=by
 intro k_
 repeat (first
  | (refine zev ?_ rfl (fun a w hc _ hr=>?_) ?_;rotate_left;(simp [Rds,zA,lk,Op.operands,Call.operands,RdEq] at hr;go_simp;with_reducible rfl);dsimp only [List.nil_append,List.cons_append])
  | (refine jI rfl ?_ ?_;(first | exact .inl (zG rfl rfl) | exact .inr (zG rfl rfl));dsimp only [List.nil_append,List.cons_append])
  | (refine V6 rfl ?_ ?_ (fun a w hc _ hr=>?_) ?_;exact(zG rfl rfl);rotate_left;(simp [Rds,zA,lk,Op.operands,Call.operands,RdEq] at hr;go_simp;with_reducible rfl);dsimp only [List.nil_append,List.cons_append]))
 exact k_.h):G:=e ⟨k⟩
end Go.Proofs.YtopfkkogooocgaaGreat
