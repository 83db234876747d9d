import Derived.Sort.Walk7a
import Derived.Stop.Asserts
import Derived.Laws.Cells
import Derived.Laws.IdiomCopy
import Derived.ChangeAt
import Derived.DataElems
import Derived.Deep.Slices
import Derived.WalkKit
import Derived.ProofKit
import Derived.Lib.SmallJoins
import Derived.Test.YtjimggclhlnfbaaGreatDoorB7
set_option maxHeartbeats 16000000
set_option linter.unusedVariables false
set_option linter.unusedSimpArgs false
set_option maxRecDepth 100000
namespace Go.Proofs.YtjimggclhlnfbaaGreatDoor
open Go.RowKit
abbrev VP:=Value->World->Prop
abbrev qe:Nat->Prop:=fun _=>False
def zJ (ops:Array Oper) (j:Nat):Option Tmp:=(ops[j]?).bind (·.dst)
def edge (ops:Array Oper) (i j:Nat):Bool:=match ops[i]? with | some o=>o.after.any fun e=>Region.binds .any e && e.on == j | none=>false
def zA (o:Oper):List Tmp:=o.op.operands.toList.filterMap fun | .tmp t=>some t | _=>none
def lk:List (Option Tmp × VP)->Tmp->Option VP
 | [],_=>none
 | (d,V)::r,t=>if d=some t then some V else lk r t
def RdEq (a:Act) (t:Tmp) (u:Value):Prop:=a.eval (.tmp t)=u/\a.tmps.getD t undef=u/\a.tmps[t]?.getD undef=u
def Rds (env:List (Option Tmp × VP)) (a0:Act):List Tmp->Act->World->Prop
 | [],_,_=>True
 | t::ts,a,w=>(match lk env t with | some V=>∃ u,RdEq a t u/\V u w | none=>RdEq a t (a0.tmps.getD t undef))/\Rds env a0 ts a w
theorem RdEq.of {a:Act} {t:Tmp} {u:Value} (h:a.tmps.getD t undef=u):RdEq a t u:=⟨h,h,by rw [<-h];simp⟩
def headOk (Sw:Nat->Prop) (opw:Oper->Act->World->(Act->World->Prop)->Prop) (a0:Act) (w0:World) (C:World->Prop) (env:List (Option Tmp × VP)) (o:Oper) (V:VP):Prop:=
 ∀ a w,C w->Keep Sw w0 w->Rds env a0 (zA o) a w->∀ K:Act->World->Prop,(∀ u w',Keep Sw w w'->C w'->V u w'->K (a.put o.dst u) w')->opw o a w K
def isV (env:List (Option Tmp × VP)) (j:Nat) (x:Value):Prop:=match env[j]? with | some (_,V)=>∀ u w,V u w->u=x | none=>False
def stepOk (Sw:Nat->Prop) (opw:Oper->Act->World->(Act->World->Prop)->Prop) (a0:Act) (w0:World) (C:World->Prop) (env:List (Option Tmp × VP)) (o:Oper) (V:VP):Prop:=
 match o.guard with
 | none=>headOk Sw opw a0 w0 C env o V
 | some (j,b)=>(isV env j (.bool b)/\headOk Sw opw a0 w0 C env o V)\/((isV env j (.bool !b)\/isV env j undef)/\V=fun u _=>u=undef)
def finG (F:Act->World->Prop) (w:World):List (Option Tmp × VP)->Act->Prop
 | [],a=>F a w
 | (none,_)::r,a=>finG F w r a
 | (some d,V)::r,a=>∀ u,V u w->finG F w r (a.put (some d) u)
def walkG (Sw:Nat->Prop) (opw:Oper->Act->World->(Act->World->Prop)->Prop) (a0:Act) (w0:World) (C:World->Prop) (F:Act->World->Prop):List Oper->List (Option Tmp × VP)->Prop
 | [],env=>∀ w,C w->Keep Sw w0 w->finG F w env a0
 | o::l,env=>∃ V:VP,(∀ u w w',V u w->Keep Sw w w'->V u w')/\stepOk Sw opw a0 w0 C env o V/\walkG Sw opw a0 w0 C F l (env++[(o.dst,V)])
def XG (ops:Array Oper) (nh:Nat) (t:Tmp):Option Nat:=(List.range nh).find? fun j=>zJ ops j == some t
def yB (ops:Array Oper) (nh i:Nat) (t:Tmp):Bool:=
 match XG ops nh t with
 | some j=>if j<i then edge ops i j else if i<j then edge ops j i else true
 | none=>true
def xk (ops:Array Oper) (nh nt:Nat):Bool:=
 decide (nh<=ops.size) &&
 (List.range nh).all fun i=>
   match ops[i]? with
   | none=>false
   | some o=>((zA o).all (yB ops nh i)) &&
     (match o.guard with | none=>true | some (j,_)=>decide (j<i) && edge ops i j && (zJ ops j).isSome) &&
     (match o.dst with | none=>true | some d=>decide (d<nt) && (List.range nh).all fun j=>decide (j=i) || !(zJ ops j == some d)) &&
     (decide (nh=ops.size) || (List.range (nh+1)).any fun j=>decide (i<j) && edge ops j i)
def yK (ops:Array Oper) (nh:Nat):Bool:=(List.range ops.size).all fun t=>(decide (t<=nh) || edge ops t (t - 1)) && match ops[t]? with | some o=>o.after.all fun e=>!Region.binds .any e || decide (e.on<t) | none=>false
structure GI (Sw:Nat->Prop) (ops:Array Oper) (nh:Nat) (a0:Act) (w0:World) (C:World->Prop) (env:List (Option Tmp × VP)) (listed:Array Bool) (a:Act) (w:World):Prop where
 size:listed.size=ops.size
 closed:∀ i j,listed.getD i false=true->edge ops i j=true->listed.getD j false=true
 heads:∀ i,listed.getD i false=true->i<nh
 c:C w
 keep:Keep Sw w0 w
 vals:∀ j d V,listed.getD j false=true->env[j]? = some (some d,V)->V (a.tmps.getD d undef) w
 rest:∀ t,(∀ j,listed.getD j false=true->zJ ops j≠some t)->a.tmps.getD t undef=a0.tmps.getD t undef
 tsize:a.tmps.size=a0.tmps.size
 defers:a.defers=a0.defers
section
variable {Sw:Nat->Prop} {ops:Array Oper} {nh:Nat} {a0:Act} {w0:World} {C:World->Prop}
theorem Z1 {i j:Nat} {o:Oper} (ho:ops[i]? = some o):edge ops i j=true ↔ ∃ e ∈ o.after,Region.binds .any e=true/\e.on=j:=by
 unfold edge
 simp only [ho]
 rw [Array.any_eq_true']
 constructor
 ·rintro⟨e,he,hb⟩
  simp only [Bool.and_eq_true,beq_iff_eq] at hb
  exact⟨e,he,hb.1,hb.2⟩
 ·rintro⟨e,he,hb,rfl⟩
  exact⟨e,he,by simp [hb]⟩
theorem zx {listed:Array Bool} {i:Nat} (h:listed.getD i true=false):listed.getD i false=false/\i<listed.size:=by
 rcases Nat.lt_or_ge i listed.size with h' | h'
 ·simp [h'] at h ⊢;exact h
 ·simp [Array.getElem?_eq_none h'] at h
theorem zfm {listed:Array Bool} {i:Nat} (h:listed.getD i false=false) (hi:i<listed.size):listed.getD i true=false:=by
 simp [hi] at h ⊢;exact h
theorem zl {listed:Array Bool} {i:Nat} (hi:i<listed.size):(listed.setIfInBounds i true).getD i false=true:=by simp [hi]
theorem zj {listed:Array Bool} {i j:Nat} (h:j≠i):(listed.setIfInBounds i true).getD j false=listed.getD j false:=by
 simp [Array.getElem?_setIfInBounds_ne (Ne.symm h)]
theorem yh {a:Act} {d:Tmp} {u:Value} (h:d<a.tmps.size):(a.put (some d) u).tmps.getD d undef=u:=by simp [Act.put,h]
theorem qn {a:Act} {d t:Tmp} {u:Value} (h:t≠d):(a.put (some d) u).tmps.getD t undef=a.tmps.getD t undef:=by
 simp [Act.put,Array.getElem?_setIfInBounds_ne (Ne.symm h)]
theorem yb {nt i:Nat} (h:xk ops nh nt=true) (hi:i<nh):∃ o,ops[i]? = some o/\(∀ t ∈ zA o,yB ops nh i t=true) /\
 (∀ j b,o.guard=some (j,b)->j<i/\edge ops i j=true/\(zJ ops j).isSome)/\(∀ d,o.dst=some d->d<nt/\∀ j,j<nh->zJ ops j=some d->j=i) /\
 (nh=ops.size\/∃ j,j<=nh/\i<j/\edge ops j i=true):=by
 unfold xk at h
 simp only [Bool.and_eq_true,List.all_eq_true,List.mem_range] at h
 have h:=h.2 i hi
 cases ho:ops[i]? with
 | none=>simp [ho] at h
 | some o=>
   simp only [ho,Bool.and_eq_true,List.all_eq_true,Bool.or_eq_true,decide_eq_true_eq,List.any_eq_true,List.mem_range] at h
   obtain⟨⟨⟨h1,h2⟩,h3⟩,h4⟩:=h
   refine⟨o,rfl,h1,?_,?_,?_⟩
   ·intro j b hg
    simp only [hg,Bool.and_eq_true,decide_eq_true_eq] at h2
    exact⟨h2.1.1,h2.1.2,h2.2⟩
   ·intro d hd
    simp only [hd,Bool.and_eq_true,decide_eq_true_eq,List.all_eq_true,List.mem_range,Bool.or_eq_true,Bool.not_eq_true',beq_eq_false_iff_ne] at h3
    exact⟨h3.1,fun j hj e=>(h3.2 j hj).resolve_right fun hne=>hne e⟩
   ·rcases h4 with h4 | ⟨j,hj,h5,h6⟩
    ·exact .inl h4
    ·exact .inr ⟨j,by omega,h5,h6⟩
theorem lk_some {env:List (Option Tmp × VP)} {t:Tmp} {V:VP} (h:lk env t=some V):∃ j:Nat,env[j]? = some (some t,V):=by
 induction env with
 | nil=>cases h
 | cons x r ih=>
   obtain⟨d,V'⟩:=x
   unfold lk at h
   split at h
   ·rename_i e;cases h;exact⟨0,by simp [e]⟩
   ·obtain⟨j,hj⟩:=ih h;exact⟨j+1,by simpa using hj⟩
theorem lk_none {env:List (Option Tmp × VP)} {t:Tmp} (h:lk env t=none):∀(j:Nat) V,env[j]? ≠ some (some t,V):=by
 induction env with
 | nil=>intro j V;simp
 | cons x r ih=>
   obtain⟨d,V'⟩:=x
   unfold lk at h
   split at h
   ·cases h
   ·rename_i e
    intro j V
    cases j with
    | zero=>simp;intro h1;exact absurd h1 e
    | succ j=>simpa using ih h j V
theorem xf {t:Tmp} {j:Nat} (h:XG ops nh t=some j):j<nh/\zJ ops j=some t:=by
 have h1:=List.find?_some h
 have h2:=List.mem_of_find?_eq_some h
 simp at h1 h2
 exact⟨h2,h1⟩
theorem jw {t:Tmp} {j:Nat} (hj:j<nh) (h:zJ ops j=some t):∃ j',XG ops nh t=some j':=by
 cases hw:XG ops nh t with
 | some j'=>exact⟨j',rfl⟩
 | none=>
   have:=List.find?_eq_none.1 hw j (by simpa using hj)
   simp [h] at this
theorem GI.rds {nt i:Nat} {o:Oper} {env env':List (Option Tmp × VP)} {listed:Array Bool} {a:Act} {w:World} (hg:GI Sw ops nh a0 w0 C env' listed a w) (hchk:xk ops nh nt=true)
 (hi:i<nh) (ho:ops[i]? = some o) (hun:listed.getD i false=false) (hready:∀ j,edge ops i j=true->listed.getD j false=true)
 (hlen:env.length=i) (hpre:∀ j:Nat,j<i->env'[j]? = env[j]?) (hdst:∀(j:Nat) x,env[j]? = some x->zJ ops j=x.1) :
 ∀ ts:List Tmp,(∀ t ∈ ts,yB ops nh i t=true)->Rds env a0 ts a w:=by
 intro ts
 induction ts with
 | nil=>intro _;trivial
 | cons t ts ih=>
   intro hts
   refine⟨?_,ih fun t' h'=>hts t' (by simp [h'])⟩
   have hct:=hts t (by simp)
   unfold yB at hct
   cases hl:lk env t with
   | some V=>
     obtain⟨j,hj⟩:=lk_some hl
     have hji:j<i:=by rw [<-hlen];exact(List.getElem?_eq_some_iff.1 hj).1
     have hdj:=hdst j _ hj
     obtain⟨j',hw⟩:=jw (nh:=nh) (show j<nh by omega) hdj
     obtain⟨w1,w2⟩:=xf hw
     obtain⟨oj,hoj,_,_,hd,_⟩:=yb hchk (show j<nh by omega)
     have:j'=j:=(hd t (by unfold zJ at hdj;rw [hoj] at hdj;exact hdj)).2 j' w1 w2
     subst this
     simp only [hw,if_pos hji] at hct
     have:=hg.vals j' t V (hready j' hct) (by rw [hpre j' hji];exact hj)
     exact⟨_,RdEq.of rfl,this⟩
   | none=>
     refine RdEq.of (hg.rest t fun j hlj hdj=>?_)
     have hjn:=hg.heads j hlj
     obtain⟨j',hw⟩:=jw hjn hdj
     obtain⟨w1,w2⟩:=xf hw
     obtain⟨oj,hoj,_,_,hd,_⟩:=yb hchk hjn
     have:j'=j:=(hd t (by unfold zJ at hdj;rw [hoj] at hdj;exact hdj)).2 j' w1 w2
     subst this
     simp only [hw] at hct
     by_cases h1:j'<i
     ·have hjl:j'<env.length:=by omega
      have:=hdst j' _ (List.getElem?_eq_getElem hjl)
      rw [hdj] at this
      exact lk_none hl j' env[j'].2 (by rw [List.getElem?_eq_getElem hjl];congr 1;exact Prod.ext this.symm rfl)
     ·rw [if_neg h1] at hct
      by_cases h2:i<j'
      ·rw [if_pos h2] at hct
       have:=hg.closed j' i hlj hct
       rw [hun] at this;cases this
      ·have:j'=i:=by omega
       subst this
       rw [hun] at hlj;cases hlj
theorem GI.step {nt i:Nat} {o:Oper} {V:VP} {env:List (Option Tmp × VP)} {listed:Array Bool} {a:Act} {w w':World} {u:Value} (hg:GI Sw ops nh a0 w0 C env listed a w) (hchk:xk ops nh nt=true)
 (hnt:a0.tmps.size=nt) (hi:i<nh) (ho:ops[i]? = some o) (hun:listed.getD i true=false) (hready:∀ j,edge ops i j=true->listed.getD j false=true)
 (hst:∀(j:Nat) d V,env[j]? = some (d,V)->∀ u w w',V u w->Keep Sw w w'->V u w') (hdst:∀(j:Nat) x,env[j]? = some x->zJ ops j=x.1)
 (hV:env[i]? = some (o.dst,V)) (hk:Keep Sw w w') (hc:C w') (hu:V u w'):GI Sw ops nh a0 w0 C env (listed.setIfInBounds i true) (a.put o.dst u) w':=by
 obtain⟨hf,hlt⟩:=zx hun
 have hl:∀ j,(listed.setIfInBounds i true).getD j false=true->j=i\/listed.getD j false=true:=fun j hj=>by
  by_cases e:j=i
  ·exact .inl e
  ·exact .inr (by rwa [zj e] at hj)
 have hl':∀ j,listed.getD j false=true->(listed.setIfInBounds i true).getD j false=true:=fun j hj=>by
  by_cases e:j=i
  ·subst e;exact zl hlt
  ·rwa [zj e]
 obtain⟨o',ho',_,_,hd,_⟩:=yb hchk hi
 obtain rfl:o'=o:=Option.some.inj (ho'.symm.trans ho)
 refine⟨by simp [hg.size],?_,?_,hc,hg.keep.trans hk,?_,?_,?_,?_⟩
 ·intro j k hj he
  rcases hl j hj with rfl | hj
  ·exact hl' _ (hready k he)
  ·exact hl' _ (hg.closed j k hj he)
 ·intro j hj
  rcases hl j hj with rfl | hj
  ·exact hi
  ·exact hg.heads j hj
 ·intro j d V' hj hV'
  have hdj:=hdst j _ hV'
  rcases hl j hj with rfl | hj2
  ·have hVV:=hV.symm.trans hV'
   simp only [Option.some.injEq,Prod.mk.injEq] at hVV
   obtain⟨hd0,rfl⟩:=hVV
   rw [hd0,yh (by rw [hg.tsize,hnt];exact(hd d hd0).1)]
   exact hu
  ·have:=hst j _ _ hV' _ _ _ (hg.vals j d V' hj2 hV') hk
   cases hod:o'.dst with
   | none=>exact this
   | some d'=>
     rw [qn]
     ·exact this
     ·intro e
      subst e
      have hjn:=hg.heads j hj2
      have:=(hd d hod).2 j hjn hdj
      subst this
      rw [hf] at hj2;cases hj2
 ·intro t ht
  cases hod:o'.dst with
  | none=>exact hg.rest t fun j hj=>ht j (hl' j hj)
  | some d'=>
    rw [qn]
    ·exact hg.rest t fun j hj=>ht j (hl' j hj)
    ·intro e
     subst e
     exact ht i (zl hlt) (by unfold zJ;rw [ho];exact hod)
 ·rw [<-hg.tsize];cases o'.dst<;>simp [Act.put]
 ·rw [<-hg.defers];cases o'.dst<;>simp [Act.put]
def fillA (a:Act) (b:Act) (x:Option Tmp × VP):Act:=match x.1 with | none=>b | some d=>b.put (some d) (a.tmps.getD d undef)
theorem finG_fill {F:Act->World->Prop} {w:World} {a:Act}:∀(env:List (Option Tmp × VP)) (b:Act),finG F w env b->(∀ d V,(some d,V) ∈ env->V (a.tmps.getD d undef) w)->F (env.foldl (fillA a) b) w
 | [],_,h,_=>h
 | (none,_)::r,b,h,hv=>finG_fill r b h fun d V hm=>hv d V (by simp [hm])
 | (some d,V)::r,b,h,hv=>finG_fill r _ (h _ (hv d V (by simp))) fun d V hm=>hv d V (by simp [hm])
theorem fill_getD {a:Act} (t:Tmp):∀(env:List (Option Tmp × VP)) (b:Act),t<b.tmps.size->((∃ V,(some t,V) ∈ env)\/b.tmps.getD t undef=a.tmps.getD t undef) ->
 (env.foldl (fillA a) b).tmps.getD t undef=a.tmps.getD t undef
 | [],b,_,h=>h.resolve_left (by rintro⟨V,hV⟩;cases hV)
 | (none,V)::r,b,hs,h=>fill_getD t r b hs (by
     rcases h with⟨V',hV⟩ | h
     ·simp at hV;exact .inl ⟨V',hV⟩
     ·exact .inr h)
 | (some d,V)::r,b,hs,h=>fill_getD t r (b.put (some d) (a.tmps.getD d undef)) (by simpa [Act.put] using hs) (by
     by_cases e:t=d
     ·subst e;exact .inr (yh hs)
     ·rcases h with⟨V',hV⟩ | h
      ·simp [e] at hV;exact .inl ⟨V',hV⟩
      ·exact .inr ((qn e).trans h))
theorem fill_size {a:Act}:∀(env:List (Option Tmp × VP)) (b:Act),(env.foldl (fillA a) b).tmps.size=b.tmps.size/\(env.foldl (fillA a) b).defers=b.defers
 | [],_=>⟨rfl,rfl⟩
 | (none,_)::r,b=>fill_size r b
 | (some d,V)::r,b=>by
   have:=fill_size (a:=a) r (b.put (some d) (a.tmps.getD d undef))
   exact⟨this.1.trans (by simp [Act.put]),this.2.trans (by simp [Act.put])⟩
theorem Act.ext' {a b:Act} (hs:a.tmps.size=b.tmps.size) (hd:a.defers=b.defers) (h:∀ t,t<b.tmps.size->a.tmps.getD t undef=b.tmps.getD t undef):a=b:=by
 obtain⟨ta,da⟩:=a
 obtain⟨tb,db⟩:=b
 simp only at hs hd h
 subst hd
 have:ta=tb:=Array.ext hs fun i h1 h2=>by
  have:=h i h2
  simpa [h1,h2] using this
 rw [this]
theorem GI.fin {F:Act->World->Prop} {env:List (Option Tmp × VP)} {listed:Array Bool} {a:Act} {w:World} (hg:GI Sw ops nh a0 w0 C env listed a w) (hlen:env.length=nh)
 (hdst:∀(j:Nat) x,env[j]? = some x->zJ ops j=x.1) (hall:∀ i,i<nh->listed.getD i false=true)
 (hf:finG F w env a0):F a w:=by
 have h1:=finG_fill (a:=a) env a0 hf fun d V hm=>by
  obtain⟨j,hj⟩:=List.getElem?_of_mem hm
  exact hg.vals j d V (hall j (by rw [<-hlen];exact(List.getElem?_eq_some_iff.1 hj).1)) hj
 have h2:env.foldl (fillA a) a0=a:=by
  obtain⟨s1,s2⟩:=fill_size (a:=a) env a0
  refine Act.ext' (s1.trans hg.tsize.symm) (s2.trans hg.defers.symm) fun t ht=>fill_getD t env a0 (by rw [<-hg.tsize];exact ht) ?_
  by_cases hw:∃ j,listed.getD j false=true/\zJ ops j=some t
  ·obtain⟨j,hj,hd⟩:=hw
   have hjn:=hg.heads j hj
   have hjl:j<env.length:=by omega
   have:=hdst j _ (List.getElem?_eq_getElem hjl)
   rw [hd] at this
   exact .inl ⟨env[j].2,by rw [show (some t,env[j].2)=env[j] from Prod.ext this rfl];exact List.getElem_mem hjl⟩
  ·exact .inr (hg.rest t fun j hj hd=>hw ⟨j,hj,hd⟩).symm
 rwa [h2] at h1
theorem isV_of {env env':List (Option Tmp × VP)} {i j:Nat} {x:Value} (h:isV env j x) (hpre:∀ j:Nat,j<i->env'[j]? = env[j]?) (hj:j<i):isV env' j x:=by
 unfold isV at *
 rw [hpre j hj];exact h
theorem yS {j:Nat} {d:Tmp} {tmps:Array Value} (hd:zJ ops j=some d) (hs:d<tmps.size):yielded ops tmps j=match tmps.getD d undef with | .bool b=>some b | _=>none:=by
 unfold yielded
 unfold zJ at hd
 rw [hd]
 simp only [Option.bind_some,Array.getElem?_eq_getElem hs,Array.getD_eq_getD_getElem?,Option.getD_some]
 split<;>simp_all
theorem qP {t:Nat} (h:yK ops nh=true) (ht:t<ops.size):(t<=nh\/edge ops t (t - 1)=true)/\∀ j,edge ops t j=true->j<t:=by
 unfold yK at h
 rw [List.all_eq_true] at h
 have h:=h t (by simpa using ht)
 simp only [Bool.and_eq_true,Bool.or_eq_true,decide_eq_true_eq] at h
 refine⟨h.1,fun j hj=>?_⟩
 have h2:=h.2
 cases ho:ops[t]? with
 | none=>simp [ho] at h2
 | some o=>
   simp only [ho,Array.all_eq_true'] at h2
   obtain⟨e,he,hb,rfl⟩:=(Z1 ho).1 hj
   have:=h2 e he
   simpa [hb] using this
theorem zo {i:Nat} {listed:Array Bool} (h:i ∈ Region.ready .any ops listed):listed.getD i true=false/\i<ops.size/\(∃ o,ops[i]? = some o)/\∀ j,edge ops i j=true->listed.getD j false=true:=by
 obtain⟨h1,o,ho,h2⟩:=mem_ready.1 h
 refine⟨h1,(Array.getElem?_eq_some_iff.1 ho).1,⟨o,ho⟩,fun j hj=>?_⟩
 obtain⟨e,he,hb,rfl⟩:=(Z1 ho).1 hj
 exact h2 e he hb
theorem zd1 {i:Nat} {listed:Array Bool} {o:Oper} (ho:ops[i]? = some o) (h1:listed.getD i true=false) (h2:∀ j,edge ops i j=true->listed.getD j false=true):i ∈ Region.ready .any ops listed:=
 mem_ready.2 ⟨h1,o,ho,fun e he hb=>h2 _ ((Z1 ho).2 ⟨e,he,hb,rfl⟩)⟩
theorem qh {listed:Array Bool} (hct:yK ops nh=true) (hs:listed.size=ops.size):∀(i:Nat),i<ops.size->listed.getD i false=false->∃ k,k ∈ Region.ready .any ops listed:=by
 intro i
 induction i using Nat.strongRecOn with
 | _ i ih=>
   intro hi hun
   by_cases hall:∀ j,edge ops i j=true->listed.getD j false=true
   ·exact⟨i,zd1 (Array.getElem?_eq_getElem hi) (zfm hun (by omega)) hall⟩
   ·have:∃ j,edge ops i j=true/\listed.getD j false=false:=by
     apply Classical.byContradiction
     intro hn
     refine hall fun j hj=>?_
     cases h:listed.getD j false with
     | true=>rfl
     | false=>exact absurd ⟨j,hj,h⟩ hn
    obtain⟨j,hj,hu⟩:=this
    have:=(qP hct hi).2 j hj
    exact ih j this (by omega) hu
theorem qM:∀(l S:List Nat),l.Nodup->l ⊆ S->l.length<=S.length
 | [],_,_,_=>Nat.zero_le _
 | x::l,S,hn,hs=>by
   have hx:x ∈ S:=hs (by simp)
   have h1:l ⊆ S.erase x:=fun y hy=>(List.mem_erase_of_ne (fun e=>(List.nodup_cons.1 hn).1 (by rw [<-e];exact hy))).2 (hs (by simp [hy]))
   have:=qM l (S.erase x) (List.nodup_cons.1 hn).2 h1
   rw [List.length_erase_of_mem hx] at this
   have:=List.length_pos_of_mem hx
   simp;omega
theorem gcore {nt:Nat} (opw:Oper->Act->World->(Act->World->Prop)->Prop) (step:Nat->(Act->World->Prop)->Act->World->Prop) (W:Nat->Array Bool->Act->World->Prop) (Qn:Act->World->Prop) (T:Nat->Act->World->Prop)
 (hstep:∀ i o K a w,ops[i]? = some o->(if Region.wanted o (yielded ops a.tmps) then opw o a w K else K (a.put o.dst undef) w)->step i K a w)
 (hmono:∀ i K K' a w,(∀ a w,K a w->K' a w)->step i K a w->step i K' a w)
 (hW0:∀ listed a w,Region.ready .any ops listed=[]->Qn a w->W 0 listed a w)
 (hW:∀ fuel listed a w,(Region.ready .any ops listed=[]->Qn a w)->(∀ i ∈ Region.ready .any ops listed,step i (W fuel (listed.setIfInBounds i true)) a w)->W (fuel+1) listed a w)
 (hT:∀ k a w,k<ops.size->T k a w->step k (T (k+1)) a w) (hT0:∀ a w,T ops.size a w->Qn a w)
 (hchk:xk ops nh nt=true) (hct:yK ops nh=true) (hnh:nh<=ops.size) (hnt:a0.tmps.size=nt) (env:List (Option Tmp × VP)) (hlen:env.length=nh)
 (hst:∀(j:Nat) d V,env[j]? = some (d,V)->∀ u w w',V u w->Keep Sw w w'->V u w') (hdst:∀(j:Nat) x,env[j]? = some x->zJ ops j=x.1)
 (hok:∀(i:Nat) o V,ops[i]? = some o->env[i]? = some (o.dst,V)->stepOk Sw opw a0 w0 C (env.take i) o V)
 (hfin:∀ w,C w->Keep Sw w0 w->finG (T nh) w env a0) :
 ∀(fuel:Nat) (listed:Array Bool) (a:Act) (w:World) (S:List Nat),GI Sw ops nh a0 w0 C env listed a w->(∀ i,i<ops.size->listed.getD i false=false->i ∈ S)->S.length<=fuel->W fuel listed a w:=by
 -- the tail
 have tail:∀(fuel k:Nat) (listed:Array Bool) (a:Act) (w:World),listed.size=ops.size->(∀ i,listed.getD i false=true ↔ i<k)->nh<=k->k<=ops.size->ops.size - k<=fuel->T k a w->W fuel listed a w:=by
  intro fuel
  induction fuel with
  | zero=>
    intro k listed a w hs hl _ hk hf ht
    obtain rfl:k=ops.size:=by omega
    refine hW0 _ _ _ ?_ (hT0 _ _ ht)
    refine List.eq_nil_iff_forall_not_mem.2 fun i hi=>?_
    obtain⟨h1,h2,_⟩:=zo hi
    have:=(zx h1).1
    rw [(hl i).2 h2] at this;cases this
  | succ fuel ih=>
    intro k listed a w hs hl hn hk hf ht
    by_cases hkk:k=ops.size
    ·subst hkk
     have hnil:Region.ready .any ops listed=[]:=List.eq_nil_iff_forall_not_mem.2 fun i hi=>by
      obtain⟨h1,h2,_⟩:=zo hi
      have:=(zx h1).1
      rw [(hl i).2 h2] at this;cases this
     exact hW _ _ _ _ (fun _=>hT0 _ _ ht) fun i hi=>by rw [hnil] at hi;cases hi
    ·refine hW _ _ _ _ (fun h0=>?_) fun i hi=>?_
     ·exfalso
      have hu:listed.getD k false=false:=by
       cases h:listed.getD k false with
       | false=>rfl
       | true=>have:=(hl k).1 h;omega
      obtain⟨j,hj⟩:=qh hct hs k (by omega) hu
      rw [h0] at hj;cases hj
     ·obtain⟨h1,h2,_,h3⟩:=zo hi
      have hik:¬ i<k:=fun h=>by have:=(zx h1).1;rw [(hl i).2 h] at this;cases this
      have:i=k:=by
       rcases (qP hct h2).1 with h | h
       ·omega
       ·have:=(hl _).1 (h3 _ h);omega
      subst this
      refine hmono _ _ _ _ _ (fun a' w' ht'=>ih (i+1) _ _ _ (by simp [hs]) (fun j=>?_) (by omega) (by omega) (by omega) ht') (hT i a w h2 ht)
      by_cases e:j=i
      ·subst e;simp [zl (zx h1).2]
      ·rw [zj e,hl];omega
 intro fuel
 have sink:∀(listed:Array Bool) (a:Act) (w:World),GI Sw ops nh a0 w0 C env listed a w->nh ∈ Region.ready .any ops listed->∀(n i:Nat),nh - i=n->i<nh->listed.getD i false=true:=by
  intro listed a w hg hr n
  obtain⟨h1,h2,_,h3⟩:=zo hr
  induction n using Nat.strongRecOn with
  | _ n ih=>
    intro i hn hi
    obtain⟨_,_,_,_,_,h4⟩:=yb hchk hi
    rcases h4 with h4 | ⟨j,hj,hij,he⟩
    ·omega
    ·by_cases e:j=nh
     ·subst e;exact h3 i he
     ·exact hg.closed j i (ih (nh - j) (by omega) j rfl (by omega)) he
 have full:∀(fuel:Nat) (listed:Array Bool) (a:Act) (w:World),GI Sw ops nh a0 w0 C env listed a w->(∀ i,i<nh->listed.getD i false=true)->ops.size - nh<=fuel->W fuel listed a w:=by
  intro fuel listed a w hg hall hf
  exact tail fuel nh listed a w hg.size (fun i=>⟨hg.heads i,hall i⟩) (Nat.le_refl _) hnh hf (hg.fin hlen hdst hall (hfin w hg.c hg.keep))
 induction fuel with
 | zero=>
   intro listed a w S hg hS hf
   have hall:∀ i,i<ops.size->listed.getD i false=true:=fun i hi=>by
    cases h:listed.getD i false with
    | true=>rfl
    | false=>have:=hS i hi h;rw [List.eq_nil_of_length_eq_zero (by omega:S.length=0)] at this;cases this
   have:nh=ops.size:=by
    apply Classical.byContradiction
    intro hne
    have:=hg.heads nh (hall nh (by omega));omega
   exact full 0 listed a w hg (fun i hi=>hall i (by omega)) (by omega)
 | succ fuel ih=>
   intro listed a w S hg hS hf
   by_cases hall:∀ i,i<nh->listed.getD i false=true
   ·-- all of the head has come
    refine full _ listed a w hg hall ?_
    have hsub:(List.range' nh (ops.size - nh)) ⊆ S:=fun i hi=>by
     simp only [List.mem_range'_1] at hi
     refine hS i (by omega) ?_
     cases h:listed.getD i false with
     | false=>rfl
     | true=>have:=hg.heads i h;omega
    have hnd:(List.range' nh (ops.size - nh)).Nodup:=List.nodup_range'
    have:=qM _ _ hnd hsub
    simp at this
    omega
   ·have hun:∃ i,i<nh/\listed.getD i false=false:=by
     apply Classical.byContradiction
     intro hn
     refine hall fun i hi=>?_
     cases h:listed.getD i false with
     | true=>rfl
     | false=>exact absurd ⟨i,hi,h⟩ hn
    refine hW _ _ _ _ (fun h0=>?_) fun i hi=>?_
    ·exfalso
     obtain⟨i,hi,hu⟩:=hun
     obtain⟨j,hj⟩:=qh hct hg.size i (by omega) hu
     rw [h0] at hj;cases hj
    ·obtain⟨h1,h2,⟨o,ho⟩,h3⟩:=zo hi
     have hin:i<nh:=by
      apply Classical.byContradiction
      intro hge
      have hnn:i=nh:=by
       rcases (qP hct h2).1 with h | h
       ·omega
       ·have:=hg.heads _ (h3 _ h);omega
      subst hnn
      obtain⟨j,hj,hu⟩:=hun
      rw [sink listed a w hg hi _ j rfl hj] at hu;cases hu
     obtain⟨o',ho',hrd,hgd,_,_⟩:=yb hchk hin
     obtain rfl:o'=o:=Option.some.inj (ho'.symm.trans ho)
     have hil:i<env.length:=by omega
     have hei:env[i]? = some (o'.dst,env[i].2):=by
      have:=hdst i _ (List.getElem?_eq_getElem hil)
      unfold zJ at this
      rw [ho] at this
      rw [List.getElem?_eq_getElem hil]
      exact congrArg some (Prod.ext this.symm rfl)
     have hpre:∀ j:Nat,j<i->env[j]? = (env.take i)[j]?:=fun j hj=>by rw [List.getElem?_take,if_pos hj]
     have hrds:=hg.rds (env:=env.take i) hchk hin ho (zx h1).1 h3 (by simp;omega) hpre (fun j x hx=>hdst j x (by rw [List.getElem?_take] at hx;split at hx;exact hx;cases hx)) (zA o') hrd
     have hsk:=hok i o' _ ho hei
     have hgo:∀ u w',Keep Sw w w'->C w'->env[i].2 u w'->W fuel (listed.setIfInBounds i true) (a.put o'.dst u) w':=fun u w' hk hc hu=>
      ih _ _ _ (S.erase i) (hg.step hchk hnt hin ho h1 h3 hst hdst hei hk hc hu) (fun j hj hu'=>by
       have hji:j≠i:=fun e=>by subst e;rw [zl (zx h1).2] at hu';cases hu'
       rw [zj hji] at hu'
       exact(List.mem_erase_of_ne hji).2 (hS j hj hu')) (by rw [List.length_erase_of_mem (hS i h2 (zx h1).1)];omega)
     refine hstep i o' _ a w ho ?_
     unfold stepOk at hsk
     cases hgu:o'.guard with
     | none=>
       simp only [hgu] at hsk
       rw [if_pos (by simp [Region.wanted,hgu])]
       exact hsk a w hg.c hg.keep hrds _ hgo
     | some jb=>
       obtain⟨j,b⟩:=jb
       simp only [hgu] at hsk
       obtain⟨hji,hje,hjd⟩:=hgd j b hgu
       obtain⟨d,hd⟩:=Option.isSome_iff_exists.1 hjd
       have hjl:j<env.length:=by omega
       have hej:=hdst j _ (List.getElem?_eq_getElem hjl)
       rw [hd] at hej
       have hvj:=hg.vals j d env[j].2 (h3 j hje) (by rw [List.getElem?_eq_getElem hjl];exact congrArg some (Prod.ext hej.symm rfl))
       obtain⟨oj,hoj,_,_,hdj,_⟩:=yb hchk (show j<nh by omega)
       have hds:d<a.tmps.size:=by rw [hg.tsize,hnt];exact(hdj d (by unfold zJ at hd;rw [hoj] at hd;exact hd)).1
       have hy:=yS (tmps:=a.tmps) hd hds
       have hval:∀ x,isV (env.take i) j x->a.tmps.getD d undef=x:=fun x hx=>by
        have:=isV_of hx hpre hji
        unfold isV at this
        rw [List.getElem?_eq_getElem hjl] at this
        exact this _ _ hvj
       rcases hsk with⟨hx,hh⟩ | ⟨hx,hVu⟩
       ·have:=hval _ hx
        rw [this] at hy
        rw [if_pos (by simp [Region.wanted,hgu,hy])]
        exact hh a w hg.c hg.keep hrds _ hgo
       ·have hyb:yielded ops a.tmps j≠some b:=by
         rcases hx with hx | hx
         ·have:=hval _ hx
          rw [this] at hy
          rw [hy];cases b<;>simp
         ·have:=hval _ hx
          rw [this] at hy
          rw [hy];simp [undef]
        rw [if_neg (by simp [Region.wanted,hgu];exact hyb)]
        exact hgo undef w (Keep.refl _ _) hg.c (by rw [hVu])
theorem walkG_env {opw:Oper->Act->World->(Act->World->Prop)->Prop} {F:Act->World->Prop}:∀(l:List Oper) (env:List (Option Tmp × VP)),walkG Sw opw a0 w0 C F l env ->
 ∃ r:List (Option Tmp × VP),r.length=l.length/\(∀(i:Nat) o,l[i]? = some o->∃ V,r[i]? = some (o.dst,V)/\(∀ u w w',V u w->Keep Sw w w'->V u w')/\stepOk Sw opw a0 w0 C (env++r.take i) o V) /\
  (∀ w,C w->Keep Sw w0 w->finG F w (env++r) a0)
 | [],env,h=>⟨[],rfl,(fun i o ho=>by simp at ho),by rw [List.append_nil];exact h⟩
 | o::l,env,⟨V,hs,hk,hw⟩=>by
   obtain⟨r,h1,h2,h3⟩:=walkG_env l _ hw
   refine⟨(o.dst,V)::r,by simp [h1],fun i o' ho'=>?_,by simpa using h3⟩
   cases i with
   | zero=>
     obtain rfl:o=o':=by simpa using ho'
     exact⟨V,rfl,hs,by simpa using hk⟩
   | succ i=>
     obtain⟨V',g1,g2,g3⟩:=h2 i o' (by simpa using ho')
     exact⟨V',by simpa using g1,g2,by simpa using g3⟩
theorem gready {nt:Nat} {l:List Oper} (hO:ops=l.toArray) (opw:Oper->Act->World->(Act->World->Prop)->Prop) (step:Nat->(Act->World->Prop)->Act->World->Prop) (W:Nat->Array Bool->Act->World->Prop) (Qn:Act->World->Prop) (T:Nat->Act->World->Prop)
 (hstep:∀ i o K a w,ops[i]? = some o->(if Region.wanted o (yielded ops a.tmps) then opw o a w K else K (a.put o.dst undef) w)->step i K a w)
 (hmono:∀ i K K' a w,(∀ a w,K a w->K' a w)->step i K a w->step i K' a w)
 (hW0:∀ listed a w,Region.ready .any ops listed=[]->Qn a w->W 0 listed a w)
 (hW:∀ fuel listed a w,(Region.ready .any ops listed=[]->Qn a w)->(∀ i ∈ Region.ready .any ops listed,step i (W fuel (listed.setIfInBounds i true)) a w)->W (fuel+1) listed a w)
 (hT:∀ k a w,k<ops.size->T k a w->step k (T (k+1)) a w) (hT0:∀ a w,T ops.size a w->Qn a w)
 (hchk:xk ops nh nt=true) (hct:yK ops nh=true) (hnt:a0.tmps.size=nt) (hC:C w0)
 (h:walkG Sw opw a0 w0 C (T nh) (l.take nh) []):W ops.size (Array.replicate ops.size false) a0 w0:=by
 subst hO
 have hnh:nh<=l.toArray.size:=by
  unfold xk at hchk
  simp only [Bool.and_eq_true,decide_eq_true_eq] at hchk
  exact hchk.1
 have hnl:nh<=l.length:=by simpa using hnh
 obtain⟨env,h1,h2,h3⟩:=walkG_env _ _ h
 have hlen:env.length=nh:=by rw [h1];simp;omega
 have get:∀ i:Nat,i<nh->∃ o V,l[i]? = some o/\env[i]? = some (o.dst,V)/\(∀ u w w',V u w->Keep Sw w w'->V u w')/\stepOk Sw opw a0 w0 C (env.take i) o V:=fun i hi=>by
  have hil:i<l.length:=by omega
  obtain⟨V,g⟩:=h2 i l[i] (by rw [List.getElem?_take,if_pos hi];exact List.getElem?_eq_getElem hil)
  exact⟨l[i],V,List.getElem?_eq_getElem hil,by simpa using g⟩
 refine gcore (nt:=nt) opw step W Qn T hstep hmono hW0 hW hT hT0 hchk hct hnh hnt env hlen (fun j d V hj=>?_) (fun j x hj=>?_) (fun i o V ho hV=>?_) (by simpa using h3) _ _ _ _ (List.range l.toArray.size) ?_ (fun i hi _=>by simpa using hi) (by simp)
 ·obtain⟨o,V',g1,g2,g3,g4⟩:=get j (by rw [<-hlen];exact(List.getElem?_eq_some_iff.1 hj).1)
  rw [g2] at hj
  cases hj
  exact g3
 ·obtain⟨o,V',g1,g2,g3,g4⟩:=get j (by rw [<-hlen];exact(List.getElem?_eq_some_iff.1 hj).1)
  rw [g2] at hj
  cases hj
  unfold zJ
  simp [g1]
 ·obtain⟨o',V',g1,g2,g3,g4⟩:=get i (by rw [<-hlen];exact(List.getElem?_eq_some_iff.1 hV).1)
  have e1:o'=o:=by have:l[i]? = some o:=by simpa using ho
                   rw [g1] at this;exact Option.some.inj this
  subst e1
  rw [g2] at hV
  simp only [Option.some.injEq,Prod.mk.injEq,true_and] at hV
  subst hV
  exact g4
 ·have hf:∀ i:Nat,(Array.replicate l.toArray.size false).getD i false=false:=fun i=>by
   simp only [Array.getD_eq_getD_getElem?,Array.getElem?_replicate]
   split<;>rfl
  exact⟨by simp,(fun i j hi=>by rw [hf] at hi;cases hi),(fun i hi=>by rw [hf] at hi;cases hi),hC,Keep.refl _ _,(fun j d V hj=>by rw [hf] at hj;cases hj),fun _ _=>rfl,rfl,rfl⟩
end
theorem Kg {Sw:Nat->Prop} {P:Program} {id:Nat} {l:List Oper} {Q:Exit->Act->World->Prop} {a:Act} {w:World} (nh nt:Nat) (C:World->Prop) (hm:P.follows .mixedOrders=true)
 (hB:(xk l.toArray nh nt && yK l.toArray nh)=true) (hnt:a.tmps.size=nt) (hC:C w.drew)
 (h:walkG Sw (fun o a w K=>o.wp P a w K Q) a w.drew C (fun a w=>wpList P l.toArray Q (l.drop nh) a w) (l.take nh) []):(Code.region id l.toArray true).wp P Q a w:=by
 rw [Bool.and_eq_true] at hB
 refine wp_region_any hm ?_
 refine gready (ops:=l.toArray) (a0:=a) (w0:=w.drew) (C:=C) rfl (fun o a w K=>o.wp P a w K Q) (wpOp P l.toArray Q) (wpAny P .any l.toArray Q) (fun a w=>Q .normal a w) (fun k a w=>wpList P l.toArray Q (l.drop k) a w)
  ?_ (fun i K K' a w hk hs=>wpOp_mono hk hs) (fun listed a w h1 h2=>⟨h1,h2⟩) (fun fuel listed a w h1 h2=>⟨h1,h2⟩) ?_ ?_ hB.1 hB.2 hnt hC h
 ·intro i o K a w ho hs
  unfold wpOp
  simp only [ho]
  split
  ·rename_i hw;rw [if_pos hw] at hs;exact .inl hs
  ·rename_i hw;rw [if_neg hw] at hs;exact hs
 ·intro k a w hk ht
  have hk':k<l.length:=by simpa using hk
  simp only [List.drop_eq_getElem_cons hk',wpList] at ht
  unfold wpOp
  simp only [List.getElem?_toArray,List.getElem?_eq_getElem hk']
  exact ht
 ·intro a w ht
  simpa [wpList] using ht
theorem Kh {Sw:Nat->Prop} {P:Program} {F:Fence} {n:Nat} (hF:∀ f,F.fn f) {id:Nat} {l:List Oper} {Q:Exit->Act->World->Prop} {a:Act} {w:World} (nh nt:Nat) (C:World->Prop) (hm:P.follows .mixedOrders=true)
 (hB:(xk l.toArray nh nt && yK l.toArray nh)=true) (hnt:a.tmps.size=nt) (hC:C w.drew)
 (h:walkG Sw (fun o a w K=>o.wpIn F n P a w K Q) a w.drew C (fun a w=>wpListIn F n P l.toArray Q (l.drop nh) a w) (l.take nh) []):(Code.region id l.toArray true).wpIn F n P Q a w:=by
 rw [Bool.and_eq_true] at hB
 refine wpIn_region_any hm ?_
 refine gready (ops:=l.toArray) (a0:=a) (w0:=w.drew) (C:=C) rfl (fun o a w K=>o.wpIn F n P a w K Q) (wpOpIn F n P l.toArray Q) (wpAnyIn F n P .any l.toArray Q) (fun a w=>Q .normal a w) (fun k a w=>wpListIn F n P l.toArray Q (l.drop k) a w)
  ?_ (fun i K K' a w hk hs=>wpOpIn_mono hk hs) (fun listed a w h1 h2=>⟨h1,h2⟩) (fun fuel listed a w h1 h2=>⟨h1,h2⟩) ?_ ?_ hB.1 hB.2 hnt hC h
 ·intro i o K a w ho hs
  unfold wpOpIn
  simp only [ho]
  split
  ·rename_i hw;rw [if_pos hw] at hs;exact hs
  ·rename_i hw;rw [if_neg hw] at hs;exact⟨fun f _=>hF f,hs⟩
 ·intro k a w hk ht
  have hk':k<l.length:=by simpa using hk
  simp only [List.drop_eq_getElem_cons hk',wpListIn] at ht
  unfold wpOpIn
  simp only [List.getElem?_toArray,List.getElem?_eq_getElem hk']
  exact ht
 ·intro a w ht
  simpa [wpListIn] using ht
section
variable {Sw:Nat->Prop} {P:Program} {Q:Exit->Act->World->Prop} {a0:Act} {w0:World} {C:World->Prop} {F:Act->World->Prop} {l:List Oper} {o:Oper} {env:List (Option Tmp × VP)}
abbrev xC (P:Program) (Q:Exit->Act->World->Prop):Oper->Act->World->(Act->World->Prop)->Prop:=fun o a w K=>o.wp P a w K Q
abbrev zdw (G:Fence) (n:Nat) (P:Program) (Q:Exit->Act->World->Prop):Oper->Act->World->(Act->World->Prop)->Prop:=fun o a w K=>o.wpIn G n P a w K Q
theorem yj (v:Value):∀(u:Value) (w w':World),(fun(u:Value) (_:World)=>u=v) u w->Keep Sw w w'->(fun(u:Value) (_:World)=>u=v) u w':=fun _ _ _ h _=>h
theorem zG {j:Nat} {d:Option Tmp} {v x:Value} (h:env[j]? = some (d,fun u _=>u=v)) (e:v=x):isV env j x:=by unfold isV;rw [h];exact fun u _ h=>h.trans e
theorem Vc (v:Value) (h:∀ a w,C w->Keep Sw w0 w->Rds env a0 (zA o) a w->(execOp a.eval o).run P w=.ok (.value v) w):headOk Sw (xC P Q) a0 w0 C env o (fun u _=>u=v):=by
 intro a w hc hk hr K hK
 show o.upon P a K Q ((execOp a.eval o).run P w)
 rw [h a w hc hk hr]
 exact hK v w (Keep.refl _ _) hc rfl
theorem Yu {G:Fence} {n:Nat} (hG:∀ f,G.fn f) (v:Value) (h:∀ a w,C w->Keep Sw w0 w->Rds env a0 (zA o) a w->(o.semAt G.round a.eval).run P w=.ok (.value v) w):headOk Sw (zdw G n P Q) a0 w0 C env o (fun u _=>u=v):=by
 intro a w hc hk hr K hK
 refine⟨fun f _=>hG f,?_⟩
 rw [h a w hc hk hr]
 exact hK v w (Keep.refl _ _) hc rfl
theorem zev (v:Value) (hg:o.guard=none) (h:∀ a w,C w->Keep Sw w0 w->Rds env a0 (zA o) a w->(execOp a.eval o).run P w=.ok (.value v) w)
 (hn:walkG Sw (xC P Q) a0 w0 C F l (env++[(o.dst,fun u _=>u=v)])):walkG Sw (xC P Q) a0 w0 C F (o::l) env:=
 ⟨_,yj v,by unfold stepOk;rw [hg];exact Vc v h,hn⟩
theorem V5 {G:Fence} {n:Nat} (hG:∀ f,G.fn f) (v:Value) (hg:o.guard=none) (h:∀ a w,C w->Keep Sw w0 w->Rds env a0 (zA o) a w->(o.semAt G.round a.eval).run P w=.ok (.value v) w)
 (hn:walkG Sw (zdw G n P Q) a0 w0 C F l (env++[(o.dst,fun u _=>u=v)])):walkG Sw (zdw G n P Q) a0 w0 C F (o::l) env:=
 ⟨_,yj v,by unfold stepOk;rw [hg];exact Yu hG v h,hn⟩
theorem V6 {j:Nat} {b:Bool} (hg:o.guard=some (j,b)) (hj:isV env j (.bool b)) (v:Value) (h:∀ a w,C w->Keep Sw w0 w->Rds env a0 (zA o) a w->(execOp a.eval o).run P w=.ok (.value v) w)
 (hn:walkG Sw (xC P Q) a0 w0 C F l (env++[(o.dst,fun u _=>u=v)])):walkG Sw (xC P Q) a0 w0 C F (o::l) env:=
 ⟨_,yj v,by unfold stepOk;rw [hg];exact .inl ⟨hj,Vc v h⟩,hn⟩
theorem QQ {G:Fence} {n:Nat} (hG:∀ f,G.fn f) {j:Nat} {b:Bool} (hg:o.guard=some (j,b)) (hj:isV env j (.bool b)) (v:Value) (h:∀ a w,C w->Keep Sw w0 w->Rds env a0 (zA o) a w->(o.semAt G.round a.eval).run P w=.ok (.value v) w)
 (hn:walkG Sw (zdw G n P Q) a0 w0 C F l (env++[(o.dst,fun u _=>u=v)])):walkG Sw (zdw G n P Q) a0 w0 C F (o::l) env:=
 ⟨_,yj v,by unfold stepOk;rw [hg];exact .inl ⟨hj,Yu hG v h⟩,hn⟩
theorem jI {opw:Oper->Act->World->(Act->World->Prop)->Prop} {j:Nat} {b:Bool} (hg:o.guard=some (j,b)) (hj:isV env j (.bool !b)\/isV env j undef)
 (hn:walkG Sw opw a0 w0 C F l (env++[(o.dst,fun u _=>u=undef)])):walkG Sw opw a0 w0 C F (o::l) env:=
 ⟨_,yj undef,by unfold stepOk;rw [hg];exact .inr ⟨hj,rfl⟩,hn⟩
theorem V7 {opw:Oper->Act->World->(Act->World->Prop)->Prop} (V:VP) (hs:∀ u w w',V u w->Keep Sw w w'->V u w') (hg:o.guard=none)
 (h:headOk Sw opw a0 w0 C env o V) (hn:walkG Sw opw a0 w0 C F l (env++[(o.dst,V)])):walkG Sw opw a0 w0 C F (o::l) env:=
 ⟨V,hs,by unfold stepOk;rw [hg];exact h,hn⟩
theorem zhg {opw:Oper->Act->World->(Act->World->Prop)->Prop} {j:Nat} {b:Bool} (V:VP) (hs:∀ u w w',V u w->Keep Sw w w'->V u w') (hg:o.guard=some (j,b)) (hj:isV env j (.bool b))
 (h:headOk Sw opw a0 w0 C env o V) (hn:walkG Sw opw a0 w0 C F l (env++[(o.dst,V)])):walkG Sw opw a0 w0 C F (o::l) env:=
 ⟨V,hs,by unfold stepOk;rw [hg];exact .inl ⟨hj,h⟩,hn⟩
end
structure Hd (p:Prop):Prop where
 h:p
theorem Jz {G G':Prop} (k:G') (e:Hd G'->G:=by
 intro k_
 repeat (first
  | (refine zev ?_ rfl (fun a w hc _ hr=>?_) ?_;rotate_left;(simp [Rds,zA,lk,Op.operands,Call.operands,RdEq] at hr;go_simp;with_reducible rfl);dsimp only [List.nil_append,List.cons_append])
  | (refine jI rfl ?_ ?_;(first | exact .inl (zG rfl rfl) | exact .inr (zG rfl rfl));dsimp only [List.nil_append,List.cons_append])
  | (refine V6 rfl ?_ ?_ (fun a w hc _ hr=>?_) ?_;exact(zG rfl rfl);rotate_left;(simp [Rds,zA,lk,Op.operands,Call.operands,RdEq] at hr;go_simp;with_reducible rfl);dsimp only [List.nil_append,List.cons_append]))
 exact k_.h):G:=e ⟨k⟩
def v7 {α:Type} (P:Program) (gf:Nat) (lb:Array Value) (encs:α->Array Value) (T:Nat->Prop) (Pt:World->World->Prop) (xs:List α) (W:World):Prop:=
 ∀(l:Nat) (J Jx:List α->World->Prop),
  (∀ pre A B,J pre A->Keep T A B->J pre B)->(∀ pre A B,Jx pre A->Keep T A B->Jx pre B) ->
  (∀ pre x W1,J pre W1->pre++[x] <+: xs->YieldAt Fence.wide 7 P l (encs x) W1 fun e W'=>
    (e=.returned (.bool true)/\J (pre++[x]) W'/\Pt W1 W')\/(e=.returned (.bool false)/\Jx (pre++[x]) W')) ->
  J [] W ->
  CallsIn Fence.wide 8 P gf (#[.func (.yield l) #[] #[]]++lb) W fun e W'=>(∃ v,e=.returned v)/\(J xs W'\/∃ pre,pre <+: xs/\Jx pre W')
def zgi {α:Type} (S:World->World->Prop) (I:List α->World->Prop) (Ix:Code->List α->World->Prop) (xs:List α) (W:World):Exit->Act->World->Prop
 | .normal,_,W'=>S W W'/\I xs W'
 | .ret,_,W'=>S W W'/\Ix .ret xs W'
 | .exit id,_,W'=>S W W'/\Ix (.exit id) xs W'
 | .goto t,_,W'=>S W W'/\Ix (.goto t) xs W'
 | .panic _,_,_=>False
 | .outgrown,_,_=>False
theorem Xt {α:Type} {P:Program} {g:Operand} {ps:Array Tmp} {assign body:Code} {Q:Exit->Act->World->Prop} {a:Act} {w:World}
 (gf:Nat) (lb:Array Value) (hg:a.eval g=.func (.func gf) #[] lb) (eg:∀ args w,(callFunc gf args).run P w=.ok (.enter gf args) w)
 (encs:α->Array Value) (hps:∀ x,(encs x).size=ps.size) (T:Nat->Prop) (Pt:World->World->Prop) (xs:List α)
 (hit:∀ W,Keep (fun _=>False) w W->W.heap.size=w.heap.size+2->v7 P gf lb encs T Pt xs W)
 (S:World->World->Prop) (hS1:∀ A B,S A B->∀ k,k=w.heap.size\/k=w.heap.size+1->k<A.heap.size->B.heap[k]? = A.heap[k]?) (hS2:∀ A B,S A B->Pt A B)
 (hPt:∀ A B C,Pt A B->Pt B C->Pt A C) (hPt0:∀ A B,Keep (fun k=>k=w.heap.size+1) A B->(∃ o,A.heap[w.heap.size+1]? = some (.loop o))->Pt A B) (hTD:¬ T w.heap.size/\¬ T (w.heap.size+1))
 (I:List α->World->Prop) (Ix:Code->List α->World->Prop)
 (hI:∀ pre A B,I pre A->Keep (fun k=>T k\/k=w.heap.size\/k=w.heap.size+1) A B->I pre B)
 (hIx:∀ c pre A B,Ix c pre A->Keep (fun k=>T k\/k=w.heap.size\/k=w.heap.size+1) A B->Ix c pre B)
 (h0:I [] w)
 (Ax:List α->α->Act->World->Prop)
 (hAx:∀ pre x a' A B,Ax pre x a' A->Keep (fun k=>k=w.heap.size+1) A B->Ax pre x a' B)
 (hassign:∀ l pre x W,pre++[x] <+: xs->w.heap.size+1<W.heap.size->I pre W ->
   assign.wpIn (Fence.wide.inRound l) 7 P (Exit.then (fun a' W'=>S W W'/\Ax pre x a' W') (fun _ _ _=>False)) { tmps:=(ps.zip (encs x)).foldl (fun t (p,v)=>t.setIfInBounds p v) a.tmps,defers:=[] } W)
 (hbody:∀ l pre x a' W,pre++[x] <+: xs->w.heap.size+1<W.heap.size->Ax pre x a' W->body.wpIn (Fence.wide.inRound l) 7 P (zgi S I Ix (pre++[x]) W) a' W)
 (hdone:∀ W,I xs W->W.heap[w.heap.size]? = some (.deferred (some []))->Q .normal { a with defers:={ target:=.collected w.heap.size,args:=#[] }::a.defers } W)
 (hstop:∀ c pre W,pre <+: xs->Ix c pre W->W.heap[w.heap.size]? = some (.deferred (some []))->c.wpIn Fence.wide 9 P Q { a with defers:={ target:=.collected w.heap.size,args:=#[] }::a.defers } W) :
 (Code.rangeFunc g ps assign body).wpIn Fence.wide 9 P Q a w:=by
 refine wpIn_rangeFunc ?_
 intro fn hfn
 rw [show Fence.wide.round=none from rfl]
 obtain⟨rec,hrec⟩:∃ rec:LoopState->Option Code->Loop,rec=fun st pe=>{ state:=st,pending:=pe,fn,tmps:=a.tmps,params:=ps,assign,body,defers:=w.heap.size }:=⟨_,rfl⟩
 obtain⟨W1,hW1⟩:∃ W1,(w.alloc (.deferred (some []))).alloc (.loop (rec .ready none))=W1:=⟨_,rfl⟩
 have hL1:W1.heap[w.heap.size+1]? = some (.loop (rec .ready none)):=by
  rw [<-hW1];have:=World.alloc_heap_new (w.alloc (.deferred (some []))) (.loop (rec .ready none));rwa [World.size_alloc] at this
 have hK1:W1.heap[w.heap.size]? = some (.deferred (some [])):=by
  rw [<-hW1];exact(Below.heap_alloc _ _ _ (by simp)).trans (World.alloc_heap_new w _)
 have hkw:Keep (fun _=>False) w W1:=by rw [<-hW1];exact((Keep.refl _ _).alloc _).alloc _
 have hsz:W1.heap.size=w.heap.size+2:=by rw [<-hW1];simp
 have hI1:I [] W1:=hI _ _ _ h0 (hkw.mono fun _ _ h=>h.elim)
 refine⟨w.heap.size+1,[{ target:=.collected w.heap.size,args:=#[] }],W1,{ target:=.fn (.func gf) lb,args:=#[.func (.yield (w.heap.size+1)) #[] #[]] },W1,gf,
  #[.func (.yield (w.heap.size+1)) #[] #[]]++lb,W1,?_,?_,?_,?_,fun _=>by omega,?_⟩
 ·rw [<-hW1,hrec];exact run_enterLoop_outer _ _ _ _ _
 ·simp only [resolve,hg]
  simp [go_sem]
 ·intro f' _;trivial
 ·simp [invoke,go_sem,eg]
 ·refine(hit W1 hkw hsz (w.heap.size+1)
   (fun pre W=>I pre W/\W.heap[w.heap.size+1]? = some (.loop (rec .ready none))/\W.heap[w.heap.size]? = some (.deferred (some [])))
   (fun pre W=>∃ c,Ix c pre W/\W.heap[w.heap.size+1]? = some (.loop (rec .done (some c)))/\W.heap[w.heap.size]? = some (.deferred (some [])))
   ?_ ?_ ?_ ⟨hI1,hL1,hK1⟩).mono ?_
  ·rintro pre A B ⟨hi,hl,hk⟩ h
   exact⟨hI _ _ _ hi (h.mono fun _ _ e=>.inl e),h.obj hl hTD.2,h.obj hk hTD.1⟩
  ·rintro pre A B ⟨c,hi,hl,hk⟩ h
   exact⟨c,hIx _ _ _ _ hi (h.mono fun _ _ e=>.inl e),h.obj hl hTD.2,h.obj hk hTD.1⟩
  ·rintro pre x W ⟨hi,hl,hk⟩ hpx
   have hlt:w.heap.size+1<W.heap.size:=(Array.getElem?_eq_some_iff.1 hl).1
   have hy:=run_yield (P:=P) (args:=encs x) hl (by rw [hrec];exact hps x)
   rw [hrec] at hy
   refine⟨fn,_,assign,body,hy,roundIn_of_wpIn hfn (wpIn_mono (hassign _ pre x W hpx hlt hi) ?_)⟩
   intro e a1 Wa he
   cases e with
   | normal=>
     obtain⟨hka,hax⟩:=he
     have hla:Wa.heap[w.heap.size+1]? = some (.loop (rec .ready none)):=(hS1 _ _ hka _ (.inr rfl) hlt).trans hl
     have hda:Wa.heap[w.heap.size]? = some (.deferred (some [])):=(hS1 _ _ hka _ (.inl rfl) (by omega)).trans hk
     have hlta:w.heap.size+1<Wa.heap.size:=(Array.getElem?_eq_some_iff.1 hla).1
     refine⟨_,run_beginRound hla (by rw [hrec]),?_⟩
     obtain⟨W2,hW2⟩:∃ W2,Wa.putObj (w.heap.size+1) (.loop { rec .ready none with state:=.busy })=W2:=⟨_,rfl⟩
     rw [hW2]
     have hk2':Keep (fun k=>k=w.heap.size+1) Wa W2:=by rw [<-hW2];exact(Keep.refl (fun k=>k=w.heap.size+1) Wa).putObj (fun _=>rfl) _
     have hl2:W2.heap[w.heap.size+1]? = some (.loop { rec .ready none with state:=.busy }):=by rw [<-hW2];exact World.putObj_heap_same hlta
     have hd2:W2.heap[w.heap.size]? = some (.deferred (some [])):=hk2'.obj hda (by omega)
     refine wpIn_mono (hbody _ pre x a1 W2 hpx (by rw [<-hW2];simpa using hlta) (hAx _ _ _ _ _ hax hk2')) ?_
     have fin:∀(jump:Option Code) (W3:World),S W2 W3->∃ W4,
      (Instr.endRound (w.heap.size+1) jump).run P W3=.ok (.bool jump.isNone) W4 /\
      W4.heap[w.heap.size+1]? = some (.loop (rec (if jump.isNone then .ready else .done) jump)) /\
      W4.heap[w.heap.size]? = some (.deferred (some []))/\Keep (fun k=>k=w.heap.size+1) W3 W4/\Pt W W4:=fun jump W3 hk3=>by
      have hlt2:w.heap.size+1<W2.heap.size:=(Array.getElem?_eq_some_iff.1 hl2).1
      have hl3:=(hS1 _ _ hk3 _ (.inr rfl) hlt2).trans hl2
      have hd3:=(hS1 _ _ hk3 _ (.inl rfl) (by omega)).trans hd2
      have hr:=run_endRound (P:=P) jump hl3
      rw [hrec] at hr ⊢
      have hl3':=hl3
      rw [hrec] at hl3'
      refine⟨_,hr,World.putObj_heap_same (Array.getElem?_eq_some_iff.1 hl3).1,(World.putObj_heap_other (by omega)).trans hd3,(Keep.refl (fun k=>k=w.heap.size+1) W3).putObj (fun _=>rfl) _,?_⟩
      exact hPt _ _ _ (hS2 _ _ hka) (hPt _ _ _ (hPt0 _ _ hk2' ⟨_,hla⟩) (hPt _ _ _ (hS2 _ _ hk3) (hPt0 _ _ ((Keep.refl (fun k=>k=w.heap.size+1) W3).putObj (fun _=>rfl) _) ⟨_,hl3⟩)))
     rintro e a3 W3 hp
     cases e with
     | normal=>
       obtain⟨hk3,hi3⟩:=hp
       obtain⟨W4,hr,hl4,hd4,hk4,hall⟩:=fin none W3 hk3
       exact⟨_,_,hr,.inl ⟨rfl,⟨hI _ _ _ hi3 (hk4.mono fun _ _ e=>.inr (.inr e)),hl4,hd4⟩,hall⟩⟩
     | ret=>
       obtain⟨hk3,hi3⟩:=hp
       obtain⟨W4,hr,hl4,hd4,hk4,hall⟩:=fin (some .ret) W3 hk3
       exact⟨_,_,hr,.inr ⟨rfl,.ret,hIx _ _ _ _ hi3 (hk4.mono fun _ _ e=>.inr (.inr e)),hl4,hd4⟩⟩
     | exit id=>
       obtain⟨hk3,hi3⟩:=hp
       obtain⟨W4,hr,hl4,hd4,hk4,hall⟩:=fin (some (.exit id)) W3 hk3
       exact⟨_,_,hr,.inr ⟨rfl,.exit id,hIx _ _ _ _ hi3 (hk4.mono fun _ _ e=>.inr (.inr e)),hl4,hd4⟩⟩
     | goto t=>
       obtain⟨hk3,hi3⟩:=hp
       obtain⟨W4,hr,hl4,hd4,hk4,hall⟩:=fin (some (.goto t)) W3 hk3
       exact⟨_,_,hr,.inr ⟨rfl,.goto t,hIx _ _ _ _ hi3 (hk4.mono fun _ _ e=>.inr (.inr e)),hl4,hd4⟩⟩
     | panic ch=>exact hp.elim
     | outgrown=>exact hp.elim
   | ret=>exact he.elim
   | exit id=>exact he.elim
   | goto t=>exact he.elim
   | panic ch=>exact he.elim
   | outgrown=>exact he.elim
  ·rintro e W2 ⟨⟨v,rfl⟩,(⟨hi,hl,hk⟩ | ⟨pre,hpre,c,hi,hl,hk⟩)⟩
   ·have hr:=run_endLoop (P:=P) hl (by rw [hrec];simp)
    refine⟨none,_,by rw [hrec] at hr;exact hr,hdone _ (hI _ _ _ hi ((Keep.refl _ _).putObj (fun _=>.inr (.inr rfl)) _)) ((World.putObj_heap_other (by omega)).trans hk)⟩
   ·have hr:=run_endLoop (P:=P) hl (by rw [hrec];simp)
    refine⟨some c,_,by rw [hrec] at hr;exact hr,hstop c pre _ hpre (hIx _ _ _ _ hi ((Keep.refl _ _).putObj (fun _=>.inr (.inr rfl)) _)) ((World.putObj_heap_other (by omega)).trans hk)⟩
end Go.Proofs.YtjimggclhlnfbaaGreatDoor
namespace Go.Proofs.YtjimggclhlnfbaaGreatDoor
open Go.RowKit Go.Sort
abbrev zg:Int->Value:=Value.int .u64
theorem Zb (x:Int) (w:World):Calls Tryz.prog 182 #[.int .u64 x] w fun e w'=>e=.returned (.bool false)/\w'=w:=by
 go_enter Tryz.func182,Tryz.ntmps182
 go_wp2
 go_ret
 exact⟨by simp,rfl⟩
theorem za (x y:Int) (w:World):Calls Tryz.prog 212 #[.int .u64 x,.int .u64 y] w fun e w'=>e=.returned (.bool (Sort.ltInt x y))/\w'=w:=by
 go_enter Tryz.func212,Tryz.ntmps212
 go_wp2_with (go_at_call 182;refine(Zb _ _).mono ?_;rintro e w' ⟨rfl,rfl⟩)
 go_ret
 exact⟨rfl,rfl⟩
theorem Zd (rb ro X:Nat) (hX:X<18446744073709551616) (w:World) (hc:w.cell? ⟨rb,ro,none⟩=some (.int .u64 X)) (hf:w.frozen? ⟨rb,ro,none⟩=false) :
 Calls Tryz.prog 239 #[.pointer (some ⟨rb,ro,none⟩)] w fun e w'=>e=.returned (.int .u64 (xorNextN X:Nat))/\w'=(w.setCell ⟨rb,ro,none⟩ (.int .u64 (xorNextN X:Nat))).drewN 3:=by
 obtain⟨A,hA⟩:∃ A:Nat,A=X ^^^ (X * 8192 % 18446744073709551616):=⟨_,rfl⟩
 obtain⟨B,hB⟩:∃ B:Nat,B=A ^^^ (A / 128):=⟨_,rfl⟩
 obtain⟨C,hC⟩:∃ C:Nat,C=B ^^^ (B * 131072 % 18446744073709551616):=⟨_,rfl⟩
 have lA:A<18446744073709551616:=by rw [hA];exact Nat.xor_lt_two_pow (n:=64) (by omega) (by omega)
 have lB:B<18446744073709551616:=by rw [hB];exact Nat.xor_lt_two_pow (n:=64) (by omega) (by omega)
 have e1:bits .xor .u64 (X:Int) (IntKind.u64.wrap ((X:Int) * 8192))=(A:Int):=by
  rw [IntKind.wrap_u64,show ((X:Int) * 8192 % 18446744073709551616)=((X * 8192 % 18446744073709551616:Nat):Int) by omega,bits_xor_u64_nat _ _ hX (by omega),hA]
 have e2:bits .xor .u64 (A:Int) ((A:Int) / 128)=(B:Int):=by
  rw [show ((A:Int) / 128)=((A / 128:Nat):Int) by omega,bits_xor_u64_nat _ _ lA (by omega),hB]
 have e3:bits .xor .u64 (B:Int) (IntKind.u64.wrap ((B:Int) * 131072))=(C:Int):=by
  rw [IntKind.wrap_u64,show ((B:Int) * 131072 % 18446744073709551616)=((B * 131072 % 18446744073709551616:Nat):Int) by omega,bits_xor_u64_nat _ _ lB (by omega),hC]
 have hv:xorNextN X=C:=by unfold xorNextN;simp only [];rw [<-hA,<-hB,<-hC]
 rw [hv]
 clear hA hB hC hv
 have hss:∀ v v',(w.setCell ⟨rb,ro,none⟩ v).setCell ⟨rb,ro,none⟩ v'=w.setCell ⟨rb,ro,none⟩ v':=setCell_setCell w rb ro
 go_enter Tryz.func239,Tryz.ntmps239
 go_wp2
 go_region
 all_goals go_wp2
 all_goals go_region
 all_goals go_wp2
 all_goals go_region
 all_goals go_wp2
 go_ret
 exact⟨rfl,rfl⟩
theorem kI (n:Nat) (hn:n<4611686018427387904) (w:World) :
 Calls Tryz.prog 238 #[.int .i64 n] w fun e w'=>e=.returned (.int .u64 ((1 <<< bitsLen n:Nat):Int))/\w'=w:=by
 have hLen:∀ w,Calls Tryz.prog 217 #[.int .u64 (n:Int)] w fun e w'=>e=.returned (.int .i64 (bitsLen n:Nat))/\w'=w:=fun w=>by
  have h:=ZC (n:Int) w (by omega) (by omega)
  rwa [Int.toNat_natCast,bitLen_eq _ (by omega)] at h
 have hk:bitsLen n<=62:=(bitsLen_le_iff n 62).2 (by omega)
 have hp:=wrap_two_pow (bitsLen n) hk
 go_enter Tryz.func238,Tryz.ntmps238
 go_wp2_with (first | (go_at_call 217;refine(hLen _).mono ?_;rintro e w' ⟨rfl,rfl⟩))
 go_ret
 exact⟨rfl,rfl⟩
end Go.Proofs.YtjimggclhlnfbaaGreatDoor
namespace Go.Proofs.YtjimggclhlnfbaaGreatDoor.As
open Go.RowKit Go.Extern.Stop Go.Stop Go.Extern
theorem as_NN (c:Int) (t:Addr) (old:Value) (w:World) (hg:w.cell? ⟨0,0,none⟩=some (.iface 220 (.agg #[.pointer (some ⟨2,44,none⟩)]))) (ht0:w.cell? t=some old) (hf0:w.frozen? t=false) :
 Calls Tryz.prog 101 #[.iface 83 (.int .i64 c),.iface 128 (.pointer (some t))] w fun ev w'=>ev=.returned (.bool true)/\w'=((((w.alloc (.cells #[.pointer (some t)] 128)).alloc (.cells #[.pointer (some ⟨2,128,none⟩),.pointer (some ⟨w.heap.size,0,none⟩),.int .u64 150] 177)).alloc (.cells #[.pointer (some ⟨2,128,none⟩),.pointer (some ⟨w.heap.size,0,none⟩),.int .u64 150] 177)).alloc (.cells #[.int .i64 c] 83)).setCell t (.int .i64 c):=by
 have h6:=@run_callFunc_extern Tryz.prog 152 _ (fun args=>ReflectliteValue.unpack (args.getD 0 (.tuple #[]))) Tryz.func152 (by kernel_rfl) (by kernel_rfl) (by kernel_rfl) (by kernel_rfl)
 have h7:=@run_callFunc_extern Tryz.prog 153 _ (ReflectliteValue.methodAny (ReflectliteValue.valueError "reflectlite.Value.Type" 0) (fun t _ _ _=>ReflectliteType.toType t)) Tryz.func153 (by kernel_rfl) (by kernel_rfl) (by kernel_rfl) (by kernel_rfl)
 have h8:=@run_callFunc_extern Tryz.prog 154 _ (ReflectliteValue.method (ReflectliteValue.valueError "reflectlite.Value.IsNil" 0) ReflectliteValue.isNil) Tryz.func154 (by kernel_rfl) (by kernel_rfl) (by kernel_rfl) (by kernel_rfl)
 have h27:=@run_callFunc_extern Tryz.prog 257 _ (ReflectliteType.abiMethod fun t=>do pure (.int .u8 (<-Rtype.kind t))) Tryz.func257 (by kernel_rfl) (by kernel_rfl) (by kernel_rfl) (by kernel_rfl)
 have h37:=@run_callFunc_extern Tryz.prog 270 _ (ReflectliteType.method ReflectliteType.elem) Tryz.func270 (by kernel_rfl) (by kernel_rfl) (by kernel_rfl) (by kernel_rfl)
 have h38:=@run_callFunc_extern Tryz.prog 271 _ (ReflectliteType.relation "Implements" ReflectliteType.implements_) Tryz.func271 (by kernel_rfl) (by kernel_rfl) (by kernel_rfl) (by kernel_rfl)
 have h10:=@run_callFunc_extern Tryz.prog 150 _ ReflectliteType.typeOf Tryz.func150 (by kernel_rfl) (by kernel_rfl) (by kernel_rfl) (by kernel_rfl)
 have h35:=@run_callFunc_extern Tryz.prog 268 _ (ReflectliteType.relation "AssignableTo" ReflectliteType.assignableTo) Tryz.func268 (by kernel_rfl) (by kernel_rfl) (by kernel_rfl) (by kernel_rfl)
 have h11:=@run_callFunc_extern Tryz.prog 183 _ (ReflectliteValue.method (ReflectliteValue.valueError "reflectlite.Value.Elem" 0) ReflectliteValue.elem) Tryz.func183 (by kernel_rfl) (by kernel_rfl) (by kernel_rfl) (by kernel_rfl)
 have h12:=@run_callFunc_extern Tryz.prog 184 _ ReflectliteValue.set Tryz.func184 (by kernel_rfl) (by kernel_rfl) (by kernel_rfl) (by kernel_rfl)
 have tO:=typeOfN
 have mA:=methodAssignableTo
 have a25:=assignableN
 have v25:=valueOfN
 have f6:=valueOfNp
 have f7:=typeNp
 have mK:=methodKind
 have mE:=methodElem
 have mI:=methodImplements
 have k27:=kindNp
 have k25:=kindN
 have e27:=elemNp
 have i25:=implementsN
 have n8:=isNilNp ⟨w.heap.size,0,none⟩ t ((w.alloc (.cells #[.pointer (some t)] 128)).alloc (.cells #[.pointer (some ⟨2,128,none⟩),.pointer (some ⟨w.heap.size,0,none⟩),.int .u64 150] 177)) (by simp)
 have hlt:0<w.heap.size:=by
  rcases Nat.eq_zero_or_pos w.heap.size with h0 | h
  ·simp [World.cell?,h0] at hg
  ·exact h
 have hg2:((w.alloc (.cells #[.pointer (some t)] 128)).alloc (.cells #[.pointer (some ⟨2,128,none⟩),.pointer (some ⟨w.heap.size,0,none⟩),.int .u64 150] 177)).cell? ⟨0,0,none⟩=some (.iface 220 (.agg #[.pointer (some ⟨2,44,none⟩)])):=by
  rw [World.cell?_alloc_lt _ _ ⟨0,0,none⟩ (by simp),World.cell?_alloc_lt _ _ ⟨0,0,none⟩ hlt];exact hg
 have htl:t.block<w.heap.size:=by
  rcases Nat.lt_or_ge t.block w.heap.size with h | h
  ·exact h
  ·simp [World.cell?,Array.getElem?_eq_none h] at ht0
 have el:=elemVNp ⟨w.heap.size,0,none⟩ t (((w.alloc (.cells #[.pointer (some t)] 128)).alloc (.cells #[.pointer (some ⟨2,128,none⟩),.pointer (some ⟨w.heap.size,0,none⟩),.int .u64 150] 177)).alloc (.cells #[.pointer (some ⟨2,128,none⟩),.pointer (some ⟨w.heap.size,0,none⟩),.int .u64 150] 177)) (by rw [World.cell?_alloc_lt _ _ ⟨w.heap.size,0,none⟩ (by simp;omega)];simp)
 have st:=setN t ⟨w.heap.size+1+1+1,0,none⟩ c old ((((w.alloc (.cells #[.pointer (some t)] 128)).alloc (.cells #[.pointer (some ⟨2,128,none⟩),.pointer (some ⟨w.heap.size,0,none⟩),.int .u64 150] 177)).alloc (.cells #[.pointer (some ⟨2,128,none⟩),.pointer (some ⟨w.heap.size,0,none⟩),.int .u64 150] 177)).alloc (.cells #[.int .i64 c] 83))
  (by rw [World.cell?_alloc_at _ _ _ _ (by simp)];rfl)
  (by rw [World.cell?_alloc_lt _ _ t (by simp;omega),World.cell?_alloc_lt _ _ t (by simp;omega),World.cell?_alloc_lt _ _ t (by simp;omega),World.cell?_alloc_lt _ _ t htl];exact ht0)
  (by rw [World.frozen?_alloc_old _ _ t (by simp;omega),World.frozen?_alloc_old _ _ t (by simp;omega),World.frozen?_alloc_old _ _ t (by simp;omega),World.frozen?_alloc_old _ _ t (Nat.ne_of_lt htl)];exact hf0)
 go_enter Tryz.func101,Tryz.ntmps101
 go_wp2
 refine wp_loop_rounds 1 ?_
 rw [rounds_succ]
 go_wp2
 go_ret
 exact⟨rfl,rfl⟩
end Go.Proofs.YtjimggclhlnfbaaGreatDoor.As
namespace Go.Proofs.YtjimggclhlnfbaaGreatDoor.As
open Go.RowKit Go.Extern.Stop Go.Stop Go.Extern
end Go.Proofs.YtjimggclhlnfbaaGreatDoor.As
namespace Go.Proofs.YtjimggclhlnfbaaGreatDoor.As
open Go.RowKit Go.Extern.Stop Go.Stop Go.Extern
theorem noAs (v:Value) (xT:TypeId) (w:World):(Instr.typeAssert (.iface 122 v) xT 231 true).run Tryz.prog w=.ok (.tuple #[.nilIface,.bool false]) w:=run_typeAssert_lacksB Tryz.underlying231 (by kernel_rfl) (by kernel_rfl) v xT w
theorem hasUw (v:Value) (xT:TypeId) (w:World):(Instr.typeAssert (.iface 122 v) xT 225 true).run Tryz.prog w=.ok (.tuple #[.iface 122 v,.bool true]) w:=run_typeAssert_hasB Tryz.underlying225 (by kernel_rfl) v xT w
theorem as_FN (c k:Int) (t:Addr) (old:Value) (w:World) (hg:w.cell? ⟨0,0,none⟩=some (.iface 220 (.agg #[.pointer (some ⟨2,44,none⟩)]))) (ht0:w.cell? t=some old) (hf0:w.frozen? t=false) :
 Calls Tryz.prog 101 #[.iface 122 (.agg #[.int .i64 c,.int .i64 k]),.iface 128 (.pointer (some t))] w fun ev w'=>ev=.returned (.bool true)/\w'=(((((w.alloc (.cells #[.pointer (some t)] 128)).alloc (.cells #[.pointer (some ⟨2,128,none⟩),.pointer (some ⟨w.heap.size,0,none⟩),.int .u64 150] 177)).alloc (.cells #[.pointer (some ⟨2,128,none⟩),.pointer (some ⟨w.heap.size,0,none⟩),.int .u64 150] 177)).alloc (.cells #[.int .i64 c,.int .i64 k] 122)).alloc (.cells #[.int .i64 c] 83)).setCell t (.int .i64 c):=by
 have h6:=@run_callFunc_extern Tryz.prog 152 _ (fun args=>ReflectliteValue.unpack (args.getD 0 (.tuple #[]))) Tryz.func152 (by kernel_rfl) (by kernel_rfl) (by kernel_rfl) (by kernel_rfl)
 have h7:=@run_callFunc_extern Tryz.prog 153 _ (ReflectliteValue.methodAny (ReflectliteValue.valueError "reflectlite.Value.Type" 0) (fun t _ _ _=>ReflectliteType.toType t)) Tryz.func153 (by kernel_rfl) (by kernel_rfl) (by kernel_rfl) (by kernel_rfl)
 have h8:=@run_callFunc_extern Tryz.prog 154 _ (ReflectliteValue.method (ReflectliteValue.valueError "reflectlite.Value.IsNil" 0) ReflectliteValue.isNil) Tryz.func154 (by kernel_rfl) (by kernel_rfl) (by kernel_rfl) (by kernel_rfl)
 have h27:=@run_callFunc_extern Tryz.prog 257 _ (ReflectliteType.abiMethod fun t=>do pure (.int .u8 (<-Rtype.kind t))) Tryz.func257 (by kernel_rfl) (by kernel_rfl) (by kernel_rfl) (by kernel_rfl)
 have h37:=@run_callFunc_extern Tryz.prog 270 _ (ReflectliteType.method ReflectliteType.elem) Tryz.func270 (by kernel_rfl) (by kernel_rfl) (by kernel_rfl) (by kernel_rfl)
 have h38:=@run_callFunc_extern Tryz.prog 271 _ (ReflectliteType.relation "Implements" ReflectliteType.implements_) Tryz.func271 (by kernel_rfl) (by kernel_rfl) (by kernel_rfl) (by kernel_rfl)
 have h10:=@run_callFunc_extern Tryz.prog 150 _ ReflectliteType.typeOf Tryz.func150 (by kernel_rfl) (by kernel_rfl) (by kernel_rfl) (by kernel_rfl)
 have h35:=@run_callFunc_extern Tryz.prog 268 _ (ReflectliteType.relation "AssignableTo" ReflectliteType.assignableTo) Tryz.func268 (by kernel_rfl) (by kernel_rfl) (by kernel_rfl) (by kernel_rfl)
 have h11:=@run_callFunc_extern Tryz.prog 183 _ (ReflectliteValue.method (ReflectliteValue.valueError "reflectlite.Value.Elem" 0) ReflectliteValue.elem) Tryz.func183 (by kernel_rfl) (by kernel_rfl) (by kernel_rfl) (by kernel_rfl)
 have h12:=@run_callFunc_extern Tryz.prog 184 _ ReflectliteValue.set Tryz.func184 (by kernel_rfl) (by kernel_rfl) (by kernel_rfl) (by kernel_rfl)
 have tO:=typeOfN
 have tF:=typeOfF
 have aF:=assignableFN
 have mU:=methodUnwrap
 have nA:=noAs
 have hU:=hasUw
 have mA:=methodAssignableTo
 have a25:=assignableN
 have v25:=valueOfN
 have f6:=valueOfNp
 have f7:=typeNp
 have mK:=methodKind
 have mE:=methodElem
 have mI:=methodImplements
 have k27:=kindNp
 have k25:=kindN
 have e27:=elemNp
 have i25:=implementsN
 have n8:=isNilNp ⟨w.heap.size,0,none⟩ t ((w.alloc (.cells #[.pointer (some t)] 128)).alloc (.cells #[.pointer (some ⟨2,128,none⟩),.pointer (some ⟨w.heap.size,0,none⟩),.int .u64 150] 177)) (by simp)
 have hlt:0<w.heap.size:=by
  rcases Nat.eq_zero_or_pos w.heap.size with h0 | h
  ·simp [World.cell?,h0] at hg
  ·exact h
 have hg2:((w.alloc (.cells #[.pointer (some t)] 128)).alloc (.cells #[.pointer (some ⟨2,128,none⟩),.pointer (some ⟨w.heap.size,0,none⟩),.int .u64 150] 177)).cell? ⟨0,0,none⟩=some (.iface 220 (.agg #[.pointer (some ⟨2,44,none⟩)])):=by
  rw [World.cell?_alloc_lt _ _ ⟨0,0,none⟩ (by simp),World.cell?_alloc_lt _ _ ⟨0,0,none⟩ hlt];exact hg
 have htl:t.block<w.heap.size:=by
  rcases Nat.lt_or_ge t.block w.heap.size with h | h
  ·exact h
  ·simp [World.cell?,Array.getElem?_eq_none h] at ht0
 have el:=elemVNp ⟨w.heap.size,0,none⟩ t ((((w.alloc (.cells #[.pointer (some t)] 128)).alloc (.cells #[.pointer (some ⟨2,128,none⟩),.pointer (some ⟨w.heap.size,0,none⟩),.int .u64 150] 177)).alloc (.cells #[.pointer (some ⟨2,128,none⟩),.pointer (some ⟨w.heap.size,0,none⟩),.int .u64 150] 177)).alloc (.cells #[.int .i64 c,.int .i64 k] 122)) (by rw [World.cell?_alloc_lt _ _ ⟨w.heap.size,0,none⟩ (by simp;omega),World.cell?_alloc_lt _ _ ⟨w.heap.size,0,none⟩ (by simp;omega)];simp)
 have st:=setN t ⟨w.heap.size+1+1+1+1,0,none⟩ c old (((((w.alloc (.cells #[.pointer (some t)] 128)).alloc (.cells #[.pointer (some ⟨2,128,none⟩),.pointer (some ⟨w.heap.size,0,none⟩),.int .u64 150] 177)).alloc (.cells #[.pointer (some ⟨2,128,none⟩),.pointer (some ⟨w.heap.size,0,none⟩),.int .u64 150] 177)).alloc (.cells #[.int .i64 c,.int .i64 k] 122)).alloc (.cells #[.int .i64 c] 83))
  (by rw [World.cell?_alloc_at _ _ _ _ (by simp)];rfl)
  (by rw [World.cell?_alloc_lt _ _ t (by simp;omega),World.cell?_alloc_lt _ _ t (by simp;omega),World.cell?_alloc_lt _ _ t (by simp;omega),World.cell?_alloc_lt _ _ t (by simp;omega),World.cell?_alloc_lt _ _ t htl];exact ht0)
  (by rw [World.frozen?_alloc_old _ _ t (by simp;omega),World.frozen?_alloc_old _ _ t (by simp;omega),World.frozen?_alloc_old _ _ t (by simp;omega),World.frozen?_alloc_old _ _ t (by simp;omega),World.frozen?_alloc_old _ _ t (Nat.ne_of_lt htl)];exact hf0)
 go_enter Tryz.func101,Tryz.ntmps101
 go_wp2
 refine wp_loop_rounds 2 ?_
 rw [rounds_succ]
 go_wp2
 rw [rounds_succ]
 go_wp2
 go_ret
 exact⟨rfl,rfl⟩
end Go.Proofs.YtjimggclhlnfbaaGreatDoor.As
namespace Go.Proofs.YtjimggclhlnfbaaGreatDoor
open Go.ChangeShapes Go.WideShapes Go.ChangeAt Go.RowKit Go.Deep
section
variable {H:Type} {enc:TypeId × Value->H} {w:World} {base:Nat} {spare:Nat->Bool} {held:Bool}
instance : Inhabited Iv:=⟨⟨0,0⟩⟩
theorem zgC {n:Int} (h:(Lit.int .u64 n).wf=true):∃ x:Nat,n=x/\x<zk:=by
 simp [Lit.wf,IntKind.min,IntKind.max,IntKind.signed,IntKind.bits] at h
 exact⟨n.toNat,by omega,by rw [zw];omega⟩
theorem kM {t:TypeId} {fuel:Nat} {cs:List Value} {x:DataW H × List MemPlace} (ht:Tryz.prog.underlying t=some (.int .u64)) (h:DataW.trod enc Tryz.prog w base spare held fuel t cs=some x):∃ n:Nat,cs=[.int .u64 n]/\n<zk:=by
 obtain⟨n,rfl,_,hw⟩:=DataW.trod_int ht h
 obtain⟨m,rfl,hm⟩:=zgC hw
 exact⟨m,rfl,hm⟩
theorem zaC (a:Addr) (i:Nat):(a.add i).block=a.block:=by unfold Addr.add;split<;>rfl
theorem Za {α:Type} [Inhabited α] {t e:TypeId} {fuel sz:Nat} {cs:List Value} {x:DataW H × List MemPlace} (rd:World->Nat->Nat->α->Prop) (ht:Tryz.prog.underlying t=some (.slice e)) (hsz:Tryz.prog.cellsOf e=sz)
 (hel:∀(n:Nat) (a:Addr) (cs':List Value) (y:DataW H × List MemPlace),w.cells? base a sz=some cs'->DataW.trod enc Tryz.prog w base spare held n e cs'=some y->a.spot=none/\a.block<w.heap.size/\∃ x,rd w a.block a.off x)
 (h:DataW.trod enc Tryz.prog w base spare held fuel t cs=some x):∃ v l,cs=[v]/\RdSl sz rd 0 w.heap.size w v l:=by
 rcases open_slice ht h with⟨rfl,_⟩ | ⟨a,len,cap,m,n,D,Pl,rfl,hb,hl,hm,hmm,_,hx⟩
 ·exact⟨_,[],rfl,RdSl.nil _ _ (by decide)⟩
 have hlm:len<=m:=by rw [hmm];split<;>omega
 have each:∀ i,i<len->∃ y,(a.add (i * sz)).spot=none/\a.block<w.heap.size/\rd w a.block ((a.add (i * sz)).off) y:=by
  intro i hi
  obtain⟨cs',h1,h2⟩:=hx i (by omega)
  rw [hsz] at h1
  obtain⟨e1,e2,y,e3⟩:=hel _ _ _ _ h1 h2
  rw [zaC] at e2 e3
  exact⟨y,e1,e2,e3⟩
 obtain⟨f,hf⟩:=choose_lt each
 refine⟨_,(List.range len).map f,rfl,some a,cap,by simp,by simpa using hl,hm,fun hne=>?_⟩
 have hpos:0<len:=by
  rcases Nat.eq_zero_or_pos len with h0 | h0
  ·subst h0;simp at hne
  ·exact h0
 obtain⟨b,off,spot⟩:=a
 have hs:spot=none:=by
  have:=(hf 0 hpos).1
  simpa [Addr.add] using this
 subst hs
 refine⟨b,off,rfl,Nat.zero_le _,(hf 0 hpos).2.1,fun i hi=>?_⟩
 have hi':i<len:=by simpa using hi
 have:=(hf i hi').2.2
 have e:((⟨b,off,none⟩:Addr).add (i * sz)).off=off+i * sz:=by unfold Addr.add;split<;>simp_all
 rw [e] at this
 simpa using this
theorem YB {P:Program} {e:TypeId} {f0 f1:Field} {n:Nat} {a:Addr} {cs:List Value} {y:DataW H × List MemPlace} (he:P.underlying e=some (.struct #[f0,f1])) (o0:f0.offset=0) (o1:f1.offset=1) (c0:P.cellsOf f0.type=1) (c1:P.cellsOf f1.type=1)
 (h1:w.cells? base a 2=some cs) (h2:DataW.trod enc P w base spare held n e cs=some y) :
 ∃ v0 v1 k y0 y1,w.cell? a=some v0/\w.cell? (a.add 1)=some v1/\DataW.trod enc P w base spare held k f0.type [v0]=some y0/\DataW.trod enc P w base spare held k f1.type [v1]=some y1:=by
 obtain⟨_,hlen,hcell⟩:=World.cells?_some h1
 obtain⟨xs,k,_,_,_,hxl,hf⟩:=DataW.trod_struct he h2
 match xs,hxl,cs,hlen with
 | [y0,y1],_,[v0,v1],_=>
   have g0:=hf 0 f0 rfl
   have g1:=hf 1 f1 rfl
   simp [o0,o1,c0,c1] at g0 g1
   have e0:=hcell 0 (by omega)
   have e1:=hcell 1 (by omega)
   exact⟨v0,v1,k,y0,y1,by simpa [Addr.add] using e0,by simpa using e1,g0,g1⟩
theorem zfA {n:Nat} {a:Addr} {cs:List Value} {y:DataW H × List MemPlace} (h1:w.cells? base a 2=some cs) (h2:DataW.trod enc Tryz.prog w base spare held n 36 cs=some y):a.spot=none/\a.block<w.heap.size/\∃ s,rdIv w a.block a.off s:=by
 obtain⟨v0,v1,k,y0,y1,e0,e1,g0,g1⟩:=YB Tryz.underlying36 rfl rfl (by kernel_rfl) (by kernel_rfl) h1 h2
 obtain⟨lo,q0,hlo⟩:=kM Tryz.underlying24 g0
 obtain⟨hi,q1,hhi⟩:=kM Tryz.underlying24 g1
 obtain rfl:v0=_:=by simpa using q0
 obtain rfl:v1=_:=by simpa using q1
 obtain⟨b,off,spot⟩:=a
 obtain rfl:spot=none:=World.cell?_spot e0
 exact⟨rfl,World.block_lt_of_cell? _ _ e0,⟨lo,hi⟩,e0,by simpa [Addr.add] using e1,hlo,hhi⟩
theorem ZA {fuel:Nat} {cs:List Value} {x:DataW H × List MemPlace} (h:DataW.trod enc Tryz.prog w base spare held fuel 30 cs=some x):∃ v l,cs=[v]/\RdR 0 w.heap.size w v l:=
 Za rdIv Tryz.underlying30 (by kernel_rfl) (fun _ _ _ _ h1 h2=>zfA h1 h2) h
end
end Go.Proofs.YtjimggclhlnfbaaGreatDoor
namespace Go.Proofs.YtjimggclhlnfbaaGreatDoor
open Go.RowKit
inductive PO where
 | t (i:Nat)
 | c (p:PV)
 | f (f:FuncId)
def PS.ev (s:PS):PO->PV
 | .t i=>s.get i
 | .c p=>p
 | .f f=>.fn (.func f) [] []
def Q6:Value->PV
 | .slice none 0 0=>.sl [] .sh
 | v=>.v v
def ofV:Value->PV
 | .slice none 0 0=>.sl [] .z
 | .agg vs=>if vs.toList.all (·.oneCell') then .agg (vs.toList.map Q6) else .v (.agg vs)
 | v=>.v v
def po:Operand->Option PO
 | .tmp t=>some (.t t)
 | .const v=>some (.c (ofV v))
 | .func f=>some (.f f)
 | .global _=>none
inductive PK where
 | mv (x:PO)
 | bin (op:BinOp) (x y:PO)
 | beq (neg:Bool) (x y:PO)
 | eq2 (neg:Bool) (x y:PO) (n:Nat)
 | nil (neg:Bool) (x:PO)
 | not (x:PO)
 | cv (k:IntKind) (x:PO)
 | fa (x:PO) (off:Nat)
 | ia (x y:PO) (sz:Nat)
 | aa (x y:PO) (n sz:Nat)
 | ix (x y:PO) (n:Nat) (ag:Bool) (sz:Nat)
 | fl (x:PO) (off:Nat) (ag:Bool) (sz:Nat)
 | ld (x:PO) (ag:Bool) (sz:Nat)
 | nc (x:PO)
 | bd (zs:List PV) (ps:List (Nat × Nat × PO))
 | bs (sz:Nat) (ps:List PO)
 | ln (x:PO)
 | ex (x:PO) (i:Nat)
 | mf (f:Fn) (fs cs:List PO)
 | mi (t:TypeId) (x:PO)
 | pk (c x y:PO)
 | sc (x:PO) (lo hi:Option PO) (sz:Nat)
 | ap (x y:PO) (sz bytes:Nat)
 | mm (max:Bool) (x y:PO)
 | ca (f:FuncId) (xs:List PO)
 | cl (f:PO) (xs:List PO)
 | al (zs:List PV)
 | bo (x:PO)
 | st (x y:PO) (sz:Nat)
structure PI where
 d:Option Nat
 g:Option (Nat × Bool)
 k:PK
def Qb:TypeDesc->Bool
 | .struct _=>true
 | .array _ _=>true
 | _=>false
def XH (P:Program) (t:TypeId):Option (Bool × Nat):=(P.info? t).bind fun i=>(P.underlying t).map fun d=>(Qb d,i.size)
def Qu:List Operand->Option (List PO)
 | []=>some []
 | x::r=>(po x).bind fun y=>(Qu r).map fun l=>y::l
def poo:Option Operand->Option (Option PO)
 | none=>some none
 | some x=>(po x).map some
def Qq (P:Program) (fs:Array Field):List (Nat × Operand)->Option (List (Nat × Nat × PO))
 | []=>some []
 | (i,x)::r=>(fs[i]?).bind fun f=>(P.info? f.type).bind fun n=>(po x).bind fun y=>(Qq P fs r).map fun l=>(f.offset,n.size,y)::l
def Qp (sz:Nat):List (Nat × Operand)->Option (List (Nat × Nat × PO))
 | []=>some []
 | (i,x)::r=>(po x).bind fun y=>(Qp sz r).map fun l=>(i * sz,sz,y)::l
def xg (P:Program) (t:TypeId):Option (List PV):=(P.info? t).bind fun i=>i.zero.bind fun z=>if z.cells.toList.all (·.oneCell') then some (z.cells.toList.map Q6) else none
def jX (P:Program) (t:TypeId):Bool:=match P.underlying t with
 | some (.int _)=>true
 | _=>false
def K8 (P:Program):Nat->List Field->Bool
 | _,[]=>true
 | i,f::r=>(f.name != "_") && f.offset == i && jX P f.type && K8 P (i+1) r
def za9 (P:Program) (t:TypeId):Option Nat:=match P.underlying t with
 | some (.struct fs)=>if K8 P 0 fs.toList && !P.stoodInHeld t && !P.eqGuardType P.depth t then some fs.size else none
 | some (.array n e)=>if jX P e && (P.info? e).isSome && P.cellsOf e == 1 && !P.eqGuardType P.depth t then some n else none
 | _=>none
def JL:Operand->Bool
 | .const .nilIface=>true
 | _=>false
def zk3:BinOp->Bool
 | .add | .sub | .mul | .quo | .rem | .eql | .neq | .lss | .leq | .gtr | .geq | .shr=>true
 | _=>false
def zc6 (P:Program) (t:TypeId):Bool:=match P.underlying t with
 | some (.interface _)=>true
 | _=>false
def zh0 (P:Program) (t:TypeId):Bool:=match P.underlying t with
 | some .bool=>true
 | _=>false
def zmS (P:Program) (t:TypeId):Bool:=match P.underlying t with
 | some (.int _)=>true
 | _=>false
def XR (P:Program) (o:Oper):Option PK:=
 match o.op with
 | .move x=>(po x).map .mv
 | .assign x=>(po x).map .mv
 | .pick c a b=>(po c).bind fun c=>(po a).bind fun a=>(po b).map fun b=>.pk c a b
 | .alloc e=>(xg P e).map .al
 | .box _ x=>(po x).map .bo
 | .build t parts=>(xg P t).bind fun zs=>match P.underlying t with
   | some (.struct fs)=>if fs.toList.all (fun f=>(P.info? f.type).isSome) then (Qq P fs parts.toList).map fun ps=>.bd zs ps else none
   | some (.array _ e)=>(P.info? e).bind fun i=>(Qp i.size parts.toList).map fun ps=>.bd zs ps
   | _=>none
 | .buildSlice t n parts=>match P.underlying t with
   | some (.slice e)=>(P.info? e).bind fun i=>(xg P e).bind fun zs=>(Qu (parts.toList.map (·.2))).bind fun ps=>
     if parts.toList.map (·.1)=List.range n/\n * i.size<=16777216/\n<=16777216 then some (.bs i.size ps) else none
   | _=>none
 | .load t a=>(XH P t).bind fun(ag,n)=>if ag || n == 1 then (po a).map fun a=>.ld a ag n else none
 | .store t a v=>(XH P t).bind fun(_,n)=>(po a).bind fun a=>(po v).map fun v=>.st a v n
 | .nilCheck x=>(po x).map .nc
 | .binOp op t x y _=>(po x).bind fun x'=>(po y).bind fun y'=>
   if (op == .eql || op == .neq) && JL y && zc6 P t then some (.nil (op == .neq) x')
   else if (op == .eql || op == .neq) && (za9 P t).isSome then some (.eq2 (op == .neq) x' y' ((za9 P t).getD 0))
   else if (op == .eql || op == .neq) && zh0 P t then some (.beq (op == .neq) x' y')
   else if zk3 op && zmS P t then some (.bin op x' y') else none
 | .unOp .not _ x=>(po x).map .not
 | .convert s t x=>match P.underlying s,P.underlying t with
   | some (.int _),some (.int k)=>(po x).map (.cv k)
   | _,_=>none
 | .makeInterface t x=>match P.underlying t with
   | some (.interface _)=>none
   | some _=>(po x).map (.mi t)
   | none=>none
 | .makeFunc f fs cs=>(Qu fs.toList).bind fun fs=>(Qu cs.toList).map fun cs=>.mf f fs cs
 | .slice t x lo hi none=>match P.underlying t with
   | some (.slice e)=>(P.info? e).bind fun i=>(po x).bind fun x=>(poo lo).bind fun lo=>(poo hi).map fun hi=>.sc x lo hi i.size
   | _=>none
 | .fieldAddr t x f=>match P.underlying t with
   | some (.struct fs)=>(fs[f]?).bind fun fd=>(P.info? fd.type).bind fun i=>if i.size=0 then none else (po x).map fun x=>.fa x fd.offset
   | _=>none
 | .field t x f=>match P.underlying t with
   | some (.struct fs)=>(fs[f]?).bind fun fd=>(XH P fd.type).bind fun(ag,n)=>if ag || n == 1 then (po x).map fun x=>.fl x fd.offset ag n else none
   | _=>none
 | .indexAddr t x y=>match P.underlying t with
   | some (.slice e)=>(P.info? e).bind fun i=>(po x).bind fun x=>(po y).map fun y=>.ia x y i.size
   | some (.array n e)=>(P.info? e).bind fun i=>(po x).bind fun x=>(po y).map fun y=>.aa x y n i.size
   | _=>none
 | .index t x y=>match P.underlying t with
   | some (.array n e)=>(XH P e).bind fun(ag,k)=>if ag || k == 1 then (po x).bind fun x=>(po y).map fun y=>.ix x y n ag k else none
   | _=>none
 | .extract x i=>(po x).map fun x=>.ex x i
 | .call c=>match c.callee,c.args.toList,c.argTypes.toList with
   | .builtin .len,[x],[t]=>match P.underlying t with
     | some (.slice _)=>(po x).map .ln
     | _=>none
   | .builtin .append,[x,y],[t,t']=>match P.underlying t with
     | some (.slice e)=>(P.info? e).bind fun i=>if t=t'/\0<i.size/\0<i.bytes then (xg P e).bind fun zs=>if zs.length=i.size then (po x).bind fun x=>(po y).map fun y=>.ap x y i.size i.bytes else none else none
     | _=>none
   | .builtin .max,[x,y],_=>(po x).bind fun x=>(po y).map fun y=>.mm true x y
   | .builtin .min,[x,y],_=>(po x).bind fun x=>(po y).map fun y=>.mm false x y
   | .value (.func f),xs,_=>(Qu xs).map fun xs=>.ca f xs
   | .value (.tmp t),xs,_=>(Qu xs).map fun xs=>.cl (.t t) xs
   | _,_,_=>none
 | .unOp .neg _ x=>(po x).map fun x'=>.bin .sub (.c (.v (.int .i64 0))) x'
 | _=>none
def Cn (P:Program) (f:FuncId) (ps:List PV) (r:PV):Prop:=
 (∀ args w,(callFunc f args).run P w=.ok (.enter f args) w) /\
 ∀(D:Nat->Nat->Prop) (w:World) (vs:Array Value),GL D w->(∀ b o,D b o->b<w.heap.size)->vs.size=ps.length->(∀(i:Nat) p,ps[i]? = some p->Dat D w (vs.getD i undef) p)->Calls P f vs w fun e w'=>
  ∃ v D',e=.returned v/\Below w.heap.size w w'/\(∀ b o,D b o->D' b o)/\(∀ b o,D' b o->D b o\/w.heap.size<=b)/\(∀ b o,D' b o->b<w'.heap.size)/\Dat D' w' v r/\yW D' (fun k=>w.heap.size<=k) w' v r
def OCn (P:Program) (f:FuncId) (es:List (List PV)) (sz:Nat) (ps:List PV) (rs:List (List PV)):Prop:=
 (∀ args w,(callFunc f args).run P w=.ok (.enter f args) w) /\
 ∀(D:Nat->Nat->Prop) (w:World) (v:Value) (vs:Array Value),GL D w->(∀ b o,D b o->b<w.heap.size)->vs.size=ps.length->(∀(i:Nat) p,ps[i]? = some p->Dat D w (vs.getD i undef) p)->Dat D w v (.sl es .sh)->yW D (fun _=>True) w v (.sl es (.r 0 sz)) ->
  Calls P f (#[v]++vs) w fun e w'=>∃ u D',e=.returned u/\(w'.os=w.os/\w'.tape=w.tape/\w'.output=w.output/\w.heap.size<=w'.heap.size)/\(∀ k,k<w.heap.size->zc v≠some k->w'.heap[k]? = w.heap[k]?) /\
   (∀ b o y,D b o->w.cell? ⟨b,o,none⟩=some y->w'.cell? ⟨b,o,none⟩=some y)/\(∀ b o,D b o->D' b o)/\(∀ b o,D' b o->D b o\/w.heap.size<=b\/zc v=some b)/\(∀ b o,D' b o->b<w'.heap.size) /\
   Dat D' w' u (.sl rs .sh)/\yW D' (fun k=>w.heap.size<=k\/zc v=some k) w' u (.sl rs (.r 0 sz))
def qW (p:PV) (K:List PV->Prop):Prop:=match p with
 | .agg cs=>K cs
 | .v x=>x.oneCell'=true/\K [.v x]
 | .sl es o=>K [.sl es o]
 | .cp cs o=>K [.cp cs o]
 | .bx i o=>K [.bx i o]
 | .fn f fs cs=>K [.fn f fs cs]
 | .ifc t x=>K [.ifc t x]
 | _=>False
def qV (p:PV) (K:Bool->Prop):Prop:=match p with
 | .v (.bool b)=>K b
 | _=>False
def vR (p:PV) (K:IntKind->Int->Prop):Prop:=match p with
 | .v (.int k n)=>K k n
 | _=>False
def QA (p:PV) (K:List (List PV)->Prop):Prop:=match p with
 | .sl es _=>K es
 | _=>False
def qar (k:IntKind) (n:Int) (K:PV->Prop):Prop:=match k with
 | .i64=>(-9223372036854775808<=n/\n<9223372036854775808)/\K (.v (.int .i64 n))
 | k=>K (.v (.int k (k.wrap n)))
def zgm (k:IntKind) (a b:Int):Int:=a.fdiv (2 ^ (min b.toNat k.bits))
def Xo (op:BinOp) (k:IntKind) (a b:Int) (K:PV->Prop):Prop:=match op with
 | .add=>qar k (a+b) K
 | .sub=>qar k (a - b) K
 | .mul=>qar k (a * b) K
 | .quo=>b≠0/\qar k (a.tdiv b) K
 | .rem=>b≠0/\K (.v (.int k (a.tmod b)))
 | .eql=>K (.v (.bool (decide (a=b))))
 | .neq=>K (.v (.bool (!decide (a=b))))
 | .lss=>K (.v (.bool (decide (a<b))))
 | .leq=>K (.v (.bool (decide (a<=b))))
 | .gtr=>K (.v (.bool (decide (b<a))))
 | .geq=>K (.v (.bool (decide (b<=a))))
 | .shr=>0<=b/\K (.v (.int k (zgm k a b)))
 | _=>False
def QB (op:BinOp) (p q:PV) (K:PV->Prop):Prop:=match p,q with
 | .v (.int k a),.v (.int k' b)=>k=k'/\Xo op k a b K
 | _,_=>False
def jy:List PV->List PV->Prop
 | [],[]=>True
 | .v (.int k _)::r,.v (.int k' _)::r'=>k=k'/\jy r r'
 | _,_=>False
def xQ:List PV->List PV->Bool
 | .v (.int _ a)::r,.v (.int _ b)::r'=>decide (a=b) && xQ r r'
 | _,_=>true
def zbz (neg:Bool) (m:Nat) (p q:PV) (K:PV->Prop):Prop:=match p,q with
 | .agg xs,.agg ys=>(xs.length=m/\jy xs ys)/\K (.v (.bool (neg != xQ xs ys)))
 | _,_=>False
def VI (cs:List PV) (o:Nat) (ag:Bool) (n:Nat) (K:PV->Prop):Prop:=match ag with
 | true=>o+n<=cs.length/\K (.agg ((cs.drop o).take n))
 | false=>match cs[o]? with
   | some p=>K p
   | none=>False
def zY (ps:List PV):Bool:=ps.all PV.isD
def XI (zs cs:List PV) (off:Nat):List PV:=zs.take off++cs++zs.drop (off+cs.length)
def vS (s:PS):List (Nat × Nat × PO)->List PV->(List PV->Prop)->Prop
 | [],zs,K=>K zs
 | (off,n,x)::r,zs,K=>qW (s.ev x) fun cs=>cs.length=n/\off+n<=zs.length/\zY cs=true/\vS s r (XI zs (cs.map PV.sh) off) K
def yP (s:PS) (sz:Nat):List PO->(List (List PV)->Prop)->Prop
 | [],K=>K []
 | x::r,K=>qW (s.ev x) fun cs=>cs.length=sz/\zY cs=true/\yP s sz r fun es=>K (cs.map PV.sh::es)
def Xw (lo:Option PO) (p:PV):Ow:=match lo,p with
 | none,.sl _ (.p i)=>.p i
 | _,_=>.sh
def qBd (s:PS) (y:Option PO) (n:Nat) (K:Nat->Prop):Prop:=match y with
 | none=>K n
 | some y=>vR (s.ev y) fun _ n=>0<=n/\K n.toNat
def PK.q (P:Program) (s:PS) (k:PK) (K:PV->Prop):Prop:=match k with
 | .mv x=>match x with
   | .t i=>K ((s.get i).pre i)
   | x=>K (s.ev x).strip
 | .bin op x y=>QB op (s.ev x) (s.ev y) K
 | .beq n x y=>qV (s.ev x) fun a=>qV (s.ev y) fun b=>K (.v (.bool (n != (a == b))))
 | .eq2 n x y m=>zbz n m (s.ev x) (s.ev y) K
 | .nil n x=>match s.ev x with
   | .v .nilIface=>K (.v (.bool (!n)))
   | .ifc _ _=>K (.v (.bool n))
   | _=>False
 | .not x=>qV (s.ev x) fun b=>K (.v (.bool (!b)))
 | .cv k x=>vR (s.ev x) fun _ n=>K (.v (.int k (k.wrap n)))
 | .fa x off=>match s.ev x with
   | .bx i o=>K (.bx i (o+off))
   | .cp cs o=>K (.cp cs (o+off))
   | _=>False
 | .ia x y sz=>QA (s.ev x) fun es=>vR (s.ev y) fun _ n=>0<=n/\match es[n.toNat]? with
   | some e=>e.length=sz/\K (.cp e 0)
   | none=>False
 | .aa x y n sz=>vR (s.ev y) fun _ m=>(0<=m/\m<n)/\match s.ev x with
   | .bx i o=>K (.bx i (o+m.toNat * sz))
   | .cp cs o=>K (.cp cs (o+m.toNat * sz))
   | _=>False
 | .ix x y n ag sz=>vR (s.ev y) fun _ m=>(0<=m/\m<n)/\match s.ev x with
   | .agg cs=>VI cs (m.toNat * sz) ag sz fun p=>K p.strip
   | _=>False
 | .fl x off ag n=>match s.ev x with
   | .agg cs=>VI cs off ag n fun p=>K p.strip
   | _=>False
 | .ld x ag n=>match s.ev x with
   | .cp cs o=>VI cs o ag n fun p=>K p.strip
   | .bx i o=>match s.b[i]? with
     | some cs=>zY ((cs.drop o).take n)=true/\VI cs o ag n fun p=>K p.strip
     | none=>False
   | _=>False
 | .nc x=>match s.ev x with
   | .bx i o=>K (.bx i o)
   | .cp cs o=>K (.cp cs o)
   | _=>False
 | .bd zs ps=>vS s ps zs fun cs=>K (.agg cs)
 | .bs sz ps=>yP s sz ps fun es=>K (.sl es .z)
 | .ln x=>QA (s.ev x) fun es=>K (.v (.int .i64 es.length))
 | .ex x i=>match s.ev x with
   | .tup cs=>match cs[i]? with
     | some p=>K p.strip
     | none=>False
   | _=>False
 | .mf f fs cs=>(fs.all (fun x=>(s.ev x).sh.isD || (s.ev x).sh.isB) && cs.all (fun x=>(s.ev x).sh.isD || (s.ev x).sh.isB))=true/\K (.fn f (fs.map fun x=>(s.ev x).sh) (cs.map fun x=>(s.ev x).sh))
 | .mi t x=>match (s.ev x).isD with
   | true=>K (.ifc t (s.ev x).sh)
   | false=>False
 | .pk c x y=>qV (s.ev c) fun b=>(b=true->K (s.ev x).strip)/\(b=false->K (s.ev y).strip)
 | .sc x lo hi sz=>QA (s.ev x) fun es=>qBd s hi es.length fun h=>qBd s lo 0 fun l=>l<=h/\h<=es.length/\(∀ e ∈ es,e.length=sz)/\K (.sl ((es.take h).drop l) (Xw lo (s.ev x)))
 | .mm m x y=>vR (s.ev x) fun k a=>vR (s.ev y) fun k' b=>k=k'/\K (.v (.int k (if m then (if b > a then b else a) else (if b<a then b else a))))
 | .ca f xs=>∃ r,Cn P f (xs.map fun x=>(s.ev x).sh) r/\zY (xs.map fun x=>(s.ev x).sh)=true/\K r.strip
 | .cl y xs=>match s.ev y with
   | .fn (.func f) fs cs=>∃ r,Cn P f (fs++(xs.map fun x=>(s.ev x).sh)++cs) r/\zY (fs++(xs.map fun x=>(s.ev x).sh)++cs)=true/\K r.strip
   | _=>False
 | .ap x y sz by_=>match s.ev x with
   | .sl es .z=>QA (s.ev y) fun es'=>(∀ e ∈ es,e.length=sz)/\(∀ e ∈ es',e.length=sz)/\(es.length+es'.length) * by_<=140737488355328/\K (.sl (es++es') (.n sz))
   | _=>False
 | _=>False
def yC (y:PO) (p:PV) (cs:List PV):List PV:=match y,p with
 | .t _,.sl es o=>[.sl es o]
 | _,_=>cs.map PV.sh
def apO (es es':List (List PV)) (d sz:Nat):Ow:=match es,es' with
 | _::_,[]=>.sh
 | _,_=>.r d sz
def isT:PO->Bool
 | .t _=>true
 | _=>false
def PV.fz1 (b:List (List PV)):PV->PV
 | .bx i o=>.cp ((b[i]?.getD []).map PV.sh) o
 | p=>p
def PV.fz (b:List (List PV)):PV->PV
 | .fn f fs cs=>.fn f (fs.map (PV.fz1 b)) (cs.map (PV.fz1 b))
 | p=>p.fz1 b
def PS.fz (s:PS):PS:=⟨s.t.map fun y=>(y.1,y.2.fz s.b),[]⟩
def PK.e (P:Program) (k:PK) (d:Option Nat) (s:PS) (K:PS->Prop):Prop:=match k with
 | .mf f fs cs=>if (fs.any fun x=>(s.ev x).isB) || (cs.any fun x=>(s.ev x).isB) then s.b.all zY=true/\PK.q P s.fz (.mf f fs cs) fun p=>K (s.fz.put d p) else PK.q P s (.mf f fs cs) fun p=>K (s.put d p)
 | .mv (.t i)=>K (s.put d (s.get i))
 | .sc x lo hi sz=>PK.q P s (.sc x lo hi sz) fun p=>K (s.put d p.strip)
 | .ld x false 1=>match s.ev x with
   | .bx i o=>match s.b[i]? with
     | some cs=>match cs[o]? with
       | some p=>K (s.put d p)
       | none=>False
     | none=>False
   | _=>PK.q P s (.ld x false 1) fun p=>K (s.put d p)
 | .al zs=>K (PS.put ⟨s.t,s.b++[zs]⟩ d (.bx s.b.length 0))
 | .bs sz ps=>match d with
   | some d=>yP s sz ps fun es=>K (s.put (some d) (.sl es (.r d sz)))
   | none=>PK.q P s (.bs sz ps) fun p=>K (s.put d p)
 | .bo x=>qW (s.ev x) fun cs=>K (PS.put ⟨s.t,s.b++[cs.map PV.sh]⟩ d (.bx s.b.length 0))
 | .st x y sz=>match s.ev x with
   | .bx i o=>match s.b[i]? with
     | some cs=>qW (s.ev y) fun us=>us.length=sz/\o+sz<=cs.length/\K (PS.put ⟨s.t,s.b.set i (XI cs (yC y (s.ev y) us) o)⟩ d (.v undef))
     | none=>False
   | _=>False
 | .ap x y sz by_=>match s.ev x with
   | .sl es (.r n sz')=>sz'=sz/\isT x=true/\QA (s.ev y) fun es'=>(∀ e ∈ es',e.length=sz)/\(es.length+es'.length) * by_<=140737488355328/\K ((s.down n).put d (.sl (es++es') (.r n sz)))
   | .sl es .z=>match d with
     | some d=>QA (s.ev y) fun es'=>(∀ e ∈ es,e.length=sz)/\(∀ e ∈ es',e.length=sz)/\(es.length+es'.length) * by_<=140737488355328/\K (s.put (some d) (.sl (es++es') (apO es es' d sz)))
     | none=>PK.q P s (.ap x y sz by_) fun p=>K (s.put d p.strip)
   | _=>False
 | .ca f xs=>match xs with
   | .t i::xs'=>match s.get i with
     | .sl es (.r n sz)=>(∃ r,Cn P f (xs.map fun x=>(s.ev x).sh) r/\zY (xs.map fun x=>(s.ev x).sh)=true/\K (s.put d r))\/∃ rs,OCn P f es sz (xs'.map fun x=>(s.ev x).sh) rs/\zY (xs'.map fun x=>(s.ev x).sh)=true/\K ((s.down n).put d (.sl rs (.r n sz)))
     | _=>∃ r,Cn P f (xs.map fun x=>(s.ev x).sh) r/\zY (xs.map fun x=>(s.ev x).sh)=true/\K (s.put d r)
   | _=>∃ r,Cn P f (xs.map fun x=>(s.ev x).sh) r/\zY (xs.map fun x=>(s.ev x).sh)=true/\K (s.put d r)
 | k=>k.q P s fun p=>K (s.put d p)
end Go.Proofs.YtjimggclhlnfbaaGreatDoor
