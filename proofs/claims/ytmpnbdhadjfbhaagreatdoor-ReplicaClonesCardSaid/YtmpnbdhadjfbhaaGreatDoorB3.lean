import Derived.Laws.AppendOwn
import Derived.Test.YtmpnbdhadjfbhaaGreatDoorB2
set_option linter.all false
namespace Go.Proofs.YtmpnbdhadjfbhaaGreatDoor
namespace Pl
open Go.RowKit
set_option linter.unusedSectionVars false
abbrev VP(Ω:Type):=Value->Ω->Prop
class Kpo (Ω:Type) where
 kp:Ω->Ω->Prop
 refl:∀w,kp w w
 trans:∀a b c,kp a b->kp b c->kp a c
variable {Ω:Type}[Kpo Ω]
def lk:List (Option Tmp×VP Ω)->Tmp->Option (VP Ω)
 |[],_=>none
 |(d,V)::r,t=>if d=some t then some V else lk r t
def Rds(j:List (Option Tmp×VP Ω))(a0:Act):List Tmp->Act->Ω->Prop
 |[],_,_=>True
 |t::ts,a,w=>(match lk j t with|some V=>∃u,RdEq a t u/\V u w|none=>RdEq a t (a0.tmps.getD t undef))/\Rds j a0 ts a w
def headOk(B:Oper->Act->Ω->(Act->Ω->Prop)->Prop)(a0:Act)(w0:Ω)(C:Ω->Prop)(A:List (Option Tmp×VP Ω))(o:Oper)(V:VP Ω):Prop:=
 ∀a w,C w->Kpo.kp w0 w->Rds A a0 (zA o) a w->∀K:Act->Ω->Prop,(∀u j,Kpo.kp w j->C j->V u j->K (a.put o.dst u) j)->B o a w K
def isV(o:List (Option Tmp×VP Ω))(j:Nat)(x:Value):Prop:=match o[j]? with|some (_,V)=>∀u w,V u w->u=x|none=>False
def stepOk(A:Oper->Act->Ω->(Act->Ω->Prop)->Prop)(a0:Act)(w0:Ω)(C:Ω->Prop)(w:List (Option Tmp×VP Ω))(o:Oper)(V:VP Ω):Prop:=
 match o.guard with
 |none=>headOk A a0 w0 C w o V
 |some (j,b)=>(isV w j (.bool b)/\headOk A a0 w0 C w o V)\/((isV w j (.bool !b)\/isV w j undef)/\V=λu _=>u=undef)
def finG(F:Act->Ω->Prop)(w:Ω):List (Option Tmp×VP Ω)->Act->Prop
 |[],a=>F a w
 |(none,_)::r,a=>finG F w r a
 |(some d,V)::r,a=>∀u,V u w->finG F w r (a.put (some d) u)
def walkG(j:Oper->Act->Ω->(Act->Ω->Prop)->Prop)(a0:Act)(w0:Ω)(C:Ω->Prop)(F:Act->Ω->Prop):List Oper->List (Option Tmp×VP Ω)->Prop
 |[],env=>∀w,C w->Kpo.kp w0 w->finG F w env a0
 |o::l,env=>∃V:VP Ω,(∀u w A,V u w->Kpo.kp w A->V u A)/\stepOk j a0 w0 C env o V/\walkG j a0 w0 C F l (env++[(o.dst,V)])
structure GI(ops:Array Oper)(nh:Nat)(a0:Act)(w0:Ω)(C:Ω->Prop)(env:List (Option Tmp×VP Ω))(listed:Array Bool)(a:Act)(w:Ω):Prop where
 size:listed.size=ops.size
 closed:∀i j,listed.getD i false=true->edge ops i j=true->listed.getD j false=true
 heads:∀i,listed.getD i false=true->i<nh
 c:C w
 keep:Kpo.kp w0 w
 vals:∀j d V,listed.getD j false=true->env[j]?=some (some d,V)->V (a.tmps.getD d undef) w
 rest:∀t,(∀j,listed.getD j false=true->zJ ops j≠some t)->a.tmps.getD t undef=a0.tmps.getD t undef
 tsize:a.tmps.size=a0.tmps.size
 defers:a.defers=a0.defers
section
variable {ops:Array Oper}{nh:Nat}{a0:Act}{w0:Ω}{C:Ω->Prop}
def lk_some{o:List (Option Tmp×VP Ω)}{t:Tmp}{V:VP Ω}(h:lk o t=some V):∃j:Nat,o[j]?=some (some t,V):=by
 induction o with
 |nil=>cases h
 | cons x r ih=>
   obtain⟨d,w⟩:=x;unfold lk at h;split at h
   .rename_i e;cases h;exact⟨0,by simp[e]⟩
   .obtain⟨j,u⟩:=ih h;exact⟨j+1,dK u⟩
def lk_none{o:List (Option Tmp×VP Ω)}{t:Tmp}(h:lk o t=none):∀(j:Nat) V,o[j]?≠some (some t,V):=by
 induction o with
 |nil=>intro j V;simp
 | cons x r ih=>
   obtain⟨d,w⟩:=x;unfold lk at h;split at h
   .cases h
   .rename_i e;intro j V;cases j with
    |zero=>simp;intro u;exact absurd u e
    |succ j=>simpa using ih h j V
def ChkR(ops:Array Oper)(nh u:Nat):Prop:=∀i,i<nh->∃o,ops[i]?=some o/\(∀t∈zA o,yB ops nh i t=true) /\
 (∀j b,o.guard=some (j,b)->j<i/\edge ops i j=true/\(zJ ops j).isSome)/\(∀d,o.dst=some d->d<u/\∀j,j<nh->zJ ops j=some d->j=i)
omit [Kpo Ω] in
def chkR_of{j:Nat}(h:xk ops nh j=true):ChkR ops nh j:=λi hi=>by obtain⟨o,u,w,A,B,_⟩:=chk_at h hi;exact⟨o,u,w,A,B⟩
def GI.rds{nt i:Nat}{o:Oper}{env H:List (Option Tmp×VP Ω)}{A:Array Bool}{a:Act}{w:Ω}(X:GI ops nh a0 w0 C H A a w)(I:ChkR ops nh nt)
 (hi:i<nh) (ho:ops[i]?=some o) (S:A.getD i false=false) (G:∀j,edge ops i j=true->A.getD j false=true)
 (O:env.length=i) (P:∀j:Nat,j<i->H[j]?=env[j]?) (J:∀(j:Nat) x,env[j]?=some x->zJ ops j=x.1) :
 ∀U:List Tmp,(∀t∈U,yB ops nh i t=true)->Rds env a0 U a w:=by
 intro U;induction U with
 |nil=>intro _;trivial
 | cons t U ih=>
   intro Q;refine⟨?_,ih λt' h'=>Q t' (by simp[h'])⟩;have E:=Q t b6;unfold yB at E;cases hl:lk env t with
   |some V=>obtain⟨j,Z⟩:=lk_some hl;have L:j<i:=(by rw[<-O];exact(Zw.1 Z).1);have u:=J j _ Z;obtain⟨B,T⟩:=jw (nh:=nh) (show j<nh by omega) u;obtain⟨w1,w2⟩:=xf T;obtain⟨oj,K,_,_,Y⟩:=I j (show j<nh by omega);have:B=j:=(Y t (by unfold zJ at u;rw[K]at u;exact u)).2 B w1 w2;subst this;simp only[T,Vm L]at E;have:=X.vals B t V (G B E) (by rw[P B L];exact Z);exact⟨_,RdEq.of rfl,this⟩
   | none=>
     refine RdEq.of (X.rest t λj F u=>?_);have N:=X.heads j F;obtain⟨B,T⟩:=jw N u;obtain⟨w1,w2⟩:=xf T;obtain⟨oj,K,_,_,Y⟩:=I _ N;have:B=j:=(Y t (by unfold zJ at u;rw[K]at u;exact u)).2 B w1 w2;subst this;simp only[T]at E;by_cases h1:B<i
     .have M:B<env.length:=a8;have:=J B _ (Zv M);rw[u]at this;exact lk_none hl B env[B].2 (by rw[Zv M];congr 1;exact Uo this.symm rfl)
     .rw[Vq h1]at E;by_cases h2:i<B
      .rw[Vm h2]at E;have:=X.closed B i F E;rw[S]at this;cases this
      .have:B=i:=a8;subst this;rw[S]at F;cases F
def GI.step{nt i:Nat}{o:Oper}{V:VP Ω}{E:List (Option Tmp×VP Ω)}{A:Array Bool}{a:Act}{w K:Ω}{u:Value}(F:GI ops nh a0 w0 C E A a w)(M:ChkR ops nh nt)
 (X:a0.tmps.size=nt) (hi:i<nh) (ho:ops[i]?=some o) (ab:A.getD i true=false) (J:∀j,edge ops i j=true->A.getD j false=true)
 (Z:∀(j:Nat) d V,E[j]?=some (d,V)->∀u w K,V u w->Kpo.kp w K->V u K) (O:∀(j:Nat) x,E[j]?=some x->zJ ops j=x.1)
 (hV:E[i]?=some (o.dst,V)) (hk:Kpo.kp w K) (hc:C K) (hu:V u K):GI ops nh a0 w0 C E (A.setIfInBounds i true) (a.put o.dst u) K:=by
 obtain⟨hf,P⟩:=zx ab;have U:∀j,(A.setIfInBounds i true).getD j false=true->j=i\/A.getD j false=true:=λj B=>by
  by_cases e:j=i
  .exact .inl e
  .exact .inr (by rwa[zj e]at B)
 have I:∀j,A.getD j false=true->(A.setIfInBounds i true).getD j false=true:=λj B=>by
  by_cases e:j=i
  .subst e;exact zl P
  .rwa[zj e]
 obtain⟨Q,Y,_,_,hd⟩:=M _ hi;obtain rfl:Q=o:=wE (Y.symm.trans ho);refine⟨by simp[F.size],?_,?_,hc,Kpo.trans _ _ _ F.keep hk,?_,?_,?_,?_⟩
 .intro j k B he;rcases U j B with rfl|B
  .exact I _ (J k he)
  .exact I _ (F.closed j k B he)
 .intro j B;rcases U j B with rfl|B
  .exact hi
  .exact F.heads j B
 .intro j d V' B G;have S:=O j _ G;rcases U j B with rfl|H
  .have L:=hV.symm.trans G;simp only[wQ,UY]at L;obtain⟨N,rfl⟩:=L;rw[N,yh (by rw[F.tsize,X];exact(hd d N).1)];exact hu
  .have:=Z j _ _ G _ _ _ (F.vals j d V' H G) hk;cases hod:Q.dst with
   |none=>exact this
   | some d'=>
     rw[qn]
     .exact this
     .intro e;subst e;have T:=F.heads j H;have:=(hd d hod).2 j T S;subst this;rw[hf]at H;cases H
 .intro t ht;cases hod:Q.dst with
  |none=>exact F.rest t λj B=>ht j (I j B)
  | some d'=>
    rw[qn]
    .exact F.rest t λj B=>ht j (I j B)
    .intro e;subst e;exact ht i (zl P) (by unfold zJ;rw[ho];exact hod)
 .rw[<-F.tsize];cases Q.dst<;>simp[Act.put]
 .rw[<-F.defers];cases Q.dst<;>simp[Act.put]
def fillA(a:Act)(b:Act)(x:Option Tmp×VP Ω):Act:=match x.1 with|none=>b|some d=>b.put (some d) (a.tmps.getD d undef)
def finG_fill{F:Act->Ω->Prop}{w:Ω}{a:Act}:∀(j:List (Option Tmp×VP Ω))(b:Act),finG F w j b->(∀d V,(some d,V)∈j->V (a.tmps.getD d undef) w)->F (j.foldl (fillA a) b) w
 |[],_,h,_=>h
 |(none,_)::r,b,h,hv=>finG_fill r b h λd V o=>hv d V (by simp[o])
 |(some d,V)::r,b,h,hv=>finG_fill r _ (h _ (hv d V b6)) λd V o=>hv d V (by simp[o])
def fill_getD{a:Act}(t:Tmp):∀(o:List (Option Tmp×VP Ω))(b:Act),t<b.tmps.size->((∃V,(some t,V)∈o)\/b.tmps.getD t undef=a.tmps.getD t undef) ->
 (o.foldl (fillA a) b).tmps.getD t undef=a.tmps.getD t undef
 |[],b,_,h=>h.resolve_left (by rintro⟨V,j⟩;cases j)
 |(none,V)::r,b,hs,h=>fill_getD t r b hs (by
     rcases h with⟨u,j⟩|h
     .simp at j;exact .inl ⟨u,j⟩
     .exact .inr h)
 |(some d,V)::r,b,hs,h=>fill_getD t r (b.put (some d) (a.tmps.getD d undef)) (by simpa[Act.put]using hs) (by
     by_cases e:t=d
     .subst e;exact .inr (yh hs)
     .rcases h with⟨u,j⟩|h
      .simp[e]at j;exact .inl ⟨u,j⟩
      .exact .inr ((qn e).trans h))
def fill_size{a:Act}:∀(j:List (Option Tmp×VP Ω))(b:Act),(j.foldl (fillA a) b).tmps.size=b.tmps.size/\(j.foldl (fillA a) b).defers=b.defers
 |[],_=>⟨rfl,rfl⟩
 |(none,_)::r,b=>fill_size r b
 |(some d,V)::r,b=>by have:=fill_size (a:=a) r (b.put (some d) (a.tmps.getD d undef));exact⟨this.1.trans (by simp[Act.put]),this.2.trans (by simp[Act.put])⟩
def GI.fin{F:Act->Ω->Prop}{o:List (Option Tmp×VP Ω)}{u:Array Bool}{a:Act}{w:Ω}(A:GI ops nh a0 w0 C o u a w)(I:o.length=nh)
 (G:∀(j:Nat) x,o[j]?=some x->zJ ops j=x.1) (E:∀i,i<nh->u.getD i false=true)
 (N:finG F w o a0):F a w:=by
 have L:=finG_fill (a:=a) o a0 N λd V P=>by obtain⟨j,B⟩:=wK P;exact A.vals j d V (E j (by rw[<-I];exact(Zw.1 B).1)) B
 have M:o.foldl (fillA a) a0=a:=by
  obtain⟨Q,S⟩:=fill_size (a:=a) o a0;refine Act.ext' (Q.trans A.tsize.symm) (S.trans A.defers.symm) λt ht=>fill_getD t o a0 (by rw[<-A.tsize];exact ht) ?_;by_cases K:∃j,u.getD j false=true/\zJ ops j=some t
  .obtain⟨j,B,J⟩:=K;have O:=A.heads j B;have H:j<o.length:=a8;have:=G j _ (Zv H);rw[J]at this;exact .inl ⟨o[j].2,by rw[show (some t,o[j].2)=o[j] from Uo this rfl];exact XE H⟩
  .exact .inr (A.rest t λj B J=>K ⟨j,B,J⟩).symm
 rwa[M]at L
def isV_of{u o:List (Option Tmp×VP Ω)}{i j:Nat}{x:Value}(h:isV u j x)(w:∀j:Nat,j<i->o[j]?=u[j]?)(A:j<i):isV o j x:=by unfold isV at *;rw[w j A];exact h
def gcore{nt:Nat}(aw:Oper->Act->Ω->(Act->Ω->Prop)->Prop)(step:Nat->(Act->Ω->Prop)->Act->Ω->Prop)(W:Nat->Array Bool->Act->Ω->Prop)(Qn:Act->Ω->Prop)(T:Nat->Act->Ω->Prop)
 (ah:∀i o K a w,ops[i]?=some o->(if Region.wanted o (yielded ops a.tmps) then aw o a w K else K (a.put o.dst undef) w)->step i K a w)
 (ag:∀i K K' a w,(∀a w,K a w->K' a w)->step i K a w->step i K' a w)
 (az:∀A a w,Region.ready .any ops A=[]->Qn a w->W 0 A a w)
 (hW:∀B A a w,(Region.ready .any ops A=[]->Qn a w)->(∀i∈Region.ready .any ops A,step i (W B (A.setIfInBounds i true)) a w)->W (B+1) A a w)
 (hT:∀k a w,k<ops.size->T k a w->step k (T (k+1)) a w) (ai:∀a w,T ops.size a w->Qn a w)
 (H:xk ops nh nt=true) (Q:yK ops nh=true) (aH:nh<=ops.size) (ar:a0.tmps.size=nt) (E:List (Option Tmp×VP Ω)) (ao:E.length=nh)
 (aN:∀(j:Nat) d V,E[j]?=some (d,V)->∀u w Y,V u w->Kpo.kp w Y->V u Y) (I:∀(j:Nat) x,E[j]?=some x->zJ ops j=x.1)
 (aL:∀(i:Nat) o V,ops[i]?=some o->E[i]?=some (o.dst,V)->stepOk aw a0 w0 C (E.take i) o V)
 (am:∀w,C w->Kpo.kp w0 w->finG (T nh) w E a0) :
 ∀(B:Nat)(A:Array Bool)(a:Act)(w:Ω)(S:List Nat),GI ops nh a0 w0 C E A a w->(∀i,i<ops.size->A.getD i false=false->i∈S)->S.length<=B->W B A a w:=by
 -- the tail
 have tail:∀(B k:Nat)(A:Array Bool)(a:Act)(w:Ω),A.size=ops.size->(∀i,A.getD i false=true↔i<k)->nh<=k->k<=ops.size->ops.size-k<=B->T k a w->W B A a w:=by
  intro B;induction B with
  |zero=>intro k A a w hs hl _ hk hf ht;obtain rfl:k=ops.size:=a8;refine az _ _ _ ?_ (ai _ _ ht);refine Wz.2 λi hi=>?_;obtain⟨L,P,_⟩:=zo hi;have:=(zx L).1;rw[(hl i).2 P]at this;cases this
  | succ B ih=>
    intro k A a w hs hl hn hk hf ht;by_cases aF:k=ops.size
    .subst aF;have aq:Region.ready .any ops A=[]:=Wz.2 λi hi=>by obtain⟨L,P,_⟩:=zo hi;have:=(zx L).1;rw[(hl i).2 P]at this;cases this
     exact hW _ _ _ _ (λ_=>ai _ _ ht) λi hi=>by rw[aq]at hi;cases hi
    .refine hW _ _ _ _ (λh0=>?_) λi hi=>?_
     .exfalso;have hu:A.getD k false=false:=by
       cases h:A.getD k false with
       |false=>rfl
       |true=>have:=(hl k).1 h;omega
      obtain⟨j,M⟩:=qh Q hs k a8 hu;rw[h0]at M;cases M
     .obtain⟨L,P,_,Z⟩:=zo hi;have aT:¬i<k:=λh=>(by have:=(zx L).1;rw[(hl i).2 h]at this;cases this);have:i=k:=by
       rcases (qP Q P).1 with h|h
       .omega
       .have:=(hl _).1 (Z _ h);omega
      subst this;refine ag _ _ _ _ _ (λa' Y aO=>ih (i+1) _ _ _ (by simp[hs]) (λj=>?_) a8 a8 a8 aO) (hT i a w P ht);by_cases e:j=i
      .subst e;simp[zl (zx L).2]
      .rw[zj e,hl];omega
 intro B;have ax:∀(A:Array Bool)(a:Act)(w:Ω),GI ops nh a0 w0 C E A a w->nh∈Region.ready .any ops A->∀(n i:Nat),nh-i=n->i<nh->A.getD i false=true:=by
  intro A a w G hr n;obtain⟨L,P,_,Z⟩:=zo hr;induction n using Nat.strongRecOn with
  |_ n ih=>
    intro i hn hi;obtain⟨_,_,_,_,_,h4⟩:=chk_at H hi;rcases h4 with h4|⟨j,M,aS,he⟩
    .omega
    .by_cases e:j=nh
     .subst e;exact Z i he
     .exact G.closed j i (ih (nh-j) a8 j rfl a8) he
 have full:∀(B:Nat)(A:Array Bool)(a:Act)(w:Ω),GI ops nh a0 w0 C E A a w->(∀i,i<nh->A.getD i false=true)->ops.size-nh<=B->W B A a w:=by intro B A a w G F hf;exact tail B nh A a w G.size (λi=>⟨G.heads i,F i⟩) (Zp _) aH hf (G.fin ao I F (am w G.c G.keep))
 induction B with
 | zero=>
   intro A a w S G hS hf;have F:∀i,i<ops.size->A.getD i false=true:=λi hi=>by
    cases h:A.getD i false with
    |true=>rfl
    |false=>have:=hS i hi h;rw[wJ (a8:S.length=0)]at this;cases this
   have:nh=ops.size:=(by apply wV;intro aU;have:=G.heads nh (F nh a8);omega);exact full 0 A a w G (λi hi=>F i a8) a8
 | succ B ih=>
   intro A a w S G hS hf;by_cases F:∀i,i<nh->A.getD i false=true
   ·-- all of the head has come
    refine full _ A a w G F ?_;have au:(List.range' nh (ops.size-nh))⊆S:=λi hi=>by
     simp only[uI]at hi;refine hS i a8 ?_;cases h:A.getD i false with
     |false=>rfl
     |true=>have:=G.heads i h;omega
    have aG:(List.range' nh (ops.size-nh)).Nodup:=uU;have:=qM _ _ aG au;simp at this;omega
   ·have av:∃i,i<nh/\A.getD i false=false:=by
     apply wV;intro hn;refine F λi hi=>?_;cases h:A.getD i false with
     |true=>rfl
     |false=>exact absurd ⟨i,hi,h⟩ hn
    refine hW _ _ _ _ (λh0=>?_) λi hi=>?_
    .exfalso;obtain⟨i,hi,hu⟩:=av;obtain⟨j,M⟩:=qh Q G.size i a8 hu;rw[h0]at M;cases M
    .obtain⟨L,P,⟨o,ho⟩,Z⟩:=zo hi;have ae:i<nh:=by
      apply wV;intro aR;have aI:i=nh:=by
       rcases (qP Q P).1 with h|h
       .omega
       .have:=G.heads _ (Z _ h);omega
      subst aI;obtain⟨j,M,hu⟩:=av;rw[ax A a w G hi _ j rfl M]at hu;cases hu
     obtain⟨o',aJ,aM,aC,_,_⟩:=chk_at H ae;obtain rfl:o'=o:=wE (aJ.symm.trans ho);have an:i<E.length:=a8;have aj:E[i]?=some (o'.dst,E[i].2):=(by have:=I i _ (Zv an);unfold zJ at this;rw[ho]at this;rw[Zv an];exact WR some (Uo this.symm rfl));have ab:∀j:Nat,j<i->E[j]?=(E.take i)[j]?:=λj M=>(by rw[wt,Vm M]);have ac:=G.rds (env:=E.take i) (chkR_of H) ae ho (zx L).1 Z a9 ab (λj x J=>I j x (by rw[wt]at J;split at J;exact J;cases J)) (zA o') aM;have N:=aL i o' _ ho aj;have ad:∀u Y,Kpo.kp w Y->C Y->E[i].2 u Y->W B (A.setIfInBounds i true) (a.put o'.dst u) Y:=λu Y hk hc hu=>
      ih _ _ _ (S.erase i) (G.step (chkR_of H) ar ae ho L Z aN I aj hk hc hu) (λj M X=>by
       have U:j≠i:=λe=>(by subst e;rw[zl (zx L).2]at X;cases X);rw[zj U]at X;exact(W6 U).2 (hS j M X)) (by rw[WI (hS i P (zx L).1)];omega)
     refine ah i o' _ a w ho ?_;unfold stepOk at N;cases hgu:o'.guard with
     |none=>simp only[hgu]at N;rw[Vm (by simp[Region.wanted,hgu])];exact N a w G.c G.keep ac _ ad
     | some jb=>
       obtain⟨j,b⟩:=jb;simp only[hgu]at N;obtain⟨U,aE,aD⟩:=aC j b hgu;obtain⟨d,hd⟩:=wZ.1 aD;have af:j<E.length:=a8;have ak:=I j _ (Zv af);rw[hd]at ak;have aP:=G.vals j d E[j].2 (Z j aE) (by rw[Zv af];exact WR some (Uo ak.symm rfl));obtain⟨oj,aK,_,_,aA,_⟩:=chk_at H (show j<nh by omega);have aB:d<a.tmps.size:=(by rw[G.tsize,ar];exact(aA d (by unfold zJ at hd;rw[aK]at hd;exact hd)).1);have hy:=yS (tmps:=a.tmps) hd aB;have O:∀x,isV (E.take i) j x->a.tmps.getD d undef=x:=λx J=>(by have:=isV_of J ab U;unfold isV at this;rw[Zv af]at this;exact this _ _ aP);rcases N with⟨J,hh⟩|⟨J,ay⟩
       .have:=O _ J;rw[this]at hy;rw[Vm (by simp[Region.wanted,hgu,hy])];exact hh a w G.c G.keep ac _ ad
       .have aQ:yielded ops a.tmps j≠some b:=by
         rcases J with J|J
         .have:=O _ J;rw[this]at hy;rw[hy];cases b<;>simp
         .have:=O _ J;rw[this]at hy;rw[hy];simp[undef]
        rw[Vq (by simp[Region.wanted,hgu];exact aQ)];exact ad undef w (Kpo.refl _) G.c (by rw[ay])
def gcoreF{nt:Nat}(aD:Oper->Act->Ω->(Act->Ω->Prop)->Prop)(step:Nat->(Act->Ω->Prop)->Act->Ω->Prop)(W:Nat->Array Bool->Act->Ω->Prop)(Qn:Act->Ω->Prop)(T:Nat->Act->Ω->Prop)
 (aq:∀i o K a w,ops[i]?=some o->(if Region.wanted o (yielded ops a.tmps) then aD o a w K else K (a.put o.dst undef) w)->step i K a w)
 (L:∀i K K' a w,(∀a w,K a w->K' a w)->step i K a w->step i K' a w)
 (aG:∀A a w,Region.ready .any ops A=[]->Qn a w->W 0 A a w)
 (hW:∀B A a w,(Region.ready .any ops A=[]->Qn a w)->(∀i∈Region.ready .any ops A,step i (W B (A.setIfInBounds i true)) a w)->W (B+1) A a w)
 (hT:∀k a w,k<ops.size->T k a w->step k (T (k+1)) a w) (ar:∀a w,T ops.size a w->Qn a w)
 (M:ChkR ops (nh+1) nt) (am:∀i,i<nh->∃j,j<=nh+1/\i<j/\j≠nh/\edge ops j i=true) (ah:nh+2<ops.size->edge ops (nh+2) nh=true) (Q:yK ops (nh+1)=true) (aQ:nh+2<=ops.size) (aB:a0.tmps.size=nt) (E:List (Option Tmp×VP Ω)) (ay:E.length=nh+1)
 (aW:∀(j:Nat) d V,E[j]?=some (d,V)->∀u w w',V u w->Kpo.kp w w'->V u w') (I:∀(j:Nat) x,E[j]?=some x->zJ ops j=x.1)
 (aU:∀(i:Nat) o V,ops[i]?=some o->E[i]?=some (o.dst,V)->stepOk aD a0 w0 C (E.take i) o V)
 (aw:∀w,C w->Kpo.kp w0 w->finG (T (nh+1)) w E a0) (ai:∀w,C w->Kpo.kp w0 w->finG (λa w=>step (nh+1) (λa w=>step nh (T (nh+2)) a w) a w) w (E.take nh) a0) :
 ∀(B:Nat)(A:Array Bool)(a:Act)(w:Ω)(S:List Nat),GI ops (nh+1) a0 w0 C E A a w->(∀i,i<ops.size->A.getD i false=false->i∈S)->S.length<=B->W B A a w:=by
 -- the tail
 have tail:∀(B k:Nat)(A:Array Bool)(a:Act)(w:Ω),A.size=ops.size->(∀i,A.getD i false=true↔i<k)->nh+1<=k->k<=ops.size->ops.size-k<=B->T k a w->W B A a w:=by
  intro B;induction B with
  |zero=>intro k A a w hs hl _ hk hf ht;obtain rfl:k=ops.size:=a8;refine aG _ _ _ ?_ (ar _ _ ht);refine Wz.2 λi hi=>?_;obtain⟨O,P,_⟩:=zo hi;have:=(zx O).1;rw[(hl i).2 P]at this;cases this
  | succ B ih=>
    intro k A a w hs hl hn hk hf ht;by_cases aN:k=ops.size
    .subst aN;have aA:Region.ready .any ops A=[]:=Wz.2 λi hi=>by obtain⟨O,P,_⟩:=zo hi;have:=(zx O).1;rw[(hl i).2 P]at this;cases this
     exact hW _ _ _ _ (λ_=>ar _ _ ht) λi hi=>by rw[aA]at hi;cases hi
    .refine hW _ _ _ _ (λh0=>?_) λi hi=>?_
     .exfalso;have N:A.getD k false=false:=by
       cases h:A.getD k false with
       |false=>rfl
       |true=>have:=(hl k).1 h;omega
      obtain⟨j,H⟩:=qh Q hs k a8 N;rw[h0]at H;cases H
     .obtain⟨O,P,_,h3⟩:=zo hi;have be:¬i<k:=λh=>(by have:=(zx O).1;rw[(hl i).2 h]at this;cases this);have:i=k:=by
       rcases (qP Q P).1 with h|h
       .omega
       .have:=(hl _).1 (h3 _ h);omega
      subst this;refine L _ _ _ _ _ (λa' w' aX=>ih (i+1) _ _ _ (by simp[hs]) (λj=>?_) a8 a8 a8 aX) (hT i a w P ht);by_cases e:j=i
      .subst e;simp[zl (zx O).2]
      .rw[zj e,hl];omega
 intro B;have aE:∀(A:Array Bool)(a:Act)(w:Ω),GI ops (nh+1) a0 w0 C E A a w->nh+1∈Region.ready .any ops A->∀(n i:Nat),nh+1-i=n->i<nh->A.getD i false=true:=by
  intro A a w F hr n;obtain⟨O,P,_,h3⟩:=zo hr;induction n using Nat.strongRecOn with
  |_ n ih=>
    intro i hn hi;obtain⟨j,H,bc,bg,he⟩:=am i hi;by_cases e:j=nh+1
    .subst e;exact h3 i he
    .exact F.closed j i (ih (nh+1-j) a8 j rfl a8) he
 have full:∀(B:Nat)(A:Array Bool)(a:Act)(w:Ω),GI ops (nh+1) a0 w0 C E A a w->(∀i,i<nh+1->A.getD i false=true)->ops.size-(nh+1)<=B->W B A a w:=by intro B A a w F G hf;exact tail B (nh+1) A a w F.size (λi=>⟨F.heads i,G i⟩) (Zp _) a8 hf (F.fin ay I G (aw w F.c F.keep))
 induction B with
 | zero=>
   intro A a w S F hS hf;have G:∀i,i<ops.size->A.getD i false=true:=λi hi=>by
    cases h:A.getD i false with
    |true=>rfl
    |false=>have:=hS i hi h;rw[wJ (a8:S.length=0)]at this;cases this
   exfalso;have:=F.heads (nh+1) (G (nh+1) a8);omega
 | succ B ih=>
   intro A a w S F hS hf;by_cases G:∀i,i<nh+1->A.getD i false=true
   ·-- all of the head has come
    refine full _ A a w F G ?_;have Y:(List.range' (nh+1) (ops.size-(nh+1)))⊆S:=λi hi=>by
     simp only[uI]at hi;refine hS i a8 ?_;cases h:A.getD i false with
     |false=>rfl
     |true=>have:=F.heads i h;omega
    have an:(List.range' (nh+1) (ops.size-(nh+1))).Nodup:=uU;have:=qM _ _ an Y;simp at this;omega
   ·have aC:∃i,i<nh+1/\A.getD i false=false:=by
     apply wV;intro hn;refine G λi hi=>?_;cases h:A.getD i false with
     |true=>rfl
     |false=>exact absurd ⟨i,hi,h⟩ hn
    refine hW _ _ _ _ (λh0=>?_) λi hi=>?_
    .exfalso;obtain⟨i,hi,N⟩:=aC;obtain⟨j,H⟩:=qh Q F.size i a8 N;rw[h0]at H;cases H
    .obtain⟨O,P,⟨o,ho⟩,h3⟩:=zo hi;by_cases ba:¬i<nh+1
     ·-- the tail begins before the floating operation
      have aR:i=nh+1:=by
       rcases (qP Q P).1 with h|h
       .omega
       .have:=F.heads _ (h3 _ h);omega
      subst aR;have hs:=aE A a w F hi;have ao:A.getD nh false=false:=by
       obtain⟨j,H,N⟩:=aC;by_cases e:j=nh
       .subst e;exact N
       .rw[hs _ j rfl a8]at N;cases N
      have az:∀j,A.getD j false=true->j<nh:=λj H=>by
       have:=F.heads j H;by_cases e:j=nh
       .rw[e,ao]at H;cases H
       .omega
      have aJ:GI ops nh a0 w0 C (E.take nh) A a w:=⟨F.size,F.closed,az,F.c,F.keep,λj d V H hV=>F.vals j d V H (by rw[wt]at hV;split at hV;exact hV;cases hV),F.rest,F.tsize,F.defers⟩;have hB:=aJ.fin a9 (λj x J=>I j x (by rw[wt]at J;split at J;exact J;cases J)) (λj H=>hs _ j rfl H) (ai w F.c F.keep);have aO:A.getD (nh+1) false=false:=(zx O).1;refine L _ _ _ _ _ (λa' w' h'=>?_) hB;have aP:nh∈S:=hS nh a8 ao;have bi:nh+1∈S:=hS (nh+1) P aO;have bh:2+(ops.size-(nh+2))<=S.length:=by
       have Y:(nh::List.range' (nh+1) (ops.size-(nh+1)))⊆S:=λi hi=>by
        rcases V3.1 hi with rfl|hi
        .exact aP
        .simp only[uI]at hi;refine hS i a8 ?_;cases h:A.getD i false with
         |false=>rfl
         |true=>have:=F.heads i h;omega
       have an:(nh::List.range' (nh+1) (ops.size-(nh+1))).Nodup:=UH.2 ⟨λh=>by simp only[uI]at h;omega,uU⟩;have:=qM _ _ an Y;simp at this;omega
      obtain⟨f',rfl⟩:∃f',B=f'+1:=⟨B-1,a8⟩;have ag:(A.setIfInBounds (nh+1) true).size=ops.size:=(by simp[F.size]);have ad:(A.setIfInBounds (nh+1) true).getD nh false=false:=(by rw[zj a8];exact ao);refine hW _ _ _ _ (λh0=>?_) λi hi=>?_
      .exfalso;obtain⟨j,H⟩:=qh Q ag nh a8 ad;rw[h0]at H;cases H
      .obtain⟨k1,k2,_,k3⟩:=zo hi;have U:i=nh:=by
        have N:=(zx k1).1;rcases WN i nh with h|h|h
        .rw[zj a8,hs _ i rfl h]at N;cases N
        .exact h
        .exfalso;by_cases e:i=nh+1
         .subst e;rw[zl (by rw[F.size];exact P)]at N;cases N
         .by_cases e2:i=nh+2
          .subst e2;have:=k3 nh (ah k2);rw[ad]at this;cases this
          .rcases (qP Q k2).1 with h4|h4
           .omega
           .have h5:=k3 _ h4;rw[zj a8]at h5;have:=F.heads _ h5;omega
       subst U;refine L _ _ _ _ _ (λa2 w2 ht=>tail f' (i+2) _ _ _ (by simp[F.size]) (λj=>?_) a8 aQ a8 ht) h';by_cases e:j=i
       .subst e;rw[zl (by rw[ag];omega)];simp
       .rw[zj e];by_cases e2:j=i+1
        .subst e2;rw[zl (by rw[F.size];exact P)];simp
        .rw[zj e2];constructor
         .intro h;have:=F.heads j h;omega
         .intro h;exact hs _ j rfl a8
     have U:i<nh+1:=a8;obtain⟨o',aS,aV,aK,_⟩:=M _ U;obtain rfl:o'=o:=wE (aS.symm.trans ho);have ax:i<E.length:=a8;have au:E[i]?=some (o'.dst,E[i].2):=(by have:=I i _ (Zv ax);unfold zJ at this;rw[ho]at this;rw[Zv ax];exact WR some (Uo this.symm rfl));have ae:∀j:Nat,j<i->E[j]?=(E.take i)[j]?:=λj H=>(by rw[wt,Vm H]);have af:=F.rds (env:=E.take i) M U ho (zx O).1 h3 a9 ae (λj x J=>I j x (by rw[wt]at J;split at J;exact J;cases J)) (zA o') aV;have X:=aU i o' _ ho au;have aj:∀u w',Kpo.kp w w'->C w'->E[i].2 u w'->W B (A.setIfInBounds i true) (a.put o'.dst u) w':=λu w' hk hc N=>
      ih _ _ _ (S.erase i) (F.step M aB U ho O h3 aW I au hk hc N) (λj H ac=>by
       have ab:j≠i:=λe=>(by subst e;rw[zl (zx O).2]at ac;cases ac);rw[zj ab]at ac;exact(W6 ab).2 (hS j H ac)) (by rw[WI (hS i P (zx O).1)];omega)
     refine aq i o' _ a w ho ?_;unfold stepOk at X;cases hgu:o'.guard with
     |none=>simp only[hgu]at X;rw[Vm (by simp[Region.wanted,hgu])];exact X a w F.c F.keep af _ aj
     | some jb=>
       obtain⟨j,b⟩:=jb;simp only[hgu]at X;obtain⟨ab,aM,aL⟩:=aK j b hgu;obtain⟨d,hd⟩:=wZ.1 aL;have ak:j<E.length:=a8;have av:=I j _ (Zv ak);rw[hd]at av;have aY:=F.vals j d E[j].2 (h3 j aM) (by rw[Zv ak];exact WR some (Uo av.symm rfl));obtain⟨oj,aT,_,_,aH⟩:=M j (show j<nh+1 by omega);have aI:d<a.tmps.size:=(by rw[F.tsize,aB];exact(aH d (by unfold zJ at hd;rw[aT]at hd;exact hd)).1);have hy:=yS (tmps:=a.tmps) hd aI;have Z:∀x,isV (E.take i) j x->a.tmps.getD d undef=x:=λx J=>(by have:=isV_of J ae ab;unfold isV at this;rw[Zv ak]at this;exact this _ _ aY);rcases X with⟨J,hh⟩|⟨J,aF⟩
       .have:=Z _ J;rw[this]at hy;rw[Vm (by simp[Region.wanted,hgu,hy])];exact hh a w F.c F.keep af _ aj
       .have aZ:yielded ops a.tmps j≠some b:=by
         rcases J with J|J
         .have:=Z _ J;rw[this]at hy;rw[hy];cases b<;>simp
         .have:=Z _ J;rw[this]at hy;rw[hy];simp[undef]
        rw[Vq (by simp[Region.wanted,hgu];exact aZ)];exact aj undef w (Kpo.refl _) F.c (by rw[aF])
def walkG_env{B:Oper->Act->Ω->(Act->Ω->Prop)->Prop}{F:Act->Ω->Prop}:∀(l:List Oper)(j:List (Option Tmp×VP Ω)),walkG B a0 w0 C F l j ->
 ∃r:List (Option Tmp×VP Ω),r.length=l.length/\(∀(i:Nat) o,l[i]?=some o->∃V,r[i]?=some (o.dst,V)/\(∀u w G,V u w->Kpo.kp w G->V u G)/\stepOk B a0 w0 C (j++r.take i) o V) /\
  (∀w,C w->Kpo.kp w0 w->finG F w (j++r) a0)
 |[],j,h=>⟨[],rfl,(λi o ho=>by simp at ho),by rw[Wc];exact h⟩
 | o::l,j,⟨V,hs,hk,hw⟩=>by
   obtain⟨r,L,M,N⟩:=walkG_env l _ hw;refine⟨(o.dst,V)::r,by simp[L],λi E A=>?_,dK N⟩;cases i with
   |zero=>obtain rfl:o=E:=(dK A);exact⟨V,rfl,hs,dK hk⟩
   |succ i=>obtain⟨H,I,J,K⟩:=M i E (dK A);exact⟨H,dK I,J,dK K⟩
def gcoreC{nt r:Nat}(aE:Oper->Act->Ω->(Act->Ω->Prop)->Prop)(step:Nat->(Act->Ω->Prop)->Act->Ω->Prop)(W:Nat->Array Bool->Act->Ω->Prop)(Qn:Act->Ω->Prop)(T:Nat->Act->Ω->Prop)
 (aq:∀i o K a w,ops[i]?=some o->(if Region.wanted o (yielded ops a.tmps) then aE o a w K else K (a.put o.dst undef) w)->step i K a w)
 (M:∀i K K' a w,(∀a w,K a w->K' a w)->step i K a w->step i K' a w)
 (aI:∀A a w,Region.ready .any ops A=[]->Qn a w->W 0 A a w)
 (hW:∀B A a w,(Region.ready .any ops A=[]->Qn a w)->(∀i∈Region.ready .any ops A,step i (W B (A.setIfInBounds i true)) a w)->W (B+1) A a w)
 (hT:∀k a w,k<ops.size->T k a w->step k (T (k+1)) a w) (av:∀a w,T ops.size a w->Qn a w)
 (bq:1<=r) (O:ChkR ops (nh+r) nt) (an:∀i,i<nh->∃j,j<=nh+r/\i<j/\¬(nh<=j/\j<nh+r)/\edge ops j i=true) (N:∀i,nh<=i->i+1<nh+r->edge ops (i+1) i=true) (ai:nh+r+1<ops.size->edge ops (nh+r+1) (nh+r-1)=true) (P:yK ops (nh+r)=true) (bn:nh+r+1<=ops.size)
 (CT:Nat->Act->Ω->Prop) (aG:∀c a w,c<r->CT c a w->step (nh+c) (CT (c+1)) a w) (au:∀a w,CT r a w->T (nh+r+1) a w) (aD:a0.tmps.size=nt) (E:List (Option Tmp×VP Ω)) (aA:E.length=nh+r)
 (aX:∀(j:Nat) d V,E[j]?=some (d,V)->∀u w w',V u w->Kpo.kp w w'->V u w') (I:∀(j:Nat) x,E[j]?=some x->zJ ops j=x.1)
 (aU:∀(i:Nat) o V,ops[i]?=some o->E[i]?=some (o.dst,V)->stepOk aE a0 w0 C (E.take i) o V)
 (ay:∀w,C w->Kpo.kp w0 w->finG (T (nh+r)) w E a0) (aj:∀c,c<r->∀w,C w->Kpo.kp w0 w->finG (λa w=>step (nh+r) (CT c) a w) w (E.take (nh+c)) a0) :
 ∀(B:Nat)(A:Array Bool)(a:Act)(w:Ω)(S:List Nat),GI ops (nh+r) a0 w0 C E A a w->(∀i,i<ops.size->A.getD i false=false->i∈S)->S.length<=B->W B A a w:=by
 -- the tail
 have tail:∀(B k:Nat)(A:Array Bool)(a:Act)(w:Ω),A.size=ops.size->(∀i,A.getD i false=true↔i<k)->nh+r<=k->k<=ops.size->ops.size-k<=B->T k a w->W B A a w:=by
  intro B;induction B with
  |zero=>intro k A a w hs H _ hk hf ht;obtain rfl:k=ops.size:=a8;refine aI _ _ _ ?_ (av _ _ ht);refine Wz.2 λi hi=>?_;obtain⟨Q,U,_⟩:=zo hi;have:=(zx Q).1;rw[(H i).2 U]at this;cases this
  | succ B ih=>
    intro k A a w hs H hn hk hf ht;by_cases aQ:k=ops.size
    .subst aQ;have aC:Region.ready .any ops A=[]:=Wz.2 λi hi=>by obtain⟨Q,U,_⟩:=zo hi;have:=(zx Q).1;rw[(H i).2 U]at this;cases this
     exact hW _ _ _ _ (λ_=>av _ _ ht) λi hi=>by rw[aC]at hi;cases hi
    .refine hW _ _ _ _ (λh0=>?_) λi hi=>?_
     .exfalso;have hu:A.getD k false=false:=by
       cases h:A.getD k false with
       |false=>rfl
       |true=>have:=(H k).1 h;omega
      obtain⟨j,J⟩:=qh P hs k a8 hu;rw[h0]at J;cases J
     .obtain⟨Q,U,_,h3⟩:=zo hi;have bi:¬i<k:=λh=>(by have:=(zx Q).1;rw[(H i).2 h]at this;cases this);have:i=k:=by
       rcases (qP P U).1 with h|h
       .omega
       .have:=(H _).1 (h3 _ h);omega
      subst this;refine M _ _ _ _ _ (λa' w' aY=>ih (i+1) _ _ _ (by simp[hs]) (λj=>?_) a8 a8 a8 aY) (hT i a w U ht);by_cases e:j=i
      .subst e;simp[zl (zx Q).2]
      .rw[zj e,H];omega
 intro B;have aF:∀(A:Array Bool)(a:Act)(w:Ω),GI ops (nh+r) a0 w0 C E A a w->nh+r∈Region.ready .any ops A->∀(n i:Nat),nh+r-i=n->i<nh->A.getD i false=true:=by
  intro A a w F hr n;obtain⟨Q,U,_,h3⟩:=zo hr;induction n using Nat.strongRecOn with
  |_ n ih=>
    intro i hn hi;obtain⟨j,J,bh,bj,he⟩:=an i hi;by_cases e:j=nh+r
    .subst e;exact h3 i he
    .exact F.closed j i (ih (nh+r-j) a8 j rfl a8) he
 -- what floats,behind the first of the tail
 have ar:∀(n c B:Nat)(A:Array Bool)(a:Act)(w:Ω),r-c=n->c<=r->A.size=ops.size->(∀i,A.getD i false=true↔i<nh+c\/i=nh+r)->(r-c)+(ops.size-(nh+r+1))<=B->CT c a w->W B A a w:=by
  intro n;induction n with
  |zero=>intro c B A a w hn hc hs H hf ht;obtain rfl:c=r:=a8;exact tail B (nh+c+1) A a w hs (λi=>by rw[H];omega) a8 a8 a8 (au a w ht)
  | succ n ih=>
    intro c B A a w hn hc hs H hf ht;obtain⟨f',rfl⟩:∃f',B=f'+1:=⟨B-1,a8⟩;have af:A.getD (nh+c) false=false:=by
     cases h:A.getD (nh+c) false with
     |false=>rfl
     |true=>have:=(H _).1 h;omega
    refine hW _ _ _ _ (λh0=>?_) λi hi=>?_
    .exfalso;obtain⟨j,J⟩:=qh P hs (nh+c) a8 af;rw[h0]at J;cases J
    .obtain⟨k1,k2,_,k3⟩:=zo hi;have hu:=(zx k1).1;have X:i=nh+c:=by
      have bp:¬(i<nh+c\/i=nh+r):=λh=>(by rw[(H i).2 h]at hu;cases hu);rcases WN i (nh+c)with h|h|h
      .omega
      .exact h
      .exfalso;by_cases e:i<nh+r
       .have:=(H _).1 (k3 (i-1) (by have:=N (i-1) a8 a8;rwa[show i-1+1=i by omega]at this));omega
       .by_cases e2:i=nh+r+1
        .subst e2;have:=(H _).1 (k3 _ (ai k2));omega
        .rcases (qP P k2).1 with h4|h4
         .omega
         .have:=(H _).1 (k3 _ h4);omega
     subst X;refine M _ _ _ _ _ (λa2 w2 aZ=>ih (c+1) f' _ _ _ a8 a8 (by simp[hs]) (λj=>?_) a8 aZ) (aG c a w a8 ht);by_cases e:j=nh+c
     .subst e;rw[zl (by rw[hs];omega)];simp
     .rw[zj e,H];omega
 have full:∀(B:Nat)(A:Array Bool)(a:Act)(w:Ω),GI ops (nh+r) a0 w0 C E A a w->(∀i,i<nh+r->A.getD i false=true)->ops.size-(nh+r)<=B->W B A a w:=by intro B A a w F G hf;exact tail B (nh+r) A a w F.size (λi=>⟨F.heads i,G i⟩) (Zp _) a8 hf (F.fin aA I G (ay w F.c F.keep))
 induction B with
 | zero=>
   intro A a w S F hS hf;have G:∀i,i<ops.size->A.getD i false=true:=λi hi=>by
    cases h:A.getD i false with
    |true=>rfl
    |false=>have:=hS i hi h;rw[wJ (a8:S.length=0)]at this;cases this
   exfalso;have:=F.heads (nh+r) (G (nh+r) a8);omega
 | succ B ih=>
   intro A a w S F hS hf;by_cases G:∀i,i<nh+r->A.getD i false=true
   ·-- all of the head has come
    refine full _ A a w F G ?_;have ab:(List.range' (nh+r) (ops.size-(nh+r)))⊆S:=λi hi=>by
     simp only[uI]at hi;refine hS i a8 ?_;cases h:A.getD i false with
     |false=>rfl
     |true=>have:=F.heads i h;omega
    have ao:(List.range' (nh+r) (ops.size-(nh+r))).Nodup:=uU;have:=qM _ _ ao ab;simp at this;omega
   ·have af:∃i,i<nh+r/\A.getD i false=false:=by
     apply wV;intro hn;refine G λi hi=>?_;cases h:A.getD i false with
     |true=>rfl
     |false=>exact absurd ⟨i,hi,h⟩ hn
    refine hW _ _ _ _ (λh0=>?_) λi hi=>?_
    .exfalso;obtain⟨i,hi,hu⟩:=af;obtain⟨j,J⟩:=qh P F.size i a8 hu;rw[h0]at J;cases J
    ·obtain⟨Q,U,⟨o,ho⟩,h3⟩:=zo hi;by_cases be:¬i<nh+r
     ·-- the tail begins before what floats
      have aR:i=nh+r:=by
       rcases (qP P U).1 with h|h
       .omega
       .have:=F.heads _ (h3 _ h);omega
      subst aR;have hs:=aF A a w F hi
      -- how much of it has come
      have zdg:∃c,c<r/\A.getD (nh+c) false=false/\∀i,i<nh+c->A.getD i false=true:=by
       obtain⟨j,J,hu⟩:=af;have:∀n c,c+n=r->(∀i,i<nh+c->A.getD i false=true)->∃c,c<r/\A.getD (nh+c) false=false/\∀i,i<nh+c->A.getD i false=true:=by
        intro n;induction n with
        |zero=>intro c hc H;rw[H j a8]at hu;cases hu
        | succ n ih=>
          intro c hc H;cases h:A.getD (nh+c) false with
          |false=>exact⟨c,a8,h,H⟩
          | true=>
            refine ih (c+1) a8 λi hi=>?_;by_cases e:i=nh+c
            .rw[e];exact h
            .exact H i a8
       exact this r 0 a8 λi hi=>hs _ i rfl a8
      obtain⟨c,hc,aV,aB⟩:=zdg;have aN:∀k,nh+c+k<nh+r->A.getD (nh+c+k) false=false:=by
       intro k;induction k with
       |zero=>intro _;exact aV
       | succ k ih=>
         intro hk;cases h:A.getD (nh+c+(k+1)) false with
         |false=>rfl
         |true=>have:=F.closed _ _ h (N (nh+c+k) a8 a8);rw[ih a8]at this;cases this
      have Y:∀j,A.getD j false=true->j<nh+c:=λj J=>(by have:=F.heads j J;apply wV;intro bg;have:=aN (j-(nh+c)) a8;rw[show nh+c+(j-(nh+c))=j by omega,J]at this;cases this);have aL:GI ops (nh+c) a0 w0 C (E.take (nh+c)) A a w:=⟨F.size,F.closed,Y,F.c,F.keep,λj d V J hV=>F.vals j d V J (by rw[wt]at hV;split at hV;exact hV;cases hV),F.rest,F.tsize,F.defers⟩;have hB:=aL.fin a9 (λj x L=>I j x (by rw[wt]at L;split at L;exact L;cases L)) aB (aj c hc w F.c F.keep);refine M _ _ _ _ _ (λa' w' h'=>?_) hB;have bl:(r-c)+(ops.size-(nh+r))<=S.length:=by
       have ab:(List.range' (nh+c) (ops.size-(nh+c)))⊆S:=λi hi=>by
        simp only[uI]at hi;refine hS i a8 ?_;cases h:A.getD i false with
        |false=>rfl
        |true=>have:=Y i h;omega
       have ao:(List.range' (nh+c) (ops.size-(nh+c))).Nodup:=uU;have:=qM _ _ ao ab;simp at this;omega
      refine ar (r-c) c B _ a' w' rfl a8 (by simp[F.size]) (λj=>?_) a8 h';by_cases e:j=nh+r
      .subst e;rw[zl (by rw[F.size];exact U)];simp
      .rw[zj e];constructor
       .intro h;exact .inl (Y j h)
       .intro h;exact aB j a8
     have X:i<nh+r:=a8;obtain⟨o',aS,aW,aM,_⟩:=O _ X;obtain rfl:o'=o:=wE (aS.symm.trans ho);have az:i<E.length:=a8;have aw:E[i]?=some (o'.dst,E[i].2):=(by have:=I i _ (Zv az);unfold zJ at this;rw[ho]at this;rw[Zv az];exact WR some (Uo this.symm rfl));have ag:∀j:Nat,j<i->E[j]?=(E.take i)[j]?:=λj J=>(by rw[wt,Vm J]);have ah:=F.rds (env:=E.take i) O X ho (zx Q).1 h3 a9 ag (λj x L=>I j x (by rw[wt]at L;split at L;exact L;cases L)) (zA o') aW;have Z:=aU i o' _ ho aw;have ak:∀u w',Kpo.kp w w'->C w'->E[i].2 u w'->W B (A.setIfInBounds i true) (a.put o'.dst u) w':=λu w' hk hc hu=>
      ih _ _ _ (S.erase i) (F.step O aD X ho Q h3 aX I aw hk hc hu) (λj J ae=>by
       have ad:j≠i:=λe=>(by subst e;rw[zl (zx Q).2]at ae;cases ae);rw[zj ad]at ae;exact(W6 ad).2 (hS j J ae)) (by rw[WI (hS i U (zx Q).1)];omega)
     refine aq i o' _ a w ho ?_;unfold stepOk at Z;cases hgu:o'.guard with
     |none=>simp only[hgu]at Z;rw[Vm (by simp[Region.wanted,hgu])];exact Z a w F.c F.keep ah _ ak
     | some jb=>
       obtain⟨j,b⟩:=jb;simp only[hgu]at Z;obtain⟨ad,aP,aO⟩:=aM j b hgu;obtain⟨d,hd⟩:=wZ.1 aO;have am:j<E.length:=a8;have ax:=I j _ (Zv am);rw[hd]at ax;have ba:=F.vals j d E[j].2 (h3 j aP) (by rw[Zv am];exact WR some (Uo ax.symm rfl));obtain⟨oj,aT,_,_,aJ⟩:=O j (show j<nh+r by omega);have aK:d<a.tmps.size:=(by rw[F.tsize,aD];exact(aJ d (by unfold zJ at hd;rw[aT]at hd;exact hd)).1);have hy:=yS (tmps:=a.tmps) hd aK;have ac:∀x,isV (E.take i) j x->a.tmps.getD d undef=x:=λx L=>(by have:=isV_of L ag ad;unfold isV at this;rw[Zv am]at this;exact this _ _ ba);rcases Z with⟨L,hh⟩|⟨L,aH⟩
       .have:=ac _ L;rw[this]at hy;rw[Vm (by simp[Region.wanted,hgu,hy])];exact hh a w F.c F.keep ah _ ak
       .have bc:yielded ops a.tmps j≠some b:=by
         rcases L with L|L
         .have:=ac _ L;rw[this]at hy;rw[hy];cases b<;>simp
         .have:=ac _ L;rw[this]at hy;rw[hy];simp[undef]
        rw[Vq (by simp[Region.wanted,hgu];exact bc)];exact ak undef w (Kpo.refl _) F.c (by rw[aH])
def walkE(j:Oper->Act->Ω->(Act->Ω->Prop)->Prop)(a0:Act)(w0:Ω)(C:Ω->Prop)(E:List (Option Tmp×VP Ω)->Prop):List Oper->List (Option Tmp×VP Ω)->Prop
 |[],env=>E env
 |o::l,env=>∃V:VP Ω,(∀u w A,V u w->Kpo.kp w A->V u A)/\stepOk j a0 w0 C env o V/\walkE j a0 w0 C E l (env++[(o.dst,V)])
def walkG_of{u:Oper->Act->Ω->(Act->Ω->Prop)->Prop}{F:Act->Ω->Prop}:∀(l:List Oper)(j:List (Option Tmp×VP Ω)),walkE u a0 w0 C (λj=>∀w,C w->Kpo.kp w0 w->finG F w j a0) l j->walkG u a0 w0 C F l j
 |[],j,h=>h
 |o::l,j,⟨V,h1,h2,h3⟩=>⟨V,h1,h2,walkG_of l _ h3⟩
def walkE_env{B:Oper->Act->Ω->(Act->Ω->Prop)->Prop}{E:List (Option Tmp×VP Ω)->Prop}:∀(l:List Oper)(j:List (Option Tmp×VP Ω)),walkE B a0 w0 C E l j ->
 ∃r:List (Option Tmp×VP Ω),r.length=l.length/\(∀(i:Nat) o,l[i]?=some o->∃V,r[i]?=some (o.dst,V)/\(∀u w G,V u w->Kpo.kp w G->V u G)/\stepOk B a0 w0 C (j++r.take i) o V) /\
  E (j++r)
 |[],j,h=>⟨[],rfl,(λi o ho=>by simp at ho),by rw[Wc];exact h⟩
 | o::l,j,⟨V,hs,hk,hw⟩=>by
   obtain⟨r,L,M,N⟩:=walkE_env l _ hw;refine⟨(o.dst,V)::r,by simp[L],λi F A=>?_,dK N⟩;cases i with
   |zero=>obtain rfl:o=F:=(dK A);exact⟨V,rfl,hs,dK hk⟩
   |succ i=>obtain⟨H,I,J,K⟩:=M i F (dK A);exact⟨H,dK I,J,dK K⟩
def gready{nt:Nat}{l:List Oper}(hO:ops=l.toArray)(H:Oper->Act->Ω->(Act->Ω->Prop)->Prop)(step:Nat->(Act->Ω->Prop)->Act->Ω->Prop)(W:Nat->Array Bool->Act->Ω->Prop)(P:Act->Ω->Prop)(T:Nat->Act->Ω->Prop)
 (L:∀i o K a w,ops[i]?=some o->(if Region.wanted o (yielded ops a.tmps) then H o a w K else K (a.put o.dst undef) w)->step i K a w)
 (J:∀i K K' a w,(∀a w,K a w->K' a w)->step i K a w->step i K' a w)
 (Z:∀A a w,Region.ready .any ops A=[]->P a w->W 0 A a w)
 (hW:∀I A a w,(Region.ready .any ops A=[]->P a w)->(∀i∈Region.ready .any ops A,step i (W I (A.setIfInBounds i true)) a w)->W (I+1) A a w)
 (hT:∀k a w,k<ops.size->T k a w->step k (T (k+1)) a w) (Y:∀a w,T ops.size a w->P a w)
 (B:xk ops nh nt=true) (ab:yK ops nh=true) (ac:a0.tmps.size=nt) (hC:C w0)
 (h:walkG H a0 w0 C (T nh) (l.take nh) []):W ops.size (Array.replicate ops.size false) a0 w0:=by
 subst hO;have O:nh<=l.toArray.size:=by unfold xk at B;simp only[VS,wG]at B;exact B.1
 have ad:nh<=l.length:=dK O
 obtain⟨G,h1,h2,h3⟩:=walkG_env _ _ h;have E:G.length=nh:=by rw[h1];simp;omega
 have get:∀i:Nat,i<nh->∃o V,l[i]?=some o/\G[i]?=some (o.dst,V)/\(∀u w w',V u w->Kpo.kp w w'->V u w')/\stepOk H a0 w0 C (G.take i) o V:=λi hi=>by have N:i<l.length:=a8;obtain⟨V,g⟩:=h2 i l[i] (by rw[wt,Vm hi];exact Zv N);exact⟨l[i],V,Zv N,dK g⟩
 refine gcore (nt:=nt) H step W P T L J Z hW hT Y B ab O ac G E (λj d V F=>?_) (λj x F=>?_) (λi o V ho S=>?_) (dK h3) _ _ _ _ (List.range l.toArray.size) ?_ (λi hi _=>dK hi) b6
 .obtain⟨o,V',Q,M,U,X⟩:=get j (by rw[<-E];exact(Zw.1 F).1);rw[M]at F;cases F;exact U
 .obtain⟨o,V',Q,M,U,X⟩:=get j (by rw[<-E];exact(Zw.1 F).1);rw[M]at F;cases F;unfold zJ;simp[Q]
 .obtain⟨o',V',Q,M,U,X⟩:=get i (by rw[<-E];exact(Zw.1 S).1);have e1:o'=o:=(by have:l[i]?=some o:=(dK ho);rw[Q]at this;exact wE this);subst e1;rw[M]at S;simp only[wQ,UY,Up]at S;subst S;exact X
 .have hf:∀i:Nat,(Array.replicate l.toArray.size false).getD i false=false:=λi=>by
   simp only[wC,uq];split<;>rfl
  exact⟨b6,(λi j hi=>by rw[hf]at hi;cases hi),(λi hi=>by rw[hf]at hi;cases hi),hC,Kpo.refl _,(λj d V F=>by rw[hf]at F;cases F),λ_ _=>rfl,rfl,rfl⟩
def greadyF{nt:Nat}{l:List Oper}(hO:ops=l.toArray)(G:Oper->Act->Ω->(Act->Ω->Prop)->Prop)(step:Nat->(Act->Ω->Prop)->Act->Ω->Prop)(W:Nat->Array Bool->Act->Ω->Prop)(S:Act->Ω->Prop)(T:Nat->Act->Ω->Prop)
 (M:∀i o K a w,ops[i]?=some o->(if Region.wanted o (yielded ops a.tmps) then G o a w K else K (a.put o.dst undef) w)->step i K a w)
 (L:∀i K K' a w,(∀a w,K a w->K' a w)->step i K a w->step i K' a w)
 (ac:∀A a w,Region.ready .any ops A=[]->S a w->W 0 A a w)
 (hW:∀H A a w,(Region.ready .any ops A=[]->S a w)->(∀i∈Region.ready .any ops A,step i (W H (A.setIfInBounds i true)) a w)->W (H+1) A a w)
 (hT:∀k a w,k<ops.size->T k a w->step k (T (k+1)) a w) (ab:∀a w,T ops.size a w->S a w)
 (O:ChkR ops (nh+1) nt) (J:∀i,i<nh->∃j,j<=nh+1/\i<j/\j≠nh/\edge ops j i=true) (I:nh+2<ops.size->edge ops (nh+2) nh=true) (ad:yK ops (nh+1)=true) (Q:nh+2<=ops.size) (ae:a0.tmps.size=nt) (hC:C w0)
 (h:walkE G a0 w0 C (λB=>(∀w,C w->Kpo.kp w0 w->finG (T (nh+1)) w B a0)/\∀w,C w->Kpo.kp w0 w->finG (λa w=>step (nh+1) (λa w=>step nh (T (nh+2)) a w) a w) w (B.take nh) a0) (l.take (nh+1)) []):W ops.size (Array.replicate ops.size false) a0 w0:=by
 subst hO;have af:nh+2<=l.length:=dK Q
 obtain⟨B,h1,h2,h3⟩:=walkE_env _ _ h;have E:B.length=nh+1:=by rw[h1];simp;omega
 have get:∀i:Nat,i<nh+1->∃o V,l[i]?=some o/\B[i]?=some (o.dst,V)/\(∀u w w',V u w->Kpo.kp w w'->V u w')/\stepOk G a0 w0 C (B.take i) o V:=λi hi=>by have P:i<l.length:=a8;obtain⟨V,g⟩:=h2 i l[i] (by rw[wt,Vm hi];exact Zv P);exact⟨l[i],V,Zv P,dK g⟩
 refine gcoreF (nt:=nt) G step W S T M L ac hW hT ab O J I ad Q ae B E (λj d V F=>?_) (λj x F=>?_) (λi o V ho X=>?_) (dK h3.1) (dK h3.2) _ _ _ _ (List.range l.toArray.size) ?_ (λi hi _=>dK hi) b6
 .obtain⟨o,V',U,N,Y,Z⟩:=get j (by rw[<-E];exact(Zw.1 F).1);rw[N]at F;cases F;exact Y
 .obtain⟨o,V',U,N,Y,Z⟩:=get j (by rw[<-E];exact(Zw.1 F).1);rw[N]at F;cases F;unfold zJ;simp[U]
 .obtain⟨o',V',U,N,Y,Z⟩:=get i (by rw[<-E];exact(Zw.1 X).1);have e1:o'=o:=(by have:l[i]?=some o:=(dK ho);rw[U]at this;exact wE this);subst e1;rw[N]at X;simp only[wQ,UY,Up]at X;subst X;exact Z
 .have hf:∀i:Nat,(Array.replicate l.toArray.size false).getD i false=false:=λi=>by
   simp only[wC,uq];split<;>rfl
  exact⟨b6,(λi j hi=>by rw[hf]at hi;cases hi),(λi hi=>by rw[hf]at hi;cases hi),hC,Kpo.refl _,(λj d V F=>by rw[hf]at F;cases F),λ_ _=>rfl,rfl,rfl⟩
def greadyC{nt r:Nat}{l:List Oper}(hO:ops=l.toArray)(H:Oper->Act->Ω->(Act->Ω->Prop)->Prop)(step:Nat->(Act->Ω->Prop)->Act->Ω->Prop)(W:Nat->Array Bool->Act->Ω->Prop)(Y:Act->Ω->Prop)(T:Nat->Act->Ω->Prop)
 (N:∀i o K a w,ops[i]?=some o->(if Region.wanted o (yielded ops a.tmps) then H o a w K else K (a.put o.dst undef) w)->step i K a w)
 (M:∀i K K' a w,(∀a w,K a w->K' a w)->step i K a w->step i K' a w)
 (ad:∀A a w,Region.ready .any ops A=[]->Y a w->W 0 A a w)
 (hW:∀I A a w,(Region.ready .any ops A=[]->Y a w)->(∀i∈Region.ready .any ops A,step i (W I (A.setIfInBounds i true)) a w)->W (I+1) A a w)
 (hT:∀k a w,k<ops.size->T k a w->step k (T (k+1)) a w) (ac:∀a w,T ops.size a w->Y a w)
 (ag:1<=r) (S:ChkR ops (nh+r) nt) (L:∀i,i<nh->∃j,j<=nh+r/\i<j/\¬(nh<=j/\j<nh+r)/\edge ops j i=true) (G:∀i,nh<=i->i+1<nh+r->edge ops (i+1) i=true) (J:nh+r+1<ops.size->edge ops (nh+r+1) (nh+r-1)=true) (ae:yK ops (nh+r)=true) (X:nh+r+1<=ops.size)
 (O:Nat->Act->Ω->Prop) (ab:∀c a w,c<r->O c a w->step (nh+c) (O (c+1)) a w) (Q:∀a w,O r a w->T (nh+r+1) a w) (af:a0.tmps.size=nt) (hC:C w0)
 (h:walkE H a0 w0 C (λB=>(∀w,C w->Kpo.kp w0 w->finG (T (nh+r)) w B a0)/\∀c,c<r->∀w,C w->Kpo.kp w0 w->finG (λa w=>step (nh+r) (O c) a w) w (B.take (nh+c)) a0) (l.take (nh+r)) []):W ops.size (Array.replicate ops.size false) a0 w0:=by
 subst hO;have ah:nh+r+1<=l.length:=dK X
 obtain⟨B,h1,h2,h3⟩:=walkE_env _ _ h;have E:B.length=nh+r:=by rw[h1];simp;omega
 have get:∀i:Nat,i<nh+r->∃o V,l[i]?=some o/\B[i]?=some (o.dst,V)/\(∀u w w',V u w->Kpo.kp w w'->V u w')/\stepOk H a0 w0 C (B.take i) o V:=λi hi=>by have U:i<l.length:=a8;obtain⟨V,g⟩:=h2 i l[i] (by rw[wt,Vm hi];exact Zv U);exact⟨l[i],V,Zv U,dK g⟩
 refine gcoreC (nt:=nt) H step W Y T N M ad hW hT ac ag S L G J ae X O ab Q af B E (λj d V F=>?_) (λj x F=>?_) (λi o V ho hV=>?_) (dK h3.1) (dK h3.2) _ _ _ _ (List.range l.toArray.size) ?_ (λi hi _=>dK hi) b6
 .obtain⟨o,V',Z,P,g3,g4⟩:=get j (by rw[<-E];exact(Zw.1 F).1);rw[P]at F;cases F;exact g3
 .obtain⟨o,V',Z,P,g3,g4⟩:=get j (by rw[<-E];exact(Zw.1 F).1);rw[P]at F;cases F;unfold zJ;simp[Z]
 .obtain⟨o',V',Z,P,g3,g4⟩:=get i (by rw[<-E];exact(Zw.1 hV).1);have e1:o'=o:=(by have:l[i]?=some o:=(dK ho);rw[Z]at this;exact wE this);subst e1;rw[P]at hV;simp only[wQ,UY,Up]at hV;subst hV;exact g4
 .have hf:∀i:Nat,(Array.replicate l.toArray.size false).getD i false=false:=λi=>by
   simp only[wC,uq];split<;>rfl
  exact⟨b6,(λi j hi=>by rw[hf]at hi;cases hi),(λi hi=>by rw[hf]at hi;cases hi),hC,Kpo.refl _,(λj d V F=>by rw[hf]at F;cases F),λ_ _=>rfl,rfl,rfl⟩
end
end Pl
section
open Go.RowKit
inductive Ow where
 |sh
 |z
 |n (sz:Nat)
 |p (i:Nat)
 |r (n sz:Nat)
inductive PV where
 |v (x:Value)
 |agg (cs:List PV)
 |tup (cs:List PV)
 |sl (es:List (List PV)) (o:Ow)
 |cp (cs:List PV) (o:Nat)
 |bx (i o:Nat)
 |fn (f:Fn) (fs cs:List PV)
 |ifc (t:TypeId) (x:PV)
 |und
inductive Dat(D:xT)(w:World):Value->PV->Prop where
 |v (x:Value):Dat D w x (.v x)
 |und (x:Value):Dat D w x .und
 |agg (vs:Array Value) (cs:List PV) (hs:vs.size=cs.length) (h1:∀i,i<cs.length->(vs.getD i undef).oneCell'=true) (h:∀(i:Nat)(p:PV),cs[i]?=some p->Dat D w (vs.getD i undef) p):Dat D w (.agg vs) (.agg cs)
 |tup (vs:Array Value) (cs:List PV) (hs:vs.size=cs.length) (h:∀(i:Nat)(p:PV),cs[i]?=some p->Dat D w (vs.getD i undef) p):Dat D w (.tuple vs) (.tup cs)
 |fn (f:Fn) (va vb:Array Value) (fs cs:List PV) (h1:va.size=fs.length) (h2:vb.size=cs.length) (h3:∀(i:Nat)(p:PV),fs[i]?=some p->Dat D w (va.getD i undef) p) (h4:∀(i:Nat)(p:PV),cs[i]?=some p->Dat D w (vb.getD i undef) p):Dat D w (.func f va vb) (.fn f fs cs)
 |ifc (t:TypeId) (x:Value) (p:PV) (h:Dat D w x p):Dat D w (.iface t x) (.ifc t p)
 |sl (a:Option Addr) (cap sz:Nat) (es:List (List PV)) (o:Ow) (b off:Nat) (u:Nat->Value) (hc:es.length<=cap) (hz:o=.z->cap=es.length) (hm:cap<=maxLen) (ha:es≠[]->a=some ⟨b,off,none⟩)
    (hsz:∀(i:Nat)(e:List PV),es[i]?=some e->e.length=sz) (hD:∀j,j<es.length*sz->D b (off+j)/\w.cell? ⟨b,off+j,none⟩=some (u j)/\(u j).oneCell'=true)
    (h:∀(i:Nat)(e:List PV)(j:Nat)(p:PV),es[i]?=some e->e[j]?=some p->Dat D w (u (i*sz+j)) p):Dat D w (.slice a es.length cap) (.sl es o)
 |cp (b off:Nat) (cs:List PV) (o:Nat) (u:Nat->Value) (hD:∀j,j<cs.length->D b (off+j)/\w.cell? ⟨b,off+j,none⟩=some (u j)/\(u j).oneCell'=true)
    (h:∀(j:Nat)(p:PV),cs[j]?=some p->Dat D w (u j) p):Dat D w (.pointer (some ⟨b,off+o,none⟩)) (.cp cs o)
def Dat.mono{D D':xT}{w w':World}{x:Value}{p:PV}(h:Dat D w x p)(B:∀b o,D b o->D' b o)(C:∀b o x,D b o->w.cell? ⟨b,o,none⟩=some x->w'.cell? ⟨b,o,none⟩=some x):Dat D' w' x p:=by
 induction h with
 |v x=>exact .v x
 |und x=>exact .und x
 |agg vs cs hs h1 _ ih=>exact .agg vs cs hs h1 ih
 |tup vs cs hs _ ih=>exact .tup vs cs hs ih
 |fn f va vb fs cs h1 h2 _ _ ih1 ih2=>exact .fn f va vb fs cs h1 h2 ih1 ih2
 |ifc t x p _ ih=>exact .ifc t x p ih
 |sl a cap sz es o b off u hc hz hm ha hsz hd _ ih=>exact .sl a cap sz es o b off u hc hz hm ha hsz (λj A=>⟨B _ _ (hd j A).1,C _ _ _ (hd j A).1 (hd j A).2.1,(hd j A).2.2⟩) ih
 |cp b off cs o u hd _ ih=>exact .cp b off cs o u (λj A=>⟨B _ _ (hd j A).1,C _ _ _ (hd j A).1 (hd j A).2.1,(hd j A).2.2⟩) ih
def Rel1(D:xT)(ρ:Nat->Nat)(j:Nat)(w:World)(x:Value)(p:PV):Prop:=
 Dat D w x p\/∃i o,p=.bx i o/\i<j/\x=.pointer (some ⟨ρ i,o,none⟩)
def Rel(D:xT)(ρ:Nat->Nat)(nb:Nat)(w:World)(x:Value)(p:PV):Prop:=
 Rel1 D ρ nb w x p\/∃f u A o j,p=.fn f o j/\x=.func f u A/\u.size=o.length/\A.size=j.length/\(∀i q,o[i]?=some q->Rel1 D ρ nb w (u.getD i undef) q)/\(∀i q,j[i]?=some q->Rel1 D ρ nb w (A.getD i undef) q)
def Rel1.mono{D D':xT}{ρ ρ':Nat->Nat}{u j:Nat}{w w':World}{x:Value}{p:PV}(h:Rel1 D ρ u w x p)(A:∀b o,D b o->D' b o)(B:∀b o x,D b o->w.cell? ⟨b,o,none⟩=some x->w'.cell? ⟨b,o,none⟩=some x)
 (E:u<=j) (C:∀i,i<u->ρ' i=ρ i):Rel1 D' ρ' j w' x p:=by
 rcases h with h|⟨i,o,rfl,hi,rfl⟩
 .exact .inl (h.mono A B)
 .exact .inr ⟨i,o,rfl,a8,by rw[C i hi]⟩
def Rel.mono{D D':xT}{ρ ρ':Nat->Nat}{F j:Nat}{w w':World}{x:Value}{p:PV}(h:Rel D ρ F w x p)(u:∀b o,D b o->D' b o)(C:∀b o x,D b o->w.cell? ⟨b,o,none⟩=some x->w'.cell? ⟨b,o,none⟩=some x)
 (A:F<=j) (E:∀i,i<F->ρ' i=ρ i):Rel D' ρ' j w' x p:=by
 rcases h with h|⟨f,M,N,H,G,rfl,rfl,I,J,K,L⟩
 .exact .inl (h.mono u C A E)
 .exact .inr ⟨f,M,N,H,G,rfl,rfl,I,J,λi q B=>(K i q B).mono u C A E,λi q B=>(L i q B).mono u C A E⟩
def Rel.dat{D:xT}{ρ:Nat->Nat}{nb:Nat}{w:World}{x:Value}{p:PV}(h:Dat D w x p):Rel D ρ nb w x p:=.inl (.inl h)
def PV.own:PV->Option Nat
 |.sl _ (.r n _)=>some n
 |_=>none
def PV.isB:PV->Bool
 |.bx _ _=>true
 |_=>false
def PV.isD:PV->Bool
 |.bx _ _=>false
 |.fn _ fs cs=>fs.all (λp=>!p.isB) && cs.all (λp=>!p.isB)
 |_=>true
def PV.strip:PV->PV
 |.sl es (.r _ _)=>.sl es .sh
 |.sl es (.n _)=>.sl es .sh
 |.sl es (.p _)=>.sl es .sh
 |p=>p
def PV.sh:PV->PV
 |.sl es _=>.sl es .sh
 |p=>p
def PV.strip_own(p:PV):p.strip.own=none:=by
 cases p<;>try rfl
 rename_i o;cases o<;>rfl
def PV.isN:PV->Bool
 |.sl _ (.n _)=>true
 |.sl _ (.p _)=>true
 |_=>false
def PV.strip_isN(p:PV):p.strip.isN=false:=by
 cases p<;>try rfl
 rename_i o;cases o<;>rfl
def NewOk(B:Nat->Value)(A:Nat)(w:World)(x:Value):PV->Prop
 |.sl es (.p i)=>∃u len j,B i=.slice u len j/\x=.slice u es.length j
 |.sl es (.n sz)=>(∃u,x=.slice u es.length es.length)\/∃g j o e,A<=g/\x=.slice (some ⟨g,0,none⟩) es.length j/\w.heap[g]?=some (.cells o e (0,0))/\o.size=j*sz
 |_=>True
def xA{u:Nat->Value}{j:Nat}{w:World}{x:Value}{p:PV}(h:p.isN=false):NewOk u j w x p:=by
 cases p<;>try trivial
 rename_i o;cases o<;>first|trivial|cases h
def NewOk.mono{E:Nat->Value}{B C:Nat}{w w':World}{x:Value}{p:PV}(h:NewOk E B w x p)(J:C<=B)(H:∀k,k<w.heap.size->w'.heap[k]?=w.heap[k]?):NewOk E C w' x p:=by
 cases p<;>try trivial
 rename_i es o;cases o<;>first|exact h|skip
 rcases h with h|⟨g,j,u,e,I,F,A,G⟩
 .exact .inl h
 .exact .inr ⟨g,j,u,e,a8,F,(H g (Yf.1 A).1).trans A,G⟩
def Dat.strip{D:xT}{w:World}{x:Value}{p:PV}(h:Dat D w x p):Dat D w x p.strip:=by
 cases h with
 | sl a cap sz es o b off u hc hz hm ha hsz hD h=>
   cases o with
   |sh=>exact .sl a cap sz es _ b off u hc hz hm ha hsz hD h
   |z=>exact .sl a cap sz es _ b off u hc hz hm ha hsz hD h
   |n m=>exact .sl a cap sz es _ b off u hc (λh=>by cases h) hm ha hsz hD h
   |p m=>exact .sl a cap sz es _ b off u hc (λh=>by cases h) hm ha hsz hD h
   |r n m=>exact .sl a cap sz es _ b off u hc (λh=>by cases h) hm ha hsz hD h
 |v x=>exact .v x
 |und x=>exact .und x
 |agg vs cs hs h1 h=>exact .agg vs cs hs h1 h
 |tup vs cs hs h=>exact .tup vs cs hs h
 |fn f va vb fs cs h1 h2 h3 h4=>exact .fn f va vb fs cs h1 h2 h3 h4
 |ifc t x p h=>exact .ifc t x p h
 |cp b off cs o u hD h=>exact .cp b off cs o u hD h
def Dat.sh{D:xT}{w:World}{x:Value}{p:PV}(h:Dat D w x p):Dat D w x p.sh:=by
 cases h with
 |sl a cap sz es o b off u hc hz hm ha hsz hD h=>exact .sl a cap sz es _ b off u hc (λh=>by cases h) hm ha hsz hD h
 |v x=>exact .v x
 |und x=>exact .und x
 |agg vs cs hs h1 h=>exact .agg vs cs hs h1 h
 |tup vs cs hs h=>exact .tup vs cs hs h
 |fn f va vb fs cs h1 h2 h3 h4=>exact .fn f va vb fs cs h1 h2 h3 h4
 |ifc t x p h=>exact .ifc t x p h
 |cp b off cs o u hD h=>exact .cp b off cs o u hD h
def Dat.owned{D:xT}{w:World}{x:Value}{j:List (List PV)}{k:Ow}(h:Dat D w x (.sl j k))(n m:Nat):Dat D w x (.sl j (.r n m)):=by
 cases h with
 |sl a cap sz j o b off u hc hz hm ha hsz hD h=>exact .sl a cap sz j _ b off u hc (λh=>by cases h) hm ha hsz hD h
def PV.sh_own(p:PV):p.sh.own=none:=by cases p<;>rfl
def PV.sh_isD(p:PV):p.sh.isD=p.isD:=by cases p<;>rfl
def Rel1.strip{D:xT}{ρ:Nat->Nat}{j:Nat}{w:World}{x:Value}{p:PV}(h:Rel1 D ρ j w x p):Rel1 D ρ j w x p.strip:=by
 rcases h with h|⟨i,o,rfl,hi,rfl⟩
 .exact .inl h.strip
 .exact .inr ⟨i,o,rfl,hi,rfl⟩
def Rel.strip{D:xT}{ρ:Nat->Nat}{j:Nat}{w:World}{x:Value}{p:PV}(h:Rel D ρ j w x p):Rel D ρ j w x p.strip:=by
 rcases h with h|⟨f,A,B,u,o,rfl,h⟩
 .exact .inl h.strip
 .exact .inr ⟨f,A,B,u,o,rfl,h⟩
def yW(D:xT)(W:Nat->Prop)(w:World)(x:Value):PV->Prop
 |.sl es (.r _ sz)=>(∃a,x=.slice a 0 0/\es=[])\/∃g j u e,x=.slice (some ⟨g,0,none⟩) es.length j/\W g/\w.heap[g]?=some (.cells u e (0,0))/\u.size=j*sz/\(∀e∈es,e.length=sz)/\∀o,es.length*sz<=o->¬D g o
 |_=>True
def zr{D:xT}{W:Nat->Prop}{w:World}{x:Value}{p:PV}(h:p.own=none):yW D W w x p:=by
 cases p<;>try trivial
 rename_i o;cases o<;>first|trivial|cases h
def zc:Value->Option Nat
 |.slice (some a) _ (_+1)=>some a.block
 |_=>Option.none
def Dat.restrict{D:xT}{w:World}{x:Value}{p:PV}(h:Dat D w x p):Dat (λb o=>D b o/\b<w.heap.size) w x p:=by
 induction h with
 |v x=>exact .v x
 |und x=>exact .und x
 |agg vs cs hs h1 _ ih=>exact .agg vs cs hs h1 ih
 |tup vs cs hs _ ih=>exact .tup vs cs hs ih
 |fn f va vb fs cs h1 h2 _ _ ih1 ih2=>exact .fn f va vb fs cs h1 h2 ih1 ih2
 |ifc t x p _ ih=>exact .ifc t x p ih
 |sl a cap sz es o b off u hc hz hm ha hsz hd _ ih=>exact .sl a cap sz es o b off u hc hz hm ha hsz (λj A=>⟨⟨(hd j A).1,tr w ⟨b,off+j,_⟩ (hd j A).2.1⟩,(hd j A).2⟩) ih
 |cp b off cs o u hd _ ih=>exact .cp b off cs o u (λj A=>⟨⟨(hd j A).1,tr w ⟨b,off+j,_⟩ (hd j A).2.1⟩,(hd j A).2⟩) ih
def Rel1.restrict{D:xT}{ρ:Nat->Nat}{j:Nat}{w:World}{x:Value}{p:PV}(h:Rel1 D ρ j w x p):Rel1 (λb o=>D b o/\b<w.heap.size) ρ j w x p:=by
 rcases h with h|h
 .exact .inl h.restrict
 .exact .inr h
def Rel.restrict{D:xT}{ρ:Nat->Nat}{u:Nat}{w:World}{x:Value}{p:PV}(h:Rel D ρ u w x p):Rel (λb o=>D b o/\b<w.heap.size) ρ u w x p:=by
 rcases h with h|⟨f,J,K,B,A,C,E,F,G,H,I⟩
 .exact .inl h.restrict
 .exact .inr ⟨f,J,K,B,A,C,E,F,G,λi q j=>(H i q j).restrict,λi q j=>(I i q j).restrict⟩
def Dat.isD{D:xT}{w:World}{x:Value}{p:PV}(h:Dat D w x p):p.isD=true:=by
 have o:∀{x p},Dat D w x p->p.isB=false:=λh=>by cases h<;>rfl
 cases h<;>try rfl
 rename_i f va vb fs cs h1 h2 h3 h4;simp only[PV.isD,VS,wN,Wo];exact⟨λp j=>by obtain⟨i,hi⟩:=wK j;exact o (h3 i p hi),λp j=>by obtain⟨i,hi⟩:=wK j;exact o (h4 i p hi)⟩
def Rel1.data{D:xT}{ρ:Nat->Nat}{u:Nat}{w:World}{x:Value}{p:PV}(h:Rel1 D ρ u w x p)(j:p.isB=false):Dat D w x p:=by
 rcases h with h|⟨i,o,rfl,_⟩
 .exact h
 .cases j
def Rel.data{D:xT}{ρ:Nat->Nat}{H:Nat}{w:World}{x:Value}{p:PV}(h:Rel D ρ H w x p)(u:p.isD=true):Dat D w x p:=by
 rcases h with h|⟨f,I,J,B,A,rfl,rfl,C,E,F,G⟩
 .rcases h with h|⟨i,o,rfl,_⟩
  .exact h
  .cases u
 .simp only[PV.isD,VS,wN,Wo]at u;exact .fn f I J B A C E (λi q j=>(F i q j).data (u.1 q (wO j))) (λi q j=>(G i q j).data (u.2 q (wO j)))
def Rel.v_inv{D:xT}{ρ:Nat->Nat}{j:Nat}{w:World}{x y:Value}(h:Rel D ρ j w x (.v y)):x=y:=by
 rcases h with(h|⟨i,o,h,_⟩)|⟨f,va,vb,fs,cs,h,_⟩
 .cases h;rfl
 .cases h
 .cases h
def PV.pre(i:Nat):PV->PV
 |.sl es (.r _ _)=>.sl es (.p i)
 |p=>p.strip
def PV.pre_or(i:Nat)(p:PV):p.pre i=p.strip\/∃j n m,p=.sl j (.r n m)/\p.pre i=.sl j (.p i):=by
 cases p<;>try exact .inl rfl
 rename_i j o;cases o<;>first|exact .inl rfl|exact .inr ⟨_,_,_,rfl,rfl⟩
def PV.clean:PV->PV
 |.sl es (.n _)=>.sl es .sh
 |.sl es (.p _)=>.sl es .sh
 |p=>p
def PV.clean_or(p:PV):p.clean=p.strip\/p.clean=p:=by
 cases p<;>try exact .inr rfl
 rename_i es o;cases o<;>first|exact .inl rfl|exact .inr rfl
def PV.clean_isN(p:PV):p.clean.isN=false:=by
 cases p<;>try rfl
 rename_i es o;cases o<;>rfl
end
end Go.Proofs.YtmpnbdhadjfbhaaGreatDoor
