import Derived.Test.YtmpnbdhadjfbhaaGreatDoorB2
set_option maxHeartbeats 16000000
set_option linter.all false
namespace Go.Proofs.YtmpnbdhadjfbhaaGreatDoor
def tr:=@Go.RowKit.Below.refl
def Tq:=@Go.wpOp_mono
def TQ:=@Go.wp_region_any
open Go.Proofs.Tryz
open Go.Proofs.Tryz renaming prog->xT
namespace Pl
open Go.RowKit
set_option linter.unusedSectionVars false
abbrev VP(Ω:Type):=Value->Ω->Prop
class Kpo (Ω:Type) where
 kp:Ω->Ω->Prop
 refl:∀w,kp w w
 trans:∀a b c,kp a b->kp b c->kp a c
variable {Ω:Type}[Kpo Ω]
def lk:List (Option Tmp×VP Ω)->Tmp->Option (VP Ω)
 |[],_=>none
 |(d,V)::r,t=>if d=some t then some V else lk r t
def Rds(env:List (Option Tmp×VP Ω))(a0:Act):List Tmp->Act->Ω->Prop
 |[],_,_=>True
 |t::ts,a,w=>(match lk env t with|some V=>∃u,RdEq a t u/\V u w|none=>RdEq a t (a0.tmps.getD t undef))/\Rds env a0 ts a w
def headOk(y:Oper->Act->Ω->(Act->Ω->Prop)->Prop)(a0:Act)(w0:Ω)(C:Ω->Prop)(env:List (Option Tmp×VP Ω))(o:Oper)(V:VP Ω):Prop:=
 ∀a w,C w->Kpo.kp w0 w->Rds env a0 (zA o) a w->∀K:Act->Ω->Prop,(∀u j,Kpo.kp w j->C j->V u j->K (a.put o.dst u) j)->y o a w K
def isV(env:List (Option Tmp×VP Ω))(j:Nat)(x:Value):Prop:=match env[j]? with|some (_,V)=>∀u w,V u w->u=x|none=>False
def stepOk(w:Oper->Act->Ω->(Act->Ω->Prop)->Prop)(a0:Act)(w0:Ω)(C:Ω->Prop)(env:List (Option Tmp×VP Ω))(o:Oper)(V:VP Ω):Prop:=
 match o.guard with
 |none=>headOk w a0 w0 C env o V
 |some (j,b)=>(isV env j (.bool b)/\headOk w a0 w0 C env o V)\/((isV env j (.bool !b)\/isV env j undef)/\V=λu _=>u=undef)
def finG(F:Act->Ω->Prop)(w:Ω):List (Option Tmp×VP Ω)->Act->Prop
 |[],a=>F a w
 |(none,_)::r,a=>finG F w r a
 |(some d,V)::r,a=>∀u,V u w->finG F w r (a.put (some d) u)
def walkG(j:Oper->Act->Ω->(Act->Ω->Prop)->Prop)(a0:Act)(w0:Ω)(C:Ω->Prop)(F:Act->Ω->Prop):List Oper->List (Option Tmp×VP Ω)->Prop
 |[],env=>∀w,C w->Kpo.kp w0 w->finG F w env a0
 |o::l,env=>∃V:VP Ω,(∀u w y,V u w->Kpo.kp w y->V u y)/\stepOk j a0 w0 C env o V/\walkG j a0 w0 C F l (env++[(o.dst,V)])
structure GI(ops:Array Oper)(nh:Nat)(a0:Act)(w0:Ω)(C:Ω->Prop)(env:List (Option Tmp×VP Ω))(listed:Array Bool)(a:Act)(w:Ω):Prop where
 size:listed.size=ops.size
 closed:∀i j,listed.getD i false=true->edge ops i j=true->listed.getD j false=true
 heads:∀i,listed.getD i false=true->i<nh
 c:C w
 keep:Kpo.kp w0 w
 vals:∀j d V,listed.getD j false=true->env[j]?=some (some d,V)->V (a.tmps.getD d undef) w
 rest:∀t,(∀j,listed.getD j false=true->zJ ops j≠some t)->a.tmps.getD t undef=a0.tmps.getD t undef
 tsize:a.tmps.size=a0.tmps.size
 defers:a.defers=a0.defers
section
variable {ops:Array Oper}{nh:Nat}{a0:Act}{w0:Ω}{C:Ω->Prop}
def lk_some{env:List (Option Tmp×VP Ω)}{t:Tmp}{V:VP Ω}(h:lk env t=some V):∃j:Nat,env[j]?=some (some t,V):=by
 induction env with
 |nil=>cases h
 | cons x r ih=>
   obtain⟨d,u⟩:=x;unfold lk at h;split at h
   .rename_i e;cases h;exact⟨0,by simp[e]⟩
   .obtain⟨j,o⟩:=ih h;exact⟨j+1,dJ o⟩
def lk_none{env:List (Option Tmp×VP Ω)}{t:Tmp}(h:lk env t=none):∀(j:Nat) V,env[j]?≠some (some t,V):=by
 induction env with
 |nil=>intro j V;simp
 | cons x r ih=>
   obtain⟨d,u⟩:=x;unfold lk at h;split at h
   .cases h
   .rename_i e;intro j V;cases j with
    |zero=>simp;intro o;exact absurd o e
    |succ j=>simpa using ih h j V
def ChkR(ops:Array Oper)(nh u:Nat):Prop:=∀i,i<nh->∃o,ops[i]?=some o/\(∀t∈zA o,yB ops nh i t=true) /\
 (∀j b,o.guard=some (j,b)->j<i/\edge ops i j=true/\(zJ ops j).isSome)/\(∀d,o.dst=some d->d<u/\∀j,j<nh->zJ ops j=some d->j=i)
omit [Kpo Ω] in
def chkR_of{j:Nat}(h:xk ops nh j=true):ChkR ops nh j:=λi hi=>by obtain⟨o,u,w,y,A,_⟩:=chk_at h hi;exact⟨o,u,w,y,A⟩
def GI.rds{nt i:Nat}{o:Oper}{env G:List (Option Tmp×VP Ω)}{y:Array Bool}{a:Act}{w:Ω}(U:GI ops nh a0 w0 C G y a w)(H:ChkR ops nh nt)
 (hi:i<nh) (ho:ops[i]?=some o) (Q:y.getD i false=false) (F:∀j,edge ops i j=true->y.getD j false=true)
 (N:env.length=i) (O:∀j:Nat,j<i->G[j]?=env[j]?) (I:∀(j:Nat) x,env[j]?=some x->zJ ops j=x.1) :
 ∀T:List Tmp,(∀t∈T,yB ops nh i t=true)->Rds env a0 T a w:=by
 intro T;induction T with
 |nil=>intro _;trivial
 | cons t T ih=>
   intro P;refine⟨?_,ih λt' h'=>P t' (by simp[h'])⟩;have B:=P t b6;unfold yB at B;cases hl:lk env t with
   |some V=>obtain⟨j,Y⟩:=lk_some hl;have K:j<i:=(by rw[<-N];exact(Zw.1 Y).1);have u:=I j _ Y;obtain⟨A,S⟩:=jw (nh:=nh) (show j<nh by omega) u;obtain⟨Z,w2⟩:=xf S;obtain⟨oj,J,_,_,X⟩:=H j (show j<nh by omega);have:A=j:=(X t (by unfold zJ at u;rw[J]at u;exact u)).2 A Z w2;subst this;simp only[S,vD K]at B;have:=U.vals A t V (F A B) (by rw[O A K];exact Y);exact⟨_,RdEq.of rfl,this⟩
   | none=>
     refine RdEq.of (U.rest t λj E u=>?_);have M:=U.heads j E;obtain⟨A,S⟩:=jw M u;obtain⟨Z,w2⟩:=xf S;obtain⟨oj,J,_,_,X⟩:=H _ M;have:A=j:=(X t (by unfold zJ at u;rw[J]at u;exact u)).2 A Z w2;subst this;simp only[S]at B;by_cases h1:A<i
     .have L:A<env.length:=a8;have:=I A _ (Zv L);rw[u]at this;exact lk_none hl A env[A].2 (by rw[Zv L];congr 1;exact Um this.symm rfl)
     .rw[Vq h1]at B;by_cases h2:i<A
      .rw[vD h2]at B;have:=U.closed A i E B;rw[Q]at this;cases this
      .have:A=i:=a8;subst this;rw[Q]at E;cases E
def GI.step{nt i:Nat}{o:Oper}{V:VP Ω}{env:List (Option Tmp×VP Ω)}{y:Array Bool}{a:Act}{w I:Ω}{u:Value}(B:GI ops nh a0 w0 C env y a w)(K:ChkR ops nh nt)
 (T:a0.tmps.size=nt) (hi:i<nh) (ho:ops[i]?=some o) (Y:y.getD i true=false) (H:∀j,edge ops i j=true->y.getD j false=true)
 (X:∀(j:Nat) d V,env[j]?=some (d,V)->∀u w I,V u w->Kpo.kp w I->V u I) (M:∀(j:Nat) x,env[j]?=some x->zJ ops j=x.1)
 (hV:env[i]?=some (o.dst,V)) (hk:Kpo.kp w I) (hc:C I) (hu:V u I):GI ops nh a0 w0 C env (y.setIfInBounds i true) (a.put o.dst u) I:=by
 obtain⟨hf,N⟩:=zx Y;have S:∀j,(y.setIfInBounds i true).getD j false=true->j=i\/y.getD j false=true:=λj A=>by
  by_cases e:j=i
  .exact .inl e
  .exact .inr (by rwa[zj e]at A)
 have G:∀j,y.getD j false=true->(y.setIfInBounds i true).getD j false=true:=λj A=>by
  by_cases e:j=i
  .subst e;exact zl N
  .rwa[zj e]
 obtain⟨O,U,_,_,Z⟩:=K _ hi;obtain rfl:O=o:=wA (U.symm.trans ho);refine⟨by simp[B.size],?_,?_,hc,Kpo.trans _ _ _ B.keep hk,?_,?_,?_,?_⟩
 .intro j k A he;rcases S j A with rfl|A
  .exact G _ (H k he)
  .exact G _ (B.closed j k A he)
 .intro j A;rcases S j A with rfl|A
  .exact hi
  .exact B.heads j A
 .intro j d V' A E;have P:=M j _ E;rcases S j A with rfl|F
  .have J:=hV.symm.trans E;simp only[wN,UV]at J;obtain⟨L,rfl⟩:=J;rw[L,yh (by rw[B.tsize,T];exact(Z d L).1)];exact hu
  .have:=X j _ _ E _ _ _ (B.vals j d V' F E) hk;cases hod:O.dst with
   |none=>exact this
   | some d'=>
     rw[qn]
     .exact this
     .intro e;subst e;have Q:=B.heads j F;have:=(Z d hod).2 j Q P;subst this;rw[hf]at F;cases F
 .intro t ht;cases hod:O.dst with
  |none=>exact B.rest t λj A=>ht j (G j A)
  | some d'=>
    rw[qn]
    .exact B.rest t λj A=>ht j (G j A)
    .intro e;subst e;exact ht i (zl N) (by unfold zJ;rw[ho];exact hod)
 .rw[<-B.tsize];cases O.dst<;>simp[Act.put]
 .rw[<-B.defers];cases O.dst<;>simp[Act.put]
def fillA(a:Act)(b:Act)(x:Option Tmp×VP Ω):Act:=match x.1 with|none=>b|some d=>b.put (some d) (a.tmps.getD d undef)
def finG_fill{F:Act->Ω->Prop}{w:Ω}{a:Act}:∀(env:List (Option Tmp×VP Ω))(b:Act),finG F w env b->(∀d V,(some d,V)∈env->V (a.tmps.getD d undef) w)->F (env.foldl (fillA a) b) w
 |[],_,h,_=>h
 |(none,_)::r,b,h,hv=>finG_fill r b h λd V j=>hv d V (by simp[j])
 |(some d,V)::r,b,h,hv=>finG_fill r _ (h _ (hv d V b6)) λd V j=>hv d V (by simp[j])
def fill_getD{a:Act}(t:Tmp):∀(env:List (Option Tmp×VP Ω))(b:Act),t<b.tmps.size->((∃V,(some t,V)∈env)\/b.tmps.getD t undef=a.tmps.getD t undef) ->
 (env.foldl (fillA a) b).tmps.getD t undef=a.tmps.getD t undef
 |[],b,_,h=>h.resolve_left (by rintro⟨V,j⟩;cases j)
 |(none,V)::r,b,hs,h=>fill_getD t r b hs (by
     rcases h with⟨o,j⟩|h
     .simp at j;exact .inl ⟨o,j⟩
     .exact .inr h)
 |(some d,V)::r,b,hs,h=>fill_getD t r (b.put (some d) (a.tmps.getD d undef)) (by simpa[Act.put]using hs) (by
     by_cases e:t=d
     .subst e;exact .inr (yh hs)
     .rcases h with⟨o,j⟩|h
      .simp[e]at j;exact .inl ⟨o,j⟩
      .exact .inr ((qn e).trans h))
def fill_size{a:Act}:∀(env:List (Option Tmp×VP Ω))(b:Act),(env.foldl (fillA a) b).tmps.size=b.tmps.size/\(env.foldl (fillA a) b).defers=b.defers
 |[],_=>⟨rfl,rfl⟩
 |(none,_)::r,b=>fill_size r b
 |(some d,V)::r,b=>by have:=fill_size (a:=a) r (b.put (some d) (a.tmps.getD d undef));exact⟨this.1.trans (by simp[Act.put]),this.2.trans (by simp[Act.put])⟩
def GI.fin{F:Act->Ω->Prop}{env:List (Option Tmp×VP Ω)}{o:Array Bool}{a:Act}{w:Ω}(u:GI ops nh a0 w0 C env o a w)(G:env.length=nh)
 (B:∀(j:Nat) x,env[j]?=some x->zJ ops j=x.1) (A:∀i,i<nh->o.getD i false=true)
 (L:finG F w env a0):F a w:=by
 have J:=finG_fill (a:=a) env a0 L λd V N=>by obtain⟨j,y⟩:=wI N;exact u.vals j d V (A j (by rw[<-G];exact(Zw.1 y).1)) y
 have K:env.foldl (fillA a) a0=a:=by
  obtain⟨O,P⟩:=fill_size (a:=a) env a0;refine Act.ext' (O.trans u.tsize.symm) (P.trans u.defers.symm) λt ht=>fill_getD t env a0 (by rw[<-u.tsize];exact ht) ?_;by_cases I:∃j,o.getD j false=true/\zJ ops j=some t
  .obtain⟨j,y,H⟩:=I;have M:=u.heads j y;have E:j<env.length:=a8;have:=B j _ (Zv E);rw[H]at this;exact .inl ⟨env[j].2,by rw[show (some t,env[j].2)=env[j] from Um this rfl];exact Y1 E⟩
  .exact .inr (u.rest t λj y H=>I ⟨j,y,H⟩).symm
 rwa[K]at J
def isV_of{env o:List (Option Tmp×VP Ω)}{i j:Nat}{x:Value}(h:isV env j x)(u:∀j:Nat,j<i->o[j]?=env[j]?)(w:j<i):isV o j x:=by unfold isV at *;rw[u j w];exact h
def gcore{nt:Nat}(au:Oper->Act->Ω->(Act->Ω->Prop)->Prop)(step:Nat->(Act->Ω->Prop)->Act->Ω->Prop)(W:Nat->Array Bool->Act->Ω->Prop)(Qn:Act->Ω->Prop)(T:Nat->Act->Ω->Prop)
 (af:∀i o K a w,ops[i]?=some o->(if Region.wanted o (yielded ops a.tmps) then au o a w K else K (a.put o.dst undef) w)->step i K a w)
 (ae:∀i K K' a w,(∀a w,K a w->K' a w)->step i K a w->step i K' a w)
 (ax:∀y a w,Region.ready .any ops y=[]->Qn a w->W 0 y a w)
 (hW:∀A y a w,(Region.ready .any ops y=[]->Qn a w)->(∀i∈Region.ready .any ops y,step i (W A (y.setIfInBounds i true)) a w)->W (A+1) y a w)
 (hT:∀k a w,k<ops.size->T k a w->step k (T (k+1)) a w) (ag:∀a w,T ops.size a w->Qn a w)
 (F:xk ops nh nt=true) (O:yK ops nh=true) (aF:nh<=ops.size) (ao:a0.tmps.size=nt) (env:List (Option Tmp×VP Ω)) (am:env.length=nh)
 (aL:∀(j:Nat) d V,env[j]?=some (d,V)->∀u w U,V u w->Kpo.kp w U->V u U) (G:∀(j:Nat) x,env[j]?=some x->zJ ops j=x.1)
 (aJ:∀(i:Nat) o V,ops[i]?=some o->env[i]?=some (o.dst,V)->stepOk au a0 w0 C (env.take i) o V)
 (aj:∀w,C w->Kpo.kp w0 w->finG (T nh) w env a0) :
 ∀(A:Nat)(y:Array Bool)(a:Act)(w:Ω)(S:List Nat),GI ops nh a0 w0 C env y a w->(∀i,i<ops.size->y.getD i false=false->i∈S)->S.length<=A->W A y a w:=by
 -- the tail
 have tail:∀(A k:Nat)(y:Array Bool)(a:Act)(w:Ω),y.size=ops.size->(∀i,y.getD i false=true↔i<k)->nh<=k->k<=ops.size->ops.size-k<=A->T k a w->W A y a w:=by
  intro A;induction A with
  |zero=>intro k y a w hs hl _ hk hf ht;obtain rfl:k=ops.size:=a8;refine ax _ _ _ ?_ (ag _ _ ht);refine Wv.2 λi hi=>?_;obtain⟨I,N,_⟩:=zo hi;have:=(zx I).1;rw[(hl i).2 N]at this;cases this
  | succ A ih=>
    intro k y a w hs hl hn hk hf ht;by_cases aD:k=ops.size
    .subst aD;have an:Region.ready .any ops y=[]:=Wv.2 λi hi=>by obtain⟨I,N,_⟩:=zo hi;have:=(zx I).1;rw[(hl i).2 N]at this;cases this
     exact hW _ _ _ _ (λ_=>ag _ _ ht) λi hi=>by rw[an]at hi;cases hi
    .refine hW _ _ _ _ (λh0=>?_) λi hi=>?_
     .exfalso;have hu:y.getD k false=false:=by
       cases h:y.getD k false with
       |false=>rfl
       |true=>have:=(hl k).1 h;omega
      obtain⟨j,J⟩:=qh O hs k a8 hu;rw[h0]at J;cases J
     .obtain⟨I,N,_,X⟩:=zo hi;have aR:¬i<k:=λh=>(by have:=(zx I).1;rw[(hl i).2 h]at this;cases this);have:i=k:=by
       rcases (qP O N).1 with h|h
       .omega
       .have:=(hl _).1 (X _ h);omega
      subst this;refine ae _ _ _ _ _ (λa' U aM=>ih (i+1) _ _ _ (by simp[hs]) (λj=>?_) a8 a8 a8 aM) (hT i a w N ht);by_cases e:j=i
      .subst e;simp[zl (zx I).2]
      .rw[zj e,hl];omega
 intro A;have av:∀(y:Array Bool)(a:Act)(w:Ω),GI ops nh a0 w0 C env y a w->nh∈Region.ready .any ops y->∀(n i:Nat),nh-i=n->i<nh->y.getD i false=true:=by
  intro y a w E hr n;obtain⟨I,N,_,X⟩:=zo hr;induction n using Nat.strongRecOn with
  |_ n ih=>
    intro i hn hi;obtain⟨_,_,_,_,_,h4⟩:=chk_at F hi;rcases h4 with h4|⟨j,J,aQ,he⟩
    .omega
    .by_cases e:j=nh
     .subst e;exact X i he
     .exact E.closed j i (ih (nh-j) a8 j rfl a8) he
 have full:∀(A:Nat)(y:Array Bool)(a:Act)(w:Ω),GI ops nh a0 w0 C env y a w->(∀i,i<nh->y.getD i false=true)->ops.size-nh<=A->W A y a w:=by intro A y a w E B hf;exact tail A nh y a w E.size (λi=>⟨E.heads i,B i⟩) (Zp _) aF hf (E.fin am G B (aj w E.c E.keep))
 induction A with
 | zero=>
   intro y a w S E hS hf;have B:∀i,i<ops.size->y.getD i false=true:=λi hi=>by
    cases h:y.getD i false with
    |true=>rfl
    |false=>have:=hS i hi h;rw[wH (a8:S.length=0)]at this;cases this
   have:nh=ops.size:=(by apply wT;intro aS;have:=E.heads nh (B nh a8);omega);exact full 0 y a w E (λi hi=>B i a8) a8
 | succ A ih=>
   intro y a w S E hS hf;by_cases B:∀i,i<nh->y.getD i false=true
   ·-- all of the head has come
    refine full _ y a w E B ?_;have aq:(List.range' nh (ops.size-nh))⊆S:=λi hi=>by
     simp only[uF]at hi;refine hS i a8 ?_;cases h:y.getD i false with
     |false=>rfl
     |true=>have:=E.heads i h;omega
    have aE:(List.range' nh (ops.size-nh)).Nodup:=uX;have:=qM _ _ aE aq;simp at this;omega
   ·have ar:∃i,i<nh/\y.getD i false=false:=by
     apply wT;intro hn;refine B λi hi=>?_;cases h:y.getD i false with
     |true=>rfl
     |false=>exact absurd ⟨i,hi,h⟩ hn
    refine hW _ _ _ _ (λh0=>?_) λi hi=>?_
    .exfalso;obtain⟨i,hi,hu⟩:=ar;obtain⟨j,J⟩:=qh O E.size i a8 hu;rw[h0]at J;cases J
    .obtain⟨I,N,⟨o,ho⟩,X⟩:=zo hi;have ac:i<nh:=by
      apply wT;intro aP;have aG:i=nh:=by
       rcases (qP O N).1 with h|h
       .omega
       .have:=E.heads _ (X _ h);omega
      subst aG;obtain⟨j,J,hu⟩:=ar;rw[av y a w E hi _ j rfl J]at hu;cases hu
     obtain⟨o',aH,aK,aA,_,_⟩:=chk_at F ac;obtain rfl:o'=o:=wA (aH.symm.trans ho);have ak:i<env.length:=a8;have ah:env[i]?=some (o'.dst,env[i].2):=(by have:=G i _ (Zv ak);unfold zJ at this;rw[ho]at this;rw[Zv ak];exact W8 some (Um this.symm rfl));have Y:∀j:Nat,j<i->env[j]?=(env.take i)[j]?:=λj J=>(by rw[wt,vD J]);have Z:=E.rds (env:=env.take i) (chkR_of F) ac ho (zx I).1 X a9 Y (λj x H=>G j x (by rw[wt]at H;split at H;exact H;cases H)) (zA o') aK;have L:=aJ i o' _ ho ah;have ab:∀u U,Kpo.kp w U->C U->env[i].2 u U->W A (y.setIfInBounds i true) (a.put o'.dst u) U:=λu U hk hc hu=>
      ih _ _ _ (S.erase i) (E.step (chkR_of F) ao ac ho I X aL G ah hk hc hu) (λj J Q=>by
       have P:j≠i:=λe=>(by subst e;rw[zl (zx I).2]at Q;cases Q);rw[zj P]at Q;exact(WX P).2 (hS j J Q)) (by rw[WF (hS i N (zx I).1)];omega)
     refine af i o' _ a w ho ?_;unfold stepOk at L;cases hgu:o'.guard with
     |none=>simp only[hgu]at L;rw[vD (by simp[Region.wanted,hgu])];exact L a w E.c E.keep Z _ ab
     | some jb=>
       obtain⟨j,b⟩:=jb;simp only[hgu]at L;obtain⟨P,aC,aB⟩:=aA j b hgu;obtain⟨d,hd⟩:=wX.1 aB;have ad:j<env.length:=a8;have ai:=G j _ (Zv ad);rw[hd]at ai;have aN:=E.vals j d env[j].2 (X j aC) (by rw[Zv ad];exact W8 some (Um ai.symm rfl));obtain⟨oj,aI,_,_,ay,_⟩:=chk_at F (show j<nh by omega);have az:d<a.tmps.size:=(by rw[E.tsize,ao];exact(ay d (by unfold zJ at hd;rw[aI]at hd;exact hd)).1);have hy:=yS (tmps:=a.tmps) hd az;have M:∀x,isV (env.take i) j x->a.tmps.getD d undef=x:=λx H=>(by have:=isV_of H Y P;unfold isV at this;rw[Zv ad]at this;exact this _ _ aN);rcases L with⟨H,hh⟩|⟨H,aw⟩
       .have:=M _ H;rw[this]at hy;rw[vD (by simp[Region.wanted,hgu,hy])];exact hh a w E.c E.keep Z _ ab
       .have aO:yielded ops a.tmps j≠some b:=by
         rcases H with H|H
         .have:=M _ H;rw[this]at hy;rw[hy];cases b<;>simp
         .have:=M _ H;rw[this]at hy;rw[hy];simp[undef]
        rw[Vq (by simp[Region.wanted,hgu];exact aO)];exact ab undef w (Kpo.refl _) E.c (by rw[aw])
def gcoreF{nt:Nat}(aC:Oper->Act->Ω->(Act->Ω->Prop)->Prop)(step:Nat->(Act->Ω->Prop)->Act->Ω->Prop)(W:Nat->Array Bool->Act->Ω->Prop)(Qn:Act->Ω->Prop)(T:Nat->Act->Ω->Prop)
 (ao:∀i o K a w,ops[i]?=some o->(if Region.wanted o (yielded ops a.tmps) then aC o a w K else K (a.put o.dst undef) w)->step i K a w)
 (I:∀i K K' a w,(∀a w,K a w->K' a w)->step i K a w->step i K' a w)
 (aF:∀y a w,Region.ready .any ops y=[]->Qn a w->W 0 y a w)
 (hW:∀A y a w,(Region.ready .any ops y=[]->Qn a w)->(∀i∈Region.ready .any ops y,step i (W A (y.setIfInBounds i true)) a w)->W (A+1) y a w)
 (hT:∀k a w,k<ops.size->T k a w->step k (T (k+1)) a w) (aq:∀a w,T ops.size a w->Qn a w)
 (J:ChkR ops (nh+1) nt) (ak:∀i,i<nh->∃j,j<=nh+1/\i<j/\j≠nh/\edge ops j i=true) (ag:nh+2<ops.size->edge ops (nh+2) nh=true) (O:yK ops (nh+1)=true) (aP:nh+2<=ops.size) (aA:a0.tmps.size=nt) (env:List (Option Tmp×VP Ω)) (ax:env.length=nh+1)
 (aV:∀(j:Nat) d V,env[j]?=some (d,V)->∀u w Y,V u w->Kpo.kp w Y->V u Y) (G:∀(j:Nat) x,env[j]?=some x->zJ ops j=x.1)
 (aT:∀(i:Nat) o V,ops[i]?=some o->env[i]?=some (o.dst,V)->stepOk aC a0 w0 C (env.take i) o V)
 (av:∀w,C w->Kpo.kp w0 w->finG (T (nh+1)) w env a0) (ah:∀w,C w->Kpo.kp w0 w->finG (λa w=>step (nh+1) (λa w=>step nh (T (nh+2)) a w) a w) w (env.take nh) a0) :
 ∀(A:Nat)(y:Array Bool)(a:Act)(w:Ω)(S:List Nat),GI ops (nh+1) a0 w0 C env y a w->(∀i,i<ops.size->y.getD i false=false->i∈S)->S.length<=A->W A y a w:=by
 -- the tail
 have tail:∀(A k:Nat)(y:Array Bool)(a:Act)(w:Ω),y.size=ops.size->(∀i,y.getD i false=true↔i<k)->nh+1<=k->k<=ops.size->ops.size-k<=A->T k a w->W A y a w:=by
  intro A;induction A with
  |zero=>intro k y a w hs hl _ hk hf ht;obtain rfl:k=ops.size:=a8;refine aF _ _ _ ?_ (aq _ _ ht);refine Wv.2 λi hi=>?_;obtain⟨M,N,_⟩:=zo hi;have:=(zx M).1;rw[(hl i).2 N]at this;cases this
  | succ A ih=>
    intro k y a w hs hl hn hk hf ht;by_cases aM:k=ops.size
    .subst aM;have az:Region.ready .any ops y=[]:=Wv.2 λi hi=>by obtain⟨M,N,_⟩:=zo hi;have:=(zx M).1;rw[(hl i).2 N]at this;cases this
     exact hW _ _ _ _ (λ_=>aq _ _ ht) λi hi=>by rw[az]at hi;cases hi
    .refine hW _ _ _ _ (λh0=>?_) λi hi=>?_
     .exfalso;have L:y.getD k false=false:=by
       cases h:y.getD k false with
       |false=>rfl
       |true=>have:=(hl k).1 h;omega
      obtain⟨j,F⟩:=qh O hs k a8 L;rw[h0]at F;cases F
     .obtain⟨M,N,_,h3⟩:=zo hi;have bc:¬i<k:=λh=>(by have:=(zx M).1;rw[(hl i).2 h]at this;cases this);have:i=k:=by
       rcases (qP O N).1 with h|h
       .omega
       .have:=(hl _).1 (h3 _ h);omega
      subst this;refine I _ _ _ _ _ (λa' Y aW=>ih (i+1) _ _ _ (by simp[hs]) (λj=>?_) a8 a8 a8 aW) (hT i a w N ht);by_cases e:j=i
      .subst e;simp[zl (zx M).2]
      .rw[zj e,hl];omega
 intro A;have aD:∀(y:Array Bool)(a:Act)(w:Ω),GI ops (nh+1) a0 w0 C env y a w->nh+1∈Region.ready .any ops y->∀(n i:Nat),nh+1-i=n->i<nh->y.getD i false=true:=by
  intro y a w B hr n;obtain⟨M,N,_,h3⟩:=zo hr;induction n using Nat.strongRecOn with
  |_ n ih=>
    intro i hn hi;obtain⟨j,F,ba,be,he⟩:=ak i hi;by_cases e:j=nh+1
    .subst e;exact h3 i he
    .exact B.closed j i (ih (nh+1-j) a8 j rfl a8) he
 have full:∀(A:Nat)(y:Array Bool)(a:Act)(w:Ω),GI ops (nh+1) a0 w0 C env y a w->(∀i,i<nh+1->y.getD i false=true)->ops.size-(nh+1)<=A->W A y a w:=by intro A y a w B E hf;exact tail A (nh+1) y a w B.size (λi=>⟨B.heads i,E i⟩) (Zp _) a8 hf (B.fin ax G E (av w B.c B.keep))
 induction A with
 | zero=>
   intro y a w S B hS hf;have E:∀i,i<ops.size->y.getD i false=true:=λi hi=>by
    cases h:y.getD i false with
    |true=>rfl
    |false=>have:=hS i hi h;rw[wH (a8:S.length=0)]at this;cases this
   exfalso;have:=B.heads (nh+1) (E (nh+1) a8);omega
 | succ A ih=>
   intro y a w S B hS hf;by_cases E:∀i,i<nh+1->y.getD i false=true
   ·-- all of the head has come
    refine full _ y a w B E ?_;have U:(List.range' (nh+1) (ops.size-(nh+1)))⊆S:=λi hi=>by
     simp only[uF]at hi;refine hS i a8 ?_;cases h:y.getD i false with
     |false=>rfl
     |true=>have:=B.heads i h;omega
    have am:(List.range' (nh+1) (ops.size-(nh+1))).Nodup:=uX;have:=qM _ _ am U;simp at this;omega
   ·have aB:∃i,i<nh+1/\y.getD i false=false:=by
     apply wT;intro hn;refine E λi hi=>?_;cases h:y.getD i false with
     |true=>rfl
     |false=>exact absurd ⟨i,hi,h⟩ hn
    refine hW _ _ _ _ (λh0=>?_) λi hi=>?_
    .exfalso;obtain⟨i,hi,L⟩:=aB;obtain⟨j,F⟩:=qh O B.size i a8 L;rw[h0]at F;cases F
    .obtain⟨M,N,⟨o,ho⟩,h3⟩:=zo hi;by_cases aZ:¬i<nh+1
     ·-- the tail begins before the floating operation
      have aQ:i=nh+1:=by
       rcases (qP O N).1 with h|h
       .omega
       .have:=B.heads _ (h3 _ h);omega
      subst aQ;have hs:=aD y a w B hi;have an:y.getD nh false=false:=by
       obtain⟨j,F,L⟩:=aB;by_cases e:j=nh
       .subst e;exact L
       .rw[hs _ j rfl a8]at L;cases L
      have ay:∀j,y.getD j false=true->j<nh:=λj F=>by
       have:=B.heads j F;by_cases e:j=nh
       .rw[e,an]at F;cases F
       .omega
      have aI:GI ops nh a0 w0 C (env.take nh) y a w:=⟨B.size,B.closed,ay,B.c,B.keep,λj d V F hV=>B.vals j d V F (by rw[wt]at hV;split at hV;exact hV;cases hV),B.rest,B.tsize,B.defers⟩;have hB:=aI.fin a9 (λj x H=>G j x (by rw[wt]at H;split at H;exact H;cases H)) (λj F=>hs _ j rfl F) (ah w B.c B.keep);have aN:y.getD (nh+1) false=false:=(zx M).1;refine I _ _ _ _ _ (λa' Y h'=>?_) hB;have aO:nh∈S:=hS nh a8 an;have bh:nh+1∈S:=hS (nh+1) N aN;have bg:2+(ops.size-(nh+2))<=S.length:=by
       have U:(nh::List.range' (nh+1) (ops.size-(nh+1)))⊆S:=λi hi=>by
        rcases wi.1 hi with rfl|hi
        .exact aO
        .simp only[uF]at hi;refine hS i a8 ?_;cases h:y.getD i false with
         |false=>rfl
         |true=>have:=B.heads i h;omega
       have am:(nh::List.range' (nh+1) (ops.size-(nh+1))).Nodup:=UF.2 ⟨λh=>by simp only[uF]at h;omega,uX⟩;have:=qM _ _ am U;simp at this;omega
      obtain⟨f',rfl⟩:∃f',A=f'+1:=⟨A-1,a8⟩;have af:(y.setIfInBounds (nh+1) true).size=ops.size:=(by simp[B.size]);have ac:(y.setIfInBounds (nh+1) true).getD nh false=false:=(by rw[zj a8];exact an);refine hW _ _ _ _ (λh0=>?_) λi hi=>?_
      .exfalso;obtain⟨j,F⟩:=qh O af nh a8 ac;rw[h0]at F;cases F
      .obtain⟨k1,k2,_,k3⟩:=zo hi;have P:i=nh:=by
        have L:=(zx k1).1;rcases WL i nh with h|h|h
        .rw[zj a8,hs _ i rfl h]at L;cases L
        .exact h
        .exfalso;by_cases e:i=nh+1
         .subst e;rw[zl (by rw[B.size];exact N)]at L;cases L
         .by_cases e2:i=nh+2
          .subst e2;have:=k3 nh (ag k2);rw[ac]at this;cases this
          .rcases (qP O k2).1 with h4|h4
           .omega
           .have h5:=k3 _ h4;rw[zj a8]at h5;have:=B.heads _ h5;omega
       subst P;refine I _ _ _ _ _ (λa2 w2 ht=>tail f' (i+2) _ _ _ (by simp[B.size]) (λj=>?_) a8 aP a8 ht) h';by_cases e:j=i
       .subst e;rw[zl (by rw[af];omega)];simp
       .rw[zj e];by_cases e2:j=i+1
        .subst e2;rw[zl (by rw[B.size];exact N)];simp
        .rw[zj e2];constructor
         .intro h;have:=B.heads j h;omega
         .intro h;exact hs _ j rfl a8
     have P:i<nh+1:=a8;obtain⟨o',aR,aU,aJ,_⟩:=J _ P;obtain rfl:o'=o:=wA (aR.symm.trans ho);have aw:i<env.length:=a8;have ar:env[i]?=some (o'.dst,env[i].2):=(by have:=G i _ (Zv aw);unfold zJ at this;rw[ho]at this;rw[Zv aw];exact W8 some (Um this.symm rfl));have ad:∀j:Nat,j<i->env[j]?=(env.take i)[j]?:=λj F=>(by rw[wt,vD F]);have ae:=B.rds (env:=env.take i) J P ho (zx M).1 h3 a9 ad (λj x H=>G j x (by rw[wt]at H;split at H;exact H;cases H)) (zA o') aU;have Q:=aT i o' _ ho ar;have ai:∀u Y,Kpo.kp w Y->C Y->env[i].2 u Y->W A (y.setIfInBounds i true) (a.put o'.dst u) Y:=λu Y hk hc L=>
      ih _ _ _ (S.erase i) (B.step J aA P ho M h3 aV G ar hk hc L) (λj F ab=>by
       have Z:j≠i:=λe=>(by subst e;rw[zl (zx M).2]at ab;cases ab);rw[zj Z]at ab;exact(WX Z).2 (hS j F ab)) (by rw[WF (hS i N (zx M).1)];omega)
     refine ao i o' _ a w ho ?_;unfold stepOk at Q;cases hgu:o'.guard with
     |none=>simp only[hgu]at Q;rw[vD (by simp[Region.wanted,hgu])];exact Q a w B.c B.keep ae _ ai
     | some jb=>
       obtain⟨j,b⟩:=jb;simp only[hgu]at Q;obtain⟨Z,aL,aK⟩:=aJ j b hgu;obtain⟨d,hd⟩:=wX.1 aK;have aj:j<env.length:=a8;have au:=G j _ (Zv aj);rw[hd]at au;have aX:=B.vals j d env[j].2 (h3 j aL) (by rw[Zv aj];exact W8 some (Um au.symm rfl));obtain⟨oj,aS,_,_,aG⟩:=J j (show j<nh+1 by omega);have aH:d<a.tmps.size:=(by rw[B.tsize,aA];exact(aG d (by unfold zJ at hd;rw[aS]at hd;exact hd)).1);have hy:=yS (tmps:=a.tmps) hd aH;have X:∀x,isV (env.take i) j x->a.tmps.getD d undef=x:=λx H=>(by have:=isV_of H ad Z;unfold isV at this;rw[Zv aj]at this;exact this _ _ aX);rcases Q with⟨H,hh⟩|⟨H,aE⟩
       .have:=X _ H;rw[this]at hy;rw[vD (by simp[Region.wanted,hgu,hy])];exact hh a w B.c B.keep ae _ ai
       .have aY:yielded ops a.tmps j≠some b:=by
         rcases H with H|H
         .have:=X _ H;rw[this]at hy;rw[hy];cases b<;>simp
         .have:=X _ H;rw[this]at hy;rw[hy];simp[undef]
        rw[Vq (by simp[Region.wanted,hgu];exact aY)];exact ai undef w (Kpo.refl _) B.c (by rw[aE])
def walkG_env{y:Oper->Act->Ω->(Act->Ω->Prop)->Prop}{F:Act->Ω->Prop}:∀(l:List Oper)(env:List (Option Tmp×VP Ω)),walkG y a0 w0 C F l env ->
 ∃r:List (Option Tmp×VP Ω),r.length=l.length/\(∀(i:Nat) o,l[i]?=some o->∃V,r[i]?=some (o.dst,V)/\(∀u w B,V u w->Kpo.kp w B->V u B)/\stepOk y a0 w0 C (env++r.take i) o V) /\
  (∀w,C w->Kpo.kp w0 w->finG F w (env++r) a0)
 |[],env,h=>⟨[],rfl,(λi o ho=>by simp at ho),by rw[wY];exact h⟩
 | o::l,env,⟨V,hs,hk,hw⟩=>by
   obtain⟨r,J,K,L⟩:=walkG_env l _ hw;refine⟨(o.dst,V)::r,by simp[J],λi A j=>?_,dJ L⟩;cases i with
   |zero=>obtain rfl:o=A:=(dJ j);exact⟨V,rfl,hs,dJ hk⟩
   |succ i=>obtain⟨E,G,H,I⟩:=K i A (dJ j);exact⟨E,dJ G,H,dJ I⟩
def gcoreC{nt r:Nat}(aD:Oper->Act->Ω->(Act->Ω->Prop)->Prop)(step:Nat->(Act->Ω->Prop)->Act->Ω->Prop)(W:Nat->Array Bool->Act->Ω->Prop)(Qn:Act->Ω->Prop)(T:Nat->Act->Ω->Prop)
 (ao:∀i o K a w,ops[i]?=some o->(if Region.wanted o (yielded ops a.tmps) then aD o a w K else K (a.put o.dst undef) w)->step i K a w)
 (J:∀i K K' a w,(∀a w,K a w->K' a w)->step i K a w->step i K' a w)
 (aH:∀y a w,Region.ready .any ops y=[]->Qn a w->W 0 y a w)
 (hW:∀A y a w,(Region.ready .any ops y=[]->Qn a w)->(∀i∈Region.ready .any ops y,step i (W A (y.setIfInBounds i true)) a w)->W (A+1) y a w)
 (hT:∀k a w,k<ops.size->T k a w->step k (T (k+1)) a w) (au:∀a w,T ops.size a w->Qn a w)
 (bp:1<=r) (M:ChkR ops (nh+r) nt) (am:∀i,i<nh->∃j,j<=nh+r/\i<j/\¬(nh<=j/\j<nh+r)/\edge ops j i=true) (L:∀i,nh<=i->i+1<nh+r->edge ops (i+1) i=true) (ah:nh+r+1<ops.size->edge ops (nh+r+1) (nh+r-1)=true) (N:yK ops (nh+r)=true) (bl:nh+r+1<=ops.size)
 (CT:Nat->Act->Ω->Prop) (aF:∀c a w,c<r->CT c a w->step (nh+c) (CT (c+1)) a w) (ar:∀a w,CT r a w->T (nh+r+1) a w) (aC:a0.tmps.size=nt) (env:List (Option Tmp×VP Ω)) (az:env.length=nh+r)
 (aW:∀(j:Nat) d V,env[j]?=some (d,V)->∀u w w',V u w->Kpo.kp w w'->V u w') (G:∀(j:Nat) x,env[j]?=some x->zJ ops j=x.1)
 (aT:∀(i:Nat) o V,ops[i]?=some o->env[i]?=some (o.dst,V)->stepOk aD a0 w0 C (env.take i) o V)
 (ax:∀w,C w->Kpo.kp w0 w->finG (T (nh+r)) w env a0) (ai:∀c,c<r->∀w,C w->Kpo.kp w0 w->finG (λa w=>step (nh+r) (CT c) a w) w (env.take (nh+c)) a0) :
 ∀(A:Nat)(y:Array Bool)(a:Act)(w:Ω)(S:List Nat),GI ops (nh+r) a0 w0 C env y a w->(∀i,i<ops.size->y.getD i false=false->i∈S)->S.length<=A->W A y a w:=by
 -- the tail
 have tail:∀(A k:Nat)(y:Array Bool)(a:Act)(w:Ω),y.size=ops.size->(∀i,y.getD i false=true↔i<k)->nh+r<=k->k<=ops.size->ops.size-k<=A->T k a w->W A y a w:=by
  intro A;induction A with
  |zero=>intro k y a w hs F _ hk hf ht;obtain rfl:k=ops.size:=a8;refine aH _ _ _ ?_ (au _ _ ht);refine Wv.2 λi hi=>?_;obtain⟨O,P,_⟩:=zo hi;have:=(zx O).1;rw[(F i).2 P]at this;cases this
  | succ A ih=>
    intro k y a w hs F hn hk hf ht;by_cases aP:k=ops.size
    .subst aP;have aB:Region.ready .any ops y=[]:=Wv.2 λi hi=>by obtain⟨O,P,_⟩:=zo hi;have:=(zx O).1;rw[(F i).2 P]at this;cases this
     exact hW _ _ _ _ (λ_=>au _ _ ht) λi hi=>by rw[aB]at hi;cases hi
    .refine hW _ _ _ _ (λh0=>?_) λi hi=>?_
     .exfalso;have Z:y.getD k false=false:=by
       cases h:y.getD k false with
       |false=>rfl
       |true=>have:=(F k).1 h;omega
      obtain⟨j,H⟩:=qh N hs k a8 Z;rw[h0]at H;cases H
     .obtain⟨O,P,_,h3⟩:=zo hi;have bh:¬i<k:=λh=>(by have:=(zx O).1;rw[(F i).2 h]at this;cases this);have:i=k:=by
       rcases (qP N P).1 with h|h
       .omega
       .have:=(F _).1 (h3 _ h);omega
      subst this;refine J _ _ _ _ _ (λa' w' aX=>ih (i+1) _ _ _ (by simp[hs]) (λj=>?_) a8 a8 a8 aX) (hT i a w P ht);by_cases e:j=i
      .subst e;simp[zl (zx O).2]
      .rw[zj e,F];omega
 intro A;have aE:∀(y:Array Bool)(a:Act)(w:Ω),GI ops (nh+r) a0 w0 C env y a w->nh+r∈Region.ready .any ops y->∀(n i:Nat),nh+r-i=n->i<nh->y.getD i false=true:=by
  intro y a w B hr n;obtain⟨O,P,_,h3⟩:=zo hr;induction n using Nat.strongRecOn with
  |_ n ih=>
    intro i hn hi;obtain⟨j,H,bg,bi,he⟩:=am i hi;by_cases e:j=nh+r
    .subst e;exact h3 i he
    .exact B.closed j i (ih (nh+r-j) a8 j rfl a8) he
 -- what floats,behind the first of the tail
 have aq:∀(n c A:Nat)(y:Array Bool)(a:Act)(w:Ω),r-c=n->c<=r->y.size=ops.size->(∀i,y.getD i false=true↔i<nh+c\/i=nh+r)->(r-c)+(ops.size-(nh+r+1))<=A->CT c a w->W A y a w:=by
  intro n;induction n with
  |zero=>intro c A y a w hn hc hs F hf ht;obtain rfl:c=r:=a8;exact tail A (nh+c+1) y a w hs (λi=>by rw[F];omega) a8 a8 a8 (ar a w ht)
  | succ n ih=>
    intro c A y a w hn hc hs F hf ht;obtain⟨f',rfl⟩:∃f',A=f'+1:=⟨A-1,a8⟩;have ae:y.getD (nh+c) false=false:=by
     cases h:y.getD (nh+c) false with
     |false=>rfl
     |true=>have:=(F _).1 h;omega
    refine hW _ _ _ _ (λh0=>?_) λi hi=>?_
    .exfalso;obtain⟨j,H⟩:=qh N hs (nh+c) a8 ae;rw[h0]at H;cases H
    .obtain⟨k1,k2,_,k3⟩:=zo hi;have Z:=(zx k1).1;have Q:i=nh+c:=by
      have bn:¬(i<nh+c\/i=nh+r):=λh=>(by rw[(F i).2 h]at Z;cases Z);rcases WL i (nh+c)with h|h|h
      .omega
      .exact h
      .exfalso;by_cases e:i<nh+r
       .have:=(F _).1 (k3 (i-1) (by have:=L (i-1) a8 a8;rwa[show i-1+1=i by omega]at this));omega
       .by_cases e2:i=nh+r+1
        .subst e2;have:=(F _).1 (k3 _ (ah k2));omega
        .rcases (qP N k2).1 with h4|h4
         .omega
         .have:=(F _).1 (k3 _ h4);omega
     subst Q;refine J _ _ _ _ _ (λa2 w2 aY=>ih (c+1) f' _ _ _ a8 a8 (by simp[hs]) (λj=>?_) a8 aY) (aF c a w a8 ht);by_cases e:j=nh+c
     .subst e;rw[zl (by rw[hs];omega)];simp
     .rw[zj e,F];omega
 have full:∀(A:Nat)(y:Array Bool)(a:Act)(w:Ω),GI ops (nh+r) a0 w0 C env y a w->(∀i,i<nh+r->y.getD i false=true)->ops.size-(nh+r)<=A->W A y a w:=by intro A y a w B E hf;exact tail A (nh+r) y a w B.size (λi=>⟨B.heads i,E i⟩) (Zp _) a8 hf (B.fin az G E (ax w B.c B.keep))
 induction A with
 | zero=>
   intro y a w S B hS hf;have E:∀i,i<ops.size->y.getD i false=true:=λi hi=>by
    cases h:y.getD i false with
    |true=>rfl
    |false=>have:=hS i hi h;rw[wH (a8:S.length=0)]at this;cases this
   exfalso;have:=B.heads (nh+r) (E (nh+r) a8);omega
 | succ A ih=>
   intro y a w S B hS hf;by_cases E:∀i,i<nh+r->y.getD i false=true
   ·-- all of the head has come
    refine full _ y a w B E ?_;have Y:(List.range' (nh+r) (ops.size-(nh+r)))⊆S:=λi hi=>by
     simp only[uF]at hi;refine hS i a8 ?_;cases h:y.getD i false with
     |false=>rfl
     |true=>have:=B.heads i h;omega
    have an:(List.range' (nh+r) (ops.size-(nh+r))).Nodup:=uX;have:=qM _ _ an Y;simp at this;omega
   ·have ae:∃i,i<nh+r/\y.getD i false=false:=by
     apply wT;intro hn;refine E λi hi=>?_;cases h:y.getD i false with
     |true=>rfl
     |false=>exact absurd ⟨i,hi,h⟩ hn
    refine hW _ _ _ _ (λh0=>?_) λi hi=>?_
    .exfalso;obtain⟨i,hi,Z⟩:=ae;obtain⟨j,H⟩:=qh N B.size i a8 Z;rw[h0]at H;cases H
    ·obtain⟨O,P,⟨o,ho⟩,h3⟩:=zo hi;by_cases bc:¬i<nh+r
     ·-- the tail begins before what floats
      have aQ:i=nh+r:=by
       rcases (qP N P).1 with h|h
       .omega
       .have:=B.heads _ (h3 _ h);omega
      subst aQ;have hs:=aE y a w B hi
      -- how much of it has come
      have zdg:∃c,c<r/\y.getD (nh+c) false=false/\∀i,i<nh+c->y.getD i false=true:=by
       obtain⟨j,H,Z⟩:=ae;have:∀n c,c+n=r->(∀i,i<nh+c->y.getD i false=true)->∃c,c<r/\y.getD (nh+c) false=false/\∀i,i<nh+c->y.getD i false=true:=by
        intro n;induction n with
        |zero=>intro c hc F;rw[F j a8]at Z;cases Z
        | succ n ih=>
          intro c hc F;cases h:y.getD (nh+c) false with
          |false=>exact⟨c,a8,h,F⟩
          | true=>
            refine ih (c+1) a8 λi hi=>?_;by_cases e:i=nh+c
            .rw[e];exact h
            .exact F i a8
       exact this r 0 a8 λi hi=>hs _ i rfl a8
      obtain⟨c,hc,aU,aA⟩:=zdg;have aM:∀k,nh+c+k<nh+r->y.getD (nh+c+k) false=false:=by
       intro k;induction k with
       |zero=>intro _;exact aU
       | succ k ih=>
         intro hk;cases h:y.getD (nh+c+(k+1)) false with
         |false=>rfl
         |true=>have:=B.closed _ _ h (L (nh+c+k) a8 a8);rw[ih a8]at this;cases this
      have U:∀j,y.getD j false=true->j<nh+c:=λj H=>(by have:=B.heads j H;apply wT;intro be;have:=aM (j-(nh+c)) a8;rw[show nh+c+(j-(nh+c))=j by omega,H]at this;cases this);have aK:GI ops (nh+c) a0 w0 C (env.take (nh+c)) y a w:=⟨B.size,B.closed,U,B.c,B.keep,λj d V H hV=>B.vals j d V H (by rw[wt]at hV;split at hV;exact hV;cases hV),B.rest,B.tsize,B.defers⟩;have hB:=aK.fin a9 (λj x I=>G j x (by rw[wt]at I;split at I;exact I;cases I)) aA (ai c hc w B.c B.keep);refine J _ _ _ _ _ (λa' w' h'=>?_) hB;have bj:(r-c)+(ops.size-(nh+r))<=S.length:=by
       have Y:(List.range' (nh+c) (ops.size-(nh+c)))⊆S:=λi hi=>by
        simp only[uF]at hi;refine hS i a8 ?_;cases h:y.getD i false with
        |false=>rfl
        |true=>have:=U i h;omega
       have an:(List.range' (nh+c) (ops.size-(nh+c))).Nodup:=uX;have:=qM _ _ an Y;simp at this;omega
      refine aq (r-c) c A _ a' w' rfl a8 (by simp[B.size]) (λj=>?_) a8 h';by_cases e:j=nh+r
      .subst e;rw[zl (by rw[B.size];exact P)];simp
      .rw[zj e];constructor
       .intro h;exact .inl (U j h)
       .intro h;exact aA j a8
     have Q:i<nh+r:=a8;obtain⟨o',aR,aV,aL,_⟩:=M _ Q;obtain rfl:o'=o:=wA (aR.symm.trans ho);have ay:i<env.length:=a8;have av:env[i]?=some (o'.dst,env[i].2):=(by have:=G i _ (Zv ay);unfold zJ at this;rw[ho]at this;rw[Zv ay];exact W8 some (Um this.symm rfl));have af:∀j:Nat,j<i->env[j]?=(env.take i)[j]?:=λj H=>(by rw[wt,vD H]);have ag:=B.rds (env:=env.take i) M Q ho (zx O).1 h3 a9 af (λj x I=>G j x (by rw[wt]at I;split at I;exact I;cases I)) (zA o') aV;have X:=aT i o' _ ho av;have aj:∀u w',Kpo.kp w w'->C w'->env[i].2 u w'->W A (y.setIfInBounds i true) (a.put o'.dst u) w':=λu w' hk hc Z=>
      ih _ _ _ (S.erase i) (B.step M aC Q ho O h3 aW G av hk hc Z) (λj H ad=>by
       have ac:j≠i:=λe=>(by subst e;rw[zl (zx O).2]at ad;cases ad);rw[zj ac]at ad;exact(WX ac).2 (hS j H ad)) (by rw[WF (hS i P (zx O).1)];omega)
     refine ao i o' _ a w ho ?_;unfold stepOk at X;cases hgu:o'.guard with
     |none=>simp only[hgu]at X;rw[vD (by simp[Region.wanted,hgu])];exact X a w B.c B.keep ag _ aj
     | some jb=>
       obtain⟨j,b⟩:=jb;simp only[hgu]at X;obtain⟨ac,aO,aN⟩:=aL j b hgu;obtain⟨d,hd⟩:=wX.1 aN;have ak:j<env.length:=a8;have aw:=G j _ (Zv ak);rw[hd]at aw;have aZ:=B.vals j d env[j].2 (h3 j aO) (by rw[Zv ak];exact W8 some (Um aw.symm rfl));obtain⟨oj,aS,_,_,aI⟩:=M j (show j<nh+r by omega);have aJ:d<a.tmps.size:=(by rw[B.tsize,aC];exact(aI d (by unfold zJ at hd;rw[aS]at hd;exact hd)).1);have hy:=yS (tmps:=a.tmps) hd aJ;have ab:∀x,isV (env.take i) j x->a.tmps.getD d undef=x:=λx I=>(by have:=isV_of I af ac;unfold isV at this;rw[Zv ak]at this;exact this _ _ aZ);rcases X with⟨I,hh⟩|⟨I,aG⟩
       .have:=ab _ I;rw[this]at hy;rw[vD (by simp[Region.wanted,hgu,hy])];exact hh a w B.c B.keep ag _ aj
       .have ba:yielded ops a.tmps j≠some b:=by
         rcases I with I|I
         .have:=ab _ I;rw[this]at hy;rw[hy];cases b<;>simp
         .have:=ab _ I;rw[this]at hy;rw[hy];simp[undef]
        rw[Vq (by simp[Region.wanted,hgu];exact ba)];exact aj undef w (Kpo.refl _) B.c (by rw[aG])
def walkE(j:Oper->Act->Ω->(Act->Ω->Prop)->Prop)(a0:Act)(w0:Ω)(C:Ω->Prop)(E:List (Option Tmp×VP Ω)->Prop):List Oper->List (Option Tmp×VP Ω)->Prop
 |[],env=>E env
 |o::l,env=>∃V:VP Ω,(∀u w y,V u w->Kpo.kp w y->V u y)/\stepOk j a0 w0 C env o V/\walkE j a0 w0 C E l (env++[(o.dst,V)])
def walkG_of{j:Oper->Act->Ω->(Act->Ω->Prop)->Prop}{F:Act->Ω->Prop}:∀(l:List Oper)(env:List (Option Tmp×VP Ω)),walkE j a0 w0 C (λenv=>∀w,C w->Kpo.kp w0 w->finG F w env a0) l env->walkG j a0 w0 C F l env
 |[],env,h=>h
 |o::l,env,⟨V,h1,h2,h3⟩=>⟨V,h1,h2,walkG_of l _ h3⟩
def walkE_env{y:Oper->Act->Ω->(Act->Ω->Prop)->Prop}{E:List (Option Tmp×VP Ω)->Prop}:∀(l:List Oper)(env:List (Option Tmp×VP Ω)),walkE y a0 w0 C E l env ->
 ∃r:List (Option Tmp×VP Ω),r.length=l.length/\(∀(i:Nat) o,l[i]?=some o->∃V,r[i]?=some (o.dst,V)/\(∀u w B,V u w->Kpo.kp w B->V u B)/\stepOk y a0 w0 C (env++r.take i) o V) /\
  E (env++r)
 |[],env,h=>⟨[],rfl,(λi o ho=>by simp at ho),by rw[wY];exact h⟩
 | o::l,env,⟨V,hs,hk,hw⟩=>by
   obtain⟨r,J,K,L⟩:=walkE_env l _ hw;refine⟨(o.dst,V)::r,by simp[J],λi A j=>?_,dJ L⟩;cases i with
   |zero=>obtain rfl:o=A:=(dJ j);exact⟨V,rfl,hs,dJ hk⟩
   |succ i=>obtain⟨F,G,H,I⟩:=K i A (dJ j);exact⟨F,dJ G,H,dJ I⟩
def gready{nt:Nat}{l:List Oper}(hO:ops=l.toArray)(F:Oper->Act->Ω->(Act->Ω->Prop)->Prop)(step:Nat->(Act->Ω->Prop)->Act->Ω->Prop)(W:Nat->Array Bool->Act->Ω->Prop)(N:Act->Ω->Prop)(T:Nat->Act->Ω->Prop)
 (I:∀i o K a w,ops[i]?=some o->(if Region.wanted o (yielded ops a.tmps) then F o a w K else K (a.put o.dst undef) w)->step i K a w)
 (H:∀i K K' a w,(∀a w,K a w->K' a w)->step i K a w->step i K' a w)
 (X:∀y a w,Region.ready .any ops y=[]->N a w->W 0 y a w)
 (hW:∀G y a w,(Region.ready .any ops y=[]->N a w)->(∀i∈Region.ready .any ops y,step i (W G (y.setIfInBounds i true)) a w)->W (G+1) y a w)
 (hT:∀k a w,k<ops.size->T k a w->step k (T (k+1)) a w) (U:∀a w,T ops.size a w->N a w)
 (A:xk ops nh nt=true) (Y:yK ops nh=true) (ab:a0.tmps.size=nt) (hC:C w0)
 (h:walkG F a0 w0 C (T nh) (l.take nh) []):W ops.size (Array.replicate ops.size false) a0 w0:=by
 subst hO;have M:nh<=l.toArray.size:=by unfold xk at A;simp only[V0,wG]at A;exact A.1
 have ac:nh<=l.length:=dJ M
 obtain⟨env,h1,h2,h3⟩:=walkG_env _ _ h;have B:env.length=nh:=by rw[h1];simp;omega
 have get:∀i:Nat,i<nh->∃o V,l[i]?=some o/\env[i]?=some (o.dst,V)/\(∀u w w',V u w->Kpo.kp w w'->V u w')/\stepOk F a0 w0 C (env.take i) o V:=λi hi=>by have L:i<l.length:=a8;obtain⟨V,g⟩:=h2 i l[i] (by rw[wt,vD hi];exact Zv L);exact⟨l[i],V,Zv L,dJ g⟩
 refine gcore (nt:=nt) F step W N T I H X hW hT U A Y M ab env B (λj d V E=>?_) (λj x E=>?_) (λi o V ho P=>?_) (dJ h3) _ _ _ _ (List.range l.toArray.size) ?_ (λi hi _=>dJ hi) b6
 .obtain⟨o,V',O,J,Q,S⟩:=get j (by rw[<-B];exact(Zw.1 E).1);rw[J]at E;cases E;exact Q
 .obtain⟨o,V',O,J,Q,S⟩:=get j (by rw[<-B];exact(Zw.1 E).1);rw[J]at E;cases E;unfold zJ;simp[O]
 .obtain⟨o',V',O,J,Q,S⟩:=get i (by rw[<-B];exact(Zw.1 P).1);have e1:o'=o:=(by have:l[i]?=some o:=(dJ ho);rw[O]at this;exact wA this);subst e1;rw[J]at P;simp only[wN,UV,Un]at P;subst P;exact S
 .have Z:∀i:Nat,(Array.replicate l.toArray.size false).getD i false=false:=λi=>by
   simp only[wu,uq];split<;>rfl
  exact⟨b6,(λi j hi=>by rw[Z]at hi;cases hi),(λi hi=>by rw[Z]at hi;cases hi),hC,Kpo.refl _,(λj d V E=>by rw[Z]at E;cases E),λ_ _=>rfl,rfl,rfl⟩
def greadyF{nt:Nat}{l:List Oper}(hO:ops=l.toArray)(E:Oper->Act->Ω->(Act->Ω->Prop)->Prop)(step:Nat->(Act->Ω->Prop)->Act->Ω->Prop)(W:Nat->Array Bool->Act->Ω->Prop)(P:Act->Ω->Prop)(T:Nat->Act->Ω->Prop)
 (J:∀i o K a w,ops[i]?=some o->(if Region.wanted o (yielded ops a.tmps) then E o a w K else K (a.put o.dst undef) w)->step i K a w)
 (I:∀i K K' a w,(∀a w,K a w->K' a w)->step i K a w->step i K' a w)
 (Z:∀y a w,Region.ready .any ops y=[]->P a w->W 0 y a w)
 (hW:∀F y a w,(Region.ready .any ops y=[]->P a w)->(∀i∈Region.ready .any ops y,step i (W F (y.setIfInBounds i true)) a w)->W (F+1) y a w)
 (hT:∀k a w,k<ops.size->T k a w->step k (T (k+1)) a w) (Y:∀a w,T ops.size a w->P a w)
 (M:ChkR ops (nh+1) nt) (H:∀i,i<nh->∃j,j<=nh+1/\i<j/\j≠nh/\edge ops j i=true) (G:nh+2<ops.size->edge ops (nh+2) nh=true) (ab:yK ops (nh+1)=true) (O:nh+2<=ops.size) (ac:a0.tmps.size=nt) (hC:C w0)
 (h:walkE E a0 w0 C (λenv=>(∀w,C w->Kpo.kp w0 w->finG (T (nh+1)) w env a0)/\∀w,C w->Kpo.kp w0 w->finG (λa w=>step (nh+1) (λa w=>step nh (T (nh+2)) a w) a w) w (env.take nh) a0) (l.take (nh+1)) []):W ops.size (Array.replicate ops.size false) a0 w0:=by
 subst hO;have ad:nh+2<=l.length:=dJ O
 obtain⟨env,h1,h2,h3⟩:=walkE_env _ _ h;have A:env.length=nh+1:=by rw[h1];simp;omega
 have get:∀i:Nat,i<nh+1->∃o V,l[i]?=some o/\env[i]?=some (o.dst,V)/\(∀u w w',V u w->Kpo.kp w w'->V u w')/\stepOk E a0 w0 C (env.take i) o V:=λi hi=>by have N:i<l.length:=a8;obtain⟨V,g⟩:=h2 i l[i] (by rw[wt,vD hi];exact Zv N);exact⟨l[i],V,Zv N,dJ g⟩
 refine gcoreF (nt:=nt) E step W P T J I Z hW hT Y M H G ab O ac env A (λj d V B=>?_) (λj x B=>?_) (λi o V ho S=>?_) (dJ h3.1) (dJ h3.2) _ _ _ _ (List.range l.toArray.size) ?_ (λi hi _=>dJ hi) b6
 .obtain⟨o,V',Q,L,U,X⟩:=get j (by rw[<-A];exact(Zw.1 B).1);rw[L]at B;cases B;exact U
 .obtain⟨o,V',Q,L,U,X⟩:=get j (by rw[<-A];exact(Zw.1 B).1);rw[L]at B;cases B;unfold zJ;simp[Q]
 .obtain⟨o',V',Q,L,U,X⟩:=get i (by rw[<-A];exact(Zw.1 S).1);have e1:o'=o:=(by have:l[i]?=some o:=(dJ ho);rw[Q]at this;exact wA this);subst e1;rw[L]at S;simp only[wN,UV,Un]at S;subst S;exact X
 .have hf:∀i:Nat,(Array.replicate l.toArray.size false).getD i false=false:=λi=>by
   simp only[wu,uq];split<;>rfl
  exact⟨b6,(λi j hi=>by rw[hf]at hi;cases hi),(λi hi=>by rw[hf]at hi;cases hi),hC,Kpo.refl _,(λj d V B=>by rw[hf]at B;cases B),λ_ _=>rfl,rfl,rfl⟩
def greadyC{nt r:Nat}{l:List Oper}(hO:ops=l.toArray)(F:Oper->Act->Ω->(Act->Ω->Prop)->Prop)(step:Nat->(Act->Ω->Prop)->Act->Ω->Prop)(W:Nat->Array Bool->Act->Ω->Prop)(U:Act->Ω->Prop)(T:Nat->Act->Ω->Prop)
 (L:∀i o K a w,ops[i]?=some o->(if Region.wanted o (yielded ops a.tmps) then F o a w K else K (a.put o.dst undef) w)->step i K a w)
 (J:∀i K K' a w,(∀a w,K a w->K' a w)->step i K a w->step i K' a w)
 (ad:∀y a w,Region.ready .any ops y=[]->U a w->W 0 y a w)
 (hW:∀G y a w,(Region.ready .any ops y=[]->U a w)->(∀i∈Region.ready .any ops y,step i (W G (y.setIfInBounds i true)) a w)->W (G+1) y a w)
 (hT:∀k a w,k<ops.size->T k a w->step k (T (k+1)) a w) (ac:∀a w,T ops.size a w->U a w)
 (ag:1<=r) (P:ChkR ops (nh+r) nt) (I:∀i,i<nh->∃j,j<=nh+r/\i<j/\¬(nh<=j/\j<nh+r)/\edge ops j i=true) (E:∀i,nh<=i->i+1<nh+r->edge ops (i+1) i=true) (H:nh+r+1<ops.size->edge ops (nh+r+1) (nh+r-1)=true) (ae:yK ops (nh+r)=true) (S:nh+r+1<=ops.size)
 (M:Nat->Act->Ω->Prop) (ab:∀c a w,c<r->M c a w->step (nh+c) (M (c+1)) a w) (O:∀a w,M r a w->T (nh+r+1) a w) (af:a0.tmps.size=nt) (hC:C w0)
 (h:walkE F a0 w0 C (λenv=>(∀w,C w->Kpo.kp w0 w->finG (T (nh+r)) w env a0)/\∀c,c<r->∀w,C w->Kpo.kp w0 w->finG (λa w=>step (nh+r) (M c) a w) w (env.take (nh+c)) a0) (l.take (nh+r)) []):W ops.size (Array.replicate ops.size false) a0 w0:=by
 subst hO;have ah:nh+r+1<=l.length:=dJ S
 obtain⟨env,h1,h2,h3⟩:=walkE_env _ _ h;have A:env.length=nh+r:=by rw[h1];simp;omega
 have get:∀i:Nat,i<nh+r->∃o V,l[i]?=some o/\env[i]?=some (o.dst,V)/\(∀u w w',V u w->Kpo.kp w w'->V u w')/\stepOk F a0 w0 C (env.take i) o V:=λi hi=>by have Q:i<l.length:=a8;obtain⟨V,g⟩:=h2 i l[i] (by rw[wt,vD hi];exact Zv Q);exact⟨l[i],V,Zv Q,dJ g⟩
 refine gcoreC (nt:=nt) F step W U T L J ad hW hT ac ag P I E H ae S M ab O af env A (λj d V B=>?_) (λj x B=>?_) (λi o V ho Y=>?_) (dJ h3.1) (dJ h3.2) _ _ _ _ (List.range l.toArray.size) ?_ (λi hi _=>dJ hi) b6
 .obtain⟨o,V',X,N,Z,g4⟩:=get j (by rw[<-A];exact(Zw.1 B).1);rw[N]at B;cases B;exact Z
 .obtain⟨o,V',X,N,Z,g4⟩:=get j (by rw[<-A];exact(Zw.1 B).1);rw[N]at B;cases B;unfold zJ;simp[X]
 .obtain⟨o',V',X,N,Z,g4⟩:=get i (by rw[<-A];exact(Zw.1 Y).1);have e1:o'=o:=(by have:l[i]?=some o:=(dJ ho);rw[X]at this;exact wA this);subst e1;rw[N]at Y;simp only[wN,UV,Un]at Y;subst Y;exact g4
 .have hf:∀i:Nat,(Array.replicate l.toArray.size false).getD i false=false:=λi=>by
   simp only[wu,uq];split<;>rfl
  exact⟨b6,(λi j hi=>by rw[hf]at hi;cases hi),(λi hi=>by rw[hf]at hi;cases hi),hC,Kpo.refl _,(λj d V B=>by rw[hf]at B;cases B),λ_ _=>rfl,rfl,rfl⟩
end
end Pl
section
open Go.RowKit
def lk:List (Option Tmp×VP)->Tmp->Option VP
 |[],_=>none
 |(d,V)::r,t=>if d=some t then some V else lk r t
def Rds(env:List (Option Tmp×VP))(a0:Act):List Tmp->Act->World->Prop
 |[],_,_=>True
 |t::ts,a,w=>(match lk env t with|some V=>∃u,RdEq a t u/\V u w|none=>RdEq a t (a0.tmps.getD t undef))/\Rds env a0 ts a w
def headOk(Sw:Nat->Prop)(y:Oper->Act->World->(Act->World->Prop)->Prop)(a0:Act)(w0:World)(C:World->Prop)(env:List (Option Tmp×VP))(o:Oper)(V:VP):Prop:=
 ∀a w,C w->Keep Sw w0 w->Rds env a0 (zA o) a w->∀K:Act->World->Prop,(∀u j,Keep Sw w j->C j->V u j->K (a.put o.dst u) j)->y o a w K
def isV(env:List (Option Tmp×VP))(j:Nat)(x:Value):Prop:=match env[j]? with|some (_,V)=>∀u w,V u w->u=x|none=>False
def stepOk(Sw:Nat->Prop)(w:Oper->Act->World->(Act->World->Prop)->Prop)(a0:Act)(w0:World)(C:World->Prop)(env:List (Option Tmp×VP))(o:Oper)(V:VP):Prop:=
 match o.guard with
 |none=>headOk Sw w a0 w0 C env o V
 |some (j,b)=>(isV env j (.bool b)/\headOk Sw w a0 w0 C env o V)\/((isV env j (.bool !b)\/isV env j undef)/\V=λu _=>u=undef)
def finG(F:Act->World->Prop)(w:World):List (Option Tmp×VP)->Act->Prop
 |[],a=>F a w
 |(none,_)::r,a=>finG F w r a
 |(some d,V)::r,a=>∀u,V u w->finG F w r (a.put (some d) u)
def walkG(Sw:Nat->Prop)(j:Oper->Act->World->(Act->World->Prop)->Prop)(a0:Act)(w0:World)(C:World->Prop)(F:Act->World->Prop):List Oper->List (Option Tmp×VP)->Prop
 |[],env=>∀w,C w->Keep Sw w0 w->finG F w env a0
 |o::l,env=>∃V:VP,(∀u w y,V u w->Keep Sw w y->V u y)/\stepOk Sw j a0 w0 C env o V/\walkG Sw j a0 w0 C F l (env++[(o.dst,V)])
section
variable {Sw:Nat->Prop}{ops:Array Oper}{nh:Nat}{a0:Act}{w0:World}{C:World->Prop}
@[reducible] def zoB (Sw:Nat->Prop):Pl.Kpo World:=⟨Keep Sw,Keep.refl Sw,λ_ _ _ h k=>h.trans k⟩
def zoO:∀(env:List (Option Tmp×VP))(t:Tmp),@Pl.lk World env t=lk env t
 |[],t=>rfl
 |(d,V)::r,t=>by rw[lk,Pl.lk,zoO r t]
def zop(env:List (Option Tmp×VP))(a0:Act):∀(j:List Tmp)(a:Act)(w:World),@Pl.Rds World env a0 j a w=Rds env a0 j a w
 |[],a,w=>rfl
 | t::j,a,w=>by
   rw[Rds,Pl.Rds,zop env a0 j a w,zoO];cases lk env t<;>rfl
def zoV(env:List (Option Tmp×VP))(j:Nat)(x:Value):@Pl.isV World env j x=isV env j x:=by
 unfold isV Pl.isV;cases env[j]?<;>rfl
def zoy{j:Oper->Act->World->(Act->World->Prop)->Prop}{env:List (Option Tmp×VP)}{o:Oper}{V:VP}:@Pl.headOk World (zoB Sw) j a0 w0 C env o V=headOk Sw j a0 w0 C env o V:=by unfold headOk Pl.headOk;simp only[zop];rfl
def zoI{u:Oper->Act->World->(Act->World->Prop)->Prop}{env:List (Option Tmp×VP)}{o:Oper}{V:VP}:@Pl.stepOk World (zoB Sw) u a0 w0 C env o V=stepOk Sw u a0 w0 C env o V:=by
 unfold stepOk Pl.stepOk;rw[zoy];cases o.guard with
 |none=>rfl
 |some p=>obtain⟨j,b⟩:=p;simp only[zoV]
def znS{F:Act->World->Prop}{w:World}:∀(env:List (Option Tmp×VP))(a:Act),@Pl.finG World F w env a=finG F w env a
 |[],a=>rfl
 |(none,_)::r,a=>by rw[finG,Pl.finG,znS r a]
 |(some d,V)::r,a=>by rw[finG,Pl.finG];simp only[znS r]
def znZ{j:Oper->Act->World->(Act->World->Prop)->Prop}{F:Act->World->Prop}:∀(l:List Oper)(env:List (Option Tmp×VP)),walkG Sw j a0 w0 C F l env->@Pl.walkG World (zoB Sw) j a0 w0 C F l env
 |[],env,h=>λw u hk=>by rw[znS];exact h w u hk
 |o::l,env,⟨V,h1,h2,h3⟩=>⟨V,h1,by rw[zoI];exact h2,znZ l _ h3⟩
def gready{L:Nat}{l:List Oper}(O:ops=l.toArray)(B:Oper->Act->World->(Act->World->Prop)->Prop)(step:Nat->(Act->World->Prop)->Act->World->Prop)(W:Nat->Array Bool->Act->World->Prop)(F:Act->World->Prop)(T:Nat->Act->World->Prop)
 (A:∀i o K a w,ops[i]?=some o->(if Region.wanted o (yielded ops a.tmps) then B o a w K else K (a.put o.dst undef) w)->step i K a w)
 (y:∀i K M a w,(∀a w,K a w->M a w)->step i K a w->step i M a w)
 (H:∀j a w,Region.ready .any ops j=[]->F a w->W 0 j a w)
 (Q:∀u j a w,(Region.ready .any ops j=[]->F a w)->(∀i∈Region.ready .any ops j,step i (W u (j.setIfInBounds i true)) a w)->W (u+1) j a w)
 (P:∀k a w,k<ops.size->T k a w->step k (T (k+1)) a w) (G:∀a w,T ops.size a w->F a w)
 (E:xk ops nh L=true) (I:yK ops nh=true) (J:a0.tmps.size=L) (N:C w0)
 (h:walkG Sw B a0 w0 C (T nh) (l.take nh) []):W ops.size (Array.replicate ops.size false) a0 w0:=
 @Pl.gready World (zoB Sw) ops nh a0 w0 C L l O B step W F T A y H Q P G E I J N (znZ _ _ h)
end
def Kg{Sw:Nat->Prop}{P:Program}{id:Nat}{l:List Oper}{Q:Exit->Act->World->Prop}{a:Act}{w:World}(nh G:Nat)(C:World->Prop)(I:P.follows .mixedOrders=true)
 (B:(xk l.toArray nh G && yK l.toArray nh)=true) (E:a.tmps.size=G) (H:C w.drew)
 (h:walkG Sw (λo a w K=>o.wp P a w K Q) a w.drew C (λa w=>wpList P l.toArray Q (l.drop nh) a w) (l.take nh) []):(Code.region id l.toArray true).wp P Q a w:=by
 rw[V0]at B;refine TQ I ?_;refine gready (ops:=l.toArray) (a0:=a) (w0:=w.drew) (C:=C) rfl (λo a w K=>o.wp P a w K Q) (wpOp P l.toArray Q) (wpAny P .any l.toArray Q) (λa w=>Q .normal a w) (λk a w=>wpList P l.toArray Q (l.drop k) a w)
  ?_ (λi K J a w hk hs=>Tq hk hs) (λj a w y A=>⟨y,A⟩) (λF j a w y A=>⟨y,A⟩) ?_ ?_ B.1 B.2 E H h
 .intro i o K a w ho hs;unfold wpOp;simp only[ho];split
  .rename_i hw;rw[vD hw]at hs;exact .inl hs
  .rename_i hw;rw[Vq hw]at hs;exact hs
 .intro k a w hk ht;have u:k<l.length:=(dJ hk);simp only[VS u,wpList]at ht;unfold wpOp;simp only[wF,Zv u];exact ht
 .intro a w ht;simpa[wpList]using ht
def Kh{Sw:Nat->Prop}{P:Program}{F:Fence}{n:Nat}(hF:∀f,F.fn f){id:Nat}{l:List Oper}{Q:Exit->Act->World->Prop}{a:Act}{w:World}(nh H:Nat)(C:World->Prop)(J:P.follows .mixedOrders=true)
 (B:(xk l.toArray nh H && yK l.toArray nh)=true) (E:a.tmps.size=H) (I:C w.drew)
 (h:walkG Sw (λo a w K=>o.wpIn F n P a w K Q) a w.drew C (λa w=>wpListIn F n P l.toArray Q (l.drop nh) a w) (l.take nh) []):(Code.region id l.toArray true).wpIn F n P Q a w:=by
 rw[V0]at B;refine wpIn_region_any J ?_;refine gready (ops:=l.toArray) (a0:=a) (w0:=w.drew) (C:=C) rfl (λo a w K=>o.wpIn F n P a w K Q) (wpOpIn F n P l.toArray Q) (wpAnyIn F n P .any l.toArray Q) (λa w=>Q .normal a w) (λk a w=>wpListIn F n P l.toArray Q (l.drop k) a w)
  ?_ (λi K L a w hk hs=>wpOpIn_mono hk hs) (λj a w y A=>⟨y,A⟩) (λG j a w y A=>⟨y,A⟩) ?_ ?_ B.1 B.2 E I h
 .intro i o K a w ho hs;unfold wpOpIn;simp only[ho];split
  .rename_i hw;rw[vD hw]at hs;exact hs
  .rename_i hw;rw[Vq hw]at hs;exact⟨λf _=>hF f,hs⟩
 .intro k a w hk ht;have u:k<l.length:=(dJ hk);simp only[VS u,wpListIn]at ht;unfold wpOpIn;simp only[wF,Zv u];exact ht
 .intro a w ht;simpa[wpListIn]using ht
section
variable {Sw:Nat->Prop}{P:Program}{Q:Exit->Act->World->Prop}{a0:Act}{w0:World}{C:World->Prop}{F:Act->World->Prop}{l:List Oper}{o:Oper}{env:List (Option Tmp×VP)}
abbrev xC(P:Program)(Q:Exit->Act->World->Prop):Oper->Act->World->(Act->World->Prop)->Prop:=λo a w K=>o.wp P a w K Q
abbrev zdw(G:Fence)(n:Nat)(P:Program)(Q:Exit->Act->World->Prop):Oper->Act->World->(Act->World->Prop)->Prop:=λo a w K=>o.wpIn G n P a w K Q
def yj(v:Value):∀(u:Value)(w j:World),(fun(u:Value) (_:World)=>u=v) u w->Keep Sw w j->(fun(u:Value) (_:World)=>u=v) u j:=λ_ _ _ h _=>h
def zG{j:Nat}{d:Option Tmp}{v x:Value}(h:env[j]?=some (d,λu _=>u=v))(e:v=x):isV env j x:=by unfold isV;rw[h];exact λu _ h=>h.trans e
def Vc(v:Value)(h:∀a w,C w->Keep Sw w0 w->Rds env a0 (zA o) a w->(execOp a.eval o).run P w=.ok (.value v) w):headOk Sw (xC P Q) a0 w0 C env o (λu _=>u=v):=by intro a w j hk A K y;show o.upon P a K Q ((execOp a.eval o).run P w);rw[h a w j hk A];exact y v w (Keep.refl _ _) j rfl
def Yu{G:Fence}{n:Nat}(y:∀f,G.fn f)(v:Value)(h:∀a w,C w->Keep Sw w0 w->Rds env a0 (zA o) a w->(o.semAt G.round a.eval).run P w=.ok (.value v) w):headOk Sw (zdw G n P Q) a0 w0 C env o (λu _=>u=v):=by intro a w j hk B K A;refine⟨λf _=>y f,?_⟩;rw[h a w j hk B];exact A v w (Keep.refl _ _) j rfl
def zev(v:Value)(j:o.guard=none)(h:∀a w,C w->Keep Sw w0 w->Rds env a0 (zA o) a w->(execOp a.eval o).run P w=.ok (.value v) w)
 (y:walkG Sw (xC P Q) a0 w0 C F l (env++[(o.dst,λu _=>u=v)])):walkG Sw (xC P Q) a0 w0 C F (o::l) env:=
 ⟨_,yj v,by unfold stepOk;rw[j];exact Vc v h,y⟩
def V5{G:Fence}{n:Nat}(j:∀f,G.fn f)(v:Value)(y:o.guard=none)(h:∀a w,C w->Keep Sw w0 w->Rds env a0 (zA o) a w->(o.semAt G.round a.eval).run P w=.ok (.value v) w)
 (A:walkG Sw (zdw G n P Q) a0 w0 C F l (env++[(o.dst,λu _=>u=v)])):walkG Sw (zdw G n P Q) a0 w0 C F (o::l) env:=
 ⟨_,yj v,by unfold stepOk;rw[y];exact Yu j v h,A⟩
def V6{j:Nat}{b:Bool}(y:o.guard=some (j,b))(A:isV env j (.bool b))(v:Value)(h:∀a w,C w->Keep Sw w0 w->Rds env a0 (zA o) a w->(execOp a.eval o).run P w=.ok (.value v) w)
 (B:walkG Sw (xC P Q) a0 w0 C F l (env++[(o.dst,λu _=>u=v)])):walkG Sw (xC P Q) a0 w0 C F (o::l) env:=
 ⟨_,yj v,by unfold stepOk;rw[y];exact .inl ⟨A,Vc v h⟩,B⟩
def QQ{G:Fence}{n:Nat}(y:∀f,G.fn f){j:Nat}{b:Bool}(A:o.guard=some (j,b))(B:isV env j (.bool b))(v:Value)(h:∀a w,C w->Keep Sw w0 w->Rds env a0 (zA o) a w->(o.semAt G.round a.eval).run P w=.ok (.value v) w)
 (E:walkG Sw (zdw G n P Q) a0 w0 C F l (env++[(o.dst,λu _=>u=v)])):walkG Sw (zdw G n P Q) a0 w0 C F (o::l) env:=
 ⟨_,yj v,by unfold stepOk;rw[A];exact .inl ⟨B,Yu y v h⟩,E⟩
def jI{w:Oper->Act->World->(Act->World->Prop)->Prop}{j:Nat}{b:Bool}(y:o.guard=some (j,b))(A:isV env j (.bool !b)\/isV env j undef)
 (B:walkG Sw w a0 w0 C F l (env++[(o.dst,λu _=>u=undef)])):walkG Sw w a0 w0 C F (o::l) env:=
 ⟨_,yj undef,by unfold stepOk;rw[y];exact .inr ⟨A,rfl⟩,B⟩
def V7{j:Oper->Act->World->(Act->World->Prop)->Prop}(V:VP)(hs:∀u w y,V u w->Keep Sw w y->V u y)(A:o.guard=none)
 (h:headOk Sw j a0 w0 C env o V) (B:walkG Sw j a0 w0 C F l (env++[(o.dst,V)])):walkG Sw j a0 w0 C F (o::l) env:=
 ⟨V,hs,by unfold stepOk;rw[A];exact h,B⟩
def zhg{y:Oper->Act->World->(Act->World->Prop)->Prop}{j:Nat}{b:Bool}(V:VP)(hs:∀u w A,V u w->Keep Sw w A->V u A)(B:o.guard=some (j,b))(E:isV env j (.bool b))
 (h:headOk Sw y a0 w0 C env o V) (G:walkG Sw y a0 w0 C F l (env++[(o.dst,V)])):walkG Sw y a0 w0 C F (o::l) env:=
 ⟨V,hs,by unfold stepOk;rw[B];exact .inl ⟨E,h⟩,G⟩
end
def Jz{G o:Prop}(k:o)(e:Hd o->G:=by
 intro y;repeat (first
  |(refine zev ?_ rfl (λa w u _ j=>?_) ?_;rotate_left;(simp[Rds,zA,lk,Op.operands,Call.operands,RdEq]at j;go_simp;with_reducible rfl);simp only[Yf,yb])
  |(refine jI rfl ?_ ?_;(first|exact .inl (zG rfl rfl)|exact .inr (zG rfl rfl));simp only[Yf,yb])
  |(refine V6 rfl ?_ ?_ (λa w u _ j=>?_) ?_;exact(zG rfl rfl);rotate_left;(simp[Rds,zA,lk,Op.operands,Call.operands,RdEq]at j;go_simp;with_reducible rfl);simp only[Yf,yb]))
 exact y.h):G:=e ⟨k⟩
def zeB:IntKind.u64.wrap (((zk-1:Nat):Int)+1)=0:=b8
def Jc{x y:Nat}(h:y<=x)(j:x<zk):IntKind.u64.wrap ((x:Int)-y)=((x-y:Nat):Int):=by rw[show ((x:Int)-y)=((x-y:Nat):Int) from by omega];exact ZR a8
def Zj{x:Nat}(h:1<=x)(j:x<zk):IntKind.u64.wrap ((x:Int)-1)=((x-1:Nat):Int):=Jc (y:=1) h j
def zbV{x:Nat}(j:x+1<zk):IntKind.u64.wrap ((x:Int)+1)=(x:Int)+1:=by
 have:=ZR (x:=x+1) j;push_cast at this;exact this
def kO(x:Nat)(w:World)(h:x+1<zk):Calls xT 36 #[.int .u64 x] w λe j=>e=.returned (.tuple #[.int .u64 ((x:Int)+1),.bool true])/\w=j:=by
 have o:=zbV h;have u:((x:Int)+1 != 0)=true:=a9
 go_enter func36,ntmps36
 go_wp2;go_ret2;exact⟨rfl,rfl⟩
def V9(w:World):Calls xT 36 #[.int .u64 ((zk-1:Nat):Int)] w λe j=>e=.returned (.tuple #[.int .u64 0,.bool false])/\w=j:=by
 have o:=zeB;generalize ((zk-1:Nat):Int)=m at *;go_enter func36,ntmps36
 go_wp2;go_ret2;exact⟨rfl,rfl⟩
def ya(a b:Nat)(w:World)(h:b<=a):Calls xT 117 #[.int .u64 a,.int .u64 b] w λe j=>e=.returned (.tuple #[.int .u64 0,.bool false])/\w=j:=by
 go_enter func117,ntmps117
 go_wp2;go_ret2;exact⟨rfl,rfl⟩
def yX(a b:Nat)(w:World)(h:a<b)(hb:b<zk):Calls xT 117 #[.int .u64 a,.int .u64 b] w λe u=>e=.returned (.tuple #[.int .u64 ((b-a-1:Nat):Int),.bool true])/\w=u:=by
 have A:=Jc (x:=b) (y:=a) a8 hb;have j:=Zj (x:=b-a) a8 a8;generalize b-a=d at *;have o:=qL j;clear j;go_enter func117,ntmps117
 go_wp2;rw[o.o];go_ret2;exact⟨rfl,rfl⟩
def relate(s t:Iv):Nat:=if s.hi<t.lo then (if s.hi+1=t.lo then 1 else 0) else if t.hi<s.lo then (if t.hi+1=s.lo then 3 else 4) else 2
def QF(s t:Iv)(w:World)(hs:s.lo<=s.hi)(ht:t.lo<=t.hi)(F:s.hi<zk)(G:t.hi<zk):
 Calls xT 82 #[.agg #[.int .u64 s.lo,.int .u64 s.hi],.agg #[.int .u64 t.lo,.int .u64 t.hi]] w λe u=>e=.returned (.int .i64 (relate s t))/\Below w.heap.size w u:=by
 have H:∀n:Nat,relate s t=n->qA (relate s t=n):=λ_ h=>h;by_cases B:s.hi<t.lo
 .by_cases A:s.hi+1=t.lo
  .have j:=qL A;clear A;have R:=H 1 (by unfold relate;rw[vD B,vD j.o]);have y:=qL (show t.lo-s.hi-1=0 by have:=j.o;omega);clear H;go_enter func82,ntmps82
   go_wp2_with (first|(go_at_call 117;with_reducible refine(yX s.hi t.lo _ a8 a8).mono ?_;rw[y.o];rintro e u ⟨rfl,rfl⟩)|(go_at_call 117;with_reducible refine(ya t.hi s.lo _ a8).mono ?_;rintro e u ⟨rfl,rfl⟩))
   go_ret;rw[R.o];exact⟨rfl,((tr _ _).alloc (Zp _) _).alloc b6 _⟩
  .have R:=H 0 (by unfold relate;rw[vD B,Vq A]);obtain⟨g,o⟩:=xt (t.lo-s.hi-1);have E:0<g:=a8;have y:=qL o;clear o;clear H;go_enter func82,ntmps82
   go_wp2_with (first|(go_at_call 117;with_reducible refine(yX s.hi t.lo _ a8 a8).mono ?_;rw[y.o];rintro e u ⟨rfl,rfl⟩)|(go_at_call 117;with_reducible refine(ya t.hi s.lo _ a8).mono ?_;rintro e u ⟨rfl,rfl⟩))
   go_ret;rw[R.o];exact⟨rfl,((tr _ _).alloc (Zp _) _).alloc b6 _⟩
 .by_cases C:t.hi<s.lo
  .by_cases A:t.hi+1=s.lo
   .have j:=qL A;clear A;have R:=H 3 (by unfold relate;rw[Vq B,vD C,vD j.o]);have y:=qL (show s.lo-t.hi-1=0 by have:=j.o;omega);clear H;go_enter func82,ntmps82
    go_wp2_with (first|(go_at_call 117;with_reducible refine(ya s.hi t.lo _ a8).mono ?_;rintro e u ⟨rfl,rfl⟩)|(go_at_call 117;with_reducible refine(yX t.hi s.lo _ a8 a8).mono ?_;rw[y.o];rintro e u ⟨rfl,rfl⟩))
    go_ret;rw[R.o];exact⟨rfl,((tr _ _).alloc (Zp _) _).alloc b6 _⟩
   .have R:=H 4 (by unfold relate;rw[Vq B,vD C,Vq A]);obtain⟨g,o⟩:=xt (s.lo-t.hi-1);have E:0<g:=a8;have y:=qL o;clear o;clear H;go_enter func82,ntmps82
    go_wp2_with (first|(go_at_call 117;with_reducible refine(ya s.hi t.lo _ a8).mono ?_;rintro e u ⟨rfl,rfl⟩)|(go_at_call 117;with_reducible refine(yX t.hi s.lo _ a8 a8).mono ?_;rw[y.o];rintro e u ⟨rfl,rfl⟩))
    go_ret;rw[R.o];exact⟨rfl,((tr _ _).alloc (Zp _) _).alloc b6 _⟩
  .have R:=H 2 (by unfold relate;rw[Vq B,Vq C]);clear H;go_enter func82,ntmps82
   go_wp2_with (first|(go_at_call 117;with_reducible refine(ya s.hi t.lo _ a8).mono ?_;rintro e u ⟨rfl,rfl⟩)|(go_at_call 117;with_reducible refine(ya t.hi s.lo _ a8).mono ?_;rintro e u ⟨rfl,rfl⟩))
   go_ret;rw[R.o];exact⟨rfl,((tr _ _).alloc (Zp _) _).alloc b6 _⟩
attribute [local go_sem] Oper.semAt_some
def zk0:Option Nat->Value
 |some y=>.tuple #[.int .u64 (y:Int),.bool true]
 |none=>.tuple #[.int .u64 0,.bool false]
def zdu{l:List Iv}{k x:Nat}(h:k<l.length):ye (l.drop k) x=if x<l[k].lo then some l[k].lo else if l[k].hi+1<zk/\x<l[k].hi+1 then some (l[k].hi+1) else ye (l.drop (k+1)) x:=by rw[VS h];rfl
def zdq(l:List Iv)(v:Value)(x:Nat)(w:World)(S:RdR 0 w.heap.size w v l):
 Calls xT 170 #[v,.int .u64 x] w λe H=>e=.returned (zk0 (ye l x))/\Below w.heap.size w H:=by
 obtain⟨a,O,rfl,T,K,N⟩:=S;unfold maxLen at K;go_enter func170,ntmps170
 go_wp2_with fail
 go_loopw [12] (λi wr=>∃k:Nat,k<=l.length/\i=.int .i64 k/\qA (ye l x=ye (l.drop k) x)/\Below w.heap.size w wr) (λi _=>l.length-(intOf i).toNat)
 case atStart=>exact⟨0,X4 _,rfl,rfl,tr _ _⟩
 case round=>
  obtain⟨k,hk,rfl,o,A⟩:=hrel;by_cases B:k<l.length
  .obtain⟨b,F,rfl,_,hb,j⟩:=N (by intro e;subst e;simp at B);obtain⟨I,J,P,Q⟩:=j k B;have hs:=zdu (x:=x) B;obtain⟨lo,E⟩:=xm (l[k].lo);obtain⟨hi,C⟩:=xm (l[k].hi);rw[<-E]at I P hs;rw[<-C]at J Q hs;clear E C j N;have V:wr.cell? ⟨b,F+k*2,none⟩=some (.int .u64 lo):=(A.cell (p:=⟨b,_,none⟩) hb).trans I;have X:wr.cell? ⟨b,F+k*2+1,none⟩=some (.int .u64 hi):=(A.cell (p:=⟨b,_,none⟩) hb).trans J;clear I J;have y:=A.size;by_cases G:x<lo
   .have u:qA (ye l x=some lo):=(by rw[o.o,hs,vD G];rfl);clear hs o
    go_wp2;go_ret2;rw[u.o];exact⟨rfl,A.alloc y _⟩
   .by_cases M:hi+1<zk
    .by_cases U:x<hi+1
     .have u:qA (ye l x=some (hi+1)):=(by rw[o.o,hs,Vq G,vD ⟨M,U⟩];rfl);clear hs o
      go_wp2_with (go_at_call 36;with_reducible refine(kO _ _ M).mono ?_;rintro e H ⟨rfl,rfl⟩)
      go_ret2
      rw[u.o];exact⟨by simp[zk0],A.alloc y _⟩
     .have u:qA (ye l x=ye (l.drop (k+1)) x):=(by rw[o.o,hs,Vq G,Vq a8];rfl);clear hs o
      go_wp2_with (go_at_call 36;with_reducible refine(kO _ _ M).mono ?_;rintro e H ⟨rfl,rfl⟩)
      go_roundw
      case rel=>exact⟨k+1,a8,by go_num,u,A.alloc y _⟩
      case measure=>simp[intOf];omega
    .have u:qA (ye l x=ye (l.drop (k+1)) x):=(by rw[o.o,hs,Vq G,Vq a8];rfl);clear hs o;obtain rfl:hi=zk-1:=a8
     go_wp2_with (go_at_call 36;with_reducible refine(V9 _).mono ?_;rintro e H ⟨rfl,rfl⟩)
     go_roundw
     case rel=>exact⟨k+1,a8,by go_num,u,A.alloc y _⟩
     case measure=>simp[intOf];omega
  .have L:k=l.length:=a8;have u:qA (ye l x=none):=(by rw[o.o,L,uL];rfl);clear o
   go_wp2;go_ret2;rw[u.o];exact⟨rfl,A⟩
def Vs(l:List Iv)(v:Value)(x:Nat)(w:World)(o:RdR 0 w.heap.size w v l):
 Calls xT 170 #[v,.int .u64 x] w λe j=>∃(n:Nat) (m:Bool),e=.returned (.tuple #[.int .u64 n,.bool m])/\qA (ye l x=if m=true then some n else none)/\Below w.heap.size w j:=
 (zdq l v x w o).mono λe j ⟨he,hb⟩=>by
   cases h:ye l x with
   |none=>exact⟨0,false,by rw[he,h];rfl,rfl,hb⟩
   |some y=>exact⟨y,true,by rw[he,h];rfl,rfl,hb⟩
def Kq(p q:Bool)(w:World):Calls xT 148 #[.agg #[.bool p,.bool q]] w λe j=>e=.returned (.bool (p || q))/\Below w.heap.size w j:=by
 cases p<;>cases q <;>
  (go_enter func148,ntmps148
   go_wp2;go_ret;exact⟨rfl,(tr _ _).alloc (Zp _) _⟩)
def zbP(p q:Bool)(w:World):Calls xT 102 #[.agg #[.bool p,.bool q]] w λe j=>e=.returned (.bool (p && q))/\Below w.heap.size w j:=by
 cases p<;>cases q <;>
  (go_enter func102,ntmps102
   go_wp2;go_ret;exact⟨rfl,(tr _ _).alloc (Zp _) _⟩)
def Kp(p q:Bool)(w:World):Calls xT 208 #[.agg #[.bool p,.bool q]] w λe j=>e=.returned (.bool (p && !q))/\Below w.heap.size w j:=by
 cases p<;>cases q <;>
  (go_enter func208,ntmps208
   go_wp2;go_ret;exact⟨rfl,(tr _ _).alloc (Zp _) _⟩)
def Xi(j o:Option Addr)(A B u y:Nat)(w:World):Calls xT 139 #[.slice j A u,.slice o B y] w λe C=>
 e=.returned (.func (.func 169) #[] #[.pointer (some ⟨w.heap.size,0,none⟩),.pointer (some ⟨w.heap.size+1,0,none⟩)]) /\
  C=(w.alloc (.cells #[.slice j A u] 24)).alloc (.cells #[.slice o B y] 24):=by
 go_enter func139,ntmps139
 go_wp2;go_ret;exact⟨rfl,rfl⟩
end
end Go.Proofs.YtmpnbdhadjfbhaaGreatDoor
