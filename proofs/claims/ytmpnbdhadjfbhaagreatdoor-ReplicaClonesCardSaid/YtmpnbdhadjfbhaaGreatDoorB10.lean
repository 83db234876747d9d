import Derived.BigQuiet
import Derived.Deep.QuietTactic
import Derived.ChangeAt
import Derived.DataElems
import Derived.Deep.Slices
import Derived.ProofKit
import Derived.Lib.SmallJoins
import Derived.WalkMore
import Derived.Sort.Walk7a
import Derived.Sort.WalkB12
import Derived.Test.YtmpnbdhadjfbhaaGreatDoorB1
import Derived.Test.YtmpnbdhadjfbhaaGreatDoorB9
set_option maxHeartbeats 16000000
set_option linter.all false
set_option maxRecDepth 100000
namespace Go.Proofs.YtmpnbdhadjfbhaaGreatDoor
def tP:=@Go.Sort.holds_ahead
def tS:=@Go.Sort.size_swp
def Te:=@Go.Sort.putRow_self
def Ti:=@Go.wpList_append_own_at
def Tj:=@Go.Sort.holds_putRow
def TV:=@Go.bits_xor_u64_nat
def TX:=@Go.wpList_plain
open Go.Proofs.Tryz
open Go.Proofs.Tryz renaming prog->xt
section
open Go.RowKit
attribute [local go_sem] Oper.semAt_some
end
section
def jn(f:Q9)(a b:En):En×Bool:=Qi a.rep (qy f (kn a) (kn b))
variable {f:Q9}{a b c:En}
def below(c:Nat):List Iv:=if c=0 then [] else [⟨0,c-1⟩]
def kP(e:En):En×Bool:=Qi e.rep (kn e)
end
section
open Go.RowKit
def QZ:Option Iv->List Iv->Nat->Nat×Int
 |_,[],_=>(0,-1)
 |p,s::l,i=>if s.lo<=s.hi then (if (match p with|none=>0|some q=>relate q s)=0 then QZ (some s) l (i+1) else (3,(i:Int))) else (2,(i:Int))
def Zl(l:List Iv):Nat×Int:=QZ none l 0
def KJ:∀(l:List Iv)(p:Option Iv)(i:Nat),(∀s∈l,s.hi<zk)->((QZ p l i).1=0↔match p with|none=>NF 0 l|some q=>(∀s∈l,s.lo<=s.hi->relate q s=0\/True)/\(l=[]\/∃s r,l=s::r/\s.lo<=s.hi/\relate q s=0/\NF (s.hi+2) r))
 |[],p,i,_=>by cases p<;>simp[QZ,NF]
 | s::l,p,i,hb=>by
   have ih:=KJ l (some s) (i+1) (λt ht=>hb t (by simp[ht]));have hs:=hb s b6;have u:(QZ (some s) l (i+1)).1=0↔NF (s.hi+2) l:=by
    rw[ih];constructor
    .rintro⟨_,rfl|⟨t,r,rfl,o,j,w⟩⟩
     .trivial
     .refine⟨?_,o,hb t b6,w⟩;unfold relate at j;split at j
      .split at j
       .cases j
       .omega
      .split at j
       .split at j<;>cases j
       .cases j
    .intro h;refine⟨λ_ _ _=>.inr trivial,?_⟩;cases l with
     |nil=>exact .inl rfl
     |cons t r=>have:=h.1;exact .inr ⟨t,r,rfl,h.2.1,by unfold relate;rw[Vm a8,Vq a8],h.2.2.2⟩
   unfold QZ;by_cases o:s.lo<=s.hi
   .rw[Vm o];cases p with
    |none=>simp only[UM];rw[u];exact⟨λh=>⟨X3 _,o,hs,h⟩,λh=>h.2.2.2⟩
    | some q=>
      simp only;by_cases j:relate q s=0
      .rw[Vm j,u];exact⟨λh=>⟨λ_ _ _=>.inr trivial,.inr ⟨s,l,rfl,o,j,h⟩⟩,λh=>by
        rcases h.2 with h|⟨t,r,e,_,_,h⟩
        .cases h
        .cases e;exact h⟩
      .rw[Vq j];simp;intro _ h;exact absurd h j
   .rw[Vq o];cases p with
    |none=>simp[NF,o]
    |some q=>simp;intro h;exact absurd h o
def YT{l:List Iv}(h:∀s∈l,s.hi<zk):(Zl l).1=0↔Nrm l:=KJ l none 0 h
def Yj{l:List Iv}{k:Nat}{p:Option Iv}(h:k<l.length):QZ p (l.drop k) k=if l[k].lo<=l[k].hi then (if (match p with|none=>0|some q=>relate q l[k])=0 then QZ (some l[k]) (l.drop (k+1)) (k+1) else (3,(k:Int))) else (2,(k:Int)):=by rw[vD h];rfl
end
section
def YN(l:List Nat):Prop:=l.Pairwise (· < ·)
def jK:∀{a b:List Nat},YN a->YN b->(∀x,x∈a↔x∈b)->a=b
 |[],[],_,_,_=>rfl
 |[],y::b,_,_,h=>absurd ((h y).2 b6) b6
 |x::a,[],_,_,h=>absurd ((h x).1 b6) b6
 | x::a,y::b,ha,hb,h=>by
   have j:=wj.1 ha;have o:=wj.1 hb;have A:x=y:=by
    have u:=(h x).1 b6;have w:=(h y).2 b6;simp at u w;rcases u with u|u
    .exact u
    .rcases w with w|w
     .exact w.symm
     .have:=o.1 x u;have:=j.1 y w;omega
   subst A;congr 1;refine jK j.2 o.2 λz=>?_;have:=h z;simp at this;constructor
   .intro hz;rcases this.1 (.inr hz)with e|e
    .have:=j.1 z hz;omega
    .exact e
   .intro hz;rcases this.2 (.inr hz)with e|e
    .have:=o.1 z hz;omega
    .exact e
def Y6:∀o:List Nat,∃r,YN r/\∀y,y∈r↔y∈o
 |[]=>⟨[],List.Pairwise.nil,λ_=>UG⟩
 | x::o=>by
   obtain⟨r,u,w⟩:=Y6 o;refine⟨r.filter (·<x)++x::r.filter (x < ·),?_,λy=>?_⟩
   .refine uY.2 ⟨u.filter _,wj.2 ⟨λy j=>by simpa using (WB.1 j).2,u.filter _⟩,λy j z hz=>?_⟩;have:=(WB.1 j).2;simp at this hz;rcases hz with rfl|hz<;>omega
   .simp only[wF,WB,V3,w,wG];by_cases e:y=x
    .simp[e]
    .rcases wL y x with h|h
     .simp[h,e];omega
     .have:x<y:=a8;simp[this,e];omega
noncomputable def srt (j:List Nat):List Nat:=Classical.choose (Y6 j)
def yi(j:List Nat):YN (srt j):=(Uv (Y6 j)).1
def qr{j:List Nat}{y:Nat}:y∈srt j↔y∈j:=(Uv (Y6 j)).2 y
def XA{j r:List Nat}(h:YN r)(o:∀y,y∈r↔y∈j):srt j=r:=jK (yi j) h λy=>by rw[qr,o]
def XB:srt []=[]:=XA List.Pairwise.nil λ_=>UG
def jJ{l:List Nat}(h:YN l){i j:Nat}(o:j<l.length)(hi:i<j):l[i]<l[j]:=wT.1 h i j a8 o hi
def kJ{xs:List Nat}{x at_:Nat}(E:at_<=(srt xs).length)(C:∀k (h:k<(srt xs).length),at_<=k->x<(srt xs)[k])(w:at_=0\/∃h:at_-1<(srt xs).length,(srt xs)[at_-1]<x):
 srt (xs++[x])=(srt xs).take at_++x::(srt xs).drop at_:=by
 have A:=yi xs;have u:∀y∈(srt xs).take at_,y<x:=λy j=>by
  obtain⟨i,hi,rfl⟩:=Wp j;simp at hi⊢;rcases w with w|⟨h,w⟩
  .omega
  .rcases wL i (at_-1)with B|B
   .have:=jJ A h B;omega
   .have:i=at_-1:=a8;subst this;exact w
 have o:∀y∈(srt xs).drop at_,x<y:=λy j=>by obtain⟨i,hi,rfl⟩:=Wp j;simp at hi⊢;exact C _ a8 a8
 refine XA (uY.2 ⟨A.sublist (List.take_sublist _ _),wj.2 ⟨λy j=>o y j,A.sublist (List.drop_sublist _ _)⟩,λy j z hz=>?_⟩) λy=>?_
 .simp at hz;rcases hz with rfl|hz
  .exact u y j
  .exact UN (u y j) (o z hz)
 .have:y∈(srt xs).take at_++(srt xs).drop at_↔y∈xs:=(by rw[Wd];exact qr);simp only[wF,V3,List.not_mem_nil,or_false]at this⊢;constructor
  .rintro(h|h|h)
   .exact .inl (this.1 (.inl h))
   .exact .inr h
   .exact .inl (this.1 (.inr h))
  .rintro(h|h)
   .rcases this.2 h with h|h
    .exact .inl h
    .exact .inr (.inr h)
   .exact .inr (.inl h)
def zaw{j:List Nat}{x:Nat}(h:x∈srt j):srt (j++[x])=srt j:=XA (yi j) λy=>by rw[qr]at *;simp;intro e;subst e;exact h
def ju(j:List Nat):(srt j).length<=j.length:=by
 have u:∀(r j:List Nat),YN r->(∀y∈r,y∈j)->r.length<=j.length:=by
  intro r;induction r with
  |nil=>intro j _ _;exact X3 _
  | cons x r ih=>
    intro j h A;have w:=wj.1 h;have:=ih (j.erase x) w.2 λy o=>by have C:=w.1 y o;exact(W6 a8).2 (A y (by simp[o]))
    have B:x∈j:=A x b6;rw[WI B]at this;have:=uj B;simp;omega
 exact u _ _ (yi j) λy o=>qr.1 o
def jQ(s:Iv):List Nat:=s.lo::if s.hi<zk-1 then [s.hi+1] else []
def z6(l:List Iv):List Nat:=l.flatMap jQ
def yU(j:List (List Iv)):List Nat:=0::j.flatMap z6
noncomputable def zH (j:List (List Iv)):List Nat:=srt (yU j)
def zcy(s:Iv):(jQ s).length<=2:=by unfold jQ;split<;>simp
def vq(l:List Iv):(z6 l).length<=2*l.length:=by
 induction l with
 |nil=>simp[z6]
 |cons s l ih=>have:=zcy s;simp only[z6,Wk,wi,ww]at ih⊢;omega
def zaU{l:List Iv}{k:Nat}(h:k<l.length):z6 (l.take (k+1))=z6 (l.take k)++jQ l[k]:=by unfold z6;rw[X4 h,Wq];simp only[Wk,Uz,Wc]
def Qh{l:List Iv}(o:∀s∈l,s.lo<=s.hi/\s.hi<zk){x y:Nat}(A:x<=y)(C:y<zk)(j:∀c∈z6 l,c<=x\/y<c):mem l y=mem l x:=by
 induction l with
 |nil=>rfl
 | cons s l ih=>
   have hs:=o s b6;rw[mem_cons,mem_cons,ih (λt ht=>o t (by simp[ht])) λc h=>j c (by simp[z6]at h⊢;exact .inr h)];congr 1;have B:=j s.lo (by simp[z6,jQ]);have u:s.hi<zk-1->s.hi+1<=x\/y<s.hi+1:=λh=>j (s.hi+1) (by simp[z6,jQ,h]);rw[WD];simp only[VS,wG];by_cases w:s.hi<zk-1
   .have:=u w;omega
   .omega
def Qj:Nat->Bool->Bool->Bool
 |0,a,b=>a || b
 |1,a,b=>a && b
 |_,a,b=>a && !b
def KD(st:List Nat)(i:Nat):Nat:=if h:i<st.length then st[i] else zk
structure DoInv(f:Q9)(a b:List Iv)(st:List Nat)(i:Nat)(out:List Iv):Prop where
 nrm:Nrm out
 lt:∀t∈out,t.hi<KD st i
 mm:∀x,x<KD st i->mem out x=f (mem a x) (mem b x)
 len:out.length<=i
def zgd(j:List Iv)(s:Iv):(Q8 j s).length<=j.length+1:=by
 unfold Q8;split
 .simp
 .split<;>simp<;>omega
def DoInv.step{f:Q9}{a b:List Iv}{st:List Nat}{i:Nat}{u:List Iv}(h:DoInv f a b st i u)(H:Nrm a)(hb:Nrm b)(hs:YN st)(B:∀x∈st,x<zk)(E:∀c,c∈z6 a\/c∈z6 b->c∈st)(hi:i<st.length):
 (f (mem a st[i]) (mem b st[i])=true->DoInv f a b st (i+1) (Q8 u ⟨st[i],if h:i+1<st.length then st[i+1]-1 else zk-1⟩))/\(f (mem a st[i]) (mem b st[i])=false->DoInv f a b st (i+1) u):=by
 have G:KD st i=st[i]:=ul hi;have P:=zw;have J:st[i]<zk:=B _ (XE _);have e1:(if h:i+1<st.length then st[i+1]-1 else zk-1)+1=KD st (i+1)/\st[i]<KD st (i+1)/\KD st (i+1)<=zk:=by
  unfold KD;split
  .rename_i h;have:=jJ hs h (UA i);have:=B _ (XE h);omega
  .omega
 obtain⟨e1,e2,O⟩:=e1;have hcut:∀x,st[i]<=x->x<KD st (i+1)->∀c∈st,c<=st[i]\/x<c:=λx A w c E=>by
  obtain⟨j,I,rfl⟩:=Wp E;rcases WN j i with h|h|h
  .have:=jJ hs hi h;omega
  .subst h;omega
  .right;unfold KD at w;split at w
   .rcases uE (show i+1<=j from h)with o|o
    .subst o;exact w
    .have:=jJ hs I o;omega
   .omega
 have ra:∀s∈a,s.lo<=s.hi/\s.hi<zk:=λs hs=>by have:=NF.lo_ge H s hs;omega
 have rb:∀s∈b,s.lo<=s.hi/\s.hi<zk:=λs hs=>by have:=NF.lo_ge hb s hs;omega
 have same:∀x,st[i]<=x->x<KD st (i+1)->mem a x=mem a st[i]/\mem b x=mem b st[i]:=λx A w=>
  ⟨Qh ra A a8 λc h=>hcut x A w c (E c (.inl h)),Qh rb A a8 λc h=>hcut x A w c (E c (.inr h))⟩
 constructor
 .intro F;obtain⟨L,M,N⟩:=Xm (s:=⟨st[i],if h:i+1<st.length then st[i+1]-1 else zk-1⟩) h.nrm (λt ht=>by have:=h.lt t ht;rw[G]at this;exact this) (by show st[i]<=(if h:i+1<st.length then st[i+1]-1 else zk-1);omega) (by show (if h:i+1<st.length then st[i+1]-1 else zk-1)<zk;omega);refine⟨L,λt ht=>by have:=N t ht;show t.hi<_;simp only at this;omega,λx C=>?_,V0 (zgd _ _) (by have:=h.len;omega)⟩;rw[M x];simp only;rcases wL x st[i]with o|o
  .rw[h.mm x a8];have:¬st[i]<=x:=a8;simp[this]
  .rw[(same x o C).1,(same x o C).2,F];have:x<=(if h:i+1<st.length then st[i+1]-1 else zk-1):=a8;simp[o,this]
 .intro F;refine⟨h.nrm,λt ht=>by have:=h.lt t ht;omega,λx C=>?_,by have:=h.len;omega⟩;rcases wL x st[i]with o|o
  .exact h.mm x a8
  .rw[(same x o C).1,(same x o C).2,F];cases e:mem u x with
   |false=>rfl
   |true=>obtain⟨t,ht,_,K⟩:=qf.1 e;have:=h.lt t ht;omega
def DoInv.done{f:Q9}{a b:List Iv}{st:List Nat}{j:List Iv}(h:DoInv f a b st st.length j)(o:Nrm a)(hb:Nrm b):j=qy f a b:=
 (vK o hb h.nrm λx u=>h.mm x (by unfold KD;rw[UO a8];exact u)).symm
def x8(j:List (List Iv)):YN (zH j):=yi _
def VY(j:List (List Iv)):∃h:0<(zH j).length,(zH j)[0]=0:=by
 have o:0∈zH j:=qr.2 (by simp[yU]);obtain⟨i,hi,e⟩:=Wp o;refine⟨a8,?_⟩;rcases Wl i with h|h
 .subst h;exact e
 .have:=jJ (x8 j) hi h;omega
def Ze{o:List (List Iv)}(h:∀l∈o,∀s∈l,s.lo<zk):∀x∈zH o,x<zk:=λx w=>by
 have:=qr.1 w;simp only[yU,V3,um,z6,jQ]at this;rcases this with rfl|⟨l,u,s,hs,j⟩
 .exact xM
 .rcases j with rfl|j
  .exact h l u s hs
  .split at j
   .simp at j;omega
   .cases j
def DoInv.zero{f:Q9}{a b:List Iv}(j:List (List Iv)):DoInv f a b (zH j) 0 []:=by
 obtain⟨h,e⟩:=VY j;have:KD (zH j) 0=0:=by unfold KD;rw[ul h,e]
 exact⟨trivial,(λ_ h=>by cases h),λx o=>a8,Zp _⟩
def kA(o:List (List Iv))(i j:Nat):List Nat:=0::((o.take i).flatMap z6++z6 ((o[i]?.getD []).take j))
def zf6(j:List (List Iv)):kA j 0 0=[0]:=by simp[kA,z6]
def XW(a b:List Iv):z6 (a++b)=z6 a++z6 b:=by simp[z6]
def zbv{o:List (List Iv)}{i j:Nat}(h:i<o.length)(u:o[i].length<=j):kA o i j=kA o (i+1) 0:=by unfold kA;rw[Zv h,WW,wm u,X4 h,Wq];simp[z6]
def YF{o:List (List Iv)}{i j:Nat}(h:i<o.length)(u:j<o[i].length):kA o i (j+1)=kA o i j++jQ o[i][j]:=by unfold kA;rw[Zv h,WW,zaU u];simp
def zdJ{j:List (List Iv)}{i:Nat}(h:j.length<=i):kA j i 0=yU j:=by unfold kA yU;rw[wm h];simp[z6]
def zdK{o:List (List Iv)}{i:Nat}(j:Nat)(h:i<o.length):(kA o i j).length<=(yU o).length:=by
 have e:o.flatMap z6=(o.take i).flatMap z6++(z6 (o[i].take j)++z6 (o[i].drop j)++(o.drop (i+1)).flatMap z6):=by
  rw[<-XW,Wd]
  conv=>lhs;rw[<-Wd i o,vD h,Wq,Wk]
 unfold kA yU;rw[e,Zv h,WW];simp
def zT(v:List En)(r:Nat):List Iv:=match v.find? (λe=>e.rep == r)with
 |some e=>kn e
 |none=>[]
def zsC(v:List En):Prop:=(∀e∈v,zO e)/\v.Pairwise (λa b=>a.rep<b.rep)
def CanV(v:List En):Prop:=(∀e∈v,YP e)/\v.Pairwise (λa b=>a.rep<b.rep)
def CanV.right{v:List En}(h:CanV v):zsC v:=⟨λe j=>(h.1 e j).1,h.2⟩
def knV_nil(r:Nat):zT [] r=[]:=rfl
def qm(e:En)(v:List En)(r:Nat):zT (e::v) r=if e.rep=r then kn e else zT v r:=by
 unfold zT;by_cases h:e.rep=r
 .simp[h]
 .simp[h]
def qC{v:List En}{r:Nat}(h:∀e∈v,e.rep≠r):zT v r=[]:=by
 induction v with
 |nil=>rfl
 |cons e v ih=>rw[qm,Vq (h e b6),ih λj o=>h j (by simp[o])]
def kq{v:List En}(h:v.Pairwise λa b=>a.rep<b.rep){e:En}(u:e∈v):zT v e.rep=kn e:=by
 induction v with
 |nil=>cases u
 | cons x v ih=>
   have o:=wj.1 h;rw[qm];rcases V3.1 u with rfl|j
   .rw[Vm rfl]
   .have:=o.1 e j;rw[Vq a8,ih o.2 j]
def qi{v:List En}(h:zsC v)(r:Nat):Nrm (zT v r):=by
 unfold zT;split
 .rename_i e he;exact qT (h.1 e (uG he))
 .trivial
def Zk:∀{a b:List En},CanV a->CanV b->(∀r,zT a r=zT b r)->a=b
 |[],[],_,_,_=>rfl
 |[],y::b,_,hb,h=>by have:=h y.rep;rw[knV_nil,qm,Vm rfl]at this;exact absurd this.symm (jO (hb.1 y b6)).1
 |x::a,[],ha,_,h=>by have:=h x.rep;rw[knV_nil,qm,Vm rfl]at this;exact absurd this (jO (ha.1 x b6)).1
 | x::a,y::b,ha,hb,h=>by
   have w:=wj.1 ha.2;have A:=wj.1 hb.2;have B:=ha.1 x b6;have C:=hb.1 y b6;have E:x.rep=y.rep:=by
    rcases WN x.rep y.rep with o|o|o
    .have:=h x.rep;rw[qm,Vm rfl,qC λe j=>by rcases V3.1 j with rfl|j;omega;have:=A.1 e j;omega]at this;exact absurd this (jO B).1
    .exact o
    .have:=h y.rep;rw[qm (e:=y),Vm rfl,qC λe j=>by rcases V3.1 j with rfl|j;omega;have:=w.1 e j;omega]at this;exact absurd this.symm (jO C).1
   have hk:=h x.rep;rw[qm,qm,Vm rfl,Vm E.symm]at hk;have e1:=ZM B;have e2:=ZM C;rw[hk,E,e2]at e1;have u:x=y:=(by injection e1 with e1;exact e1.symm);subst u;congr 1;refine Zk ⟨λe j=>ha.1 e (by simp[j]),w.2⟩ ⟨λe j=>hb.1 e (by simp[j]),A.2⟩ λr=>?_;by_cases o:x.rep=r
   .rw[qC λe j=>by have:=w.1 e j;omega,qC λe j=>by have:=A.1 e j;omega]
   .have:=h r;rw[qm,qm,Vq o,Vq o]at this;exact this
def Xd(f:Q9)(a b:List En)(r:Nat):En×Bool:=Qi r (qy f (zT a r) (zT b r))
def vE(f:Q9)(a b:List En)(r:Nat):Option En:=if (Xd f a b r).2 then some (Xd f a b r).1 else none
def zM(v:List En):List Nat:=v.map En.rep
noncomputable def ks (f:Q9) (a b:List En):List En:=(srt (zM a++zM b)).filterMap (vE f a b)
def xz{f:Q9}{a b:List En}{r:Nat}{e:En}(h:vE f a b r=some e):qy f (zT a r) (zT b r)≠[]/\e=(Xd f a b r).1/\e.rep=r:=by
 unfold vE Xd at h;split at h
 .rename_i h1;rw[zaj]at h1;simp at h1;cases h;exact⟨h1,rfl,by rw[qD h1]⟩
 .cases h
def zad{f:Q9}{a b:List En}{r:Nat}(h:qy f (zT a r) (zT b r)≠[]):vE f a b r=some (Xd f a b r).1:=by unfold vE;rw[Vm];unfold Xd;rw[zaj];simpa using h
def Xr{a b:List En}(o:zsC a)(hb:zsC b):∀r∈srt (zM a++zM b),r<zk:=λr u=>by
 have:=qr.1 u;simp only[zM,wF,wD]at this;rcases this with⟨e,j,rfl⟩|⟨e,j,rfl⟩
 .exact(o.1 e j).2.2.2
 .exact(hb.1 e j).2.2.2
def xj{g:Nat->Option En}(j:∀r e,g r=some e->e.rep=r):∀{l:List Nat},YN l->(l.filterMap g).Pairwise λa b=>a.rep<b.rep
 |[],_=>List.Pairwise.nil
 | r::l,h=>by
   have o:=wj.1 h;rw[uL];cases e:g r with
   |none=>exact xj j o.2
   |some x=>refine wj.2 ⟨λy A=>?_,xj j o.2⟩;obtain⟨B,u,w⟩:=uh.1 A;rw[j _ _ e,j _ _ w];exact o.1 B u
def Xe(f:Q9){a b:List En}(j:zsC a)(hb:zsC b):CanV (ks f a b):=by refine⟨λe w=>?_,xj (λr e h=>(xz h).2.2) (yi _)⟩;obtain⟨r,A,o⟩:=uh.1 w;obtain⟨u,rfl,_⟩:=xz o;exact zak (Xr j hb r A) (qH (qi j r) (qi hb r)) u
def zdv{f:Q9}(j:f false false=false):qy f [] []=[]:=
 vK (a:=[]) (b:=[]) trivial trivial trivial λx o=>by simp[j]
def JR{f:Q9}(F:f false false=false){a b:List En}(B:zsC a)(hb:zsC b)(r:Nat):zT (ks f a b) r=qy f (zT a r) (zT b r):=by
 by_cases h:qy f (zT a r) (zT b r)=[]
 .rw[h];refine qC λe j u=>?_;obtain⟨H,G,E⟩:=uh.1 j;obtain⟨o,_,w⟩:=xz E;rw[u]at w;subst w;exact o h
 .have C:r∈srt (zM a++zM b):=by
   refine qr.2 (wF.2 ?_);rcases Classical.em (r∈zM a)with o|o
   .exact .inl o
   .rcases Classical.em (r∈zM b)with A|A
    .exact .inr A
    .refine absurd ?_ h;rw[qC (v:=a) λe j u=>o (wD.2 ⟨e,j,u⟩),qC (v:=b) λe j u=>A (wD.2 ⟨e,j,u⟩)];exact zdv F
  have j:(Xd f a b r).1∈ks f a b:=uh.2 ⟨r,C,zad h⟩;have w:(Xd f a b r).1.rep=r:=(xz (zad h)).2.2;have:=kq (Xe f B hb).2 j;rw[w]at this;rw[this];exact JO (Xr B hb r C) (qH (qi B r) (qi hb r)) h
def zoY{f:Q9}(u:f false false=false){a b c:List En}(j:zsC a)(hb:zsC b)(o:CanV c)(h:∀r,zT c r=qy f (zT a r) (zT b r)):ks f a b=c:=
 Zk (Xe f j hb) o λr=>by rw[JR u j hb,h]
def QX(e:En):Option En:=if (kP e).2 then some (kP e).1 else none
def zi(v:List En):List En:=v.filterMap QX
def v9{e c:En}(h:QX e=some c):kn e≠[]/\c=(kP e).1/\c.rep=e.rep:=by
 unfold QX kP at h;split at h
 .rename_i h1;rw[zaj]at h1;simp at h1;cases h;exact⟨h1,rfl,by rw[qD h1]⟩
 .cases h
def jN:∀{v:List En},zsC v->CanV (zi v)
 |[],_=>⟨λe h=>(by cases h),List.Pairwise.nil⟩
 | x::v,h=>by
   have p:=wj.1 h.2;obtain⟨o,u⟩:=jN (v:=v) ⟨λe j=>h.1 e (by simp[j]),p.2⟩;unfold zi;rw[uL];cases e:QX x with
   |none=>exact⟨o,u⟩
   | some c=>
     obtain⟨C,rfl,E⟩:=v9 e;have w:=h.1 x b6;refine⟨λe j=>?_,wj.2 ⟨λy B=>?_,u⟩⟩
     .rcases V3.1 j with rfl|j
      .exact zak w.2.2.2 (qT w) C
      .exact o e j
     .obtain⟨z,hz,A⟩:=uh.1 B;obtain⟨_,_,F⟩:=v9 A;rw[E,F];exact p.1 z hz
def ja:∀{v:List En},zsC v->∀r,zT (zi v) r=zT v r
 |[],_,r=>rfl
 | x::v,h,r=>by
   have p:=wj.1 h.2;have w:zsC v:=⟨λe j=>h.1 e (by simp[j]),p.2⟩;have ih:=ja w r;have u:=h.1 x b6;unfold zi at ih⊢;rw[uL,qm];cases e:QX x with
   | none=>
     have hk:kn x=[]:=by
      unfold QX kP at e;rw[zaj]at e;by_cases o:kn x=[]
      .exact o
      .simp[o]at e
     show zT (v.filterMap QX) r=_;rw[ih];split
     .rename_i hr;rw[hk];exact qC λe j=>by have:=p.1 e j;omega
     .rfl
   | some c=>
     obtain⟨A,rfl,B⟩:=v9 e;show zT ((kP x).1::v.filterMap QX) r=_;rw[qm,B,ih];split
     .exact JO u.2.2.2 (qT u) A
     .rfl
section
variable {a b c:List En}
def fU0:zn false false=false:=rfl
def fM0:zm false false=false:=rfl
end
end
section
open Go.ChangeShapes Go.WideShapes Go.ChangeAt Go.RowKit Go.Deep
section
variable {H:Type}{enc:TypeId×Value->H}{w:World}{base:Nat}{spare:Nat->Bool}{held:Bool}
instance : Inhabited Iv:=⟨⟨0,0⟩⟩
def zgC{n:Int}(h:(Lit.int .u64 n).wf=true):∃x:Nat,n=x/\x<zk:=by simp[Lit.wf,IntKind.min,IntKind.max,IntKind.signed,IntKind.bits]at h;exact⟨n.toNat,a8,by rw[zw];omega⟩
def kM{t:TypeId}{j:Nat}{o:List Value}{x:DataW H×List MemPlace}(ht:xt.underlying t=some (.int .u64))(h:DataW.trod enc xt w base spare held j t o=some x):∃n:Nat,o=[.int .u64 n]/\n<zk:=by obtain⟨n,rfl,_,A⟩:=DataW.trod_int ht h;obtain⟨m,rfl,u⟩:=zgC A;exact⟨m,rfl,u⟩
def zaC(a:Addr)(i:Nat):(a.add i).block=a.block:=by unfold Addr.add;split<;>rfl
def Za{α:Type}[Inhabited α]{t e:TypeId}{B sz:Nat}{N:List Value}{x:DataW H×List MemPlace}(rd:World->Nat->Nat->α->Prop)(ht:xt.underlying t=some (.slice e))(M:xt.cellsOf e=sz)
 (G:∀(n:Nat)(a:Addr)(o:List Value)(y:DataW H×List MemPlace),w.cells? base a sz=some o->DataW.trod enc xt w base spare held n e o=some y->a.spot=none/\a.block<w.heap.size/\∃x,rd w a.block a.off x)
 (h:DataW.trod enc xt w base spare held B t N=some x):∃v l,N=[v]/\RdSl sz rd 0 w.heap.size w v l:=by
 rcases open_slice ht h with⟨rfl,_⟩|⟨a,len,E,m,n,D,X,rfl,hb,S,U,K,_,V⟩
 .exact⟨_,[],rfl,RdSl.nil _ _ b8⟩
 have T:len<=m:=by rw[K];split<;>omega
 have A:∀i,i<len->∃y,(a.add (i*sz)).spot=none/\a.block<w.heap.size/\rd w a.block ((a.add (i*sz)).off) y:=by intro i hi;obtain⟨o,P,Q⟩:=V i a8;rw[M]at P;obtain⟨e1,e2,y,O⟩:=G _ _ _ _ P Q;rw[zaC]at e2 O;exact⟨y,e1,e2,O⟩
 obtain⟨f,I⟩:=choose_lt A;refine⟨_,(List.range len).map f,rfl,some a,E,b6,dK S,U,λL=>?_⟩;have j:0<len:=by
  rcases Wl len with F|F
  .subst F;simp at L
  .exact F
 obtain⟨b,u,C⟩:=a;have hs:C=none:=by have:=(I 0 j).1;simpa[Addr.add]using this
 subst hs;refine⟨b,u,rfl,X3 _,(I 0 j).2.1,λi hi=>?_⟩;have J:i<len:=dK hi
 have:=(I i J).2.2;have e:((⟨b,u,none⟩:Addr).add (i*sz)).off=u+i*sz:=by unfold Addr.add;split<;>simp_all
 rw[e]at this;simpa using this
def YB{P:Program}{e:TypeId}{o u:Field}{n:Nat}{a:Addr}{E:List Value}{y:DataW H×List MemPlace}(T:P.underlying e=some (.struct #[o,u]))(U:o.offset=0)(V:u.offset=1)(M:P.cellsOf o.type=1)(N:P.cellsOf u.type=1)
 (Q:w.cells? base a 2=some E) (S:DataW.trod enc P w base spare held n e E=some y) :
 ∃B C k G I,w.cell? a=some B/\w.cell? (a.add 1)=some C/\DataW.trod enc P w base spare held k o.type [B]=some G/\DataW.trod enc P w base spare held k u.type [C]=some I:=by
 obtain⟨_,A,j⟩:=World.cells?_some Q;obtain⟨X,k,_,_,_,F,L⟩:=DataW.trod_struct T S;match X,F,E,A with
 |[G,I],_,[B,C],_=>have J:=L 0 o rfl;have K:=L 1 u rfl;simp[U,V,M,N]at J K;have O:=j 0 a8;have e1:=j 1 a8;exact⟨B,C,k,G,I,by simpa[Addr.add]using O,dK e1,J,K⟩
def zfA{n:Nat}{a:Addr}{B:List Value}{y:DataW H×List MemPlace}(F:w.cells? base a 2=some B)(G:DataW.trod enc xt w base spare held n 61 B=some y):a.spot=none/\a.block<w.heap.size/\∃s,rdIv w a.block a.off s:=by
 obtain⟨L,M,k,N,O,o,e1,C,E⟩:=YB underlying61 rfl rfl dL dL F G;obtain⟨lo,J,A⟩:=kM underlying36 C;obtain⟨hi,K,u⟩:=kM underlying36 E;obtain rfl:L=_:=dK J
 obtain rfl:M=_:=dK K
 obtain⟨b,I,j⟩:=a;obtain rfl:j=none:=World.cell?_spot o;exact⟨rfl,tr _ _ o,⟨lo,hi⟩,o,by simpa[Addr.add]using e1,A,u⟩
def ZA{j:Nat}{o:List Value}{x:DataW H×List MemPlace}(h:DataW.trod enc xt w base spare held j 24 o=some x):∃v l,o=[v]/\RdR 0 w.heap.size w v l:=
 Za rdIv underlying24 dL (λ_ _ _ _ u A=>zfA u A) h
def zrL{r:Reach}{o:Nat}{v:Value}{d:DataW H}{B:List MemPlace}(j:Value.okWide xt w r o 36 v)(h:DataW.Trod enc xt w base spare held 36 v d B):∃n:Nat,v=.int .u64 n/\n<zk:=by obtain⟨n,rfl,_,_,A⟩:=open_int underlying36 j h;obtain⟨m,rfl,u⟩:=zgC A;exact⟨m,rfl,u⟩
end
end
namespace As
open Go.RowKit Go.Extern.Stop Go.Stop Go.Extern
def as_NN(c:Int)(t:Addr)(u:Value)(w:World)(C:w.cell? ⟨0,0,none⟩=some (.iface 190 (.agg #[.pointer (some ⟨1,41,none⟩)])))(j:w.cell? t=some u)(A:w.frozen? t=false):
 Calls xt 47 #[.iface 66 (.int .i64 c),.iface 108 (.pointer (some t))] w λev S=>ev=.returned (.bool true)/\S=((((w.alloc (.cells #[.pointer (some t)] 108)).alloc (.cells #[.pointer (some ⟨1,108,none⟩),.pointer (some ⟨w.heap.size,0,none⟩),.int .u64 150] 159)).alloc (.cells #[.pointer (some ⟨1,108,none⟩),.pointer (some ⟨w.heap.size,0,none⟩),.int .u64 150] 159)).alloc (.cells #[.int .i64 c] 66)).setCell t (.int .i64 c):=by
 have X:=λa w=>xt0 a w;have Y:=λa w=>xt1 a w;have Z:=λa w=>xt2 a w;have J:=λa w=>xt3 a w;have L:=λa w=>xt4 a w;have M:=λa w=>xt5 a w;have G:=λa w=>xt6 a w;have K:=λa w=>xt7 a w;have H:=λa w=>xt8 a w;have I:=λa w=>xt9 a w;have tO:=typeOfN;have mA:=methodAssignableTo;have a25:=assignableN;have Q:=valueOfN;have U:=valueOfNp;have V:=typeNp;have mK:=methodKind;have mE:=methodElem;have mI:=methodImplements;have P:=kindNp;have k25:=kindN;have E:=elemNp;have O:=implementsN;have n8:=isNilNp ⟨w.heap.size,0,none⟩ t ((w.alloc (.cells #[.pointer (some t)] 108)).alloc (.cells #[.pointer (some ⟨1,108,none⟩),.pointer (some ⟨w.heap.size,0,none⟩),.int .u64 150] 159)) b6;have B:0<w.heap.size:=by
  rcases Wl w.heap.size with F|h
  .simp[World.cell?,F]at C
  .exact h
 have N:((w.alloc (.cells #[.pointer (some t)] 108)).alloc (.cells #[.pointer (some ⟨1,108,none⟩),.pointer (some ⟨w.heap.size,0,none⟩),.int .u64 150] 159)).cell? ⟨0,0,none⟩=some (.iface 190 (.agg #[.pointer (some ⟨1,41,none⟩)])):=by rw[tu _ _ ⟨0,0,none⟩ b6,tu _ _ ⟨0,0,none⟩ B];exact C
 have o:t.block<w.heap.size:=by
  rcases wL t.block w.heap.size with h|h
  .exact h
  .simp[World.cell?,W9 h]at j
 have T:=elemVNp ⟨w.heap.size,0,none⟩ t (((w.alloc (.cells #[.pointer (some t)] 108)).alloc (.cells #[.pointer (some ⟨1,108,none⟩),.pointer (some ⟨w.heap.size,0,none⟩),.int .u64 150] 159)).alloc (.cells #[.pointer (some ⟨1,108,none⟩),.pointer (some ⟨w.heap.size,0,none⟩),.int .u64 150] 159)) (by rw[tu _ _ ⟨w.heap.size,0,none⟩ a9];simp);have st:=setN t ⟨w.heap.size+1+1+1,0,none⟩ c u ((((w.alloc (.cells #[.pointer (some t)] 108)).alloc (.cells #[.pointer (some ⟨1,108,none⟩),.pointer (some ⟨w.heap.size,0,none⟩),.int .u64 150] 159)).alloc (.cells #[.pointer (some ⟨1,108,none⟩),.pointer (some ⟨w.heap.size,0,none⟩),.int .u64 150] 159)).alloc (.cells #[.int .i64 c] 66))
  (by rw[tY _ _ _ _ b6];rfl)
  (by rw[tu _ _ t a9,tu _ _ t a9,tu _ _ t a9,tu _ _ t o];exact j)
  (by rw[tC _ _ t a9,tC _ _ t a9,tC _ _ t a9,tC _ _ t (Un o)];exact A)
 go_enter func47,ntmps47
 go_wp2;refine To 1 ?_;rw[Ta]
 go_wp2;go_ret;exact⟨rfl,rfl⟩
end As
section
def zdd{f:Q9}{a b:List En}:∀e∈ks f a b,e.rep∈srt (zM a++zM b):=λe j=>by unfold ks at j;obtain⟨r,o,h⟩:=uh.1 j;rw[(xz h).2.2];exact o
def BV(n h:Nat)(v:List En):Prop:=zsC v/\v.length<=n/\∀e∈v,e.holes.length<=h
def ji{n h:Nat}{v:List En}(j:BV n h v)(r:Nat):(zT v r).length<=2*h+3:=by
 unfold zT;cases hf:v.find? (λe=>e.rep == r)with
 |none=>simp
 |some e=>have o:=j.2.2 e (uG hf);have u:=kW e;simp only;omega
def BV.mono{n h m k:Nat}{v:List En}(j:BV n h v)(o:n<=m)(u:h<=k):BV m k v:=⟨j.1,V0 j.2.1 o,λe w=>V0 (j.2.2 e w) u⟩
def zl9(r c:Nat):List En:=[(Qi r [⟨c,c⟩]).1]
def zmc{c:Nat}(j:c<zk):Nrm [⟨c,c⟩]:=⟨X3 _,Zp _,j,trivial⟩
def zkS{r c:Nat}(u:r<zk)(o:c<zk):CanV (zl9 r c):=⟨λe j=>by
 simp only[zl9,wH]at j;subst j;exact zak u (zmc o) b6,by simp[zl9]⟩
def zoD{r c:Nat}(u:r<zk)(o:c<zk):BV 1 5 (zl9 r c):=⟨(zkS u o).right,Zp _,λe j=>by
 simp only[zl9,wH]at j;subst j;have:=J0 r [⟨c,c⟩];simpa using this⟩
def zoE{r c:Nat}(u:r<zk)(o:c<zk)(x:Nat):zT (zl9 r c) x=if r=x then [⟨c,c⟩] else []:=by
 have j:(Qi r [⟨c,c⟩]).1.rep=r:=by rw[qD b6]
 unfold zl9;rw[qm,j,knV_nil,JO u (zmc o) b6]
end
section
open Go.RowKit
def wpList_append_copy{w:World}{S:Array Oper}{rest:List Oper}{o:Oper}{a:Act}{Q:Exit->Act->World->Prop}(M:o.guard=none)(s x:Operand)
 (ho:o.op=.call { callee:=.builtin .append,args:=#[s,x],argTypes:=#[24,24] }) (i:TypeInfo) (z:Value) (A:Nat)
 (hi:xt.info? 61 = some i) (hz:i.zero=some z) (H:i.size=2) (Z:i.bytes=A) (Y:A<=64) (hzs:z.cells.size=2)
 (B:Nat) (hs:a.eval s=.slice (some ⟨B,0,none⟩) 0 0) (hB:w.heap[B]?=some (.cells #[] 61 (0,0))) (O:Nat) (ac:O<=B)
 {v:Value} {l:List Iv} (hx:a.eval x=v) (hr:RdR 0 w.heap.size w v l) (hl:l.length<=1099511627776)
 (h:∀U T,OwnR O T U l->Below B w T->wpList xt S Q rest (a.put o.dst U) T) :
 wpList xt S Q (o::rest) a w:=by
 have af:B<w.heap.size:=(Yf.1 hB).1;have C:w.ownsRow O 61 2 (.slice (some ⟨B,0,none⟩) 0 0) 0 []:=⟨rfl,.inr ⟨B,0,#[],rfl,ac,hB,Zp _,b8,rfl,rfl⟩⟩;have J:=hr.bound;obtain⟨V,X,rfl,ah,ag,hc⟩:=hr;cases V with
 | none=>
   obtain rfl:l=[]:=by
    cases l with
    |nil=>rfl
    |cons s l=>obtain⟨b,E,e,_⟩:=hc b6;cases e
   refine TX M λK hK=>?_;have F:OwnR O w (.slice (some ⟨B,0,none⟩) 0 0) []:=⟨C,b6⟩;have hq:=hK _ _ (h _ _ F (tv _ _));clear C hc J h hK F;simp only[Wt]at hx;unfold Oper.wp execOp;simp only[ho,resolve,invoke,builtin,tH,tJ,tB,ui,WA,ub,hs,hx];go_simp;exact hq
 | some V=>
   refine Ti (P:=xt) w M s x 24 ho O 61 i z 2 A underlying24 hi hz H Z hzs b8 _ 0 [] hs C V l.length X (xw l) hx (y6 l) ?_ ?_ c8 ?_ a8 ?_
   .intro j u N;have ab:j<l.length*2:=by
     have:=(Zw.1 N).1
     rwa[y6]at this
    have ae:l≠[]:=(by intro e;subst e;simp at ab);obtain⟨b,E,e,_,_,G⟩:=hc ae;cases e;have I:(⟨b,E,none⟩:Addr).add j=⟨b,E+j,none⟩:=by unfold Addr.add;split<;>simp_all
    rw[I];have hk:j/2<l.length:=a8;obtain⟨g1,g2,_⟩:=G (j/2) hk;obtain⟨f1,f2⟩:=vz l (j/2) hk;rcases UQ j with h0|h0
    .have e:j/2*2=j:=a8;rw[e]at g1 f1;rw[f1]at N;cases N;exact g1
    .have e:j/2*2+1=j:=a8;rw[show E+j/2*2+1=E+j from by omega]at g2;rw[e]at f2;rw[f2]at N;cases N;exact g2
   .intro u hu;simp[xw]at hu;obtain⟨s,_,rfl|rfl⟩:=hu<;>rfl
   .calc (0+l.length)*A<=1099511627776*64:=UR a8 Y
     _<=140737488355328:=b8
   .intro U T ho L _ hv;refine h U T ⟨?_,J⟩ ⟨L.os,L.tape,L.output,L.size,λk hk=>L.block k a8 (by simp[Value.ownBlock];omega)⟩;simpa using ho
def zff(b:Addr)(n c:Nat)(w:World):(binOp .eql 24 (.slice (some b) n c) (.slice none 0 0)).run xt w=.ok (.bool false) w:=dL
def zqL(n c:Nat)(w:World):(binOp .eql 24 (.slice none n c) (.slice none 0 0)).run xt w=.ok (.bool true) w:=dL
def zeX{w:World}{v:Value}{l:List Iv}(I:RdR 0 w.heap.size w v l)(P:l.length<=1099511627776):
 Calls xt 72 #[v] w λe H=>∃E,e=.returned E/\OwnR w.heap.size H E l/\Below w.heap.size w H:=by
 obtain⟨T,u,A,B,C⟩:=tR Tryz.infoIv;have M:=qL I;obtain⟨a,o,rfl,N,O,F⟩:=I;cases a with
 | none=>
   have J:=qL (show l=[] from wV λQ=>by obtain⟨b,U,e,_⟩:=F Q;cases e);have S:=zqL l.length o;clear N O F u A B C;go_enter func72,ntmps72
   go_wp2;go_ret;exact⟨_,rfl,by rw[J.o];exact OwnR.nil _ _,tv _ _⟩
 | some b=>
   clear F;have K:qA (RdR 0 (w.alloc (.cells #[] 61)).heap.size (w.alloc (.cells #[] 61)) (.slice (some b) l.length o) l):=qL (M.o.keep (Zp _) b6 λj _ h=>tw _ _ _ h);have L:=tq w (.cells #[] 61 (0,0));have S:=zff b l.length o;go_enter func72,ntmps72
   go_wp2_with (at_builtin;refine wpList_append_copy rfl _ _ rfl T (.agg #[.int .u64 0,.int .u64 0]) 16 u A B C b8 rfl w.heap.size rfl L w.heap.size (Zp _) rfl K.o P ?_;intro E H ho G)
   go_ret;exact⟨E,rfl,ho,((tv _ w).alloc (Zp _) (.cells #[] 61 (0,0))).trans G⟩
end
section
open Go.RowKit
instance kpoW:Pl.Kpo World:=⟨Keep qe,λw=>Keep.refl _ w,λ_ _ _ h k=>h.trans k⟩
namespace Pl
variable {Ω:Type}[Kpo Ω]
def walkE_mono{j:Oper->Act->Ω->(Act->Ω->Prop)->Prop}{a0:Act}{w0:Ω}{C:Ω->Prop}{E u:List (Option Tmp×VP Ω)->Prop}(w:∀env,E env->u env):∀(l:List Oper)(env:List (Option Tmp×VP Ω)),walkE j a0 w0 C E l env->walkE j a0 w0 C u l env
 |[],env,h=>w env h
 |o::l,env,⟨V,h1,h2,h3⟩=>⟨V,h1,h2,walkE_mono w l _ h3⟩
omit [Kpo Ω] in
def finG_mono{F j:Act->Ω->Prop}{w:Ω}(hF:∀a w,F a w->j a w):∀(env:List (Option Tmp×VP Ω))(a:Act),finG F w env a->finG j w env a
 |[],a,h=>hF a w h
 |(none,_)::r,a,h=>finG_mono hF r a h
 |(some d,V)::r,a,h=>λu o=>finG_mono hF r _ (h u o)
section
variable {P:Program}{Q:Exit->Act->World->Prop}{a0:Act}{w0:World}{C:World->Prop}{E:List (Option Tmp×VP World)->Prop}{l:List Oper}{o:Oper}{env:List (Option Tmp×VP World)}{f:Nat->Nat}
def wdetK(v:Value)(F:o.guard=none)(h:∀a w,C w->Keep qe w0 w->Rds env a0 (zA o) a w->(execOp a.eval o).run P w=.ok (.value v) w)
 (G:walkE (xC P Q) a0 w0 C E l (env++[(o.dst,λu _=>u=v)])):walkE (xC P Q) a0 w0 C E (jA f o::l) env:=
 ⟨λu _=>u=v,λ_ _ _ h _=>h,by
  have j:(jA f o).guard=none:=(by simp[jA,F]);unfold stepOk;rw[j];intro a w A hk H K B;show (jA f o).wp P a w K Q;rw[Xq];show o.upon P a K Q ((execOp a.eval o).run P w);rw[h a w A hk H];exact B v w (Keep.refl _ _) A rfl,G⟩
def wgenK(V:VP World)(hs:∀u w A,V u w->Keep qe w A->V u A)(G:o.guard=none)
 (h:headOk (xC P Q) a0 w0 C env o V) (H:walkE (xC P Q) a0 w0 C E l (env++[(o.dst,V)])):walkE (xC P Q) a0 w0 C E (jA f o::l) env:=
 ⟨V,hs,by
  have j:(jA f o).guard=none:=(by simp[jA,G]);unfold stepOk;rw[j];intro a w F hk I K B;show (jA f o).wp P a w K Q;rw[Xq];exact h a w F hk I K B,H⟩
end
end Pl
def znC{P:Program}{id:Nat}{l:List Oper}{Q:Exit->Act->World->Prop}{a:Act}{w:World}(σ:List Nat)(A nt:Nat)(C:World->Prop)(hm:P.follows .mixedOrders=true)(hp:q9 l.length σ=true)
 (Y:(zck (z8 l σ).toArray A 1 nt && yK (z8 l σ).toArray (A+1))=true) (ad:a.tmps.size=nt) (hC:C w.drew) (j u:Oper) (hcut:(z8 l σ)[A+1]?=some j) (S:(z8 l σ)[A]?=some u) (ac:j.guard=none) (T:u.guard=none) (J:List Oper) (O:(z8 l σ).drop (A+2)=J)
 (h:Pl.walkE (xC P Q) a w.drew C (λenv=>(∀B,C B->Keep qe w.drew B->Pl.finG (λa w=>wpList P (z8 l σ).toArray Q (j::J) a w) B env a)/\∀B,C B->Keep qe w.drew B->Pl.finG (λa w=>j.wp P a w (λa w=>wpList P (z8 l σ).toArray Q (u::J) a w) Q) B (env.take A) a) ((z8 l σ).take (A+1)) []):(Code.region id l.toArray true).wp P Q a w:=by
 refine TT hm ?_;refine xd hp ?_;generalize z8 l σ=L at *;rw[VS]at Y;obtain⟨ae,V,hR,I,E,H⟩:=KI Y.1;have hs:A+2<=L.length:=dK V
 have ab:L.drop (A+1)=j::J:=by rw[vD a8,O];rw[Zv a8]at hcut;rw[wE hcut]
 obtain⟨X,G⟩:∃X:Nat->Act->World->Prop,X=λc=>match c with|0=>wpList P L.toArray Q (u::J)|_=>wpList P L.toArray Q J:=⟨_,rfl⟩
 refine Pl.greadyC (Ω:=World) (ops:=L.toArray) (nh:=A) (r:=1) (a0:=a) (w0:=w.drew) (C:=C) rfl (xC P Q) (wpOp P L.toArray Q) (wpAny P .any L.toArray Q) (λa w=>Q .normal a w) (λk a w=>wpList P L.toArray Q (L.drop k) a w)
  ?_ (λi K K' a w hk hs=>Tv hk hs) (λF a w M N=>⟨M,N⟩) (λaf F a w M N=>⟨M,N⟩) ?_ ?_ ae hR I E H Y.2 V X ?_ ?_ ad hC (Pl.walkE_mono ?_ _ _ h)
 .intro i o K a w ho hs;unfold wpOp;simp only[ho];split
  .rename_i hw;rw[Vm hw]at hs;exact .inl hs
  .rename_i hw;rw[Vq hw]at hs;exact hs
 .intro k a w hk ht;have U:k<L.length:=(dK hk);simp only[vD U,wpList]at ht;unfold wpOp;simp only[wI,Zv U];exact ht
 .intro a w ht;simpa[wpList]using ht
 .intro c a w hc ht;obtain rfl:c=0:=a8;rw[G]at ht⊢;simp only[wpList,Vm (show Region.wanted u (yielded L.toArray a.tmps)=true by simp[Region.wanted,T])]at ht;unfold wpOp;simp only[wI,ug,S];rw[Vm (show Region.wanted u (yielded L.toArray a.tmps)=true by simp[Region.wanted,T])];exact ht
 .intro a w ht;rw[G]at ht;show wpList P L.toArray Q (L.drop (A+2)) a w;rw[O];exact ht
 .rintro env ⟨M,N⟩;refine⟨λB hc hk=>?_,λc hc B Z hk=>?_⟩
  .rw[ab];exact M B hc hk
  .obtain rfl:c=0:=a8;refine Pl.finG_mono (λa w h=>?_) _ _ (N B Z hk);unfold wpOp;simp only[wI,hcut];rw[Vm (show Region.wanted j (yielded L.toArray a.tmps)=true by simp[Region.wanted,ac]),G];exact .inl h
end
section
open Go.RowKit
attribute [local go_sem] Oper.semAt_some
abbrev Sv:=Option Addr×Nat×Nat
abbrev Fv:=Sv×Sv
def sv(x:Sv):Value:=.slice x.1 x.2.1 x.2.2
def Y4(p:Nat×Fv):Array Value:=#[.int .i64 (p.1:Nat),.agg #[sv p.2.1,sv p.2.2]]
def wl(j:Nat->Bool):Nat->List Fv->List (Nat×Fv)
 |_,[]=>[]
 |n,f::r=>if j n=true then (n,f)::wl j (n+1) r else wl j (n+1) r
def Kw(j:Nat->Bool):∀(l r:List Fv)(n:Nat),wl j n (l++r)=wl j n l++wl j (n+l.length) r
 |[],r,n=>by simp[wl]
 | f::l,r,n=>by
   have:=Kw j l r (n+1);rw[yb,wl,wl,this,ww,show n+1+l.length=n+(l.length+1) by omega];split<;>simp
def XF{hit:Nat->Bool}{l:List Fv}{k:Nat}(h:k<l.length):wl hit 0 (l.take (k+1))=wl hit 0 (l.take k)++(if hit k=true then [(k,l[k])] else []):=by rw[X4 h,Kw,We,W8 a8,wn];simp[wl]
def zi8{j:Nat->Bool}{l:List Fv}{k:Nat}(h:k<l.length)(u:j k=true):wl j 0 (l.take k)++[(k,l[k])] <+: wl j 0 l:=by
 have o:=XF (hit:=j) h;rw[Vm u]at o;rw[<-o]
 conv=>rhs;rw[<-Wd (k+1) l,Kw]
 exact List.prefix_append _ _
def PtF(w o j:Nat)(A B:World):Prop:=A.heap.size<=B.heap.size/\∀k,k<A.heap.size->(k<w\/k=o\/k=j\/∃u f,A.heap[k]?=some (.cells u 59 f))->B.heap[k]?=A.heap[k]?
def zeF(B:Nat)(w:World)(A:Option Addr)(o:Nat)(u:List Fv):Prop:=u.length<=o/\o<=maxLen/\(u≠[]->∃b j,A=some ⟨b,j,none⟩/\b<B/\∀i (h:i<u.length),w.cell? ⟨b,j+i*2,none⟩=some (sv u[i].1)/\w.cell? ⟨b,j+i*2+1,none⟩=some (sv u[i].2))
def zew(A:List Fv)(C:Nat->Bool)(av:Option Addr)(af Bk ok H oi Q item:Nat)(I:World)(ao:zeF Q I av af A)
 (aj:I.cell? ⟨Bk,ok,none⟩=some (.slice av A.length af)) (ai:I.cell? ⟨H,oi,none⟩=some (.int .u64 (item:Nat))) (an:Q<=I.heap.size)
 (P:∀(w:World)(i:Nat)(h:i<A.length),(∀k,k<Q->w.heap[k]?=I.heap[k]?)->Q<=w.heap.size->Calls xt 45 #[sv A[i].1,.int .u64 (item:Nat)] w λe w'=>e=.returned (.bool (C i))/\Below w.heap.size w w') :
 v7 xt 120 #[.pointer (some ⟨Bk,ok,none⟩),.pointer (some ⟨H,oi,none⟩)] Y4 (λ_=>False) (PtF Q Bk H) (wl C 0 A) I:=by
 intro l J Jx hJ ag hY h0;refine callsIn_wide.2 ?_;show Calls xt 120 #[.func (.yield l) #[] #[],.pointer (some ⟨Bk,ok,none⟩),.pointer (some ⟨H,oi,none⟩)] I _;have HJ:=qL hJ;have aB:=qL ag;have HY:=qL hY;have HH:=qL P;obtain⟨aC,ax,F⟩:=ao;have T:=qL F;unfold maxLen at ax;have aw:=aj;clear hJ ag hY P F;go_enter func120,ntmps120
 go_wp2_with fail
 go_loopg [8] A.length (λg x wr=>∃k:Nat,k<=A.length/\g=A.length-k/\x=.int .i64 k/\J (wl C 0 (A.take k)) wr/\(∀j,j<Q->wr.heap[j]?=I.heap[j]?)/\wr.cell? ⟨H,oi,none⟩=some (.int .u64 (item:Nat))/\Q<=wr.heap.size)
 case atStart=>exact⟨0,X3 _,rfl,rfl,by simpa[wl]using h0,λ_ _=>rfl,ai,an⟩
 case round=>
  obtain⟨k,hk,rfl,rfl,K,B,M,ay⟩:=hrel;clear h0 aw aj ai an;by_cases u:k<A.length
  .obtain⟨b,N,au,ak,O⟩:=T.o (λe=>by rw[e]at u;simp at u);subst au;obtain⟨c0,c1⟩:=O k u;have V:=XF (hit:=C) u;have G:C k=true->_:=zi8 u;have hH:=λw=>HH.o w k u;obtain⟨⟨⟨a0,m0,q0⟩,⟨Y,m1,q1⟩⟩,hf⟩:∃f,f=A[k]:=⟨_,rfl⟩;rw[<-hf]at c0 c1 V G;simp only[<-hf]at hH;simp only[sv]at c0 c1 hH;have d0:wr.cell? ⟨b,N+k*2,none⟩=some (.slice a0 m0 q0):=(tp (a:=⟨b,N+k*2,none⟩) (B b ak)).trans c0;have d1:wr.cell? ⟨b,N+k*2+1,none⟩=some (.slice Y m1 q1):=(tp (a:=⟨b,N+k*2+1,none⟩) (B b ak)).trans c1;have e0:(wr.alloc (.cells #[.slice a0 m0 q0,.slice Y m1 q1] 59 (0,0))).cell? ⟨H,oi,none⟩=some (.int .u64 (item:Nat)):=(tp (a:=⟨H,oi,none⟩) (tw _ _ _ (tr _ _ M))).trans M;have ae:=qL V;have HP:=qL G;have E:=qL B;have S:=qL M;have ab:=qL hH;have ac:=qL K;clear O V G B M hH c0 c1 hf K;have ad:qA (∀j,j<Q->(wr.alloc (.cells #[.slice a0 m0 q0,.slice Y m1 q1] 59 (0,0))).heap[j]?=I.heap[j]?):=qL λj Z=>(tw _ _ _ a8).trans (E.o j Z);go_upto_region 3 with fail;refine(Ty (n:=8)).1 ?_;cases hh:C k with
   | false=>
     gi_wp2_with (refine⟨trivial,?_⟩;gi_at_call 45;refine(callsIn_wide.2 (ab.o _ ad.o a9)).mono ?_;rw[hh];rintro e X ⟨rfl,L⟩)
     refine⟨λ_ h=>(by cases h),?_⟩
     gi_wp2
     go_wp2;go_roundg (A.length-(k+1));case measure=>omega
     case rel=>have o:Keep (λ_=>False) wr X:=((Keep.refl _ _).alloc _).trans (Keep.of_below' L (Zp _));refine⟨k+1,u,rfl,b6,?_,λj Z=>(o.block j a8 id).trans (E.o j Z),o.cell_some S.o id,V0 ay o.size⟩;rw[ae.o,hh];simp only[uC,U0,Wc];exact HJ.o _ _ _ ac.o o
   | true=>
     gi_wp2_with (refine⟨trivial,?_⟩;gi_at_call 45;refine(callsIn_wide.2 (ab.o _ ad.o a9)).mono ?_;rw[hh];rintro e X ⟨rfl,L⟩
                  have o:Keep (λ_=>False) wr X:=((Keep.refl _ _).alloc _).trans (Keep.of_below' L (Zp _));have am:X.heap[wr.heap.size]?=some (.cells #[.slice a0 m0 q0,.slice Y m1 q1] 59 (0,0)):=(L.block _ b6).trans (tq _ _);have x0:X.cell? ⟨wr.heap.size,0,none⟩=some (.slice a0 m0 q0):=(by simp[World.cell?,am]);have x1:X.cell? ⟨wr.heap.size,1,none⟩=some (.slice Y m1 q1):=(by simp[World.cell?,am]);obtain⟨fn,aA,aq,az,hy,hR⟩:=HY.o _ (k,((a0,m0,q0),(Y,m1,q1))) X (HJ.o _ _ _ ac.o o) (HP.o hh);simp only[Y4,sv]at hy)
     refine hR.mono ?_;rintro e w3 (⟨rfl,ar,U⟩|⟨rfl,ah⟩)
     .gi_wp2
      go_wp2;go_roundg (A.length-(k+1));case measure=>omega
      case rel=>refine⟨k+1,u,rfl,b6,?_,λj Z=>(U.2 j (by have:=o.size;omega) (.inl Z)).trans ((o.block j a8 id).trans (E.o j Z)),(tp (a:=⟨H,oi,none⟩) (U.2 H (vw (tr _ _ S.o) o.size) (.inr (.inr (.inl rfl))))).trans (o.cell_some S.o id),by have:=o.size;have:=U.1;omega⟩;rw[ae.o,hh];simpa using ar
     .gi_wp2
      go_wp2;refine tA (tN rfl _ _ _) rfl ?_;exact⟨⟨_,rfl⟩,.inr ⟨_,HP.o hh,ah⟩⟩
  .obtain rfl:k=A.length:=a8
   go_wp2_with fail
   go_end0
   rw[Wr]at K;exact⟨⟨_,rfl⟩,.inl K⟩
attribute [local go_sem] Oper.semAt_some
def zex(a:Option Addr)(n c item:Nat)(w:World):Calls xt 86 #[.slice a n c,.int .u64 (item:Nat)] w λe j=>e=.returned (.func (.func 120) #[] #[.pointer (some ⟨w.heap.size,0,none⟩),.pointer (some ⟨w.heap.size+1,0,none⟩)])/\j=(w.alloc (.cells #[.slice a n c] 54)).alloc (.cells #[.int .u64 (item:Nat)] 36):=by
 go_enter func86,ntmps86
 go_wp2;go_ret;exact⟨rfl,rfl⟩
def znR{α:Type}{q:α->Bool}{l j:List α}(h:l <+: j)(o:l.any q=true):j.any q=true:=by obtain⟨r,rfl⟩:=h;rw[UI,o];rfl
def SH(n:Nat)(A B:World):Prop:=(∃v,Boxed A n 4 v)/\Keep (λk=>k=n) A B
def SH.pt{n E C w:Nat}{A B:World}(h:SH n A B)(J:E<=n)(F:C≠n)(G:w≠n):PtF E C w A B:=by
 obtain⟨⟨v,H⟩,hk⟩:=h;refine⟨hk.size,λk o j=>hk.block k o ?_⟩;rintro rfl;rcases j with j|j|j|⟨I,f,j⟩
 .omega
 .exact F j.symm
 .exact G j.symm
 .have u:A.heap[k]?=some (.cells #[v] 4 (0,0)):=H;rw[u]at j;cases j
def zn5(P:Option Addr)(U Q item r c:Nat)(xs:List (Nat×Fv))(q:Nat×Fv->Bool)(w:World)
 (hit:∀W,(∀k,k<w.heap.size->W.heap[k]?=w.heap[k]?)->w.heap.size+5<=W.heap.size->W.cell? ⟨w.heap.size+3,0,none⟩=some (.slice P U Q)->W.cell? ⟨w.heap.size+4,0,none⟩=some (.int .u64 (item:Nat)) ->
   v7 xt 120 #[.pointer (some ⟨w.heap.size+3,0,none⟩),.pointer (some ⟨w.heap.size+4,0,none⟩)] Y4 (λ_=>False) (PtF w.heap.size (w.heap.size+3) (w.heap.size+4)) xs W)
 (T:∀W p,p∈xs->Below w.heap.size w W->Calls xt 87 #[sv p.2.2,.int .u64 (r:Nat),.int .u64 (c:Nat)] W λe W'=>e=.returned (.bool (q p))/\Below W.heap.size W W') :
 Calls xt 46 #[.slice P U Q,.int .u64 (item:Nat),.int .u64 (r:Nat),.int .u64 (c:Nat)] w λe w'=>e=.returned (.bool (xs.any q))/\Below w.heap.size w w':=by
 have ae:=qL hit;have HH:=qL T;clear hit T;refine callsIn_wide.1 (Td (n:=9) func46 rfl trivial ?_ rfl);simp only[ntmps46,WC,ww,Wt,Nat.reduceAdd,Nat.reduceSub,uu,uv,uJ,ux,Y1,yb]
 gi_wp2_with (refine⟨trivial,?_⟩;gi_at_call 86;refine(callsIn_wide.2 (zex _ _ _ _ _)).mono ?_;rintro e w' ⟨rfl,rfl⟩)
 obtain⟨E,G⟩:=xn ((((((w.alloc (Obj.cells #[.int .u64 (r:Nat)] 36)).alloc (Obj.cells #[.int .u64 (c:Nat)] 36)).alloc (Obj.cells #[.bool false] 4)).alloc (Obj.cells #[.slice P U Q] 54)).alloc (Obj.cells #[.int .u64 (item:Nat)] 36)));have ag:E.heap.size=w.heap.size+5:=by rw[<-G];simp
 have b0:Boxed E w.heap.size 36 (.int .u64 (r:Nat)):=by rw[<-G];exact((((tX w _ _).alloc _).alloc _).alloc _).alloc _
 have b1:Boxed E (w.heap.size+1) 36 (.int .u64 (c:Nat)):=by rw[<-G];have:=tX (w.alloc (Obj.cells #[.int .u64 (r:Nat)] 36)) 36 (.int .u64 (c:Nat));rw[tx]at this;exact((this.alloc _).alloc _).alloc _
 have b2:Boxed E (w.heap.size+2) 4 (.bool false):=by rw[<-G];have:=tX ((w.alloc (Obj.cells #[.int .u64 (r:Nat)] 36)).alloc (Obj.cells #[.int .u64 (c:Nat)] 36)) 4 (.bool false);simp only[tx]at this;exact(this.alloc _).alloc _
 have b3:Boxed E (w.heap.size+3) 54 (.slice P U Q):=by rw[<-G];have:=tX (((w.alloc (Obj.cells #[.int .u64 (r:Nat)] 36)).alloc (Obj.cells #[.int .u64 (c:Nat)] 36)).alloc (Obj.cells #[.bool false] 4)) 54 (.slice P U Q);simp only[tx]at this;exact this.alloc _
 have b4:Boxed E (w.heap.size+4) 36 (.int .u64 (item:Nat)):=by rw[<-G];have:=tX ((((w.alloc (Obj.cells #[.int .u64 (r:Nat)] 36)).alloc (Obj.cells #[.int .u64 (c:Nat)] 36)).alloc (Obj.cells #[.bool false] 4)).alloc (Obj.cells #[.slice P U Q] 54)) 36 (.int .u64 (item:Nat));simp only[tx]at this;exact this
 have ab:Below w.heap.size w E:=by rw[<-G];exact(((((tv _ _).alloc (Zp _) _).alloc b6 _).alloc a9 _).alloc a9 _).alloc a9 _
 try simp only[tx]
 rw [G];clear G;refine Xt (w:=E) 120 #[.pointer (some ⟨w.heap.size+3,0,none⟩),.pointer (some ⟨w.heap.size+4,0,none⟩)] rfl (enters_of func120 dL rfl) Y4 (λ_=>rfl)
  (λ_=>False) (PtF w.heap.size (w.heap.size+3) (w.heap.size+4)) xs ?hit
  (SH (w.heap.size+2)) (λA B h k hk M=>h.2.block k M a8) (λA B h=>h.pt a8 a8 a8)
  ?hPt ?hPt0 ⟨id,id⟩
  (λpre W=>Boxed W w.heap.size 36 (.int .u64 (r:Nat))/\Boxed W (w.heap.size+1) 36 (.int .u64 (c:Nat))/\Boxed W (w.heap.size+2) 4 (.bool false)/\Below w.heap.size w W/\qA (pre.any q=false))
  (λcd pre W=>cd=.ret/\Boxed W (w.heap.size+2) 4 (.bool true)/\Below w.heap.size w W/\qA (pre.any q=true)) ?hI ?hIx ⟨b0,b1,b2,ab,qL rfl⟩
  (λpre x a' W=>(Boxed W w.heap.size 36 (.int .u64 (r:Nat))/\Boxed W (w.heap.size+1) 36 (.int .u64 (c:Nat))/\Boxed W (w.heap.size+2) 4 (.bool false)/\Below w.heap.size w W/\qA (pre.any q=false)) /\
    ∃V,W.heap[V]?=some (.cells #[sv x.2.1,sv x.2.2] 59 (0,0))/\E.heap.size+2<=V /\
    a'={ tmps:=#[.slice P U Q,.int .u64 (item:Nat),.int .u64 (r:Nat),.int .u64 (c:Nat),undef,undef,.pointer (some ⟨w.heap.size,0,none⟩),.pointer (some ⟨w.heap.size+1,0,none⟩),.pointer (some ⟨w.heap.size+2,0,none⟩),undef,.pointer (some ⟨V,0,none⟩),.slice P U Q,.int .u64 (item:Nat),.func (.func 120) #[] #[.pointer (some ⟨w.heap.size+3,0,none⟩),.pointer (some ⟨w.heap.size+4,0,none⟩)],.int .i64 (x.1:Nat),.agg #[sv x.2.1,sv x.2.2],undef,undef,undef,undef,undef],defers:=[] })
  ?hAx ?hassign ?hbody ?hdone ?hstop
 case hit=>intro W hk af;exact ae.o W (λk h=>(hk.block k a8 id).trans (ab.block k h)) a8 (hk.boxed b3 id).cell (hk.boxed b4 id).cell
 case hPt=>
  rintro A B C ⟨I,L⟩ ⟨j,u⟩;refine⟨V0 I j,λk hk H=>?_⟩;have e1:=L k hk H;refine(u k a8 ?_).trans e1;rcases H with H|H|H|⟨cs,f,H⟩
  .exact .inl H
  .exact .inr (.inl H)
  .exact .inr (.inr (.inl H))
  .exact .inr (.inr (.inr ⟨cs,f,by rw[e1];exact H⟩))
 case hPt0=>
  rintro A B hk ⟨o,ho⟩;refine⟨hk.size,λk M H=>hk.block k M ?_⟩;rintro rfl;rcases H with H|H|H|⟨cs,f,H⟩
  .omega
  .omega
  .omega
  .rw[ho]at H;cases H
 case hI=>rintro pre A B ⟨I,L,j,u,F⟩ X;have hk:Keep (λk=>k=E.heap.size\/k=E.heap.size+1) A B:=X.mono λ_ _ h=>h.elim False.elim id;exact⟨hk.boxed I a8,hk.boxed L a8,hk.boxed j a8,u.trans (hk.below u.size λk hk=>a8),F⟩
 case hIx=>rintro cd pre A B ⟨I,j,u,F⟩ X;have hk:Keep (λk=>k=E.heap.size\/k=E.heap.size+1) A B:=X.mono λ_ _ h=>h.elim False.elim id;exact⟨I,hk.boxed j a8,u.trans (hk.below u.size λk hk=>a8),F⟩
 case hAx=>rintro pre x a' A B ⟨⟨I,L,j,u,F⟩,V,h6,h7,rfl⟩ hk;exact⟨⟨hk.boxed I a8,hk.boxed L a8,hk.boxed j a8,u.trans (hk.below u.size λk hk=>a8),F⟩,V,hk.obj h6 a8,h7,rfl⟩
 case hassign=>
  rintro l pre ⟨i,⟨⟨x0,x1,x2⟩,⟨Z,y1,y2⟩⟩⟩ W Y M hI;clear Y;dsimp only[Y4,sv];have HX:=qL hI;clear hI
  gi_wp2
  obtain⟨I,L,j,u,F⟩:=HX.o;have O:∀o S,Keep S W (W.alloc o):=λo S=>(Keep.refl _ _).alloc _;exact⟨⟨⟨_,j⟩,O _ _⟩,⟨(O _ (λ_=>False)).boxed I id,(O _ (λ_=>False)).boxed L id,(O _ (λ_=>False)).boxed j id,u.alloc u.size _,F⟩,W.heap.size,tq W _,a8,rfl⟩
 case hbody=>
  rintro l pre ⟨i,⟨⟨x0,x1,x2⟩,⟨Z,y1,y2⟩⟩⟩ a' W Y M ⟨⟨I,L,j,u,F⟩,V,h6,h7,rfl⟩;have hm:(i,((x0,x1,x2),(Z,y1,y2)))∈xs:=Y.subset b6;have K:=HH.o W _ hm u;dsimp only[sv]at K h6⊢;have c0:=I.cell;have c1:=L.cell;have c3:W.cell? ⟨V,1,none⟩=some (.slice Z y1 y2):=(by simp[World.cell?,h6]);have ad:(pre++[(i,((x0,x1,x2),(Z,y1,y2)))]).any q=q (i,((x0,x1,x2),(Z,y1,y2))):=(by rw[UI,F.o];simp);have HN:=qL ad;have HX:=qL (And.intro j u);have HY:=qL (And.intro I L);clear ad I L u F h6;cases hq:q (i,((x0,x1,x2),(Z,y1,y2)))with
  | true=>
    rw[hq]at K HN;have HS:=qL K;clear K hq j
    gi_wp2_with (refine⟨trivial,?_⟩;gi_at_call 87;refine(callsIn_wide.2 HS.o).mono ?_;rintro e W1 ⟨rfl,J⟩
                 have k1:Keep (λ_=>False) W W1:=Keep.of_below' J (Zp _);have j:=k1.boxed HX.o.1 id;have f3:=j.frozen;have d3:=j.cell)
    refine⟨⟨⟨_,HX.o.1⟩,(Keep.of_below' (S:=λk=>k=w.heap.size+2) J (Zp _)).setCell (p:=⟨w.heap.size+2,0,none⟩) (λ_=>rfl) _⟩,rfl,j.set _,(HX.o.2.trans (J.mono HX.o.2.size)).setCell b6 _,HN⟩
  | false=>
    rw[hq]at K HN;have HS:=qL K;clear K hq j
    gi_wp2_with (refine⟨trivial,?_⟩;gi_at_call 87;refine(callsIn_wide.2 HS.o).mono ?_;rintro e W1 ⟨rfl,J⟩)
    have k1:Keep (λ_=>False) W W1:=Keep.of_below' J (Zp _);exact⟨⟨⟨_,HX.o.1⟩,Keep.of_below' J (Zp _)⟩,k1.boxed HY.o.1 id,k1.boxed HY.o.2 id,k1.boxed HX.o.1 id,HX.o.2.trans (J.mono HX.o.2.size),HN⟩
 case hdone=>
  rintro W ⟨I,L,j,u,F⟩ hD;have c4:=j.cell;have f4:=j.frozen;have HX:=qL (And.intro j (And.intro u F.o));clear I L j u F
  gi_wp2
  obtain⟨j,u,F⟩:=HX.o;refine⟨b6,.inl ⟨_,_,rfl,Tf (by rw[tz _ _ _ _ a9];exact hD),?_⟩⟩;have N:Keep (λk=>k=w.heap.size+2\/k=E.heap.size) W ((W.setCell ⟨w.heap.size+2,0,none⟩ (.bool false)).putObj E.heap.size (.deferred none)):=((Keep.refl (λk=>k=w.heap.size+2\/k=E.heap.size) W).setCell (p:=⟨w.heap.size+2,0,none⟩) (λ_=>.inl rfl) _).putObj (λ_=>.inr rfl) _;have hr:((W.setCell ⟨w.heap.size+2,0,none⟩ (.bool false)).putObj E.heap.size (.deferred none)).cell? ⟨w.heap.size+2,0,none⟩=some (.bool false):=(by refine(tp ?_).trans (j.set (.bool false)).cell;exact tQ (by show w.heap.size+2≠_;omega));refine⟨.bool false,by simp[results,Tryz.results46,go_sem,hr],?_,u.trans (N.below u.size λk hk=>a8)⟩;rw[F]
 case hstop=>
  rintro cd pre W ac ⟨rfl,j,u,F⟩ hD;have c4:=j.cell;have HX:=qL (And.intro j (And.intro u F.o));clear j u F
  gi_wp2
  obtain⟨j,u,F⟩:=HX.o;refine⟨b6,.inl ⟨_,_,rfl,Tf hD,?_⟩⟩;have N:Keep (λk=>k=E.heap.size) W (W.putObj E.heap.size (.deferred none)):=(Keep.refl (λk=>k=E.heap.size) W).putObj (λ_=>rfl) _;have hr:=(N.boxed j a8).cell;refine⟨.bool true,by simp[results,Tryz.results46,go_sem,hr],?_,u.trans (N.below u.size λk hk=>a8)⟩;rw[znR ac F]
def OwnI(base:Nat)(w:World)(v:Value)(j:List Nat):Prop:=w.ownsRow base 3 1 v j.length (j.map λx=>.int .i64 (x:Nat))
def OwnI.nil(base:Nat)(w:World):OwnI base w (.slice none 0 0) []:=tV _ _ _ _
def OwnI.keep{base:Nat}{S:Nat->Prop}{w w':World}{v:Value}{l:List Nat}(h:OwnI base w v l)(hb:Keep S w w')(hs:∀g,base<=g->g<w.heap.size->¬S g):OwnI base w' v l:=
 hb.ownsRow h λg j=>hs g (h.lt g j).1 (h.lt g j).2
def OwnI.shape{base:Nat}{w:World}{v:Value}{l:List Nat}(h:OwnI base w v l):∃j n c,v=.slice j n c:=by
 rcases h.2 with⟨rfl,_⟩|⟨g,o,u,rfl,_⟩
 .exact⟨_,_,_,rfl⟩
 .exact⟨_,_,_,rfl⟩
def Tryz.infoInt:(xt.info? 3).map (λi=>(i.zero,i.size,i.bytes))=some (some (Value.int .i64 0),1,8):=dL
def JY(base:Nat)(W:World)(v:Value)(l:List Nat)(i:Nat)(u w:Value)(o:OwnI base W v l)(C:base<=W.heap.size)(U:l.length<=1099511627776):
 Calls xt 179 #[v,.int .i64 (i:Nat),.agg #[u,w]] W λe M=>∃L,e=.returned L/\OwnI base M L (l++[i])/\Keep (λk=>base<=k/\∃P f,W.heap[k]?=some (.cells P 3 f)) W M:=by
 obtain⟨T,F,I,J,K⟩:=tR Tryz.infoInt;have A:=qL o;obtain⟨N,n,c,rfl⟩:=o.shape;clear o;go_enter func179,ntmps179
 have G:Keep (λ_=>False) W ((W.alloc (.cells #[u,w] 59)).alloc (.cells #[.int .i64 (i:Nat)] 3)):=((Keep.refl _ W).alloc _).alloc _;have H:((W.alloc (.cells #[u,w] 59)).alloc (.cells #[.int .i64 (i:Nat)] 3)).heap[W.heap.size+1]?=some (.cells #[.int .i64 (i:Nat)] 3 (0,0)):=by
  have:=tq (W.alloc (.cells #[u,w] 59)) (.cells #[.int .i64 (i:Nat)] 3)
  rwa[tx]at this
 have B:=qL (A.o.keep G λ_ _ _=>id)
 go_wp2_with (at_builtin;refine Ti _ rfl _ _ 213 rfl base 3 T (.int .i64 0) 1 8 underlying213 F I J K rfl b8 _ _ _ rfl B.o ⟨W.heap.size+1,0,none⟩ 1 1 [.int .i64 (i:Nat)] rfl rfl (kw (cs:=#[.int .i64 (i:Nat)]) (t := 3) (fr:=(0,0)) H) dH c8 a8 a9 ?_;intro L V ho E _ _)
 go_ret;refine⟨_,rfl,by unfold OwnI;simpa using ho,(((Keep.refl _ W).alloc _).alloc _).grown E λk hk _=>?_⟩;have j:(Value.slice N n c).ownBlock=some k:=hk;refine⟨(A.o.lt k j).1,?_⟩;rcases A.o.2 with⟨e,_⟩|⟨g,O,Q,e,_,S,_⟩
 .rw[e]at j;cases j
 .rw[e]at j;have:g=k:=(by simpa[Value.ownBlock]using j);subst this;exact⟨_,_,S⟩
attribute [local go_sem] Oper.semAt_some
def zaB(n:Nat)(W:World)(k:Nat):Prop:=n<=k/\∃j f,W.heap[k]?=some (.cells j 3 f)
def SF(j:Nat)(t:TypeId)(A B:World):Prop:=(∃v,Boxed A j t v)/\Keep (λk=>k=j\/zaB (j+4) A k) A B
def SF.pt{o F E:Nat}{t:TypeId}{A B:World}(h:SF o t A B)(K:F<o)(L:E<o)(ht:t ≠ 59)(hi : 3 ≠ 59):PtF o F E A B:=by
 obtain⟨⟨v,I⟩,hk⟩:=h;refine⟨hk.size,λk w j=>hk.block k w ?_⟩;rintro(rfl|⟨M,G,f,u⟩)
 .rcases j with j|j|j|⟨G,f,j⟩
  .omega
  .omega
  .omega
  .have C:A.heap[k]?=some (.cells #[v] t (0,0)):=I;rw[C]at j;cases j;exact ht rfl
 .rcases j with j|j|j|⟨H,J,j⟩
  .omega
  .omega
  .omega
  .rw[u]at j;cases j
def X8{α:Type}(X:Nat)(lb:Array Value)(Bk Bi:Nat)(xs:List (Nat×Fv))(w:World)(K:Option Addr)(L:Nat)(eg:∀U w,(callFunc X U).run xt w=.ok (.enter X U) w)
 (hit:∀W,Below w.heap.size w W->v7 xt X lb Y4 (λ_=>False) (PtF w.heap.size Bk Bi) xs W) (av:Bk<w.heap.size) (au:Bi<w.heap.size)
 (F:World->Value->α->Prop) (step:α->Nat×Fv->α) (a0:α) (ag:∀W,Below w.heap.size w W->F W (.slice K 0 L) a0) (ai:∀W u a,F W u a->∃ad n c,u=.slice ad n c)
 (ah:∀A B u a,F A u a->Keep (λk=>k=w.heap.size\/k=w.heap.size+2\/k=w.heap.size+3) A B->F B u a)
 (O:∀W u pre p,pre++[p] <+: xs->w.heap.size+4<=W.heap.size->Below w.heap.size w W->F W u (pre.foldl step a0)->Calls xt 145 #[u,.int .i64 (p.1:Nat),.agg #[sv p.2.1,sv p.2.2]] W λe W'=>
   ∃u',e=.returned u'/\F W' u' (step (pre.foldl step a0) p)/\Keep (zaB (w.heap.size+4) W) W W') :
 Calls xt 144 #[.func (.func X) #[] lb,.slice K 0 L,.func (.func 145) #[] #[]] w λe w'=>∃u,e=.returned u/\F w' u (xs.foldl step a0)/\Below w.heap.size w w':=by
 have ao:=qL hit;have am:=qL ag;have V:=qL ai;have N:=qL ah;have ar:=qL O;clear hit ag ai ah O;refine callsIn_wide.1 (Td (n:=9) func144 rfl trivial ?_ rfl);simp only[ntmps144,WC,ww,Wt,Nat.reduceAdd,Nat.reduceSub,uu,uv,uJ,ux,Y1,yb]
 gi_wp2
 obtain⟨J,M⟩:=xn (((w.alloc (Obj.cells #[Value.slice K 0 L] 57)).alloc (Obj.cells #[Value.func (Fn.func 145) #[] #[]] 227)));have az:J.heap.size=w.heap.size+2:=by rw[<-M];simp
 have b0:Boxed J w.heap.size 57 (Value.slice K 0 L):=by rw[<-M];exact(tX w _ _).alloc _
 have b1:Boxed J (w.heap.size+1) 227 (Value.func (Fn.func 145) #[] #[]):=by rw[<-M];have:=tX (w.alloc (Obj.cells #[Value.slice K 0 L] 57)) 227 (Value.func (Fn.func 145) #[] #[]);rw[tx]at this;exact this
 have Y:Below w.heap.size w J:=by rw[<-M];exact((tv _ _).alloc (Zp _) _).alloc b6 _
 try simp only[tx]
 rw [M];clear M;refine Xt (w:=J) X lb rfl eg Y4 (λ_=>rfl) (λ_=>False) (PtF w.heap.size Bk Bi) xs ?hit
  (SF w.heap.size 57) (λA B h k hk P=>h.2.block k P (by rintro(e|⟨e,_⟩)<;>omega)) (λA B h=>h.pt av au b8 b8)
  ?hPt ?hPt0 ⟨id,id⟩
  (λpre W=>(∃u,Boxed W w.heap.size 57 u/\F W u (pre.foldl step a0))/\Boxed W (w.heap.size+1) 227 (Value.func (Fn.func 145) #[] #[])/\Below w.heap.size w W)
  (λ_ _ _=>False) ?hI (λ_ _ _ _ h _=>h) ⟨⟨_,b0,am.o _ Y⟩,b1,Y⟩
  (λpre x a' W=>((∃u,Boxed W w.heap.size 57 u/\F W u (pre.foldl step a0))/\Boxed W (w.heap.size+1) 227 (Value.func (Fn.func 145) #[] #[])/\Below w.heap.size w W) /\
    ∃T,W.heap[T]?=some (.cells #[sv x.2.1,sv x.2.2] 59 (0,0))/\J.heap.size+2<=T /\
    a'={ tmps:=#[Value.func (Fn.func X) #[] lb,Value.slice K 0 L,Value.func (Fn.func 145) #[] #[],undef,Value.pointer (some ⟨w.heap.size,0,none⟩),Value.pointer (some ⟨w.heap.size+1,0,none⟩),Value.slice none 0 0,.int .i64 (x.1:Nat),Value.pointer (some ⟨T,0,none⟩),Value.func (Fn.func X) #[] lb,.int .i64 (x.1:Nat),.agg #[sv x.2.1,sv x.2.2],undef,undef,undef,undef,undef,undef],defers:=[] })
  ?hAx ?hassign ?hbody ?hdone (λ_ _ _ _ h _=>h.elim)
 case hit=>intro W hk ay;exact ao.o W (Y.trans (hk.below a8 λ_ _=>id))
 case hPt=>
  rintro A B C ⟨j,H⟩ ⟨I,E⟩;refine⟨V0 j I,λk hk G=>?_⟩;have e1:=H k hk G;refine(E k a8 ?_).trans e1;rcases G with G|G|G|⟨cs,f,G⟩
  .exact .inl G
  .exact .inr (.inl G)
  .exact .inr (.inr (.inl G))
  .exact .inr (.inr (.inr ⟨cs,f,by rw[e1];exact G⟩))
 case hPt0=>
  rintro A B hk ⟨o,ho⟩;refine⟨hk.size,λk P G=>hk.block k P ?_⟩;rintro rfl;rcases G with G|G|G|⟨cs,f,G⟩
  .omega
  .omega
  .omega
  .rw[ho]at G;cases G
 case hI=>rintro pre A B ⟨⟨u,j,H⟩,I,E⟩ aw;have hk:Keep (λk=>k=J.heap.size\/k=J.heap.size+1) A B:=aw.mono λ_ _ h=>h.elim False.elim id;exact⟨⟨u,hk.boxed j a8,N.o _ _ _ _ H (hk.mono λk _ h=>a8)⟩,hk.boxed I a8,E.trans (hk.below E.size λk hk=>a8)⟩
 case hAx=>rintro pre x a' A B ⟨⟨⟨u,j,H⟩,I,E⟩,T,h5,h6,rfl⟩ hk;exact⟨⟨⟨u,hk.boxed j a8,N.o _ _ _ _ H (hk.mono λk _ h=>a8)⟩,hk.boxed I a8,E.trans (hk.below E.size λk hk=>a8)⟩,T,hk.obj h5 a8,h6,rfl⟩
 case hassign=>
  rintro l pre ⟨i,⟨⟨x0,x1,x2⟩,⟨y0,y1,y2⟩⟩⟩ W ae P ⟨⟨u,j,H⟩,I,E⟩;clear ae;dsimp only[Y4,sv];have HX:=qL (And.intro j (And.intro H (And.intro I E)));clear j H I E
  gi_wp2
  obtain⟨j,H,I,E⟩:=HX.o;have Q:∀o S,Keep S W (W.alloc o):=λo S=>(Keep.refl _ _).alloc _;refine⟨⟨⟨u,j⟩,Q _ _⟩,⟨⟨u,(Q _ (λ_=>False)).boxed j id,N.o _ _ _ _ H (Q _ _)⟩,(Q _ (λ_=>False)).boxed I id,E.alloc E.size _⟩,W.heap.size,tq W _,a8,rfl⟩
 case hbody=>
  rintro l pre ⟨i,⟨⟨x0,x1,x2⟩,⟨y0,y1,y2⟩⟩⟩ a' W ae P ⟨⟨⟨u,j,H⟩,I,E⟩,T,h5,h6,rfl⟩;obtain⟨ua,un,uc,rfl⟩:=V.o _ _ _ H;have af:=ar.o W _ pre _ ae a8 E H;dsimp only[sv]at af h5⊢;have c0:=j.cell;have c1:=I.cell;have c2:W.cell? ⟨T,0,none⟩=some (.slice x0 x1 x2):=(by simp[World.cell?,h5]);have c3:W.cell? ⟨T,1,none⟩=some (.slice y0 y1 y2):=(by simp[World.cell?,h5]);have HS:=qL af;have HX:=qL (And.intro j (And.intro I E));clear af j H I E h5
  gi_wp2_with (refine⟨trivial,?_⟩;gi_at_call 145;refine(callsIn_wide.2 HS.o).mono ?_;rintro e W1 ⟨u',rfl,Z,ab⟩
               obtain⟨va,vn,vc,rfl⟩:=V.o _ _ _ Z;have j:Boxed W1 w.heap.size 57 (.slice ua un uc):=ab.boxed HX.o.1 (λh=>by have:=h.1;omega);have d0:=j.cell;have d1:=j.frozen;have an:=qL Z;have aq:=qL ab;have ak:=qL j;clear Z ab j)
  have ax:Keep (λk=>k=w.heap.size) W1 (W1.setCell ⟨w.heap.size,0,none⟩ (.slice va vn vc)):=(Keep.refl (λk=>k=w.heap.size) W1).setCell (p:=⟨w.heap.size,0,none⟩) (λ_=>rfl) _;obtain⟨j,I,E⟩:=HX.o;have ac:Keep (λk=>k=w.heap.size\/zaB (w.heap.size+4) W k) W (W1.setCell ⟨w.heap.size,0,none⟩ (.slice va vn vc)):=(aq.o.mono λk _ h=>.inr h).setCell (p:=⟨w.heap.size,0,none⟩) (λ_=>.inl rfl) _;refine⟨⟨⟨_,j⟩,ac⟩,⟨_,ak.o.set _,?_⟩,ac.boxed I (by rintro(e|⟨e,_⟩)<;>omega),E.trans (ac.below E.size λk hk=>by rintro(e|⟨e,_⟩)<;>omega)⟩;rw[W5];exact N.o _ _ _ _ an.o (ax.mono λk _ h=>.inl h)
 case hdone=>
  rintro W ⟨⟨u,j,H⟩,I,E⟩ hD;obtain⟨ua,un,uc,rfl⟩:=V.o _ _ _ H;have G:=j.cell;have HX:=qL (And.intro H E);clear j H I E
  gi_wp2
  refine⟨b6,.inl ⟨_,_,rfl,Tf hD,?_⟩⟩;have aj:Keep (λk=>k=J.heap.size) W (W.putObj J.heap.size (.deferred none)):=(Keep.refl (λk=>k=J.heap.size) W).putObj (λ_=>rfl) _;exact⟨_,tL rfl _ _ _,_,rfl,N.o _ _ _ _ HX.o.1 (aj.mono λk _ h=>a8),HX.o.2.trans (aj.below HX.o.2.size λk hk=>a8)⟩
def X7{α:Type}(X:Nat)(lb:Array Value)(Bk Bi:Nat)(xs:List (Nat×Fv))(w:World)(K:Option Addr)(L:Nat)(eg:∀U w,(callFunc X U).run xt w=.ok (.enter X U) w)
 (hit:∀W,Below w.heap.size w W->v7 xt X lb Y4 (λ_=>False) (PtF w.heap.size Bk Bi) xs W) (av:Bk<w.heap.size) (au:Bi<w.heap.size)
 (F:World->Value->α->Prop) (step:α->Nat×Fv->α) (a0:α) (ag:∀W,Below w.heap.size w W->F W (.slice K 0 L) a0) (ai:∀W u a,F W u a->∃ad n c,u=.slice ad n c)
 (ah:∀A B u a,F A u a->Keep (λk=>k=w.heap.size\/k=w.heap.size+2\/k=w.heap.size+3) A B->F B u a)
 (O:∀W u pre p,pre++[p] <+: xs->w.heap.size+4<=W.heap.size->Below w.heap.size w W->F W u (pre.foldl step a0)->Calls xt 179 #[u,.int .i64 (p.1:Nat),.agg #[sv p.2.1,sv p.2.2]] W λe W'=>
   ∃u',e=.returned u'/\F W' u' (step (pre.foldl step a0) p)/\Keep (zaB (w.heap.size+4) W) W W') :
 Calls xt 178 #[.func (.func X) #[] lb,.slice K 0 L,.func (.func 179) #[] #[]] w λe w'=>∃u,e=.returned u/\F w' u (xs.foldl step a0)/\Below w.heap.size w w':=by
 have ao:=qL hit;have am:=qL ag;have V:=qL ai;have N:=qL ah;have ar:=qL O;clear hit ag ai ah O;refine callsIn_wide.1 (Td (n:=9) func178 rfl trivial ?_ rfl);simp only[ntmps178,WC,ww,Wt,Nat.reduceAdd,Nat.reduceSub,uu,uv,uJ,ux,Y1,yb]
 gi_wp2
 obtain⟨J,M⟩:=xn (((w.alloc (Obj.cells #[Value.slice K 0 L] 213)).alloc (Obj.cells #[Value.func (Fn.func 179) #[] #[]] 261)));have az:J.heap.size=w.heap.size+2:=by rw[<-M];simp
 have b0:Boxed J w.heap.size 213 (Value.slice K 0 L):=by rw[<-M];exact(tX w _ _).alloc _
 have b1:Boxed J (w.heap.size+1) 261 (Value.func (Fn.func 179) #[] #[]):=by rw[<-M];have:=tX (w.alloc (Obj.cells #[Value.slice K 0 L] 213)) 261 (Value.func (Fn.func 179) #[] #[]);rw[tx]at this;exact this
 have Y:Below w.heap.size w J:=by rw[<-M];exact((tv _ _).alloc (Zp _) _).alloc b6 _
 try simp only[tx]
 rw [M];clear M;refine Xt (w:=J) X lb rfl eg Y4 (λ_=>rfl) (λ_=>False) (PtF w.heap.size Bk Bi) xs ?hit
  (SF w.heap.size 213) (λA B h k hk P=>h.2.block k P (by rintro(e|⟨e,_⟩)<;>omega)) (λA B h=>h.pt av au b8 b8)
  ?hPt ?hPt0 ⟨id,id⟩
  (λpre W=>(∃u,Boxed W w.heap.size 213 u/\F W u (pre.foldl step a0))/\Boxed W (w.heap.size+1) 261 (Value.func (Fn.func 179) #[] #[])/\Below w.heap.size w W)
  (λ_ _ _=>False) ?hI (λ_ _ _ _ h _=>h) ⟨⟨_,b0,am.o _ Y⟩,b1,Y⟩
  (λpre x a' W=>((∃u,Boxed W w.heap.size 213 u/\F W u (pre.foldl step a0))/\Boxed W (w.heap.size+1) 261 (Value.func (Fn.func 179) #[] #[])/\Below w.heap.size w W) /\
    ∃T,W.heap[T]?=some (.cells #[sv x.2.1,sv x.2.2] 59 (0,0))/\J.heap.size+2<=T /\
    a'={ tmps:=#[Value.func (Fn.func X) #[] lb,Value.slice K 0 L,Value.func (Fn.func 179) #[] #[],undef,Value.pointer (some ⟨w.heap.size,0,none⟩),Value.pointer (some ⟨w.heap.size+1,0,none⟩),Value.slice none 0 0,.int .i64 (x.1:Nat),Value.pointer (some ⟨T,0,none⟩),Value.func (Fn.func X) #[] lb,.int .i64 (x.1:Nat),.agg #[sv x.2.1,sv x.2.2],undef,undef,undef,undef,undef,undef],defers:=[] })
  ?hAx ?hassign ?hbody ?hdone (λ_ _ _ _ h _=>h.elim)
 case hit=>intro W hk ay;exact ao.o W (Y.trans (hk.below a8 λ_ _=>id))
 case hPt=>
  rintro A B C ⟨j,H⟩ ⟨I,E⟩;refine⟨V0 j I,λk hk G=>?_⟩;have e1:=H k hk G;refine(E k a8 ?_).trans e1;rcases G with G|G|G|⟨cs,f,G⟩
  .exact .inl G
  .exact .inr (.inl G)
  .exact .inr (.inr (.inl G))
  .exact .inr (.inr (.inr ⟨cs,f,by rw[e1];exact G⟩))
 case hPt0=>
  rintro A B hk ⟨o,ho⟩;refine⟨hk.size,λk P G=>hk.block k P ?_⟩;rintro rfl;rcases G with G|G|G|⟨cs,f,G⟩
  .omega
  .omega
  .omega
  .rw[ho]at G;cases G
 case hI=>rintro pre A B ⟨⟨u,j,H⟩,I,E⟩ aw;have hk:Keep (λk=>k=J.heap.size\/k=J.heap.size+1) A B:=aw.mono λ_ _ h=>h.elim False.elim id;exact⟨⟨u,hk.boxed j a8,N.o _ _ _ _ H (hk.mono λk _ h=>a8)⟩,hk.boxed I a8,E.trans (hk.below E.size λk hk=>a8)⟩
 case hAx=>rintro pre x a' A B ⟨⟨⟨u,j,H⟩,I,E⟩,T,h5,h6,rfl⟩ hk;exact⟨⟨⟨u,hk.boxed j a8,N.o _ _ _ _ H (hk.mono λk _ h=>a8)⟩,hk.boxed I a8,E.trans (hk.below E.size λk hk=>a8)⟩,T,hk.obj h5 a8,h6,rfl⟩
 case hassign=>
  rintro l pre ⟨i,⟨⟨x0,x1,x2⟩,⟨y0,y1,y2⟩⟩⟩ W ae P ⟨⟨u,j,H⟩,I,E⟩;clear ae;dsimp only[Y4,sv];have HX:=qL (And.intro j (And.intro H (And.intro I E)));clear j H I E
  gi_wp2
  obtain⟨j,H,I,E⟩:=HX.o;have Q:∀o S,Keep S W (W.alloc o):=λo S=>(Keep.refl _ _).alloc _;refine⟨⟨⟨u,j⟩,Q _ _⟩,⟨⟨u,(Q _ (λ_=>False)).boxed j id,N.o _ _ _ _ H (Q _ _)⟩,(Q _ (λ_=>False)).boxed I id,E.alloc E.size _⟩,W.heap.size,tq W _,a8,rfl⟩
 case hbody=>
  rintro l pre ⟨i,⟨⟨x0,x1,x2⟩,⟨y0,y1,y2⟩⟩⟩ a' W ae P ⟨⟨⟨u,j,H⟩,I,E⟩,T,h5,h6,rfl⟩;obtain⟨ua,un,uc,rfl⟩:=V.o _ _ _ H;have af:=ar.o W _ pre _ ae a8 E H;dsimp only[sv]at af h5⊢;have c0:=j.cell;have c1:=I.cell;have c2:W.cell? ⟨T,0,none⟩=some (.slice x0 x1 x2):=(by simp[World.cell?,h5]);have c3:W.cell? ⟨T,1,none⟩=some (.slice y0 y1 y2):=(by simp[World.cell?,h5]);have HS:=qL af;have HX:=qL (And.intro j (And.intro I E));clear af j H I E h5
  gi_wp2_with (refine⟨trivial,?_⟩;gi_at_call 179;refine(callsIn_wide.2 HS.o).mono ?_;rintro e W1 ⟨u',rfl,Z,ab⟩
               obtain⟨va,vn,vc,rfl⟩:=V.o _ _ _ Z;have j:Boxed W1 w.heap.size 213 (.slice ua un uc):=ab.boxed HX.o.1 (λh=>by have:=h.1;omega);have d0:=j.cell;have d1:=j.frozen;have an:=qL Z;have aq:=qL ab;have ak:=qL j;clear Z ab j)
  have ax:Keep (λk=>k=w.heap.size) W1 (W1.setCell ⟨w.heap.size,0,none⟩ (.slice va vn vc)):=(Keep.refl (λk=>k=w.heap.size) W1).setCell (p:=⟨w.heap.size,0,none⟩) (λ_=>rfl) _;obtain⟨j,I,E⟩:=HX.o;have ac:Keep (λk=>k=w.heap.size\/zaB (w.heap.size+4) W k) W (W1.setCell ⟨w.heap.size,0,none⟩ (.slice va vn vc)):=(aq.o.mono λk _ h=>.inr h).setCell (p:=⟨w.heap.size,0,none⟩) (λ_=>.inl rfl) _;refine⟨⟨⟨_,j⟩,ac⟩,⟨_,ak.o.set _,?_⟩,ac.boxed I (by rintro(e|⟨e,_⟩)<;>omega),E.trans (ac.below E.size λk hk=>by rintro(e|⟨e,_⟩)<;>omega)⟩;rw[W5];exact N.o _ _ _ _ an.o (ax.mono λk _ h=>.inl h)
 case hdone=>
  rintro W ⟨⟨u,j,H⟩,I,E⟩ hD;obtain⟨ua,un,uc,rfl⟩:=V.o _ _ _ H;have G:=j.cell;have HX:=qL (And.intro H E);clear j H I E
  gi_wp2
  refine⟨b6,.inl ⟨_,_,rfl,Tf hD,?_⟩⟩;have aj:Keep (λk=>k=J.heap.size) W (W.putObj J.heap.size (.deferred none)):=(Keep.refl (λk=>k=J.heap.size) W).putObj (λ_=>rfl) _;exact⟨_,tL rfl _ _ _,_,rfl,N.o _ _ _ _ HX.o.1 (aj.mono λk _ h=>a8),HX.o.2.trans (aj.below HX.o.2.size λk hk=>a8)⟩
def zgV(P:Program)(w:Nat)(u:List Nat)(id:Nat)(o:Array Oper)(j:Bool):PC:=(qx P w u (.region id o j)).getD .sk
def zgW(c:Operand):PO:=(po c).getD (.c .und)
def pcT(P:Program)(o:Nat)(j:List Nat)(k:Nat)(X:PC):Code->PC
 |.region id ops draw=>if id=k then X else zgV P o j id ops draw
 |.seq a b=>.sq (pcT P o j k X a) (pcT P o j k X b)
 |.cond c a b=>.cd (zgW c) (pcT P o j k X a) (pcT P o j k X b)
 |.block id a=>.bk id (pcT P o j k X a)
 |.loop a=>.lp [] (pcT P o j k X a)
 |.exit id=>.ex id
 |.ret=>.rt
 |.scope a=>pcT P o j k X a
 |_=>.sk
def zhs{P:Program}{f:FuncId}{fn:Func}(C:P.funcs[f]?=some fn)(j:List Nat){o:List PV}{r:PV}(n:Nat)(u:zbo P fn j n=true)(E:o.length=n)(w:∀p∈o,p.own=none)(k:Nat)(X:PC){c:Code}(B:xN fn=c)(F:qx P fn.ntmps j c=some (pcT P fn.ntmps j k X c))(A:pW P fn.ntmps True (pcT P fn.ntmps j k X c) (jG (zgk P fn) r) ⟨qQ 0 o,[]⟩):Cn P f o r:=by refine zgM C j n u E w ?_;unfold zbt;rw[B,F,WW];exact A
attribute [local go_sem] Oper.semAt_some
def zsw{w:World}{g:Nat}{o:Array Value}{T:TypeId}(h:w.heap[g]?=some (.cells o T (0,0)))(i:Nat)(v:Value):(w.setCell ⟨g,i,none⟩ v).heap[g]?=some (.cells (o.setIfInBounds i v) T (0,0)):=by obtain⟨j,hk⟩:=Yf.1 h;show (w.heap.modify g _)[g]?=_;rw[Wg (by rw[Array.size_modify];exact j),Array.getElem_modify_self,hk];simp
end
section
open Go.RowKit Go.Sort
abbrev zg:Int->Value:=Value.int .u64
def Zb(x:Int)(w:World):Calls xt 195 #[.int .u64 x] w λe j=>e=.returned (.bool false)/\j=w:=by
 go_enter func195,ntmps195
 go_wp2;go_ret;exact⟨b6,rfl⟩
def za(x y:Int)(w:World):Calls xt 189 #[.int .u64 x,.int .u64 y] w λe j=>e=.returned (.bool (Sort.ltInt x y))/\j=w:=by
 go_enter func189,ntmps189
 go_wp2_with (go_at_call 195;refine(Zb _ _).mono ?_;rintro e j ⟨rfl,rfl⟩)
 go_ret;exact⟨rfl,rfl⟩
def Zd(rb j X:Nat)(H:X<18446744073709551616)(w:World)(N:w.cell? ⟨rb,j,none⟩=some (.int .u64 X))(O:w.frozen? ⟨rb,j,none⟩=false):
 Calls xt 205 #[.pointer (some ⟨rb,j,none⟩)] w λe L=>e=.returned (.int .u64 (xorNextN X:Nat))/\L=(w.setCell ⟨rb,j,none⟩ (.int .u64 (xorNextN X:Nat))).drewN 3:=by
 obtain⟨A,o⟩:∃A:Nat,A=X ^^^ (X*8192%18446744073709551616):=⟨_,rfl⟩;obtain⟨B,u⟩:∃B:Nat,B=A ^^^ (A/128):=⟨_,rfl⟩;obtain⟨C,E⟩:∃C:Nat,C=B ^^^ (B*131072%18446744073709551616):=⟨_,rfl⟩;have J:A<18446744073709551616:=by rw[o];exact Nat.xor_lt_two_pow (n:=64) a8 a8
 have K:B<18446744073709551616:=by rw[u];exact Nat.xor_lt_two_pow (n:=64) a8 a8
 have e1:bits .xor .u64 (X:Int) (IntKind.u64.wrap ((X:Int)*8192))=(A:Int):=by rw[IntKind.wrap_u64,show ((X:Int)*8192%18446744073709551616)=((X*8192%18446744073709551616:Nat):Int) by omega,TV _ _ H a8,o]
 have e2:bits .xor .u64 (A:Int) ((A:Int)/128)=(B:Int):=by rw[show ((A:Int)/128)=((A/128:Nat):Int) by omega,TV _ _ J a8,u]
 have M:bits .xor .u64 (B:Int) (IntKind.u64.wrap ((B:Int)*131072))=(C:Int):=by rw[IntKind.wrap_u64,show ((B:Int)*131072%18446744073709551616)=((B*131072%18446744073709551616:Nat):Int) by omega,TV _ _ K a8,E]
 have F:xorNextN X=C:=by unfold xorNextN;simp only[];rw[<-o,<-u,<-E]
 rw[F];clear o u E F;have I:∀v G,(w.setCell ⟨rb,j,none⟩ v).setCell ⟨rb,j,none⟩ G=w.setCell ⟨rb,j,none⟩ G:=setCell_setCell w rb j;go_enter func205,ntmps205
 go_wp2;go_region;all_goals go_wp2
 all_goals go_region
 all_goals go_wp2
 all_goals go_region
 all_goals go_wp2
 go_ret;exact⟨rfl,rfl⟩
def kI(n:Nat)(u:n<4611686018427387904)(w:World):
 Calls xt 204 #[.int .i64 n] w λe o=>e=.returned (.int .u64 ((1 <<< bitsLen n:Nat):Int))/\o=w:=by
 have j:∀w,Calls xt 151 #[.int .u64 (n:Int)] w λe o=>e=.returned (.int .i64 (bitsLen n:Nat))/\o=w:=λw=>by
  have h:=ZC (n:Int) w a8 a8
  rwa[Int.toNat_natCast,bitLen_eq _ a8]at h
 have hk:bitsLen n<=62:=(bitsLen_le_iff n 62).2 a8;have A:=wrap_two_pow (bitsLen n) hk;go_enter func204,ntmps204
 go_wp2_with (first|(go_at_call 151;refine(j _).mono ?_;rintro e o ⟨rfl,rfl⟩))
 go_ret;exact⟨rfl,rfl⟩
set_option maxRecDepth 1000000 in
def jB(zc j I:Nat)(d:Array Int)(a b:Nat)(w:World)(J:Holds zg w zc j d)(N:a<=b)(hb:b<=d.size)(P:d.size<4611686018427387904):
 Calls xt 187 #[.slice (some ⟨zc,j,none⟩) d.size I,.int .i64 a,.int .i64 b] w λe T=>e=.returned (.tuple #[])/\∃n,T=putRow zg (Sort.ahead w n) zc j (reverseRange d a b):=by
 go_enter func187,ntmps187
 go_wp2;go_loopg [6,7] (b-a) (λk Q S wr=>∃(i jn:Nat) (E:Int) (o:Array Int) (n:Nat),Q=.int .i64 i/\S=.int .i64 E/\((i:Int)<E->E=jn/\jn<d.size)/\(¬(i:Int)<E->¬i<jn)/\jn-i<=k /\
  o.size=d.size/\wr=putRow zg (Sort.ahead w n) zc j o/\reverseLoop i jn o=reverseLoop a (b-1) d)
 case atStart=>exact⟨a,b-1,(b:Int)-1,d,0,rfl,rfl,λh=>⟨a8,a8⟩,λh=>a8,a8,rfl,(Te zg w zc j d J).symm,rfl⟩
 case round=>
  obtain⟨i,jn,E,o,n,rfl,rfl,L,M,hk,F,C,u⟩:=hrel;by_cases G:(i:Int)<E
  .obtain⟨rfl,O⟩:=L G;have K:i<jn:=a8;have B:Holds zg wr zc j o:=(by rw[C];exact Tj zg _ zc j d o (tP zg w n zc j d J) F);obtain⟨U,fi⟩:=B i a8;obtain⟨V,X⟩:=B jn a8;have A:qA (wr=putRow zg (Sort.ahead w n) zc j o):=C;clear C B J L M
   go_wp2_with fail
   go_region
   go_wp2;go_roundg (jn-1-(i+1));case measure=>omega
   case rel=>
    rw[reverseLoop,Vm K]at u;exact⟨i+1,jn-1,(jn:Int)-1,swp o i jn,n+1,b6,rfl,λh=>⟨a8,a8⟩,λh=>a8,Zp _,by rw[tS];exact F,
     swap_world zg a8 a8 A.o (by simp[zg,tl,show jn<o.size by omega]) rfl,u⟩
  .have H:=M G
   go_wp2
   go_end0
   refine⟨rfl,n,?_⟩;rw[reverseLoop,Vq H]at u;rw[reverseRange,<-u]
end
end Go.Proofs.YtmpnbdhadjfbhaaGreatDoor
