import Derived.BigQuiet
import Derived.Deep.QuietTactic
import Derived.ChangeAt
import Derived.DataElems
import Derived.Deep.Slices
import Derived.ProofKit
import Derived.Lib.SmallJoins
import Derived.LaidEql
import Derived.Stop.Asserts
import Derived.RowKitTokens
import Derived.Laws.Cells
import Derived.Laws.IdiomCopy
import Derived.WalkMore
import Derived.Test.YtjdjjlkifdimkaaGreatDoorB8
set_option maxHeartbeats 16000000
set_option linter.all false
set_option maxRecDepth 100000
namespace Go.Proofs.YtjdjjlkifdimkaaGreatDoor
def tA:=@Go.World.cell?_alloc_lt
def tJ:=@Go.World.frozen?_alloc_old
def tT:=@Go.run_callFunc_extern
def Ta:=@Go.World.cell?_alloc_at
def Tc:=@Go.run_typeAssert_lacksB
def Td:=@Go.rounds_succ
def Tk:=@Go.wpList_append_own_at
def Tq:=@Go.wp_loop_rounds
def T1:=@Go.wpList_plain
open Go.Proofs.Tryz
open Go.Proofs.Tryz renaming prog->xT
section
open Go.RowKit
attribute [local go_sem] Oper.semAt_some
end
section
def jn(f:XE)(a b:En):En×Bool:=Qi a.rep (qy f (kn a) (kn b))
variable {f:XE}{a b c:En}
def below(c:Nat):List Iv:=if c=0 then [] else [⟨0,c-1⟩]
def kP(e:En):En×Bool:=Qi e.rep (kn e)
end
section
open Go.RowKit
def QZ:Option Iv->List Iv->Nat->Nat×Int
 |_,[],_=>(0,-1)
 |p,s::l,i=>if s.lo<=s.hi then (if (match p with|none=>0|some q=>relate q s)=0 then QZ (some s) l (i+1) else (3,(i:Int))) else (2,(i:Int))
def Zl(l:List Iv):Nat×Int:=QZ none l 0
def KJ:∀(l:List Iv)(p:Option Iv)(i:Nat),(∀s∈l,s.hi<zk)->((QZ p l i).1=0↔match p with|none=>NF 0 l|some q=>(∀s∈l,s.lo<=s.hi->relate q s=0\/True)/\(l=[]\/∃s r,l=s::r/\s.lo<=s.hi/\relate q s=0/\NF (s.hi+2) r))
 |[],p,i,_=>by cases p<;>simp[QZ,NF]
 | s::l,p,i,hb=>by
   have ih:=KJ l (some s) (i+1) (λt ht=>hb t (by simp[ht]));have hs:=hb s b8;have u:(QZ (some s) l (i+1)).1=0↔NF (s.hi+2) l:=by
    rw[ih];constructor
    .rintro⟨_,rfl|⟨t,r,rfl,o,j,w⟩⟩
     .trivial
     .refine⟨?_,o,hb t b8,w⟩;unfold relate at j;split at j
      .split at j
       .cases j
       .omega
      .split at j
       .split at j<;>cases j
       .cases j
    .intro h;refine⟨λ_ _ _=>.inr trivial,?_⟩;cases l with
     |nil=>exact .inl rfl
     |cons t r=>have:=h.1;exact .inr ⟨t,r,rfl,h.2.1,by unfold relate;rw[VS b6,V2 b6],h.2.2.2⟩
   unfold QZ;by_cases o:s.lo<=s.hi
   .rw[VS o];cases p with
    |none=>simp only[UR];rw[u];exact⟨λh=>⟨vj _,o,hs,h⟩,λh=>h.2.2.2⟩
    | some q=>
      simp only;by_cases j:relate q s=0
      .rw[VS j,u];exact⟨λh=>⟨λ_ _ _=>.inr trivial,.inr ⟨s,l,rfl,o,j,h⟩⟩,λh=>by
        rcases h.2 with h|⟨t,r,e,_,_,h⟩
        .cases h
        .cases e;exact h⟩
      .rw[V2 j];simp;intro _ h;exact absurd h j
   .rw[V2 o];cases p with
    |none=>simp[NF,o]
    |some q=>simp;intro h;exact absurd h o
def YT{l:List Iv}(h:∀s∈l,s.hi<zk):(Zl l).1=0↔Nrm l:=KJ l none 0 h
def Yj{l:List Iv}{k:Nat}{p:Option Iv}(h:k<l.length):QZ p (l.drop k) k=if l[k].lo<=l[k].hi then (if (match p with|none=>0|some q=>relate q l[k])=0 then QZ (some l[k]) (l.drop (k+1)) (k+1) else (3,(k:Int))) else (2,(k:Int)):=by rw[V1 h];rfl
end
section
def YN(l:List Nat):Prop:=l.Pairwise (· < ·)
def jK:∀{a b:List Nat},YN a->YN b->(∀x,x∈a↔x∈b)->a=b
 |[],[],_,_,_=>rfl
 |[],y::b,_,_,h=>absurd ((h y).2 b8) b8
 |x::a,[],_,_,h=>absurd ((h x).1 b8) b8
 | x::a,y::b,ha,hb,h=>by
   have j:=wk.1 ha;have o:=wk.1 hb;have A:x=y:=by
    have u:=(h x).1 b8;have w:=(h y).2 b8;simp at u w;rcases u with u|u
    .exact u
    .rcases w with w|w
     .exact w.symm
     .have:=o.1 x u;have:=j.1 y w;omega
   subst A;congr 1;refine jK j.2 o.2 λz=>?_;have:=h z;simp at this;constructor
   .intro hz;rcases this.1 (.inr hz)with e|e
    .have:=j.1 z hz;omega
    .exact e
   .intro hz;rcases this.2 (.inr hz)with e|e
    .have:=o.1 z hz;omega
    .exact e
def Y6:∀o:List Nat,∃r,YN r/\∀y,y∈r↔y∈o
 |[]=>⟨[],List.Pairwise.nil,λ_=>UL⟩
 | x::o=>by
   obtain⟨r,u,w⟩:=Y6 o;refine⟨r.filter (·<x)++x::r.filter (x < ·),?_,λy=>?_⟩
   .refine Ue.2 ⟨u.filter _,wk.2 ⟨λy j=>by simpa using (Wv.1 j).2,u.filter _⟩,λy j z hz=>?_⟩;have:=(Wv.1 j).2;simp at this hz;rcases hz with rfl|hz<;>omega
   .simp only[wI,Wv,wm,w,wJ];by_cases e:y=x
    .simp[e]
    .rcases wO y x with h|h
     .simp[h,e];omega
     .have:x<y:=b6;simp[this,e];omega
noncomputable def srt (j:List Nat):List Nat:=Classical.choose (Y6 j)
def yi(j:List Nat):YN (srt j):=(Uz (Y6 j)).1
def qr{j:List Nat}{y:Nat}:y∈srt j↔y∈j:=(Uz (Y6 j)).2 y
def XA{j r:List Nat}(h:YN r)(o:∀y,y∈r↔y∈j):srt j=r:=jK (yi j) h λy=>by rw[qr,o]
def XB:srt []=[]:=XA List.Pairwise.nil λ_=>UL
def jJ{l:List Nat}(h:YN l){i j:Nat}(o:j<l.length)(hi:i<j):l[i]<l[j]:=wU.1 h i j b6 o hi
def kJ{xs:List Nat}{x at_:Nat}(E:at_<=(srt xs).length)(C:∀k (h:k<(srt xs).length),at_<=k->x<(srt xs)[k])(w:at_=0\/∃h:at_-1<(srt xs).length,(srt xs)[at_-1]<x):
 srt (xs++[x])=(srt xs).take at_++x::(srt xs).drop at_:=by
 have A:=yi xs;have u:∀y∈(srt xs).take at_,y<x:=λy j=>by
  obtain⟨i,hi,rfl⟩:=Wr j;simp at hi⊢;rcases w with w|⟨h,w⟩
  .omega
  .rcases wO i (at_-1)with B|B
   .have:=jJ A h B;omega
   .have:i=at_-1:=b6;subst this;exact w
 have o:∀y∈(srt xs).drop at_,x<y:=λy j=>by obtain⟨i,hi,rfl⟩:=Wr j;simp at hi⊢;exact C _ b6 b6
 refine XA (Ue.2 ⟨A.sublist (List.take_sublist _ _),wk.2 ⟨λy j=>o y j,A.sublist (List.drop_sublist _ _)⟩,λy j z hz=>?_⟩) λy=>?_
 .simp at hz;rcases hz with rfl|hz
  .exact u y j
  .exact US (u y j) (o z hz)
 .have:y∈(srt xs).take at_++(srt xs).drop at_↔y∈xs:=(by rw[Wh];exact qr);simp only[wI,wm,List.not_mem_nil,or_false]at this⊢;constructor
  .rintro(h|h|h)
   .exact .inl (this.1 (.inl h))
   .exact .inr h
   .exact .inl (this.1 (.inr h))
  .rintro(h|h)
   .rcases this.2 h with h|h
    .exact .inl h
    .exact .inr (.inr h)
   .exact .inr (.inl h)
def zaw{j:List Nat}{x:Nat}(h:x∈srt j):srt (j++[x])=srt j:=XA (yi j) λy=>by rw[qr]at *;simp;intro e;subst e;exact h
def ju(j:List Nat):(srt j).length<=j.length:=by
 have u:∀(r j:List Nat),YN r->(∀y∈r,y∈j)->r.length<=j.length:=by
  intro r;induction r with
  |nil=>intro j _ _;exact vj _
  | cons x r ih=>
    intro j h A;have w:=wk.1 h;have:=ih (j.erase x) w.2 λy o=>by have C:=w.1 y o;exact(W9 b6).2 (A y (by simp[o]))
    have B:x∈j:=A x b8;rw[WK B]at this;have:=um B;simp;omega
 exact u _ _ (yi j) λy o=>qr.1 o
def jQ(s:Iv):List Nat:=s.lo::if s.hi<zk-1 then [s.hi+1] else []
def z6(l:List Iv):List Nat:=l.flatMap jQ
def yU(j:List (List Iv)):List Nat:=0::j.flatMap z6
noncomputable def zH (j:List (List Iv)):List Nat:=srt (yU j)
def zcy(s:Iv):(jQ s).length<=2:=by unfold jQ;split<;>simp
def vq(l:List Iv):(z6 l).length<=2*l.length:=by
 induction l with
 |nil=>simp[z6]
 |cons s l ih=>have:=zcy s;simp only[z6,Wn,wu,wD]at ih⊢;omega
def zaU{l:List Iv}{k:Nat}(h:k<l.length):z6 (l.take (k+1))=z6 (l.take k)++jQ l[k]:=by unfold z6;rw[vw h,Wl];simp only[Wn,UD,We]
def Qh{l:List Iv}(o:∀s∈l,s.lo<=s.hi/\s.hi<zk){x y:Nat}(A:x<=y)(C:y<zk)(j:∀c∈z6 l,c<=x\/y<c):mem l y=mem l x:=by
 induction l with
 |nil=>rfl
 | cons s l ih=>
   have hs:=o s b8;rw[mem_cons,mem_cons,ih (λt ht=>o t (by simp[ht])) λc h=>j c (by simp[z6]at h⊢;exact .inr h)];congr 1;have B:=j s.lo (by simp[z6,jQ]);have u:s.hi<zk-1->s.hi+1<=x\/y<s.hi+1:=λh=>j (s.hi+1) (by simp[z6,jQ,h]);rw[WO];simp only[wh,wJ];by_cases w:s.hi<zk-1
   .have:=u w;omega
   .omega
def Qj:Nat->Bool->Bool->Bool
 |0,a,b=>a || b
 |1,a,b=>a && b
 |_,a,b=>a && !b
def KD(st:List Nat)(i:Nat):Nat:=if h:i<st.length then st[i] else zk
structure DoInv(f:XE)(a b:List Iv)(st:List Nat)(i:Nat)(out:List Iv):Prop where
 nrm:Nrm out
 lt:∀t∈out,t.hi<KD st i
 mm:∀x,x<KD st i->mem out x=f (mem a x) (mem b x)
 len:out.length<=i
def zgd(j:List Iv)(s:Iv):(Q8 j s).length<=j.length+1:=by
 unfold Q8;split
 .simp
 .split<;>simp<;>omega
def DoInv.step{f:XE}{a b:List Iv}{st:List Nat}{i:Nat}{u:List Iv}(h:DoInv f a b st i u)(G:Nrm a)(hb:Nrm b)(hs:YN st)(A:∀x∈st,x<zk)(C:∀c,c∈z6 a\/c∈z6 b->c∈st)(hi:i<st.length):
 (f (mem a st[i]) (mem b st[i])=true->DoInv f a b st (i+1) (Q8 u ⟨st[i],if h:i+1<st.length then st[i+1]-1 else zk-1⟩))/\(f (mem a st[i]) (mem b st[i])=false->DoInv f a b st (i+1) u):=by
 have F:KD st i=st[i]:=ut hi;have O:=zw;have I:st[i]<zk:=A _ (X3 _);have e1:(if h:i+1<st.length then st[i+1]-1 else zk-1)+1=KD st (i+1)/\st[i]<KD st (i+1)/\KD st (i+1)<=zk:=by
  unfold KD;split
  .rename_i h;have:=jJ hs h (UE i);have:=A _ (X3 h);omega
  .omega
 obtain⟨e1,e2,N⟩:=e1;have hcut:∀x,st[i]<=x->x<KD st (i+1)->∀c∈st,c<=st[i]\/x<c:=λx y w c C=>by
  obtain⟨j,H,rfl⟩:=Wr C;rcases WR j i with h|h|h
  .have:=jJ hs hi h;omega
  .subst h;omega
  .right;unfold KD at w;split at w
   .rcases uK (show i+1<=j from h)with o|o
    .subst o;exact w
    .have:=jJ hs H o;omega
   .omega
 have ra:∀s∈a,s.lo<=s.hi/\s.hi<zk:=λs hs=>by have:=NF.lo_ge G s hs;omega
 have rb:∀s∈b,s.lo<=s.hi/\s.hi<zk:=λs hs=>by have:=NF.lo_ge hb s hs;omega
 have same:∀x,st[i]<=x->x<KD st (i+1)->mem a x=mem a st[i]/\mem b x=mem b st[i]:=λx y w=>
  ⟨Qh ra y b6 λc h=>hcut x y w c (C c (.inl h)),Qh rb y b6 λc h=>hcut x y w c (C c (.inr h))⟩
 constructor
 .intro E;obtain⟨K,L,M⟩:=Xm (s:=⟨st[i],if h:i+1<st.length then st[i+1]-1 else zk-1⟩) h.nrm (λt ht=>by have:=h.lt t ht;rw[F]at this;exact this) (by show st[i]<=(if h:i+1<st.length then st[i+1]-1 else zk-1);omega) (by show (if h:i+1<st.length then st[i+1]-1 else zk-1)<zk;omega);refine⟨K,λt ht=>by have:=M t ht;show t.hi<_;simp only at this;omega,λx B=>?_,V3 (zgd _ _) (by have:=h.len;omega)⟩;rw[L x];simp only;rcases wO x st[i]with o|o
  .rw[h.mm x b6];have:¬st[i]<=x:=b6;simp[this]
  .rw[(same x o B).1,(same x o B).2,E];have:x<=(if h:i+1<st.length then st[i+1]-1 else zk-1):=b6;simp[o,this]
 .intro E;refine⟨h.nrm,λt ht=>by have:=h.lt t ht;omega,λx B=>?_,by have:=h.len;omega⟩;rcases wO x st[i]with o|o
  .exact h.mm x b6
  .rw[(same x o B).1,(same x o B).2,E];cases e:mem u x with
   |false=>rfl
   |true=>obtain⟨t,ht,_,J⟩:=qf.1 e;have:=h.lt t ht;omega
def DoInv.done{f:XE}{a b:List Iv}{st:List Nat}{j:List Iv}(h:DoInv f a b st st.length j)(o:Nrm a)(hb:Nrm b):j=qy f a b:=
 (vK o hb h.nrm λx u=>h.mm x (by unfold KD;rw[UT b6];exact u)).symm
def x8(j:List (List Iv)):YN (zH j):=yi _
def VY(j:List (List Iv)):∃h:0<(zH j).length,(zH j)[0]=0:=by
 have o:0∈zH j:=qr.2 (by simp[yU]);obtain⟨i,hi,e⟩:=Wr o;refine⟨b6,?_⟩;rcases WG i with h|h
 .subst h;exact e
 .have:=jJ (x8 j) hi h;omega
def Ze{o:List (List Iv)}(h:∀l∈o,∀s∈l,s.lo<zk):∀x∈zH o,x<zk:=λx w=>by
 have:=qr.1 w;simp only[yU,wm,uu,z6,jQ]at this;rcases this with rfl|⟨l,u,s,hs,j⟩
 .exact xM
 .rcases j with rfl|j
  .exact h l u s hs
  .split at j
   .simp at j;omega
   .cases j
def DoInv.zero{f:XE}{a b:List Iv}(j:List (List Iv)):DoInv f a b (zH j) 0 []:=by
 obtain⟨h,e⟩:=VY j;have:KD (zH j) 0=0:=by unfold KD;rw[ut h,e]
 exact⟨trivial,(λ_ h=>by cases h),λx o=>b6,Zp _⟩
def kA(o:List (List Iv))(i j:Nat):List Nat:=0::((o.take i).flatMap z6++z6 ((o[i]?.getD []).take j))
def zf6(j:List (List Iv)):kA j 0 0=[0]:=by simp[kA,z6]
def XW(a b:List Iv):z6 (a++b)=z6 a++z6 b:=by simp[z6]
def zbv{o:List (List Iv)}{i j:Nat}(h:i<o.length)(u:o[i].length<=j):kA o i j=kA o (i+1) 0:=by unfold kA;rw[Zv h,WX,ww u,vw h,Wl];simp[z6]
def YF{o:List (List Iv)}{i j:Nat}(h:i<o.length)(u:j<o[i].length):kA o i (j+1)=kA o i j++jQ o[i][j]:=by unfold kA;rw[Zv h,WX,zaU u];simp
def zdJ{j:List (List Iv)}{i:Nat}(h:j.length<=i):kA j i 0=yU j:=by unfold kA yU;rw[ww h];simp[z6]
def zdK{o:List (List Iv)}{i:Nat}(j:Nat)(h:i<o.length):(kA o i j).length<=(yU o).length:=by
 have e:o.flatMap z6=(o.take i).flatMap z6++(z6 (o[i].take j)++z6 (o[i].drop j)++(o.drop (i+1)).flatMap z6):=by
  rw[<-XW,Wh]
  conv=>lhs;rw[<-Wh i o,V1 h,Wl,Wn]
 unfold kA yU;rw[e,Zv h,WX];simp
def zT(v:List En)(r:Nat):List Iv:=match v.find? (λe=>e.rep == r)with
 |some e=>kn e
 |none=>[]
def zsC(v:List En):Prop:=(∀e∈v,zO e)/\v.Pairwise (λa b=>a.rep<b.rep)
def CanV(v:List En):Prop:=(∀e∈v,YP e)/\v.Pairwise (λa b=>a.rep<b.rep)
def CanV.right{v:List En}(h:CanV v):zsC v:=⟨λe j=>(h.1 e j).1,h.2⟩
def knV_nil(r:Nat):zT [] r=[]:=rfl
def qm(e:En)(v:List En)(r:Nat):zT (e::v) r=if e.rep=r then kn e else zT v r:=by
 unfold zT;by_cases h:e.rep=r
 .simp[h]
 .simp[h]
def qC{v:List En}{r:Nat}(h:∀e∈v,e.rep≠r):zT v r=[]:=by
 induction v with
 |nil=>rfl
 |cons e v ih=>rw[qm,V2 (h e b8),ih λj o=>h j (by simp[o])]
def kq{v:List En}(h:v.Pairwise λa b=>a.rep<b.rep){e:En}(u:e∈v):zT v e.rep=kn e:=by
 induction v with
 |nil=>cases u
 | cons x v ih=>
   have o:=wk.1 h;rw[qm];rcases wm.1 u with rfl|j
   .rw[VS rfl]
   .have:=o.1 e j;rw[V2 b6,ih o.2 j]
def qi{v:List En}(h:zsC v)(r:Nat):Nrm (zT v r):=by
 unfold zT;split
 .rename_i e he;exact qT (h.1 e (uL he))
 .trivial
def Zk:∀{a b:List En},CanV a->CanV b->(∀r,zT a r=zT b r)->a=b
 |[],[],_,_,_=>rfl
 |[],y::b,_,hb,h=>by have:=h y.rep;rw[knV_nil,qm,VS rfl]at this;exact absurd this.symm (jO (hb.1 y b8)).1
 |x::a,[],ha,_,h=>by have:=h x.rep;rw[knV_nil,qm,VS rfl]at this;exact absurd this (jO (ha.1 x b8)).1
 | x::a,y::b,ha,hb,h=>by
   have w:=wk.1 ha.2;have A:=wk.1 hb.2;have B:=ha.1 x b8;have C:=hb.1 y b8;have E:x.rep=y.rep:=by
    rcases WR x.rep y.rep with o|o|o
    .have:=h x.rep;rw[qm,VS rfl,qC λe j=>by rcases wm.1 j with rfl|j;omega;have:=A.1 e j;omega]at this;exact absurd this (jO B).1
    .exact o
    .have:=h y.rep;rw[qm (e:=y),VS rfl,qC λe j=>by rcases wm.1 j with rfl|j;omega;have:=w.1 e j;omega]at this;exact absurd this.symm (jO C).1
   have hk:=h x.rep;rw[qm,qm,VS rfl,VS E.symm]at hk;have e1:=ZM B;have e2:=ZM C;rw[hk,E,e2]at e1;have u:x=y:=(by injection e1 with e1;exact e1.symm);subst u;congr 1;refine Zk ⟨λe j=>ha.1 e (by simp[j]),w.2⟩ ⟨λe j=>hb.1 e (by simp[j]),A.2⟩ λr=>?_;by_cases o:x.rep=r
   .rw[qC λe j=>by have:=w.1 e j;omega,qC λe j=>by have:=A.1 e j;omega]
   .have:=h r;rw[qm,qm,V2 o,V2 o]at this;exact this
def Xd(f:XE)(a b:List En)(r:Nat):En×Bool:=Qi r (qy f (zT a r) (zT b r))
def vE(f:XE)(a b:List En)(r:Nat):Option En:=if (Xd f a b r).2 then some (Xd f a b r).1 else none
def zM(v:List En):List Nat:=v.map En.rep
noncomputable def ks (f:XE) (a b:List En):List En:=(srt (zM a++zM b)).filterMap (vE f a b)
def xz{f:XE}{a b:List En}{r:Nat}{e:En}(h:vE f a b r=some e):qy f (zT a r) (zT b r)≠[]/\e=(Xd f a b r).1/\e.rep=r:=by
 unfold vE Xd at h;split at h
 .rename_i h1;rw[zaj]at h1;simp at h1;cases h;exact⟨h1,rfl,by rw[qD h1]⟩
 .cases h
def zad{f:XE}{a b:List En}{r:Nat}(h:qy f (zT a r) (zT b r)≠[]):vE f a b r=some (Xd f a b r).1:=by unfold vE;rw[VS];unfold Xd;rw[zaj];simpa using h
def Xr{a b:List En}(o:zsC a)(hb:zsC b):∀r∈srt (zM a++zM b),r<zk:=λr u=>by
 have:=qr.1 u;simp only[zM,wI,wG]at this;rcases this with⟨e,j,rfl⟩|⟨e,j,rfl⟩
 .exact(o.1 e j).2.2.2
 .exact(hb.1 e j).2.2.2
def xj{g:Nat->Option En}(j:∀r e,g r=some e->e.rep=r):∀{l:List Nat},YN l->(l.filterMap g).Pairwise λa b=>a.rep<b.rep
 |[],_=>List.Pairwise.nil
 | r::l,h=>by
   have o:=wk.1 h;rw[uR];cases e:g r with
   |none=>exact xj j o.2
   |some x=>refine wk.2 ⟨λy A=>?_,xj j o.2⟩;obtain⟨B,u,w⟩:=uk.1 A;rw[j _ _ e,j _ _ w];exact o.1 B u
def Xe(f:XE){a b:List En}(j:zsC a)(hb:zsC b):CanV (ks f a b):=by refine⟨λe w=>?_,xj (λr e h=>(xz h).2.2) (yi _)⟩;obtain⟨r,y,o⟩:=uk.1 w;obtain⟨u,rfl,_⟩:=xz o;exact zak (Xr j hb r y) (qH (qi j r) (qi hb r)) u
def zdv{f:XE}(j:f false false=false):qy f [] []=[]:=
 vK (a:=[]) (b:=[]) trivial trivial trivial λx o=>by simp[j]
def JR{f:XE}(E:f false false=false){a b:List En}(A:zsC a)(hb:zsC b)(r:Nat):zT (ks f a b) r=qy f (zT a r) (zT b r):=by
 by_cases h:qy f (zT a r) (zT b r)=[]
 .rw[h];refine qC λe j u=>?_;obtain⟨G,F,C⟩:=uk.1 j;obtain⟨o,_,w⟩:=xz C;rw[u]at w;subst w;exact o h
 .have B:r∈srt (zM a++zM b):=by
   refine qr.2 (wI.2 ?_);rcases Classical.em (r∈zM a)with o|o
   .exact .inl o
   .rcases Classical.em (r∈zM b)with y|y
    .exact .inr y
    .refine absurd ?_ h;rw[qC (v:=a) λe j u=>o (wG.2 ⟨e,j,u⟩),qC (v:=b) λe j u=>y (wG.2 ⟨e,j,u⟩)];exact zdv E
  have j:(Xd f a b r).1∈ks f a b:=uk.2 ⟨r,B,zad h⟩;have w:(Xd f a b r).1.rep=r:=(xz (zad h)).2.2;have:=kq (Xe f A hb).2 j;rw[w]at this;rw[this];exact JO (Xr A hb r B) (qH (qi A r) (qi hb r)) h
def zoY{f:XE}(u:f false false=false){a b c:List En}(j:zsC a)(hb:zsC b)(o:CanV c)(h:∀r,zT c r=qy f (zT a r) (zT b r)):ks f a b=c:=
 Zk (Xe f j hb) o λr=>by rw[JR u j hb,h]
def QX(e:En):Option En:=if (kP e).2 then some (kP e).1 else none
def zi(v:List En):List En:=v.filterMap QX
def v9{e c:En}(h:QX e=some c):kn e≠[]/\c=(kP e).1/\c.rep=e.rep:=by
 unfold QX kP at h;split at h
 .rename_i h1;rw[zaj]at h1;simp at h1;cases h;exact⟨h1,rfl,by rw[qD h1]⟩
 .cases h
def jN:∀{v:List En},zsC v->CanV (zi v)
 |[],_=>⟨λe h=>(by cases h),List.Pairwise.nil⟩
 | x::v,h=>by
   have p:=wk.1 h.2;obtain⟨o,u⟩:=jN (v:=v) ⟨λe j=>h.1 e (by simp[j]),p.2⟩;unfold zi;rw[uR];cases e:QX x with
   |none=>exact⟨o,u⟩
   | some c=>
     obtain⟨C,rfl,E⟩:=v9 e;have w:=h.1 x b8;refine⟨λe j=>?_,wk.2 ⟨λy B=>?_,u⟩⟩
     .rcases wm.1 j with rfl|j
      .exact zak w.2.2.2 (qT w) C
      .exact o e j
     .obtain⟨z,hz,A⟩:=uk.1 B;obtain⟨_,_,F⟩:=v9 A;rw[E,F];exact p.1 z hz
def ja:∀{v:List En},zsC v->∀r,zT (zi v) r=zT v r
 |[],_,r=>rfl
 | x::v,h,r=>by
   have p:=wk.1 h.2;have w:zsC v:=⟨λe j=>h.1 e (by simp[j]),p.2⟩;have ih:=ja w r;have u:=h.1 x b8;unfold zi at ih⊢;rw[uR,qm];cases e:QX x with
   | none=>
     have hk:kn x=[]:=by
      unfold QX kP at e;rw[zaj]at e;by_cases o:kn x=[]
      .exact o
      .simp[o]at e
     show zT (v.filterMap QX) r=_;rw[ih];split
     .rename_i hr;rw[hk];exact qC λe j=>by have:=p.1 e j;omega
     .rfl
   | some c=>
     obtain⟨y,rfl,A⟩:=v9 e;show zT ((kP x).1::v.filterMap QX) r=_;rw[qm,A,ih];split
     .exact JO u.2.2.2 (qT u) y
     .rfl
section
variable {a b c:List En}
def fU0:zn false false=false:=rfl
def fM0:zm false false=false:=rfl
end
end
section
open Go.ChangeShapes Go.WideShapes Go.ChangeAt Go.RowKit Go.Deep
section
variable {H:Type}{enc:TypeId×Value->H}{w:World}{base:Nat}{spare:Nat->Bool}{held:Bool}
instance : Inhabited Iv:=⟨⟨0,0⟩⟩
def zgC{n:Int}(h:(Lit.int .u64 n).wf=true):∃x:Nat,n=x/\x<zk:=by simp[Lit.wf,IntKind.min,IntKind.max,IntKind.signed,IntKind.bits]at h;exact⟨n.toNat,b6,by rw[zw];omega⟩
def kM{t:TypeId}{j:Nat}{o:List Value}{x:DataW H×List MemPlace}(ht:xT.underlying t=some (.int .u64))(h:DataW.trod enc xT w base spare held j t o=some x):∃n:Nat,o=[.int .u64 n]/\n<zk:=by obtain⟨n,rfl,_,y⟩:=DataW.trod_int ht h;obtain⟨m,rfl,u⟩:=zgC y;exact⟨m,rfl,u⟩
def zaC(a:Addr)(i:Nat):(a.add i).block=a.block:=by unfold Addr.add;split<;>rfl
def Za{α:Type}[Inhabited α]{t e:TypeId}{B sz:Nat}{N:List Value}{x:DataW H×List MemPlace}(rd:World->Nat->Nat->α->Prop)(ht:xT.underlying t=some (.slice e))(M:xT.cellsOf e=sz)
 (G:∀(n:Nat)(a:Addr)(o:List Value)(y:DataW H×List MemPlace),w.cells? base a sz=some o->DataW.trod enc xT w base spare held n e o=some y->a.spot=none/\a.block<w.heap.size/\∃x,rd w a.block a.off x)
 (h:DataW.trod enc xT w base spare held B t N=some x):∃v l,N=[v]/\RdSl sz rd 0 w.heap.size w v l:=by
 rcases open_slice ht h with⟨rfl,_⟩|⟨a,len,E,m,n,D,X,rfl,hb,S,U,K,_,V⟩
 .exact⟨_,[],rfl,RdSl.nil _ _ dE⟩
 have T:len<=m:=by rw[K];split<;>omega
 have A:∀i,i<len->∃y,(a.add (i*sz)).spot=none/\a.block<w.heap.size/\rd w a.block ((a.add (i*sz)).off) y:=by intro i hi;obtain⟨o,P,Q⟩:=V i b6;rw[M]at P;obtain⟨e1,e2,y,O⟩:=G _ _ _ _ P Q;rw[zaC]at e2 O;exact⟨y,e1,e2,O⟩
 obtain⟨f,I⟩:=choose_lt A;refine⟨_,(List.range len).map f,rfl,some a,E,b8,dM S,U,λL=>?_⟩;have j:0<len:=by
  rcases WG len with F|F
  .subst F;simp at L
  .exact F
 obtain⟨b,u,C⟩:=a;have hs:C=none:=by have:=(I 0 j).1;simpa[Addr.add]using this
 subst hs;refine⟨b,u,rfl,vj _,(I 0 j).2.1,λi hi=>?_⟩;have J:i<len:=dM hi
 have:=(I i J).2.2;have e:((⟨b,u,none⟩:Addr).add (i*sz)).off=u+i*sz:=by unfold Addr.add;split<;>simp_all
 rw[e]at this;simpa using this
def YB{P:Program}{e:TypeId}{o u:Field}{n:Nat}{a:Addr}{E:List Value}{y:DataW H×List MemPlace}(T:P.underlying e=some (.struct #[o,u]))(U:o.offset=0)(V:u.offset=1)(M:P.cellsOf o.type=1)(N:P.cellsOf u.type=1)
 (Q:w.cells? base a 2=some E) (S:DataW.trod enc P w base spare held n e E=some y) :
 ∃B C k G I,w.cell? a=some B/\w.cell? (a.add 1)=some C/\DataW.trod enc P w base spare held k o.type [B]=some G/\DataW.trod enc P w base spare held k u.type [C]=some I:=by
 obtain⟨_,A,j⟩:=World.cells?_some Q;obtain⟨X,k,_,_,_,F,L⟩:=DataW.trod_struct T S;match X,F,E,A with
 |[G,I],_,[B,C],_=>have J:=L 0 o rfl;have K:=L 1 u rfl;simp[U,V,M,N]at J K;have O:=j 0 b6;have e1:=j 1 b6;exact⟨B,C,k,G,I,by simpa[Addr.add]using O,dM e1,J,K⟩
def zfA{n:Nat}{a:Addr}{B:List Value}{y:DataW H×List MemPlace}(F:w.cells? base a 2=some B)(G:DataW.trod enc xT w base spare held n 64 B=some y):a.spot=none/\a.block<w.heap.size/\∃s,rdIv w a.block a.off s:=by
 obtain⟨L,M,k,N,O,o,e1,C,E⟩:=YB underlying64 rfl rfl dN dN F G;obtain⟨lo,J,A⟩:=kM underlying36 C;obtain⟨hi,K,u⟩:=kM underlying36 E;obtain rfl:L=_:=dM J
 obtain rfl:M=_:=dM K
 obtain⟨b,I,j⟩:=a;obtain rfl:j=none:=World.cell?_spot o;exact⟨rfl,tz _ _ o,⟨lo,hi⟩,o,by simpa[Addr.add]using e1,A,u⟩
def ZA{j:Nat}{o:List Value}{x:DataW H×List MemPlace}(h:DataW.trod enc xT w base spare held j 24 o=some x):∃v l,o=[v]/\RdR 0 w.heap.size w v l:=
 Za rdIv underlying24 dN (λ_ _ _ _ u y=>zfA u y) h
def zpo{r:Reach}{y:Nat}{v:Value}{d:DataW H}{E:List MemPlace}(j:Value.okWide xT w r y 24 v)(h:DataW.Trod enc xT w base spare held 24 v d E):∃l,RdR 0 w.heap.size w v l:=by obtain⟨a,len,A,rfl⟩:=okWide_slice underlying24 j;obtain⟨o,B⟩:=h;obtain⟨v,l,u,C⟩:=ZA B;simp[Value.cells]at u;exact⟨l,by rw[u];exact C⟩
end
end
namespace As
open Go.RowKit Go.Extern.Stop Go.Stop Go.Extern
def methodKind(h:Value)(w:World):(Go.method 432 194 (.agg #[h]) "Kind").run xT w=.ok (243,h) w:=dN
def methodElem(h:Value)(w:World):(Go.method 432 194 (.agg #[h]) "Elem").run xT w=.ok (258,.agg #[h]) w:=dN
def methodImplements(h:Value)(w:World):(Go.method 432 194 (.agg #[h]) "Implements").run xT w=.ok (259,.agg #[h]) w:=dN
def methodAssignableTo(h:Value)(w:World):(Go.method 432 194 (.agg #[h]) "AssignableTo").run xT w=.ok (256,.agg #[h]) w:=dN
def methodUnwrap(c k:Int)(w:World):(Go.method 432 123 (.agg #[.int .i64 c,.int .i64 k]) "Unwrap").run xT w=.ok (249,.agg #[.int .i64 c,.int .i64 k]) w:=dN
def rlm(z:Sem Value)(f:TypeId->Addr->Nat->Nat->Sem Value)(v:Value):
 ReflectliteValue.method z f #[v]=(do match <-ReflectliteValue.parts v with|none=>z|some (t,a,fl)=>f t a fl (fl%32)):=rfl
def rls(v x:Value):ReflectliteValue.set #[v,x]=(do
 let (some (dst,a,fl),some (src,b,_)):=(<-ReflectliteValue.parts v,<-ReflectliteValue.parts x)
  |unsupported (.noEntry "extern/(internal/reflectlite.Value).Set.zeroValue")
 if fl/ReflectliteValue.flagAddr%2 == 0 then unsupported (.noEntry "extern/(internal/reflectlite.Value).Set.unaddressable")
 let val <-loadVar src b
 if <-Rtype.directlyAssignable dst src then storeVar dst a val
 else if <-Rtype.implements dst src then
  if (<-Rtype.kind src) == 20 then
   match val with
   |.nilIface=>unsupported (.noEntry "extern/reflectlite: a nil value of one interface type handed on as a value of another")
   |_=>storeVar dst a val
  else storeVar dst a (.iface src val)
 else panicString ("reflectlite.Set: value of type " ++ (<-Rtype.spelt src) ++ " is not assignable to type " ++ (<-Rtype.spelt dst))
 pure (.tuple #[])):=rfl
def valueOfNp(t:Addr)(w:World):(ReflectliteValue.unpack (.iface 121 (.pointer (some t)))).run xT w
 = .ok (.agg #[.pointer (some ⟨2,121,none⟩),.pointer (some ⟨w.heap.size,0,none⟩),.int .u64 150]) (w.alloc (.cells #[.pointer (some t)] 121)):=dN
def typeNp(a:Addr)(w:World):(ReflectliteValue.methodAny (ReflectliteValue.valueError "reflectlite.Value.Type" 0) (λt _ _ _=>ReflectliteType.toType t) #[.agg #[.pointer (some ⟨2,121,none⟩),.pointer (some a),.int .u64 150]]).run xT w
 = .ok (.iface 194 (.agg #[.pointer (some ⟨2,121,none⟩)])) w:=dN
def kindNp(w:World):((ReflectliteType.abiMethod λt=>(λa:Nat=>Value.int IntKind.u8 (a:Int)) <$> Rtype.kind t) #[.pointer (some ⟨2,121,none⟩)]).run xT w=.ok (.int .u8 22) w:=dN
def kindN(w:World):((ReflectliteType.abiMethod λt=>(λa:Nat=>Value.int IntKind.u8 (a:Int)) <$> Rtype.kind t) #[.pointer (some ⟨2,83,none⟩)]).run xT w=.ok (.int .u8 2) w:=dN
def partsNp(a:Addr)(w:World):(ReflectliteValue.parts (.agg #[.pointer (some ⟨2,121,none⟩),.pointer (some a),.int .u64 150])).run xT w=.ok (some (121,a,150)) w:=dN
def isNilNp(a p:Addr)(W:World)(j:W.cell? a=some (.pointer (some p))):
 (ReflectliteValue.method (ReflectliteValue.valueError "reflectlite.Value.IsNil" 0) ReflectliteValue.isNil #[.agg #[.pointer (some ⟨2,121,none⟩),.pointer (some a),.int .u64 150]]).run xT W=.ok (.bool false) W:=by
 rw[rlm];simp only[tM,partsNp,Result.andThen];simp[ReflectliteValue.isNil,loadVar,isAgg,underlying,underlying121,j,Result.andThen]
def elemNp(w:World):(ReflectliteType.method ReflectliteType.elem #[.agg #[.pointer (some ⟨2,121,none⟩)]]).run xT w=.ok (.iface 194 (.agg #[.pointer (some ⟨2,83,none⟩)])) w:=dN
def implementsN(w:World):(ReflectliteType.relation "Implements" ReflectliteType.implements_ #[.agg #[.pointer (some ⟨2,83,none⟩)],.iface 194 (.agg #[.pointer (some ⟨2,44,none⟩)])]).run xT w=.ok (.bool true) w:=dN
def typeOfN(v:Value)(w:World):(ReflectliteType.typeOf #[.iface 83 v]).run xT w=.ok (.iface 194 (.agg #[.pointer (some ⟨2,83,none⟩)])) w:=dN
def assignableN(w:World):(ReflectliteType.relation "AssignableTo" ReflectliteType.assignableTo #[.agg #[.pointer (some ⟨2,83,none⟩)],.iface 194 (.agg #[.pointer (some ⟨2,83,none⟩)])]).run xT w=.ok (.bool true) w:=dN
def valueOfN(c:Int)(w:World):(ReflectliteValue.unpack (.iface 83 (.int .i64 c))).run xT w
 = .ok (.agg #[.pointer (some ⟨2,83,none⟩),.pointer (some ⟨w.heap.size,0,none⟩),.int .u64 130]) (w.alloc (.cells #[.int .i64 c] 83)):=dN
def elemOfNp(w:World):(Rtype.elem? 121).run xT w=.ok (some 83) w:=dN
def mkN(p:Addr)(w:World):(ReflectliteValue.mk 83 p ReflectliteValue.flagAddr).run xT w=.ok (.agg #[.pointer (some ⟨2,83,none⟩),.pointer (some p),.int .u64 386]) w:=dN
def elemVNp(a p:Addr)(W:World)(j:W.cell? a=some (.pointer (some p))):
 (ReflectliteValue.method (ReflectliteValue.valueError "reflectlite.Value.Elem" 0) ReflectliteValue.elem #[.agg #[.pointer (some ⟨2,121,none⟩),.pointer (some a),.int .u64 150]]).run xT W
   = .ok (.agg #[.pointer (some ⟨2,83,none⟩),.pointer (some p),.int .u64 386]) W:=by
 rw[rlm];simp only[tM,partsNp,Result.andThen];simp[ReflectliteValue.elem,loadVar,isAgg,underlying,underlying121,j,Result.andThen,elemOfNp,mkN]
def partsNa(a:Addr)(w:World):(ReflectliteValue.parts (.agg #[.pointer (some ⟨2,83,none⟩),.pointer (some a),.int .u64 386])).run xT w=.ok (some (83,a,386)) w:=dN
def partsN(a:Addr)(w:World):(ReflectliteValue.parts (.agg #[.pointer (some ⟨2,83,none⟩),.pointer (some a),.int .u64 130])).run xT w=.ok (some (83,a,130)) w:=dN
def directN(w:World):(Rtype.directlyAssignable 83 83).run xT w=.ok true w:=dN
def valueOfFp(t:Addr)(w:World):(ReflectliteValue.unpack (.iface 178 (.pointer (some t)))).run xT w
 = .ok (.agg #[.pointer (some ⟨2,178,none⟩),.pointer (some ⟨w.heap.size,0,none⟩),.int .u64 150]) (w.alloc (.cells #[.pointer (some t)] 178)):=dN
def typeFp(a:Addr)(w:World):(ReflectliteValue.methodAny (ReflectliteValue.valueError "reflectlite.Value.Type" 0) (λt _ _ _=>ReflectliteType.toType t) #[.agg #[.pointer (some ⟨2,178,none⟩),.pointer (some a),.int .u64 150]]).run xT w
 = .ok (.iface 194 (.agg #[.pointer (some ⟨2,178,none⟩)])) w:=dN
def kindFp(w:World):((ReflectliteType.abiMethod λt=>(λa:Nat=>Value.int IntKind.u8 (a:Int)) <$> Rtype.kind t) #[.pointer (some ⟨2,178,none⟩)]).run xT w=.ok (.int .u8 22) w:=dN
def kindF(w:World):((ReflectliteType.abiMethod λt=>(λa:Nat=>Value.int IntKind.u8 (a:Int)) <$> Rtype.kind t) #[.pointer (some ⟨2,123,none⟩)]).run xT w=.ok (.int .u8 25) w:=dN
def partsFp(a:Addr)(w:World):(ReflectliteValue.parts (.agg #[.pointer (some ⟨2,178,none⟩),.pointer (some a),.int .u64 150])).run xT w=.ok (some (178,a,150)) w:=dN
def isNilFp(a p:Addr)(W:World)(j:W.cell? a=some (.pointer (some p))):
 (ReflectliteValue.method (ReflectliteValue.valueError "reflectlite.Value.IsNil" 0) ReflectliteValue.isNil #[.agg #[.pointer (some ⟨2,178,none⟩),.pointer (some a),.int .u64 150]]).run xT W=.ok (.bool false) W:=by
 rw[rlm];simp only[tM,partsFp,Result.andThen];simp[ReflectliteValue.isNil,loadVar,isAgg,underlying,underlying178,j,Result.andThen]
def elemFp(w:World):(ReflectliteType.method ReflectliteType.elem #[.agg #[.pointer (some ⟨2,178,none⟩)]]).run xT w=.ok (.iface 194 (.agg #[.pointer (some ⟨2,123,none⟩)])) w:=dN
def implementsF(w:World):(ReflectliteType.relation "Implements" ReflectliteType.implements_ #[.agg #[.pointer (some ⟨2,123,none⟩)],.iface 194 (.agg #[.pointer (some ⟨2,44,none⟩)])]).run xT w=.ok (.bool true) w:=dN
def typeOfF(v:Value)(w:World):(ReflectliteType.typeOf #[.iface 123 v]).run xT w=.ok (.iface 194 (.agg #[.pointer (some ⟨2,123,none⟩)])) w:=dN
def assignableF(w:World):(ReflectliteType.relation "AssignableTo" ReflectliteType.assignableTo #[.agg #[.pointer (some ⟨2,123,none⟩)],.iface 194 (.agg #[.pointer (some ⟨2,123,none⟩)])]).run xT w=.ok (.bool true) w:=dN
def valueOfF(c k:Int)(w:World):(ReflectliteValue.unpack (.iface 123 (.agg #[.int .i64 c,.int .i64 k]))).run xT w
 = .ok (.agg #[.pointer (some ⟨2,123,none⟩),.pointer (some ⟨w.heap.size,0,none⟩),.int .u64 153]) (w.alloc (.cells #[.int .i64 c,.int .i64 k] 123)):=dN
def elemOfFp(w:World):(Rtype.elem? 178).run xT w=.ok (some 123) w:=dN
def mkF(p:Addr)(w:World):(ReflectliteValue.mk 123 p ReflectliteValue.flagAddr).run xT w=.ok (.agg #[.pointer (some ⟨2,123,none⟩),.pointer (some p),.int .u64 409]) w:=dN
def elemVFp(a p:Addr)(W:World)(j:W.cell? a=some (.pointer (some p))):
 (ReflectliteValue.method (ReflectliteValue.valueError "reflectlite.Value.Elem" 0) ReflectliteValue.elem #[.agg #[.pointer (some ⟨2,178,none⟩),.pointer (some a),.int .u64 150]]).run xT W
   = .ok (.agg #[.pointer (some ⟨2,123,none⟩),.pointer (some p),.int .u64 409]) W:=by
 rw[rlm];simp only[tM,partsFp,Result.andThen];simp[ReflectliteValue.elem,loadVar,isAgg,underlying,underlying178,j,Result.andThen,elemOfFp,mkF]
def partsFa(a:Addr)(w:World):(ReflectliteValue.parts (.agg #[.pointer (some ⟨2,123,none⟩),.pointer (some a),.int .u64 409])).run xT w=.ok (some (123,a,409)) w:=dN
def partsF(a:Addr)(w:World):(ReflectliteValue.parts (.agg #[.pointer (some ⟨2,123,none⟩),.pointer (some a),.int .u64 153])).run xT w=.ok (some (123,a,153)) w:=dN
def directF(w:World):(Rtype.directlyAssignable 123 123).run xT w=.ok true w:=dN
def sizeF(w:World):(sizeOf 123).run xT w=.ok 2 w:=dN
def assignableFN(w:World):(ReflectliteType.relation "AssignableTo" ReflectliteType.assignableTo #[.agg #[.pointer (some ⟨2,123,none⟩)],.iface 194 (.agg #[.pointer (some ⟨2,83,none⟩)])]).run xT w=.ok (.bool false) w:=dN
def setN(j b:Addr)(c:Int)(o:Value)(W:World)(hb:W.cell? b=some (.int .i64 c))(ht:W.cell? j=some o)(u:W.frozen? j=false):
 (ReflectliteValue.set #[.agg #[.pointer (some ⟨2,83,none⟩),.pointer (some j),.int .u64 386],.agg #[.pointer (some ⟨2,83,none⟩),.pointer (some b),.int .u64 130]]).run xT W
   = .ok (.tuple #[]) (W.setCell j (.int .i64 c)):=by
 rw[rls];simp only[tM,partsNa,partsN,Result.andThen];simp[ReflectliteValue.flagAddr,loadVar,isAgg,underlying,underlying83,hb,Result.andThen,directN,storeVar,Value.cells,storeCells,Addr.add];rw[run_store xT W j _ _ (by rfl)];simp[ht,u]
abbrev Ext(f:FuncId)(e:Array Value->Sem Value):Prop:=∀(j:Array Value)(w:World),(callFunc f j).run xT w=((e j).run xT w).andThen λv o=>.ok (.value v) o
def xt0:Ext 94 (λj=>ReflectliteValue.unpack (j.getD 0 (.tuple #[]))):=tT func94 dN dN dN dN
def xt1:Ext 95 (ReflectliteValue.methodAny (ReflectliteValue.valueError "reflectlite.Value.Type" 0) (λt _ _ _=>ReflectliteType.toType t)):=tT func95 dN dN dN dN
def xt2:Ext 96 (ReflectliteValue.method (ReflectliteValue.valueError "reflectlite.Value.IsNil" 0) ReflectliteValue.isNil):=tT func96 dN dN dN dN
def xt3:Ext 243 (ReflectliteType.abiMethod λt=>do pure (.int .u8 (<-Rtype.kind t))):=tT func243 dN dN dN dN
def xt4:Ext 258 (ReflectliteType.method ReflectliteType.elem):=tT func258 dN dN dN dN
def xt5:Ext 259 (ReflectliteType.relation "Implements" ReflectliteType.implements_):=tT func259 dN dN dN dN
def xt6:Ext 78 ReflectliteType.typeOf:=tT func78 dN dN dN dN
def xt7:Ext 256 (ReflectliteType.relation "AssignableTo" ReflectliteType.assignableTo):=tT func256 dN dN dN dN
def xt8:Ext 135 (ReflectliteValue.method (ReflectliteValue.valueError "reflectlite.Value.Elem" 0) ReflectliteValue.elem):=tT func135 dN dN dN dN
def xt9:Ext 136 ReflectliteValue.set:=tT func136 dN dN dN dN
end As
namespace As
open Go.RowKit Go.Extern.Stop Go.Stop Go.Extern
def as_NN(c:Int)(t:Addr)(y:Value)(w:World)(B:w.cell? ⟨1,0,none⟩=some (.iface 194 (.agg #[.pointer (some ⟨2,44,none⟩)])))(o:w.cell? t=some y)(A:w.frozen? t=false):
 Calls xT 57 #[.iface 83 (.int .i64 c),.iface 121 (.pointer (some t))] w λev P=>ev=.returned (.bool true)/\P=((((w.alloc (.cells #[.pointer (some t)] 121)).alloc (.cells #[.pointer (some ⟨2,121,none⟩),.pointer (some ⟨w.heap.size,0,none⟩),.int .u64 150] 171)).alloc (.cells #[.pointer (some ⟨2,121,none⟩),.pointer (some ⟨w.heap.size,0,none⟩),.int .u64 150] 171)).alloc (.cells #[.int .i64 c] 83)).setCell t (.int .i64 c):=by
 have U:=λa w=>xt0 a w;have V:=λa w=>xt1 a w;have X:=λa w=>xt2 a w;have H:=λa w=>xt3 a w;have J:=λa w=>xt4 a w;have K:=λa w=>xt5 a w;have E:=λa w=>xt6 a w;have I:=λa w=>xt7 a w;have F:=λa w=>xt8 a w;have G:=λa w=>xt9 a w;have tO:=typeOfN;have Y:=methodAssignableTo;have a25:=assignableN;have O:=valueOfN;have S:=valueOfNp;have T:=typeNp;have mK:=methodKind;have Z:=methodElem;have mI:=methodImplements;have N:=kindNp;have k25:=kindN;have C:=elemNp;have M:=implementsN;have n8:=isNilNp ⟨w.heap.size,0,none⟩ t ((w.alloc (.cells #[.pointer (some t)] 121)).alloc (.cells #[.pointer (some ⟨2,121,none⟩),.pointer (some ⟨w.heap.size,0,none⟩),.int .u64 150] 171)) b8;have j:1<w.heap.size:=tz w ⟨1,0,none⟩ B;have L:((w.alloc (.cells #[.pointer (some t)] 121)).alloc (.cells #[.pointer (some ⟨2,121,none⟩),.pointer (some ⟨w.heap.size,0,none⟩),.int .u64 150] 171)).cell? ⟨1,0,none⟩=some (.iface 194 (.agg #[.pointer (some ⟨2,44,none⟩)])):=by rw[tA _ _ ⟨1,0,none⟩ (by rw[tE];exact uo j),tA _ _ ⟨1,0,none⟩ j];exact B
 have u:t.block<w.heap.size:=by
  rcases wO t.block w.heap.size with h|h
  .exact h
  .simp[World.cell?,ue h]at o
 have Q:=elemVNp ⟨w.heap.size,0,none⟩ t (((w.alloc (.cells #[.pointer (some t)] 121)).alloc (.cells #[.pointer (some ⟨2,121,none⟩),.pointer (some ⟨w.heap.size,0,none⟩),.int .u64 150] 171)).alloc (.cells #[.pointer (some ⟨2,121,none⟩),.pointer (some ⟨w.heap.size,0,none⟩),.int .u64 150] 171)) (by rw[tA _ _ ⟨w.heap.size,0,none⟩ b7];simp);have st:=setN t ⟨w.heap.size+1+1+1,0,none⟩ c y ((((w.alloc (.cells #[.pointer (some t)] 121)).alloc (.cells #[.pointer (some ⟨2,121,none⟩),.pointer (some ⟨w.heap.size,0,none⟩),.int .u64 150] 171)).alloc (.cells #[.pointer (some ⟨2,121,none⟩),.pointer (some ⟨w.heap.size,0,none⟩),.int .u64 150] 171)).alloc (.cells #[.int .i64 c] 83))
  (by rw[Ta _ _ _ _ b8];rfl)
  (by rw[tA _ _ t b7,tA _ _ t b7,tA _ _ t b7,tA _ _ t u];exact o)
  (by rw[tJ _ _ t b7,tJ _ _ t b7,tJ _ _ t b7,tJ _ _ t (Uv u)];exact A)
 go_enter func57,ntmps57
 go_wp2;refine Tq 1 ?_;rw[Td]
 go_wp2;go_ret;exact⟨rfl,rfl⟩
end As
namespace As
open Go.RowKit Go.Extern.Stop Go.Stop Go.Extern
def setF(T b:Nat)(c k:Int)(W:World)(C:W.cell? ⟨b,0,none⟩=some (.int .i64 c))(E:W.cell? ⟨b,1,none⟩=some (.int .i64 k))(H:(W.cell? ⟨T,0,none⟩).isSome=true)(I:(W.cell? ⟨T,1,none⟩).isSome=true)(A:W.frozen? ⟨T,0,none⟩=false)(B:W.frozen? ⟨T,1,none⟩=false):
 (ReflectliteValue.set #[.agg #[.pointer (some ⟨2,123,none⟩),.pointer (some ⟨T,0,none⟩),.int .u64 409],.agg #[.pointer (some ⟨2,123,none⟩),.pointer (some ⟨b,0,none⟩),.int .u64 153]]).run xT W
   = .ok (.tuple #[]) (W.setCells T 0 [.int .i64 c,.int .i64 k]):=by
 have G:(loadVar 123 ⟨b,0,none⟩).run xT W=.ok (.agg #[.int .i64 c,.int .i64 k]) W:=by
  have u:=run_loadCells_list (P:=xT) (w:=W) ⟨b,0,none⟩ [.int .i64 c,.int .i64 k] (λj v o=>by
   match j,o with
   |0,o=>cases o;simpa[Addr.add]using C
   |1,o=>cases o;simpa[Addr.add]using E)
  have hs:=sizeF W;simp[loadVar,isAgg,underlying,underlying123,Result.andThen,hs];simp only[wD,WB]at u;rw[u]
 have y:(storeVar 123 ⟨T,0,none⟩ (.agg #[.int .i64 c,.int .i64 k])).run xT W=.ok () (W.setCells T 0 [.int .i64 c,.int .i64 k]):=by
  have hs:=sizeF W;have F:=Go.run_storeCells_cells (P:=xT) T 0 [.int .i64 c,.int .i64 k] 0 W (λj o=>by
   match j,o with
   |0,_=>simpa using H
   |1,_=>simpa using I) (λj o=>by
   match j,o with
   |0,_=>simpa using A
   |1,_=>simpa using B) dK
  simp[storeVar,hs,Value.cells,Result.andThen];simpa using F
 rw[rls];simp only[tM,partsFa,partsF,Result.andThen];simp[ReflectliteValue.flagAddr,G,Result.andThen,directF,y]
end As
namespace As
open Go.RowKit Go.Extern.Stop Go.Stop Go.Extern
def noAs(v:Value)(j:TypeId)(w:World):(Instr.typeAssert (.iface 123 v) j 219 true).run xT w=.ok (.tuple #[.nilIface,.bool false]) w:=Tc Tryz.underlying219 dN dN v j w
def hasUw(v:Value)(j:TypeId)(w:World):(Instr.typeAssert (.iface 123 v) j 199 true).run xT w=.ok (.tuple #[.iface 123 v,.bool true]) w:=run_typeAssert_hasB Tryz.underlying199 dN v j w
def as_FN(c k:Int)(t:Addr)(y:Value)(w:World)(B:w.cell? ⟨1,0,none⟩=some (.iface 194 (.agg #[.pointer (some ⟨2,44,none⟩)])))(o:w.cell? t=some y)(A:w.frozen? t=false):
 Calls xT 57 #[.iface 123 (.agg #[.int .i64 c,.int .i64 k]),.iface 121 (.pointer (some t))] w λev P=>ev=.returned (.bool true)/\P=(((((w.alloc (.cells #[.pointer (some t)] 121)).alloc (.cells #[.pointer (some ⟨2,121,none⟩),.pointer (some ⟨w.heap.size,0,none⟩),.int .u64 150] 171)).alloc (.cells #[.pointer (some ⟨2,121,none⟩),.pointer (some ⟨w.heap.size,0,none⟩),.int .u64 150] 171)).alloc (.cells #[.int .i64 c,.int .i64 k] 123)).alloc (.cells #[.int .i64 c] 83)).setCell t (.int .i64 c):=by
 have V:=λa w=>xt0 a w;have X:=λa w=>xt1 a w;have Y:=λa w=>xt2 a w;have H:=λa w=>xt3 a w;have J:=λa w=>xt4 a w;have K:=λa w=>xt5 a w;have E:=λa w=>xt6 a w;have I:=λa w=>xt7 a w;have F:=λa w=>xt8 a w;have G:=λa w=>xt9 a w;have tO:=typeOfN;have tF:=typeOfF;have Q:=assignableFN;have mU:=methodUnwrap;have nA:=noAs;have Z:=hasUw;have mA:=methodAssignableTo;have a25:=assignableN;have O:=valueOfN;have T:=valueOfNp;have U:=typeNp;have mK:=methodKind;have mE:=methodElem;have mI:=methodImplements;have N:=kindNp;have k25:=kindN;have C:=elemNp;have M:=implementsN;have n8:=isNilNp ⟨w.heap.size,0,none⟩ t ((w.alloc (.cells #[.pointer (some t)] 121)).alloc (.cells #[.pointer (some ⟨2,121,none⟩),.pointer (some ⟨w.heap.size,0,none⟩),.int .u64 150] 171)) b8;have j:1<w.heap.size:=tz w ⟨1,0,none⟩ B;have L:((w.alloc (.cells #[.pointer (some t)] 121)).alloc (.cells #[.pointer (some ⟨2,121,none⟩),.pointer (some ⟨w.heap.size,0,none⟩),.int .u64 150] 171)).cell? ⟨1,0,none⟩=some (.iface 194 (.agg #[.pointer (some ⟨2,44,none⟩)])):=by rw[tA _ _ ⟨1,0,none⟩ (by rw[tE];exact uo j),tA _ _ ⟨1,0,none⟩ j];exact B
 have u:t.block<w.heap.size:=by
  rcases wO t.block w.heap.size with h|h
  .exact h
  .simp[World.cell?,ue h]at o
 have S:=elemVNp ⟨w.heap.size,0,none⟩ t ((((w.alloc (.cells #[.pointer (some t)] 121)).alloc (.cells #[.pointer (some ⟨2,121,none⟩),.pointer (some ⟨w.heap.size,0,none⟩),.int .u64 150] 171)).alloc (.cells #[.pointer (some ⟨2,121,none⟩),.pointer (some ⟨w.heap.size,0,none⟩),.int .u64 150] 171)).alloc (.cells #[.int .i64 c,.int .i64 k] 123)) (by rw[tA _ _ ⟨w.heap.size,0,none⟩ b7,tA _ _ ⟨w.heap.size,0,none⟩ b7];simp);have st:=setN t ⟨w.heap.size+1+1+1+1,0,none⟩ c y (((((w.alloc (.cells #[.pointer (some t)] 121)).alloc (.cells #[.pointer (some ⟨2,121,none⟩),.pointer (some ⟨w.heap.size,0,none⟩),.int .u64 150] 171)).alloc (.cells #[.pointer (some ⟨2,121,none⟩),.pointer (some ⟨w.heap.size,0,none⟩),.int .u64 150] 171)).alloc (.cells #[.int .i64 c,.int .i64 k] 123)).alloc (.cells #[.int .i64 c] 83))
  (by rw[Ta _ _ _ _ b8];rfl)
  (by rw[tA _ _ t b7,tA _ _ t b7,tA _ _ t b7,tA _ _ t b7,tA _ _ t u];exact o)
  (by rw[tJ _ _ t b7,tJ _ _ t b7,tJ _ _ t b7,tJ _ _ t b7,tJ _ _ t (Uv u)];exact A)
 go_enter func57,ntmps57
 go_wp2;refine Tq 2 ?_;rw[Td]
 go_wp2;rw[Td]
 go_wp2;go_ret;exact⟨rfl,rfl⟩
end As
section
def zdd{f:XE}{a b:List En}:∀e∈ks f a b,e.rep∈srt (zM a++zM b):=λe j=>by unfold ks at j;obtain⟨r,o,h⟩:=uk.1 j;rw[(xz h).2.2];exact o
def BV(n h:Nat)(v:List En):Prop:=zsC v/\v.length<=n/\∀e∈v,e.holes.length<=h
def ji{n h:Nat}{v:List En}(j:BV n h v)(r:Nat):(zT v r).length<=2*h+3:=by
 unfold zT;cases hf:v.find? (λe=>e.rep == r)with
 |none=>simp
 |some e=>have o:=j.2.2 e (uL hf);have u:=kW e;simp only;omega
def BV.mono{n h m k:Nat}{v:List En}(j:BV n h v)(o:n<=m)(u:h<=k):BV m k v:=⟨j.1,V3 j.2.1 o,λe w=>V3 (j.2.2 e w) u⟩
def zl9(r c:Nat):List En:=[(Qi r [⟨c,c⟩]).1]
def zmc{c:Nat}(j:c<zk):Nrm [⟨c,c⟩]:=⟨vj _,Zp _,j,trivial⟩
def zkS{r c:Nat}(u:r<zk)(o:c<zk):CanV (zl9 r c):=⟨λe j=>by
 simp only[zl9,wK]at j;subst j;exact zak u (zmc o) b8,by simp[zl9]⟩
def zoD{r c:Nat}(u:r<zk)(o:c<zk):BV 1 5 (zl9 r c):=⟨(zkS u o).right,Zp _,λe j=>by
 simp only[zl9,wK]at j;subst j;have:=J0 r [⟨c,c⟩];simpa using this⟩
def zoE{r c:Nat}(u:r<zk)(o:c<zk)(x:Nat):zT (zl9 r c) x=if r=x then [⟨c,c⟩] else []:=by
 have j:(Qi r [⟨c,c⟩]).1.rep=r:=by rw[qD b8]
 unfold zl9;rw[qm,j,knV_nil,JO u (zmc o) b8]
end
section
open Go.RowKit
def wpList_append_copy{w:World}{O:Array Oper}{rest:List Oper}{o:Oper}{a:Act}{Q:Exit->Act->World->Prop}(L:o.guard=none)(s x:Operand)
 (ho:o.op=.call { callee:=.builtin .append,args:=#[s,x],argTypes:=#[24,24] }) (i:TypeInfo) (z:Value) (y:Nat)
 (hi:xT.info? 64 = some i) (hz:i.zero=some z) (G:i.size=2) (Y:i.bytes=y) (X:y<=64) (hzs:z.cells.size=2)
 (B:Nat) (hs:a.eval s=.slice (some ⟨B,0,none⟩) 0 0) (hB:w.heap[B]?=some (.cells #[] 64 (0,0))) (N:Nat) (ac:N<=B)
 {v:Value} {l:List Iv} (hx:a.eval x=v) (hr:RdR 0 w.heap.size w v l) (hl:l.length<=1099511627776)
 (h:∀T S,OwnR N S T l->Below B w S->wpList xT O Q rest (a.put o.dst T) S) :
 wpList xT O Q (o::rest) a w:=by
 have af:B<w.heap.size:=(Y1.1 hB).1;have A:w.ownsRow N 64 2 (.slice (some ⟨B,0,none⟩) 0 0) 0 []:=⟨rfl,.inr ⟨B,0,#[],rfl,ac,hB,Zp _,dE,rfl,rfl⟩⟩;have I:=hr.bound;obtain⟨U,V,rfl,ah,ag,Z⟩:=hr;cases U with
 | none=>
   obtain rfl:l=[]:=by
    cases l with
    |nil=>rfl
    |cons s l=>obtain⟨b,C,e,_⟩:=Z b8;cases e
   refine T1 L λK hK=>?_;have E:OwnR N w (.slice (some ⟨B,0,none⟩) 0 0) []:=⟨A,b8⟩;have hq:=hK _ _ (h _ _ E (tB _ _));clear A Z I h hK E;simp only[WB]at hx;unfold Oper.wp execOp;simp only[ho,resolve,invoke,builtin,tM,tP,tH,ul,WC,uf,hs,hx];go_simp;exact hq
 | some U=>
   refine Tk (P:=xT) w L s x 24 ho N 64 i z 2 y underlying24 hi hz G Y hzs dE _ 0 [] hs A U l.length V (xw l) hx (y6 l) ?_ ?_ dG ?_ b6 ?_
   .intro j u M;have ab:j<l.length*2:=by
     have:=(ZZ.1 M).1
     rwa[y6]at this
    have ae:l≠[]:=(by intro e;subst e;simp at ab);obtain⟨b,C,e,_,_,F⟩:=Z ae;cases e;have H:(⟨b,C,none⟩:Addr).add j=⟨b,C+j,none⟩:=by unfold Addr.add;split<;>simp_all
    rw[H];have hk:j/2<l.length:=b6;obtain⟨g1,g2,_⟩:=F (j/2) hk;obtain⟨f1,f2⟩:=vz l (j/2) hk;rcases UV j with h0|h0
    .have e:j/2*2=j:=b6;rw[e]at g1 f1;rw[f1]at M;cases M;exact g1
    .have e:j/2*2+1=j:=b6;rw[show C+j/2*2+1=C+j from by omega]at g2;rw[e]at f2;rw[f2]at M;cases M;exact g2
   .intro u hu;simp[xw]at hu;obtain⟨s,_,rfl|rfl⟩:=hu<;>rfl
   .calc (0+l.length)*y<=1099511627776*64:=UW b6 X
     _<=140737488355328:=dE
   .intro T S ho J _ hv;refine h T S ⟨?_,I⟩ ⟨J.os,J.tape,J.output,J.size,λk hk=>J.block k b6 (by simp[Value.ownBlock];omega)⟩;simpa using ho
def zff(b:Addr)(n c:Nat)(w:World):(binOp .eql 24 (.slice (some b) n c) (.slice none 0 0)).run xT w=.ok (.bool false) w:=dN
def zqL(n c:Nat)(w:World):(binOp .eql 24 (.slice none n c) (.slice none 0 0)).run xT w=.ok (.bool true) w:=dN
def zeX{w:World}{v:Value}{l:List Iv}(H:RdR 0 w.heap.size w v l)(O:l.length<=1099511627776):
 Calls xT 64 #[v] w λe G=>∃C,e=.returned C/\OwnR w.heap.size G C l/\Below w.heap.size w G:=by
 obtain⟨S,u,y,A,B⟩:=tV Tryz.infoIv;have L:=qL H;obtain⟨a,o,rfl,M,N,E⟩:=H;cases a with
 | none=>
   have I:=qL (show l=[] from wY λP=>by obtain⟨b,T,e,_⟩:=E P;cases e);have Q:=zqL l.length o;clear M N E u y A B;go_enter func64,ntmps64
   go_wp2;go_ret;exact⟨_,rfl,by rw[I.o];exact OwnR.nil _ _,tB _ _⟩
 | some b=>
   clear E;have J:qA (RdR 0 (w.alloc (.cells #[] 64)).heap.size (w.alloc (.cells #[] 64)) (.slice (some b) l.length o) l):=qL (L.o.keep (Zp _) b8 λj _ h=>tC _ _ _ h);have K:=tx w (.cells #[] 64 (0,0));have Q:=zff b l.length o;go_enter func64,ntmps64
   go_wp2_with (at_builtin;refine wpList_append_copy rfl _ _ rfl S (.agg #[.int .u64 0,.int .u64 0]) 16 u y A B dE rfl w.heap.size rfl K w.heap.size (Zp _) rfl J.o O ?_;intro C G ho F)
   go_ret;exact⟨C,rfl,ho,((tB _ w).alloc (Zp _) (.cells #[] 64 (0,0))).trans F⟩
end
section
open Go.RowKit
instance kpoW:Pl.Kpo World:=⟨Keep qe,λw=>Keep.refl _ w,λ_ _ _ h k=>h.trans k⟩
namespace Pl
variable {Ω:Type}[Kpo Ω]
def walkE_mono{j:Oper->Act->Ω->(Act->Ω->Prop)->Prop}{a0:Act}{w0:Ω}{C:Ω->Prop}{E u:List (Option Tmp×VP Ω)->Prop}(w:∀env,E env->u env):∀(l:List Oper)(env:List (Option Tmp×VP Ω)),walkE j a0 w0 C E l env->walkE j a0 w0 C u l env
 |[],env,h=>w env h
 |o::l,env,⟨V,h1,h2,h3⟩=>⟨V,h1,h2,walkE_mono w l _ h3⟩
omit [Kpo Ω] in
def finG_mono{F j:Act->Ω->Prop}{w:Ω}(hF:∀a w,F a w->j a w):∀(env:List (Option Tmp×VP Ω))(a:Act),finG F w env a->finG j w env a
 |[],a,h=>hF a w h
 |(none,_)::r,a,h=>finG_mono hF r a h
 |(some d,V)::r,a,h=>λu o=>finG_mono hF r _ (h u o)
section
variable {P:Program}{Q:Exit->Act->World->Prop}{a0:Act}{w0:World}{C:World->Prop}{E:List (Option Tmp×VP World)->Prop}{l:List Oper}{o:Oper}{env:List (Option Tmp×VP World)}{f:Nat->Nat}
def wdetK(v:Value)(B:o.guard=none)(h:∀a w,C w->Keep qe w0 w->Rds env a0 (zA o) a w->(execOp a.eval o).run P w=.ok (.value v) w)
 (F:walkE (xC P Q) a0 w0 C E l (env++[(o.dst,λu _=>u=v)])):walkE (xC P Q) a0 w0 C E (jA f o::l) env:=
 ⟨λu _=>u=v,λ_ _ _ h _=>h,by
  have j:(jA f o).guard=none:=(by simp[jA,B]);unfold stepOk;rw[j];intro a w y hk G K A;show (jA f o).wp P a w K Q;rw[Xq];show o.upon P a K Q ((execOp a.eval o).run P w);rw[h a w y hk G];exact A v w (Keep.refl _ _) y rfl,F⟩
def wgenK(V:VP World)(hs:∀u w y,V u w->Keep qe w y->V u y)(F:o.guard=none)
 (h:headOk (xC P Q) a0 w0 C env o V) (G:walkE (xC P Q) a0 w0 C E l (env++[(o.dst,V)])):walkE (xC P Q) a0 w0 C E (jA f o::l) env:=
 ⟨V,hs,by
  have j:(jA f o).guard=none:=(by simp[jA,F]);unfold stepOk;rw[j];intro a w B hk H K A;show (jA f o).wp P a w K Q;rw[Xq];exact h a w B hk H K A,G⟩
end
end Pl
def znC{P:Program}{id:Nat}{l:List Oper}{Q:Exit->Act->World->Prop}{a:Act}{w:World}(σ:List Nat)(y nt:Nat)(C:World->Prop)(hm:P.follows .mixedOrders=true)(hp:q9 l.length σ=true)
 (X:(zck (z8 l σ).toArray y 1 nt && yK (z8 l σ).toArray (y+1))=true) (ad:a.tmps.size=nt) (hC:C w.drew) (j u:Oper) (hcut:(z8 l σ)[y+1]?=some j) (O:(z8 l σ)[y]?=some u) (ac:j.guard=none) (S:u.guard=none) (I:List Oper) (N:(z8 l σ).drop (y+2)=I)
 (h:Pl.walkE (xC P Q) a w.drew C (λenv=>(∀A,C A->Keep qe w.drew A->Pl.finG (λa w=>wpList P (z8 l σ).toArray Q (j::I) a w) A env a)/\∀A,C A->Keep qe w.drew A->Pl.finG (λa w=>j.wp P a w (λa w=>wpList P (z8 l σ).toArray Q (u::I) a w) Q) A (env.take y) a) ((z8 l σ).take (y+1)) []):(Code.region id l.toArray true).wp P Q a w:=by
 refine TX hm ?_;refine xd hp ?_;generalize z8 l σ=L at *;rw[wh]at X;obtain⟨ae,U,hR,H,B,G⟩:=KI X.1;have hs:y+2<=L.length:=dM U
 have ab:L.drop (y+1)=j::I:=by rw[V1 b6,N];rw[Zv b6]at hcut;rw[wH hcut]
 obtain⟨V,F⟩:∃V:Nat->Act->World->Prop,V=λc=>match c with|0=>wpList P L.toArray Q (u::I)|_=>wpList P L.toArray Q I:=⟨_,rfl⟩
 refine Pl.greadyC (Ω:=World) (ops:=L.toArray) (nh:=y) (r:=1) (a0:=a) (w0:=w.drew) (C:=C) rfl (xC P Q) (wpOp P L.toArray Q) (wpAny P .any L.toArray Q) (λa w=>Q .normal a w) (λk a w=>wpList P L.toArray Q (L.drop k) a w)
  ?_ (λi K K' a w hk hs=>Tz hk hs) (λE a w J M=>⟨J,M⟩) (λaf E a w J M=>⟨J,M⟩) ?_ ?_ ae hR H B G X.2 U V ?_ ?_ ad hC (Pl.walkE_mono ?_ _ _ h)
 .intro i o K a w ho hs;unfold wpOp;simp only[ho];split
  .rename_i hw;rw[VS hw]at hs;exact .inl hs
  .rename_i hw;rw[V2 hw]at hs;exact hs
 .intro k a w hk ht;have T:k<L.length:=(dM hk);simp only[V1 T,wpList]at ht;unfold wpOp;simp only[wL,Zv T];exact ht
 .intro a w ht;simpa[wpList]using ht
 .intro c a w Z ht;obtain rfl:c=0:=b6;rw[F]at ht⊢;simp only[wpList,VS (show Region.wanted u (yielded L.toArray a.tmps)=true by simp[Region.wanted,S])]at ht;unfold wpOp;simp only[wL,uj,O];rw[VS (show Region.wanted u (yielded L.toArray a.tmps)=true by simp[Region.wanted,S])];exact ht
 .intro a w ht;rw[F]at ht;show wpList P L.toArray Q (L.drop (y+2)) a w;rw[N];exact ht
 .rintro env ⟨J,M⟩;refine⟨λA Z hk=>?_,λc Z A Y hk=>?_⟩
  .rw[ab];exact J A Z hk
  .obtain rfl:c=0:=b6;refine Pl.finG_mono (λa w h=>?_) _ _ (M A Y hk);unfold wpOp;simp only[wL,hcut];rw[VS (show Region.wanted j (yielded L.toArray a.tmps)=true by simp[Region.wanted,ac]),F];exact .inl h
end
section
open Go.RowKit
attribute [local go_sem] Oper.semAt_some
abbrev Sv:=Option Addr×Nat×Nat
abbrev Fv:=Sv×Sv
def sv(x:Sv):Value:=.slice x.1 x.2.1 x.2.2
def Y4(p:Nat×Fv):Array Value:=#[.int .i64 (p.1:Nat),.agg #[sv p.2.1,sv p.2.2]]
def wl(j:Nat->Bool):Nat->List Fv->List (Nat×Fv)
 |_,[]=>[]
 |n,f::r=>if j n=true then (n,f)::wl j (n+1) r else wl j (n+1) r
def Kw(j:Nat->Bool):∀(l r:List Fv)(n:Nat),wl j n (l++r)=wl j n l++wl j (n+l.length) r
 |[],r,n=>by simp[wl]
 | f::l,r,n=>by
   have:=Kw j l r (n+1);rw[Yf,wl,wl,this,wD,show n+1+l.length=n+(l.length+1) by omega];split<;>simp
def XF{hit:Nat->Bool}{l:List Fv}{k:Nat}(h:k<l.length):wl hit 0 (l.take (k+1))=wl hit 0 (l.take k)++(if hit k=true then [(k,l[k])] else []):=by rw[vw h,Kw,Wi,ud b6,wy];simp[wl]
def zi8{j:Nat->Bool}{l:List Fv}{k:Nat}(h:k<l.length)(u:j k=true):wl j 0 (l.take k)++[(k,l[k])] <+: wl j 0 l:=by
 have o:=XF (hit:=j) h;rw[VS u]at o;rw[<-o]
 conv=>rhs;rw[<-Wh (k+1) l,Kw]
 exact List.prefix_append _ _
def PtF(w o j:Nat)(A B:World):Prop:=A.heap.size<=B.heap.size/\∀k,k<A.heap.size->(k<w\/k=o\/k=j\/∃u f,A.heap[k]?=some (.cells u 50 f))->B.heap[k]?=A.heap[k]?
def zeF(A:Nat)(w:World)(y:Option Addr)(o:Nat)(u:List Fv):Prop:=u.length<=o/\o<=maxLen/\(u≠[]->∃b j,y=some ⟨b,j,none⟩/\b<A/\∀i (h:i<u.length),w.cell? ⟨b,j+i*2,none⟩=some (sv u[i].1)/\w.cell? ⟨b,j+i*2+1,none⟩=some (sv u[i].2))
def zew(y:List Fv)(B:Nat->Bool)(av:Option Addr)(af Bk ok G oi P item:Nat)(H:World)(ao:zeF P H av af y)
 (aj:H.cell? ⟨Bk,ok,none⟩=some (.slice av y.length af)) (ai:H.cell? ⟨G,oi,none⟩=some (.int .u64 (item:Nat))) (an:P<=H.heap.size)
 (O:∀(w:World)(i:Nat)(h:i<y.length),(∀k,k<P->w.heap[k]?=H.heap[k]?)->P<=w.heap.size->Calls xT 38 #[sv y[i].1,.int .u64 (item:Nat)] w λe w'=>e=.returned (.bool (B i))/\Below w.heap.size w w') :
 v7 xT 89 #[.pointer (some ⟨Bk,ok,none⟩),.pointer (some ⟨G,oi,none⟩)] Y4 (λ_=>False) (PtF P Bk G) (wl B 0 y) H:=by
 intro l J Jx hJ ag hY h0;refine callsIn_wide.2 ?_;show Calls xT 89 #[.func (.yield l) #[] #[],.pointer (some ⟨Bk,ok,none⟩),.pointer (some ⟨G,oi,none⟩)] H _;have HJ:=qL hJ;have aB:=qL ag;have HY:=qL hY;have HH:=qL O;obtain⟨aC,ax,E⟩:=ao;have S:=qL E;unfold maxLen at ax;have aw:=aj;clear hJ ag hY O E;go_enter func89,ntmps89
 go_wp2_with fail
 go_loopg [8] y.length (λg x wr=>∃k:Nat,k<=y.length/\g=y.length-k/\x=.int .i64 k/\J (wl B 0 (y.take k)) wr/\(∀j,j<P->wr.heap[j]?=H.heap[j]?)/\wr.cell? ⟨G,oi,none⟩=some (.int .u64 (item:Nat))/\P<=wr.heap.size)
 case atStart=>exact⟨0,vj _,rfl,rfl,by simpa[wl]using h0,λ_ _=>rfl,ai,an⟩
 case round=>
  obtain⟨k,hk,rfl,rfl,I,A,L,ay⟩:=hrel;clear h0 aw aj ai an;by_cases u:k<y.length
  .obtain⟨b,M,au,ak,N⟩:=S.o (λe=>by rw[e]at u;simp at u);subst au;obtain⟨c0,c1⟩:=N k u;have U:=XF (hit:=B) u;have F:B k=true->_:=zi8 u;have hH:=λw=>HH.o w k u;obtain⟨⟨⟨a0,Z,q0⟩,⟨X,m1,q1⟩⟩,hf⟩:∃f,f=y[k]:=⟨_,rfl⟩;rw[<-hf]at c0 c1 U F;simp only[<-hf]at hH;simp only[sv]at c0 c1 hH;have d0:wr.cell? ⟨b,M+k*2,none⟩=some (.slice a0 Z q0):=(tw (a:=⟨b,M+k*2,none⟩) (A b ak)).trans c0;have d1:wr.cell? ⟨b,M+k*2+1,none⟩=some (.slice X m1 q1):=(tw (a:=⟨b,M+k*2+1,none⟩) (A b ak)).trans c1;have e0:(wr.alloc (.cells #[.slice a0 Z q0,.slice X m1 q1] 50 (0,0))).cell? ⟨G,oi,none⟩=some (.int .u64 (item:Nat)):=(tw (a:=⟨G,oi,none⟩) (tC _ _ _ (tz _ _ L))).trans L;have ae:=qL U;have HP:=qL F;have C:=qL A;have Q:=qL L;have ab:=qL hH;have ac:=qL I;clear N U F A L hH c0 c1 hf I;have ad:qA (∀j,j<P->(wr.alloc (.cells #[.slice a0 Z q0,.slice X m1 q1] 50 (0,0))).heap[j]?=H.heap[j]?):=qL λj Y=>(tC _ _ _ b6).trans (C.o j Y);go_upto_region 3 with fail;refine(TC (n:=8)).1 ?_;cases hh:B k with
   | false=>
     gi_wp2_with (refine⟨trivial,?_⟩;gi_at_call 38;refine(callsIn_wide.2 (ab.o _ ad.o b7)).mono ?_;rw[hh];rintro e V ⟨rfl,K⟩)
     refine⟨λ_ h=>(by cases h),?_⟩
     gi_wp2
     go_wp2;go_roundg (y.length-(k+1));case measure=>omega
     case rel=>have o:Keep (λ_=>False) wr V:=((Keep.refl _ _).alloc _).trans (Keep.of_below' K (Zp _));refine⟨k+1,u,rfl,b8,?_,λj Y=>(o.block j b6 id).trans (C.o j Y),o.cell_some Q.o id,V3 ay o.size⟩;rw[ae.o,hh];simp only[uI,U5,We];exact HJ.o _ _ _ ac.o o
   | true=>
     gi_wp2_with (refine⟨trivial,?_⟩;gi_at_call 38;refine(callsIn_wide.2 (ab.o _ ad.o b7)).mono ?_;rw[hh];rintro e V ⟨rfl,K⟩
                  have o:Keep (λ_=>False) wr V:=((Keep.refl _ _).alloc _).trans (Keep.of_below' K (Zp _));have am:V.heap[wr.heap.size]?=some (.cells #[.slice a0 Z q0,.slice X m1 q1] 50 (0,0)):=(K.block _ b8).trans (tx _ _);have x0:V.cell? ⟨wr.heap.size,0,none⟩=some (.slice a0 Z q0):=(by simp[World.cell?,am]);have x1:V.cell? ⟨wr.heap.size,1,none⟩=some (.slice X m1 q1):=(by simp[World.cell?,am]);obtain⟨fn,aA,aq,az,hy,hR⟩:=HY.o _ (k,((a0,Z,q0),(X,m1,q1))) V (HJ.o _ _ _ ac.o o) (HP.o hh);simp only[Y4,sv]at hy)
     refine hR.mono ?_;rintro e w3 (⟨rfl,ar,T⟩|⟨rfl,ah⟩)
     .gi_wp2
      go_wp2;go_roundg (y.length-(k+1));case measure=>omega
      case rel=>refine⟨k+1,u,rfl,b8,?_,λj Y=>(T.2 j (by have:=o.size;omega) (.inl Y)).trans ((o.block j b6 id).trans (C.o j Y)),(tw (a:=⟨G,oi,none⟩) (T.2 G (Vq (tz _ _ Q.o) o.size) (.inr (.inr (.inl rfl))))).trans (o.cell_some Q.o id),by have:=o.size;have:=T.1;omega⟩;rw[ae.o,hh];simpa using ar
     .gi_wp2
      go_wp2;refine tI (tS rfl _ _ _) rfl ?_;exact⟨⟨_,rfl⟩,.inr ⟨_,HP.o hh,ah⟩⟩
  .obtain rfl:k=y.length:=b6
   go_wp2_with fail
   go_end0
   rw[Wt]at I;exact⟨⟨_,rfl⟩,.inl I⟩
attribute [local go_sem] Oper.semAt_some
def zex(a:Option Addr)(n c item:Nat)(w:World):Calls xT 47 #[.slice a n c,.int .u64 (item:Nat)] w λe j=>e=.returned (.func (.func 89) #[] #[.pointer (some ⟨w.heap.size,0,none⟩),.pointer (some ⟨w.heap.size+1,0,none⟩)])/\j=(w.alloc (.cells #[.slice a n c] 41)).alloc (.cells #[.int .u64 (item:Nat)] 36):=by
 go_enter func47,ntmps47
 go_wp2;go_ret;exact⟨rfl,rfl⟩
def znR{α:Type}{q:α->Bool}{l j:List α}(h:l <+: j)(o:l.any q=true):j.any q=true:=by obtain⟨r,rfl⟩:=h;rw[UN,o];rfl
def SH(n:Nat)(A B:World):Prop:=(∃v,Boxed A n 4 v)/\Keep (λk=>k=n) A B
def SH.pt{n C y w:Nat}{A B:World}(h:SH n A B)(I:C<=n)(E:y≠n)(F:w≠n):PtF C y w A B:=by
 obtain⟨⟨v,G⟩,hk⟩:=h;refine⟨hk.size,λk o j=>hk.block k o ?_⟩;rintro rfl;rcases j with j|j|j|⟨H,f,j⟩
 .omega
 .exact E j.symm
 .exact F j.symm
 .have u:A.heap[k]?=some (.cells #[v] 4 (0,0)):=G;rw[u]at j;cases j
def zn5(O:Option Addr)(T P item r c:Nat)(xs:List (Nat×Fv))(q:Nat×Fv->Bool)(w:World)
 (hit:∀W,(∀k,k<w.heap.size->W.heap[k]?=w.heap[k]?)->w.heap.size+5<=W.heap.size->W.cell? ⟨w.heap.size+3,0,none⟩=some (.slice O T P)->W.cell? ⟨w.heap.size+4,0,none⟩=some (.int .u64 (item:Nat)) ->
   v7 xT 89 #[.pointer (some ⟨w.heap.size+3,0,none⟩),.pointer (some ⟨w.heap.size+4,0,none⟩)] Y4 (λ_=>False) (PtF w.heap.size (w.heap.size+3) (w.heap.size+4)) xs W)
 (Q:∀W p,p∈xs->Below w.heap.size w W->Calls xT 48 #[sv p.2.2,.int .u64 (r:Nat),.int .u64 (c:Nat)] W λe W'=>e=.returned (.bool (q p))/\Below W.heap.size W W') :
 Calls xT 18 #[.slice O T P,.int .u64 (item:Nat),.int .u64 (r:Nat),.int .u64 (c:Nat)] w λe w'=>e=.returned (.bool (xs.any q))/\Below w.heap.size w w':=by
 have ae:=qL hit;have HH:=qL Q;clear hit Q;refine callsIn_wide.1 (Tg (n:=9) func18 rfl trivial ?_ rfl);simp only[ntmps18,WE,wD,WB,Nat.reduceAdd,Nat.reduceSub,uA,uB,uO,uE,XV,Yf]
 gi_wp2_with (refine⟨trivial,?_⟩;gi_at_call 47;refine(callsIn_wide.2 (zex _ _ _ _ _)).mono ?_;rintro e w' ⟨rfl,rfl⟩)
 obtain⟨y,F⟩:=xt ((((((w.alloc (Obj.cells #[.int .u64 (r:Nat)] 36)).alloc (Obj.cells #[.int .u64 (c:Nat)] 36)).alloc (Obj.cells #[.bool false] 4)).alloc (Obj.cells #[.slice O T P] 41)).alloc (Obj.cells #[.int .u64 (item:Nat)] 36)));have ag:y.heap.size=w.heap.size+5:=by rw[<-F];simp
 have b0:Boxed y w.heap.size 36 (.int .u64 (r:Nat)):=by rw[<-F];exact((((t8 w _ _).alloc _).alloc _).alloc _).alloc _
 have b1:Boxed y (w.heap.size+1) 36 (.int .u64 (c:Nat)):=by rw[<-F];have:=t8 (w.alloc (Obj.cells #[.int .u64 (r:Nat)] 36)) 36 (.int .u64 (c:Nat));rw[tE]at this;exact((this.alloc _).alloc _).alloc _
 have b2:Boxed y (w.heap.size+2) 4 (.bool false):=by rw[<-F];have:=t8 ((w.alloc (Obj.cells #[.int .u64 (r:Nat)] 36)).alloc (Obj.cells #[.int .u64 (c:Nat)] 36)) 4 (.bool false);simp only[tE]at this;exact(this.alloc _).alloc _
 have b3:Boxed y (w.heap.size+3) 41 (.slice O T P):=by rw[<-F];have:=t8 (((w.alloc (Obj.cells #[.int .u64 (r:Nat)] 36)).alloc (Obj.cells #[.int .u64 (c:Nat)] 36)).alloc (Obj.cells #[.bool false] 4)) 41 (.slice O T P);simp only[tE]at this;exact this.alloc _
 have b4:Boxed y (w.heap.size+4) 36 (.int .u64 (item:Nat)):=by rw[<-F];have:=t8 ((((w.alloc (Obj.cells #[.int .u64 (r:Nat)] 36)).alloc (Obj.cells #[.int .u64 (c:Nat)] 36)).alloc (Obj.cells #[.bool false] 4)).alloc (Obj.cells #[.slice O T P] 41)) 36 (.int .u64 (item:Nat));simp only[tE]at this;exact this
 have ab:Below w.heap.size w y:=by rw[<-F];exact(((((tB _ _).alloc (Zp _) _).alloc b8 _).alloc b7 _).alloc b7 _).alloc b7 _
 try simp only[tE]
 rw [F];clear F;refine Xt (w:=y) 89 #[.pointer (some ⟨w.heap.size+3,0,none⟩),.pointer (some ⟨w.heap.size+4,0,none⟩)] rfl (enters_of func89 dN rfl) Y4 (λ_=>rfl)
  (λ_=>False) (PtF w.heap.size (w.heap.size+3) (w.heap.size+4)) xs ?hit
  (SH (w.heap.size+2)) (λA B h k hk L=>h.2.block k L b6) (λA B h=>h.pt b6 b6 b6)
  ?hPt ?hPt0 ⟨id,id⟩
  (λpre W=>Boxed W w.heap.size 36 (.int .u64 (r:Nat))/\Boxed W (w.heap.size+1) 36 (.int .u64 (c:Nat))/\Boxed W (w.heap.size+2) 4 (.bool false)/\Below w.heap.size w W/\qA (pre.any q=false))
  (λcd pre W=>cd=.ret/\Boxed W (w.heap.size+2) 4 (.bool true)/\Below w.heap.size w W/\qA (pre.any q=true)) ?hI ?hIx ⟨b0,b1,b2,ab,qL rfl⟩
  (λpre x a' W=>(Boxed W w.heap.size 36 (.int .u64 (r:Nat))/\Boxed W (w.heap.size+1) 36 (.int .u64 (c:Nat))/\Boxed W (w.heap.size+2) 4 (.bool false)/\Below w.heap.size w W/\qA (pre.any q=false)) /\
    ∃U,W.heap[U]?=some (.cells #[sv x.2.1,sv x.2.2] 50 (0,0))/\y.heap.size+2<=U /\
    a'={ tmps:=#[.slice O T P,.int .u64 (item:Nat),.int .u64 (r:Nat),.int .u64 (c:Nat),undef,undef,.pointer (some ⟨w.heap.size,0,none⟩),.pointer (some ⟨w.heap.size+1,0,none⟩),.pointer (some ⟨w.heap.size+2,0,none⟩),undef,.pointer (some ⟨U,0,none⟩),.slice O T P,.int .u64 (item:Nat),.func (.func 89) #[] #[.pointer (some ⟨w.heap.size+3,0,none⟩),.pointer (some ⟨w.heap.size+4,0,none⟩)],.int .i64 (x.1:Nat),.agg #[sv x.2.1,sv x.2.2],undef,undef,undef,undef,undef],defers:=[] })
  ?hAx ?hassign ?hbody ?hdone ?hstop
 case hit=>intro W hk af;exact ae.o W (λk h=>(hk.block k b6 id).trans (ab.block k h)) b6 (hk.boxed b3 id).cell (hk.boxed b4 id).cell
 case hPt=>
  rintro A B C ⟨H,K⟩ ⟨j,u⟩;refine⟨V3 H j,λk hk G=>?_⟩;have e1:=K k hk G;refine(u k b6 ?_).trans e1;rcases G with G|G|G|⟨cs,f,G⟩
  .exact .inl G
  .exact .inr (.inl G)
  .exact .inr (.inr (.inl G))
  .exact .inr (.inr (.inr ⟨cs,f,by rw[e1];exact G⟩))
 case hPt0=>
  rintro A B hk ⟨o,ho⟩;refine⟨hk.size,λk L G=>hk.block k L ?_⟩;rintro rfl;rcases G with G|G|G|⟨cs,f,G⟩
  .omega
  .omega
  .omega
  .rw[ho]at G;cases G
 case hI=>rintro pre A B ⟨H,K,j,u,E⟩ V;have hk:Keep (λk=>k=y.heap.size\/k=y.heap.size+1) A B:=V.mono λ_ _ h=>h.elim False.elim id;exact⟨hk.boxed H b6,hk.boxed K b6,hk.boxed j b6,u.trans (hk.below u.size λk hk=>b6),E⟩
 case hIx=>rintro cd pre A B ⟨H,j,u,E⟩ V;have hk:Keep (λk=>k=y.heap.size\/k=y.heap.size+1) A B:=V.mono λ_ _ h=>h.elim False.elim id;exact⟨H,hk.boxed j b6,u.trans (hk.below u.size λk hk=>b6),E⟩
 case hAx=>rintro pre x a' A B ⟨⟨H,K,j,u,E⟩,U,h6,h7,rfl⟩ hk;exact⟨⟨hk.boxed H b6,hk.boxed K b6,hk.boxed j b6,u.trans (hk.below u.size λk hk=>b6),E⟩,U,hk.obj h6 b6,h7,rfl⟩
 case hassign=>
  rintro l pre ⟨i,⟨⟨x0,x1,x2⟩,⟨Y,Z,y2⟩⟩⟩ W X L hI;clear X;dsimp only[Y4,sv];have HX:=qL hI;clear hI
  gi_wp2
  obtain⟨H,K,j,u,E⟩:=HX.o;have N:∀o S,Keep S W (W.alloc o):=λo S=>(Keep.refl _ _).alloc _;exact⟨⟨⟨_,j⟩,N _ _⟩,⟨(N _ (λ_=>False)).boxed H id,(N _ (λ_=>False)).boxed K id,(N _ (λ_=>False)).boxed j id,u.alloc u.size _,E⟩,W.heap.size,tx W _,b6,rfl⟩
 case hbody=>
  rintro l pre ⟨i,⟨⟨x0,x1,x2⟩,⟨Y,Z,y2⟩⟩⟩ a' W X L ⟨⟨H,K,j,u,E⟩,U,h6,h7,rfl⟩;have hm:(i,((x0,x1,x2),(Y,Z,y2)))∈xs:=X.subset b8;have J:=HH.o W _ hm u;dsimp only[sv]at J h6⊢;have c0:=H.cell;have c1:=K.cell;have c3:W.cell? ⟨U,1,none⟩=some (.slice Y Z y2):=(by simp[World.cell?,h6]);have ad:(pre++[(i,((x0,x1,x2),(Y,Z,y2)))]).any q=q (i,((x0,x1,x2),(Y,Z,y2))):=(by rw[UN,E.o];simp);have HN:=qL ad;have HX:=qL (And.intro j u);have HY:=qL (And.intro H K);clear ad H K u E h6;cases hq:q (i,((x0,x1,x2),(Y,Z,y2)))with
  | true=>
    rw[hq]at J HN;have HS:=qL J;clear J hq j
    gi_wp2_with (refine⟨trivial,?_⟩;gi_at_call 48;refine(callsIn_wide.2 HS.o).mono ?_;rintro e W1 ⟨rfl,I⟩
                 have k1:Keep (λ_=>False) W W1:=Keep.of_below' I (Zp _);have j:=k1.boxed HX.o.1 id;have f3:=j.frozen;have d3:=j.cell)
    refine⟨⟨⟨_,HX.o.1⟩,(Keep.of_below' (S:=λk=>k=w.heap.size+2) I (Zp _)).setCell (p:=⟨w.heap.size+2,0,none⟩) (λ_=>rfl) _⟩,rfl,j.set _,(HX.o.2.trans (I.mono HX.o.2.size)).setCell b8 _,HN⟩
  | false=>
    rw[hq]at J HN;have HS:=qL J;clear J hq j
    gi_wp2_with (refine⟨trivial,?_⟩;gi_at_call 48;refine(callsIn_wide.2 HS.o).mono ?_;rintro e W1 ⟨rfl,I⟩)
    have k1:Keep (λ_=>False) W W1:=Keep.of_below' I (Zp _);exact⟨⟨⟨_,HX.o.1⟩,Keep.of_below' I (Zp _)⟩,k1.boxed HY.o.1 id,k1.boxed HY.o.2 id,k1.boxed HX.o.1 id,HX.o.2.trans (I.mono HX.o.2.size),HN⟩
 case hdone=>
  rintro W ⟨H,K,j,u,E⟩ hD;have c4:=j.cell;have f4:=j.frozen;have HX:=qL (And.intro j (And.intro u E.o));clear H K j u E
  gi_wp2
  obtain⟨j,u,E⟩:=HX.o;refine⟨b8,.inl ⟨_,_,rfl,Ti (by rw[tG _ _ _ _ b7];exact hD),?_⟩⟩;have M:Keep (λk=>k=w.heap.size+2\/k=y.heap.size) W ((W.setCell ⟨w.heap.size+2,0,none⟩ (.bool false)).putObj y.heap.size (.deferred none)):=((Keep.refl (λk=>k=w.heap.size+2\/k=y.heap.size) W).setCell (p:=⟨w.heap.size+2,0,none⟩) (λ_=>.inl rfl) _).putObj (λ_=>.inr rfl) _;have hr:((W.setCell ⟨w.heap.size+2,0,none⟩ (.bool false)).putObj y.heap.size (.deferred none)).cell? ⟨w.heap.size+2,0,none⟩=some (.bool false):=(by refine(tw ?_).trans (j.set (.bool false)).cell;exact tW (by show w.heap.size+2≠_;omega));refine⟨.bool false,by simp[results,Tryz.results18,go_sem,hr],?_,u.trans (M.below u.size λk hk=>b6)⟩;rw[E]
 case hstop=>
  rintro cd pre W ac ⟨rfl,j,u,E⟩ hD;have c4:=j.cell;have HX:=qL (And.intro j (And.intro u E.o));clear j u E
  gi_wp2
  obtain⟨j,u,E⟩:=HX.o;refine⟨b8,.inl ⟨_,_,rfl,Ti hD,?_⟩⟩;have M:Keep (λk=>k=y.heap.size) W (W.putObj y.heap.size (.deferred none)):=(Keep.refl (λk=>k=y.heap.size) W).putObj (λ_=>rfl) _;have hr:=(M.boxed j b6).cell;refine⟨.bool true,by simp[results,Tryz.results18,go_sem,hr],?_,u.trans (M.below u.size λk hk=>b6)⟩;rw[znR ac E]
def OwnI(base:Nat)(w:World)(v:Value)(j:List Nat):Prop:=w.ownsRow base 3 1 v j.length (j.map λx=>.int .i64 (x:Nat))
def OwnI.nil(base:Nat)(w:World):OwnI base w (.slice none 0 0) []:=tX _ _ _ _
def OwnI.keep{base:Nat}{S:Nat->Prop}{w w':World}{v:Value}{l:List Nat}(h:OwnI base w v l)(hb:Keep S w w')(hs:∀g,base<=g->g<w.heap.size->¬S g):OwnI base w' v l:=
 hb.ownsRow h λg j=>hs g (h.lt g j).1 (h.lt g j).2
def OwnI.shape{base:Nat}{w:World}{v:Value}{l:List Nat}(h:OwnI base w v l):∃j n c,v=.slice j n c:=by
 rcases h.2 with⟨rfl,_⟩|⟨g,o,u,rfl,_⟩
 .exact⟨_,_,_,rfl⟩
 .exact⟨_,_,_,rfl⟩
def Tryz.infoInt:(xT.info? 3).map (λi=>(i.zero,i.size,i.bytes))=some (some (Value.int .i64 0),1,8):=dN
def JY(base:Nat)(W:World)(v:Value)(l:List Nat)(i:Nat)(u w:Value)(o:OwnI base W v l)(B:base<=W.heap.size)(T:l.length<=1099511627776):
 Calls xT 193 #[v,.int .i64 (i:Nat),.agg #[u,w]] W λe L=>∃K,e=.returned K/\OwnI base L K (l++[i])/\Keep (λk=>base<=k/\∃O f,W.heap[k]?=some (.cells O 3 f)) W L:=by
 obtain⟨S,E,H,I,J⟩:=tV Tryz.infoInt;have y:=qL o;obtain⟨M,n,c,rfl⟩:=o.shape;clear o;go_enter func193,ntmps193
 have F:Keep (λ_=>False) W ((W.alloc (.cells #[u,w] 50)).alloc (.cells #[.int .i64 (i:Nat)] 3)):=((Keep.refl _ W).alloc _).alloc _;have G:((W.alloc (.cells #[u,w] 50)).alloc (.cells #[.int .i64 (i:Nat)] 3)).heap[W.heap.size+1]?=some (.cells #[.int .i64 (i:Nat)] 3 (0,0)):=by
  have:=tx (W.alloc (.cells #[u,w] 50)) (.cells #[.int .i64 (i:Nat)] 3)
  rwa[tE]at this
 have A:=qL (y.o.keep F λ_ _ _=>id)
 go_wp2_with (at_builtin;refine Tk _ rfl _ _ 223 rfl base 3 S (.int .i64 0) 1 8 underlying223 E H I J rfl dE _ _ _ rfl A.o ⟨W.heap.size+1,0,none⟩ 1 1 [.int .i64 (i:Nat)] rfl rfl (kw (cs:=#[.int .i64 (i:Nat)]) (t := 3) (fr:=(0,0)) G) dK dG b6 b7 ?_;intro K U ho C _ _)
 go_ret;refine⟨_,rfl,by unfold OwnI;simpa using ho,(((Keep.refl _ W).alloc _).alloc _).grown C λk hk _=>?_⟩;have j:(Value.slice M n c).ownBlock=some k:=hk;refine⟨(y.o.lt k j).1,?_⟩;rcases y.o.2 with⟨e,_⟩|⟨g,N,P,e,_,Q,_⟩
 .rw[e]at j;cases j
 .rw[e]at j;have:g=k:=(by simpa[Value.ownBlock]using j);subst this;exact⟨_,_,Q⟩
end
end Go.Proofs.YtjdjjlkifdimkaaGreatDoor
