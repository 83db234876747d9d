import Derived.Maps.OwnSet
import Derived.WideKeyEntry
import Derived.LoopN
import Derived.Test.YtbhngpjkakcgfaaGreatDoorB19
set_option maxHeartbeats 16000000
set_option linter.all false
set_option maxRecDepth 100000
namespace Go.Proofs.YtbhngpjkakcgfaaGreatDoor
def Tj:=@Go.results_tmp2
def TF:=@Go.MapKept.run_getObj_map
def TG:=@Go.MapKept.run_setObj_map
open Go.Proofs.Tryz renaming prog->xT
section
def Ji:∀(r j:List Nat),YN r->(∀y∈r,y∈j)->r.length<=j.length:=by
 intro r;induction r with
 |nil=>intro j _ _;exact X3 _
 | cons x r ih=>
   intro j h w;have u:=wi.1 h;have:=ih (j.erase x) u.2 λy B=>by have C:=u.1 y B;exact(WY a8).2 (w y (by simp[B]))
   have A:x∈j:=w x b6;rw[WG A]at this;have:=uh A;simp;omega
def Ed(l:List Iv)(x:Nat):Prop:=x<zk/\mem l x≠(if x=0 then false else mem l (x-1))
def NF.lo_prev:∀{l:List Iv}{n:Nat},NF n l->∀s∈l,s.lo≠0->mem l (s.lo-1)=false
 |[],_,_,s,hs,_=>by cases hs
 | t::l,n,h,s,hs,h0=>by
   obtain⟨u,w,y,j⟩:=h;rcases wh.1 hs with rfl|hs
   .rw[mem_cons,j.mem_lt a8,Wy (show ¬s.lo<=s.lo-1 by omega)];rfl
   .have:=j.lo_ge s hs;rw[mem_cons,NF.lo_prev j s hs h0,Wy (show ¬s.lo-1<=t.hi by omega)];simp
def NF.asc:∀{l:List Iv}{n:Nat},NF n l->YN (l.map Iv.lo)
 |[],_,_=>List.Pairwise.nil
 |t::l,n,h=>by refine wi.2 ⟨λy j=>?_,NF.asc h.2.2.2⟩;obtain⟨s,hs,rfl⟩:=wC.1 j;have:=h.2.2.2.lo_ge s hs;have:=h.2.1;omega
def zjS{l:List Iv}(h:Nrm l){s:Iv}(hs:s∈l):Ed l s.lo:=by
 have j:=NF.lo_ge h s hs;have u:mem l s.lo=true:=qf.2 ⟨s,hs,Zp _,j.2.1⟩;refine⟨a8,?_⟩;rw[u];split
 .simp
 .rename_i h0;rw[NF.lo_prev h s hs h0];simp
def zcK{l:List Iv}{C:List Nat}(h:Nrm l)(j:∀x,Ed l x->x∈C):l.length<=C.length:=by
 have:=Ji (l.map Iv.lo) C (NF.asc h) λy u=>by obtain⟨s,hs,rfl⟩:=wC.1 u;exact j _ (zjS h hs)
 simpa using this
def Y3{l:List Iv}(h:∀s∈l,s.lo<=s.hi/\s.hi<zk){x:Nat}(u:Ed l x):x∈z6 l:=by
 refine wU λj=>u.2 ?_;split
 .rename_i h0;subst h0;cases hm:mem l 0 with
  |false=>rfl
  |true=>obtain⟨s,hs,A,B⟩:=qf.1 hm;exact absurd (show 0∈z6 l from uk.2 ⟨s,hs,wh.2 (.inl a8)⟩) j
 .exact Qh h (x:=x-1) (y:=x) a8 u.1 λc w=>by have:c≠x:=λe=>j (e▸w);omega
def Nrm.ivs2{l:List Iv}(h:Nrm l):∀s∈l,s.lo<=s.hi/\s.hi<zk:=λs hs=>(NF.lo_ge h s hs).2
def zcM{f:Bool->Bool->Bool}(B:f false false=false){a b:List Iv}(A:Nrm a)(hb:Nrm b){x:Nat}(h:Ed (qy f a b) x):Ed a x\/Ed b x:=by
 obtain⟨u,j⟩:=h;by_cases w:mem a x=(if x=0 then false else mem a (x-1))
 .by_cases y:mem b x=(if x=0 then false else mem b (x-1))
  .refine absurd ?_ j;rw[qj A hb u,w,y];split
   .exact B
   .rw[qj A hb a8]
  .exact .inr ⟨u,y⟩
 .exact .inl ⟨u,w⟩
def zcL{x:Nat}:¬Ed [] x:=λh=>h.2 b6
def zhC{m n x:Nat}(h:Ed [⟨m,n⟩] x):x=m\/x=n+1:=by
 obtain⟨_,h⟩:=h;rw[jl,jl]at h;by_cases e1:x=m
 .exact .inl e1
 .by_cases e2:x=n+1
  .exact .inr e2
  .refine absurd ?_ h;split
   .rename_i h0;rw[Wy (show ¬m<=x by omega)];rfl
   .rw[WC];simp only[Vq,wG];omega
def EdV(C:Nat->List Nat)(v:List En):Prop:=∀r x,Ed (zT v r) x->x∈C r
structure IV(C:Nat->List Nat)(R:List Nat)(v:List En):Prop where
 right:zsC v
 ed:EdV C v
 rep:∀e∈v,e.rep∈R
structure WV(C:Nat->List Nat)(R:List Nat)(v:List En):Prop where
 can:CanV v
 ed:EdV C v
 rep:∀e∈v,e.rep∈R
variable {C C':Nat->List Nat}{R R':List Nat}{v a b:List En}
def WV.iv(h:WV C R v):IV C R v:=⟨h.can.right,h.ed,h.rep⟩
def WV.nil:WV C R []:=⟨⟨λe h=>(by cases h),List.Pairwise.nil⟩,λr x h=>absurd h (by rw[knV_nil];exact zcL),λe h=>(by cases h)⟩
def IV.mono(h:IV C R v)(j:∀r x,x∈C r->x∈C' r)(u:∀x∈R,x∈R'):IV C' R' v:=⟨h.right,λr x y=>j _ _ (h.ed r x y),λe w=>u _ (h.rep e w)⟩
def IV.lat{f:Bool->Bool->Bool}(y:f false false=false)(u:IV C R a)(hb:IV C R b):WV C R (ks f a b):=by
 refine⟨Xe f u.right hb.right,λr x A=>?_,λe B=>?_⟩
 .rw[JR y u.right hb.right]at A;rcases zcM y (qi u.right r) (qi hb.right r) A with h|h
  .exact u.ed r x h
  .exact hb.ed r x h
 .have:=qr.1 (zdd e B);rcases wE.1 this with h|h
  .obtain⟨w,j,h⟩:=wC.1 h;rw[<-h];exact u.rep w j
  .obtain⟨w,j,h⟩:=wC.1 h;rw[<-h];exact hb.rep w j
def IV.canVec(h:IV C R v):WV C R (zi v):=by refine⟨jN h.right,λr x A=>h.ed r x (by rwa[ja h.right]at A),λe y=>?_⟩;obtain⟨u,j,w⟩:=uf.1 y;rw[(v9 w).2.2];exact h.rep u j
def QY{e:En}(h:YP e){L:List Nat}(B:∀x,Ed (kn e) x->x∈L):e.holes.length<=L.length+2:=by
 have w:=ZM h;have y:=(jO h).1;have j:=qT h.1;rw[qD y]at w;have A:e.holes=qy zm [⟨0,QV (kn e)⟩] (kn e):=by have:=ud (λp=>p.1.holes) w;exact this.symm
 have ht:=(x9 j y).2;have u:=qG (X3 (QV (kn e))) ht;rw[A];have:=zcK (C:=0::(QV (kn e)+1)::L) (qH (f:=zm) u j) λx E=>by
  rcases zcM fM0 u j E with h|h
  .rcases zhC h with h|h<;>simp[h]
  .simp[B x h]
 simpa using this
def zb5(h:v.Pairwise λa b=>a.rep<b.rep):YN (zM v):=by unfold YN zM;rw[uv];exact h
def WV.bv(h:WV C R v){n m:Nat}(u:∀r,(C r).length<=n)(B:R.length<=m):BV m (n+2) v:=by
 refine⟨h.can.right,?_,λe j=>?_⟩
 .have:=Ji (zM v) R (zb5 h.can.2) λy A=>(by obtain⟨e,j,rfl⟩:=wC.1 A;exact h.rep e j);simp only[zM,wu]at this;omega
 .have:=QY (h.can.1 e j) (L:=C e.rep) λx w=>h.ed e.rep x (by rw[kq h.can.2 j];exact w);have:=u e.rep;omega
def IV.of(h:zsC v):IV (λr=>z6 (zT v r)) (zM v) v:=⟨h,λr x u=>Y3 (qi h r).ivs2 u,λe j=>wC.2 ⟨e,j,rfl⟩⟩
end
section
open Go.RowKit
def kE(v:List En)(E:v.length<=1024)(y:∀e∈v,e.holes.length<=1048576):Cn xT 162 [vp v] (ns (zv v)):=by
 have B:=zw;refine zt Tryz.func162 1 ?_;refine pw ?_;refine pLoop.go (λi=>i<=v.length) (λi=>[(3,.sl ((ZJ v i).map yN) (.r 9 1)),(4,.v (.int .i64 (i:Nat)))]) (λ_=>[]) (λi=>v.length-i) 0 [3,4,9] ?_ ?_ ?_
 .exact X3 _
 .rw[ziE];exact pd
 .rintro i hi;have u:=vQ y i hi;refine pw ?_;refine .i ?_ ?_<;>intro h<;>(try simp only[zb]at h)<;>first|refine pw ?_|exact pd
  .have C:=y _ (Yf h);refine pw ?_;refine cutP.full rfl ?_ rfl ?_ ?_
   .exact pd
   .exact pd
   refine pw ?_;refine pLoop.go (λj=>j<=v[i].holes.length) (λj=>[(3,.sl ((Q7 v i h j).map yN) (.r 9 1)),(5,.v (.int .i64 (j:Nat)))]) (λ_=>[]) (λj=>v[i].holes.length-j) 0 [3,5,35,16] ?_ ?_ ?_
   .exact X3 _
   .rw[ziD];refine pw ?_;simp[yN]
   .rintro j A;have u:=zdI y h A;refine pw ?_;refine .i ?_ ?_<;>intro w<;>(try simp only[zb]at w)<;>first|refine pw ?_|exact pd
    .refine cutP.full rfl ?_ rfl ?_ ?_
     .exact pd
     .exact pd
     refine pw ?_;refine⟨j+1,w,a8,?_,rfl⟩;rw[zbu h w];simp[yN]
    .refine⟨i+1,h,a8,?_,rfl⟩;rw[zdH h a8]
  .rw[VF a8]
def Xp(a b:List En)(H:∀e∈a,e.holes.length<=1048576)(hb:∀e∈b,e.holes.length<=1048576)(C:a.length<=1024)(j:b.length<=1024):Cn xT 132 [vp a,vp b] (.v (.int .i64 (zZ (zv a) (zv b)))):=by
 have M:=vQ H a.length (Zp _);have N:=vQ hb b.length (Zp _);rw[VF a8]at M N;refine zt Tryz.func132 2 ?_;refine pw ?_;refine .c (kE a C H) ?_;refine .c (kE b j hb) ?_;generalize zv a=x at *;generalize zv b=y at *;refine pLoop.go (λk=>k<=x.length/\k<=y.length/\zZ x y=zZ (x.drop k) (y.drop k)) (λk=>[(7,.v (.int .i64 (k:Nat)))]) (λ_=>[]) (λk=>x.length-k) 0 [7] ?_ ?_ ?_
 .exact⟨X3 _,X3 _,rfl⟩
 .exact pd
 .rintro k ⟨J,K,E⟩;refine pw ?_;have B:¬(k<x.length/\k<y.length)->(if x.length<y.length then (-1:Int) else if y.length<x.length then 1 else 0)=zZ x y:=λL=>by
   have C:(x.drop k).length=x.length-k:=W8;have j:(y.drop k).length=y.length-k:=W8;rw[E];cases hx:x.drop k with
   | nil=>
     rw[hx]at C;cases hy:y.drop k with
     |nil=>rw[hy]at j;simp at C j;rw[Vm a8,Vm a8];rfl
     |cons c z=>rw[hy]at j;simp at C j;rw[vj a8];rfl
   | cons c z=>
     rw[hx]at C;cases hy:y.drop k with
     |nil=>rw[hy]at j;simp at C j;rw[Vm a8,vj a8];rfl
     |cons d u=>rw[hy]at j;simp at C j;exact absurd ⟨a8,a8⟩ L
  have I:¬(k<x.length/\k<y.length)->True:=λ_=>trivial;refine .i ?_ ?_<;>intro F<;>(try simp only[zb]at F)<;>first|refine pw ?_|exact pd
  .refine .i ?_ ?_<;>intro G<;>(try simp only[zb]at G)<;>first|refine pw ?_|exact pd
   .rw[vD F,vD G,zZ]at E;refine pw ?_;refine .i ?_ ?_<;>intro w<;>(try simp only[zb]at w)<;>first|refine pw ?_|exact pd
    .rw[E,vj w]
    .refine .i ?_ ?_<;>intro A<;>(try simp only[zb]at A)<;>first|refine pw ?_|exact pd
     .rw[E,Vm a8,vj A]
     .rw[Vm a8,Vm a8]at E;exact⟨k+1,⟨F,G,E⟩,a8,rfl⟩
   .rw[<-B a8];refine .i ?_ ?_<;>intro w<;>(try simp only[zb]at w)<;>first|refine pw ?_|exact pd
    .rw[vj w]
    .refine .i ?_ ?_<;>intro A<;>(try simp only[zb]at A)<;>first|refine pw ?_|exact pd
     .rw[Vm a8,vj A]
     .rw[Vm a8,Vm a8]
  .rw[<-B a8];refine .i ?_ ?_<;>intro w<;>(try simp only[zb]at w)<;>first|refine pw ?_|exact pd
   .rw[vj w]
   .refine .i ?_ ?_<;>intro A<;>(try simp only[zb]at A)<;>first|refine pw ?_|exact pd
    .rw[Vm a8,vj A]
    .rw[Vm a8,Vm a8]
def CanV.bd{v:List En}(h:CanV v):∀e∈v,ZL e:=λe j=>Jg (h.1 e j).1
structure Fg where
 items:List Iv
 vec:List En
deriving DecidableEq
instance : Inhabited Fg:=⟨⟨[],[]⟩⟩
def Fg.ext'{f g:Fg}(j:f.items=g.items)(u:f.vec=g.vec):f=g:=by cases f;cases g;simp_all
def fc(f:Fg):List PV:=[rg f.items,vp f.vec]
def fp(f:Fg):PV:=.agg (fc f)
def kp(k:List Fg):PV:=.sl (k.map fc) .sh
attribute [go_sem] kp fp fc
def ZS(f:Fg):Prop:=Nrm f.items/\zsC f.vec
def RightK(k:List Fg):Prop:=∀f∈k,ZS f
def BdF(f:Fg):Prop:=BdR f.items/\(∀e∈f.vec,ZL e)/\f.items.length<=9223372036854775807/\f.vec.length<=9223372036854775807
def BdK(k:List Fg):Prop:=(∀f∈k,BdF f)/\k.length<=9223372036854775807
def vx(k:List Fg):Bool:=k.all (λf=>decide (f.items.length<=20) && JF f.vec) && decide (k.length<=12)
def hkK:Nat->List Fg->Nat×Int
 |_,[]=>(0,-1)
 |i,f::r=>if (Zl f.items).1≠0 then ((Zl f.items).1,(i:Int)) else if (jx f.vec).1≠0 then ((jx f.vec).1,(i:Int)) else hkK (i+1) r
def ckK(k:List Fg):Nat×Int:=hkK 0 k
def Vd:∀(i:Nat)(k:List Fg),(hkK i k).1=0↔∀f∈k,(Zl f.items).1=0/\(jx f.vec).1=0
 |_,[]=>by simp[hkK]
 | i,f::r=>by
   have ih:=Vd (i+1) r;unfold hkK;by_cases u:(Zl f.items).1≠0
   .rw[vj u];exact⟨λh=>absurd h u,λh=>(h f b6).1⟩
   .rw[Vm u];by_cases w:(jx f.vec).1≠0
    .rw[vj w];exact⟨λh=>absurd h w,λh=>(h f b6).2⟩
    .rw[Vm w,ih];constructor
     .intro h g j;rcases wh.1 j with rfl|j
      .exact⟨a8,a8⟩
      .exact h g j
     .intro h g j;exact h g (by simp[j])
def ZN{k:List Fg}(hb:BdK k):(ckK k).1=0↔RightK k:=by
 unfold ckK;rw[Vd];constructor
 .intro h f u;obtain⟨w,y⟩:=h f u;have j:=hb.1 f u;exact⟨(YT λs hs=>(j.1 s hs).2).1 w,(XP j.2.1).1 y⟩
 .intro h f u;have j:=hb.1 f u;exact⟨(YT λs hs=>(j.1 s hs).2).2 (h f u).1,(XP j.2.1).2 (h f u).2⟩
def withF(i:Nat):Nat->List Fg->List (Nat×Fg)
 |_,[]=>[]
 |n,f::r=>if mem f.items i=true then (n,f)::withF i (n+1) r else withF i (n+1) r
def QR(i:Nat)(f:Fg):∀(n:Nat)(l:List Fg),withF i n (l++[f])=withF i n l++(if mem f.items i=true then [(n+l.length,f)] else [])
 |n,[]=>by simp[withF]
 | n,g::l=>by
   have ih:=QR i f (n+1) l;have e:n+1+l.length=n+(l.length+1):=a8;rw[yb,withF,withF,ih,wy,e];split<;>simp
def j9{k:List Fg}{j:Nat}(i:Nat)(h:j<k.length):withF i 0 (k.take (j+1))=withF i 0 (k.take j)++(if mem k[j].items i=true then [(j,k[j])] else []):=by rw[X4 h,QR,Wd,W5 a8,wn]
def jv{i:Nat}{p:Nat×Fg}:∀{n:Nat}{l:List Fg},p∈withF i n l->p.2∈l/\mem p.2.items i=true/\n<=p.1/\p.1<n+l.length
 |n,[],h=>by cases h
 | n,f::l,h=>by
   unfold withF at h;split at h
   .rename_i hf;rcases wh.1 h with rfl|h
    .exact⟨b6,hf,Zp _,b6⟩
    .obtain⟨j,u,w,y⟩:=jv h;exact⟨by simp[j],u,a8,a9⟩
   .obtain⟨j,u,w,y⟩:=jv h;exact⟨by simp[j],u,a8,a9⟩
def Zg(i:Nat):∀(n:Nat)(l:List Fg),(withF i n l).length<=l.length
 |_,[]=>Zp _
 | n,f::l=>by
   have:=Zg i (n+1) l;unfold withF;split<;>simp<;>omega
def YL{i:Nat}{q:Fg->Bool}:∀(n:Nat)(l:List Fg),(withF i n l).any (λp=>q p.2)=l.any λf=>mem f.items i && q f
 |_,[]=>rfl
 | n,f::l=>by
   have ih:=YL (i:=i) (q:=q) (n+1) l;unfold withF;rw[uq,<-ih];cases h:mem f.items i<;>simp
def zU(k:List Fg)(i:Nat):List Nat:=(withF i 0 k).map Prod.fst
def JX{k:List Fg}{j:Nat}(i:Nat)(h:j<k.length):zU (k.take (j+1)) i=zU (k.take j) i++(if mem k[j].items i=true then [j] else []):=by
 unfold zU;rw[j9 i h,WI];split<;>rfl
def zbk(k:List Fg)(i:Nat):(zU k i).length<=k.length:=by unfold zU;rw[wu];exact Zg _ _ _
def hasK(k:List Fg)(i r c:Nat):Bool:=k.any λf=>mem f.items i && mem (zT f.vec r) c
def jh(k:List Fg)(i r c:Nat):(withF i 0 k).any (λp=>mem (zT p.2.vec r) c)=hasK k i r c:=YL (q:=λf=>mem (zT f.vec r) c) 0 k
noncomputable def qc (k:List Fg) (i:Nat):List En:=(withF i 0 k).foldl (λo p=>ks zn o p.2.vec) []
def zbT(i:Nat):qc [] i=[]:=rfl
def Ku{k:List Fg}{j:Nat}(i:Nat)(h:j<k.length):qc (k.take (j+1)) i=if mem k[j].items i=true then ks zn (qc (k.take j) i) k[j].vec else qc (k.take j) i:=by
 unfold qc;rw[j9 i h,WX];split<;>rfl
def RightK.take{k:List Fg}(h:RightK k)(j:Nat):RightK (k.take j):=λf u=>h f (WF u)
def CK(k:List Fg)(r:Nat):List Nat:=k.flatMap λf=>z6 (zT f.vec r)
def RK(k:List Fg):List Nat:=k.flatMap λf=>zM f.vec
def CI(k:List Fg):List Nat:=k.flatMap λf=>z6 f.items
def IV.frag{k:List Fg}(h:RightK k){f:Fg}(j:f∈k):IV (CK k) (RK k) f.vec:=
 (IV.of (h f j).2).mono (λr x u=>uk.2 ⟨f,j,u⟩) λx u=>uk.2 ⟨f,j,u⟩
def IK(C:Nat->List Nat)(R:List Nat)(k:List Fg):Prop:=∀f∈k,IV C R f.vec
def RightK.ik{k:List Fg}(h:RightK k):IK (CK k) (RK k) k:=λf j=>IV.frag h j
def IK.take{C:Nat->List Nat}{R:List Nat}{k:List Fg}(h:IK C R k)(j:Nat):IK C R (k.take j):=λf u=>h f (WF u)
def zgT{C:Nat->List Nat}{R:List Nat}:∀(l:List (Nat×Fg))(o:List En),(∀p∈l,IV C R p.2.vec)->WV C R o->WV C R (l.foldl (λo p=>ks zn o p.2.vec) o) /\
 ∀r c,c<zk->mem (zT (l.foldl (λo p=>ks zn o p.2.vec) o) r) c=(mem (zT o r) c || l.any λp=>mem (zT p.2.vec r) c)
 |[],o,_,ho=>⟨ho,λr c _=>b6⟩
 |p::l,o,hl,ho=>by have j:=hl p b6;obtain⟨w,y⟩:=zgT l (ks zn o p.2.vec) (λq A=>hl q (by simp[A])) (ho.iv.lat fU0 j);refine⟨w,λr c u=>?_⟩;rw[WP,y r c u,JR fU0 ho.can.right j.right,qj (qi ho.can.right r) (qi j.right r) u,uq];simp only[zn,UC]
def IK.at{C:Nat->List Nat}{R:List Nat}{k:List Fg}(h:IK C R k)(i:Nat):WV C R (qc k i)/\∀r c,c<zk->mem (zT (qc k i) r) c=hasK k i r c:=by obtain⟨j,u⟩:=zgT (withF i 0 k) [] (λp y=>h _ (jv y).1) WV.nil;refine⟨j,λr c w=>?_⟩;rw[<-jh];have:=u r c w;rw[knV_nil,Xf,uz]at this;exact this
def OkC(C:Nat->List Nat)(R:List Nat):Prop:=(∀r,(C r).length<=9000)/\R.length<=1048576
structure Rc where
 item:Nat
 rep:Nat
 ctr:Nat
 val:ByteArray
def rcc(x:Rc):List PV:=[.v (.int .u64 x.item),.v (.int .u64 x.rep),.v (.int .u64 x.ctr),.v (.string x.val)]
def rcp(x:Rc):PV:=.agg (rcc x)
def rcv(x:Rc):Value:=.agg #[.int .u64 x.item,.int .u64 x.rep,.int .u64 x.ctr,.string x.val]
def lp(l:List Rc):PV:=.sl (l.map rcc) .sh
def zrZ(l:List Rc)(i:Nat):Option Rc:=l.find? λx=>decide (x.item=i)
def zr4:List Rc->Rc->List Rc
 |[],x=>[x]
 |y::l,x=>if y.item<x.item then y::zr4 l x else if y.item=x.item then x::l else x::y::l
def zr8(l:List Rc):Prop:=l.Pairwise λx y=>x.item<y.item
def zr3:∀{l:List Rc}{x y:Rc},y∈zr4 l x->y=x\/y∈l
 |[],x,y,h=>by simp[zr4]at h;exact .inl h
 | z::l,x,y,h=>by
   unfold zr4 at h;split at h
   .rcases wh.1 h with rfl|h
    .exact .inr b6
    .exact(zr3 h).imp id λh=>by simp[h]
   .split at h
    .exact(wh.1 h).imp id λh=>by simp[h]
    .exact(wh.1 h).imp id id
def ztN:∀(l:List Rc)(x:Rc),(zr4 l x).length<=l.length+1
 |[],x=>by simp[zr4]
 | z::l,x=>by
   unfold zr4;have:=ztN l x;split
   .simp;omega
   .split<;>simp
def zr6:∀{l:List Rc}{x:Rc},zr8 l->zr8 (zr4 l x)
 |[],x,_=>by simp[zr4,zr8]
 | z::l,x,h=>by
   obtain⟨u,w⟩:=wi.1 h;unfold zr4;split
   .rename_i hlt;exact wi.2 ⟨λy j=>(zr3 j).elim (λe=>by rw[e];exact hlt) (u y),zr6 w⟩
   .split
    .rename_i e;exact wi.2 ⟨λy j=>by have:=u y j;omega,w⟩
    .refine wi.2 ⟨λy j=>?_,h⟩;rcases wh.1 j with rfl|j
     .omega
     .have:=u y j;omega
def zsB{l:List Rc}{i:Nat}{x:Rc}(h:zrZ l i=some x):x∈l/\x.item=i:=by unfold zrZ at h;exact⟨uE h,by simpa using List.find?_some h⟩
def zrf(y:Rc)(l:List Rc)(i:Nat):zrZ (y::l) i=if y.item=i then some y else zrZ l i:=by
 unfold zrZ;rw[List.find?_cons];by_cases h:y.item=i<;>simp[h]
def zsb:∀{l:List Rc}{x:Rc}(i:Nat),zr8 l->zrZ (zr4 l x) i=if x.item=i then some x else zrZ l i
 |[],x,i,_=>by rw[zr4,zrf]
 | z::l,x,i,h=>by
   obtain⟨u,j⟩:=wi.1 h;unfold zr4;split
   .rename_i hlt;rw[zrf,zsb i j,zrf];by_cases e:z.item=i
    .rw[vj e,vj e,Vm a8]
    .rw[Vm e,Vm e]
   .split
    .rename_i e0;rw[zrf,zrf];by_cases e:x.item=i
     .rw[vj e,vj e]
     .rw[Vm e,Vm e,Vm a8]
    .rw[zrf]
def ixR:List Rc->Nat->Int->Int
 |[],_,_ =>-1
 |x::l,i,n=>if x.item=i then n else ixR l i (n+1)
def qX(k:List Fg)(x y:Nat):Bool:=k.all λf=>mem f.items x == mem f.items y
def qo{k:List Fg}{x y:Nat}:qX k x y=true↔∀f∈k,mem f.items x=mem f.items y:=by simp[qX]
def j8{x y:Nat}:∀{k:List Fg}{n:Nat},(∀f∈k,mem f.items x=mem f.items y)->withF x n k=withF y n k
 |[],_,_=>rfl
 |f::k,n,h=>by rw[withF,withF,j8 (k:=k) λg j=>h g (by simp[j]),h f b6]
def Zh{x y:Nat}:∀{k:List Fg}{n:Nat},(withF x n k).map Prod.fst=(withF y n k).map Prod.fst->∀f∈k,mem f.items x=mem f.items y
 |[],_,_,f,j=>by cases j
 | g::k,n,h,f,j=>by
   have no:∀z,n∉(withF z (n+1) k).map Prod.fst:=λz hz=>(by obtain⟨p,u,e⟩:=wC.1 hz;have:=(jv u).2.2.1;omega);rw[withF,withF]at h;cases hx:mem g.items x<;>cases hy:mem g.items y<;>rw[hx,hy]at h<;>simp only[UL,UZ,uD,Wz]at h
   .rcases wh.1 j with rfl|j
    .rw[hx,hy]
    .exact Zh h f j
   .exact absurd (h▸WH) (no x)
   .exact absurd (h▸WH) (no y)
   .rcases wh.1 j with rfl|j
    .rw[hx,hy]
    .exact Zh (List.cons.inj h).2 f j
def Vp{k:List Fg}{x y:Nat}:zU k x=zU k y↔qX k x y=true:=by rw[qo];exact⟨λh=>Zh h,λh=>by unfold zU;rw[j8 h]⟩
def Yt{k:List Fg}{x y:Nat}(h:qX k x y=true)(r c:Nat):hasK k x r c=hasK k y r c:=by rw[<-jh,<-jh,j8 (qo.1 h)]
def km{k:List Fg}{i r c:Nat}:hasK k i r c=true↔∃f∈k,mem f.items i=true/\mem (zT f.vec r) c=true:=by simp[hasK]
noncomputable def zq (k:List Fg):List Nat:=(zH (k.map Fg.items)).filter λx=>decide (x=0) || !qX k (x-1) x
def startsK_asc(k:List Fg):YN (zq k):=(x8 _).filter _
def vZ{k:List Fg}(h:RightK k){x:Nat}:x∈zq k↔x<zk/\(x=0\/qX k (x-1) x=false):=by
 unfold zq;rw[WB];constructor
 .rintro⟨w,u⟩;refine⟨Ze (λl E s hs=>?_) x w,dJ u⟩;obtain⟨f,j,rfl⟩:=wC.1 E;have:=NF.lo_ge (h f j).1 s hs;omega
 .rintro⟨w,u⟩;refine⟨?_,dJ u⟩;unfold zH;rw[qr];unfold yU;rcases Wi x with A|A
  .simp[A]
  .have B:=u.resolve_left a8;refine wh.2 (.inr ?_);have:∃f∈k,mem f.items (x-1)≠mem f.items x:=wU λF=>(by have:qX k (x-1) x=true:=qo.2 λf j=>wU λC=>F ⟨f,j,C⟩;rw[B]at this;cases this);obtain⟨f,j,y⟩:=this;exact uk.2 ⟨f.items,wC.2 ⟨f,j,rfl⟩,Y3 (h f j).1.ivs2 ⟨w,by rw[Vm a8];exact λe=>y e.symm⟩⟩
def XC{k:List Fg}(h:RightK k):0∈zq k:=(vZ h).2 ⟨xM,.inl rfl⟩
def vY(k:List Fg):(zq k).length<=1+(CI k).length:=by
 have j:(zq k).length<=(zH (k.map Fg.items)).length:=WA _ _;have u:(zH (k.map Fg.items)).length<=(yU (k.map Fg.items)).length:=ju _;have w:(yU (k.map Fg.items)).length=1+(CI k).length:=by unfold yU CI;rw[wy,uZ];omega
 omega
def vN:List Nat->List Iv
 |[]=>[]
 |[x]=>[⟨x,zk-1⟩]
 |x::y::r=>⟨x,y-1⟩::vN (y::r)
def vO:∀l:List Nat,(vN l).length=l.length
 |[]=>rfl
 |[_]=>rfl
 |x::y::r=>by rw[vN,wy,vO (y::r)];rfl
def Vx:∀(l:List Nat)(i:Nat)(h:i<l.length),(vN l)[i]'(by rw[vO];exact h)=⟨l[i],if h:i+1<l.length then l[i+1]-1 else zk-1⟩
 |[x],0,_=>by simp[vN]
 |x::y::r,0,_=>by simp[vN]
 |x::y::r,i+1,h=>by have:=Vx (y::r) i (dJ h);simp only[vN,WM];rw[this];simp
def YD:∀{l:List Nat},YN l->(∀x∈l,x<zk)->(∀s∈vN l,s.lo<=s.hi/\s.hi<zk/\s.lo∈l)/\(vN l).Pairwise (λs t=>s.hi<t.lo)/\(∀s∈vN l,∀y∈l,s.lo<y->s.hi<y)/\∀i x r,l=x::r->x<=i->i<zk->∃s∈vN l,s.lo<=i/\i<=s.hi
 |[],_,_=>⟨λs h=>(by cases h),List.Pairwise.nil,λs h=>(by cases h),λi x r h=>by cases h⟩
 | [x],_,hl=>by
   have N:=hl x b6;refine⟨λs h=>?_,by simp[vN],λs h y C j=>?_,λi y r h w E=>?_⟩
   .simp only[vN,wI]at h;subst h;exact⟨by simp only;omega,by simp only;omega,b6⟩
   .simp only[vN,wI]at h C;subst h C;simp at j
   .cases h;exact⟨⟨x,zk-1⟩,by simp[vN],w,by simp only;omega⟩
 | x::y::r,ha,hl=>by
   have B:=wi.1 ha;have H:=B.1 y b6;have C:=hl y b6;obtain⟨w,E,F,G⟩:=YD B.2 λz hz=>hl z (by simp[hz]);have u:∀z∈y::r,y<=z:=λz hz=>by
    rcases wh.1 hz with rfl|hz
    .exact Zp _
    .exact uy ((wi.1 B.2).1 z hz)
   rw[vN];refine⟨λs h=>?_,wi.2 ⟨λt ht=>?_,E⟩,λs h z hz j=>?_,λi P O h I J=>?_⟩
   .rcases wh.1 h with rfl|h
    .exact⟨by simp only;omega,by simp only;omega,b6⟩
    .obtain⟨K,L,M⟩:=w s h;exact⟨K,L,by rw[wh];exact .inr M⟩
   .have:=u _ (w t ht).2.2;simp only;omega
   .rcases wh.1 h with e|A
    .subst e;rcases wh.1 hz with e|hz
     .subst e;simp at j
     .have:=u z hz;simp only;omega
    .rcases wh.1 hz with e|hz
     .subst e;have:=u _ (w s A).2.2;omega
     .exact F s A z hz j
   .cases h;rcases wK i y with hi|hi
    .exact⟨⟨x,y-1⟩,b6,I,by simp only;omega⟩
    .obtain⟨s,hs,q⟩:=G i y r rfl hi J;exact⟨s,by simp[hs],q⟩
noncomputable def cutsK (k:List Fg):List Iv:=vN (zq k)
noncomputable def zu (k:List Fg):List Iv:=(cutsK k).filter λs=>decide (0<(zU k s.lo).length)
section
variable {k:List Fg}(h:RightK k)
include h
theorem x7:∀x∈zq k,x<zk:=λx j=>((vZ h).1 j).1
theorem xO:(∀s∈cutsK k,s.lo<=s.hi/\s.hi<zk/\s.lo∈zq k)/\(cutsK k).Pairwise (λs t=>s.hi<t.lo)/\(∀s∈cutsK k,∀y∈zq k,s.lo<y->s.hi<y)/\∀i,i<zk->∃s∈cutsK k,s.lo<=i/\i<=s.hi:=by
 obtain⟨w,A,B,C⟩:=YD (startsK_asc k) (x7 h);refine⟨w,A,B,λi hi=>?_⟩;have j:=XC h;cases hs:zq k with
 |nil=>rw[hs]at j;cases j
 | cons x r=>
   have:x=0:=by
    rw[hs]at j;rcases wh.1 j with e|e
    .exact e.symm
    .have u:=startsK_asc k;rw[hs]at u;have:=(wi.1 u).1 0 e;omega
   exact C i x r hs a8 hi
theorem jR{s:Iv}(hs:s∈cutsK k):∀{x:Nat},s.lo<=x->x<=s.hi->qX k s.lo x=true:=by
 obtain⟨y,_,A,_⟩:=xO h;intro x;induction x with
 |zero=>intro j _;rw[show s.lo=0 by omega];exact qo.2 λf _=>rfl
 | succ x ih=>
   intro j E;rcases uB j with e|u
   .rw[e];exact qo.2 λf _=>rfl
   .have B:=ih a8 a8;have C:qX k x (x+1)=true:=by
     cases h7:qX k x (x+1)with
     |true=>rfl
     |false=>have:=A s hs (x+1) ((vZ h).2 ⟨by have:=(y s hs).2.1;omega,.inr (by rw[Nat.add_sub_cancel];exact h7)⟩) u;omega
    exact qo.2 λf w=>(qo.1 B f w).trans (qo.1 C f w)
theorem Xj{i:Nat}(hi:i<zk)(w:0<(zU k i).length):∃s∈zu k,s.lo<=i/\i<=s.hi:=by obtain⟨s,hs,j,u⟩:=(xO h).2.2.2 i hi;refine⟨s,WB.2 ⟨hs,?_⟩,j,u⟩;rw[wG,Vp.2 (jR h hs j u)];exact w
theorem yt:(∀s∈zu k,s.lo<=s.hi/\s.hi<zk/\s∈cutsK k/\0<(zU k s.lo).length)/\(zu k).Pairwise (λs t=>s.hi<t.lo):=by refine⟨λs hs=>?_,(xO h).2.1.filter _⟩;obtain⟨j,u⟩:=WB.1 hs;obtain⟨w,y,_⟩:=(xO h).1 s j;exact⟨w,y,j,dJ u⟩
end
def xW(k:List Fg):(zu k).length<=1+(CI k).length:=by have j:(zu k).length<=(cutsK k).length:=WA _ _;have u:(cutsK k).length=(zq k).length:=vO _;have:=vY k;omega
noncomputable def jq (k:List Fg):List Fg:=(zu k).map λs=>⟨[s],qc k s.lo⟩
def ZB{k:List Fg}{f:Fg}(j:f∈jq k):∃s∈zu k,f=⟨[s],qc k s.lo⟩:=by obtain⟨s,hs,e⟩:=wC.1 j;exact⟨s,hs,e.symm⟩
def zfJ{s:Iv}{x:Nat}:mem [s] x=true↔s.lo<=x/\x<=s.hi:=by simp[mem]
def xh(k:List Fg):Prop:=k.Pairwise λf g=>∀x,x<zk->¬(mem f.items x=true/\mem g.items x=true)
def IK.refine{C:Nat->List Nat}{R:List Nat}{k:List Fg}(hk:IK C R k):∀f∈jq k,WV C R f.vec:=λf j=>by obtain⟨s,_,rfl⟩:=ZB j;exact(hk.at s.lo).1
def Yb{k:List Fg}(h:RightK k):RightK (jq k):=λf w=>by obtain⟨s,hs,rfl⟩:=ZB w;obtain⟨j,u,_⟩:=(yt h).1 s hs;exact⟨qG j u,(h.ik.at s.lo).1.can.right⟩
def zeD{k:List Fg}(h:RightK k):xh (jq k):=by unfold xh jq;rw[uv];refine(yt h).2.imp λhst x _ ⟨h1,h2⟩=>?_;have:=zfJ.1 h1;have:=zfJ.1 h2;omega
def JJ{k:List Fg}(h:RightK k){V:Nat->List En}{P:Nat->Nat->Nat->Bool}(C:∀x r c,x<zk->c<zk->mem (zT (V x) r) c=P x r c)(hs:∀x y r c,qX k x y=true->P x r c=P y r c)(G:∀x r c,zU k x=[]->P x r c=false)
 {i r c:Nat} (hi:i<zk) (E:c<zk):hasK ((zu k).map λs=>⟨[s],V s.lo⟩) i r c=P i r c:=by
 rw[WC,km];constructor
 .rintro⟨f,H,w,u⟩;obtain⟨s,j,rfl⟩:=wC.1 H;obtain⟨J,K,A,_⟩:=(yt h).1 s j;have B:=zfJ.1 w;rw[C s.lo r c a8 E,hs _ _ _ _ (jR h A B.1 B.2)]at u;exact u
 .intro F;have I:0<(zU k i).length:=Nat.pos_of_ne_zero λe=>by have:=G i r c (wX.1 e);rw[F]at this;cases this
  obtain⟨s,j,w,u⟩:=Xj h hi I;obtain⟨J,K,A,_⟩:=(yt h).1 s j;refine⟨_,wC.2 ⟨s,j,rfl⟩,zfJ.2 ⟨w,u⟩,?_⟩;rw[C s.lo r c a8 E,hs _ _ _ _ (jR h A w u)];exact F
def zc0{k:List Fg}{x:Nat}(r c:Nat)(h:zU k x=[]):hasK k x r c=false:=by rw[<-jh];unfold zU at h;rw[List.map_eq_nil_iff.1 h];rfl
def zfp{k:List Fg}(h:RightK k){i r c:Nat}(hi:i<zk)(j:c<zk):hasK (jq k) i r c=hasK k i r c:=
 JJ h (V:=qc k) (P:=hasK k) (λx r c _ j=>(h.ik.at x).2 r c j) (λ_ _ r c h=>Yt h r c) (λ_ r c h=>zc0 r c h) hi j
def cp2(a b:Nat):PV:=.agg [.v (.int .u64 a),.v (.int .u64 b)]
def cw(n:Nat):PV:=cp2 (n/zk) (n%zk)
attribute [go_sem] cp2 cw
def kD(v:List En)(r:Nat)(j:SmV v):Cn xT 130 [vp v,.v (.int .u64 r)] (rg (zT v r)):=by
 have y:=j.2.1;refine zt Tryz.func130 2 ?_;refine pw ?_;refine .rd (zbB v r a8) rfl ?_;rcases X2 r v 0 with⟨e1,e2⟩|⟨i,hi,e1,e2⟩
 .rw[e1,qC e2];exact pd
 .have w:=j.2.2 _ (Yf hi);rw[e1,zh8 j.1 hi e2,wn];refine pw ?_;refine .i ?_ ?_<;>intro u<;>(try simp only[zb]at u)<;>first|refine pw ?_|exact pd
  .exact absurd u a8
  .exact .d (Vl v[i] (j.1.1 _ (Yf hi)) a8)
def zoF{r c:Nat}(w:r<zk)(j:c<zk):SmV (zl9 r c):=by have h:=zoD w j;exact⟨h.1,by have:=h.2.1;omega,λe u=>by have:=h.2.2 e u;omega⟩
def zoX(v:List En)(r c:Nat)(w:SmV v)(u:r<zk)(j:c<zk):Cn xT 79 [vp v,.v (.int .u64 r),.v (.int .u64 c)] (vp (ks zn v (zl9 r c))):=by
 have h:=zdc v (zl9 r c) w (zoF u j);refine zt Tryz.func79 3 ?_;refine pw ?_;refine .c (zjT r [⟨c,c⟩] (zmc j) b6) ?_
 (first|exact .d (h)|exact .q (h))
def vps(j:List (List En)):PV:=.sl (j.map λv=>[vp v]) .sh
attribute [go_sem] vps
def u10:List En:=[⟨1,4,[]⟩,⟨2,3,[]⟩]
def c10:List En:=[⟨3,0,[]⟩]
def zap(j:List Nat)(x:Nat)(B:(srt j).length<=4194304):Cn xT 127 [ns (srt j),.v (.int .u64 x)] (ns (srt (j++[x]))):=by refine yZ rfl (enters_of Tryz.func127 dK rfl) λD w F E A u y=>?_;rw[zeJ u,(y 1 _ rfl).v_inv];refine(zbw D j x _ w B (y 0 _ rfl) A).mono ?_;rintro e G ⟨v,rfl,hb,C⟩;exact⟨v,rfl,hb,C⟩
def VW{v:List En}{xs:List Nat}{k:Nat}(w:v.length<=1048576)(y:xs.length<=1048576):(srt (xs++zM (v.take k))).length<=4194304:=by have j:=ju (xs++zM (v.take k));have u:(v.take k).length<=1048576:=V0 (te _ _) w;simp only[zM,wk,wu]at j u;simp only[zM];omega
def YH{v:List En}{k:Nat}(h:k<v.length):zM (v.take (k+1))=zM (v.take k)++[v[k].rep]:=by unfold zM;rw[X4 h,WI];rfl
def zcC(a b:List En)(op:Nat)(ho:op<3)(B:SmV a)(hb:SmV b):Cn xT 93 [vp a,vp b,.v (.int .i64 op)] (vp (ks (Qj op) a b)):=by
 have K:=B.2.1;have M:=hb.2.1;have N:Qj op false false=false:=by
  match op,ho with
  |0,_=>rfl
  |1,_=>rfl
  |2,_=>rfl
 refine zhs Tryz.func93 [] 3 dK rfl (by simp[go_sem,seval]) 14 (.dr [⟨(some 47),none,(.mv (.t 7))⟩,⟨(some 48),none,(.mv (.t 11))⟩,⟨(some 49),none,(.ia (.t 47) (.t 48) 1)⟩,⟨(some 50),none,(.ld (.t 49) false 1)⟩,⟨(some 51),none,(.mv (.t 0))⟩,⟨(some 52),none,(.mv (.t 7))⟩,⟨(some 53),none,(.mv (.t 11))⟩,⟨(some 54),none,(.ia (.t 52) (.t 53) 1)⟩,⟨(some 55),none,(.ld (.t 54) false 1)⟩,⟨(some 56),none,(.ca 130 [(.t 51),(.t 55)])⟩,⟨(some 57),none,(.mv (.t 1))⟩,⟨(some 58),none,(.mv (.t 7))⟩,⟨(some 59),none,(.mv (.t 11))⟩,⟨(some 60),none,(.ia (.t 58) (.t 59) 1)⟩,⟨(some 61),none,(.ld (.t 60) false 1)⟩,⟨(some 62),none,(.ca 130 [(.t 57),(.t 61)])⟩,⟨(some 63),none,(.mv (.t 2))⟩,⟨(some 64),none,(.ca 129 [(.t 56),(.t 62),(.t 63)])⟩,⟨(some 65),none,(.ca 128 [(.t 50),(.t 64)])⟩,⟨(some 46),none,(.mv (.t 65))⟩,⟨(some 66),none,(.ex (.t 46) 0)⟩,⟨(some 67),none,(.ex (.t 46) 1)⟩] [⟨(some 12),none,(.al [(.v (.int .u64 0)),(.v (.int .u64 0)),(.sl [] .sh)])⟩,⟨none,none,(.st (.t 12) (.t 66) 3)⟩,⟨(some 13),none,(.mv (.t 67))⟩]) rfl dK ?_
 conv=>enter [4,6];(unfold xN;simp only[Tryz.f93])
 simp only[pcT,Nat.reduceEqDiff,UZ,UL,reduceIte];repeat (conv in (zgV _ _ _ _ _ _)=>cbv)
 repeat (conv in (zgW _)=>cbv)
 conv=>enter [5,1];cbv
 refine pw ?_;refine pLoop.go (λk=>k<=a.length) (λk=>[(7,ns (srt ([]++zM (a.take k)))),(8,.v (.int .i64 (k:Nat)))]) (λ_=>[]) (λk=>a.length-k) 0 [7,8] ?_ ?_ ?_
 .exact X3 _
 .simp only[Wb,zM,W7,wZ,XB];exact pd
 ·rintro k hk;refine pw ?_;refine .i ?_ ?_<;>intro h<;>(try simp only[zb]at h)<;>first|refine pw ?_|exact pd
  .refine .c (zap ([]++zM (a.take k)) a[k].rep (VW (xs:=[]) K b6)) ?_;refine⟨k+1,h,a8,?_,rfl⟩;rw[YH h]
  ·rw [show k=a.length by omega,Wp];refine pLoop.go (λk=>k<=b.length) (λk=>[(7,ns (srt (zM a++zM (b.take k)))),(9,.v (.int .i64 (k:Nat)))]) (λ_=>[]) (λk=>b.length-k) 0 [7,9] ?_ ?_ ?_
   .exact X3 _
   .simp only[Wb,zM,W7,wZ];exact pd
   .rintro k hk;refine pw ?_;refine .i ?_ ?_<;>intro C<;>(try simp only[zb]at C)<;>first|refine pw ?_|exact pd
    .refine .c (zap (zM a++zM (b.take k)) b[k].rep (VW (xs:=zM a) M (by simp[zM];omega))) ?_;refine⟨k+1,C,a8,?_,rfl⟩;rw[YH C,wR]
    .rw[show k=b.length by omega,Wp];obtain⟨L,y⟩:=xm (srt (zM a++zM b));have H:L.length<=2097152:=by have E:=ju (zM a++zM b);simp only[zM,wk,wu]at E;rw[y];simp only[zM];omega
     have I:∀r∈L,r<zk:=(by rw[y];exact Xr B.1 hb.1);have u:ks (Qj op) a b=L.filterMap (vE (Qj op) a b):=(by rw[y];rfl);rw[<-y,u];clear u y;refine pLoop.go (λk=>k<=L.length) (λk=>[(10,.sl (((L.take k).filterMap (vE (Qj op) a b)).map ec) (.r 72 3)),(11,.v (.int .i64 (k:Nat)))]) (λ_=>[]) (λk=>L.length-k) 0 [10,11,72] ?_ ?_ ?_
     .exact X3 _
     .simp only[Wb,UR,W7];exact pd
     .rintro k hk;have G:((L.take k).filterMap (vE (Qj op) a b)).length<=k:=V0 (Ud _ _) a9;refine pw ?_;refine .i ?_ ?_<;>intro A<;>(try simp only[zb]at A)<;>first|refine pw ?_|exact pd
      .have ka:=qS B L[k];have kb:=qS hb L[k];have J:(qy (Qj op) (zT a L[k]) (zT b L[k])).length<=80100:=(by have E:=xR (Qj op) (zT a L[k]) (zT b L[k]);omega);have j:=zg1 L[k] (qy (Qj op) (zT a L[k]) (zT b L[k])) (qH ka.1 kb.1) a8;have w:=KZ (f:=Qj op) (a:=a) (b:=b) A;obtain⟨e,ok,F⟩:∃e ok,Qi L[k] (qy (Qj op) (zT a L[k]) (zT b L[k]))=(e,ok):=⟨_,_,rfl⟩;rw[zac F]at w;rw[F]at j;refine .c (kD a L[k] B) ?_;refine .c (kD b L[k] hb) ?_;refine .c (zhw (zT a L[k]) (zT b L[k]) op ka.1 kb.1 ho a8 a8) ?_;cases ok with
       | true=>
         (first|refine .c (j) ?_|refine .o (j) ?_)
         refine⟨k+1,A,a8,?_,rfl⟩;rw[w];simp;rfl
       | false=>
         (first|refine .c (j) ?_|refine .o (j) ?_)
         refine⟨k+1,A,a8,?_,rfl⟩;rw[w];simp
      .rw[show k=L.length by omega,Wp]
def zq7(r c:Nat)(j:c<zk):Cn xT 123 [.v (.int .u64 r),.v (.int .u64 c)] (vp (zl9 r c)):=by refine zt Tryz.func123 2 ?_;refine pw ?_;refine .c (zg1 r [⟨c,c⟩] (zmc j) b6) ?_;rfl
def WV.smv{C:Nat->List Nat}{R:List Nat}{v:List En}(h:WV C R v)(ok:OkC C R):SmV v:=(h.bv ok.1 ok.2).mono (Zp _) a8
def kH{D:Qk}{w:World}{x:Value}{u:List (List PV)}{o:Ow}(h:Dat D w x (.sl u o)):∃s:Sv,x=sv s/\s.2.1=u.length:=by obtain⟨y,j,sz,b,A,f,e1,_⟩:=(Rel.dat (ρ:=λ_=>0) (nb:=0) h).inv_sl;exact⟨(y,u.length,j),e1,rfl⟩
def kX{D:Qk}{O:Nat}{w:World}{v:Value}{k:List Fg}(h:Dat D w v (kp k))(P:∀b o,D b o->b<O):
 ∃a y C,v=.slice a k.length y/\∃E:C.length=k.length,zeF O w a y C/\∀i (h:i<C.length),Dat D w (sv C[i].1) (rg (k[i]'(E▸h)).items)/\Dat D w (sv C[i].2) (vp (k[i]'(E▸h)).vec):=by
 unfold kp at h;generalize N:k.map fc=es at h;cases h with
 | sl a y sz es o b off u hc hz hm ha hsz hd hx=>
   have E:es.length=k.length:=(by rw[<-N];simp);have g:∀i (h:i<k.length),es[i]?=some (fc k[i]):=λi h=>(by rw[<-N];exact xo h);have B:∀i,i<k.length->∃f:Fv,∀h:i<k.length,(sz=2/\u (i*2)=sv f.1/\u (i*2+1)=sv f.2)/\Dat D w (sv f.1) (rg k[i].items)/\Dat D w (sv f.2) (vp k[i].vec):=λi hi=>(by obtain rfl:2=sz:=hsz i _ (g i hi);have d0:Dat D w (u (i*2+0)) (rg k[i].items):=hx i _ 0 _ (g i hi) rfl;have I:Dat D w (u (i*2+1)) (vp k[i].vec):=hx i _ 1 _ (g i hi) rfl;obtain⟨Q,H,_⟩:=kH d0;obtain⟨S,e1,_⟩:=kH I;rw[H]at d0;rw[e1]at I;exact⟨(Q,S),λ_=>⟨⟨rfl,H,e1⟩,d0,I⟩⟩);obtain⟨F,hF⟩:=Go.Deep.choose_lt B;refine⟨a,y,(List.range k.length).map F,by rw[E],b6,⟨a9,hm,λG=>?_⟩,λi hi=>?_⟩
   .have A:0<k.length:=by
     rcases Wi k.length with J|J
     .rw[J]at G;simp at G
     .exact J
    obtain⟨⟨rfl,_⟩,_⟩:=hF 0 A A;have K:es≠[]:=(by intro e;subst e;simp at E;omega);refine⟨b,off,ha K,P _ _ (hd 0 a8).1,λi hi=>?_⟩;have j:i<k.length:=(dJ hi);obtain⟨⟨_,H,e1⟩,_⟩:=hF i j j;have L:=(hd (i*2) a8).2.1;have M:=(hd (i*2+1) a8).2.1;rw[H]at L;rw[e1]at M;simp only[Uz,US];exact⟨L,M⟩
   .have j:i<k.length:=(dJ hi);simp only[Uz,US];exact(hF i j j).2
def zez{j:Nat->Bool}{p:Nat×Fv}:∀{l:List Fv}{n:Nat},p∈wl j n l->∃h:p.1-n<l.length,n<=p.1/\p.2=l[p.1-n]/\j p.1=true
 |[],n,h=>by cases h
 | f::l,n,h=>by
   unfold wl at h;have u:p∈wl j (n+1) l->∃h:p.1-n<(f::l).length,n<=p.1/\p.2=(f::l)[p.1-n]/\j p.1=true:=λh=>by obtain⟨A,B,w,y⟩:=zez h;refine⟨a9,a8,?_,y⟩;rw[w];have e:p.1-n=(p.1-(n+1))+1:=a8;simp only[e,WM]
   split at h
   .rename_i hh;rcases wh.1 h with rfl|h
    .exact⟨b6,Zp _,b6,hh⟩
    .exact u h
   .exact u h
def Yp{α:Type}{k:List Fg}{w:List Fv}(A:w.length=k.length)(item:Nat)(step:α->Nat->Fg->α)(u:α):
 (wl (λj=>mem (k.getD j default).items item) 0 w).foldl (λa p=>step a p.1 (k.getD p.1 default)) u=(withF item 0 k).foldl (λa p=>step a p.1 p.2) u:=by
 have y:∀j,j<=k.length->(wl (λj=>mem (k.getD j default).items item) 0 (w.take j)).foldl (λa p=>step a p.1 (k.getD p.1 default)) u=(withF item 0 (k.take j)).foldl (λa p=>step a p.1 p.2) u:=by
  intro j;induction j with
  |zero=>intro _;rfl
  | succ j ih=>
    intro B;rw[XF a8,j9 item a8,WX,WX,ih a8];have e:k.getD j default=k[j]:=(by simp[Q9,Zv (show j<k.length by omega)]);simp only[e];split
    .show step _ j (k.getD j default)=step _ j k[j];rw[e]
    .rfl
 have:=y k.length (Zp _)
 rwa[<-A,Wp,A,Wp]at this
def V8(k:List Fg)(i:Nat):PV:=.fn (.func 106) [] [.cp [kp k] 0,.cp [.v (.int .u64 i)] 0]
attribute [go_sem] V8
def zfB(k:List Fg)(i:Nat):Cn xT 69 [kp k,.v (.int .u64 i)] (V8 k i):=by refine zt Tryz.func69 2 ?_;exact pd
def zjy(v:List En)(i:Nat)(f:Fg)(u:SmV v)(j:SmV f.vec):Cn xT 151 [vp v,.v (.int .i64 i),fp f] (vp (ks zn v f.vec)):=by refine zt Tryz.func151 3 ?_;refine pw ?_;exact .d (zdc v f.vec u j)
end
section
open Go.RowKit Go.Maps
attribute [-go_sem] z7
def MapS(D:DV)(S:List Nat):Prop:=IsMap D/\∀r,has D (kR r)=decide (r∈S)
def MapS.nil:MapS (.map []) []:=⟨⟨[],rfl⟩,λr=>by simp[has]⟩
def MapS.put{D:DV}{S:List Nat}(h:MapS D S)(r:Nat)(v:DV):MapS (D.put (kR r) v) (S++[r]):=by
 refine⟨h.1.put _ _,λs=>?_⟩;by_cases e:s=r
 .subst e;rw[TY h.1 (Qc _)];simp
 .rw[TU (λh=>e (Xa h)),h.2 s];simp[e]
def MI(B:Nat)(w:World)(S:List Nat):Prop:=∃D,w.ownsMap xT 38 rV B S.length D/\MapS D S
def MI.made(w:World):MI w.heap.size (w.alloc (.map #[] 0)) []:=⟨_,TO _ _ _ _,MapS.nil⟩
def MI.keep{B:Nat}{w w':World}{S:List Nat}(h:MI B w S)(hb:w'.heap[B]?=w.heap[B]?):MI B w' S:=by obtain⟨D,j,u⟩:=h;exact⟨D,yg j hb,u⟩
def MI.lt{B:Nat}{w:World}{S:List Nat}(h:MI B w S):B<w.heap.size:=by obtain⟨D,j,_⟩:=h;exact j.lt
def xe{w:World}{C:Array Oper}{rest:List Oper}{o:Oper}{a:Act}{Q:Exit->Act->World->Prop}(L:o.guard=none)(m x v:Operand)
 (j:o.op=.mapUpdate 264 m x v\/o.op=.insert 264 m x v) {B:Nat} {S:List Nat} (G:a.eval m=.map (some B)) (h:MI B w S) (M:S.length<maxLen) {r:Nat} (N:r<zk) (H:a.eval x=.int .u64 (r:Nat))
 (F:∀y,MI B y (S++[r])->w.grownBy y (some B)->wpList xT C Q rest (a.put o.dst undef) y):wpList xT C Q (o::rest) a w:=by
 obtain⟨D,K,E⟩:=h;refine TX L λO A=>?_;obtain⟨y,u,I,J⟩:=K.update vF Tryz.underlying264 M (Zq N) (val:=a.eval v) rfl;unfold Oper.wp;rcases j with j|j
 .simp[execOp,j,G,H,u,Result.andThen];exact A _ _ (F y ⟨_,dJ I,E.put r _⟩ J)
 .simp[execOp,j,G,H,u,Result.andThen];exact A _ _ (F y ⟨_,dJ I,E.put r _⟩ J)
def rdG(y:Nat)(w:World)(b o:Nat)(f:Fg):Prop:=(∃j,w.cell? ⟨b,o,none⟩=some j/\RdR 0 y w j f.items)/\∃u n c,w.cell? ⟨b,o+1,none⟩=some (.slice u n c)
def ze3{D:Qk}{w:World}{x:Value}{k:List Fg}(h:Dat D w x (kp k))(E:∀b o,D b o->b<w.heap.size)(hb:RightK k):RdSl 2 (rdG w.heap.size) 0 w.heap.size w x k:=by
 unfold kp at h;generalize F:k.map fc=es at h;cases h with
 |sl a cap sz es o b off u hc hz hm ha hsz hd hx=>have G:es.length=k.length:=(by rw[<-F];simp);refine⟨a,cap,by rw[G],a8,hm,λB=>?_⟩;have y:0<k.length:=wW.2 B;have g:∀i (h:i<k.length),es[i]?=some (fc k[i]):=λi h=>(by rw[<-F];exact xo h);obtain rfl:2=sz:=hsz 0 _ (g 0 y);have A:es≠[]:=(by intro e;subst e;simp at G;omega);have j:b<w.heap.size:=E _ _ (hd 0 a8).1;refine⟨b,off,ha A,X3 _,j,λi hi=>?_⟩;have J:=hx i _ 0 _ (g i hi) rfl;have e1:=hx i _ 1 _ (g i hi) rfl;have I:=(hd (i*2+0) a8).2.1;have C:=(hd (i*2+1) a8).2.1;obtain⟨L,c,K,M,H,N,q,_⟩:=(Rel.dat (ρ:=λ_=>0) (nb:=0) (show Dat D w (u (i*2+1)) (.sl (k[i].vec.map ec) .sh) from e1)).inv_sl;rw[q]at C;exact⟨⟨_,I,je J E (hb _ (Yf hi)).1.lt⟩,_,_,_,C⟩
def Ky{k:List Fg}{i:Nat}(hi:i<k.length):CI (k.take (i+1))=CI (k.take i)++z6 k[i].items:=by unfold CI;rw[X4 hi,Wl];simp
def zaV{l:List Iv}{j:Nat}(u:j<l.length):z6 (l.take (j+1))=z6 (l.take j)++jQ l[j]:=by unfold z6;rw[X4 u,Wl];simp
def ze0{s:Iv}(h:s.hi=zk-1):jQ s=[s.lo]:=by unfold jQ;rw[Vm a8]
def zcz{s:Iv}(h:s.hi<zk-1):jQ s=[s.lo]++[s.hi+1]:=by unfold jQ;rw[vj h];rfl
def zfO(w:World):Calls xT 48 #[.int .u64 18446744073709551615] w λe j=>e=.returned (.tuple #[.int .u64 0,.bool false])/\j=w:=by
 go_enter Tryz.func48,Tryz.ntmps48
 go_wp2;all_goals (refine tz (Tj rfl _ _ _) rfl ?_;refine⟨?_,rfl⟩;simp;try omega)
def zdr(x:Nat)(u:x<18446744073709551615)(w:World):Calls xT 48 #[.int .u64 (x:Nat)] w λe j=>e=.returned (.tuple #[.int .u64 ((x:Int)+1),.bool true])/\j=w:=by
 go_enter Tryz.func48,Tryz.ntmps48
 go_wp2;all_goals (refine tz (Tj rfl _ _ _) rfl ?_;refine⟨?_,rfl⟩;simp;try omega)
def zgc(w:World):Calls xT 183 #[.int .u64 0] w λe j=>e=.returned (.tuple #[.int .u64 0,.bool false])/\j=w:=by
 go_enter Tryz.func183,Tryz.ntmps183
 go_wp2;all_goals (refine tz (Tj rfl _ _ _) rfl ?_;refine⟨?_,rfl⟩;simp;try omega)
def VH(x:Nat)(u:x<18446744073709551615)(w:World):Calls xT 183 #[.int .u64 ((x:Int)+1)] w λe j=>e=.returned (.tuple #[.int .u64 (x:Nat),.bool true])/\j=w:=by
 go_enter Tryz.func183,Tryz.ntmps183
 go_wp2;all_goals (refine tz (Tj rfl _ _ _) rfl ?_;refine⟨?_,rfl⟩;simp;try omega)
def RgS(B r n:Nat)(S:List Nat)(keep:Nat->Bool)(g:Nat)(left:Lit->Bool)(w:World):Prop:=
 ∃D,w.ranges xT 38 rV B r n D left g/\IsMap D/\(∀x,has D (kR x)=(decide (x∈S) && (left (kR x) || keep x)))/\∀x,left (kR x)=true->x∈S
def GotS(S:List Nat)(left:Lit->Bool)(l:List Nat):Prop:=l.Nodup/\∀x,x∈l↔x∈S/\left (kR x)=false
def zay{left:Lit->Bool}{r x:Nat}:(left (kR r) && !(kR r).sameKey (kR x))=(left (kR r) && !decide (r=x)):=by
 have h:(kR r).sameKey (kR x)=decide (r=x):=by simp[kR,Lit.sameKey];omega
 rw[h]
section
variable {B r n g x:Nat}{S:List Nat}{kp:Nat->Bool}{left:Lit->Bool}{w:World}{D:DV}
def RgS.next(u:IsMap D)(A:∀y,has D (kR y)=(decide (y∈S) && (left (kR y) || kp y)))(C:∀y,left (kR y)=true->y∈S)(E:left (kR x)=true)(hk:kp x=true)
 (h:w.ranges xT 38 rV B r n D (λz=>left z && !z.sameKey (kR x)) g):RgS B r n S kp g (λz=>left z && !z.sameKey (kR x)) w:=by
 refine⟨D,h,u,λy=>?_,λy j=>C y ?_⟩
 .dsimp only;rw[A y,zay];by_cases e:y=x
  .subst e;simp[hk]
  .simp[e]
 .dsimp only at j;cases h0:left (kR y)with
  |true=>rfl
  |false=>rw[h0]at j;simp at j
def RgS.del(u:IsMap D)(A:∀y,has D (kR y)=(decide (y∈S) && (left (kR y) || kp y)))(C:∀y,left (kR y)=true->y∈S)(hk:kp x=false)
 (h:w.ranges xT 38 rV B r n (D.del (kR x)) (λz=>(left z && !z.sameKey (kR x)) && !z.sameKey (kR x)) g):RgS B r n S kp g (λz=>left z && !z.sameKey (kR x)) w:=by
 rw[Maps.strike_twice]at h;refine⟨_,h,u.del _,λy=>?_,λy j=>C y ?_⟩
 .dsimp only;rw[zay];by_cases e:y=x
  .subst e;rw[has_del_same];simp[hk]
  .rw[has_del_other (λh=>e (Xa h)),A y];simp[e]
 .dsimp only at j;cases h0:left (kR y)with
  |true=>rfl
  |false=>rw[h0]at j;simp at j
def RgS.keep{w':World}(h:RgS B r n S kp g left w)(hb:w'.heap[B]?=w.heap[B]?)(y:w'.heap[r]?=w.heap[r]?):RgS B r n S kp g left w':=by obtain⟨D,j,u⟩:=h;exact⟨D,yD j hb y,u⟩
def GotS.nil(h:∀y,left (kR y)=true↔y∈S):GotS S left []:=
 ⟨UN,λy=>by
  constructor
  .intro h;cases h
  .rintro⟨u,j⟩;rw[(h y).2 u]at j;cases j⟩
def GotS.push{l:List Nat}(h:GotS S left l)(B:left (kR x)=true)(A:x∈S):GotS S (λz=>left z && !z.sameKey (kR x)) (l++[x]):=by
 refine⟨Up.2 ⟨h.1,b6,λa w b hb e=>?_⟩,λy=>?_⟩
 .rw[wI]at hb;rw[e,hb]at w;have:=((h.2 x).1 w).2;rw[B]at this;cases this
 .dsimp only;rw[QM,wE,wI,h.2 y];constructor
  .rintro(⟨u,j⟩|rfl)
   .exact⟨u,.inl j⟩
   .exact⟨A,.inr rfl⟩
  .rintro⟨u,j|j⟩
   .exact .inl ⟨u,j⟩
   .exact .inr j
end
def kpB(k:List Fg)(x:Nat):Bool:=decide (x=0) || !decide (zU k (x-1)=zU k x)
def Yd{k:List Fg}(A:RightK k){l:List Nat}(y:l.Pairwise (·<=·))(w:l.Nodup)(u:∀x,x∈l↔x∈0::CI k/\(x=0\/zU k (x-1)≠zU k x)):l=zq k:=by
 have j:YN l:=by refine(List.pairwise_and_iff.2 ⟨y,w⟩).imp ?_;intro a b h;have:=h.1;have:=h.2;omega
 refine jK j (startsK_asc k) λx=>?_;rw[u,zq,WB,zH,qr,yU];have e1:(k.map Fg.items).flatMap z6=CI k:=by unfold CI;rw[uZ]
 rw[e1];simp only[WO,wG,Wn];refine uQ λ_=>or_congr_right ?_;rw[ne_eq,Vp,UA]
end
section
open Go.RowKit Go.Maps Go.ChangeMaps
attribute [-go_sem] z7
def zR:Value:=.agg #[.int .u64 0,.int .u64 0,.int .u64 0,.string ⟨#[]⟩]
def zsv(w:World):(zeroValue 60).run xT w=.ok zR w:=dK
def zRc:Rc:=⟨0,0,0,⟨#[]⟩⟩
def MR(t B:Nat)(w:World)(l:List Rc):Prop:=∃D,w.ownsMap xT 38 rV B t D/\IsMap D/\(∀r,has D (kR r)=(zrZ l r).isSome)/\∀r,D.atKey (kR r) (.held zR)=.held (rcv ((zrZ l r).getD zRc))
def MR.made(w:World):MR 0 w.heap.size (w.alloc (.map #[] 0)) []:=⟨_,TO _ _ _ _,⟨[],rfl⟩,λr=>by simp[has,zrZ],λr=>by simp[zrZ];rfl⟩
def MR.keep{t B:Nat}{w w':World}{l:List Rc}(h:MR t B w l)(hb:w'.heap[B]?=w.heap[B]?):MR t B w' l:=by obtain⟨D,j,u⟩:=h;exact⟨D,yg j hb,u⟩
def MR.lt{t B:Nat}{w:World}{l:List Rc}(h:MR t B w l):B<w.heap.size:=by obtain⟨D,j,_⟩:=h;exact j.lt
def MR.mono{t j B:Nat}{w:World}{l:List Rc}(h:MR t B w l)(ht:t<=j):MR j B w l:=by obtain⟨D,u,y⟩:=h;exact⟨D,u.mono ht,y⟩
def zsX{t B:Nat}{w:World}{l:List Rc}{j:Array Oper}{rest:List Oper}{o:Oper}{a:Act}{Q:Exit->Act->World->Prop}(G:o.guard=none)(m x:Operand)(u:o.op=.lookup 105 m x true)
 (H:a.eval m=.map (some B)) (h:MR t B w l) {r:Nat} (J:r<zk) (K:a.eval x=.int .u64 (r:Nat))
 (I:zrZ l r=none->wpList xT j Q rest (a.put o.dst (.tuple #[.agg #[.int .u64 0,.int .u64 0,.int .u64 0,.string ⟨#[]⟩],.bool false])) w) (hs:∀y,zrZ l r=some y->wpList xT j Q rest (a.put o.dst (.tuple #[.agg #[.int .u64 y.item,.int .u64 y.rep,.int .u64 y.ctr,.string y.val],.bool true])) w):wpList xT j Q (o::rest) a w:=by
 obtain⟨D,C,L,E,F⟩:=h;refine wpList_lookup_own_ok w G m x _ u 38 60 vF Tryz.underlying105 rV (zsv w) (.held zR) [] rfl B t D H C _ (kR r) K (Zq J) λv M A=>?_;rw[F r]at A;unfold rV at A;cases A;rw[E r];cases hq:zrZ l r with
 |none=>exact I hq
 |some y=>exact hs y hq
def ztf{t B:Nat}{w:World}{l:List Rc}{u:Array Oper}{rest:List Oper}{o:Oper}{a:Act}{Q:Exit->Act->World->Prop}(H:o.guard=none)(m x:Operand)(C:o.op=.lookup 105 m x false)
 (I:a.eval m=.map (some B)) (h:MR t B w l) {r:Nat} (J:r<zk) (K:a.eval x=.int .u64 (r:Nat)) {y:Rc} (L:zrZ l r=some y) (hs:wpList xT u Q rest (a.put o.dst (.agg #[.int .u64 y.item,.int .u64 y.rep,.int .u64 y.ctr,.string y.val])) w):wpList xT u Q (o::rest) a w:=by
 obtain⟨D,F,N,O,G⟩:=h;refine TX H λM A=>?_;obtain⟨v,P,j,E⟩:=F.lookup vF Tryz.underlying105 (zsv w) (zd:=.held zR) (zp:=[]) rfl (Zq J);rw[G r,L]at E;unfold rV at E;cases E;unfold Oper.wp;simp[execOp,C,I,K,j,Result.andThen];exact A _ _ hs
def MR.put{t B:Nat}{w:World}{D:DV}{l:List Rc}{y:Rc}(j:IsMap D)(A:∀r,has D (kR r)=(zrZ l r).isSome)(C:∀r,D.atKey (kR r) (.held zR)=.held (rcv ((zrZ l r).getD zRc)))(u:zr8 l)(E:w.ownsMap xT 38 rV B t (D.put (kR y.item) (.held (rcv y)))):MR t B w (zr4 l y):=by
 refine⟨_,E,j.put _ _,λs=>?_,λs=>?_⟩
 .rw[zsb s u];by_cases e:s=y.item
  .subst e;rw[TY j (Qc _),vj rfl];rfl
  .rw[TU (λh=>e (Xa h)),A s,Vm (λh=>e h.symm)]
 .rw[zsb s u];by_cases e:s=y.item
  .subst e;rw[vj rfl];exact atKey_put_same j (Qc _) _ _
  .rw[Vm (λh=>e h.symm),T2 (λh=>e (Xa h))];exact C s
open Go.WideElems Go.MapKept Go.ChangeMaps in
def zuk{w:World}{B:Nat}{u:Array MapEntry}{c:Nat}{y v:Value}{kl:Lit}(hb:w.heap[B]?=some (.map u c))(F:WideElems.Fit (H:=Value) xT 38 rV u c)(hk:keyOf xT 38 y=some kl):
 ∃(v0:Value) (st:Nat) (J:Array MapEntry) (Y:Nat),(Instr.mapEntry 105 (.map (some B)) y).run xT w=.ok (.tuple #[v0,goInt st]) (setBlock w B (.map J Y))/\∀N:World,N.heap[B]?=some (.map J Y) ->
  ∃K Z,(Instr.entryStore 105 (.map (some B)) (goInt st) v).run xT N=.ok () (setBlock N B (.map K Z))/\(Instr.mapUpdate 105 (.map (some B)) y v).run xT w=.ok () (setBlock w B (.map K Z)):=by
 have S:=tH (w:=w) Tryz.underlying105
 have Q:=TF (P:=xT) hb;have C:=λem=>vF.check w em hk;have E:=λo=>TG (P:=xT) o hb;rcases vF.find w hk u.toList F.keys with⟨L,_⟩|⟨j,I,L,G,O⟩
 .refine⟨zR,c,u.push ⟨y,zR,c⟩,c+1,?_,λN M=>⟨u.push ⟨y,v,c⟩,c+1,?_,?_⟩⟩
  .simp[Instr.mapEntry,S,Q,C,L,zsv,E,Result.andThen,setBlock];exact⟨rfl,rfl⟩
  .have V:((u.push ⟨y,zR,c⟩).toList.map (·.born)).Nodup:=(by rw[UU,WI,Up];refine⟨F.stamped.2.1,b6,λa ha b hb e=>?_⟩;obtain⟨x,hx,rfl⟩:=wC.1 ha;have:=F.stamped.1 x hx;simp at hb;omega);have A:=findIdx_born V (j:=u.size) (e0:=⟨y,zR,c⟩) b6;rw[<-findIdx_arr]at A;have U:(u.push ⟨y,zR,c⟩).modify u.size (λe=>{ e with val:=v })=u.push ⟨y,v,c⟩:=Array.ext' (by
    rw[Uc,UU,UU,<-Array.length_toList,modify_last])
   simp[Instr.entryStore,TF M,asInt,asIntOf,goInt,A,U,TG _ M,Result.andThen,setBlock]
  .simp[Instr.mapUpdate,S,Q,C,L,E,Result.andThen,setBlock]
 .have hj:u[j]?=some I:=(dJ G);have T:({ I with key:=y }:MapEntry)=I:=(by rw[<-O]);have X:u.modify j (λe=>{ e with key:=y })=u:=Array.ext' (by rw[Uc,modify_eq_set _ _ _ _ G,T];exact set_self _ _ _ G);refine⟨I.val,I.born,u,c,?_,λN M=>⟨u.modify j (λe=>{ e with key:=y,val:=v }),c,?_,?_⟩⟩
  .simp[Instr.mapEntry,S,Q,C,L,hj,O,vF.stays w hk,X,E,Result.andThen,setBlock]
  .have A:=findIdx_born F.stamped.2.1 G;rw[<-findIdx_arr]at A;have U:u.modify j (λe=>{ e with val:=v })=u.modify j (λe=>{ e with key:=y,val:=v }):=Array.ext' (by rw[Uc,Uc,modify_eq_set _ _ _ _ G,modify_eq_set _ _ _ _ G,<-O]);simp[Instr.entryStore,TF M,asInt,asIntOf,goInt,A,U,TG _ M,Result.andThen,setBlock]
  .simp[Instr.mapUpdate,S,Q,C,L,hj,O,vF.stays w hk,E,Result.andThen,setBlock]
def zu8{t B:Nat}{w:World}{l:List Rc}(h:MR t B w l)(U:zr8 l)(V:t<maxLen){y:Rc}(O:y.item<zk):∃(J:Value) (st:Int) (K L:World),(Instr.mapEntry 105 (.map (some B)) (.int .u64 (y.item:Nat))).run xT w=.ok (.tuple #[J,.int .i64 st]) K /\
 (Instr.entryStore 105 (.map (some B)) (.int .i64 st) (rcv y)).run xT K=.ok () L/\MR (t+1) B L (zr4 l y)/\w.grownBy L (some B)/\(∀k,k≠B->K.heap[k]?=w.heap[k]?):=by
 obtain⟨D,N,Q,S,T⟩:=h;obtain⟨w',j,Y,Z⟩:=N.update vF Tryz.underlying105 V (Zq O) (val:=rcv y) rfl;have G:=N;obtain⟨es,E,hb,F,_,_⟩:=G;obtain⟨J,st,u,C,e1,e2⟩:=zuk (v:=rcv y) hb F (Zq O);have I:=(XE.1 hb).1;have H:(setBlock w B (.map u C)).heap[B]?=some (.map u C):=by simp[setBlock,I]
 obtain⟨A,M,P,X⟩:=e2 _ H;rw[X]at j;cases j;have e:setBlock (setBlock w B (.map u C)) B (.map A M)=setBlock w B (.map A M):=by simp[setBlock]
 rw[e]at P;exact⟨J,st,_,_,e1,P,MR.put Q S T U Y,Z,λk hk=>by simp[setBlock,Uk hk]⟩
end
section
open Go.RowKit Go.Maps
attribute [-go_sem] z7
def ztw:∀{r xs:List Nat},r.Nodup->(∀y∈r,y∈xs)->r.length<=xs.length
 |[],_,_,_=>X3 _
 |x::r,xs,h,hm=>by obtain⟨w,A⟩:=UF.1 h;have j:x∈xs:=hm x b6;have:=ztw (xs:=xs.erase x) A λy u=>(WY (λe=>w (by rw[<-e];exact u))).2 (hm y (by simp[u]));rw[WG j]at this;have:=uh j;simp;omega
def MR.hasq{D:DV}{l:List Rc}(j:∀r,has D (kR r)=(zrZ l r).isSome){x:Nat}:ztm D x↔(zrZ l x).isSome=true/\x<zk:=by unfold ztm;rw[show kQ x=kR x from rfl,j x]
def zt7{D:DV}{l:List Rc}(w:∀r,has D (kR r)=(zrZ l r).isSome){pre:List Nat}(h:ztD D pre):pre.length<=l.length:=by
 have:=ztw (xs:=l.map Rc.item) h.1 λy A=>by obtain⟨z,hz⟩:=wY.1 ((MR.hasq w).1 (h.2 y A)).1;obtain⟨j,u⟩:=zsB hz;exact wC.2 ⟨z,j,u⟩
 simpa using this
def zuh{t B A:Nat}{w:World}{D:DV}(j:w.ownsMap xT 38 rV B t D)(y:Boxed w A 105 (.map (some B)))(J:∀pre,ztD D pre->pre.length<=1000000):
 Calls xT 101 #[.func (.func 103) #[] #[.pointer (some ⟨A,0,none⟩)]] w λe C=>∃u pre,e=.returned u/\OwnN w.heap.size C u pre/\ztD D pre/\(∀x,x∈pre↔ztm D x)/\Below w.heap.size w C:=by
 have H:=qL (ztF j y J);clear j y;go_enter Tryz.func101,Tryz.ntmps101
 go_wp2_with (go_at_call 138;refine H.o.mono ?_;rintro e K ⟨u,pre,rfl,E,F,G,I⟩)
 go_ret;exact⟨_,pre,rfl,E,F,G,I⟩
def ztu{l:List Rc}(B:zr8 l){j:List Nat}(u:j.Pairwise (·<=·))(w:j.Nodup)(A:∀x,x∈j↔(zrZ l x).isSome=true):j=l.map Rc.item:=by
 refine jK ?_ (uv.2 B) λx=>?_
 .exact u.imp₂ (λa b h n=>a8) w
 .rw[A x];constructor
  .intro h;obtain⟨z,hz⟩:=wY.1 h;obtain⟨C,E⟩:=zsB hz;exact wC.2 ⟨z,C,E⟩
  .intro h;obtain⟨z,hz,rfl⟩:=wC.1 h;cases hg:zrZ l z.item with
   |some y=>rfl
   |none=>unfold zrZ at hg;rw[Ug]at hg;exact absurd b6 (hg z hz)
def zuC(a:Option Addr)(c:Nat)(w:World):Calls xT 164 #[.slice a 0 c,.int .i64 0,.int .i64 0] w λe j=>e=.returned (.tuple #[])/\j=w:=by
 go_enter Tryz.func164,Tryz.ntmps164
 go_wp2_with fail
 refine Tn 2 ?_;rw[tZ]
 go_wp2_with fail
 go_end0
 exact⟨rfl,rfl⟩
def zuL(a:Option Addr)(c:Nat)(l:Int)(w:World):Calls xT 139 #[.slice a 0 c,.int .i64 0,.int .i64 0,.int .i64 l] w λe j=>e=.returned (.tuple #[])/\j=w:=by
 go_enter Tryz.func139,Tryz.ntmps139
 go_wp2_with fail
 refine Tn 2 ?_;rw[tZ]
 go_wp2_with (go_at_call 164;refine(zuC _ _ _).mono ?_;rintro e u ⟨rfl,rfl⟩)
 refine tz (tL rfl _ _ _) rfl ?_;exact⟨rfl,rfl⟩
def zuq(a:Option Addr)(c:Nat)(w:World):Calls xT 102 #[.slice a 0 c] w λe j=>e=.returned (.tuple #[])/\Below w.heap.size w j:=by
 go_enter Tryz.func102,Tryz.ntmps102
 go_wp2_with (first
  |(go_at_call 139;refine(zuL _ _ _ _).mono ?_;rintro e u ⟨rfl,rfl⟩)
  |go_in)
 go_end0
 exact⟨rfl,tu _ _⟩
def ztZ{w y:World}{u:Value}{l:List Rc}{pre:List Nat}(F:zr8 l)(C:OwnN w.heap.size y u pre)(M:pre.Nodup)(L:pre.length<=1000000)(E:∀x,x∈pre↔(zrZ l x).isSome=true)(A:Below w.heap.size w y):
 Calls xT 102 #[u] y λe B=>e=.returned (.tuple #[])/\OwnU w.heap.size B u (l.map Rc.item)/\Below w.heap.size w B:=by
 have j:OwnU w.heap.size y u pre:=C;by_cases G:pre=[]
 .subst G;have e:[]=l.map Rc.item:=ztu F List.Pairwise.nil UN E;obtain⟨a,c,rfl⟩:∃a c,u=.slice a 0 c:=by
   rcases C.2 with⟨h,L⟩|⟨g,I,J,h,_⟩
   .exact⟨none,0,h⟩
   .exact⟨_,_,h⟩
  refine(zuq a c y).mono ?_;rintro K B ⟨rfl,hb⟩;rw[<-e];exact⟨rfl,j.keep λg N=>hb.block g (j.lt g N).2,A.trans (hb.mono A.size)⟩
 .obtain⟨T,H,O,P⟩:=zeb j G a8;have e:T=l.map Rc.item:=ztu F O (H.nodup_iff.2 M) λx=>(by rw[H.mem_iff,E x]);refine P.mono ?_;rintro K B ⟨rfl,Q,S⟩;rw[<-e];exact⟨rfl,Q,A.grown S A.size λk hk=>(j.lt k hk).1⟩
def ztB{t B G:Nat}{w:World}{l:List Rc}(K:zr8 l)(Y:MR t B w l)(hi:∀x∈l,x.item<zk)(A:Boxed w G 105 (.map (some B)))(L:l.length<=1000000):
 Calls xT 66 #[.func (.func 103) #[] #[.pointer (some ⟨G,0,none⟩)]] w λe N=>∃u,e=.returned u/\OwnU w.heap.size N u (l.map Rc.item)/\Below w.heap.size w N:=by
 obtain⟨D,j,_,y,_⟩:=Y;have H:=qL (zuh j A λpre h=>V0 (zt7 y h) L);have O:=qL K;have I:=qL y;have P:=qL hi;clear j A K y hi;go_enter Tryz.func66,Tryz.ntmps66
 go_wp2_with (go_at_call 101;refine H.o.mono ?_;rintro e w1 ⟨u,pre,rfl,E,F,y,J⟩
              have M:∀x,x∈pre↔(zrZ l x).isSome=true:=λx=>(by rw[y x,MR.hasq I.o];refine⟨UQ,λh=>⟨h,?_⟩⟩;obtain⟨z,hz⟩:=wY.1 h;obtain⟨Z,q2⟩:=zsB hz;rw[<-q2];exact P.o z Z);have C:=ztZ O.o E F.1 (V0 (zt7 I.o F) L) M J;obtain⟨ua,uc,rfl⟩:∃a c,u=.slice a pre.length c:=by
               rcases E.2 with⟨h,U⟩|⟨g,S,T,h,_⟩
               .exact⟨none,0,by rw[h,show pre.length=0 from U]⟩
               .exact⟨_,_,h⟩
              have Q:=qL C;clear E F y J C M)
 refine Q.o.mono ?_;rintro e w2 ⟨rfl,V,X⟩;dsimp only
 go_wp2_with fail
 refine tz (tK rfl _ _ _) rfl ?_;exact⟨_,rfl,V,X⟩
end
section
open Go.ChangeShapes Go.WideShapes Go.ChangeAt Go.RowKit Go.Deep
section
variable {H:Type}{enc:TypeId×Value->H}{w:World}{base:Nat}{spare:Nat->Bool}{held:Bool}
end
section
variable {H:Type}{enc:TypeId×Value->H}{w:World}{base:Nat}{spare:Nat->Bool}{held:Bool}
def zhh(w:World)(b o:Nat)(y:List PV):Prop:=∀(j:Nat)(p:PV),y[j]?=some p->∃u,w.cell? ⟨b,o+j,none⟩=some u/\u.oneCell'=true/\Dat (ZG w) w u p
def rdC{α:Type}(cv:α->List PV)(bd:α->Prop)(w:World)(b o:Nat)(x:α):Prop:=zhh w b o (cv x)/\bd x
def VQ{α:Type}{cv:α->List PV}{bd:α->Prop}{sz:Nat}{v:Value}{l:List α}(A:∀x,(cv x).length=sz)(h:RdSl sz (rdC cv bd) 0 w.heap.size w v l):Dat (ZG w) w v (.sl (l.map cv) .sh)/\(∀x∈l,bd x)/\l.length<=9223372036854775807:=by
 obtain⟨a,C,rfl,V,L,X⟩:=h;have O:l.length<=9223372036854775807:=by unfold maxLen at L;omega
 suffices hs:Dat (ZG w) w (.slice a (l.map cv).length C) (.sl (l.map cv) .sh)/\∀x∈l,bd x from ⟨by rw[wu]at hs;exact hs.1,hs.2,O⟩
 by_cases H:l=[]
 .subst H;exact⟨.sl a C sz [] .sh 0 0 (λ_=>undef) b6 (λh=>by cases h) L (λh=>absurd rfl h) (λi e h=>by simp at h) (λj h=>by simp at h) (λi e j p h=>by simp at h),λ_ h=>by cases h⟩
 obtain⟨b,y,rfl,Y,M,P⟩:=X H;have J:∀j,j<l.length*sz->∃u,w.cell? ⟨b,y+j,none⟩=some u/\u.oneCell'=true/\∀(i k:Nat)(hi:i<l.length)(p:PV),j=i*sz+k->(cv l[i])[k]?=some p->Dat (ZG w) w u p:=λj B=>by
  have I:0<sz:=by
   rcases Wi sz with K|K
   .subst K;simp at B
   .exact K
  have hi:j/sz<l.length:=Nat.div_lt_of_lt_mul (by rw[U4];exact B);have hk:j%sz<(cv l[j/sz]).length:=(by rw[A];exact U3 _ I);obtain⟨u,S,u2,u3⟩:=(P _ hi).1 (j%sz) _ (Zv hk);have e:y+j/sz*sz+j%sz=y+j:=(by have:=Nat.div_add_mod j sz;rw[U4]at this;omega);rw[e]at S;refine⟨u,S,u2,λi k Z p F E=>?_⟩;have G:k<sz:=by have:=(Zw.1 E).1;rwa[A]at this
  have q1:j/sz=i:=(by rw[F];rw[U4,Nat.mul_add_div I,Nat.div_eq_of_lt G];omega);have q2:j%sz=k:=(by rw[F];rw[U4,Nat.mul_add_mod,Nat.mod_eq_of_lt G]);subst q1;subst q2;rw[Zv hk]at E;cases E;exact u3
 obtain⟨f,Q⟩:∃f:Nat->Value,∀j,j<l.length*sz->w.cell? ⟨b,y+j,none⟩=some (f j)/\(f j).oneCell'=true/\∀(i k:Nat)(hi:i<l.length)(p:PV),j=i*sz+k->(cv l[i])[k]?=some p->Dat (ZG w) w (f j) p:=by refine⟨λj=>if h:j<l.length*sz then (J j h).choose else undef,λj B=>?_⟩;simp only[uj B];exact(J j B).choose_spec
 refine⟨.sl _ C sz _ .sh b y f (dJ V) (λh=>by cases h) L (λ_=>rfl) (λi e h=>?_) (λj B=>?_) (λi e j p N I=>?_),λx hx=>?_⟩
 .simp only[wj,ZZ]at h;obtain⟨s,_,rfl⟩:=h;exact A s
 .obtain⟨T,U,_⟩:=Q j (dJ B);exact⟨M,T,U⟩
 .have hi:i<l.length:=(by have:=(Zw.1 N).1;simpa using this);rw[xo hi]at N;cases N;have B:j<sz:=by have:=(Zw.1 I).1;rwa[A]at this
  have:i*sz+j<l.length*sz:=(by have:=Ws sz (show i+1<=l.length from hi);rw[WZ]at this;omega);exact(Q _ this).2.2 i j hi p rfl I
 .obtain⟨i,hi,rfl⟩:=Wk hx;exact(P i hi).2
def V2{P:Program}{e:TypeId}{u A B:Field}{n:Nat}{a:Addr}{I:List Value}{y:DataW H×List MemPlace}(he:P.underlying e=some (.struct #[u,A,B]))(o0:u.offset=0)(o1:A.offset=1)(o2:B.offset=2)(T:P.cellsOf u.type=1)(U:P.cellsOf A.type=1)(V:P.cellsOf B.type=1)
 (Y:w.cells? base a 3=some I) (Z:DataW.trod enc P w base spare held n e I=some y) :
 ∃E F G k L M N,w.cell? a=some E/\w.cell? (a.add 1)=some F/\w.cell? (a.add 2)=some G/\DataW.trod enc P w base spare held k u.type [E]=some L/\DataW.trod enc P w base spare held k A.type [F]=some M/\DataW.trod enc P w base spare held k B.type [G]=some N:=by
 obtain⟨_,C,j⟩:=TR Y;obtain⟨xs,k,_,_,_,K,J⟩:=TS he Z;match xs,K,I,C with
 |[L,M,N],_,[E,F,G],_=>have O:=J 0 u rfl;have Q:=J 1 A rfl;have S:=J 2 B rfl;simp[o0,o1,o2,T,U,V]at O Q S;have X:=j 0 a8;have e1:=j 1 a8;have e2:=j 2 a8;exact⟨E,F,G,k,L,M,N,by simpa[Addr.add]using X,dJ e1,dJ e2,O,Q,S⟩
instance : Inhabited En:=⟨⟨0,0,[]⟩⟩
def zfb{n:Nat}{a:Addr}{I:List Value}{y:DataW H×List MemPlace}(N:w.cells? base a 3=some I)(O:DataW.trod enc xT w base spare held n 109 I=some y):a.spot=none/\a.block<w.heap.size/\∃e,rdC ec (λe=>ZL e/\e.holes.length<=9223372036854775807) w a.block a.off e:=by
 obtain⟨Y,Z,J,k,y0,y1,y2,C,e1,e2,K,L,M⟩:=V2 Tryz.underlying109 rfl rfl rfl dK dK dK N O;obtain⟨Q,U,E⟩:=kM Tryz.underlying38 K;obtain⟨S,V,F⟩:=kM Tryz.underlying38 L;obtain⟨G,l,X,B⟩:=ZA M;obtain rfl:Y=_:=dJ U
 obtain rfl:Z=_:=dJ V
 obtain rfl:J=G:=dJ X
 obtain⟨b,T,A⟩:=a;obtain rfl:A=none:=TH C;refine⟨rfl,tq _ _ C,⟨Q,S,l⟩,λj p u=>?_,⟨B.bound,F,E⟩,by have:=B.len;unfold maxLen at this;omega⟩;have P:Dat (ZG w) w J (rg l):=jp B λ_ _ _ h=>h;obtain⟨aa,c,rfl,_⟩:=B;match j,u with
 |0,u=>cases u;exact⟨_,C,rfl,.v _⟩
 |1,u=>cases u;exact⟨_,by simpa[Addr.add]using e1,rfl,.v _⟩
 |2,u=>cases u;exact⟨_,by simpa[Addr.add]using e2,rfl,P⟩
def zet{j:Nat}{u:List Value}{x:DataW H×List MemPlace}(h:DataW.trod enc xT w base spare held j 70 u=some x):∃v l,u=[v]/\RdSl 3 (rdC ec (λe=>ZL e/\e.holes.length<=9223372036854775807)) 0 w.heap.size w v l:=
 Za (rdC ec (λe=>ZL e/\e.holes.length<=9223372036854775807)) Tryz.underlying70 dK (λ_ _ _ _ y A=>zfb y A) h
end
end
end Go.Proofs.YtbhngpjkakcgfaaGreatDoor
