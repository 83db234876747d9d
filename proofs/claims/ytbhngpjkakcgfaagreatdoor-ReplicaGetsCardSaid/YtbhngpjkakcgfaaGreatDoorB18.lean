import Derived.Maps.OwnIn
import Derived.Shelf.Spec.SlicesInsertGrow
import Derived.Test.YtbhngpjkakcgfaaGreatDoorB17
set_option maxHeartbeats 16000000
set_option linter.all false
set_option maxRecDepth 100000
namespace Go.Proofs.YtbhngpjkakcgfaaGreatDoor
def dH{p:Prop}(h:p:=by simp [Act.eval,Act.put]):p:=h
def tJ:=@Go.World.ownsRow.cells
def tX:=@Go.RowKit.Below.setCell
def Th:=@Go.wpList_append_own_at
def Tl:=@Go.World.cell?_setCells_out
def Tq:=@Go.World.cell?_alloc_past
def Ts:=@Go.World.frozen?_setCells
def Ty:=@Go.IntKind.wrap_i64
def TO:=@Go.World.ownsMap_made
def TP:=@Go.run_copy_cells
def TQ:=@Go.Lib.run_append_grow_zeros
def TU:=@Go.Maps.has_put_other
def TY:=@Go.Maps.has_put_same
def TZ:=@Go.World.frozen?_alloc_at
def T0:=@Go.Lib.run_overlaps_apart
def T2:=@Go.Maps.atKey_put_other
open Go.Proofs.Tryz renaming prog->xT
section
open Go.RowKit
def VX(u:List (List Iv))(H:u.length<=1048576)(I:∀l∈u,l.length<=1048576)(K:(yU u).length<=1048576)(P:∀l∈u,∀s∈l,s.lo<zk/\s.hi<zk):Cn xT 155 [rgs u] (.sl ((zH u).map yN) .sh):=by
 have Q:=zw;refine zt Tryz.func155 1 ?_;refine pw ?_;refine pLoop.go (λi=>i<=u.length) (λi=>[(3,.sl ((kA u i 0).map yN) (.r 9 1)),(4,.v (.int .i64 (i:Nat)))]) (λ_=>[]) (λi=>u.length-i) 0 [3,4,9] ?_ ?_ ?_
 .exact X3 _
 .rw[zf6];exact pd
 ·rintro i hi;refine pw ?_;refine .i ?_ ?_<;>intro h<;>(try simp only[zb]at h)<;>first|refine pw ?_|exact pd
  .have S:=I _ (Yf h);refine pLoop.go (λj=>j<=u[i].length) (λj=>[(3,.sl ((kA u i j).map yN) (.r 9 1)),(5,.v (.int .i64 (j:Nat)))]) (λ_=>[]) (λj=>u[i].length-j) 0 [3,5,9] ?_ ?_ ?_
   .exact X3 _
   .exact pd
   .rintro j N;have B:=zdK j h;refine pw ?_;refine .i ?_ ?_<;>intro y<;>(try simp only[zb]at y)<;>first|refine pw ?_|exact pd
    .have hb:=P _ (Yf h) _ (Yf y);refine callQ.mk zgX rfl ?_;refine pw ?_;refine .i ?_ ?_<;>intro M<;>(try simp only[zb]at M)<;>first|refine pw ?_|exact pd
     .refine⟨j+1,y,a8,?_,rfl⟩;rw[YF h y,jQ,vj a8];simp[yN]
     .refine⟨j+1,y,a8,?_,rfl⟩;rw[YF h y,jQ,Vm a8];simp[yN]
    .refine⟨i+1,h,a8,?_,rfl⟩;rw[zbv h y]
  ·rw [zdJ h];generalize G:yU u=xs at K⊢;have F:zH u=srt xs:=(by rw[<-G];rfl);rw[F];refine pLoop.mk (λk=>k<=xs.length) (λk=>⟨[(3,.sl (xs.map yN) (.r 9 1)),(6,.sl ((srt (xs.take k)).map yN) (.r 108 1)),(7,.v (.int .i64 (k:Nat)))],[]⟩) (λk=>xs.length-k) 0 ?_ ?_ ?_
   .exact X3 _
   .rw[Wb,XB];exact pd
   .rintro k hk;have B:=ju (xs.take k);have E:(xs.take k).length<=k:=uK _ _;refine pw ?_;refine .i ?_ ?_<;>intro w<;>(try simp only[zb]at w)<;>first|refine pw ?_|exact pd
    .refine pLoop.go (λa=>a<=(srt (xs.take k)).length/\∀m (h:m<(srt (xs.take k)).length),a<=m->xs[k]<(srt (xs.take k))[m]) (λa=>[(8,.v (.int .i64 (a:Nat)))]) (λ_=>[]) (λa=>a) (srt (xs.take k)).length [8] ?_ ?_ ?_
     .exact⟨Zp _,λm H I=>absurd H a8⟩
     .exact pd
     .rintro at_ ⟨ha,hb⟩;refine pw ?_;refine .i ?_ ?_<;>intro L<;>(try simp only[zb]at L)<;>first|refine pw ?_|exact pd
      .refine .i ?_ ?_<;>intro J<;>(try simp only[zb]at J)<;>first|refine pw ?_|exact pd
       .refine⟨at_-1,⟨a8,λm O C=>?_⟩,a8,rfl⟩;rcases uB C with A|A
        .subst A;exact J
        .exact hb m O a8
       .refine .i ?_ ?_<;>intro C<;>(try simp only[zb]at C)<;>first|refine pw ?_|exact pd
        .exact absurd C a8
        .refine .i ?_ ?_<;>intro A<;>(try simp only[zb]at A)<;>first|refine pw ?_|exact pd
         .refine cutP.mk [3,7] ?_ (keepOk.mk2 rfl rfl ?_ ?_ ?_) ?_
          .exact pd
          .exact pd
          .exact pd
          .right;exact pd
          .refine pw ?_;refine⟨k+1,w,a8,?_,rfl⟩;rw[X4 w,kJ ha hb (.inr ⟨a8,a8⟩)];simp[yN]
         .refine⟨k+1,w,a8,?_,rfl⟩;rw[X4 w,zaw (by rw[<-A];exact Yf _)]
      .obtain rfl:at_=0:=a8;have hz:=kJ ha hb (.inl rfl);rw[<-X4 w]at hz;refine pw ?_;refine cutP.mk [3,7] ?_ (keepOk.mk2 rfl rfl ?_ ?_ ?_) ?_
       .exact pd
       .exact pd
       .exact pd
       .right;exact pd
       .refine pw ?_;refine⟨k+1,w,a8,?_,rfl⟩;rw[hz];simp[yN]
    .rw[wm w]
def Kl{ls:List (List Iv)}:(zH ls).length<=(yU ls).length:=ju _
def zjo(a b:List Iv):(yU [a,b]).length<=1+2*a.length+2*b.length:=by have:=vq a;have:=vq b;simp[yU];omega
def zhw(a b:List Iv)(op:Nat)(ha:Nrm a)(hb:Nrm b)(ho:op<3)(K:a.length<=131072)(L:b.length<=131072):Cn xT 129 [rg a,rg b,.v (.int .i64 op)] (rg (qy (Qj op) a b)):=by
 have M:=zw;have C:=zjo a b;have G:=Kl (ls:=[a,b]);have hcut:∀c,c∈z6 a\/c∈z6 b->c∈zH [a,b]:=λc E=>qr.2 (by simp[yU];exact .inr E);have j:∀x∈zH [a,b],x<zk:=Ze (by simp;exact⟨λs hs=>(ha.lt s hs).1,λs hs=>(hb.lt s hs).1⟩);refine zt Tryz.func129 3 ?_;refine pw ?_;refine callO.rd (VX [a,b] b6 a9 a8 (by simp;exact⟨ha.lt,hb.lt⟩)) rfl ?_;refine pw ?_;refine pLoop.go (λp:Nat×List Iv=>p.1<=(zH [a,b]).length/\DoInv (Qj op) a b (zH [a,b]) p.1 p.2) (λp=>[(8,.sl (p.2.map Q2) (.r 38 2)),(9,.v (.int .i64 (p.1:Nat)))]) (λ_=>[]) (λp=>(zH [a,b]).length-p.1) (0,[]) [8,9] ?_ ?_ ?_
 .exact⟨X3 _,DoInv.zero _⟩
 .exact pd
 .rintro⟨i,w⟩ ⟨hi,u⟩;simp only at hi u;have F:=u.len;refine pw ?_;refine .i ?_ ?_<;>intro h<;>(try simp only[zb]at h)<;>first|refine pw ?_|exact pd
  .refine callQ.mk (kU a _ a8) rfl ?_;refine pw ?_;refine callQ.mk (kU b _ a8) rfl ?_;refine pw ?_;refine callQ.mk (zi5 _ _ op ho) rfl ?_;obtain⟨H,I⟩:=u.step ha hb (x8 _) j hcut h;refine pw ?_;refine .i ?_ ?_<;>intro y<;>(try simp only[zb]at y)<;>first|refine pw ?_|exact pd
   .refine callP.mk (zan _ i h a8 λB=>?_) rfl ?_
    .have:=jJ (x8 [a,b]) B (UY i);have:=j _ (Yf B);omega
    have J:=H y;have A:=j _ (Yf h);refine pw ?_;refine callO.mk (zlq w ⟨(zH [a,b])[i],if h:i+1<(zH [a,b]).length then (zH [a,b])[i+1]-1 else zk-1⟩ A (λt ht=>?_) a8) rfl ?_
    .have e:KD (zH [a,b]) i=(zH [a,b])[i]:=uj h;have:=u.lt t ht;have:=u.nrm.lt t ht;show _/\t.hi<(zH [a,b])[i];omega
    refine pw ?_;exact⟨(i+1,_),⟨h,J⟩,a8,rfl,rfl⟩
   .exact⟨(i+1,w),⟨h,I y⟩,a8,rfl,rfl⟩
  .obtain rfl:i=(zH [a,b]).length:=a8;rw[u.done ha hb]
def znf:Qj 0=zn:=rfl
def Kf(a b:List Iv)(ha:Nrm a)(hb:Nrm b)(j:a.length<=131072)(u:b.length<=131072):Cn xT 133 [rg a,rg b] (rg (qy zn a b)):=by refine zt Tryz.func133 2 ?_;refine pw ?_;refine callP.mk (zhw a b 0 ha hb a8 j u) rfl ?_;refine pw ?_;rfl
def zq2(a b:List Iv)(ha:Nrm a)(hb:Nrm b)(j:a.length<=131072)(u:b.length<=131072):Cn xT 96 [rg a,rg b] (rg (qy fMeet a b)):=by refine zt Tryz.func96 2 ?_;refine pw ?_;refine callP.mk (zhw a b 1 ha hb a8 j u) rfl ?_;refine pw ?_;rfl
def QE(a b:List Iv)(ha:Nrm a)(hb:Nrm b)(j:a.length<=131072)(u:b.length<=131072):Cn xT 157 [rg a,rg b] (rg (qy zm a b)):=by refine zt Tryz.func157 2 ?_;refine pw ?_;refine callP.mk (zhw a b 2 ha hb a8 j u) rfl ?_;refine pw ?_;rfl
def zd6(s:Iv):Cn xT 38 [Je s] (.v (.bool (decide (s.lo<=s.hi)))):=by refine zt Tryz.func38 1 ?_;exact pd
def y7(l:List Iv)(k:Nat):Option Iv:=if k=0 then none else l[k-1]?
def XO(l:List Iv)(B:l.length<=9223372036854775807)(hb:∀s∈l,s.lo<zk/\s.hi<zk):Cn xT 13 [rg l] (.tup [.v (.int .i64 (Zl l).1),.v (.int .i64 (Zl l).2)]):=by
 refine zt Tryz.func13 1 ?_;refine pw ?_;refine pLoop.go (λk=>k<=l.length/\Zl l=QZ (y7 l k) (l.drop k) k) (λk=>[(4,.v (.int .i64 (k:Nat)))]) (λ_=>[]) (λk=>l.length-k) 0 [4] ?_ ?_ ?_
 .exact⟨X3 _,rfl⟩
 .exact pd
 .rintro k ⟨hk,j⟩;refine pw ?_;refine .i ?_ ?_<;>intro h<;>(try simp only[zb]at h)<;>first|refine pw ?_|exact pd
  .refine callP.mk (zd6 l[k]) rfl ?_;rw[Yj h]at j;refine pw ?_;refine .i ?_ ?_<;>intro y<;>(try simp only[zb]at y)<;>first|refine pw ?_|exact pd
   .rw[Vm a8]at j;rw[j];rfl
   .rw[vj y]at j;have hs:y7 l (k+1)=some l[k]:=(by unfold y7;rw[Vm a8];exact Zv h);refine .i ?_ ?_<;>intro A<;>(try simp only[zb]at A)<;>first|refine pw ?_|exact pd
    .have w:y7 l k=some l[k-1]:=(by unfold y7;rw[Vm a8,Zv]);rw[w]at j;refine callQ.mk (zd3 l[k-1] l[k] (hb _ (Yf _)).1 (hb _ (Yf _)).1) rfl ?_;refine pw ?_;refine .i ?_ ?_<;>intro u<;>(try simp only[zb]at u)<;>first|refine pw ?_|exact pd
     .rw[Vm (dJ u)]at j;rw[j];rfl
     .rw[vj (dJ u)]at j;exact⟨k+1,⟨h,by rw[hs];exact j⟩,a8,rfl⟩
    .have w:y7 l k=none:=(by unfold y7;rw[vj a8]);rw[w]at j;exact⟨k+1,⟨h,by rw[hs];exact j⟩,a8,rfl⟩
  .rw[wA h]at j;rw[j];rfl
def n23:Nrm [⟨2,3⟩,⟨9,9⟩]:=by simp[Nrm,NF,zw]
def n01:Nrm [⟨0,1⟩,⟨4,8⟩]:=by simp[Nrm,NF,zw]
def n09:Nrm [⟨0,9⟩]:=by simp[Nrm,NF,zw]
def e1:qy zm [⟨0,9⟩] [⟨2,3⟩,⟨9,9⟩]=[⟨0,1⟩,⟨4,8⟩]:=vK n09 n23 n01 λx _=>by rw[WC];simp[mem,zm];omega
def e2:qy zn [⟨2,3⟩,⟨9,9⟩] [⟨0,1⟩,⟨4,8⟩]=[⟨0,9⟩]:=vK n23 n01 n09 λx _=>by rw[WC];simp[mem,zn];omega
def e4:qy zm [⟨2,3⟩,⟨9,9⟩] [⟨0,1⟩,⟨4,8⟩]=[⟨2,3⟩,⟨9,9⟩]:=vK n23 n01 n23 λx _=>by rw[WC];simp[mem,zm];omega
def e5:qy fMeet [⟨2,3⟩,⟨9,9⟩] [⟨0,1⟩,⟨4,8⟩]=[]:=vK n23 n01 trivial λx _=>by rw[WC];simp[mem,fMeet];omega
def e6:qy zm [⟨2,3⟩,⟨9,9⟩] [⟨0,1⟩,⟨4,8⟩]=[⟨2,3⟩,⟨9,9⟩]:=vK n23 n01 n23 λx _=>by rw[WC];simp[mem,zm];omega
def BdR(l:List Iv):Prop:=∀s∈l,s.lo<zk/\s.hi<zk
def ec(e:En):List PV:=[.v (.int .u64 e.rep),.v (.int .u64 e.max),rg e.holes]
def ep(e:En):PV:=.agg (ec e)
attribute [go_sem] ep ec
def hk(m:Nat):List Iv->Nat->Nat×Int
 |[],_=>(0,-1)
 |s::r,i=>if m<s.hi then (4,(i:Int)) else hk m r (i+1)
def yV(e:En):Nat×Int:=if (Zl e.holes).1=0 then hk e.max e.holes 0 else Zl e.holes
def K4(m:Nat):∀(l:List Iv)(i:Nat),(hk m l i).1=0↔∀s∈l,s.hi<=m
 |[],i=>by simp[hk]
 | s::r,i=>by
   have:=K4 m r (i+1);unfold hk;split
   .simp;omega
   .rw[this];simp;omega
def K3{m:Nat}{l:List Iv}{k:Nat}(h:k<l.length):hk m (l.drop k) k=if m<l[k].hi then (4,(k:Int)) else hk m (l.drop (k+1)) (k+1):=by rw[vD h];rfl
def Xu(e:En):Bool:=decide ((yV e).1=0)
def VU{e:En}(h:∀s∈e.holes,s.lo<zk/\s.hi<zk)(w:e.max<zk)(y:e.rep<zk):Xu e=true↔zO e:=by
 have u:=YT (l:=e.holes) λs hs=>(h s hs).2;have hz:=K4 e.max e.holes 0;unfold Xu yV zO;rw[wG];by_cases j:(Zl e.holes).1=0
 .rw[vj j,hz];exact⟨λg=>⟨u.1 j,g,w,y⟩,λg=>g.2.1⟩
 .rw[Vm j];exact⟨λg=>absurd g j,λg=>absurd (u.2 g.1) j⟩
def zcj(e:En)(A:e.holes.length<=9223372036854775807)(hb:∀s∈e.holes,s.lo<zk/\s.hi<zk):Cn xT 71 [ep e] (.tup [.v (.int .i64 (yV e).1),.v (.int .i64 (yV e).2)]):=by
 refine zt Tryz.func71 1 ?_;refine pw ?_;refine .c (XO e.holes A hb) ?_;refine .i ?_ ?_<;>intro h<;>(try simp only[zb]at h)<;>first|refine pw ?_|exact pd
 .unfold yV;rw[Vm a8]
 .refine pLoop.go (λk=>k<=e.holes.length/\yV e=hk e.max (e.holes.drop k) k) (λk=>[(6,.v (.int .i64 (k:Nat)))]) (λ_=>[ec e]) (λk=>e.holes.length-k) 0 [6] ?_ ?_ ?_
  .refine⟨X3 _,?_⟩;unfold yV;rw[vj a8];rfl
  .exact pd
  .rintro k ⟨y,j⟩;refine pw ?_;refine .i ?_ ?_<;>intro u<;>(try simp only[zb]at u)<;>first|refine pw ?_|exact pd
   .rw[K3 u]at j;refine .i ?_ ?_<;>intro w<;>(try simp only[zb]at w)<;>first|refine pw ?_|exact pd
    .rw[j,vj w];simp
    .rw[Vm a8]at j;exact⟨k+1,⟨u,j⟩,a8,rfl⟩
   .rw[wA u]at j;rw[j];simp[hk]
def Vl(e:En)(h:zO e)(j:e.holes.length<=131072):Cn xT 160 [ep e] (rg (kn e)):=by refine zt Tryz.func160 1 ?_;refine pw ?_;refine .c (QE [⟨0,e.max⟩] e.holes (qG (X3 _) h.2.2.1) h.1 b6 j) ?_;rfl
def zg1(r:Nat)(l:List Iv)(j:Nrm l)(u:l.length<=131072):Cn xT 128 [.v (.int .u64 r),rg l] (.tup [ep (Qi r l).1,.v (.bool (Qi r l).2)]):=by
 refine zt Tryz.func128 2 ?_;refine pw ?_;refine .i ?_ ?_<;>intro h<;>(try simp only[zb]at h)<;>first|refine pw ?_|exact pd
 .subst h;rfl
 .have y:0<l.length:=wW.2 (dJ h);have ht:=Kr y;have w:=(x9 j (dJ h)).2;try simp (maxSteps:=2000000) (disch:=omega) only[go_sem,seval,ht]
  repeat ((with_reducible refine And.intro ?_ ?_);focus exact yI)
  refine .c (QE [⟨0,QV l⟩] l (qG (X3 _) w) j b6 u) ?_;rw[qD (dJ h)]
def zgE(x:Nat)(u:x<zk):Cn xT 183 [.v (.int .u64 x)] (.tup [.v (.int .u64 (x-1:Nat)),.v (.bool (decide (x≠0)))]):=by
 have j:=zw;refine zt Tryz.func183 1 ?_;refine pw ?_;refine .i ?_ ?_<;>intro h<;>(try simp only[zb]at h)<;>first|refine pw ?_|exact pd
 .subst h;rfl
 .simp[h]
def zeq(x:Nat):Cn xT 144 [.v (.int .u64 x)] (Je ⟨0,x⟩):=by
 refine zt Tryz.func144 1 ?_
 (first|refine pw ?_|exact pd)
 try rfl
def XZ(e:En)(h:zO e)(j:e.holes.length<=131072):Cn xT 187 [ep e] (rg (kn e)):=by refine zt Tryz.func187 1 ?_;refine pw ?_;refine .c (zeq e.max) ?_;refine .c (zg0 e.holes ⟨0,e.max⟩ h.1 (X3 _) h.2.2.1 a8) ?_;rfl
def zjT(r:Nat)(l:List Iv)(j:Nrm l)(y:l.length<=131072):Cn xT 113 [.v (.int .u64 r),rg l] (.tup [ep (Qi r l).1,.v (.bool (Qi r l).2)]):=by
 refine zt Tryz.func113 2 ?_;refine pw ?_;refine .i ?_ ?_<;>intro h<;>(try simp only[zb]at h)<;>first|refine pw ?_|exact pd
 .subst h;rfl
 .have w:0<l.length:=wW.2 (dJ h);have ht:=Kr w;have u:=(x9 j (dJ h)).2;try simp (maxSteps:=2000000) (disch:=omega) only[go_sem,seval,ht]
  repeat ((with_reducible refine And.intro ?_ ?_);focus exact yI)
  refine .c (zeq (QV l)) ?_;refine .c (zg0 l ⟨0,QV l⟩ j (X3 _) u a8) ?_;rw[qD (dJ h)]
section
variable (a b:En)(ha:zO a)(hb:zO b)(la:a.holes.length<=10000)(lb:b.holes.length<=10000)
include ha hb la lb
end
def JQ{l:List Iv}(h:0<l.length):l=l.take (l.length-1)++[l[l.length-1]]:=by
 conv=>lhs;rw[<-Wc (l.length-1) l]
 congr 1;rw[vD a8,wA a8]
def zeP(e:En)(h:zO e)(J:e.holes.length<=10000):Cn xT 182 [ep e] (.tup [ep (kP e).1,.v (.bool (kP e).2)]):=by
 have I:=zw;refine zt Tryz.func182 1 ?_;refine pw ?_;refine pLoop.go (λf:En=>zO f/\f.rep=e.rep/\kn f=kn e/\f.holes.length<=e.holes.length) (λ_=>[]) (λf=>[ec f,[.v (.int .u64 0),.v (.int .u64 0),.sl [] .sh]]) (λf=>f.holes.length) e [] ?_ ?_ ?_
 .exact⟨h,rfl,rfl,Zp _⟩
 .exact pd
 .rintro f ⟨j,B,y,H⟩;have w:YP f->Qi e.rep (kn e)=(f,true):=λw=>(by rw[<-B,<-y];exact ZM w);unfold kP;refine pw ?_;refine .i ?_ ?_<;>intro C<;>(try simp only[zb]at C)<;>first|refine pw ?_|exact pd
  .have hs:=JQ C;have hb:=NF.lo_ge j.1 _ (Yf (show f.holes.length-1<f.holes.length by omega));have E:=j.2.2.1;refine pw ?_;refine .i ?_ ?_<;>intro u<;>(try simp only[zb]at u)<;>first|refine pw ?_|exact pd
   .rw[w (zcc j hs u)]
   .refine .c (zgE (f.holes[f.holes.length-1]).lo a8) ?_;refine .i ?_ ?_<;>intro A<;>(try simp only[zb]at A)<;>first|refine pw ?_|exact pd
    .rw[<-y,Jl j hs u (dJ A)];rfl
    .obtain⟨F,G⟩:=Jm j hs u (by first|omega|(simp at A;omega));refine⟨⟨f.rep,f.holes[f.holes.length-1].lo-1,f.holes.take (f.holes.length-1)⟩,⟨F,B,G.trans y,a9⟩,a9,?_⟩;exact pd
  .rw[w (Xb j (wH a8))]
def zi9{n:Int}(h : -9223372036854775808<=n/\n<9223372036854775808):IntKind.i64.wrap n=n:=by simp only[IntKind.wrap,IntKind.bits,IntKind.signed];simp;omega
def KV(p:Nat->Prop)[DecidablePred p]:∀n,(∀i j,i<=j->j<n->p j->p i)->∃i,i<=n/\(∀j,j<i->p j)/\∀j,i<=j->j<n->¬p j
 |0,_=>⟨0,Zp _,λj h=>absurd h a8,λj y u=>absurd u a8⟩
 | n+1,h=>by
   by_cases B:p n
   .exact⟨n+1,Zp _,λj F=>h j n a8 a8 B,λj y u=>absurd u a8⟩
   .obtain⟨i,y,u,C⟩:=KV p n λi j w F=>h i j w a8;refine⟨i,a8,u,λj E G=>?_⟩;rcases wK j n with A|A
    .exact C j E A
    .obtain rfl:j=n:=a8;exact B
attribute [go_sem] zi9
def zhn(l:List Iv)(x:Nat)(g:FuncId)(c:Nat->Int)(i:Nat)(hi:i<=l.length)(G:∀j,j<i->c j<0)(H:∀j,i<=j->j<l.length->0<=c j)(I:l.length<=1152921504606846976)
 (w:∀k (h:k<l.length),Cn xT g [Je l[k],.v (.int .u64 x)] (.v (.int .i64 (c k)))):Cn xT 104 [rg l,.v (.int .u64 x),.fn (.func g) [] []] (.tup [.v (.int .i64 i),.v (.bool (decide (i<l.length) && decide (c i=0)))]):=by
 refine zt Tryz.func104 3 ?_;refine pw ?_;refine pLoop.go (λp:Nat×Nat=>p.1<=i/\i<=p.2/\p.2<=l.length) (λp=>[(9,.v (.int .i64 (p.1:Nat))),(10,.v (.int .i64 (p.2:Nat)))]) (λ_=>[]) (λp=>p.2-p.1) (0,l.length) [9,10] ?_ ?_ ?_
 .exact⟨X3 _,hi,Zp _⟩
 .exact pd
 .rintro⟨p,q⟩ ⟨C,E,F⟩;simp only at C E F;refine pw ?_;refine .i ?_ ?_<;>intro h<;>(try simp only[zb]at h)<;>first|refine pw ?_|exact pd
  .have B:(p+q)/2<l.length:=a8;refine pw ?_
   (first|refine .c (w ((p+q)/2) B) ?_|refine .o (w ((p+q)/2) B) ?_)
   refine .i ?_ ?_<;>intro u<;>(try simp only[zb]at u)<;>first|refine pw ?_|exact pd
   .refine⟨((p+q)/2+1,q),⟨?_,E,F⟩,by simp only;omega,rfl,rfl⟩;simp only;refine Ua λA=>?_;have:=H _ A B;omega
   .refine⟨(p,(p+q)/2),⟨C,?_,by simp only;omega⟩,by simp only;omega,rfl,rfl⟩;simp only;refine ul λA=>?_;have:=G _ A;omega
  .obtain rfl:p=i:=a8;obtain rfl:q=p:=a8;refine .i ?_ ?_<;>intro u<;>(try simp only[zb]at u)<;>first|refine pw ?_|exact pd
   ·(first|refine .c (w q u) ?_|refine .o (w q u) ?_)
    simp[u]
   .have y:¬q<l.length:=a8;simp[y]
def zd5(s:Iv)(x:Nat):Cn xT 105 [Je s,.v (.int .u64 x)] (.v (.int .i64 (if s.hi<x then -1 else if x<s.lo then 1 else 0))):=by
 refine zt Tryz.func105 2 ?_;refine pw ?_;refine .i ?_ ?_<;>intro j<;>(try simp only[zb]at j)<;>first|refine pw ?_|exact pd
 .rw[vj j]
 .rw[Vm a8];refine .i ?_ ?_<;>intro u<;>(try simp only[zb]at u)<;>first|refine pw ?_|exact pd
  .rw[vj u]
  .rw[Vm a8]
def zdE{l:List Iv}(C:Nrm l)(x:Nat):∃i,i<=l.length/\(∀j,(h:j<l.length)->j<i->l[j].hi<x)/\(∀j,(h:j<l.length)->i<=j->x<=l[j].hi)/\(mem l x=true↔∃h:i<l.length,l[i].lo<=x):=by
 have mono:∀{n:Nat}{l:List Iv},NF n l->∀i j,(u:i<j)->(w:j<l.length)->l[i].hi<l[j].lo:=by
  intro n l;induction l generalizing n with
  |nil=>intro _ i j _ w;simp at w
  | cons s l ih=>
    intro h i j u w;obtain⟨E,rfl⟩:∃E,j=E+1:=⟨j-1,a8⟩;cases i with
    |zero=>have:=NF.lo_ge h.2.2.2 (l[E]'(dJ w)) (Yf _);simp only[ux,WM];omega
    |succ i=>exact ih h.2.2.2 i E a8 (dJ w)
 obtain⟨i,I,G,J⟩:=KV (λj=>∃h:j<l.length,l[j].hi<x) l.length λa b hab hb ⟨B,H⟩=>by
  refine⟨a8,?_⟩;rcases uC hab with y|y
  .have:=mono C a b y hb;have:=NF.lo_ge C l[b] (Yf _);omega
  .subst y;exact H
 have A:∀j,(h:j<l.length)->i<=j->x<=l[j].hi:=λj w u=>by have:=J j u w;exact ul λh=>this ⟨w,h⟩
 refine⟨i,I,λj w F=>(G j F).2,A,?_⟩;rw[qf];constructor
 .rintro⟨s,hs,B,H⟩;obtain⟨j,w,rfl⟩:=Wk hs;have u:i<=j:=ul λh=>(by have:=(G j h).2;omega);refine⟨a8,?_⟩;rcases uC u with y|y
  .have:=mono C i j y w;have:=NF.lo_ge C (l[i]'a8) (Yf _);omega
  .subst y;exact B
 .rintro⟨h,B⟩;exact⟨l[i],Yf _,B,A i h (Zp _)⟩
def zaT(x:Nat)(s:Iv):Int:=if s.hi<x then -1 else if x<s.lo then 1 else 0
def ziQ(l:List Iv)(x:Nat)(H:Nrm l)(I:l.length<=1152921504606846976):Cn xT 33 [rg l,.v (.int .u64 x)] (.v (.bool (mem l x))):=by
 obtain⟨i,E,F,C,G⟩:=zdE H x;have hF:Cn xT 68 [rg l,.v (.int .u64 x)] (.v (.int .i64 (if mem l x then (i:Int) else -1))):=by
  refine zt Tryz.func68 2 ?_;refine pw ?_;refine .c (zhn l x 105 (λk=>if h:k<l.length then zaT x l[k] else 0) i E (λj B=>by rw[uj (show j<l.length by omega)];unfold zaT;rw[vj (F j a8 B)];decide) (λj B y=>by rw[uj y];unfold zaT;rw[Vm (by have:=C j y B;omega)];split<;>decide) I (λk h=>by rw[uj h];exact zd5 l[k] x)) ?_;have e:(decide (i<l.length) && decide ((if h:i<l.length then zaT x l[i] else 0)=0))=mem l x:=by
   rw[WC,G];simp only[Vq,wG];constructor
   .rintro⟨w,u⟩;refine⟨w,?_⟩;rw[uj w]at u;unfold zaT at u;split at u
    .cases u
    .split at u
     .cases u
     .omega
   .rintro⟨w,u⟩;refine⟨w,?_⟩;rw[uj w];unfold zaT;rw[Vm (by have:=C i w (Zp _);omega),Vm a8]
  rw[e];refine .i ?_ ?_<;>intro A<;>(try simp only[zb]at A)<;>first|refine pw ?_|exact pd
  .rw[A];rfl
  .rw[A];rfl
 refine zt Tryz.func33 2 ?_;refine pw ?_
 (first|refine .c (hF) ?_|refine .o (hF) ?_)
 cases mem l x<;>simp
def zoS(e:En)(c:Nat)(h:zO e)(w:e.holes.length<=1152921504606846976):Cn xT 108 [ep e,.v (.int .u64 c)] (.v (.bool (decide (c<=e.max) && !mem e.holes c))):=by
 refine zt Tryz.func108 2 ?_;refine pw ?_;refine .i ?_ ?_<;>intro u<;>(try simp only[zb]at u)<;>first|refine pw ?_|exact pd
 .refine .c (ziQ e.holes c h.1 w) ?_;simp[u]
 .have j:¬c<=e.max:=a8;simp[j]
def vp(v:List En):PV:=.sl (v.map ec) .sh
attribute [go_sem] vp
def ZL(e:En):Prop:=(∀s∈e.holes,s.lo<zk/\s.hi<zk)/\e.max<zk/\e.rep<zk
def ea:En:=⟨1,2,[]⟩
def eb:En:=⟨1,5,[⟨3,4⟩]⟩
def ed:En:=⟨1,5,[]⟩
section
variable (a b:En)(ha:ZL a)(hb:ZL b)
include ha hb
end
def ze4{D:Qk}{w:World}{x:Value}{v:List En}(h:Dat D w x (vp v))(F:∀b o,D b o->b<w.heap.size)(hb:∀e∈v,ZL e):RdV w.heap.size w x v:=by
 unfold vp at h;generalize G:v.map ec=es at h;cases h with
 |sl a cap sz es o b off u hc hz hm ha hsz hd hx=>have H:es.length=v.length:=(by rw[<-G];simp);refine⟨a,cap,by rw[H],a8,hm,λB=>?_⟩;have y:0<v.length:=wW.2 B;have g:∀i (h:i<v.length),es[i]?=some (ec v[i]):=λi h=>(by rw[<-G];exact xo h);obtain rfl:3=sz:=hsz 0 _ (g 0 y);have A:es≠[]:=(by intro e;subst e;simp at H;omega);have j:b<w.heap.size:=F _ _ (hd 0 a8).1;refine⟨b,off,ha A,X3 _,j,λi hi=>?_⟩;have K:=(hx i _ 0 _ (g i hi) rfl).v_inv;have e1:=(hx i _ 1 _ (g i hi) rfl).v_inv;have e2:=hx i _ 2 _ (g i hi) rfl;have C:=(hd (i*3+0) a8).2.1;have E:=(hd (i*3+1) a8).2.1;have J:=(hd (i*3+2) a8).2.1;rw[K]at C;rw[e1]at E;obtain⟨b1,b2,I⟩:=hb _ (Yf hi);exact⟨C,E,⟨_,J,je e2 F b1⟩,I,b2⟩
def ns(l:List Nat):PV:=.sl (l.map yN) .sh
attribute [go_sem] ns
def vL{D:Qk}{base:Nat}{w:World}{v:Value}{l:List Nat}(h:OwnN base w v l)(G:∀b o,base<=b->b<w.heap.size->D b o):Dat D w v (ns l):=by
 unfold ns;have u:(l.map yN).length=l.length:=b6
 rcases id h.2 with⟨rfl,F⟩|⟨g,A,E,rfl,I,J,K,H,_⟩
 .obtain rfl:l=[]:=wX.1 F;exact .sl none 0 1 [] .sh 0 0 (λ_=>undef) b6 (λh=>by cases h) c8 (λh=>absurd rfl h) (λi e h=>by simp at h) (λj h=>by simp at h) (λi e j p h=>by simp at h)
 .rw[<-u];refine .sl _ A 1 _ .sh g 0 (λj=>.int .u64 (l.getD j 0:Nat)) (dJ K) (λh=>by cases h) H (λ_=>rfl) (λi e h=>?_) (λj C=>?_) (λi e j p B y=>?_)
  .simp only[wj,ZZ]at h;obtain⟨s,_,rfl⟩:=h;rfl
  .simp only[wu,Uh]at C;refine⟨G _ _ I (XE.1 J).1,?_,rfl⟩;rw[wn,h.cellAt _ (dJ C)];simp[C]
  .have hi:i<l.length:=(by have:=(Zw.1 B).1;simpa using this);rw[xo hi]at B;cases B;match j,y with
   |0,y=>cases y;simp[hi];exact .v _
   |j+1,y=>simp[yN]at y
def KB{j:Array Value}(h:j.size=1):j=#[j.getD 0 undef]:=by
 obtain⟨l⟩:=j;match l,h with
 |[x],_=>rfl
def Yz(v:List En)(hb:∀e∈v,ZL e)(F:(zv v).length<=1073741824):Cn xT 197 [vp v] (ns (zv v)):=by refine Js rfl (enters_of Tryz.func197 dK rfl) λD w H C y E=>?_;rw[KB y];refine(Q4 v _ w (ze4 (E 0 _ rfl) C hb) F).mono ?_;rintro e I ⟨u,rfl,G,j⟩;exact⟨u,rfl,j,vL G λb o A B=>.inr ⟨A,B⟩⟩
end
section
open Go.RowKit Go.Maps
abbrev DV:=DataW Value
def rV(v:Value):Option (DV×List MemPlace):=some (.held v,[])
def zP:Value:=.agg #[.slice none 0 0,.slice none 0 0]
def kR(r:Nat):Lit:=.int .u64 (r:Nat)
def vF:Keyed xT 38 := int_keyed Tryz.underlying38
def zeC(w:World):(zeroValue 239).run xT w=.ok zP w:=dK
def Zq{r:Nat}(h:r<zk):keyOf xT 38 (.int .u64 (r:Nat))=some (kR r):=by rw[zw]at h;refine keyOf_int_mk Tryz.underlying38 ?_;simp[Lit.wf,IntKind.min,IntKind.max,IntKind.signed,IntKind.bits];omega
def Qc(r:Nat):WideAt.IsKeyLit (kR r):=trivial
def Xa{r s:Nat}(h:kR r=kR s):r=s:=by unfold kR at h;injection h with _ h;omega
def DL(C:Qk)(j:Nat)(w:World):Nat->Nat->Prop:=λb o=>C b o\/(j<b/\b<w.heap.size)
def rdF(C:Qk)(w:World)(b o:Nat)(e:En):Prop:=w.cell? ⟨b,o,none⟩=some (.int .u64 e.rep)/\w.cell? ⟨b,o+1,none⟩=some (.int .u64 e.max)/\(∃j,w.cell? ⟨b,o+2,none⟩=some j/\Dat C w j (rg e.holes))/\e.rep<zk/\e.max<zk
def RdF(C:Qk)(j:Nat)(w:World)(v:Value)(l:List En):Prop:=RdSl 3 (rdF C) 0 j w v l
def RdF.keep{C:Qk}{j:Nat}{w w':World}{v:Value}{l:List En}(u:∀b o,C b o->b<j)(h:RdF C j w v l)(hb:∀k,k<j->w'.heap[k]?=w.heap[k]?):RdF C j w' v l:=
 RdSl.keep h (Zp _) (Zp _) λb o x _ h2 ⟨c0,c1,⟨hv,c2,c3⟩,c4⟩=>
  ⟨(tn (a:=⟨b,o,none⟩) (hb b h2)).trans c0,(tn (a:=⟨b,o+1,none⟩) (hb b h2)).trans c1,⟨hv,(tn (a:=⟨b,o+2,none⟩) (hb b h2)).trans c2,c3.mono (λ_ _ h=>h) λb o x y A=>(tn (a:=⟨b,o,none⟩) (hb b (u b o y))).trans A⟩,c4⟩
def dat_rdf{D:Qk}{w:World}{x:Value}{v:List En}(h:Dat D w x (vp v))(K:∀b o,D b o->b<w.heap.size)(hb:∀e∈v,ZL e):RdF D w.heap.size w x v:=by
 unfold vp at h;generalize F:v.map ec=es at h;cases h with
 |sl a cap sz es o b off u hc hz hm ha hsz hd hx=>have G:es.length=v.length:=(by rw[<-F];simp);refine⟨a,cap,by rw[G],a8,hm,λB=>?_⟩;have y:0<v.length:=wW.2 B;have g:∀i (h:i<v.length),es[i]?=some (ec v[i]):=λi h=>(by rw[<-F];exact xo h);obtain rfl:3=sz:=hsz 0 _ (g 0 y);have A:es≠[]:=(by intro e;subst e;simp at G;omega);have j:b<w.heap.size:=K _ _ (hd 0 a8).1;refine⟨b,off,ha A,X3 _,j,λi hi=>?_⟩;have J:=(hx i _ 0 _ (g i hi) rfl).v_inv;have e1:=(hx i _ 1 _ (g i hi) rfl).v_inv;have e2:=hx i _ 2 _ (g i hi) rfl;have C:=(hd (i*3+0) a8).2.1;have E:=(hd (i*3+1) a8).2.1;have I:=(hd (i*3+2) a8).2.1;rw[J]at C;rw[e1]at E;obtain⟨b1,b2,H⟩:=hb _ (Yf hi);exact⟨C,E,⟨_,I,e2⟩,H,b2⟩
def PairD(C:Qk)(w:World)(u:Nat)(D:DV)(j:List Nat)(B E:Nat->List Iv):Prop:=
 IsMap D/\∀r,has D (kR r)=decide (r∈j)/\∃y A,D.atKey (kR r) (.held zP)=.held (.agg #[y,A])/\Dat (DL C u w) w y (rg (B r))/\Dat (DL C u w) w A (rg (E r))
def KN{D:Qk}{w:World}:Dat D w (.slice none 0 0) (rg []):=.sl none 0 2 [] .sh 0 0 (λ_=>undef) b6 (λh=>by cases h) b8 (λh=>absurd rfl h) (λi e h=>by simp at h) (λj h=>by simp at h) (λi e j p h=>by simp at h)
def PairD.start(C:Qk)(w:World)(j:Nat):PairD C w j (.map []) [] (λ_=>[]) (λ_=>[]):=
 ⟨⟨[],rfl⟩,λr=>⟨by simp[has],_,_,rfl,KN,KN⟩⟩
def PairD.mono{C:Qk}{w w':World}{u:Nat}{D:DV}{y:List Nat}{A B:Nat->List Iv}(H:∀b o,C b o->b<u)(h:PairD C w u D y A B)(hs:w.heap.size<=w'.heap.size)(hb:∀k,k<w.heap.size->k≠u->w'.heap[k]?=w.heap[k]?):PairD C w' u D y A B:=by
 refine⟨h.1,λr=>⟨(h.2 r).1,?_⟩⟩;obtain⟨I,J,e,d0,G⟩:=(h.2 r).2;have E:∀b o x,DL C u w b o->w.cell? ⟨b,o,none⟩=some x->w'.cell? ⟨b,o,none⟩=some x:=λb o x j F=>
  (tn (a:=⟨b,o,none⟩) (hb b (tq w ⟨b,o,none⟩ F) (by rcases j with j|j;have:=H b o j;omega;omega))).trans F
 have j:∀b o,DL C u w b o->DL C u w' b o:=λb o j=>j.imp id λh=>⟨h.1,vw h.2 hs⟩;exact⟨I,J,e,d0.mono j E,G.mono j E⟩
def PairD.put0{C:Qk}{w:World}{B:Nat}{D:DV}{u:List Nat}{F G:Nat->List Iv}(h:PairD C w B D u F G){j:Nat}{l:List Iv}{s K E:Value}(hs:Dat (DL C B w) w s (rg l))(J:D.atKey (kR j) (.held zP)=.held (.agg #[K,E])):
 PairD C w B (D.put (kR j) (.held (.agg #[s,E]))) (u++[j]) (λr=>if r=j then l else F r) G:=by
 refine⟨h.1.put _ _,λr=>?_⟩;by_cases e:r=j
 .subst e;obtain⟨H,I,e1,d0,A⟩:=(h.2 r).2;rw[J]at e1;cases e1;exact⟨by rw[TY h.1 (Qc _)];simp,s,E,atKey_put_same h.1 (Qc _) _ _,by dsimp only;rw[vj rfl];exact hs,A⟩
 .have y:kR r≠kR j:=λh=>e (Xa h);obtain⟨H,I,e1,d0,A⟩:=(h.2 r).2;exact⟨by rw[TU y,(h.2 r).1];simp[e],H,I,by rw[T2 y];exact e1,by dsimp only;rw[Vm e];exact d0,A⟩
def PairD.put1{C:Qk}{w:World}{A:Nat}{D:DV}{u:List Nat}{F G:Nat->List Iv}(h:PairD C w A D u F G){j:Nat}{l:List Iv}{s B K:Value}(hs:Dat (DL C A w) w s (rg l))(J:D.atKey (kR j) (.held zP)=.held (.agg #[B,K])):
 PairD C w A (D.put (kR j) (.held (.agg #[B,s]))) (u++[j]) F (λr=>if r=j then l else G r):=by
 refine⟨h.1.put _ _,λr=>?_⟩;by_cases e:r=j
 .subst e;obtain⟨H,I,e1,d0,E⟩:=(h.2 r).2;rw[J]at e1;cases e1;exact⟨by rw[TY h.1 (Qc _)];simp,B,s,atKey_put_same h.1 (Qc _) _ _,d0,by dsimp only;rw[vj rfl];exact hs⟩
 .have y:kR r≠kR j:=λh=>e (Xa h);obtain⟨H,I,e1,d0,E⟩:=(h.2 r).2;exact⟨by rw[TU y,(h.2 r).1];simp[e],H,I,by rw[T2 y];exact e1,d0,by dsimp only;rw[Vm e];exact E⟩
def zc9{v:List En}{e:En}(h:∀f∈v,f.rep≠e.rep)(r:Nat):zT (v++[e]) r=if r=e.rep then kn e else zT v r:=by
 unfold zT;rw[List.find?_append];by_cases j:r=e.rep
 .subst j;rw[vj rfl,show List.find? (λf=>f.rep == e.rep) v=none from Ug.2 λf u=>by simpa using h f u];simp
 .rw[Vm j];have:List.find? (λf=>f.rep == r) [e]=none:=(by simp;exact λh=>j h.symm);rw[this,Option.or_none]
def Vj{v:List En}(h:zsC v){k:Nat}(hk:k<v.length):zT (v.take (k+1))=λr=>if r=v[k].rep then kn v[k] else zT (v.take k) r:=by
 funext r;rw[X4 hk];refine zc9 (λf u=>?_) r;obtain⟨i,hi,rfl⟩:=Wk u;have j:i<k:=by simp at hi;omega
 have:=wQ.1 h.2 i k a8 hk j;simp only[uW];omega
def SmV(v:List En):Prop:=zsC v/\v.length<=1048576/\∀e∈v,e.holes.length<=10000
end
section
open Go.RowKit Go.Maps
attribute [-go_sem] z7
def zkt(j A:Option Addr)(y C u B:Nat)(w:World):(Instr.index 268 (.agg #[.slice j y u,.slice A C B]) (.int .i64 0)).run xT w=.ok (.slice j y u) w:=dK
def zku(A j:Option Addr)(C y B u:Nat)(w:World):(Instr.index 268 (.agg #[.slice A C B,.slice j y u]) (.int .i64 1)).run xT w=.ok (.slice j y u) w:=dK
def zK{D:Qk}{w:World}{v:Value}{l:List Iv}(h:Dat D w v (rg l)):∃u j,v=.slice u l.length j:=by have y:Dat D w v (.sl (l.map Q2) .sh):=h;obtain⟨u,j,sz,b,A,f,e1,_⟩:=(Rel.dat (ρ:=λ_=>0) (nb:=0) y).inv_sl;rw[wu]at e1;exact⟨u,j,e1⟩
def yg{w u:World}{b n:Nat}{D:DV}(h:w.ownsMap xT 38 rV b n D)(hb:u.heap[b]?=w.heap[b]?):u.ownsMap xT 38 rV b n D:=by obtain⟨y,j,A,r⟩:=h;exact⟨y,j,hb.trans A,r⟩
def Qf{w:World}{b n:Nat}{D:DV}(h:w.ownsMap xT 38 rV b n D){r:Nat}(C:r<zk){u y:Value}(B:D.atKey (kR r) (.held zP)=.held (.agg #[u,y])):
 (Instr.lookup 234 (.map (some b)) (.int .u64 (r:Nat)) false).run xT w=.ok (.agg #[u,y]) w:=by
 obtain⟨v,E,A,j⟩:=h.lookup vF Tryz.underlying234 (zeC w) (zd:=.held zP) (zp:=[]) rfl (Zq C);rw[B]at j;unfold rV at j;cases j;exact A
def zeI{D:Qk}{w:World}{e:En}{u:Option Addr}{y:Nat}(A:Dat D w (.slice u e.holes.length y) (rg e.holes)):Dat D w (.agg #[.int .u64 e.rep,.int .u64 e.max,.slice u e.holes.length y]) (ep e):=by
 refine .agg _ _ rfl (λi hi=>?_) λi p j=>?_
 .match i,hi with
  |0,_=>rfl
  |1,_=>rfl
  |2,_=>rfl
 .match i,j with
  |0,j=>cases j;exact .v _
  |1,j=>cases j;exact .v _
  |2,j=>cases j;exact A
def zaa{C:Qk}{w:World}{I:Nat}{e:En}{E:Option Addr}{F:Nat}(M:zO e)(U:e.holes.length<=10000)(P:Dat C w (.slice E e.holes.length F) (rg e.holes))(L:∀b o,C b o->b<I)(O:I<=w.heap.size)(N:GL C w):
 Calls xT 187 #[.agg #[.int .u64 e.rep,.int .u64 e.max,.slice E e.holes.length F]] w λG y=>∃A j,G=.returned (.slice A (kn e).length j)/\Below w.heap.size w y/\Dat (λb o=>C b o\/(w.heap.size<=b/\b<y.heap.size)) y (.slice A (kn e).length j) (rg (kn e)):=by
 refine((XZ e M a8).2 C w _ N (λb o h=>vw (L b o h) O) rfl (λi p u=>?_)).mono ?_
 .match i,u with
  |0,u=>cases u;exact zeI P
  |i+1,u=>simp at u
 .rintro G y ⟨v,J,rfl,hb,V,S,T,H,_⟩;have B:Dat J y v (.sl ((kn e).map Q2) .sh):=H;obtain⟨A,j,sz,b,Q,f,e1,_⟩:=(Rel.dat (ρ:=λ_=>0) (nb:=0) B).inv_sl;rw[wu]at e1;subst e1;exact⟨A,j,rfl,hb,H.mono (λb o h=>(S b o h).imp id λK=>⟨K,T b o h⟩) λ_ _ _ _ h=>h⟩
def zW{w:World}{g:Nat}{j:Array Value}{t:TypeId}(h:w.heap[g]?=some (.cells j t (0,0)))(i:Nat)(v:Value)(u:j[i]?=some v):w.cell? ⟨g,i,none⟩=some v/\w.frozen? ⟨g,i,none⟩=false:=by
 constructor
 .simp[World.cell?,h,u]
 .simp[World.frozen?,h]
def zmT:(λr=>zT [] r)=λ_=>[]:=rfl
def Qm{C:Qk}{w wr y I:World}{D:DV}{u:List Nat}{A B:Nat->List Iv}{e:En}{U V v:Value}{G H:Obj}(J:∀b o,C b o->b<w.heap.size)(M:PairD C wr w.heap.size D u A B)(Q:D.atKey (kR e.rep) (.held zP)=.held (.agg #[U,V]))
 (P:Below w.heap.size w wr) (Z:w.heap.size<wr.heap.size) (E:Below ((wr.alloc G).alloc H).heap.size ((wr.alloc G).alloc H) y) (X:Dat (λb o=>C b o\/(((wr.alloc G).alloc H).heap.size<=b/\b<y.heap.size)) y v (rg (kn e))) (j:Nat)
 (K:(y.setCell ⟨wr.heap.size+1,j,none⟩ v).grownBy I (some w.heap.size)) :
 PairD C I w.heap.size (D.put (kR e.rep) (.held (.agg #[v,V]))) (u++[e.rep]) (λr=>if r=e.rep then kn e else A r) B /\
 PairD C I w.heap.size (D.put (kR e.rep) (.held (.agg #[U,v]))) (u++[e.rep]) A (λr=>if r=e.rep then kn e else B r)/\Below w.heap.size w I:=by
 have hs:((wr.alloc G).alloc H).heap.size=wr.heap.size+2:=b6
 have h3:wr.heap.size+2<=y.heap.size:=hs▸E.size;have F:∀k,k<wr.heap.size->(y.setCell ⟨wr.heap.size+1,j,none⟩ v).heap[k]?=wr.heap[k]?:=λk hk=>by rw[tx _ _ _ _ (by show k≠wr.heap.size+1;omega),E.block k a8,tv _ _ _ a9,tv _ _ _ hk]
 have T:PairD C (y.setCell ⟨wr.heap.size+1,j,none⟩ v) w.heap.size D u A B:=M.mono J a9 λk hk _=>F k hk;have O:Dat (DL C w.heap.size (y.setCell ⟨wr.heap.size+1,j,none⟩ v)) (y.setCell ⟨wr.heap.size+1,j,none⟩ v) v (rg (kn e)):=by
  refine X.mono (λb o h=>h.imp id λh=>⟨a8,?_⟩) λb o x h hx=>?_
  .show b<(y.setCell ⟨wr.heap.size+1,j,none⟩ v).heap.size;simp;omega
  .refine(tn (a:=⟨b,o,none⟩) (tx _ _ _ _ ?_)).trans hx;show b≠wr.heap.size+1;rcases h with h|h
   .have:=J b o h;omega
   .omega
 have S:∀{D:DV}{u:List Nat}{A B:Nat->List Iv},PairD C (y.setCell ⟨wr.heap.size+1,j,none⟩ v) w.heap.size D u A B->PairD C I w.heap.size D u A B:=λh=>h.mono J K.size λk hk L=>K.block k hk (dJ L);refine⟨S (T.put0 O Q),S (T.put1 O Q),?_⟩;have N:Below w.heap.size w (y.setCell ⟨wr.heap.size+1,j,none⟩ v):=by refine tX ?_ (by show w.heap.size<=wr.heap.size+1;omega) _;refine Below.trans ((P.alloc P.size G).alloc a9 H) (E.mono a8)
 exact N.grown K N.size λj Y=>by cases Y;exact Zp _
def J4(C:Qk)(a b:List En)(va vb:Value)(w:World)(ha:SmV a)(hb:SmV b)(ra:RdF C w.heap.size w va a)(rb:RdF C w.heap.size w vb b)(U:∀b o,C b o->b<w.heap.size)(hG:GL C w):
 Calls xT 152 #[va,vb] w λe w'=>e=.returned (.map (some w.heap.size))/\Below w.heap.size w w'/\∃D,w'.ownsMap xT 38 rV w.heap.size (a.length+b.length) D/\PairD C w' w.heap.size D (zM a++zM b) (zT a) (zT b):=by
 have aJ:=@run_makeMap xT
 have RA:=qL ra;have RB:=qL rb;obtain⟨aa,ca,rfl,aH,aA,_⟩:=ra;obtain⟨ab,cb,rfl,aI,aB,_⟩:=rb;unfold maxLen at aA aB;have i0:=zkt aa ab a.length b.length ca cb;have i1:=zku aa ab a.length b.length ca cb;go_enter Tryz.func152,Tryz.ntmps152
 go_wp2_with fail
 go_loopg [15] 2 (λg x wr=>∃D,((g=2/\x=.int .i64 0/\wr.ownsMap xT 38 rV w.heap.size 0 D/\PairD C wr w.heap.size D [] (λ_=>[]) (λ_=>[])) \/
  (g=1/\x=.int .i64 1/\wr.ownsMap xT 38 rV w.heap.size a.length D/\PairD C wr w.heap.size D (zM a) (zT a) (λ_=>[])) \/
  (g=0/\x=.int .i64 2/\wr.ownsMap xT 38 rV w.heap.size (a.length+b.length) D/\PairD C wr w.heap.size D (zM a++zM b) (zT a) (zT b)))/\Below w.heap.size w wr)
 case atStart=>exact⟨.map [],.inl ⟨rfl,rfl,TO _ _ _ _,PairD.start _ _ _⟩,(tu _ _).alloc (Zp _) _⟩
 case round=>
  obtain⟨D,aw,hB⟩:=hrel;obtain⟨wo,aF⟩:=xm (wr);subst aF;have Q:=qL hB;clear hB;rcases aw with⟨rfl,rfl,E,N⟩|⟨rfl,rfl,E,N⟩|⟨rfl,rfl,E,N⟩
  .have J:=qL E;have L:=qL N;clear E N
   go_wp2_with fail
   go_loopg [21] a.length (λg x wr=>∃k D,k<=a.length/\g=a.length-k/\x=.int .i64 k/\wr.ownsMap xT 38 rV w.heap.size (0+k) D/\PairD C wr w.heap.size D (zM (a.take k)) (zT (a.take k)) (λ_=>[])/\Below w.heap.size w wr/\w.heap.size<wr.heap.size)
   case atStart=>exact⟨0,D,X3 _,rfl,rfl,J.o,L.o,Q.o,J.o.lt⟩
   case round=>
    obtain⟨k,D',hk,rfl,rfl,u,I,F,aj⟩:=hrel;clear J L Q;by_cases y:k<a.length
    .have J:=qL u;have L:=qL I;have Q:=qL F;obtain⟨a',X,Z,_,_,ac⟩:=RdF.keep U RA.o λj T=>F.block j T;obtain⟨bb,aG,av,_,aC,M⟩:=ac (by intro e;subst e;simp at y);obtain⟨rfl,_,rfl⟩:aa=a'/\a.length=a.length/\ca=X:=(dJ Z);subst av;obtain⟨c0,c1,⟨hv,c2,K⟩,S,az⟩:=M k y;have HE:qA (∃e,e=a[k]):=⟨_,rfl⟩;obtain⟨e,he⟩:=HE.o;have hE:zO e/\e.holes.length<=10000:=(by rw[he];exact⟨ha.1.1 _ (Yf y),ha.2.2 _ (Yf y)⟩);have hT:=Vj ha.1 y;have hR:zM (a.take (k+1))=zM (a.take k)++[e.rep]:=(by unfold zM;rw[X4 y,he,WI];rfl);rw[<-he]at c0 c1 K S az hT;have HT:=qL hT;have HR:=qL hR;clear ac M he HE Z u I F hT hR;obtain⟨s0,s1,Y,ae,af⟩:=(L.o.2 e.rep).2;obtain⟨a0,n0,rfl⟩:=zK ae;obtain⟨a1,n1,rfl⟩:=zK af;clear ae af;have HA:=qL Y;have aD:e.holes.length<=maxLen:=(by have:=hE.2;unfold maxLen;omega);obtain⟨ah,ch,rfl⟩:=zK K;have HH:=qL K;clear K;have aE:=Qf (J.o.alloc (.cells #[.int .u64 e.rep,.int .u64 e.max,.slice ah e.holes.length ch] 109)) S HA.o;have ai:=zaa (w:=(wr.alloc (.cells #[.int .u64 e.rep,.int .u64 e.max,.slice ah e.holes.length ch] 109)).alloc (.cells #[.slice a0 (zT (a.take k) e.rep).length n0,.slice a1 ([]:List Iv).length n1] 239)) hE.1 hE.2
      (HH.o.mono (λ_ _ h=>h) λj o x T hx=>(tn (a:=⟨j,o,none⟩) (by have ax:=U j o T;rw[tv _ _ _ a9,tv _ _ _ (by show j<_;omega)])).trans hx) U a9
      (hG.mono (λ_ _ h=>h) λj o x T hx=>(tn (a:=⟨j,o,none⟩) (by have ax:=U j o T;rw[tv _ _ _ a9,tv _ _ _ (by show j<_;omega),Q.o.block j (U j o T)])).trans hx)
     have HK:=qL ai;clear Y ai;have HG:=qL hG;clear hG;have O:True:=trivial;have P:True:=trivial
     go_wp2_with (first
      | (go_at_call 187;have _t:=O;refine HK.o.mono ?_;rintro e' w3 ⟨ad,au,rfl,G,ag⟩
         have am:w3.heap[wr.heap.size]?=some (.cells #[.int .u64 e.rep,.int .u64 e.max,.slice ah e.holes.length ch] 109 (0,0)):=(by rw[G.block _ a9,tv _ _ _ b6];exact tp wr _);have B:w3.heap[wr.heap.size+1]?=some (.cells #[.slice a0 (zT (a.take k) e.rep).length n0,.slice a1 ([]:List Iv).length n1] 239 (0,0)):=by rw[G.block _ b6];have:=tp (wr.alloc (.cells #[.int .u64 e.rep,.int .u64 e.max,.slice ah e.holes.length ch] 109)) (.cells #[.slice a0 (zT (a.take k) e.rep).length n0,.slice a1 ([]:List Iv).length n1] 239);rwa[tw]at this
         have ak:w3.heap[w.heap.size]?=wr.heap[w.heap.size]?:=(by rw[G.block _ a9,tv _ _ _ a9,tv _ _ _ a8]);have f1:=(zW am 0 _ rfl).1;have f2:=(zW B 0 _ rfl).1;have f3:=(zW B 0 _ rfl).2;have f4:=(zW B 1 _ rfl).1;have ar:=qL (((yg J.o ak).setCell (a:=⟨wr.heap.size+1,0,none⟩) (by show w.heap.size≠wr.heap.size+1;omega) (.slice ad (kn e).length au)));have an:=qL G;have ao:=qL ag;clear am B ak G ag O)
      |(at_mapUpdate;have _t:=P;refine wpList_mapUpdate_own _ rfl _ _ _ 234 rfl 38 239 vF Tryz.underlying234 rV w.heap.size (0+k) D' rfl ar.o (by have:=ha.2.1;unfold maxLen;omega) _ _ (kR e.rep) rfl rfl (Zq S) _ [] rfl ?_;intro w5 H A;clear P;have V:=qL H;have aq:=qL A;clear H A;dsimp only[Act.put])
      |go_in)
     obtain⟨p1,p2,p3⟩:=Qm U L.o HA.o Q.o aj an.o ao.o 0 aq.o;have h5:w.heap.size<w5.heap.size:=V.o.lt;go_roundg (a.length-(k+1));case measure=>omega
     case rel=>exact⟨k+1,_,y,rfl,b6,V.o,by rw[HR.o,HT.o];exact p1,p3,h5⟩
    .have ay:k=a.length:=a8;subst ay;rw[Wp]at I;have J:=qL u;have L:=qL I;have Q:=qL F;clear u I F
     go_wp2_with fail
     go_roundg 1;case measure=>omega
     case rel=>exact⟨D',.inr (.inl ⟨rfl,rfl,by have:=J.o;simpa using this,L.o⟩),Q.o⟩
  .have J:=qL E;have L:=qL N;clear E N
   go_wp2_with fail
   go_loopg [21] b.length (λg x wr=>∃k D,k<=b.length/\g=b.length-k/\x=.int .i64 k/\wr.ownsMap xT 38 rV w.heap.size (a.length+k) D/\PairD C wr w.heap.size D (zM a++zM (b.take k)) (zT a) (zT (b.take k))/\Below w.heap.size w wr/\w.heap.size<wr.heap.size)
   case atStart=>exact⟨0,D,X3 _,rfl,rfl,J.o.mono a8,(by have:=L.o;simpa[zM,zmT]using this),Q.o,J.o.lt⟩
   case round=>
    obtain⟨k,D',hk,rfl,rfl,u,I,F,aj⟩:=hrel;clear J L Q;by_cases y:k<b.length
    .have J:=qL u;have L:=qL I;have Q:=qL F;obtain⟨a',X,Z,_,_,ac⟩:=RdF.keep U RB.o λj T=>F.block j T;obtain⟨bb,aG,av,_,aC,M⟩:=ac (by intro e;subst e;simp at y);obtain⟨rfl,_,rfl⟩:ab=a'/\b.length=b.length/\cb=X:=(dJ Z);subst av;obtain⟨c0,c1,⟨hv,c2,K⟩,S,az⟩:=M k y;have HE:qA (∃e,e=b[k]):=⟨_,rfl⟩;obtain⟨e,he⟩:=HE.o;have hE:zO e/\e.holes.length<=10000:=(by rw[he];exact⟨hb.1.1 _ (Yf y),hb.2.2 _ (Yf y)⟩);have hT:=Vj hb.1 y;have hR:zM (b.take (k+1))=zM (b.take k)++[e.rep]:=(by unfold zM;rw[X4 y,he,WI];rfl);rw[<-he]at c0 c1 K S az hT;have HT:=qL hT;have HR:=qL hR;clear ac M he HE Z u I F hT hR;obtain⟨s0,s1,Y,ae,af⟩:=(L.o.2 e.rep).2;obtain⟨a0,n0,rfl⟩:=zK ae;obtain⟨a1,n1,rfl⟩:=zK af;clear ae af;have HA:=qL Y;have aD:e.holes.length<=maxLen:=(by have:=hE.2;unfold maxLen;omega);obtain⟨ah,ch,rfl⟩:=zK K;have HH:=qL K;clear K;have aE:=Qf (J.o.alloc (.cells #[.int .u64 e.rep,.int .u64 e.max,.slice ah e.holes.length ch] 109)) S HA.o;have ai:=zaa (w:=(wr.alloc (.cells #[.int .u64 e.rep,.int .u64 e.max,.slice ah e.holes.length ch] 109)).alloc (.cells #[.slice a0 (zT a e.rep).length n0,.slice a1 (zT (b.take k) e.rep).length n1] 239)) hE.1 hE.2
      (HH.o.mono (λ_ _ h=>h) λj o x T hx=>(tn (a:=⟨j,o,none⟩) (by have ax:=U j o T;rw[tv _ _ _ a9,tv _ _ _ (by show j<_;omega)])).trans hx) U a9
      (hG.mono (λ_ _ h=>h) λj o x T hx=>(tn (a:=⟨j,o,none⟩) (by have ax:=U j o T;rw[tv _ _ _ a9,tv _ _ _ (by show j<_;omega),Q.o.block j (U j o T)])).trans hx)
     have HK:=qL ai;clear Y ai;have HG:=qL hG;clear hG;have O:True:=trivial;have P:True:=trivial
     go_wp2_with (first
      | (go_at_call 187;have _t:=O;refine HK.o.mono ?_;rintro e' w3 ⟨ad,au,rfl,G,ag⟩
         have am:w3.heap[wr.heap.size]?=some (.cells #[.int .u64 e.rep,.int .u64 e.max,.slice ah e.holes.length ch] 109 (0,0)):=(by rw[G.block _ a9,tv _ _ _ b6];exact tp wr _);have B:w3.heap[wr.heap.size+1]?=some (.cells #[.slice a0 (zT a e.rep).length n0,.slice a1 (zT (b.take k) e.rep).length n1] 239 (0,0)):=by rw[G.block _ b6];have:=tp (wr.alloc (.cells #[.int .u64 e.rep,.int .u64 e.max,.slice ah e.holes.length ch] 109)) (.cells #[.slice a0 (zT a e.rep).length n0,.slice a1 (zT (b.take k) e.rep).length n1] 239);rwa[tw]at this
         have ak:w3.heap[w.heap.size]?=wr.heap[w.heap.size]?:=(by rw[G.block _ a9,tv _ _ _ a9,tv _ _ _ a8]);have f1:=(zW am 0 _ rfl).1;have f2:=(zW B 0 _ rfl).1;have f3:=(zW B 1 _ rfl).2;have f4:=(zW B 1 _ rfl).1;have ar:=qL (((yg J.o ak).setCell (a:=⟨wr.heap.size+1,1,none⟩) (by show w.heap.size≠wr.heap.size+1;omega) (.slice ad (kn e).length au)));have an:=qL G;have ao:=qL ag;clear am B ak G ag O)
      |(at_mapUpdate;have _t:=P;refine wpList_mapUpdate_own _ rfl _ _ _ 234 rfl 38 239 vF Tryz.underlying234 rV w.heap.size (a.length+k) D' rfl ar.o (by have:=hb.2.1;have:=ha.2.1;unfold maxLen;omega) _ _ (kR e.rep) rfl rfl (Zq S) _ [] rfl ?_;intro w5 H A;clear P;have V:=qL H;have aq:=qL A;clear H A;dsimp only[Act.put])
      |go_in)
     obtain⟨p1,p2,p3⟩:=Qm U L.o HA.o Q.o aj an.o ao.o 1 aq.o;have h5:w.heap.size<w5.heap.size:=V.o.lt;go_roundg (b.length-(k+1));case measure=>omega
     case rel=>exact⟨k+1,_,y,rfl,b6,V.o,by rw[HR.o,HT.o];rw[<-wR];exact p2,p3,h5⟩
    .have ay:k=b.length:=a8;subst ay;rw[Wp]at I;have J:=qL u;have L:=qL I;have Q:=qL F;clear u I F
     go_wp2_with fail
     go_roundg 0;case measure=>omega
     case rel=>exact⟨D',.inr (.inr ⟨rfl,rfl,J.o,L.o⟩),Q.o⟩
  .have J:=qL E;have L:=qL N;clear E N
   go_wp2_with fail
   refine tz (tK rfl _ _ _) rfl ?_;exact⟨rfl,Q.o,D,J.o,L.o⟩
end
section
open Go.RowKit Go.Lib
attribute [-go_sem] z7
def uV(r:Nat):Value:=.int .u64 (r:Nat)
def OwnU(base:Nat)(w:World)(v:Value)(l:List Nat):Prop:=w.ownsRow base 38 1 v l.length (l.map uV)
def kF{α:Type}:List α->Nat->List α->List α
 |xs,_,[]=>xs
 |xs,o,v::r=>kF (xs.set o v) (o+1) r
def jt{α:Type}:∀(u j:List α)(o:Nat),o+u.length<=j.length->kF j o u=j.take o++u++j.drop (o+u.length)
 |[],j,o,h=>by simp[kF]
 |v::r,j,o,h=>by simp only[wy]at h;rw[kF,jt r (j.set o v) (o+1) (by rw[Uf];omega)];rw[List.drop_set_of_lt a8,X4 (by rw[Uf];omega),List.take_set_of_le (Zp _),List.getElem_set_self];simp only[wR,wy,yb,Y1];rw[show o+1+r.length=o+(r.length+1) by omega]
def jW(w:World)(r:Option Nat):w.grownBy w r:=⟨rfl,rfl,rfl,Zp _,λ_ _ _=>rfl⟩
def yn{a b c:World}{r:Option Nat}(h:a.grownBy b r)(k:b.grownBy c r):a.grownBy c r:=
 ⟨k.os.trans h.os,k.tape.trans h.tape,k.output.trans h.output,V0 h.size k.size,λi hi hs=>(k.block i (vw hi h.size) hs).trans (h.block i hi hs)⟩
def z9{base:Nat}{e:TypeId}{size g n j:Nat}:∀(y:List Value)(o:Nat)(w:World)(u:List Value),w.ownsRow base e size (.slice (some ⟨g,0,none⟩) n j) n u ->
 (w.setCells g o y).ownsRow base e size (.slice (some ⟨g,0,none⟩) n j) n (kF u o y)/\w.grownBy (w.setCells g o y) (some g)
 |[],_,w,u,h=>⟨h,jW _ _⟩
 |v::r,o,w,u,h=>by obtain⟨A,B⟩:=h.stored o v;obtain⟨C,E⟩:=z9 r (o+1) _ _ A;exact⟨C,yn B E⟩
def Vf:(xT.info? 38).map (λi=>(i.zero,i.size,i.bytes))=some (some (.int .u64 0),1,8):=dK
def QN{l:List Nat}:∀v∈l.map uV,v.oneCell'=true:=λv j=>by obtain⟨r,_,rfl⟩:=wC.1 j;rfl
def OwnU.cases{base:Nat}{w:World}{v:Value}{l:List Nat}(h:OwnU base w v l):(v=.slice none 0 0/\l=[]) \/
 ∃g j u,v=.slice (some ⟨g,0,none⟩) l.length j/\base<=g/\g<w.heap.size/\w.heap[g]?=some (.cells u 38 (0,0))/\l.length<=j/\j<=maxLen/\u.size=j/\u.toList.take l.length=l.map uV:=by
 rcases h.2 with⟨y,A⟩|⟨g,j,u,y,A,B,C,E,G,F⟩
 .exact .inl ⟨y,wX.1 A⟩
 .exact .inr ⟨g,j,u,y,A,(XE.1 B).1,B,C,E,a8,by rwa[Uh]at F⟩
def zc5{j:List Value}{u x:Value}{i:Nat}(hi:i<=j.length):kF (kF (j++[u]) (i+1) (j.drop i)) i [x]=j.take i++x::j.drop i:=by
 rw[jt (j.drop i) _ _ a9];have y:i+1+(j.drop i).length=j.length+1:=a9
 rw[y,show j.length+1=(j++[u]).length by simp,uL,wZ];rw[jt [x] _ _ a9];rw[Wq a9,List.take_take,W5 a8,Wq hi];have w:((j++[u]).take (i+1)).length=i+1:=a9
 rw[show i+[x].length=i+1 from rfl,Uy,w,UM,Wh,show ((j++[u]).take (i+1)).drop (i+1)=[] from U2 a8];simp
def kG{α:Type}(a b c v:List α)(h:b.length=v.length){i:Nat}(hi:i=a.length):kF (a++b++c) i v=a++v++c:=by subst hi;rw[jt _ _ _ a9,wR a b c,List.take_left' rfl,<-List.drop_drop,List.drop_left' rfl,<-h,List.drop_left' rfl]
def zc4{j:List Value}{u x:Value}{i:Nat}(hi:i<=j.length):kF (kF (j.take i++List.replicate (j.length+1-i) u) i [x]) (i+1) (j.drop i)=j.take i++x::j.drop i:=by
 have w:(j.take i).length=i:=a9
 have e1:=kG (j.take i) [u] (List.replicate (j.length-i) u) [x] rfl w.symm;have e2:=kG (j.take i++[x]) (List.replicate (j.length-i) u) [] (j.drop i) b6 (i:=i+1) a9;rw[show j.length+1-i=(j.length-i)+1 by omega,List.replicate_succ,show j.take i++u::List.replicate (j.length-i) u=j.take i++[u]++List.replicate (j.length-i) u by simp,e1];rw[wZ,wZ]at e2;rw[e2];simp
def vH{w:World}{B:Nat}{vt:TypeId}{x:Nat}(A:w.heap[B]?=some (.cells #[uV x] vt (0,0))):∀j u,[uV x][j]?=some u->w.cell? ((⟨B,0,none⟩:Addr).add j)=some u:=λj u y=>by
 match j,y with
 |0,y=>cases y;simp[World.cell?,Addr.add,A]
 |j+1,y=>simp at y
def zfr(base K:Nat)(vt:TypeId)(w:World)(v:Value)(l:List Nat)(x:Nat)(j:OwnU base w v l)(O:w.heap[K]?=some (.cells #[uV x] vt (0,0)))(hl:l.length<=1099511627776)(A:base<=w.heap.size):
 Calls xT 189 #[v,.int .i64 (l.length:Nat),.slice (some ⟨K,0,none⟩) 1 1] w λe B=>∃y,e=.returned y/\OwnU base B y (l++[x])/\w.grownBy B v.ownBlock/\(y.ownBlock=v.ownBlock\/y.ownBlock=some w.heap.size):=by
 obtain⟨U,G,H,I,J⟩:=tQ Vf;have S:=vH O;have C:∀u∈[uV x],u.oneCell'=true:=λu T=>by simp at T;subst T;rfl
 have P:=qL j;have fin:∀y B,B.ownsRow base 38 1 y (l.length+1) (l.map uV++[uV x])->OwnU base B y (l++[x]):=λy B h=>by unfold OwnU;simpa using h
 rcases j.cases with⟨rfl,rfl⟩|⟨g,L,V,rfl,X,Y,Z,ab,M,ac,N⟩
 .clear j;go_enter Tryz.func189,Tryz.ntmps189
  go_wp2_with (at_builtin;refine Th _ rfl _ _ 133 rfl base 38 U (.int .u64 0) 1 8 Tryz.underlying133 G H I J rfl b8 _ _ _ rfl P.o ⟨K,0,none⟩ 1 1 [uV x] rfl rfl S C (by simp[maxLen]) b6 A ?_;intro y B ho F _ E)
  go_ret;exact⟨y,rfl,fin y B ho,F,E⟩
 .unfold maxLen at M;have Q:L<=9223372036854775807:=a8;clear j N;go_enter Tryz.func189,Tryz.ntmps189
  go_wp2_with (at_builtin;refine Th _ rfl _ _ 133 rfl base 38 U (.int .u64 0) 1 8 Tryz.underlying133 G H I J rfl b8 _ _ _ rfl P.o ⟨K,0,none⟩ 1 1 [uV x] rfl rfl S C c8 a8 A ?_;intro y B ho F _ E)
  all_goals (go_ret;exact⟨y,rfl,fin y B ho,F,E⟩)
def zgG(n:Nat):(Builtin.zeroCells (Value.int .u64 0).cells n).toList=List.replicate n (.int .u64 0):=by
 apply List.ext_getElem
 .simp[Builtin.zeroCells,Value.cells]
 .intro i j u;simp[Builtin.zeroCells,Value.cells,Nat.mod_one]
def KX{base:Nat}{w:World}{v:Value}{l:List Nat}{x i:Nat}(hi:i<=l.length)(h:w.ownsRow base 38 1 v (l.length+1) ((l.map uV).take i++uV x::(l.map uV).drop i)):OwnU base w v (l.take i++x::l.drop i):=by unfold OwnU;rw[show (l.take i++x::l.drop i).length=l.length+1 by simp;omega,WI,Wz,List.map_take,List.map_drop];exact h
def zfs(base T:Nat)(vt:TypeId)(w:World)(g A:Nat)(l:List Nat)(x i:Nat)(hi:i<l.length)(F:OwnU base w (.slice (some ⟨g,0,none⟩) l.length A) l)(K:A<l.length+1)(ag:w.heap[T]?=some (.cells #[uV x] vt (0,0)))(hl:l.length<=1099511627776)(ac:base<=w.heap.size):
 Calls xT 189 #[.slice (some ⟨g,0,none⟩) l.length A,.int .i64 (i:Nat),.slice (some ⟨T,0,none⟩) 1 1] w λe w'=>∃v',e=.returned v'/\OwnU base w' v' (l.take i++x::l.drop i)/\w.grownBy w' none/\v'.ownBlock=some w.heap.size:=by
 obtain⟨i0,an,aD,hzs,av⟩:=tQ Vf;obtain⟨n,hn⟩:=xm (l.length);obtain⟨B,J⟩:=xm (l.map uV);have ad:B.length=n:=by rw[J,hn,wu]
 have S:∀u∈B,u.oneCell'=true:=by rw[J];exact QN
 have ar:=vH ag;have aC:T<w.heap.size:=(XE.1 ag).1;have aA:g<w.heap.size:=(F.lt g rfl).2;have aM:n<=A:=by
  rcases F.cases with⟨h,_⟩|⟨g',aF,_,h,_,_,_,h4,_⟩
  .cases h
  .cases h;omega
 have hg:∀j v,B[j]?=some v->w.cell? ⟨g,j,none⟩=some v:=λj v H=>by have:=tJ F (g:=g) rfl j v (by rw[<-J];exact H);rw[zh,wn]at this;exact this
 rw[<-hn]at hi F K hl⊢;have aq:(n:Int)+1-(i:Int)=((n+1-i:Nat):Int):=a8
 have ae:i+(n+1-i)=n+1:=a8
 have Q:(Builtin.firstCells i0.size i (.slice (some ⟨g,0,none⟩) i A)).run xT w.drew=.ok (B.take i).toArray w.drew:=by
  rw[hzs];refine TM w.drew 1 i ⟨g,0,none⟩ i A (B.take i) (by rw[Wd];omega) (λj v H=>?_);rw[wt]at H;split at H
  .have:=hg j v H;rw[zh,wn];exact this
  .cases H
 have af:∀M,(Builtin.append_ #[133,3] M #[.slice (some ⟨g,0,none⟩) i A,.int .i64 ((n:Int)+1-(i:Int))]).run xT w =
  .ok (.slice (some ⟨w.heap.size,0,none⟩) (n+1) (grownCap w (n+1) A 38)) (w.drew.alloc (.cells ((B.take i).toArray++Builtin.zeroCells (Value.int .u64 0).cells (n+1-i)++Builtin.zeroCells (Value.int .u64 0).cells (grownCap w (n+1) A 38 - (n+1))) 38)):=λM=>by
  have h:=TQ w 133 3 M 38 i0 _ .i64 .i64 Tryz.underlying133 Tryz.underlying3 an aD (some ⟨g,0,none⟩) i A (B.take i) Q (n+1-i) a8 a8 a8 a8 (by rw[av];omega) (by rw[av,ae];exact T4 K a8);rw[ae]at h;rw[aq];exact h
 obtain⟨G,hG⟩:∃G,G=grownCap w (n+1) A 38 := ⟨_,rfl⟩;have ay:n+1<=G:=by rw[hG];exact TJ w _ _ _
 have ah:G<=maxLen:=by rw[hG];exact TC w _ _ _ c8
 obtain⟨R,hR⟩:∃R:Array Value,R=(B.take i).toArray++Builtin.zeroCells (Value.int .u64 0).cells (n+1-i)++Builtin.zeroCells (Value.int .u64 0).cells (G-(n+1)):=⟨_,rfl⟩;rw[<-hG,<-hR]at af;have aB:(B.take i).length=i:=by rw[Wd];omega
 have Z:R.toList=(B.take i++List.replicate (B.length+1-i) (.int .u64 0))++List.replicate (G-(n+1)) (.int .u64 0):=by rw[hR];simp only[WU,zgG,ad]
 have az:R.size=G:=by have:R.toList.length=G:=(by rw[Z];simp;omega);simpa using this
 obtain⟨C,E⟩:=xm (w.drew.alloc (.cells R 38));have o1:C.ownsRow base 38 1 (.slice (some ⟨w.heap.size,0,none⟩) (n+1) G) (n+1) (B.take i++List.replicate (B.length+1-i) (.int .u64 0)):=by
  refine⟨a9,.inr ⟨w.heap.size,G,R,rfl,ac,?_,ay,ah,a8,?_⟩⟩
  .rw[E];exact tp w.drew _
  .rw[Z,Wq a9,wm a9]
 obtain⟨o2,X⟩:=z9 [uV x] i _ _ o1;obtain⟨o3,g3⟩:=z9 (B.drop i) (i+1) ((C.setCells w.heap.size i [uV x]).drew) _ o2;rw[zc4 a8]at o3;have V:w.grownBy C none:=by rw[E];exact⟨rfl,rfl,rfl,b6,λk hk _=>tv w.drew _ _ hk⟩
 have O:w.grownBy (((C.setCells w.heap.size i [uV x]).drew).setCells w.heap.size (i+1) (B.drop i)) none:=by refine⟨g3.os.trans (X.os.trans V.os),g3.tape.trans (X.tape.trans V.tape),g3.output.trans (X.output.trans V.output),V0 V.size (V0 X.size g3.size),λk hk _=>?_⟩;have ao:k<C.heap.size:=vw hk V.size;have N:some k≠some w.heap.size:=λe=>(by cases e;omega);rw[g3.block k (vw ao X.size) N];show (C.setCells w.heap.size i [uV x]).heap[k]?=_;rw[X.block k ao N,V.block k hk b6]
 have OF:=qL (KX (l:=l) (x:=x) (i:=i) a8 (by rw[<-hn,<-J];exact o3));have GA:=qL O;clear o3 O o1 o2;rw[<-E]at af;have hN:∀j,j<n+1->(C.cell? ⟨w.heap.size,j,none⟩).isSome=true:=λj H=>by rw[E,tW (w:=w.drew) R _ w.heap.size j rfl,We a8];rfl
 have Y:∀j,C.frozen? ⟨w.heap.size,j,none⟩=false:=λj=>by rw[E];exact TZ (w:=w.drew) R _ w.heap.size j rfl
 have ai:∀j v,w.cell? ⟨g,j,none⟩=some v->C.cell? ⟨g,j,none⟩=some v:=λj v h=>by rw[E,Tq (w:=w.drew) _ g j aA];exact h
 have aj:∀j v,w.cell? ⟨T,j,none⟩=some v->C.cell? ⟨T,j,none⟩=some v:=λj v h=>by rw[E,Tq (w:=w.drew) _ T j aC];exact h
 have au:(xT.info? 38).map (·.size)=some 1:=by rw[an];simp[hzs]
 have L:∀u∈[uV x],u.oneCell'=true:=λu hu=>by simp at hu;subst hu;rfl
 have ak:∀(W:World),(∀y,W.cell? y=C.cell? y)->(∀y,W.frozen? y=C.frozen? y)->∀M U,(Builtin.copy_ #[133,133] M #[.slice (some ⟨w.heap.size,i,none⟩) (n+1-i) U,.slice (some ⟨T,0,none⟩) 1 1]).run xT W=.ok (goInt [uV x].length) (W.setCells w.heap.size i [uV x]):=λW I ab M U=>
  TP W _ _ M 38 w.heap.size i (n+1-i) U ⟨T,0,none⟩ 1 1 [uV x] Tryz.underlying133 au (by simp only[uS,Uj];split<;>omega)
   (λj v H=>by have:=ar j v H;rw[zh]at this;rw[I,zh];exact aj _ v this)
   (λj H=>by rw[I];simp at H;exact hN _ a8) (λj H=>by rw[ab];exact Y _) L
 have am:(B.drop i).length=n-i:=by rw[W8,ad]
 have N:g≠w.heap.size:=a8
 have P:∀(W:World),(∀y,W.cell? y=(C.setCells w.heap.size i [uV x]).cell? y)->(∀y,W.frozen? y=(C.setCells w.heap.size i [uV x]).frozen? y)->∀M U sc,(Builtin.copy_ #[133,133] M #[.slice (some ⟨w.heap.size,i+1,none⟩) (n-i) U,.slice (some ⟨g,i,none⟩) (n-i) sc]).run xT W=.ok (goInt (B.drop i).length) (W.setCells w.heap.size (i+1) (B.drop i)):=λW I ab M U sc=>
  TP W _ _ M 38 w.heap.size (i+1) (n-i) U ⟨g,i,none⟩ (n-i) sc (B.drop i) Tryz.underlying133 au (by rw[am];simp only[Uj];split<;>omega)
   (λj v H=>by
     rw[I,zh,Tl _ _ _ _ _ (λh _=>absurd h N)];exact ai _ v (hg (i+j) v (by rwa[Wj]at H)))
   (λj H=>by rw[I];exact isSome_setCells _ _ _ _ (λt ht=>hN _ (by simp at ht;omega)) _ (hN _ a8))
   (λj H=>by rw[ab,Ts];exact Y _) (λv hv=>S v (Wt hv))
 have aw:∀y,((C.setCells w.heap.size i [uV x]).drew).cell? y=(C.setCells w.heap.size i [uV x]).cell? y:=λy=>rfl;have ax:∀y,((C.setCells w.heap.size i [uV x]).drew).frozen? y=(C.setCells w.heap.size i [uV x]).frozen? y:=λy=>rfl;have aP:¬((i:Int)=(n:Int)):=a8
 have aQ:(A:Int)<(n:Int)+1:=a8
 unfold maxLen at ah;have aH:¬(G=i):=a8
 have aG:¬(G=i+1):=a8
 have aK:¬(A=i):=a8
 have aO:IntKind.i64.wrap ((i:Int)+1)=(i:Int)+1:=by rw[Ty];omega
 have aI:(0:Int)<=(i:Int)+1:=a8
 have aL:i<=n:=a8
 have aN:((i:Int)+1).toNat=i+1:=a8
 have aJ:(i:Int)<=(n:Int):=a8
 clear hn aq ae Q hG Z hR az F hg hN Y ai aj S L ad J ar ag aB am V X g3 E;go_enter Tryz.func189,Tryz.ntmps189
 go_wp2_with (first
  |(at_builtin;refine Lib.wpList_append_run _ rfl _ _ _ _ rfl _ _ rfl rfl _ _ (af _) ?_)
  |(at_builtin;refine wpList_copy_runI _ rfl _ _ 133 133 rfl _ _ rfl rfl (ak _ (λ_=>rfl) (λ_=>rfl) _ _) ?_)
  |(at_builtin;refine wpList_copy_runI _ rfl _ _ 133 133 rfl _ _ rfl rfl (P _ (λ_=>rfl) (λ_=>rfl) _ _ _) ?_))
 have aE:xT.follows .mixedOrders=true:=dK
 go_region_law_o (refine step_copy_runI rfl _ _ 133 133 rfl (.slice (some ⟨w.heap.size,i+1,none⟩) (n-i) (G-(i+1))) (.slice (some ⟨g,i,none⟩) (n-i) (A-i)) dH dH (P _ aw ax _ (G-(i+1)) (A-i)) ?_)
 go_wp2;refine tz (tK rfl _ _ _) rfl ?_;exact⟨_,rfl,OF.o,GA.o,rfl⟩
def za8(base O:Nat)(vt:TypeId)(w:World)(g A:Nat)(l:List Nat)(x i:Nat)(hi:i<l.length)(F:OwnU base w (.slice (some ⟨g,0,none⟩) l.length A) l)(M:l.length+1<=A)(N:w.heap[O]?=some (.cells #[uV x] vt (0,0)))(aj:O≠g)(hl:l.length<=1099511627776):
 Calls xT 189 #[.slice (some ⟨g,0,none⟩) l.length A,.int .i64 (i:Nat),.slice (some ⟨O,0,none⟩) 1 1] w λe w'=>∃v',e=.returned v'/\OwnU base w' v' (l.take i++x::l.drop i)/\w.grownBy w' (some g)/\v'.ownBlock=some g:=by
 obtain⟨i0,aw,aH,hzs,aJ⟩:=tQ Vf;obtain⟨n,hn⟩:=xm (l.length);obtain⟨G,I⟩:=xm (l.map uV);have ae:G.length=n:=by rw[I,hn,wu]
 have S:∀u∈G,u.oneCell'=true:=by rw[I];exact QN
 have ak:=vH N;obtain⟨B,au,K,Q,V,Z⟩:∃B,base<=g/\w.heap[g]?=some (.cells B 38 (0,0))/\A<=maxLen/\B.size=A/\B.toList.take l.length=l.map uV:=by
  rcases F.cases with⟨h,_⟩|⟨g',az,B,h,h1,_,h3,_,h5,h6,h7⟩
  .cases h
  .cases h;exact⟨B,h1,h3,h5,h6,h7⟩
 rw[<-hn,<-I]at Z;rw[<-hn]at hi F M hl⊢;have ai:n<B.toList.length:=a9
 obtain⟨u,hu⟩:=xm (B.toList[n]);have o0:w.drew.ownsRow base 38 1 (.slice (some ⟨g,0,none⟩) (n+1) A) (n+1) (G++[u]):=by refine⟨a9,.inr ⟨g,A,B,rfl,au,K,M,Q,a8,?_⟩⟩;rw[Uh,X4 ai,Z,hu]
 obtain⟨o1,g1⟩:=z9 (G.drop i) (i+1) _ _ o0;obtain⟨o2,g2⟩:=z9 [uV x] i _ _ o1;rw[zc5 a8]at o2;have g0:w.grownBy w.drew (some g):=⟨rfl,rfl,rfl,Zp _,λ_ _ _=>rfl⟩;have OF:=qL (KX (l:=l) (x:=x) (i:=i) a8 (by rw[<-hn,<-I];exact o2));have GA:=qL (yn g0 (yn g1 g2));have C:∀j,j<A->(w.cell? ⟨g,j,none⟩).isSome=true:=λj E=>by simp[World.cell?,K,V,E]
 have Y:∀j,w.frozen? ⟨g,j,none⟩=false:=λj=>by simp[World.frozen?,K]
 have hg:∀j v,G[j]?=some v->w.cell? ⟨g,j,none⟩=some v:=λj v E=>by have:=tJ F (g:=g) rfl j v (by rw[<-I];exact E);rw[zh,wn]at this;exact this
 have am:w.shape? O=some (vt,1):=by simp[World.shape?,N]
 have an:w.shape? g=some (38,A):=by simp[World.shape?,K,V]
 have ag:w.frozen? ⟨O,0,none⟩=false:=by simp[World.frozen?,N]
 have ah:w.frozen? ⟨O,1,none⟩=false:=by simp[World.frozen?,N]
 have ao:(xT.info? 38).map (·.size)=some 1:=by rw[aw];simp[hzs]
 have L:∀u∈[uV x],u.oneCell'=true:=λu hu=>by simp at hu;subst hu;rfl
 have ax:∀lb cb,(callFunc 201 #[.slice (some ⟨O,0,none⟩) 1 1,.slice (some ⟨g,i+1,none⟩) lb cb]).run xT w=.ok (.value (.bool false)) w:=λlb cb=>by
  rw[tM Tryz.func201 dK dK dK (e:=Extern.SlicesOverlaps.overlaps #[133,133] #[4]) dK,
   T0 w 133 4 38 Tryz.underlying133 1 (λw=>dK) ⟨O,0,none⟩ ⟨g,i+1,none⟩ 1 1 lb cb aj vt 38 1 A am an a8 ag ah]
  rfl
 have X:(G.drop i).length=n-i:=by rw[W8,ae]
 have J:∀P U sc,(Builtin.copy_ #[133,133] P #[.slice (some ⟨g,i+1,none⟩) (n-i) U,.slice (some ⟨g,i,none⟩) (n+1-i) sc]).run xT w.drew=.ok (goInt (G.drop i).length) (w.drew.setCells g (i+1) (G.drop i)):=λP U sc=>
  TP w.drew _ _ P 38 g (i+1) (n-i) U ⟨g,i,none⟩ (n+1-i) sc (G.drop i) Tryz.underlying133 ao (by rw[X];simp only[Uj];split<;>omega)
   (λj v E=>by rw[zh];exact hg (i+j) v (by rwa[Wj]at E))
   (λj E=>C _ a8) (λj E=>Y _) (λv hv=>S v (Wt hv))
 obtain⟨W1,H⟩:=xm (w.drew.setCells g (i+1) (G.drop i));have T:∀k,k<A->(W1.cell? ⟨g,k,none⟩).isSome=true:=λk hk=>by rw[H];exact isSome_setCells g (G.drop i) (i+1) w.drew (λj E=>C _ (by rw[X]at E;omega)) k (C k hk)
 have af:∀(W:World),(∀y,W.cell? y=W1.cell? y)->(∀y,W.frozen? y=W1.frozen? y)->∀P U,(Builtin.copy_ #[133,133] P #[.slice (some ⟨g,i,none⟩) (n+1-i) U,.slice (some ⟨O,0,none⟩) 1 1]).run xT W=.ok (goInt [uV x].length) (W.setCells g i [uV x]):=λW ad ar P U=>
  TP W _ _ P 38 g i (n+1-i) U ⟨O,0,none⟩ 1 1 [uV x] Tryz.underlying133 ao (by simp only[uS,Uj];split<;>omega)
   (λj v E=>by
     rw[ad,H,Tl g _ _ _ _ (λh _=>absurd h (by rw[zh];exact aj))];exact ak j v E)
   (λj E=>by rw[ad];simp at E;exact T _ a8) (λj E=>by rw[ar,H,Ts];exact Y _) L
 rw[<-H]at J;have aq:=qL H;have aI:¬((i:Int)=(n:Int)):=a8
 unfold maxLen at Q;have aG:IntKind.i64.wrap ((i:Int)+1)=(i:Int)+1:=by rw[Ty];omega
 have aA:(0:Int)<=(i:Int)+1:=a8
 have aE:i<=n:=a8
 have aF:((i:Int)+1).toNat=i+1:=a8
 have aB:¬(A=i+1):=a8
 have aC:(i:Int)<=(n:Int)+1:=a8
 have aD:¬(A=i):=a8
 clear hn o0 o1 o2 g0 g1 g2 F C Y hg am an ag ah T H X S L ak ae I N K V Z ai hu;go_enter Tryz.func189,Tryz.ntmps189
 have av:=λP=>J P (A-(i+1)) (A-i);have ay:xT.follows .mixedOrders=true:=dK
 go_wp2_with (simp only[ax])
 go_region_law_o (refine step_copy_runI rfl _ _ 133 133 rfl _ _ dH dH (J _ _ _) ?_)
 go_wp2_with (first|(at_builtin;refine wpList_copy_runI _ rfl _ _ 133 133 rfl _ _ rfl rfl (af _ (λ_=>rfl) (λ_=>rfl) _ _) ?_))
 have ac:=OF.o;have ab:=GA.o;rw[<-aq.o]at ac ab;refine tz (tK rfl _ _ _) rfl ?_;exact⟨_,rfl,ac,ab,rfl⟩
def Y9(base F:Nat)(G:TypeId)(w:World)(v:Value)(l:List Nat)(x i:Nat)(hi:i<=l.length)(j:OwnU base w v l)(E:w.heap[F]?=some (.cells #[uV x] G (0,0)))(L:v.ownBlock≠some F)(K:l.length<=1099511627776)(u:base<=w.heap.size):
 Calls xT 189 #[v,.int .i64 (i:Nat),.slice (some ⟨F,0,none⟩) 1 1] w λe H=>∃y,e=.returned y/\OwnU base H y (l.take i++x::l.drop i)/\w.grownBy H v.ownBlock/\(y.ownBlock=v.ownBlock\/y.ownBlock=some w.heap.size):=by
 by_cases P:i=l.length
 .subst P;rw[Wp,uL];exact zfr base F G w v l x j E K u
 .have C:i<l.length:=a8;rcases j.cases with⟨_,N⟩|⟨g,A,M,rfl,_⟩
  .subst N;simp at C
  .by_cases O:A<l.length+1
   .refine(zfs base F G w g A l x i C j O E K u).mono ?_;rintro e H ⟨y,rfl,I,B,J⟩;exact⟨y,rfl,I,⟨B.os,B.tape,B.output,B.size,λk hk _=>B.block k hk b6⟩,.inr J⟩
   .refine(za8 base F G w g A l x i C j a8 E (λe=>L (by rw[e];rfl)) K).mono ?_;rintro e H ⟨y,rfl,I,B,J⟩;exact⟨y,rfl,I,B,.inl J⟩
end
section
open Go.RowKit
def DX(C:Qk)(j:Nat)(w:World)(v:Value):Nat->Nat->Prop:=λb o=>DL C j w b o/\v.ownBlock≠some b
def OutE(C:Qk)(mb base:Nat)(w:World)(v:Value)(j:List En):Prop:=
 ∃u,w.ownsRow base 109 3 v j.length u/\∀i (h:i<j.length),u[i*3]?=some (uV j[i].rep)/\u[i*3+1]?=some (uV j[i].max)/\∃y,u[i*3+2]?=some y/\Dat (DX C mb w v) w y (rg j[i].holes)
def OutE.start(C:Qk)(j base:Nat)(w:World):OutE C j base w (.slice none 0 0) []:=⟨[],tS _ _ _ _,λi h=>absurd h b6⟩
def OutE.owns{C:Qk}{y base:Nat}{w:World}{v:Value}{j:List En}(h:OutE C y base w v j):∀k,v.ownBlock=some k->base<=k/\k<w.heap.size:=by obtain⟨A,u,_⟩:=h;exact u.lt
def DX.keep{C:Qk}{u:Nat}{w w':World}{v:Value}{x:Value}{p:PV}(h:Dat (DX C u w v) w x p)(hs:w.heap.size<=w'.heap.size)(hb:∀k,k<w.heap.size->v.ownBlock≠some k->w'.heap[k]?=w.heap[k]?):Dat (DX C u w' v) w' x p:=
 h.mono (λb o h=>⟨h.1.imp id λh=>⟨h.1,vw h.2 hs⟩,h.2⟩) λb o x h j=>(tn (a:=⟨b,o,none⟩) (hb b (tq w ⟨b,o,none⟩ j) h.2)).trans j
def OutE.keep{C:Qk}{E base:Nat}{w w':World}{v:Value}{y:List En}(h:OutE C E base w v y)(hs:w.heap.size<=w'.heap.size)(hb:∀k,k<w.heap.size->w'.heap[k]?=w.heap[k]?):OutE C E base w' v y:=by
 obtain⟨xs,A,F⟩:=h;refine⟨xs,⟨A.1,?_⟩,λi hi=>?_⟩
 .rcases A.2 with h|⟨g,j,u,e,G,B,r⟩
  .exact .inl h
  .exact .inr ⟨g,j,u,e,G,(hb g (XE.1 B).1).trans B,r⟩
 .obtain⟨a,b,H,c,d⟩:=F i hi;exact⟨a,b,H,c,DX.keep d hs λk hk _=>hb k hk⟩
def OutE.push{C:Qk}{mb base:Nat}{w G:World}{v F:Value}{j:List En}{e:En}{A:List Value}{y:Value}(K:∀i (h:i<j.length),A[i*3]?=some (uV j[i].rep)/\A[i*3+1]?=some (uV j[i].max)/\∃y,A[i*3+2]?=some y/\Dat (DX C mb w v) w y (rg j[i].holes))
 (J:w.ownsRow base 109 3 v j.length A) (M:Dat (DX C mb w v) w y (rg e.holes)) (L:∀b o,C b o->b<mb) (N:mb<w.heap.size) (ho:G.ownsRow base 109 3 F (j.length+1) (A++[uV e.rep,uV e.max,y])) (H:w.grownBy G v.ownBlock) (u:F.ownBlock=v.ownBlock\/F.ownBlock=some w.heap.size) :
 OutE C mb base G F (j++[e]):=by
 have E:∀{x:Value}{p:PV},Dat (DX C mb w v) w x p->Dat (DX C mb G F) G x p:=λ{x p} h=>
  h.mono (λb o h=>⟨h.1.imp id λh=>⟨h.1,vw h.2 H.size⟩,λe=>by
   rcases u with u|u
   .exact h.2 (u.symm.trans e)
   .rw[u]at e;cases e;rcases h.1 with h|h
    .have:=L _ _ h;omega
    .omega⟩) λb o x h I=>(tn (a:=⟨b,o,none⟩) (H.block b (tq w ⟨b,o,none⟩ I) λe=>h.2 e.symm)).trans I
 have O:=J.1;refine⟨A++[uV e.rep,uV e.max,y],dJ ho,λi hi=>?_⟩;simp only[wk,wy,Wx,wn]at hi;by_cases B:i<j.length
 .obtain⟨a,b,y,c,d⟩:=K i B;rw[up B];refine⟨?_,?_,y,?_,E d⟩
  .rw[V3 a8];exact a
  .rw[V3 a8];exact b
  .rw[V3 a8];exact c
 .obtain rfl:i=j.length:=a8;rw[Wv (Zp _)];simp only[UM,ux];refine⟨?_,?_,y,?_,E M⟩
  .rw[V1 a8,show j.length*3-A.length=0 by omega];rfl
  .rw[V1 a8,show j.length*3+1-A.length=1 by omega];rfl
  .rw[V1 a8,show j.length*3+2-A.length=2 by omega];rfl
def Ki{D:Qk}{w:World}{v:Value}{l:List Iv}(h:Dat D w v (rg l)):v.oneCell'=true:=by obtain⟨u,j,rfl⟩:=zK h;rfl
def OutE.dat{C:Qk}{I base:Nat}{w:World}{v:Value}{u:List En}(h:OutE C I base w v u)(hb:I<base):Dat (DL C I w) w v (vp u):=by
 obtain⟨L,M,P⟩:=h;rcases M.2 with⟨rfl,O⟩|⟨g,J,N,rfl,Y,S,X,V,hs,ht⟩
 .obtain rfl:=wX.1 O;exact .sl none 0 3 [] .sh 0 0 (λ_=>undef) b6 (λh=>by cases h) b8 (λh=>absurd rfl h) (λi e h=>by simp at h) (λj h=>by simp at h) (λi e j p h=>by simp at h)
 .have K:=(XE.1 S).1;have G:∀j x,L[j]?=some x->w.cell? ⟨g,j,none⟩=some x:=λj x E=>(by have:=M.cells (g:=g) rfl j x E;rw[zh,wn]at this;exact this);have y:∀i (h:i<u.length) j p,(ec u[i])[j]?=some p->∃x,L[i*3+j]?=some x/\Dat (DL C I w) w x p/\x.oneCell'=true:=λi h j p B=>by
   obtain⟨a,b,Z,c,d⟩:=P i h;match j,B with
   |0,B=>cases B;exact⟨_,a,.v _,rfl⟩
   |1,B=>cases B;exact⟨_,b,.v _,rfl⟩
   |2,B=>cases B;exact⟨_,c,d.mono (λ_ _ h=>h.1) λ_ _ _ _ h=>h,Ki d⟩
   |j+3,B=>simp[ec]at B
  have F:∀(i:Nat)(e:List PV),(u.map ec)[i]?=some e->∃h:i<u.length,e=ec u[i]:=λi e H=>(by rw[wj]at H;obtain⟨x,E,rfl⟩:=ZZ.1 H;obtain⟨h,rfl⟩:=Zw.1 E;exact⟨h,rfl⟩);have A:(u.map ec).length=u.length:=wu _;unfold vp;rw[<-A];refine .sl (some ⟨g,0,none⟩) J 3 (u.map ec) .sh g 0 (λj=>(L[j]?).getD undef) (by rw[A];exact X) (λh=>by cases h) V (λ_=>rfl) (λi e H=>?_) (λj U=>?_) (λi e j p H B=>?_)
  .obtain⟨h,rfl⟩:=F i e H;rfl
  .rw[A]at U;have hi:j/3<u.length:=a8;have Q:j%3<(ec u[j/3]).length:=U3 _ b8;obtain⟨x,E,_,ho⟩:=y (j/3) hi (j%3) ((ec u[j/3])[j%3]) (Zv Q);rw[show j/3*3+j%3=j by omega]at E;rw[wn];refine⟨.inr ⟨a8,K⟩,?_,?_⟩
   .rw[E];exact G j x E
   .rw[E];exact ho
  .obtain⟨h,rfl⟩:=F i e H;obtain⟨x,E,T,_⟩:=y i h j p B;rw[E];exact T
end
section
open Go.ChangeShapes Go.WideShapes Go.ChangeAt Go.RowKit Go.Deep
def ZG(w:World):Nat->Nat->Prop:=λb _=>b<w.heap.size
def zhi(D:Qk)(w:World):List Value->List PV->Prop
 |[],[]=>True
 |v::l,p::ps=>Dat D w v p/\zhi D w l ps
 |_,_=>False
def XX{D:Qk}{w:World}:∀{l:List Value}{j:List PV},zhi D w l j->l.length=j.length/\∀(i:Nat) p,j[i]?=some p->Dat D w (l.getD i undef) p
 |[],[],_=>⟨rfl,λi p h=>by simp at h⟩
 | v::l,p::j,h=>by
   obtain⟨y,A⟩:=XX h.2;refine⟨by simp[y],λi q u=>?_⟩;cases i with
   |zero=>cases u;exact h.1
   |succ i=>simpa using A i q (dJ u)
 |[],_::_,h=>h.elim
 |_::_,[],h=>h.elim
def zeZ{f:FuncId}{w:List PV}{l:List Value}{W:World}(h:Cn xT f w (.v (.bool true)))(j:GL (ZG W) W)(B:zhi (ZG W) W l w):Calls xT f l.toArray W λe u=>e=.returned (.bool true)/\Below W.heap.size W u:=by obtain⟨y,A⟩:=XX B;refine(h.2 (ZG W) W l.toArray j (λ_ _ h=>h) (dJ y) (λi p C=>by have:=A i p C;simpa[Q9]using this)).mono ?_;rintro e u ⟨v,F,rfl,hb,_,_,_,E,_⟩;rw[E.v_inv];exact⟨rfl,hb⟩
section
variable {H:Type}{enc:TypeId×Value->H}{w:World}{base:Nat}{spare:Nat->Bool}{held:Bool}
def zrh{r:Reach}{y:Nat}{v:Value}{d:DataW H}{A:List MemPlace}(j:Value.okWide xT w r y 26 v)(h:DataW.Trod enc xT w base spare held 26 v d A):∃l,Dat (ZG w) w v (rg l)/\∀s∈l,s.lo<zk/\s.hi<zk:=by obtain⟨l,u⟩:=zpo j h;exact⟨l,jp u λ_ _ _ h=>h,u.bound⟩
end
end
section
open Go.RowKit
def jS(c:Nat)(k:Int):PV:=if c=0 then .v .nilIface else .ifc 96 (.agg [.v (.int .i64 c),.v (.int .i64 k)])
def Z2(c:Nat):PV:=.ifc 49 (.v (.int .i64 c))
def ym(c:Nat)(k:Int):SubP 0 (jS c k) (jS c k):=.eq _ (by unfold jS;split<;>rfl)
def jT(c:Nat)(k:Int):Cn xT 60 [.v (.int .i64 c),.v (.int .i64 k)] (jS c k):=by
 refine zt Tryz.func60 2 ?_;refine pw ?_;unfold jS;refine .i ?_ ?_<;>intro h<;>(try simp only[zb]at h)<;>first|refine pw ?_|exact pd
 .rw[vj a8];exact pd
 .rw[Vm a8];exact pd
def v8(a b:Nat)(hb:b<zk):Cn xT 100 [.v (.int .u64 a),.v (.int .u64 b)] (.tup [.v (.int .u64 (b-a-1:Nat)),.v (.bool (decide (a<b)))]):=by
 have w:=zw;refine zt Tryz.func100 2 ?_;refine pw ?_;refine .i ?_ ?_<;>intro h<;>(try simp only[zb]at h)<;>first|refine pw ?_|exact pd
 .have j:¬a<b:=a8;have u:b-a-1=0:=a8;simp[j,u]
 .simp[h]
def zea(s:Iv):Cn xT 62 [Je s] (if s.lo<=s.hi then .v .nilIface else Z2 2):=by
 refine zt Tryz.func62 1 ?_;refine pw ?_;refine .i ?_ ?_<;>intro h<;>(try simp only[zb]at h)<;>first|refine pw ?_|exact pd
 .rw[Vm a8];unfold Z2;exact pd
 .rw[vj h];exact pd
def ziY(s t:Iv)(B:s.lo<=s.hi)(C:t.lo<=t.hi)(E:s.hi<zk)(F:t.hi<zk):Cn xT 63 [Je s,Je t] (.v (.int .i64 (relate s t:Nat))):=by
 have G:=zw;refine zt Tryz.func63 2 ?_;refine pw ?_;refine .c (v8 s.hi t.lo a8) ?_;unfold relate;by_cases w:s.hi<t.lo
 .have j:¬t.hi<s.lo:=a8;by_cases y:s.hi+1=t.lo
  .have u:t.lo-s.hi-1=0:=a8;rw[vj w,vj y,u,uu w];refine pw ?_;refine .c (v8 t.hi s.lo a8) ?_;rw[Wy j];exact pd
  .have u:0<t.lo-s.hi-1:=a8;rw[vj w,Vm y,uu w];refine pw ?_;refine .i ?_ ?_<;>intro A<;>(try simp only[zb]at A)<;>first|refine pw ?_|exact pd
   .refine .c (v8 t.hi s.lo a8) ?_;rw[Wy j];exact pd
   .exact absurd u a8
 .rw[Vm w,Wy w];refine pw ?_;refine .c (v8 t.hi s.lo a8) ?_;by_cases j:t.hi<s.lo
  .by_cases y:t.hi+1=s.lo
   .have u:s.lo-t.hi-1=0:=a8;rw[vj j,vj y,u,uu j];exact pd
   .have u:0<s.lo-t.hi-1:=a8;rw[vj j,Vm y,uu j];refine pw ?_;refine .i ?_ ?_<;>intro A<;>(try simp only[zb]at A)<;>first|refine pw ?_|exact pd
    exact absurd u a8
  .rw[Vm j,Wy j];exact pd
def rcheck_c(l:List Iv)(hb:∀s∈l,s.lo<zk/\s.hi<zk)(L:l.length<=1152921504606846976)(w:(Zl l).1=0\/Cn xT 11 [Z2 2] (.v (.int .i64 2))):Cn xT 29 [rg l] (jS (Zl l).1 (Zl l).2):=by
 refine zt Tryz.func29 1 ?_;refine pw ?_;refine pLoop.go (λk=>k<=l.length/\Zl l=QZ (y7 l k) (l.drop k) k/\∀j (h:j<l.length),j<k->l[j].lo<=l[j].hi) (λk=>[(8,.v (.int .i64 (k:Nat)))]) (λ_=>[]) (λk=>l.length-k) 0 [8] ?_ ?_ ?_
 .exact⟨X3 _,rfl,λj _ h=>absurd h a8⟩
 .exact pd
 .rintro k ⟨hk,u,H⟩;refine pw ?_;refine .i ?_ ?_<;>intro h<;>(try simp only[zb]at h)<;>first|refine pw ?_|exact pd
  .rw[Yj h]at u;have B:=hb _ (Yf h);refine .rd (zea l[k]) rfl ?_;by_cases A:l[k].lo<=l[k].hi
   .rw[vj A]at u⊢;have hs:y7 l (k+1)=some l[k]:=(by unfold y7;rw[Vm a8];exact Zv h);have y:∀j (G:j<l.length),j<k+1->l[j].lo<=l[j].hi:=λj G K=>by
     rcases wK j k with F|F
     .exact H j G F
     .obtain rfl:j=k:=a8;exact A
    refine pw ?_;refine .i ?_ ?_<;>intro I<;>(try simp only[zb]at I)<;>first|refine pw ?_|exact pd
    .have E:y7 l k=some l[k-1]:=(by unfold y7;rw[Vm a8,Zv]);rw[E]at u;have C:=hb _ (Yf (show k-1<l.length by omega));refine .c (ziY l[k-1] l[k] (H (k-1) a8 a8) A C.2 B.2) ?_;refine .i ?_ ?_<;>intro J<;>(try simp only[zb]at J)<;>first|refine pw ?_|exact pd
     .rw[Vm a8]at u;rw[u];refine .c (jT 3 (k:Nat)) ?_;exact ym _ _
     .rw[vj a8]at u;exact⟨k+1,⟨h,by rw[hs];exact u,y⟩,a8,rfl⟩
    .have E:y7 l k=none:=(by unfold y7;rw[vj a8]);rw[E]at u;exact⟨k+1,⟨h,by rw[hs];exact u,y⟩,a8,rfl⟩
   .rw[Vm A]at u⊢;unfold Z2 at w⊢;rcases w with w|w
    .rw[u]at w;cases w
    .refine pw ?_
     (first|refine .c (w) ?_|refine .o (w) ?_)
     rw[u];refine .c (jT 2 (k:Nat)) ?_;exact ym _ _
  .rw[wA h]at u;rw[u];exact .eq _ rfl
def zpJ(l:List Iv)(j:Nrm l)(u:l.length<=1152921504606846976):Cn xT 29 [rg l] (.v .nilIface):=by have hz:=(YT (l:=l) λs hs=>(j.lt s hs).2).2 j;have:=rcheck_c l j.lt u (.inl hz);unfold jS at this;rw[vj hz]at this;exact this
end
end Go.Proofs.YtbhngpjkakcgfaaGreatDoor
