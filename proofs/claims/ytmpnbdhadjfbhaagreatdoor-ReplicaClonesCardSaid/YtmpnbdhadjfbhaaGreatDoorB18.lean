import Derived.Maps.Own
import Derived.Maps.OwnIn
import Derived.Maps.Views
import Derived.Maps.RangeWalk
import Derived.Test.YtmpnbdhadjfbhaaGreatDoorB17
set_option maxHeartbeats 16000000
set_option linter.all false
set_option maxRecDepth 100000
namespace Go.Proofs.YtmpnbdhadjfbhaaGreatDoor
def tU:=@Go.World.cell?_setCell_same
def tZ:=@Go.RowKit.Below.setCell
def TU:=@Go.Maps.has_put_other
def TY:=@Go.Maps.has_put_same
def T2:=@Go.Maps.atKey_put_other
open Go.RowKit
open Go.Proofs.Tryz
open Go.Proofs.Tryz renaming prog->xt
section
def zgI(a b:List Iv)(B:a.length<=1152921504606846976):Cn xt 77 [rg a,rg b] (.v (.bool (decide (a=b)))):=by
 refine zt func77 2 ?_;refine pw ?_;refine .i ?_ ?_<;>intro o<;>first|refine pw ?_|exact pd
 .symm;rw[Wx];rintro rfl;exact o rfl
 .have w:a.length=b.length:=(dK o);clear o;refine pLoop.go (λk=>k<=a.length/\(a=b↔a.drop k=b.drop k)) (λk=>[(5,.v (.int .i64 (k:Nat)))]) (λ_=>[]) (λk=>a.length-k) 0 [5] ?_ ?_ ?_
  .exact⟨X3 _,UG⟩
  .exact pd
  .rintro k ⟨hk,j⟩;refine pw ?_;refine .i ?_ ?_<;>intro h<;>first|refine pw ?_|exact pd
   .have u:k<b.length:=a8;rw[vD h,vD u,Wi]at j;refine pw ?_;refine .i ?_ ?_<;>intro e<;>first|refine pw ?_|exact pd
    .symm;rw[Wx];intro A;have:=(j.1 A).1;rcases (dK e:¬a[k].lo=b[k].lo\/¬a[k].hi=b[k].hi)with e|e
     .exact e (WR Iv.lo this)
     .exact e (WR Iv.hi this)
    .refine⟨k+1,⟨h,?_⟩,a8,rfl⟩;rw[j];have e:a[k].lo=b[k].lo/\a[k].hi=b[k].hi:=(dK e);exact⟨λh=>h.2,λh=>⟨Iv.ext' e.1 e.2,h⟩⟩
   .rw[eq_comm,wG,j,wA h,wA a8]
def VX(o:List (List Iv))(G:o.length<=1048576)(H:∀l∈o,l.length<=1048576)(I:(yU o).length<=1048576)(M:∀l∈o,∀s∈l,s.lo<zk/\s.hi<zk):Cn xt 161 [rgs o] (.sl ((zH o).map yN) .sh):=by
 have O:=zw;refine zt func161 1 ?_;refine pw ?_;refine pLoop.go (λi=>i<=o.length) (λi=>[(3,.sl ((kA o i 0).map yN) (.r 9 1)),(4,.v (.int .i64 (i:Nat)))]) (λ_=>[]) (λi=>o.length-i) 0 [3,4,9] ?_ ?_ ?_
 .exact X3 _
 .rw[zf6];exact pd
 ·rintro i hi;refine pw ?_;refine .i ?_ ?_<;>intro h<;>first|refine pw ?_|exact pd
  .have Q:=H _ (XE h);refine pLoop.go (λj=>j<=o[i].length) (λj=>[(3,.sl ((kA o i j).map yN) (.r 9 1)),(5,.v (.int .i64 (j:Nat)))]) (λ_=>[]) (λj=>o[i].length-j) 0 [3,5,9] ?_ ?_ ?_
   .exact X3 _
   .exact pd
   .rintro j K;have w:=zdK j h;refine pw ?_;refine .i ?_ ?_<;>intro hc<;>first|refine pw ?_|exact pd
    .have hb:=M _ (XE h) _ (XE hc);refine callQ.mk zgX rfl ?_;refine pw ?_;refine .i ?_ ?_<;>intro P<;>first|refine pw ?_|exact pd
     .refine⟨j+1,hc,a8,?_,rfl⟩;rw[YF h hc,jQ,Vm a8];simp[yN]
     .refine⟨j+1,hc,a8,?_,rfl⟩;rw[YF h hc,jQ,Vq a8];simp[yN]
    .refine⟨i+1,h,a8,?_,rfl⟩;rw[zbv h hc]
  ·rw [zdJ h];generalize F:yU o=xs at I⊢;have E:zH o=srt xs:=(by rw[<-F];rfl);rw[E];refine pLoop.mk (λk=>k<=xs.length) (λk=>⟨[(3,.sl (xs.map yN) (.r 9 1)),(6,.sl ((srt (xs.take k)).map yN) (.r 108 1)),(7,.v (.int .i64 (k:Nat)))],[]⟩) (λk=>xs.length-k) 0 ?_ ?_ ?_
   .exact X3 _
   .rw[Wb,XB];exact pd
   .rintro k hk;have w:=ju (xs.take k);have C:(xs.take k).length<=k:=uM _ _;refine pw ?_;refine .i ?_ ?_<;>intro u<;>first|refine pw ?_|exact pd
    .refine pLoop.go (λa=>a<=(srt (xs.take k)).length/\∀m (h:m<(srt (xs.take k)).length),a<=m->xs[k]<(srt (xs.take k))[m]) (λa=>[(8,.v (.int .i64 (a:Nat)))]) (λ_=>[]) (λa=>a) (srt (xs.take k)).length [8] ?_ ?_ ?_
     .exact⟨Zp _,λm G H=>absurd G a8⟩
     .exact pd
     .rintro at_ ⟨ha,hb⟩;refine pw ?_;refine .i ?_ ?_<;>intro N<;>first|refine pw ?_|exact pd
      .refine .i ?_ ?_<;>intro J<;>first|refine pw ?_|exact pd
       .refine⟨at_-1,⟨a8,λm L B=>?_⟩,a8,rfl⟩;rcases uE B with A|A
        .subst A;exact J
        .exact hb m L a8
       .refine .i ?_ ?_<;>intro B<;>first|refine pw ?_|exact pd
        .exact absurd B a8
        .refine .i ?_ ?_<;>intro A<;>first|refine pw ?_|exact pd
         .refine cutP.mk [3,7] ?_ (keepOk.mk2 rfl rfl ?_ ?_ ?_) ?_
          .exact pd
          .exact pd
          .exact pd
          .right;exact pd
          .refine pw ?_;refine⟨k+1,u,a8,?_,rfl⟩;rw[X4 u,kJ ha hb (.inr ⟨a8,a8⟩)];simp[yN]
         .refine⟨k+1,u,a8,?_,rfl⟩;rw[X4 u,zaw (by rw[<-A];exact XE _)]
      .obtain rfl:at_=0:=a8;have hz:=kJ ha hb (.inl rfl);rw[<-X4 u]at hz;refine pw ?_;refine cutP.mk [3,7] ?_ (keepOk.mk2 rfl rfl ?_ ?_ ?_) ?_
       .exact pd
       .exact pd
       .exact pd
       .right;exact pd
       .refine pw ?_;refine⟨k+1,u,a8,?_,rfl⟩;rw[hz];simp[yN]
    .rw[wm u]
def Kl{ls:List (List Iv)}:(zH ls).length<=(yU ls).length:=ju _
def zjo(a b:List Iv):(yU [a,b]).length<=1+2*a.length+2*b.length:=by have:=vq a;have:=vq b;simp[yU];omega
def zhw(a b:List Iv)(op:Nat)(ha:Nrm a)(hb:Nrm b)(ho:op<3)(J:a.length<=131072)(K:b.length<=131072):Cn xt 133 [rg a,rg b,.v (.int .i64 op)] (rg (qy (Qj op) a b)):=by
 have L:=zw;have C:=zjo a b;have F:=Kl (ls:=[a,b]);have hcut:∀c,c∈z6 a\/c∈z6 b->c∈zH [a,b]:=λc hc=>qr.2 (by simp[yU];exact .inr hc);have j:∀x∈zH [a,b],x<zk:=Ze (by simp;exact⟨λs hs=>(ha.lt s hs).1,λs hs=>(hb.lt s hs).1⟩);refine zt func133 3 ?_;refine pw ?_;refine callO.rd (VX [a,b] b6 a9 a8 (by simp;exact⟨ha.lt,hb.lt⟩)) rfl ?_;refine pw ?_;refine pLoop.go (λp:Nat×List Iv=>p.1<=(zH [a,b]).length/\DoInv (Qj op) a b (zH [a,b]) p.1 p.2) (λp=>[(8,.sl (p.2.map Q2) (.r 38 2)),(9,.v (.int .i64 (p.1:Nat)))]) (λ_=>[]) (λp=>(zH [a,b]).length-p.1) (0,[]) [8,9] ?_ ?_ ?_
 .exact⟨X3 _,DoInv.zero _⟩
 .exact pd
 .rintro⟨i,u⟩ ⟨hi,o⟩;simp only at hi o;have E:=o.len;refine pw ?_;refine .i ?_ ?_<;>intro h<;>first|refine pw ?_|exact pd
  .refine callQ.mk (kU a _ a8) rfl ?_;refine pw ?_;refine callQ.mk (kU b _ a8) rfl ?_;refine pw ?_;refine callQ.mk (zi5 _ _ op ho) rfl ?_;obtain⟨G,H⟩:=o.step ha hb (x8 _) j hcut h;refine pw ?_;refine .i ?_ ?_<;>intro B<;>first|refine pw ?_|exact pd
   .refine callP.mk (zan _ i h a8 λA=>?_) rfl ?_
    .have:=jJ (x8 [a,b]) A (UA i);have:=j _ (XE A);omega
    have I:=G B;have w:=j _ (XE h);refine pw ?_;refine callO.mk (zlq u ⟨(zH [a,b])[i],if h:i+1<(zH [a,b]).length then (zH [a,b])[i+1]-1 else zk-1⟩ w (λt ht=>?_) a8) rfl ?_
    .have e:KD (zH [a,b]) i=(zH [a,b])[i]:=ul h;have:=o.lt t ht;have:=o.nrm.lt t ht;show _/\t.hi<(zH [a,b])[i];omega
    refine pw ?_;exact⟨(i+1,_),⟨h,I⟩,a8,rfl,rfl⟩
   .exact⟨(i+1,u),⟨h,H B⟩,a8,rfl,rfl⟩
  .obtain rfl:i=(zH [a,b]).length:=a8;rw[o.done ha hb]
def znf:Qj 0=zn:=rfl
def Kf(a b:List Iv)(ha:Nrm a)(hb:Nrm b)(j:a.length<=131072)(o:b.length<=131072):Cn xt 137 [rg a,rg b] (rg (qy zn a b)):=by refine zt func137 2 ?_;refine pw ?_;refine callP.mk (zhw a b 0 ha hb a8 j o) rfl ?_;refine pw ?_;rfl
def zq2(a b:List Iv)(ha:Nrm a)(hb:Nrm b)(j:a.length<=131072)(o:b.length<=131072):Cn xt 99 [rg a,rg b] (rg (qy fMeet a b)):=by refine zt func99 2 ?_;refine pw ?_;refine callP.mk (zhw a b 1 ha hb a8 j o) rfl ?_;refine pw ?_;rfl
def QE(a b:List Iv)(ha:Nrm a)(hb:Nrm b)(j:a.length<=131072)(o:b.length<=131072):Cn xt 163 [rg a,rg b] (rg (qy zm a b)):=by refine zt func163 2 ?_;refine pw ?_;refine callP.mk (zhw a b 2 ha hb a8 j o) rfl ?_;refine pw ?_;rfl
def zd6(s:Iv):Cn xt 48 [Je s] (.v (.bool (decide (s.lo<=s.hi)))):=by refine zt func48 1 ?_;exact pd
def y7(l:List Iv)(k:Nat):Option Iv:=if k=0 then none else l[k-1]?
def XO(l:List Iv)(B:l.length<=9223372036854775807)(hb:∀s∈l,s.lo<zk/\s.hi<zk):Cn xt 21 [rg l] (.tup [.v (.int .i64 (Zl l).1),.v (.int .i64 (Zl l).2)]):=by
 refine zt func21 1 ?_;refine pw ?_;refine pLoop.go (λk=>k<=l.length/\Zl l=QZ (y7 l k) (l.drop k) k) (λk=>[(4,.v (.int .i64 (k:Nat)))]) (λ_=>[]) (λk=>l.length-k) 0 [4] ?_ ?_ ?_
 .exact⟨X3 _,rfl⟩
 .exact pd
 .rintro k ⟨hk,j⟩;refine pw ?_;refine .i ?_ ?_<;>intro h<;>first|refine pw ?_|exact pd
  .refine callP.mk (zd6 l[k]) rfl ?_;rw[Yj h]at j;refine pw ?_;refine .i ?_ ?_<;>intro w<;>first|refine pw ?_|exact pd
   .rw[Vq a8]at j;rw[j];rfl
   .rw[Vm w]at j;have hs:y7 l (k+1)=some l[k]:=(by unfold y7;rw[Vq a8];exact Zv h);refine .i ?_ ?_<;>intro A<;>first|refine pw ?_|exact pd
    .have o:y7 l k=some l[k-1]:=(by unfold y7;rw[Vq a8,Zv]);rw[o]at j;refine callQ.mk (zd3 l[k-1] l[k] (hb _ (XE _)).1 (hb _ (XE _)).1) rfl ?_;refine pw ?_;refine .i ?_ ?_<;>intro u<;>first|refine pw ?_|exact pd
     .rw[Vq (dK u)]at j;rw[j];rfl
     .rw[Vm (dK u)]at j;exact⟨k+1,⟨h,by rw[hs];exact j⟩,a8,rfl⟩
    .have o:y7 l k=none:=(by unfold y7;rw[Vm a8]);rw[o]at j;exact⟨k+1,⟨h,by rw[hs];exact j⟩,a8,rfl⟩
  .rw[wA h]at j;rw[j];rfl
def n23:Nrm [⟨2,3⟩,⟨9,9⟩]:=by simp[Nrm,NF,zw]
def n01:Nrm [⟨0,1⟩,⟨4,8⟩]:=by simp[Nrm,NF,zw]
def n09:Nrm [⟨0,9⟩]:=by simp[Nrm,NF,zw]
def e1:qy zm [⟨0,9⟩] [⟨2,3⟩,⟨9,9⟩]=[⟨0,1⟩,⟨4,8⟩]:=vK n09 n23 n01 λx _=>by rw[WD];simp[mem,zm];omega
def e2:qy zn [⟨2,3⟩,⟨9,9⟩] [⟨0,1⟩,⟨4,8⟩]=[⟨0,9⟩]:=vK n23 n01 n09 λx _=>by rw[WD];simp[mem,zn];omega
def e4:qy zm [⟨2,3⟩,⟨9,9⟩] [⟨0,1⟩,⟨4,8⟩]=[⟨2,3⟩,⟨9,9⟩]:=vK n23 n01 n23 λx _=>by rw[WD];simp[mem,zm];omega
def e5:qy fMeet [⟨2,3⟩,⟨9,9⟩] [⟨0,1⟩,⟨4,8⟩]=[]:=vK n23 n01 trivial λx _=>by rw[WD];simp[mem,fMeet];omega
def e6:qy zm [⟨2,3⟩,⟨9,9⟩] [⟨0,1⟩,⟨4,8⟩]=[⟨2,3⟩,⟨9,9⟩]:=vK n23 n01 n23 λx _=>by rw[WD];simp[mem,zm];omega
def BdR(l:List Iv):Prop:=∀s∈l,s.lo<zk/\s.hi<zk
def ec(e:En):List PV:=[.v (.int .u64 e.rep),.v (.int .u64 e.max),rg e.holes]
def ep(e:En):PV:=.agg (ec e)
attribute [go_sem] ep ec
def zjh(a b:En)(w:a.holes.length<=1152921504606846976):Cn xt 114 [ep a,ep b] (.v (.bool (decide (a=b)))):=by
 refine zt func114 2 ?_;refine pw ?_;have j:(a=b)↔(a.rep=b.rep/\a.max=b.max/\a.holes=b.holes):=⟨λh=>by subst h;exact⟨rfl,rfl,rfl⟩,λh=>En.ext' h.1 h.2.1 h.2.2⟩;refine .i ?_ ?_<;>intro o<;>first|refine pw ?_|exact pd
 .refine .i ?_ ?_<;>intro u<;>first|refine pw ?_|exact pd
  .refine .c (zgI a.holes b.holes w) ?_;simp[j,o,u]
  .simp[j,u]
 .simp[j,o]
def hk(m:Nat):List Iv->Nat->Nat×Int
 |[],_=>(0,-1)
 |s::r,i=>if m<s.hi then (4,(i:Int)) else hk m r (i+1)
def yV(e:En):Nat×Int:=if (Zl e.holes).1=0 then hk e.max e.holes 0 else Zl e.holes
def K4(m:Nat):∀(l:List Iv)(i:Nat),(hk m l i).1=0↔∀s∈l,s.hi<=m
 |[],i=>by simp[hk]
 | s::r,i=>by
   have:=K4 m r (i+1);unfold hk;split
   .simp;omega
   .rw[this];simp;omega
def K3{m:Nat}{l:List Iv}{k:Nat}(h:k<l.length):hk m (l.drop k) k=if m<l[k].hi then (4,(k:Int)) else hk m (l.drop (k+1)) (k+1):=by rw[vD h];rfl
def Xu(e:En):Bool:=decide ((yV e).1=0)
def VU{e:En}(h:∀s∈e.holes,s.lo<zk/\s.hi<zk)(u:e.max<zk)(w:e.rep<zk):Xu e=true↔zO e:=by
 have o:=YT (l:=e.holes) λs hs=>(h s hs).2;have hz:=K4 e.max e.holes 0;unfold Xu yV zO;rw[wG];by_cases j:(Zl e.holes).1=0
 .rw[Vm j,hz];exact⟨λg=>⟨o.1 j,g,u,w⟩,λg=>g.2.1⟩
 .rw[Vq j];exact⟨λg=>absurd g j,λg=>absurd (o.2 g.1) j⟩
def Vl(e:En)(h:zO e)(j:e.holes.length<=131072):Cn xt 166 [ep e] (rg (kn e)):=by refine zt func166 1 ?_;refine pw ?_;refine .c (QE [⟨0,e.max⟩] e.holes (qG (X3 _) h.2.2.1) h.1 b6 j) ?_;rfl
def zg1(r:Nat)(l:List Iv)(j:Nrm l)(o:l.length<=131072):Cn xt 132 [.v (.int .u64 r),rg l] (.tup [ep (Qi r l).1,.v (.bool (Qi r l).2)]):=by
 refine zt func132 2 ?_;refine pw ?_;refine .i ?_ ?_<;>intro h<;>first|refine pw ?_|exact pd
 .subst h;rfl
 .have w:0<l.length:=wX.2 (dK h);have ht:=Kr w;have u:=(x9 j (dK h)).2;try simp (maxSteps:=2000000) (disch:=omega) only[go_sem,seval,ht]
  repeat ((with_reducible refine And.intro ?_ ?_);focus exact yI)
  refine .c (QE [⟨0,QV l⟩] l (qG (X3 _) u) j b6 o) ?_;rw[qD (dK h)]
def zgE(x:Nat)(o:x<zk):Cn xt 176 [.v (.int .u64 x)] (.tup [.v (.int .u64 (x-1:Nat)),.v (.bool (decide (x≠0)))]):=by
 have j:=zw;refine zt func176 1 ?_;refine pw ?_;refine .i ?_ ?_<;>intro h<;>first|refine pw ?_|exact pd
 .subst h;rfl
 .simp[h]
def zeq(x:Nat):Cn xt 153 [.v (.int .u64 x)] (Je ⟨0,x⟩):=by
 refine zt func153 1 ?_
 (first|refine pw ?_|exact pd)
 try rfl
def XZ(e:En)(h:zO e)(j:e.holes.length<=131072):Cn xt 180 [ep e] (rg (kn e)):=by refine zt func180 1 ?_;refine pw ?_;refine .c (zeq e.max) ?_;refine .c (zg0 e.holes ⟨0,e.max⟩ h.1 (X3 _) h.2.2.1 a8) ?_;rfl
def zjT(r:Nat)(l:List Iv)(j:Nrm l)(w:l.length<=131072):Cn xt 113 [.v (.int .u64 r),rg l] (.tup [ep (Qi r l).1,.v (.bool (Qi r l).2)]):=by
 refine zt func113 2 ?_;refine pw ?_;refine .i ?_ ?_<;>intro h<;>first|refine pw ?_|exact pd
 .subst h;rfl
 .have u:0<l.length:=wX.2 (dK h);have ht:=Kr u;have o:=(x9 j (dK h)).2;try simp (maxSteps:=2000000) (disch:=omega) only[go_sem,seval,ht]
  repeat ((with_reducible refine And.intro ?_ ?_);focus exact yI)
  refine .c (zeq (QV l)) ?_;refine .c (zg0 l ⟨0,QV l⟩ j (X3 _) o a8) ?_;rw[qD (dK h)]
section
variable (a b:En)(ha:zO a)(hb:zO b)(la:a.holes.length<=10000)(lb:b.holes.length<=10000)
include ha hb la lb
end
def JQ{l:List Iv}(h:0<l.length):l=l.take (l.length-1)++[l[l.length-1]]:=by
 conv=>lhs;rw[<-Wd (l.length-1) l]
 congr 1;rw[vD a8,wA a8]
def zeP(e:En)(h:zO e)(I:e.holes.length<=10000):Cn xt 175 [ep e] (.tup [ep (kP e).1,.v (.bool (kP e).2)]):=by
 have H:=zw;refine zt func175 1 ?_;refine pw ?_;refine pLoop.go (λf:En=>zO f/\f.rep=e.rep/\kn f=kn e/\f.holes.length<=e.holes.length) (λ_=>[]) (λf=>[ec f,[.v (.int .u64 0),.v (.int .u64 0),.sl [] .sh]]) (λf=>f.holes.length) e [] ?_ ?_ ?_
 .exact⟨h,rfl,rfl,Zp _⟩
 .exact pd
 .rintro f ⟨j,w,o,G⟩;have hc:YP f->Qi e.rep (kn e)=(f,true):=λhc=>(by rw[<-w,<-o];exact ZM hc);unfold kP;refine pw ?_;refine .i ?_ ?_<;>intro B<;>first|refine pw ?_|exact pd
  .have hs:=JQ B;have hb:=NF.lo_ge j.1 _ (XE (show f.holes.length-1<f.holes.length by omega));have C:=j.2.2.1;refine pw ?_;refine .i ?_ ?_<;>intro u<;>first|refine pw ?_|exact pd
   .rw[hc (zcc j hs u)]
   .refine .c (zgE (f.holes[f.holes.length-1]).lo a8) ?_;refine .i ?_ ?_<;>intro A<;>first|refine pw ?_|exact pd
    .rw[<-o,Jl j hs u (dK A)];rfl
    .obtain⟨E,F⟩:=Jm j hs u (by first|omega|(simp at A;omega));refine⟨⟨f.rep,f.holes[f.holes.length-1].lo-1,f.holes.take (f.holes.length-1)⟩,⟨E,w,F.trans o,a9⟩,a9,?_⟩;exact pd
  .rw[hc (Xb j (wJ a8))]
def zi9{n:Int}(h : -9223372036854775808<=n/\n<9223372036854775808):IntKind.i64.wrap n=n:=by simp only[IntKind.wrap,IntKind.bits,IntKind.signed];simp;omega
def KV(p:Nat->Prop)[DecidablePred p]:∀n,(∀i j,i<=j->j<n->p j->p i)->∃i,i<=n/\(∀j,j<i->p j)/\∀j,i<=j->j<n->¬p j
 |0,_=>⟨0,Zp _,λj h=>absurd h a8,λj w o=>absurd o a8⟩
 | n+1,h=>by
   by_cases B:p n
   .exact⟨n+1,Zp _,λj F=>h j n a8 a8 B,λj w o=>absurd o a8⟩
   .obtain⟨i,w,o,C⟩:=KV p n λi j u F=>h i j u a8;refine⟨i,a8,o,λj E G=>?_⟩;rcases wL j n with A|A
    .exact C j E A
    .obtain rfl:j=n:=a8;exact B
attribute [go_sem] zi9
def zhn(l:List Iv)(x:Nat)(g:FuncId)(c:Nat->Int)(i:Nat)(hi:i<=l.length)(H:∀j,j<i->c j<0)(I:∀j,i<=j->j<l.length->0<=c j)(J:l.length<=1152921504606846976)
 (w:∀k (h:k<l.length),Cn xt g [Je l[k],.v (.int .u64 x)] (.v (.int .i64 (c k)))):Cn xt 118 [rg l,.v (.int .u64 x),.fn (.func g) [] []] (.tup [.v (.int .i64 i),.v (.bool (decide (i<l.length) && decide (c i=0)))]):=by
 refine zt func118 3 ?_;refine pw ?_;refine pLoop.go (λp:Nat×Nat=>p.1<=i/\i<=p.2/\p.2<=l.length) (λp=>[(9,.v (.int .i64 (p.1:Nat))),(10,.v (.int .i64 (p.2:Nat)))]) (λ_=>[]) (λp=>p.2-p.1) (0,l.length) [9,10] ?_ ?_ ?_
 .exact⟨X3 _,hi,Zp _⟩
 .exact pd
 .rintro⟨p,q⟩ ⟨E,F,G⟩;simp only at E F G;refine pw ?_;refine .i ?_ ?_<;>intro h<;>first|refine pw ?_|exact pd
  .have C:(p+q)/2<l.length:=a8;refine pw ?_
   (first|refine .c (w ((p+q)/2) C) ?_|refine .o (w ((p+q)/2) C) ?_)
   refine .i ?_ ?_<;>intro u<;>first|refine pw ?_|exact pd
   .refine⟨((p+q)/2+1,q),⟨?_,F,G⟩,by simp only;omega,rfl,rfl⟩;simp only;refine Uc λB=>?_;have:=I _ B C;omega
   .refine⟨(p,(p+q)/2),⟨E,?_,by simp only;omega⟩,by simp only;omega,rfl,rfl⟩;simp only;refine uo λB=>?_;have:=H _ B;omega
  .obtain rfl:p=i:=a8;obtain rfl:q=p:=a8;refine .i ?_ ?_<;>intro u<;>first|refine pw ?_|exact pd
   ·(first|refine .c (w q u) ?_|refine .o (w q u) ?_)
    simp[u]
   .have A:¬q<l.length:=a8;simp[A]
def zd5(s:Iv)(x:Nat):Cn xt 119 [Je s,.v (.int .u64 x)] (.v (.int .i64 (if s.hi<x then -1 else if x<s.lo then 1 else 0))):=by
 refine zt func119 2 ?_;refine pw ?_;refine .i ?_ ?_<;>intro j<;>first|refine pw ?_|exact pd
 .rw[Vm j]
 .rw[Vq a8];refine .i ?_ ?_<;>intro o<;>first|refine pw ?_|exact pd
  .rw[Vm o]
  .rw[Vq a8]
def zdE{l:List Iv}(C:Nrm l)(x:Nat):∃i,i<=l.length/\(∀j,(h:j<l.length)->j<i->l[j].hi<x)/\(∀j,(h:j<l.length)->i<=j->x<=l[j].hi)/\(mem l x=true↔∃h:i<l.length,l[i].lo<=x):=by
 have mono:∀{n:Nat}{l:List Iv},NF n l->∀i j,(o:i<j)->(u:j<l.length)->l[i].hi<l[j].lo:=by
  intro n l;induction l generalizing n with
  |nil=>intro _ i j _ u;simp at u
  | cons s l ih=>
    intro h i j o u;obtain⟨E,rfl⟩:∃E,j=E+1:=⟨j-1,a8⟩;cases i with
    |zero=>have:=NF.lo_ge h.2.2.2 (l[E]'(dK u)) (XE _);simp only[uy,WQ];omega
    |succ i=>exact ih h.2.2.2 i E a8 (dK u)
 obtain⟨i,I,G,J⟩:=KV (λj=>∃h:j<l.length,l[j].hi<x) l.length λa b hab hb ⟨B,H⟩=>by
  refine⟨a8,?_⟩;rcases uD hab with w|w
  .have:=mono C a b w hb;have:=NF.lo_ge C l[b] (XE _);omega
  .subst w;exact H
 have A:∀j,(h:j<l.length)->i<=j->x<=l[j].hi:=λj u o=>by have:=J j o u;exact uo λh=>this ⟨u,h⟩
 refine⟨i,I,λj u F=>(G j F).2,A,?_⟩;rw[qf];constructor
 .rintro⟨s,hs,B,H⟩;obtain⟨j,u,rfl⟩:=Wp hs;have o:i<=j:=uo λh=>(by have:=(G j h).2;omega);refine⟨a8,?_⟩;rcases uD o with w|w
  .have:=mono C i j w u;have:=NF.lo_ge C (l[i]'a8) (XE _);omega
  .subst w;exact B
 .rintro⟨h,B⟩;exact⟨l[i],XE _,B,A i h (Zp _)⟩
def zaT(x:Nat)(s:Iv):Int:=if s.hi<x then -1 else if x<s.lo then 1 else 0
def ziQ(l:List Iv)(x:Nat)(I:Nrm l)(J:l.length<=1152921504606846976):Cn xt 45 [rg l,.v (.int .u64 x)] (.v (.bool (mem l x))):=by
 obtain⟨i,F,G,C,H⟩:=zdE I x;have hF:Cn xt 85 [rg l,.v (.int .u64 x)] (.v (.int .i64 (if mem l x then (i:Int) else -1))):=by
  refine zt func85 2 ?_;refine pw ?_;refine .c (zhn l x 119 (λk=>if h:k<l.length then zaT x l[k] else 0) i F (λj B=>by rw[ul (show j<l.length by omega)];unfold zaT;rw[Vm (G j a8 B)];decide) (λj B A=>by rw[ul A];unfold zaT;rw[Vq (by have:=C j A B;omega)];split<;>decide) J (λk h=>by rw[ul h];exact zd5 l[k] x)) ?_;have e:(decide (i<l.length) && decide ((if h:i<l.length then zaT x l[i] else 0)=0))=mem l x:=by
   rw[WD,H];simp only[VS,wG];constructor
   .rintro⟨w,u⟩;refine⟨w,?_⟩;rw[ul w]at u;unfold zaT at u;split at u
    .cases u
    .split at u
     .cases u
     .omega
   .rintro⟨w,u⟩;refine⟨w,?_⟩;rw[ul w];unfold zaT;rw[Vq (by have:=C i w (Zp _);omega),Vq a8]
  rw[e];refine .i ?_ ?_<;>intro E<;>first|refine pw ?_|exact pd
  .rw[E];rfl
  .rw[E];rfl
 refine zt func45 2 ?_;refine pw ?_
 (first|refine .c (hF) ?_|refine .o (hF) ?_)
 cases mem l x<;>simp
def zoS(e:En)(c:Nat)(h:zO e)(u:e.holes.length<=1152921504606846976):Cn xt 122 [ep e,.v (.int .u64 c)] (.v (.bool (decide (c<=e.max) && !mem e.holes c))):=by
 refine zt func122 2 ?_;refine pw ?_;refine .i ?_ ?_<;>intro o<;>first|refine pw ?_|exact pd
 .refine .c (ziQ e.holes c h.1 u) ?_;simp[o]
 .have j:¬c<=e.max:=a8;simp[j]
def vp(v:List En):PV:=.sl (v.map ec) .sh
attribute [go_sem] vp
def ZL(e:En):Prop:=(∀s∈e.holes,s.lo<zk/\s.hi<zk)/\e.max<zk/\e.rep<zk
def ea:En:=⟨1,2,[]⟩
def eb:En:=⟨1,5,[⟨3,4⟩]⟩
def ed:En:=⟨1,5,[]⟩
section
variable (a b:En)(ha:ZL a)(hb:ZL b)
include ha hb
end
def ze4{D:xT}{w:World}{x:Value}{v:List En}(h:Dat D w x (vp v))(G:∀b o,D b o->b<w.heap.size)(hb:∀e∈v,ZL e):RdV w.heap.size w x v:=by
 unfold vp at h;generalize H:v.map ec=es at h;cases h with
 |sl a cap sz es o b off u hc hz hm ha hsz hd hx=>have I:es.length=v.length:=(by rw[<-H];simp);refine⟨a,cap,by rw[I],a8,hm,λC=>?_⟩;have A:0<v.length:=wX.2 C;have g:∀i (h:i<v.length),es[i]?=some (ec v[i]):=λi h=>(by rw[<-H];exact xo h);obtain rfl:3=sz:=hsz 0 _ (g 0 A);have B:es≠[]:=(by intro e;subst e;simp at I;omega);have j:b<w.heap.size:=G _ _ (hd 0 a8).1;refine⟨b,off,ha B,X3 _,j,λi hi=>?_⟩;have L:=(hx i _ 0 _ (g i hi) rfl).v_inv;have e1:=(hx i _ 1 _ (g i hi) rfl).v_inv;have e2:=hx i _ 2 _ (g i hi) rfl;have E:=(hd (i*3+0) a8).2.1;have F:=(hd (i*3+1) a8).2.1;have K:=(hd (i*3+2) a8).2.1;rw[L]at E;rw[e1]at F;obtain⟨b1,b2,J⟩:=hb _ (XE hi);exact⟨E,F,⟨_,K,je e2 G b1⟩,J,b2⟩
def ns(l:List Nat):PV:=.sl (l.map yN) .sh
attribute [go_sem] ns
def vL{D:xT}{base:Nat}{w:World}{v:Value}{l:List Nat}(h:OwnN base w v l)(H:∀b o,base<=b->b<w.heap.size->D b o):Dat D w v (ns l):=by
 unfold ns;have u:(l.map yN).length=l.length:=b6
 rcases id h.2 with⟨rfl,G⟩|⟨g,B,F,rfl,I,J,K,hc,_⟩
 .obtain rfl:l=[]:=wY.1 G;exact .sl none 0 1 [] .sh 0 0 (λ_=>undef) b6 (λh=>by cases h) c8 (λh=>absurd rfl h) (λi e h=>by simp at h) (λj h=>by simp at h) (λi e j p h=>by simp at h)
 .rw[<-u];refine .sl _ B 1 _ .sh g 0 (λj=>.int .u64 (l.getD j 0:Nat)) (dK K) (λh=>by cases h) hc (λ_=>rfl) (λi e h=>?_) (λj E=>?_) (λi e j p C A=>?_)
  .simp only[wh,ZZ]at h;obtain⟨s,_,rfl⟩:=h;rfl
  .simp only[wB,Uk]at E;refine⟨H _ _ I (Yf.1 J).1,?_,rfl⟩;rw[wn,h.cellAt _ (dK E)];simp[E]
  .have hi:i<l.length:=(by have:=(Zw.1 C).1;simpa using this);rw[xo hi]at C;cases C;match j,A with
   |0,A=>cases A;simp[hi];exact .v _
   |j+1,A=>simp[yN]at A
def KB{j:Array Value}(h:j.size=1):j=#[j.getD 0 undef]:=by
 obtain⟨l⟩:=j;match l,h with
 |[x],_=>rfl
def Yz(v:List En)(hb:∀e∈v,ZL e)(G:(zv v).length<=1073741824):Cn xt 197 [vp v] (ns (zv v)):=by refine Js rfl (enters_of func197 dL rfl) λD w I E A F=>?_;rw[KB A];refine(Q4 v _ w (ze4 (F 0 _ rfl) E hb) G).mono ?_;rintro e J ⟨u,rfl,H,j⟩;exact⟨u,rfl,j,vL H λb o B C=>.inr ⟨B,C⟩⟩
end
section
open Go.ChangeShapes Go.WideShapes Go.ChangeAt Go.Deep
def ZG(w:World):Nat->Nat->Prop:=λb _=>b<w.heap.size
def zhi(D:xT)(w:World):List Value->List PV->Prop
 |[],[]=>True
 |v::l,p::ps=>Dat D w v p/\zhi D w l ps
 |_,_=>False
def XX{D:xT}{w:World}:∀{l:List Value}{j:List PV},zhi D w l j->l.length=j.length/\∀(i:Nat) p,j[i]?=some p->Dat D w (l.getD i undef) p
 |[],[],_=>⟨rfl,λi p h=>by simp at h⟩
 | v::l,p::j,h=>by
   obtain⟨u,A⟩:=XX h.2;refine⟨by simp[u],λi q o=>?_⟩;cases i with
   |zero=>cases o;exact h.1
   |succ i=>simpa using A i q (dK o)
 |[],_::_,h=>h.elim
 |_::_,[],h=>h.elim
def zeZ{f:FuncId}{u:List PV}{l:List Value}{W:World}(h:Cn xt f u (.v (.bool true)))(j:GL (ZG W) W)(B:zhi (ZG W) W l u):Calls xt f l.toArray W λe o=>e=.returned (.bool true)/\Below W.heap.size W o:=by obtain⟨w,A⟩:=XX B;refine(h.2 (ZG W) W l.toArray j (λ_ _ h=>h) (dK w) (λi p C=>by have:=A i p C;simpa[vj]using this)).mono ?_;rintro e o ⟨v,F,rfl,hb,_,_,_,E,_⟩;rw[E.v_inv];exact⟨rfl,hb⟩
section
variable {H:Type}{enc:TypeId×Value->H}{w:World}{base:Nat}{spare:Nat->Bool}{held:Bool}
def zsp{r:Reach}{o:Nat}{v:Value}{d:DataW H}{A:List MemPlace}(j:Value.okWide xt w r o 36 v)(h:DataW.Trod enc xt w base spare held 36 v d A):∃n:Nat,Dat (ZG w) w v (.v (.int .u64 n))/\n<zk:=by obtain⟨n,rfl,u⟩:=zrL j h;exact⟨n,.v _,u⟩
end
end
section
def jS(c:Nat)(k:Int):PV:=if c=0 then .v .nilIface else .ifc 115 (.agg [.v (.int .i64 c),.v (.int .i64 k)])
def Z2(c:Nat):PV:=.ifc 66 (.v (.int .i64 c))
def ym(c:Nat)(k:Int):SubP 0 (jS c k) (jS c k):=.eq _ (by unfold jS;split<;>rfl)
def jT(c:Nat)(k:Int):Cn xt 79 [.v (.int .i64 c),.v (.int .i64 k)] (jS c k):=by
 refine zt func79 2 ?_;refine pw ?_;unfold jS;refine .i ?_ ?_<;>intro h<;>first|refine pw ?_|exact pd
 .rw[Vm a8];exact pd
 .rw[Vq a8];exact pd
def v8(a b:Nat)(hb:b<zk):Cn xt 117 [.v (.int .u64 a),.v (.int .u64 b)] (.tup [.v (.int .u64 (b-a-1:Nat)),.v (.bool (decide (a<b)))]):=by
 have u:=zw;refine zt func117 2 ?_;refine pw ?_;refine .i ?_ ?_<;>intro h<;>first|refine pw ?_|exact pd
 .have j:¬a<b:=a8;have o:b-a-1=0:=a8;simp[j,o]
 .simp[h]
def zea(s:Iv):Cn xt 81 [Je s] (if s.lo<=s.hi then .v .nilIface else Z2 2):=by
 refine zt func81 1 ?_;refine pw ?_;refine .i ?_ ?_<;>intro h<;>first|refine pw ?_|exact pd
 .rw[Vq a8];unfold Z2;exact pd
 .rw[Vm h];exact pd
def ziY(s t:Iv)(B:s.lo<=s.hi)(C:t.lo<=t.hi)(E:s.hi<zk)(F:t.hi<zk):Cn xt 82 [Je s,Je t] (.v (.int .i64 (relate s t:Nat))):=by
 have G:=zw;refine zt func82 2 ?_;refine pw ?_;refine .c (v8 s.hi t.lo a8) ?_;unfold relate;by_cases u:s.hi<t.lo
 .have j:¬t.hi<s.lo:=a8;by_cases w:s.hi+1=t.lo
  .have o:t.lo-s.hi-1=0:=a8;rw[Vm u,Vm w,o,uF u];refine pw ?_;refine .c (v8 t.hi s.lo a8) ?_;rw[WE j];exact pd
  .have o:0<t.lo-s.hi-1:=a8;rw[Vm u,Vq w,uF u];refine pw ?_;refine .i ?_ ?_<;>intro A<;>first|refine pw ?_|exact pd
   .refine .c (v8 t.hi s.lo a8) ?_;rw[WE j];exact pd
   .exact absurd o a8
 .rw[Vq u,WE u];refine pw ?_;refine .c (v8 t.hi s.lo a8) ?_;by_cases j:t.hi<s.lo
  .by_cases w:t.hi+1=s.lo
   .have o:s.lo-t.hi-1=0:=a8;rw[Vm j,Vm w,o,uF j];exact pd
   .have o:0<s.lo-t.hi-1:=a8;rw[Vm j,Vq w,uF j];refine pw ?_;refine .i ?_ ?_<;>intro A<;>first|refine pw ?_|exact pd
    exact absurd o a8
  .rw[Vq j,WE j];exact pd
def rcheck_c(l:List Iv)(hb:∀s∈l,s.lo<zk/\s.hi<zk)(M:l.length<=1152921504606846976)(w:(Zl l).1=0\/Cn xt 19 [Z2 2] (.v (.int .i64 2))):Cn xt 42 [rg l] (jS (Zl l).1 (Zl l).2):=by
 refine zt func42 1 ?_;refine pw ?_;refine pLoop.go (λk=>k<=l.length/\Zl l=QZ (y7 l k) (l.drop k) k/\∀j (h:j<l.length),j<k->l[j].lo<=l[j].hi) (λk=>[(8,.v (.int .i64 (k:Nat)))]) (λ_=>[]) (λk=>l.length-k) 0 [8] ?_ ?_ ?_
 .exact⟨X3 _,rfl,λj _ h=>absurd h a8⟩
 .exact pd
 .rintro k ⟨hk,u,I⟩;refine pw ?_;refine .i ?_ ?_<;>intro h<;>first|refine pw ?_|exact pd
  .rw[Yj h]at u;have C:=hb _ (XE h);refine .rd (zea l[k]) rfl ?_;by_cases B:l[k].lo<=l[k].hi
   .rw[Vm B]at u⊢;have hs:y7 l (k+1)=some l[k]:=(by unfold y7;rw[Vq a8];exact Zv h);have A:∀j (H:j<l.length),j<k+1->l[j].lo<=l[j].hi:=λj H J=>by
     rcases wL j k with G|G
     .exact I j H G
     .obtain rfl:j=k:=a8;exact B
    refine pw ?_;refine .i ?_ ?_<;>intro K<;>first|refine pw ?_|exact pd
    .have F:y7 l k=some l[k-1]:=(by unfold y7;rw[Vq a8,Zv]);rw[F]at u;have E:=hb _ (XE (show k-1<l.length by omega));refine .c (ziY l[k-1] l[k] (I (k-1) a8 a8) B E.2 C.2) ?_;refine .i ?_ ?_<;>intro L<;>first|refine pw ?_|exact pd
     .rw[Vq a8]at u;rw[u];refine .c (jT 3 (k:Nat)) ?_;exact ym _ _
     .rw[Vm a8]at u;exact⟨k+1,⟨h,by rw[hs];exact u,A⟩,a8,rfl⟩
    .have F:y7 l k=none:=(by unfold y7;rw[Vm a8]);rw[F]at u;exact⟨k+1,⟨h,by rw[hs];exact u,A⟩,a8,rfl⟩
   .rw[Vq B]at u⊢;unfold Z2 at w⊢;rcases w with w|w
    .rw[u]at w;cases w
    .refine pw ?_
     (first|refine .c (w) ?_|refine .o (w) ?_)
     rw[u];refine .c (jT 2 (k:Nat)) ?_;exact ym _ _
  .rw[wA h]at u;rw[u];exact .eq _ rfl
def zpJ(l:List Iv)(j:Nrm l)(o:l.length<=1152921504606846976):Cn xt 42 [rg l] (.v .nilIface):=by have hz:=(YT (l:=l) λs hs=>(j.lt s hs).2).2 j;have:=rcheck_c l j.lt o (.inl hz);unfold jS at this;rw[Vm hz]at this;exact this
def zfH(u:Nat)(j:List PV)(o:Nat):JU u (.cp j o)=true:=rfl
attribute [go_sem] zfH
def za0(e:En)(hb:∀s∈e.holes,s.lo<zk/\s.hi<zk)(o:e.holes.length<=1152921504606846976)(j:(Zl e.holes).1=0\/Cn xt 19 [Z2 2] (.v (.int .i64 2))):Cn xt 155 [.cp (ec e) 0] (jS (Zl e.holes).1 (Zl e.holes).2):=by refine zt func155 1 ?_;refine pw ?_;refine .c (rcheck_c e.holes hb o j) ?_;exact ym _ _
def zaZ(e:En)(A:e.holes.length<=1152921504606846976):Cn xt 154 [.cp (ec e) 0] (jS (hk e.max e.holes 0).1 (hk e.max e.holes 0).2):=by
 refine zt func154 1 ?_;refine pw ?_;refine pLoop.go (λk=>k<=e.holes.length/\hk e.max e.holes 0=hk e.max (e.holes.drop k) k) (λk=>[(7,.v (.int .i64 (k:Nat)))]) (λ_=>[]) (λk=>e.holes.length-k) 0 [7] ?_ ?_ ?_
 .exact⟨X3 _,rfl⟩
 .exact pd
 .rintro k ⟨w,j⟩;refine pw ?_;refine .i ?_ ?_<;>intro o<;>first|refine pw ?_|exact pd
  .rw[K3 o]at j;refine .i ?_ ?_<;>intro u<;>first|refine pw ?_|exact pd
   .rw[j,Vm u];refine .c (jT 4 (k:Nat)) ?_;exact ym _ _
   .rw[Vq a8]at j;exact⟨k+1,⟨o,j⟩,a8,rfl⟩
  .rw[wA o]at j;rw[j];exact .eq _ rfl
def yk{x:Nat×Int}(h:x.1=0):jS x.1 x.2=.v .nilIface:=Vm h
def vu{x:Nat×Int}(h:x.1≠0):jS x.1 x.2=.ifc 115 (.agg [.v (.int .i64 x.1),.v (.int .i64 x.2)]):=Vq h
def zcJ(e:En)(hb:∀s∈e.holes,s.lo<zk/\s.hi<zk)(o:e.holes.length<=1152921504606846976)(A:(Zl e.holes).1=0\/Cn xt 19 [Z2 2] (.v (.int .i64 2))):Cn xt 115 [ep e] (jS (yV e).1 (yV e).2):=by
 refine zt func115 1 ?_;refine pw ?_;refine pLoop.go (λk=>k<=2/\(1<=k->(Zl e.holes).1=0)/\(2<=k->(yV e).1=0)) (λk=>[(12,.v (.int .i64 (k:Nat)))]) (λ_=>[]) (λk=>2-k) 0 [12] ?_ ?_ ?_
 .exact⟨a8,λh=>absurd h a8,λh=>absurd h a8⟩
 .exact pd
 .rintro k ⟨B,u,w⟩;obtain rfl|rfl|rfl:k=0\/k=1\/k=2:=a8
  .refine pw ?_;refine .rd (za0 e hb o A) rfl ?_;by_cases hz:(Zl e.holes).1=0
   .rw[yk hz];refine pw ?_;exact⟨1,⟨a8,λ_=>hz,λh=>absurd h a8⟩,a8,rfl⟩
   .have e1:yV e=Zl e.holes:=Vq hz;rw[e1,vu hz];exact pd
  .have hz:=u a8;have e1:yV e=hk e.max e.holes 0:=Vm hz;refine pw ?_;refine .rd (zaZ e o) rfl ?_;by_cases j:(hk e.max e.holes 0).1=0
   .rw[yk j];refine pw ?_;exact⟨2,⟨a8,λ_=>hz,λ_=>by rw[e1];exact j⟩,a8,rfl⟩
   .rw[e1,vu j];exact pd
  .have hz:=w a8;rw[yk hz];exact pd
def znN(e:En)(c:Nat)(u:e.holes.length<=1152921504606846976):Cn xt 160 [ep e,.v (.int .u64 c)] (.v (.bool (decide (c<=e.max) && !mem e.holes c))):=by
 refine zt func160 2 ?_;refine pw ?_;refine .i ?_ ?_<;>intro o<;>first|refine pw ?_|exact pd
 .refine .c (kU e.holes c u) ?_;simp[o]
 .have j:¬c<=e.max:=a8;simp[j]
def Jg{e:En}(h:zO e):ZL e:=⟨h.1.lt,h.2.2.1,h.2.2.2⟩
section
variable (a b:En)(c:Nat)(ha:ZL a)(hb:ZL b)(hc:c<zk)
include ha hb hc
end
def HG(w:World):Prop:=w.cell? ⟨0,0,none⟩=some (.iface 190 (.agg #[.pointer (some ⟨1,41,none⟩)]))
def HG.of{D:xT}{w:World}(h:GL D w):HG w:=(h _ rfl).2
def HG.pos{w:World}(h:HG w):0<w.heap.size:=tr w ⟨0,0,none⟩ h
def HG.alloc{w:World}(h:HG w)(o:Obj):HG (w.alloc o):=by unfold HG;rw[tu _ _ ⟨0,0,none⟩ h.pos];exact h
def KK{f:FuncId}{E:List PV}{r:PV}(I:r.own=none)(u:∀j w,(callFunc f j).run xt w=.ok (.enter f j) w)
 (h:∀(D:xT)(w:World)(A:Array Value),HG w->(∀b o,D b o->b<w.heap.size)->A.size=E.length->(∀(i:Nat) p,E[i]?=some p->Dat D w (A.getD i undef) p) ->
   Calls xt f A w λe B=>∃v,e=.returned v/\Below w.heap.size w B/\Dat (λb o=>D b o\/(w.heap.size<=b/\b<B.heap.size)) B v r):Cn xt f E r:=by
 refine⟨u,λD w A H F C G=>(h D w A (.of H) F C G).mono ?_⟩;rintro e B ⟨v,rfl,hb,J⟩;exact⟨v,_,rfl,hb,λb o h=>.inl h,λb o h=>h.imp id UT,λb o h=>h.elim (λh=>vw (F b o h) hb.size) uf,J,zr I⟩
def zjw{j:Array Value}(h:j.size=1):j=#[j.getD 0 undef]:=by
 obtain⟨l⟩:=j;match l,h with
 |[x],_=>rfl
def zb4(c:Int)(w:World)(o:HG w):Calls xt 47 #[.iface 66 (.int .i64 c),.iface 108 (.pointer (some ⟨w.heap.size,0,none⟩))] (w.alloc (.cells #[.int .i64 0] 66))
 λev j=>ev=.returned (.bool true)/\Below w.heap.size w j/\j.cell? ⟨w.heap.size,0,none⟩=some (.int .i64 c):=by
 refine(As.as_NN c ⟨w.heap.size,0,none⟩ (.int .i64 0) _ (o.alloc _) b6 b6).mono ?_;rintro ev j ⟨rfl,rfl⟩;refine⟨rfl,?_,?_⟩
 .refine tZ (((((((tv _ w).alloc ?_ _).alloc ?_ _).alloc ?_ _).alloc ?_ _).alloc ?_ _)) ?_ _<;>simp<;>omega
 .refine tU _ _ _ (u:=.int .i64 0) ?_;rw[tu _ _ ⟨w.heap.size,0,none⟩ a9,tu _ _ ⟨w.heap.size,0,none⟩ a9,tu _ _ ⟨w.heap.size,0,none⟩ a9,tu _ _ ⟨w.heap.size,0,none⟩ b6];simp
def zb3(c k:Int)(w:World)(o:HG w):Calls xt 47 #[.iface 115 (.agg #[.int .i64 c,.int .i64 k]),.iface 108 (.pointer (some ⟨w.heap.size,0,none⟩))] (w.alloc (.cells #[.int .i64 0] 66))
 λev j=>ev=.returned (.bool true)/\Below w.heap.size w j/\j.cell? ⟨w.heap.size,0,none⟩=some (.int .i64 c):=by
 refine(As.as_FN c k ⟨w.heap.size,0,none⟩ (.int .i64 0) _ (o.alloc _) b6 b6).mono ?_;rintro ev j ⟨rfl,rfl⟩;refine⟨rfl,?_,?_⟩
 .refine tZ ((((((((tv _ w).alloc ?_ _).alloc ?_ _).alloc ?_ _).alloc ?_ _).alloc ?_ _).alloc ?_ _)) ?_ _<;>simp<;>omega
 .refine tU _ _ _ (u:=.int .i64 0) ?_;rw[tu _ _ ⟨w.heap.size,0,none⟩ a9,tu _ _ ⟨w.heap.size,0,none⟩ a9,tu _ _ ⟨w.heap.size,0,none⟩ a9,tu _ _ ⟨w.heap.size,0,none⟩ a9,tu _ _ ⟨w.heap.size,0,none⟩ b6];simp
def zcs(w:World):Calls xt 19 #[.nilIface] w λe j=>e=.returned (.int .i64 0)/\Below w.heap.size w j:=by
 go_enter func19,ntmps19
 go_wp2;go_ret;exact⟨rfl,(tv _ w).alloc (Zp _) _⟩
def zhu(c:Int)(w:World)(j:HG w):Calls xt 19 #[.iface 66 (.int .i64 c)] w λe o=>e=.returned (.int .i64 c)/\Below w.heap.size w o:=by
 go_enter func19,ntmps19
 go_wp2_with (go_at_call 47;refine(zb4 c w j).mono ?_;rintro e u ⟨rfl,hb,hc⟩)
 go_ret;exact⟨rfl,hb⟩
def zht(c k:Int)(w:World)(j:HG w):Calls xt 19 #[.iface 115 (.agg #[.int .i64 c,.int .i64 k])] w λe o=>e=.returned (.int .i64 c)/\Below w.heap.size w o:=by
 go_enter func19,ntmps19
 go_wp2_with (go_at_call 47;refine(zb3 c k w j).mono ?_;rintro e u ⟨rfl,hb,hc⟩)
 go_ret;exact⟨rfl,hb⟩
def z2:Obj:=.cells #[.int .i64 0,.int .i64 0] 115
def zaW{D:xT}{w:World}{v:Value}{c:Int}{t:TypeId}(h:Dat D w v (.ifc t (.v (.int .i64 c)))):v=.iface t (.int .i64 c):=by
 cases h with
 |ifc t x p h=>rw[h.v_inv]
def zaX{D:xT}{w:World}{v:Value}{c k:Int}{t:TypeId}(h:Dat D w v (.ifc t (.agg [.v (.int .i64 c),.v (.int .i64 k)]))):v=.iface t (.agg #[.int .i64 c,.int .i64 k]):=by
 cases h with
 | ifc t x p h=>
   generalize hc:[PV.v (.int .i64 c),PV.v (.int .i64 k)]=cs at h;cases h with
   | agg us cs hs _ h=>
     subst hc;obtain⟨l⟩:=us;match l,hs with
     |[x,y],_=>have j:=(h 0 _ rfl).v_inv;have e1:=(h 1 _ rfl).v_inv;simp at j e1;rw[j,e1]
def KL(c:Nat):Cn xt 19 [Z2 c] (.v (.int .i64 c)):=by refine KK rfl (enters_of func19 dL rfl) λD w B u A j o=>?_;rw[zjw j,zaW (o 0 _ rfl)];refine(zhu c w u).mono ?_;rintro e C ⟨rfl,hb⟩;exact⟨_,rfl,hb,.v _⟩
def Ju(c:Nat)(k:Int):Cn xt 19 [jS c k] (.v (.int .i64 c)):=by
 refine KK rfl (enters_of func19 dL rfl) λD w E A C o u=>?_;have j:=u 0 _ rfl;unfold jS at j;rw[zjw o];by_cases hc:c=0
 .rw[Vm hc]at j;subst hc;rw[j.v_inv];refine(zcs w).mono ?_;rintro e B ⟨rfl,hb⟩;exact⟨_,rfl,hb,.v _⟩
 .rw[Vq hc]at j;rw[zaX j];refine(zht c k w A).mono ?_;rintro e B ⟨rfl,hb⟩;exact⟨_,rfl,hb,.v _⟩
def zcd(e:En)(h:zO e)(o:e.holes.length<=10000):Cn xt 167 [ep e] (.tup [ep (kP e).1,.v (.bool (kP e).2)]):=by have j:=kW e;refine zt func167 1 ?_;refine pw ?_;refine .c (Vl e h a8) ?_;refine .c (zg1 e.rep (kn e) (qT h) a8) ?_;rfl
def JF(v:List En):Bool:=v.all (λe=>decide (e.holes.length<=30)) && decide (v.length<=20)
def prv(v:List En)(k:Nat):Nat:=match v[k-1]? with
 |some p=>p.rep
 |none=>0
def Xl{v:List En}{k:Nat}(h:k-1<v.length):prv v k=v[k-1].rep:=by simp[prv,Zv h]
def hkV(v:List En):Nat->List En->Nat×Int
 |_,[]=>(0,-1)
 |k,e::r=>if (yV e).1≠0 then ((yV e).1,(k:Int)) else if 0<k/\e.rep<=prv v k then (3,(k:Int)) else hkV v (k+1) r
def jx(v:List En):Nat×Int:=hkV v 0 v
def Ve(v:List En):∀(k:Nat)(r:List En),r=v.drop k->((hkV v k r).1=0↔(∀e∈r,(yV e).1=0)/\∀j (h:j<v.length),k<=j->0<j->v[j-1].rep<v[j].rep)
 |k,[],h=>by have I:=WR List.length h;simp at I;simp only[hkV,List.not_mem_nil,false_implies,implies_true,Up,true_iff];intro j E hk;omega
 | k,e::r,h=>by
   have I:=WR List.length h;simp at I;have hk:k<v.length:=a8;rw[vD hk,Wi]at h;obtain⟨J,M⟩:=h;have ih:=Ve v (k+1) r M;unfold hkV;by_cases C:(yV e).1≠0
   .rw[Vm C];constructor
    .intro h;exact absurd h C
    .rintro⟨o,_⟩;exact absurd (o e b6) C
   ·rw [Vq C];have F:(yV e).1=0:=a8;by_cases o:0<k/\e.rep<=prv v k
    .rw[Vm o];constructor
     .intro h;cases h
     .rintro⟨_,w⟩;have:=w k hk (Zp _) o.1;have G:=o.2;have K:=WR En.rep J;rw[Xl a8]at G;omega
    .rw[Vq o,ih];constructor
     .rintro⟨w,H⟩;refine⟨λf A=>?_,λj E B u=>?_⟩
      .rcases V3.1 A with rfl|A
       .exact F
       .exact w f A
      .rcases uE B with rfl|L
       .rw[Xl a8,J]at o;omega
       .exact H j E a8 u
     .rintro⟨w,H⟩;exact⟨λf A=>w f (by simp[A]),λj E B u=>H j E a8 u⟩
def zb0{v:List En}(h:∀j (h:j<v.length),0<j->v[j-1].rep<v[j].rep):v.Pairwise λa b=>a.rep<b.rep:=by
 rw[wT];intro i j hi A o;induction j with
 |zero=>omega
 | succ j ih=>
   have u:=h (j+1) A a8;simp only[Nat.add_sub_cancel]at u;rcases uE (Nat.le_of_lt_succ o)with rfl|w
   .exact u
   .have:=ih a8 w;omega
def XP{v:List En}(hb:∀e∈v,ZL e):(jx v).1=0↔zsC v:=by
 unfold jx;rw[Ve v 0 v rfl];have C:∀e∈v,(yV e).1=0↔zO e:=λe o=>by have:=VU (hb e o).1 (hb e o).2.1 (hb e o).2.2;unfold Xu at this;simpa using this
 constructor
 .rintro⟨u,w⟩;exact⟨λe o=>(C e o).1 (u e o),zb0 λj A B=>w j A (X3 _) B⟩
 .rintro⟨u,w⟩;refine⟨λe o=>(C e o).2 (u e o),λj A _ B=>?_⟩;exact wT.1 w (j-1) j a8 A a8
def fdV(r:Nat):Nat->List En->Int
 |_,[] =>-1
 |k,e::t=>if e.rep=r then (k:Int) else fdV r (k+1) t
def X2(r:Nat):∀(l:List En)(k:Nat),(fdV r k l=-1/\∀e∈l,e.rep≠r)\/∃(i:Nat) (h:i<l.length),fdV r k l=((k+i:Nat):Int)/\l[i].rep=r
 |[],k=>.inl ⟨rfl,λ_ h=>by cases h⟩
 | e::t,k=>by
   unfold fdV;by_cases h:e.rep=r
   .rw[Vm h];exact .inr ⟨0,b6,b6,h⟩
   .rw[Vq h];rcases X2 r t (k+1)with⟨j,o⟩|⟨i,hi,j,o⟩
    .refine .inl ⟨j,λf u=>?_⟩;rcases V3.1 u with rfl|u
     .exact h
     .exact o f u
    .exact .inr ⟨i+1,dK hi,by rw[j];omega,dK o⟩
def zoo{v:List En}(h:zsC v)(r:Nat):∃i,i<=v.length/\(∀j,(h:j<v.length)->j<i->v[j].rep<r)/\(∀j,(h:j<v.length)->i<=j->r<=v[j].rep):=by
 have F:=wT.1 h.2;obtain⟨i,B,C,E⟩:=KV (λj=>∃h:j<v.length,v[j].rep<r) v.length λa b hab hb ⟨h4,h5⟩=>by
  refine⟨a8,?_⟩;rcases uD hab with o|o
  .have:=F a b a8 hb o;omega
  .subst o;exact h5
 exact⟨i,B,λj w A=>(C j A).2,λj w u=>uo λh=>E j u w ⟨w,h⟩⟩
def zoj{v:List En}(C:zsC v){r i:Nat}(w:∀j,(h:j<v.length)->j<i->v[j].rep<r)(A:∀j,(h:j<v.length)->i<=j->r<=v[j].rep):
 fdV r 0 v=if h:i<v.length then (if v[i].rep=r then (i:Int) else -1) else -1:=by
 have B:=wT.1 C.2;rcases X2 r v 0 with⟨e1,e2⟩|⟨j,u,e1,e2⟩
 .rw[e1];split
  .rename_i h;rw[Vq (e2 _ (XE h))]
  .rfl
 .have o:i<=j:=uo λh=>(by have:=w j u h;omega);have:i=j:=by
   rcases uD o with h|h
   .have E:=B i j a8 u h;have F:=A i a8 (Zp _);omega
   .exact h
  subst this;rw[ul u,Vm e2,e1,wn]
def zh8{v:List En}(j:zsC v){r i:Nat}(hi:i<v.length)(h:v[i].rep=r):zT v r=kn v[i]:=by rw[<-h];exact kq j.2 (XE hi)
def zZ:List Nat->List Nat->Int
 |[],[]=>0
 |[],_::_ =>-1
 |_::_,[]=>1
 |a::x,b::y=>if a<b then -1 else if b<a then 1 else zZ x y
def ZV:∀a b,zZ b a=- zZ a b
 |[],[]=>rfl
 |[],_::_=>rfl
 |_::_,[]=>rfl
 | a::x,b::y=>by
   unfold zZ;split
   .rw[Vq a8];try rfl
   .split
    .rfl
    .exact ZV x y
def cmpL_zero:∀a b,zZ a b=0↔a=b
 |[],[]=>by simp[zZ]
 |[],_::_=>by simp[zZ]
 |_::_,[]=>by simp[zZ]
 | a::x,b::y=>by
   unfold zZ;rw[Wi];split
   .constructor
    .intro h;cases h
    .rintro⟨h,_⟩;omega
   .split
    .constructor
     .intro h;cases h
     .rintro⟨h,_⟩;omega
    .rw[cmpL_zero x y];constructor
     .intro h;exact⟨a8,h⟩
     .exact uf
def ZW:∀a b c,zZ a b<=0->zZ b c<=0->zZ a c<=0
 |[],_,[],_,_=>by simp[zZ]
 |[],_,_::_,_,_=>by simp[zZ]
 |_::_,[],_,h,_=>by simp[zZ]at h
 |_::_,_::_,[],_,h=>by simp[zZ]at h
 | a::x,b::y,c::z,h1,h2=>by
   unfold zZ at h1 h2⊢;split
   .omega
   .split at h1
    .split at h2
     .omega
     .split at h2
      .omega
      .omega
    .split at h1
     .omega
     .split at h2
      .omega
      .split at h2
       .omega
       .rw[Vq a8];exact ZW x y z h1 h2
def Yn:∀{a b:List Iv},a.flatMap (λs=>[s.lo,s.hi])=b.flatMap (λs=>[s.lo,s.hi])->a=b
 |[],[],_=>rfl
 |[],_::_,h=>by simp at h
 |_::_,[],h=>by simp at h
 |s::a,t::b,h=>by simp only[Wk,yb,Y1,Wi]at h;rw[Iv.ext' h.1 h.2.1,Yn h.2.2]
def xx(a:List Iv):(a.flatMap (λs=>[s.lo,s.hi])).length=2*a.length:=by
 induction a with
 |nil=>rfl
 |cons s a ih=>simp only[Wk,wi,ww,Wt,ih];omega
def YA:∀{a b:List En} ,a.length=b.length->a.flatMap zC=b.flatMap zC->a=b
 |[],[],_,_=>rfl
 |[],_::_,h,_=>by simp at h
 |_::_,[],h,_=>by simp at h
 |e::a,f::b,hl,h=>by simp only[Wk,zC,yb,Wi]at h;obtain⟨o,u,w,A⟩:=h;have j:=List.append_inj A (by rw[xx,xx,w]);rw[En.ext' o u (Yn j.1),YA (dK hl) j.2]
def Vv{a b:List En}(h:zv a=zv b):a=b:=by unfold zv at h;simp only[Wi]at h;exact YA h.1 h.2
def ZJ(v:List En)(i:Nat):List Nat:=v.length::(v.take i).flatMap zC
def Q7(v:List En)(i:Nat)(h:i<v.length)(j:Nat):List Nat:=ZJ v i++[v[i].rep,v[i].max,v[i].holes.length]++(v[i].holes.take j).flatMap λs=>[s.lo,s.hi]
def ziE(v:List En):ZJ v 0=[v.length]:=by simp[ZJ]
def VF{v:List En}{i:Nat}(h:¬i<v.length):ZJ v i=zv v:=by unfold ZJ zv;rw[wm a8]
def ziD{v:List En}{i:Nat}(h:i<v.length):Q7 v i h 0=ZJ v i++[v[i].rep,v[i].max,v[i].holes.length]:=by simp[Q7]
def zbu{v:List En}{i:Nat}(h:i<v.length){j:Nat}(o:j<v[i].holes.length):Q7 v i h (j+1)=Q7 v i h j++[v[i].holes[j].lo,v[i].holes[j].hi]:=by unfold Q7;rw[X4 o,Wq];simp
def zdH{v:List En}{i:Nat}(h:i<v.length){j:Nat}(o:¬j<v[i].holes.length):Q7 v i h j=ZJ v (i+1):=by unfold Q7 ZJ;rw[wm (l:=v[i].holes) (i:=j) a8,X4 h,Wq];simp[zC]
def vQ{v:List En}(h:∀e∈v,e.holes.length<=1048576):∀i,i<=v.length->(ZJ v i).length<=1+2097155*i
 |0,_=>by simp[ZJ]
 |i+1,hi=>by have ih:=vQ h i a8;have j:=h _ (XE (show i<v.length by omega));unfold ZJ at ih⊢;rw[X4 (show i<v.length by omega),Wq];simp only[ww,wi,Wk,Uz,Wc,zC,xx]at ih⊢;omega
def zdI{v:List En}(hb:∀e∈v,e.holes.length<=1048576){i:Nat}(h:i<v.length){j:Nat}(o:j<=v[i].holes.length):(Q7 v i h j).length<=4+2097155*i+2*j:=by have:=vQ hb i a8;unfold Q7;simp only[wi,ww,Wt,xx,We];omega
def zdn(x:Nat):Cn xt 195 [.v (.int .u64 x)] (.v (.bool false)):=by refine zt func195 1 ?_;exact pd
def zdm(x:Int):Cn xt 214 [.v (.int .i64 x)] (.v (.bool false)):=by refine zt func214 1 ?_;exact pd
def XQ(x y:Nat):Cn xt 156 [.v (.int .u64 x),.v (.int .u64 y)] (.v (.int .i64 (if x<y then -1 else if y<x then 1 else 0))):=by
 refine zt func156 2 ?_;refine pw ?_;refine .c (zdn x) ?_;refine .c (zdn y) ?_;refine .i ?_ ?_<;>intro j<;>first|refine pw ?_|exact pd
 .rw[Vm j]
 .rw[Vq a8];refine .i ?_ ?_<;>intro o<;>first|refine pw ?_|exact pd
  .rw[Vm o]
  .rw[Vq a8]
def zhq(x y:Nat):Cn xt 209 [.v (.int .i64 x),.v (.int .i64 y)] (.v (.int .i64 (if x<y then -1 else if y<x then 1 else 0))):=by
 refine zt func209 2 ?_;refine pw ?_;refine .c (zdm x) ?_;refine .c (zdm y) ?_;refine .i ?_ ?_<;>intro j<;>first|refine pw ?_|exact pd
 .rw[Vm j]
 .rw[Vq a8];refine .i ?_ ?_<;>intro o<;>first|refine pw ?_|exact pd
  .rw[Vm o]
  .rw[Vq a8]
def zkx(r:Nat)(e:En):Cn xt 116 [.v (.int .u64 r),ep e] (.v (.int .i64 (if e.rep<r then -1 else if r<e.rep then 1 else 0))):=by refine zt func116 2 ?_;refine pw ?_;exact .d (XQ e.rep r)
def zfV(a b:List Nat)(ha:a.length<=1152921504606846976)(hb:b.length<=1152921504606846976):Cn xt 196 [ns a,ns b] (.v (.int .i64 (zZ a b))):=by
 refine zt func196 2 ?_;refine pw ?_;obtain⟨m,e1,C,E,u⟩:∃m:Nat,(if b.length<a.length then (b.length:Int) else (a.length:Int))=(m:Int)/\m<=a.length/\m<=b.length/\(m=a.length\/m=b.length):=by
  by_cases h:b.length<a.length
  .exact⟨b.length,Vm h,a8,a8,.inr rfl⟩
  .exact⟨a.length,Vq h,a8,a8,.inl rfl⟩
 rw[e1];refine pLoop.go (λk=>k<=m/\zZ a b=zZ (a.drop k) (b.drop k)) (λk=>[(11,.v (.int .i64 (k:Nat)))]) (λ_=>[]) (λk=>m-k) 0 [11] ?_ ?_ ?_
 .exact⟨X3 _,rfl⟩
 .exact pd
 .rintro k ⟨hk,j⟩;refine pw ?_;refine .i ?_ ?_<;>intro h<;>first|refine pw ?_|exact pd
  .have w:k<a.length:=a8;have A:k<b.length:=a8;rw[vD w,vD A,zZ]at j;refine pw ?_;refine .i ?_ ?_<;>intro F<;>first|refine pw ?_|exact pd
   .refine .c (XQ a[k] b[k]) ?_;rw[j];by_cases o:a[k]<b[k]
    .rw[Vm o,Vm o]
    .rw[Vq o,Vq o,Vm a8,Vm a8]
   .rw[Vq a8,Vq a8]at j;exact⟨k+1,⟨h,j⟩,a8,rfl⟩
  .refine .c (zhq a.length b.length) ?_;have B:a.drop k=[]\/b.drop k=[]:=by
    rcases u with u|u
    .exact .inl (wA a8)
    .exact .inr (wA a8)
   have la:(a.drop k).length=a.length-k:=ud;have lb:(b.drop k).length=b.length-k:=ud;rw[j];generalize a.drop k=x at *;generalize b.drop k=y at *;rcases B with rfl|rfl
   .cases y with
    |nil=>simp at la lb;rw[Vq a8,Vq a8];rfl
    |cons c y=>simp at la lb;rw[Vm a8];rfl
   .cases x with
    |nil=>simp at la lb;rw[Vq a8,Vq a8];rfl
    |cons c y=>simp at la lb;rw[Vq a8,Vm a8];rfl
def Ks(a b:List En)(ha:∀e∈a,ZL e)(hb:∀e∈b,ZL e)(la:(zv a).length<=1073741824)(lb:(zv b).length<=1073741824):Cn xt 173 [vp a,vp b] (.v (.int .i64 (zZ (zv a) (zv b)))):=by refine zt func173 2 ?_;refine pw ?_;refine .c (Yz a ha la) ?_;refine .c (Yz b hb lb) ?_;exact .d (zfV (zv a) (zv b) a8 a8)
def zji(a b:List En)(C:a.length<=1152921504606846976)(B:∀e∈a,e.holes.length<=1152921504606846976):Cn xt 78 [vp a,vp b] (.v (.bool (decide (a=b)))):=by
 refine zt func78 2 ?_;refine pw ?_;refine .i ?_ ?_<;>intro o<;>first|refine pw ?_|exact pd
 .symm;rw[Wx];rintro rfl;exact o rfl
 .have w:a.length=b.length:=(dK o);clear o;refine pLoop.go (λk=>k<=a.length/\(a=b↔a.drop k=b.drop k)) (λk=>[(5,.v (.int .i64 (k:Nat)))]) (λ_=>[]) (λk=>a.length-k) 0 [5] ?_ ?_ ?_
  .exact⟨X3 _,UG⟩
  .exact pd
  .rintro k ⟨hk,j⟩;refine pw ?_;refine .i ?_ ?_<;>intro h<;>first|refine pw ?_|exact pd
   .have u:k<b.length:=a8;rw[vD h,vD u,Wi]at j;refine pw ?_;refine .c (zjh a[k] b[k] (B _ (XE h))) ?_;refine .i ?_ ?_<;>intro e<;>first|refine pw ?_|exact pd
    .symm;rw[Wx];intro A;exact e (j.1 A).1
    .refine⟨k+1,⟨h,?_⟩,a8,rfl⟩;rw[j];exact⟨λh=>h.2,λh=>⟨e,h⟩⟩
   .rw[eq_comm,wG,j,wA a8,wA a8]
def zbB(v:List En)(r:Nat)(u:v.length<=1152921504606846976):Cn xt 159 [vp v,.v (.int .u64 r)] (.v (.int .i64 (fdV r 0 v))):=by
 refine zt func159 2 ?_;refine pw ?_;refine pLoop.go (λk=>k<=v.length/\fdV r 0 v=fdV r k (v.drop k)) (λk=>[(5,.v (.int .i64 (k:Nat)))]) (λ_=>[]) (λk=>v.length-k) 0 [5] ?_ ?_ ?_
 .exact⟨X3 _,rfl⟩
 .exact pd
 .rintro k ⟨hk,j⟩;refine pw ?_;refine .i ?_ ?_<;>intro h<;>first|refine pw ?_|exact pd
  .rw[vD h,fdV]at j;refine pw ?_;refine .i ?_ ?_<;>intro o<;>first|refine pw ?_|exact pd
   .rw[j,Vm o]
   .rw[Vq o]at j;exact⟨k+1,⟨h,j⟩,a8,rfl⟩
  .rw[j,wA a8];rfl
def kfn:PV:=.cp [.fn (.func 116) [] []] 0
attribute [go_sem] kfn
def znQ(e:En)(r:Nat):Cn xt 158 [ep e,.v (.int .u64 r),kfn] (.v (.int .i64 (if e.rep<r then -1 else if r<e.rep then 1 else 0))):=by refine zt func158 3 ?_;refine pw ?_;exact .d (zkx r e)
def zoR(v:List En)(r:Nat)(i:Nat)(hi:i<=v.length)(H:∀j,(h:j<v.length)->j<i->v[j].rep<r)(A:∀j,(h:j<v.length)->i<=j->r<=v[j].rep)(I:v.length<=1152921504606846976):
 Cn xt 157 [vp v,.v (.int .u64 r),.fn (.func 158) [] [kfn]] (.tup [.v (.int .i64 i),.v (.bool (if h:i<v.length then decide (v[i].rep=r) else false))]):=by
 refine zt func157 3 ?_;refine pw ?_;refine pLoop.go (λp:Nat×Nat=>p.1<=i/\i<=p.2/\p.2<=v.length) (λp=>[(9,.v (.int .i64 (p.1:Nat))),(10,.v (.int .i64 (p.2:Nat)))]) (λ_=>[]) (λp=>p.2-p.1) (0,v.length) [9,10] ?_ ?_ ?_
 .exact⟨X3 _,hi,Zp _⟩
 .exact pd
 .rintro⟨p,q⟩ ⟨C,E,F⟩;simp only at C E F;refine pw ?_;refine .i ?_ ?_<;>intro h<;>first|refine pw ?_|exact pd
  .have B:(p+q)/2<v.length:=a8;have G:=H _ B;have w:=A _ B;refine pw ?_;refine .c (znQ v[(p+q)/2] r) ?_;refine .i ?_ ?_<;>intro o<;>first|refine pw ?_|exact pd
   .refine⟨((p+q)/2+1,q),⟨?_,E,F⟩,by simp only;omega,rfl,rfl⟩;simp only;refine Uc λu=>?_;have:=w u;rw[Vq a8]at o;split at o<;>omega
   .refine⟨(p,(p+q)/2),⟨C,?_,by simp only;omega⟩,by simp only;omega,rfl,rfl⟩;simp only;refine uo λu=>?_;have:=G u;rw[Vm this]at o;omega
  .obtain rfl:p=i:=a8;obtain rfl:q=p:=a8;refine .i ?_ ?_<;>intro o<;>first|refine pw ?_|exact pd
   .refine .c (znQ v[q] r) ?_;have w:=A _ o (Zp _);rw[ul o,Vq a8];by_cases u:v[q].rep=r
    .rw[Vq a8,uF u];simp
    .rw[Vm a8,WE u];simp
   .rw[UO a8]
def zoK(v:List En)(r:Nat)(w:zsC v)(A:v.length<=1152921504606846976):Cn xt 121 [vp v,.v (.int .u64 r)] (.v (.int .i64 (fdV r 0 v))):=by
 obtain⟨i,hi,j,o⟩:=zoo w r;rw[zoj w j o];refine zt func121 2 ?_;refine pw ?_;refine .c (zoR v r i hi j o A) ?_;by_cases h:i<v.length
 .rw[ul h,ul h];refine .i ?_ ?_<;>intro u<;>first|refine pw ?_|exact pd
  .rw[Vq u]
  .rw[Vm u]
 .rw[UO h,UO h];exact pd
def zo6(v:List En)(r c:Nat)(j:zsC v)(hc:c<zk)(u:v.length<=1152921504606846976)(o:∀e∈v,e.holes.length<=1152921504606846976):Cn xt 87 [vp v,.v (.int .u64 r),.v (.int .u64 c)] (.v (.bool (mem (zT v r) c))):=by
 refine zt func87 3 ?_;refine pw ?_;refine .rd (zoK v r j u) rfl ?_;rcases X2 r v 0 with⟨e1,e2⟩|⟨i,hi,e1,e2⟩
 .rw[e1,qC e2];refine pw ?_;rfl
 .rw[e1,zh8 j hi e2,vC (j.1 _ (XE hi)) hc,wn];refine pw ?_;exact .d (zoS v[i] c (j.1 _ (XE hi)) (o _ (XE hi)))
def zl8(v:List En)(r c:Nat)(j:zsC v)(hc:c<zk)(u:v.length<=1152921504606846976)(o:∀e∈v,e.holes.length<=1152921504606846976):Cn xt 127 [vp v,.v (.int .u64 r),.v (.int .u64 c)] (.v (.bool (mem (zT v r) c))):=by
 refine zt func127 3 ?_;refine pw ?_;refine .rd (zbB v r u) rfl ?_;rcases X2 r v 0 with⟨e1,e2⟩|⟨i,hi,e1,e2⟩
 .rw[e1,qC e2];refine pw ?_;rfl
 .rw[e1,zh8 j hi e2,vC (j.1 _ (XE hi)) hc,wn];refine pw ?_;exact .d (znN v[i] c (o _ (XE hi)))
def zes(v:List En)(hb:∀e∈v,ZL e)(H:v.length<=1152921504606846976)(F:∀e∈v,e.holes.length<=1152921504606846976):Cn xt 80 [vp v] (jS (jx v).1 (jx v).2):=by
 refine zt func80 1 ?_;refine pw ?_;refine pLoop.go (λk=>k<=v.length/\jx v=hkV v k (v.drop k)) (λk=>[(8,.v (.int .i64 (k:Nat)))]) (λ_=>[]) (λk=>v.length-k) 0 [8] ?_ ?_ ?_
 .exact⟨X3 _,rfl⟩
 .exact pd
 .rintro k ⟨hk,j⟩;refine pw ?_;refine .i ?_ ?_<;>intro h<;>first|refine pw ?_|exact pd
  ·rw [vD h,hkV]at j;have A:=hb _ (XE h);have B:=F _ (XE h);have u:=Ju (yV v[k]).1 (yV v[k]).2;refine pw ?_;refine .rd (zcJ v[k] A.1 B (.inr (KL 2))) rfl ?_;by_cases hz:(yV v[k]).1=0
   .rw[yk hz];rw[Vq a8]at j;refine pw ?_;refine .i ?_ ?_<;>intro E<;>first|refine pw ?_|exact pd
    .have G:=Xl (v:=v) (k:=k) a8;rw[G]at j;refine pw ?_;refine .c (zkx v[k-1].rep v[k]) ?_;refine .i ?_ ?_<;>intro w<;>first|refine pw ?_|exact pd
     .have C:v[k].rep<=v[k-1].rep:=by split at w<;>(try split at w)<;>omega
      rw[Vm ⟨E,C⟩]at j;rw[j];refine .c (jT 3 k) ?_;exact ym _ _
     .have C:¬v[k].rep<=v[k-1].rep:=by split at w<;>(try split at w)<;>omega
      rw[Vq (λh=>a8)]at j;exact⟨k+1,⟨h,j⟩,a8,rfl⟩
    .rw[Vq (λh=>a8)]at j;exact⟨k+1,⟨h,j⟩,a8,rfl⟩
   .rw[Vm hz]at j;rw[j];rw[vu hz]at u⊢;refine pw ?_
    (first|refine .c (u) ?_|refine .o (u) ?_)
    refine .c (jT (yV v[k]).1 k) ?_;exact ym _ _
  .rw[j,wA a8];exact .eq _ rfl
def yY{v:List En}{k:Nat}(h:k<v.length):zi (v.take (k+1))=if (kP v[k]).2 then zi (v.take k)++[(kP v[k]).1] else zi (v.take k):=by
 unfold zi;rw[X4 h,U8];simp only[uL,UU,QX];split
 .rename_i h1;split at h1
  .cases h1
  .rename_i h2;rw[Vq h2,Wc]
 .rename_i h1;split at h1
  .rename_i h2;cases h1;rw[Vm h2]
  .cases h1
def ZU(v:List En)(k:Nat):(zi (v.take k)).length<=k:=by have:=Uf QX (v.take k);have j:(v.take k).length<=k:=uM _ _;unfold zi;omega
def zer(v:List En)(w:zsC v)(A:v.length<=1048576)(u:∀e∈v,e.holes.length<=10000):Cn xt 141 [vp v] (vp (zi v)):=by
 refine zt func141 1 ?_;refine pw ?_;refine pLoop.go (λk=>k<=v.length) (λk=>[(3,.sl ((zi (v.take k)).map ec) (.r 23 3)),(10,.v (.int .i64 (k:Nat)))]) (λ_=>[]) (λk=>v.length-k) 0 [3,10] ?_ ?_ ?_
 .exact X3 _
 .refine pw ?_;rfl
 .rintro k hk;have o:=ZU v k;refine pw ?_;refine .i ?_ ?_<;>intro h<;>first|refine pw ?_|exact pd
  .refine .c (zeP v[k] (w.1 _ (XE h)) (u _ (XE h))) ?_;refine .i ?_ ?_<;>intro j<;>first|refine pw ?_|exact pd
   .refine⟨k+1,h,a8,?_,rfl⟩;rw[yY h,Vm j];simp;rfl
   .refine⟨k+1,h,a8,?_,rfl⟩;rw[yY h,Vq (dK j)]
  .rw[wm a8]
def Ka(v:List En)(w:zsC v)(A:v.length<=1048576)(u:∀e∈v,e.holes.length<=10000):Cn xt 135 [vp v] (vp (zi v)):=by
 refine zt func135 1 ?_;refine pw ?_;refine pLoop.go (λk=>k<=v.length) (λk=>[(3,.sl ((zi (v.take k)).map ec) (.r 25 3)),(4,.v (.int .i64 (k:Nat)))]) (λ_=>[]) (λk=>v.length-k) 0 [3,4] ?_ ?_ ?_
 .exact X3 _
 .refine pw ?_;rfl
 .rintro k hk;have o:=ZU v k;refine pw ?_;refine .i ?_ ?_<;>intro h<;>first|refine pw ?_|exact pd
  .refine .c (zcd v[k] (w.1 _ (XE h)) (u _ (XE h))) ?_;refine .i ?_ ?_<;>intro j<;>first|refine pw ?_|exact pd
   .refine⟨k+1,h,a8,?_,rfl⟩;rw[yY h,Vm j];simp;rfl
   .refine⟨k+1,h,a8,?_,rfl⟩;rw[yY h,Vq (dK j)]
  .rw[wm a8]
def kE(v:List En)(C:v.length<=1024)(u:∀e∈v,e.holes.length<=1048576):Cn xt 168 [vp v] (ns (zv v)):=by
 have A:=zw;refine zt func168 1 ?_;refine pw ?_;refine pLoop.go (λi=>i<=v.length) (λi=>[(3,.sl ((ZJ v i).map yN) (.r 9 1)),(4,.v (.int .i64 (i:Nat)))]) (λ_=>[]) (λi=>v.length-i) 0 [3,4,9] ?_ ?_ ?_
 .exact X3 _
 .rw[ziE];exact pd
 .rintro i hi;have o:=vQ u i hi;refine pw ?_;refine .i ?_ ?_<;>intro h<;>first|refine pw ?_|exact pd
  .have B:=u _ (XE h);refine pw ?_;refine cutP.full rfl ?_ rfl ?_ ?_
   .exact pd
   .exact pd
   refine pw ?_;refine pLoop.go (λj=>j<=v[i].holes.length) (λj=>[(3,.sl ((Q7 v i h j).map yN) (.r 9 1)),(5,.v (.int .i64 (j:Nat)))]) (λ_=>[]) (λj=>v[i].holes.length-j) 0 [3,5,35,16] ?_ ?_ ?_
   .exact X3 _
   .rw[ziD];refine pw ?_;simp[yN]
   .rintro j w;have o:=zdI u h w;refine pw ?_;refine .i ?_ ?_<;>intro hc<;>first|refine pw ?_|exact pd
    .refine cutP.full rfl ?_ rfl ?_ ?_
     .exact pd
     .exact pd
     refine pw ?_;refine⟨j+1,hc,a8,?_,rfl⟩;rw[zbu h hc];simp[yN]
    .refine⟨i+1,h,a8,?_,rfl⟩;rw[zdH h a8]
  .rw[VF a8]
def Xp(a b:List En)(ha:∀e∈a,e.holes.length<=1048576)(hb:∀e∈b,e.holes.length<=1048576)(la:a.length<=1024)(lb:b.length<=1024):Cn xt 136 [vp a,vp b] (.v (.int .i64 (zZ (zv a) (zv b)))):=by
 have I:=vQ ha a.length (Zp _);have J:=vQ hb b.length (Zp _);rw[VF a8]at I J;refine zt func136 2 ?_;refine pw ?_;refine .c (kE a la ha) ?_;refine .c (kE b lb hb) ?_;generalize zv a=x at *;generalize zv b=y at *;refine pLoop.go (λk=>k<=x.length/\k<=y.length/\zZ x y=zZ (x.drop k) (y.drop k)) (λk=>[(7,.v (.int .i64 (k:Nat)))]) (λ_=>[]) (λk=>x.length-k) 0 [7] ?_ ?_ ?_
 .exact⟨X3 _,X3 _,rfl⟩
 .exact pd
 .rintro k ⟨F,G,o⟩;refine pw ?_;have j:¬(k<x.length/\k<y.length)->(if x.length<y.length then (-1:Int) else if y.length<x.length then 1 else 0)=zZ x y:=λH=>by
   have la:(x.drop k).length=x.length-k:=ud;have lb:(y.drop k).length=y.length-k:=ud;rw[o];cases hx:x.drop k with
   | nil=>
     rw[hx]at la;cases hy:y.drop k with
     |nil=>rw[hy]at lb;simp at la lb;rw[Vq a8,Vq a8];rfl
     |cons c z=>rw[hy]at lb;simp at la lb;rw[Vm a8];rfl
   | cons c z=>
     rw[hx]at la;cases hy:y.drop k with
     |nil=>rw[hy]at lb;simp at la lb;rw[Vq a8,Vm a8];rfl
     |cons d u=>rw[hy]at lb;simp at la lb;exact absurd ⟨a8,a8⟩ H
  have E:¬(k<x.length/\k<y.length)->True:=λ_=>trivial;refine .i ?_ ?_<;>intro B<;>first|refine pw ?_|exact pd
  .refine .i ?_ ?_<;>intro C<;>first|refine pw ?_|exact pd
   .rw[vD B,vD C,zZ]at o;refine pw ?_;refine .i ?_ ?_<;>intro w<;>first|refine pw ?_|exact pd
    .rw[o,Vm w]
    .refine .i ?_ ?_<;>intro A<;>first|refine pw ?_|exact pd
     .rw[o,Vq a8,Vm A]
     .rw[Vq a8,Vq a8]at o;exact⟨k+1,⟨B,C,o⟩,a8,rfl⟩
   .rw[<-j a8];refine .i ?_ ?_<;>intro w<;>first|refine pw ?_|exact pd
    .rw[Vm w]
    .refine .i ?_ ?_<;>intro A<;>first|refine pw ?_|exact pd
     .rw[Vq a8,Vm A]
     .rw[Vq a8,Vq a8]
  .rw[<-j a8];refine .i ?_ ?_<;>intro w<;>first|refine pw ?_|exact pd
   .rw[Vm w]
   .refine .i ?_ ?_<;>intro A<;>first|refine pw ?_|exact pd
    .rw[Vq a8,Vm A]
    .rw[Vq a8,Vq a8]
end
section
open Go.Maps
abbrev DV:=DataW Value
def rV(v:Value):Option (DV×List MemPlace):=some (.held v,[])
def zP:Value:=.agg #[.slice none 0 0,.slice none 0 0]
def kR(r:Nat):Lit:=.int .u64 (r:Nat)
def vF:Keyed xt 36 := int_keyed underlying36
def zeC(w:World):(zeroValue 234).run xt w=.ok zP w:=dL
def Zq{r:Nat}(h:r<zk):keyOf xt 36 (.int .u64 (r:Nat))=some (kR r):=by rw[zw]at h;refine keyOf_int_mk underlying36 ?_;simp[Lit.wf,IntKind.min,IntKind.max,IntKind.signed,IntKind.bits];omega
def Qc(r:Nat):WideAt.IsKeyLit (kR r):=trivial
def Xa{r s:Nat}(h:kR r=kR s):r=s:=by unfold kR at h;injection h with _ h;omega
def DL(C:xT)(j:Nat)(w:World):Nat->Nat->Prop:=λb o=>C b o\/(j<b/\b<w.heap.size)
def rdF(C:xT)(w:World)(b o:Nat)(e:En):Prop:=w.cell? ⟨b,o,none⟩=some (.int .u64 e.rep)/\w.cell? ⟨b,o+1,none⟩=some (.int .u64 e.max)/\(∃j,w.cell? ⟨b,o+2,none⟩=some j/\Dat C w j (rg e.holes))/\e.rep<zk/\e.max<zk
def RdF(C:xT)(j:Nat)(w:World)(v:Value)(l:List En):Prop:=RdSl 3 (rdF C) 0 j w v l
def RdF.keep{C:xT}{j:Nat}{w w':World}{v:Value}{l:List En}(u:∀b o,C b o->b<j)(h:RdF C j w v l)(hb:∀k,k<j->w'.heap[k]?=w.heap[k]?):RdF C j w' v l:=
 RdSl.keep h (Zp _) (Zp _) λb o x _ h2 ⟨c0,c1,⟨hv,c2,c3⟩,c4⟩=>
  ⟨(tp (a:=⟨b,o,none⟩) (hb b h2)).trans c0,(tp (a:=⟨b,o+1,none⟩) (hb b h2)).trans c1,⟨hv,(tp (a:=⟨b,o+2,none⟩) (hb b h2)).trans c2,c3.mono (λ_ _ h=>h) λb o x A B=>(tp (a:=⟨b,o,none⟩) (hb b (u b o A))).trans B⟩,c4⟩
def dat_rdf{D:xT}{w:World}{x:Value}{v:List En}(h:Dat D w x (vp v))(L:∀b o,D b o->b<w.heap.size)(hb:∀e∈v,ZL e):RdF D w.heap.size w x v:=by
 unfold vp at h;generalize G:v.map ec=es at h;cases h with
 |sl a cap sz es o b off u hc hz hm ha hsz hd hx=>have H:es.length=v.length:=(by rw[<-G];simp);refine⟨a,cap,by rw[H],a8,hm,λC=>?_⟩;have A:0<v.length:=wX.2 C;have g:∀i (h:i<v.length),es[i]?=some (ec v[i]):=λi h=>(by rw[<-G];exact xo h);obtain rfl:3=sz:=hsz 0 _ (g 0 A);have B:es≠[]:=(by intro e;subst e;simp at H;omega);have j:b<w.heap.size:=L _ _ (hd 0 a8).1;refine⟨b,off,ha B,X3 _,j,λi hi=>?_⟩;have K:=(hx i _ 0 _ (g i hi) rfl).v_inv;have e1:=(hx i _ 1 _ (g i hi) rfl).v_inv;have e2:=hx i _ 2 _ (g i hi) rfl;have E:=(hd (i*3+0) a8).2.1;have F:=(hd (i*3+1) a8).2.1;have J:=(hd (i*3+2) a8).2.1;rw[K]at E;rw[e1]at F;obtain⟨b1,b2,I⟩:=hb _ (XE hi);exact⟨E,F,⟨_,J,e2⟩,I,b2⟩
def PairD(C:xT)(w:World)(o:Nat)(D:DV)(j:List Nat)(B E:Nat->List Iv):Prop:=
 IsMap D/\∀r,has D (kR r)=decide (r∈j)/\∃u A,D.atKey (kR r) (.held zP)=.held (.agg #[u,A])/\Dat (DL C o w) w u (rg (B r))/\Dat (DL C o w) w A (rg (E r))
def KN{D:xT}{w:World}:Dat D w (.slice none 0 0) (rg []):=.sl none 0 2 [] .sh 0 0 (λ_=>undef) b6 (λh=>by cases h) b8 (λh=>absurd rfl h) (λi e h=>by simp at h) (λj h=>by simp at h) (λi e j p h=>by simp at h)
def PairD.start(C:xT)(w:World)(j:Nat):PairD C w j (.map []) [] (λ_=>[]) (λ_=>[]):=
 ⟨⟨[],rfl⟩,λr=>⟨by simp[has],_,_,rfl,KN,KN⟩⟩
def PairD.mono{C:xT}{w w':World}{u:Nat}{D:DV}{A:List Nat}{B E:Nat->List Iv}(I:∀b o,C b o->b<u)(h:PairD C w u D A B E)(hs:w.heap.size<=w'.heap.size)(hb:∀k,k<w.heap.size->k≠u->w'.heap[k]?=w.heap[k]?):PairD C w' u D A B E:=by
 refine⟨h.1,λr=>⟨(h.2 r).1,?_⟩⟩;obtain⟨J,K,e,d0,H⟩:=(h.2 r).2;have F:∀b o x,DL C u w b o->w.cell? ⟨b,o,none⟩=some x->w'.cell? ⟨b,o,none⟩=some x:=λb o x j G=>
  (tp (a:=⟨b,o,none⟩) (hb b (tr w ⟨b,o,none⟩ G) (by rcases j with j|j;have:=I b o j;omega;omega))).trans G
 have j:∀b o,DL C u w b o->DL C u w' b o:=λb o j=>j.imp id λh=>⟨h.1,vw h.2 hs⟩;exact⟨J,K,e,d0.mono j F,H.mono j F⟩
def PairD.put0{C:xT}{w:World}{B:Nat}{D:DV}{o:List Nat}{F G:Nat->List Iv}(h:PairD C w B D o F G){j:Nat}{l:List Iv}{s K E:Value}(hs:Dat (DL C B w) w s (rg l))(J:D.atKey (kR j) (.held zP)=.held (.agg #[K,E])):
 PairD C w B (D.put (kR j) (.held (.agg #[s,E]))) (o++[j]) (λr=>if r=j then l else F r) G:=by
 refine⟨h.1.put _ _,λr=>?_⟩;by_cases e:r=j
 .subst e;obtain⟨H,I,e1,d0,A⟩:=(h.2 r).2;rw[J]at e1;cases e1;exact⟨by rw[TY h.1 (Qc _)];simp,s,E,atKey_put_same h.1 (Qc _) _ _,by dsimp only;rw[Vm rfl];exact hs,A⟩
 .have u:kR r≠kR j:=λh=>e (Xa h);obtain⟨H,I,e1,d0,A⟩:=(h.2 r).2;exact⟨by rw[TU u,(h.2 r).1];simp[e],H,I,by rw[T2 u];exact e1,by dsimp only;rw[Vq e];exact d0,A⟩
def PairD.put1{C:xT}{w:World}{A:Nat}{D:DV}{o:List Nat}{F G:Nat->List Iv}(h:PairD C w A D o F G){j:Nat}{l:List Iv}{s B K:Value}(hs:Dat (DL C A w) w s (rg l))(J:D.atKey (kR j) (.held zP)=.held (.agg #[B,K])):
 PairD C w A (D.put (kR j) (.held (.agg #[B,s]))) (o++[j]) F (λr=>if r=j then l else G r):=by
 refine⟨h.1.put _ _,λr=>?_⟩;by_cases e:r=j
 .subst e;obtain⟨H,I,e1,d0,E⟩:=(h.2 r).2;rw[J]at e1;cases e1;exact⟨by rw[TY h.1 (Qc _)];simp,B,s,atKey_put_same h.1 (Qc _) _ _,d0,by dsimp only;rw[Vm rfl];exact hs⟩
 .have u:kR r≠kR j:=λh=>e (Xa h);obtain⟨H,I,e1,d0,E⟩:=(h.2 r).2;exact⟨by rw[TU u,(h.2 r).1];simp[e],H,I,by rw[T2 u];exact e1,d0,by dsimp only;rw[Vq e];exact E⟩
def zc9{v:List En}{e:En}(h:∀f∈v,f.rep≠e.rep)(r:Nat):zT (v++[e]) r=if r=e.rep then kn e else zT v r:=by
 unfold zT;rw[List.find?_append];by_cases j:r=e.rep
 .subst j;rw[Vm rfl,show List.find? (λf=>f.rep == e.rep) v=none from Uj.2 λf o=>by simpa using h f o];simp
 .rw[Vq j];have:List.find? (λf=>f.rep == r) [e]=none:=(by simp;exact λh=>j h.symm);rw[this,Option.or_none]
def Vj{v:List En}(h:zsC v){k:Nat}(hk:k<v.length):zT (v.take (k+1))=λr=>if r=v[k].rep then kn v[k] else zT (v.take k) r:=by
 funext r;rw[X4 hk];refine zc9 (λf o=>?_) r;obtain⟨i,hi,rfl⟩:=Wp o;have j:i<k:=by simp at hi;omega
 have:=wT.1 h.2 i k a8 hk j;simp only[uX];omega
def SmV(v:List En):Prop:=zsC v/\v.length<=1048576/\∀e∈v,e.holes.length<=10000
end
end Go.Proofs.YtmpnbdhadjfbhaaGreatDoor
