import Derived.Test.YtmpnbdhadjfbhaaGreatDoorB10
import Derived.Test.YtmpnbdhadjfbhaaGreatDoorB17
set_option maxHeartbeats 16000000
set_option linter.all false
set_option maxRecDepth 100000
namespace Go.Proofs.YtmpnbdhadjfbhaaGreatDoor
def tU:=@Go.World.cell?_setCell_same
def tW:=@Go.RowKit.Below.setCell
open Go.Proofs.Tryz
open Go.Proofs.Tryz renaming prog->xT
section
open Go.RowKit
def zhS(s:Iv)(x:Nat):Cn xT 126 [Je s,.v (.int .u64 x)] (.v (.bool (decide (s.lo<=x) && decide (x<=s.hi)))):=by
 refine zt func126 2 ?_;refine pw ?_;refine .i ?_ ?_<;>intro h<;>first|refine pw ?_|exact pd
 .simp[h]
 .simp;omega
def zdj{l:List Iv}{k x:Nat}(h:k<l.length):mem (l.drop k) x=((decide (l[k].lo<=x) && decide (x<=l[k].hi)) || mem (l.drop (k+1)) x):=by rw[VS h];rfl
def kU(l:List Iv)(x:Nat)(u:l.length<=1152921504606846976):Cn xT 93 [rg l,.v (.int .u64 x)] (.v (.bool (mem l x))):=by
 refine zt func93 2 ?_;refine pw ?_;refine pLoop.go (λk=>k<=l.length/\mem l x=mem (l.drop k) x) (λk=>[(5,.v (.int .i64 (k:Nat)))]) (λ_=>[]) (λk=>l.length-k) 0 [5] ?_ ?_ ?_
 .exact⟨X4 _,rfl⟩
 .exact pd
 .rintro k ⟨hk,j⟩;refine pw ?_;refine .i ?_ ?_<;>intro h<;>first|refine pw ?_|exact pd
  .refine callP.mk (zhS l[k] x) rfl ?_;refine pw ?_;have o:=zdj (x:=x) h;refine .i ?_ ?_<;>intro e<;>first|refine pw ?_|exact pd
   .rw[j,o,<-Bool.decide_and];simp[e]
   .refine⟨k+1,⟨h,?_⟩,a8,rfl⟩;rw[j,o,<-Bool.decide_and];simp[e];omega
  .rw[j,wE a8];rfl
def zgX:Cn xT 51 [] (.v (.int .u64 18446744073709551615)):=by refine zt func51 0 ?_;exact pd
def zd3(s t:Iv)(o:s.lo<zk)(u:t.lo<zk):Cn xT 49 [Je s,Je t] (.v (.int .i64 (relate s t:Nat))):=by
 refine zt func49 2 ?_;refine pw ?_;have y:=zw;unfold relate;refine .i ?_ ?_<;>intro h<;>first|refine pw ?_|exact pd
 .refine .i ?_ ?_<;>intro j<;>first|refine pw ?_|exact pd
  .rw[vD h,vD a8];rfl
  .rw[vD h,Vq a8];rfl
 .refine .i ?_ ?_<;>intro j<;>first|refine pw ?_|exact pd
  .refine .i ?_ ?_<;>intro w<;>first|refine pw ?_|exact pd
   .rw[Vq a8,vD j,vD a8];rfl
   .rw[Vq a8,vD j,Vq a8];rfl
  .rw[Vq a8,Vq a8];rfl
def zi5(a b:Bool)(op:Nat)(ho:op<3):Cn xT 164 [.v (.bool a),.v (.bool b),.v (.int .i64 op)] (.v (.bool (Qj op a b))):=by
 refine zt func164 3 ?_;obtain rfl|rfl|rfl:op=0\/op=1\/op=2:=a8
 all_goals (cases a<;>cases b<;>simp (maxSteps:=2000000) (disch:=omega) only[go_sem,seval]<;>rfl)
def zan(l:List Nat)(k:Nat)(hk:k<l.length)(w:l.length<=1152921504606846976)(hs:∀h:k+1<l.length,1<=l[k+1]/\l[k+1]<zk):Cn xT 130 [.sl (l.map λx=>[.v (.int .u64 (x:Nat))]) .sh,.v (.int .i64 k)] (Je ⟨l[k],if h:k+1<l.length then l[k+1]-1 else zk-1⟩):=by
 have u:=zw;refine zt func130 2 ?_;refine pw ?_;refine .i ?_ ?_<;>intro h<;>first|refine pw ?_|exact pd
 .obtain⟨j,o⟩:=hs h;rw[uj h];exact pd
 .refine callQ.mk zgX rfl ?_;rw[UL a8];refine pw ?_;rfl
def zdL{l:List Iv}(h:0<l.length)(s:Iv):Q8 l s=if l[l.length-1].hi+1=s.lo then l.take (l.length-1)++[⟨l[l.length-1].lo,s.hi⟩] else l++[s]:=by unfold Q8;rw[UT,Zv a8,List.dropLast_eq_take]
def zge{l:List Iv}(h:l.length<=0)(s:Iv):Q8 l s=l++[s]:=by have:l=[]:=wH a8;subst this;rfl
def zlq(l:List Iv)(s:Iv)(hs:s.lo<zk)(hb:∀t∈l,t.lo<zk/\t.hi<s.lo)(u:l.length<1099511627776):OCn xT 165 (l.map Q2) 2 [Je s] ((Q8 l s).map Q2):=by
 refine zin func165 [] 2 4 dK dK rfl (by simp[go_sem,seval]) ?_
 conv=>arg 4;cbv
 refine pw ?_;refine .i ?_ ?_<;>intro j<;>first|refine pw ?_|exact pd
 .refine callQ.mk (zd3 l[l.length-1] s (hb _ (Y1 _)).1 hs) rfl ?_;have o:=(hb _ (Y1 (show l.length-1<l.length by omega))).2;refine pw ?_;rw[zdL j];unfold relate;rw[vD o];refine .i ?_ ?_<;>intro h<;>first|refine pw ?_|exact pd
  .rw[vD (by split at h<;>first|assumption|cases h)];simp[Q2]
  .rw[Vq (by split at h<;>first|assumption|exact absurd rfl h)];simp[Q2]
 .rw[zge j];simp[Q2]
def VX(o:List (List Iv))(F:o.length<=1048576)(G:∀l∈o,l.length<=1048576)(H:(yU o).length<=1048576)(L:∀l∈o,∀s∈l,s.lo<zk/\s.hi<zk):Cn xT 161 [rgs o] (.sl ((zH o).map yN) .sh):=by
 have N:=zw;refine zt func161 1 ?_;refine pw ?_;refine pLoop.go (λi=>i<=o.length) (λi=>[(3,.sl ((kA o i 0).map yN) (.r 9 1)),(4,.v (.int .i64 (i:Nat)))]) (λ_=>[]) (λi=>o.length-i) 0 [3,4,9] ?_ ?_ ?_
 .exact X4 _
 .rw[zf6];exact pd
 ·rintro i hi;refine pw ?_;refine .i ?_ ?_<;>intro h<;>first|refine pw ?_|exact pd
  .have P:=G _ (Y1 h);refine pLoop.go (λj=>j<=o[i].length) (λj=>[(3,.sl ((kA o i j).map yN) (.r 9 1)),(5,.v (.int .i64 (j:Nat)))]) (λ_=>[]) (λj=>o[i].length-j) 0 [3,5,9] ?_ ?_ ?_
   .exact X4 _
   .exact pd
   .rintro j J;have w:=zdK j h;refine pw ?_;refine .i ?_ ?_<;>intro hc<;>first|refine pw ?_|exact pd
    .have hb:=L _ (Y1 h) _ (Y1 hc);refine callQ.mk zgX rfl ?_;refine pw ?_;refine .i ?_ ?_<;>intro O<;>first|refine pw ?_|exact pd
     .refine⟨j+1,hc,a8,?_,rfl⟩;rw[YF h hc,jQ,vD a8];simp[yN]
     .refine⟨j+1,hc,a8,?_,rfl⟩;rw[YF h hc,jQ,Vq a8];simp[yN]
    .refine⟨i+1,h,a8,?_,rfl⟩;rw[zbv h hc]
  ·rw [zdJ h];generalize E:yU o=xs at H⊢;have C:zH o=srt xs:=(by rw[<-E];rfl);rw[C];refine pLoop.mk (λk=>k<=xs.length) (λk=>⟨[(3,.sl (xs.map yN) (.r 9 1)),(6,.sl ((srt (xs.take k)).map yN) (.r 108 1)),(7,.v (.int .i64 (k:Nat)))],[]⟩) (λk=>xs.length-k) 0 ?_ ?_ ?_
   .exact X4 _
   .rw[wZ,XB];exact pd
   .rintro k hk;have w:=ju (xs.take k);have B:(xs.take k).length<=k:=uK _ _;refine pw ?_;refine .i ?_ ?_<;>intro u<;>first|refine pw ?_|exact pd
    .refine pLoop.go (λa=>a<=(srt (xs.take k)).length/\∀m (h:m<(srt (xs.take k)).length),a<=m->xs[k]<(srt (xs.take k))[m]) (λa=>[(8,.v (.int .i64 (a:Nat)))]) (λ_=>[]) (λa=>a) (srt (xs.take k)).length [8] ?_ ?_ ?_
     .exact⟨Zp _,λm F G=>absurd F a8⟩
     .exact pd
     .rintro at_ ⟨ha,hb⟩;refine pw ?_;refine .i ?_ ?_<;>intro M<;>first|refine pw ?_|exact pd
      .refine .i ?_ ?_<;>intro I<;>first|refine pw ?_|exact pd
       .refine⟨at_-1,⟨a8,λm K A=>?_⟩,a8,rfl⟩;rcases uC A with y|y
        .subst y;exact I
        .exact hb m K a8
       .refine .i ?_ ?_<;>intro A<;>first|refine pw ?_|exact pd
        .exact absurd A a8
        .refine .i ?_ ?_<;>intro y<;>first|refine pw ?_|exact pd
         .refine cutP.mk [3,7] ?_ (keepOk.mk2 rfl rfl ?_ ?_ ?_) ?_
          .exact pd
          .exact pd
          .exact pd
          .right;exact pd
          .refine pw ?_;refine⟨k+1,u,a8,?_,rfl⟩;rw[vj u,kJ ha hb (.inr ⟨a8,a8⟩)];simp[yN]
         .refine⟨k+1,u,a8,?_,rfl⟩;rw[vj u,zaw (by rw[<-y];exact Y1 _)]
      .obtain rfl:at_=0:=a8;have hz:=kJ ha hb (.inl rfl);rw[<-vj u]at hz;refine pw ?_;refine cutP.mk [3,7] ?_ (keepOk.mk2 rfl rfl ?_ ?_ ?_) ?_
       .exact pd
       .exact pd
       .exact pd
       .right;exact pd
       .refine pw ?_;refine⟨k+1,u,a8,?_,rfl⟩;rw[hz];simp[yN]
    .rw[wm u]
def Kl{ls:List (List Iv)}:(zH ls).length<=(yU ls).length:=ju _
def zjo(a b:List Iv):(yU [a,b]).length<=1+2*a.length+2*b.length:=by have:=vq a;have:=vq b;simp[yU];omega
def zhw(a b:List Iv)(op:Nat)(ha:Nrm a)(hb:Nrm b)(ho:op<3)(I:a.length<=131072)(J:b.length<=131072):Cn xT 133 [rg a,rg b,.v (.int .i64 op)] (rg (qy (Qj op) a b)):=by
 have K:=zw;have B:=zjo a b;have E:=Kl (ls:=[a,b]);have hcut:∀c,c∈z6 a\/c∈z6 b->c∈zH [a,b]:=λc hc=>qr.2 (by simp[yU];exact .inr hc);have j:∀x∈zH [a,b],x<zk:=Ze (by simp;exact⟨λs hs=>(ha.lt s hs).1,λs hs=>(hb.lt s hs).1⟩);refine zt func133 3 ?_;refine pw ?_;refine callO.rd (VX [a,b] b6 a9 a8 (by simp;exact⟨ha.lt,hb.lt⟩)) rfl ?_;refine pw ?_;refine pLoop.go (λp:Nat×List Iv=>p.1<=(zH [a,b]).length/\DoInv (Qj op) a b (zH [a,b]) p.1 p.2) (λp=>[(8,.sl (p.2.map Q2) (.r 38 2)),(9,.v (.int .i64 (p.1:Nat)))]) (λ_=>[]) (λp=>(zH [a,b]).length-p.1) (0,[]) [8,9] ?_ ?_ ?_
 .exact⟨X4 _,DoInv.zero _⟩
 .exact pd
 .rintro⟨i,u⟩ ⟨hi,o⟩;simp only at hi o;have C:=o.len;refine pw ?_;refine .i ?_ ?_<;>intro h<;>first|refine pw ?_|exact pd
  .refine callQ.mk (kU a _ a8) rfl ?_;refine pw ?_;refine callQ.mk (kU b _ a8) rfl ?_;refine pw ?_;refine callQ.mk (zi5 _ _ op ho) rfl ?_;obtain⟨F,G⟩:=o.step ha hb (x8 _) j hcut h;refine pw ?_;refine .i ?_ ?_<;>intro A<;>first|refine pw ?_|exact pd
   .refine callP.mk (zan _ i h a8 λy=>?_) rfl ?_
    .have:=jJ (x8 [a,b]) y (Uy i);have:=j _ (Y1 y);omega
    have H:=F A;have w:=j _ (Y1 h);refine pw ?_;refine callO.mk (zlq u ⟨(zH [a,b])[i],if h:i+1<(zH [a,b]).length then (zH [a,b])[i+1]-1 else zk-1⟩ w (λt ht=>?_) a8) rfl ?_
    .have e:KD (zH [a,b]) i=(zH [a,b])[i]:=uj h;have:=o.lt t ht;have:=o.nrm.lt t ht;show _/\t.hi<(zH [a,b])[i];omega
    refine pw ?_;exact⟨(i+1,_),⟨h,H⟩,a8,rfl,rfl⟩
   .exact⟨(i+1,u),⟨h,G A⟩,a8,rfl,rfl⟩
  .obtain rfl:i=(zH [a,b]).length:=a8;rw[o.done ha hb]
def znf:Qj 0=zn:=rfl
def Kf(a b:List Iv)(ha:Nrm a)(hb:Nrm b)(j:a.length<=131072)(o:b.length<=131072):Cn xT 137 [rg a,rg b] (rg (qy zn a b)):=by refine zt func137 2 ?_;refine pw ?_;refine callP.mk (zhw a b 0 ha hb a8 j o) rfl ?_;refine pw ?_;rfl
def zq2(a b:List Iv)(ha:Nrm a)(hb:Nrm b)(j:a.length<=131072)(o:b.length<=131072):Cn xT 99 [rg a,rg b] (rg (qy fMeet a b)):=by refine zt func99 2 ?_;refine pw ?_;refine callP.mk (zhw a b 1 ha hb a8 j o) rfl ?_;refine pw ?_;rfl
def QE(a b:List Iv)(ha:Nrm a)(hb:Nrm b)(j:a.length<=131072)(o:b.length<=131072):Cn xT 163 [rg a,rg b] (rg (qy zm a b)):=by refine zt func163 2 ?_;refine pw ?_;refine callP.mk (zhw a b 2 ha hb a8 j o) rfl ?_;refine pw ?_;rfl
def zd6(s:Iv):Cn xT 48 [Je s] (.v (.bool (decide (s.lo<=s.hi)))):=by refine zt func48 1 ?_;exact pd
def y7(l:List Iv)(k:Nat):Option Iv:=if k=0 then none else l[k-1]?
def XO(l:List Iv)(A:l.length<=9223372036854775807)(hb:∀s∈l,s.lo<zk/\s.hi<zk):Cn xT 21 [rg l] (.tup [.v (.int .i64 (Zl l).1),.v (.int .i64 (Zl l).2)]):=by
 refine zt func21 1 ?_;refine pw ?_;refine pLoop.go (λk=>k<=l.length/\Zl l=QZ (y7 l k) (l.drop k) k) (λk=>[(4,.v (.int .i64 (k:Nat)))]) (λ_=>[]) (λk=>l.length-k) 0 [4] ?_ ?_ ?_
 .exact⟨X4 _,rfl⟩
 .exact pd
 .rintro k ⟨hk,j⟩;refine pw ?_;refine .i ?_ ?_<;>intro h<;>first|refine pw ?_|exact pd
  .refine callP.mk (zd6 l[k]) rfl ?_;rw[Yj h]at j;refine pw ?_;refine .i ?_ ?_<;>intro w<;>first|refine pw ?_|exact pd
   .rw[Vq a8]at j;rw[j];rfl
   .rw[vD w]at j;have hs:y7 l (k+1)=some l[k]:=(by unfold y7;rw[Vq a8];exact Zv h);refine .i ?_ ?_<;>intro y<;>first|refine pw ?_|exact pd
    .have o:y7 l k=some l[k-1]:=(by unfold y7;rw[Vq a8,Zv]);rw[o]at j;refine callQ.mk (zd3 l[k-1] l[k] (hb _ (Y1 _)).1 (hb _ (Y1 _)).1) rfl ?_;refine pw ?_;refine .i ?_ ?_<;>intro u<;>first|refine pw ?_|exact pd
     .rw[Vq (dJ u)]at j;rw[j];rfl
     .rw[vD (dJ u)]at j;exact⟨k+1,⟨h,by rw[hs];exact j⟩,a8,rfl⟩
    .have o:y7 l k=none:=(by unfold y7;rw[vD a8]);rw[o]at j;exact⟨k+1,⟨h,by rw[hs];exact j⟩,a8,rfl⟩
  .rw[wE h]at j;rw[j];rfl
def zpM(l:List Iv):Bool:=decide ((Zl l).1=0)
def zpN{l:List Iv}(h:∀s∈l,s.hi<zk):zpM l=true↔Nrm l:=by rw[<-YT h];unfold zpM;simp
def zqs(l:List Iv)(j:l.length<=1152921504606846976)(hb:∀s∈l,s.lo<zk/\s.hi<zk):Cn xT 7 [rg l] (.v (.bool (zpM l))):=by refine zt func7 1 ?_;refine pw ?_;refine callP.mk (XO l a8 hb) rfl ?_;refine pw ?_;rfl
def n23:Nrm [⟨2,3⟩,⟨9,9⟩]:=by simp[Nrm,NF,zw]
def n01:Nrm [⟨0,1⟩,⟨4,8⟩]:=by simp[Nrm,NF,zw]
def n09:Nrm [⟨0,9⟩]:=by simp[Nrm,NF,zw]
def e1:qy zm [⟨0,9⟩] [⟨2,3⟩,⟨9,9⟩]=[⟨0,1⟩,⟨4,8⟩]:=vK n09 n23 n01 λx _=>by rw[Wz];simp[mem,zm];omega
def e2:qy zn [⟨2,3⟩,⟨9,9⟩] [⟨0,1⟩,⟨4,8⟩]=[⟨0,9⟩]:=vK n23 n01 n09 λx _=>by rw[Wz];simp[mem,zn];omega
def e4:qy zm [⟨2,3⟩,⟨9,9⟩] [⟨0,1⟩,⟨4,8⟩]=[⟨2,3⟩,⟨9,9⟩]:=vK n23 n01 n23 λx _=>by rw[Wz];simp[mem,zm];omega
def e5:qy fMeet [⟨2,3⟩,⟨9,9⟩] [⟨0,1⟩,⟨4,8⟩]=[]:=vK n23 n01 trivial λx _=>by rw[Wz];simp[mem,fMeet];omega
def e6:qy zm [⟨2,3⟩,⟨9,9⟩] [⟨0,1⟩,⟨4,8⟩]=[⟨2,3⟩,⟨9,9⟩]:=vK n23 n01 n23 λx _=>by rw[Wz];simp[mem,zm];omega
def BdR(l:List Iv):Prop:=∀s∈l,s.lo<zk/\s.hi<zk
def ec(e:En):List PV:=[.v (.int .u64 e.rep),.v (.int .u64 e.max),rg e.holes]
def ep(e:En):PV:=.agg (ec e)
attribute [go_sem] ep ec
def hk(m:Nat):List Iv->Nat->Nat×Int
 |[],_=>(0,-1)
 |s::r,i=>if m<s.hi then (4,(i:Int)) else hk m r (i+1)
def yV(e:En):Nat×Int:=if (Zl e.holes).1=0 then hk e.max e.holes 0 else Zl e.holes
def K4(m:Nat):∀(l:List Iv)(i:Nat),(hk m l i).1=0↔∀s∈l,s.hi<=m
 |[],i=>by simp[hk]
 | s::r,i=>by
   have:=K4 m r (i+1);unfold hk;split
   .simp;omega
   .rw[this];simp;omega
def K3{m:Nat}{l:List Iv}{k:Nat}(h:k<l.length):hk m (l.drop k) k=if m<l[k].hi then (4,(k:Int)) else hk m (l.drop (k+1)) (k+1):=by rw[VS h];rfl
def Xu(e:En):Bool:=decide ((yV e).1=0)
def VU{e:En}(h:∀s∈e.holes,s.lo<zk/\s.hi<zk)(u:e.max<zk)(w:e.rep<zk):Xu e=true↔zO e:=by
 have o:=YT (l:=e.holes) λs hs=>(h s hs).2;have hz:=K4 e.max e.holes 0;unfold Xu yV zO;rw[wG];by_cases j:(Zl e.holes).1=0
 .rw[vD j,hz];exact⟨λg=>⟨o.1 j,g,u,w⟩,λg=>g.2.1⟩
 .rw[Vq j];exact⟨λg=>absurd g j,λg=>absurd (o.2 g.1) j⟩
def Vl(e:En)(h:zO e)(j:e.holes.length<=131072):Cn xT 166 [ep e] (rg (kn e)):=by refine zt func166 1 ?_;refine pw ?_;refine .c (QE [⟨0,e.max⟩] e.holes (qG (X4 _) h.2.2.1) h.1 b6 j) ?_;rfl
def zg1(r:Nat)(l:List Iv)(j:Nrm l)(o:l.length<=131072):Cn xT 132 [.v (.int .u64 r),rg l] (.tup [ep (Qi r l).1,.v (.bool (Qi r l).2)]):=by
 refine zt func132 2 ?_;refine pw ?_;refine .i ?_ ?_<;>intro h<;>first|refine pw ?_|exact pd
 .subst h;rfl
 .have w:0<l.length:=wV.2 (dJ h);have ht:=Kr w;have u:=(x9 j (dJ h)).2;try simp (maxSteps:=2000000) (disch:=omega) only[go_sem,seval,ht]
  repeat ((with_reducible refine And.intro ?_ ?_);focus exact yI)
  refine .c (QE [⟨0,QV l⟩] l (qG (X4 _) u) j b6 o) ?_;rw[qD (dJ h)]
def zgE(x:Nat)(o:x<zk):Cn xT 176 [.v (.int .u64 x)] (.tup [.v (.int .u64 (x-1:Nat)),.v (.bool (decide (x≠0)))]):=by
 have j:=zw;refine zt func176 1 ?_;refine pw ?_;refine .i ?_ ?_<;>intro h<;>first|refine pw ?_|exact pd
 .subst h;rfl
 .simp[h]
def zeq(x:Nat):Cn xT 153 [.v (.int .u64 x)] (Je ⟨0,x⟩):=by
 refine zt func153 1 ?_
 (first|refine pw ?_|exact pd)
 try rfl
def XZ(e:En)(h:zO e)(j:e.holes.length<=131072):Cn xT 180 [ep e] (rg (kn e)):=by refine zt func180 1 ?_;refine pw ?_;refine .c (zeq e.max) ?_;refine .c (zg0 e.holes ⟨0,e.max⟩ h.1 (X4 _) h.2.2.1 a8) ?_;rfl
def zjT(r:Nat)(l:List Iv)(j:Nrm l)(w:l.length<=131072):Cn xT 113 [.v (.int .u64 r),rg l] (.tup [ep (Qi r l).1,.v (.bool (Qi r l).2)]):=by
 refine zt func113 2 ?_;refine pw ?_;refine .i ?_ ?_<;>intro h<;>first|refine pw ?_|exact pd
 .subst h;rfl
 .have u:0<l.length:=wV.2 (dJ h);have ht:=Kr u;have o:=(x9 j (dJ h)).2;try simp (maxSteps:=2000000) (disch:=omega) only[go_sem,seval,ht]
  repeat ((with_reducible refine And.intro ?_ ?_);focus exact yI)
  refine .c (zeq (QV l)) ?_;refine .c (zg0 l ⟨0,QV l⟩ j (X4 _) o a8) ?_;rw[qD (dJ h)]
section
variable (a b:En)(ha:zO a)(hb:zO b)(la:a.holes.length<=10000)(lb:b.holes.length<=10000)
include ha hb la lb
end
def JQ{l:List Iv}(h:0<l.length):l=l.take (l.length-1)++[l[l.length-1]]:=by
 conv=>lhs;rw[<-Wb (l.length-1) l]
 congr 1;rw[VS a8,wE a8]
def zeP(e:En)(h:zO e)(H:e.holes.length<=10000):Cn xT 175 [ep e] (.tup [ep (kP e).1,.v (.bool (kP e).2)]):=by
 have G:=zw;refine zt func175 1 ?_;refine pw ?_;refine pLoop.go (λf:En=>zO f/\f.rep=e.rep/\kn f=kn e/\f.holes.length<=e.holes.length) (λ_=>[]) (λf=>[ec f,[.v (.int .u64 0),.v (.int .u64 0),.sl [] .sh]]) (λf=>f.holes.length) e [] ?_ ?_ ?_
 .exact⟨h,rfl,rfl,Zp _⟩
 .exact pd
 .rintro f ⟨j,w,o,F⟩;have hc:YP f->Qi e.rep (kn e)=(f,true):=λhc=>(by rw[<-w,<-o];exact ZM hc);unfold kP;refine pw ?_;refine .i ?_ ?_<;>intro A<;>first|refine pw ?_|exact pd
  .have hs:=JQ A;have hb:=NF.lo_ge j.1 _ (Y1 (show f.holes.length-1<f.holes.length by omega));have B:=j.2.2.1;refine pw ?_;refine .i ?_ ?_<;>intro u<;>first|refine pw ?_|exact pd
   .rw[hc (zcc j hs u)]
   .refine .c (zgE (f.holes[f.holes.length-1]).lo a8) ?_;refine .i ?_ ?_<;>intro y<;>first|refine pw ?_|exact pd
    .rw[<-o,Jl j hs u (dJ y)];rfl
    .obtain⟨C,E⟩:=Jm j hs u (by first|omega|(simp at y;omega));refine⟨⟨f.rep,f.holes[f.holes.length-1].lo-1,f.holes.take (f.holes.length-1)⟩,⟨C,w,E.trans o,a9⟩,a9,?_⟩;exact pd
  .rw[hc (Xb j (wH a8))]
def zi9{n:Int}(h : -9223372036854775808<=n/\n<9223372036854775808):IntKind.i64.wrap n=n:=by simp only[IntKind.wrap,IntKind.bits,IntKind.signed];simp;omega
def KV(p:Nat->Prop)[DecidablePred p]:∀n,(∀i j,i<=j->j<n->p j->p i)->∃i,i<=n/\(∀j,j<i->p j)/\∀j,i<=j->j<n->¬p j
 |0,_=>⟨0,Zp _,λj h=>absurd h a8,λj w o=>absurd o a8⟩
 | n+1,h=>by
   by_cases A:p n
   .exact⟨n+1,Zp _,λj E=>h j n a8 a8 A,λj w o=>absurd o a8⟩
   .obtain⟨i,w,o,B⟩:=KV p n λi j u E=>h i j u a8;refine⟨i,a8,o,λj C F=>?_⟩;rcases wJ j n with y|y
    .exact B j C y
    .obtain rfl:j=n:=a8;exact A
attribute [go_sem] zi9
def zhn(l:List Iv)(x:Nat)(g:FuncId)(c:Nat->Int)(i:Nat)(hi:i<=l.length)(G:∀j,j<i->c j<0)(H:∀j,i<=j->j<l.length->0<=c j)(I:l.length<=1152921504606846976)
 (w:∀k (h:k<l.length),Cn xT g [Je l[k],.v (.int .u64 x)] (.v (.int .i64 (c k)))):Cn xT 118 [rg l,.v (.int .u64 x),.fn (.func g) [] []] (.tup [.v (.int .i64 i),.v (.bool (decide (i<l.length) && decide (c i=0)))]):=by
 refine zt func118 3 ?_;refine pw ?_;refine pLoop.go (λp:Nat×Nat=>p.1<=i/\i<=p.2/\p.2<=l.length) (λp=>[(9,.v (.int .i64 (p.1:Nat))),(10,.v (.int .i64 (p.2:Nat)))]) (λ_=>[]) (λp=>p.2-p.1) (0,l.length) [9,10] ?_ ?_ ?_
 .exact⟨X4 _,hi,Zp _⟩
 .exact pd
 .rintro⟨p,q⟩ ⟨C,E,F⟩;simp only at C E F;refine pw ?_;refine .i ?_ ?_<;>intro h<;>first|refine pw ?_|exact pd
  .have B:(p+q)/2<l.length:=a8;refine pw ?_
   (first|refine .c (w ((p+q)/2) B) ?_|refine .o (w ((p+q)/2) B) ?_)
   refine .i ?_ ?_<;>intro u<;>first|refine pw ?_|exact pd
   .refine⟨((p+q)/2+1,q),⟨?_,E,F⟩,by simp only;omega,rfl,rfl⟩;simp only;refine Uz λA=>?_;have:=H _ A B;omega
   .refine⟨(p,(p+q)/2),⟨C,?_,by simp only;omega⟩,by simp only;omega,rfl,rfl⟩;simp only;refine ul λA=>?_;have:=G _ A;omega
  .obtain rfl:p=i:=a8;obtain rfl:q=p:=a8;refine .i ?_ ?_<;>intro u<;>first|refine pw ?_|exact pd
   ·(first|refine .c (w q u) ?_|refine .o (w q u) ?_)
    simp[u]
   .have y:¬q<l.length:=a8;simp[y]
def zd5(s:Iv)(x:Nat):Cn xT 119 [Je s,.v (.int .u64 x)] (.v (.int .i64 (if s.hi<x then -1 else if x<s.lo then 1 else 0))):=by
 refine zt func119 2 ?_;refine pw ?_;refine .i ?_ ?_<;>intro j<;>first|refine pw ?_|exact pd
 .rw[vD j]
 .rw[Vq a8];refine .i ?_ ?_<;>intro o<;>first|refine pw ?_|exact pd
  .rw[vD o]
  .rw[Vq a8]
def zdE{l:List Iv}(B:Nrm l)(x:Nat):∃i,i<=l.length/\(∀j,(h:j<l.length)->j<i->l[j].hi<x)/\(∀j,(h:j<l.length)->i<=j->x<=l[j].hi)/\(mem l x=true↔∃h:i<l.length,l[i].lo<=x):=by
 have mono:∀{n:Nat}{l:List Iv},NF n l->∀i j,(o:i<j)->(u:j<l.length)->l[i].hi<l[j].lo:=by
  intro n l;induction l generalizing n with
  |nil=>intro _ i j _ u;simp at u
  | cons s l ih=>
    intro h i j o u;obtain⟨C,rfl⟩:∃C,j=C+1:=⟨j-1,a8⟩;cases i with
    |zero=>have:=NF.lo_ge h.2.2.2 (l[C]'(dJ u)) (Y1 _);simp only[ux,WN];omega
    |succ i=>exact ih h.2.2.2 i C a8 (dJ u)
 obtain⟨i,H,F,I⟩:=KV (λj=>∃h:j<l.length,l[j].hi<x) l.length λa b hab hb ⟨A,G⟩=>by
  refine⟨a8,?_⟩;rcases uB hab with w|w
  .have:=mono B a b w hb;have:=NF.lo_ge B l[b] (Y1 _);omega
  .subst w;exact G
 have y:∀j,(h:j<l.length)->i<=j->x<=l[j].hi:=λj u o=>by have:=I j o u;exact ul λh=>this ⟨u,h⟩
 refine⟨i,H,λj u E=>(F j E).2,y,?_⟩;rw[qf];constructor
 .rintro⟨s,hs,A,G⟩;obtain⟨j,u,rfl⟩:=Wj hs;have o:i<=j:=ul λh=>(by have:=(F j h).2;omega);refine⟨a8,?_⟩;rcases uB o with w|w
  .have:=mono B i j w u;have:=NF.lo_ge B (l[i]'a8) (Y1 _);omega
  .subst w;exact A
 .rintro⟨h,A⟩;exact⟨l[i],Y1 _,A,y i h (Zp _)⟩
def zaT(x:Nat)(s:Iv):Int:=if s.hi<x then -1 else if x<s.lo then 1 else 0
def ziQ(l:List Iv)(x:Nat)(H:Nrm l)(I:l.length<=1152921504606846976):Cn xT 45 [rg l,.v (.int .u64 x)] (.v (.bool (mem l x))):=by
 obtain⟨i,E,F,B,G⟩:=zdE H x;have hF:Cn xT 85 [rg l,.v (.int .u64 x)] (.v (.int .i64 (if mem l x then (i:Int) else -1))):=by
  refine zt func85 2 ?_;refine pw ?_;refine .c (zhn l x 119 (λk=>if h:k<l.length then zaT x l[k] else 0) i E (λj A=>by rw[uj (show j<l.length by omega)];unfold zaT;rw[vD (F j a8 A)];decide) (λj A y=>by rw[uj y];unfold zaT;rw[Vq (by have:=B j y A;omega)];split<;>decide) I (λk h=>by rw[uj h];exact zd5 l[k] x)) ?_;have e:(decide (i<l.length) && decide ((if h:i<l.length then zaT x l[i] else 0)=0))=mem l x:=by
   rw[Wz,G];simp only[V0,wG];constructor
   .rintro⟨w,u⟩;refine⟨w,?_⟩;rw[uj w]at u;unfold zaT at u;split at u
    .cases u
    .split at u
     .cases u
     .omega
   .rintro⟨w,u⟩;refine⟨w,?_⟩;rw[uj w];unfold zaT;rw[Vq (by have:=B i w (Zp _);omega),Vq a8]
  rw[e];refine .i ?_ ?_<;>intro C<;>first|refine pw ?_|exact pd
  .rw[C];rfl
  .rw[C];rfl
 refine zt func45 2 ?_;refine pw ?_
 (first|refine .c (hF) ?_|refine .o (hF) ?_)
 cases mem l x<;>simp
def zoS(e:En)(c:Nat)(h:zO e)(u:e.holes.length<=1152921504606846976):Cn xT 122 [ep e,.v (.int .u64 c)] (.v (.bool (decide (c<=e.max) && !mem e.holes c))):=by
 refine zt func122 2 ?_;refine pw ?_;refine .i ?_ ?_<;>intro o<;>first|refine pw ?_|exact pd
 .refine .c (ziQ e.holes c h.1 u) ?_;simp[o]
 .have j:¬c<=e.max:=a8;simp[j]
def vp(v:List En):PV:=.sl (v.map ec) .sh
attribute [go_sem] vp
def ZL(e:En):Prop:=(∀s∈e.holes,s.lo<zk/\s.hi<zk)/\e.max<zk/\e.rep<zk
def ea:En:=⟨1,2,[]⟩
def eb:En:=⟨1,5,[⟨3,4⟩]⟩
def ed:En:=⟨1,5,[]⟩
section
variable (a b:En)(ha:ZL a)(hb:ZL b)
include ha hb
end
end
section
open Go.ChangeShapes Go.WideShapes Go.ChangeAt Go.RowKit Go.Deep
section
variable {H:Type}{enc:TypeId×Value->H}{w:World}{base:Nat}{spare:Nat->Bool}{held:Bool}
end
end
section
open Go.RowKit
def ze4{D:Qk}{w:World}{x:Value}{v:List En}(h:Dat D w x (vp v))(F:∀b o,D b o->b<w.heap.size)(hb:∀e∈v,ZL e):RdV w.heap.size w x v:=by
 unfold vp at h;generalize G:v.map ec=es at h;cases h with
 |sl a cap sz es o b off u hc hz hm ha hsz hd hx=>have H:es.length=v.length:=(by rw[<-G];simp);refine⟨a,cap,by rw[H],a8,hm,λB=>?_⟩;have y:0<v.length:=wV.2 B;have g:∀i (h:i<v.length),es[i]?=some (ec v[i]):=λi h=>(by rw[<-G];exact xo h);obtain rfl:3=sz:=hsz 0 _ (g 0 y);have A:es≠[]:=(by intro e;subst e;simp at H;omega);have j:b<w.heap.size:=F _ _ (hd 0 a8).1;refine⟨b,off,ha A,X4 _,j,λi hi=>?_⟩;have K:=(hx i _ 0 _ (g i hi) rfl).v_inv;have e1:=(hx i _ 1 _ (g i hi) rfl).v_inv;have e2:=hx i _ 2 _ (g i hi) rfl;have C:=(hd (i*3+0) a8).2.1;have E:=(hd (i*3+1) a8).2.1;have J:=(hd (i*3+2) a8).2.1;rw[K]at C;rw[e1]at E;obtain⟨b1,b2,I⟩:=hb _ (Y1 hi);exact⟨C,E,⟨_,J,je e2 F b1⟩,I,b2⟩
def ns(l:List Nat):PV:=.sl (l.map yN) .sh
attribute [go_sem] ns
def vL{D:Qk}{base:Nat}{w:World}{v:Value}{l:List Nat}(h:OwnN base w v l)(G:∀b o,base<=b->b<w.heap.size->D b o):Dat D w v (ns l):=by
 unfold ns;have u:(l.map yN).length=l.length:=b6
 rcases id h.2 with⟨rfl,F⟩|⟨g,A,E,rfl,H,I,J,hc,_⟩
 .obtain rfl:l=[]:=wW.1 F;exact .sl none 0 1 [] .sh 0 0 (λ_=>undef) b6 (λh=>by cases h) c8 (λh=>absurd rfl h) (λi e h=>by simp at h) (λj h=>by simp at h) (λi e j p h=>by simp at h)
 .rw[<-u];refine .sl _ A 1 _ .sh g 0 (λj=>.int .u64 (l.getD j 0:Nat)) (dJ J) (λh=>by cases h) hc (λ_=>rfl) (λi e h=>?_) (λj C=>?_) (λi e j p B y=>?_)
  .simp only[wk,ZZ]at h;obtain⟨s,_,rfl⟩:=h;rfl
  .simp only[ww,Uj]at C;refine⟨G _ _ H (XV.1 I).1,?_,rfl⟩;rw[wn,h.cellAt _ (dJ C)];simp[C]
  .have hi:i<l.length:=(by have:=(Zw.1 B).1;simpa using this);rw[xo hi]at B;cases B;match j,y with
   |0,y=>cases y;simp[hi];exact .v _
   |j+1,y=>simp[yN]at y
def KB{j:Array Value}(h:j.size=1):j=#[j.getD 0 undef]:=by
 obtain⟨l⟩:=j;match l,h with
 |[x],_=>rfl
def Yz(v:List En)(hb:∀e∈v,ZL e)(F:(zv v).length<=1073741824):Cn xT 197 [vp v] (ns (zv v)):=by refine Js rfl (enters_of func197 dK rfl) λD w H C y E=>?_;rw[KB y];refine(Q4 v _ w (ze4 (E 0 _ rfl) C hb) F).mono ?_;rintro e I ⟨u,rfl,G,j⟩;exact⟨u,rfl,j,vL G λb o A B=>.inr ⟨A,B⟩⟩
def jS(c:Nat)(k:Int):PV:=if c=0 then .v .nilIface else .ifc 115 (.agg [.v (.int .i64 c),.v (.int .i64 k)])
def Z2(c:Nat):PV:=.ifc 66 (.v (.int .i64 c))
def ym(c:Nat)(k:Int):SubP 0 (jS c k) (jS c k):=.eq _ (by unfold jS;split<;>rfl)
def jT(c:Nat)(k:Int):Cn xT 79 [.v (.int .i64 c),.v (.int .i64 k)] (jS c k):=by
 refine zt func79 2 ?_;refine pw ?_;unfold jS;refine .i ?_ ?_<;>intro h<;>first|refine pw ?_|exact pd
 .rw[vD a8];exact pd
 .rw[Vq a8];exact pd
def v8(a b:Nat)(hb:b<zk):Cn xT 117 [.v (.int .u64 a),.v (.int .u64 b)] (.tup [.v (.int .u64 (b-a-1:Nat)),.v (.bool (decide (a<b)))]):=by
 have u:=zw;refine zt func117 2 ?_;refine pw ?_;refine .i ?_ ?_<;>intro h<;>first|refine pw ?_|exact pd
 .have j:¬a<b:=a8;have o:b-a-1=0:=a8;simp[j,o]
 .simp[h]
def zea(s:Iv):Cn xT 81 [Je s] (if s.lo<=s.hi then .v .nilIface else Z2 2):=by
 refine zt func81 1 ?_;refine pw ?_;refine .i ?_ ?_<;>intro h<;>first|refine pw ?_|exact pd
 .rw[Vq a8];unfold Z2;exact pd
 .rw[vD h];exact pd
def ziY(s t:Iv)(A:s.lo<=s.hi)(B:t.lo<=t.hi)(C:s.hi<zk)(E:t.hi<zk):Cn xT 82 [Je s,Je t] (.v (.int .i64 (relate s t:Nat))):=by
 have F:=zw;refine zt func82 2 ?_;refine pw ?_;refine .c (v8 s.hi t.lo a8) ?_;unfold relate;by_cases u:s.hi<t.lo
 .have j:¬t.hi<s.lo:=a8;by_cases w:s.hi+1=t.lo
  .have o:t.lo-s.hi-1=0:=a8;rw[vD u,vD w,o,uO u];refine pw ?_;refine .c (v8 t.hi s.lo a8) ?_;rw[WB j];exact pd
  .have o:0<t.lo-s.hi-1:=a8;rw[vD u,Vq w,uO u];refine pw ?_;refine .i ?_ ?_<;>intro y<;>first|refine pw ?_|exact pd
   .refine .c (v8 t.hi s.lo a8) ?_;rw[WB j];exact pd
   .exact absurd o a8
 .rw[Vq u,WB u];refine pw ?_;refine .c (v8 t.hi s.lo a8) ?_;by_cases j:t.hi<s.lo
  .by_cases w:t.hi+1=s.lo
   .have o:s.lo-t.hi-1=0:=a8;rw[vD j,vD w,o,uO j];exact pd
   .have o:0<s.lo-t.hi-1:=a8;rw[vD j,Vq w,uO j];refine pw ?_;refine .i ?_ ?_<;>intro y<;>first|refine pw ?_|exact pd
    exact absurd o a8
  .rw[Vq j,WB j];exact pd
def rcheck_c(l:List Iv)(hb:∀s∈l,s.lo<zk/\s.hi<zk)(L:l.length<=1152921504606846976)(w:(Zl l).1=0\/Cn xT 19 [Z2 2] (.v (.int .i64 2))):Cn xT 42 [rg l] (jS (Zl l).1 (Zl l).2):=by
 refine zt func42 1 ?_;refine pw ?_;refine pLoop.go (λk=>k<=l.length/\Zl l=QZ (y7 l k) (l.drop k) k/\∀j (h:j<l.length),j<k->l[j].lo<=l[j].hi) (λk=>[(8,.v (.int .i64 (k:Nat)))]) (λ_=>[]) (λk=>l.length-k) 0 [8] ?_ ?_ ?_
 .exact⟨X4 _,rfl,λj _ h=>absurd h a8⟩
 .exact pd
 .rintro k ⟨hk,u,H⟩;refine pw ?_;refine .i ?_ ?_<;>intro h<;>first|refine pw ?_|exact pd
  .rw[Yj h]at u;have B:=hb _ (Y1 h);refine .rd (zea l[k]) rfl ?_;by_cases A:l[k].lo<=l[k].hi
   .rw[vD A]at u⊢;have hs:y7 l (k+1)=some l[k]:=(by unfold y7;rw[Vq a8];exact Zv h);have y:∀j (G:j<l.length),j<k+1->l[j].lo<=l[j].hi:=λj G I=>by
     rcases wJ j k with F|F
     .exact H j G F
     .obtain rfl:j=k:=a8;exact A
    refine pw ?_;refine .i ?_ ?_<;>intro J<;>first|refine pw ?_|exact pd
    .have E:y7 l k=some l[k-1]:=(by unfold y7;rw[Vq a8,Zv]);rw[E]at u;have C:=hb _ (Y1 (show k-1<l.length by omega));refine .c (ziY l[k-1] l[k] (H (k-1) a8 a8) A C.2 B.2) ?_;refine .i ?_ ?_<;>intro K<;>first|refine pw ?_|exact pd
     .rw[Vq a8]at u;rw[u];refine .c (jT 3 (k:Nat)) ?_;exact ym _ _
     .rw[vD a8]at u;exact⟨k+1,⟨h,by rw[hs];exact u,y⟩,a8,rfl⟩
    .have E:y7 l k=none:=(by unfold y7;rw[vD a8]);rw[E]at u;exact⟨k+1,⟨h,by rw[hs];exact u,y⟩,a8,rfl⟩
   .rw[Vq A]at u⊢;unfold Z2 at w⊢;rcases w with w|w
    .rw[u]at w;cases w
    .refine pw ?_
     (first|refine .c (w) ?_|refine .o (w) ?_)
     rw[u];refine .c (jT 2 (k:Nat)) ?_;exact ym _ _
  .rw[wE h]at u;rw[u];exact .eq _ rfl
def zpJ(l:List Iv)(j:Nrm l)(o:l.length<=1152921504606846976):Cn xT 42 [rg l] (.v .nilIface):=by have hz:=(YT (l:=l) λs hs=>(j.lt s hs).2).2 j;have:=rcheck_c l j.lt o (.inl hz);unfold jS at this;rw[vD hz]at this;exact this
def zfH(u:Nat)(j:List PV)(o:Nat):JU u (.cp j o)=true:=rfl
attribute [go_sem] zfH
def za0(e:En)(hb:∀s∈e.holes,s.lo<zk/\s.hi<zk)(o:e.holes.length<=1152921504606846976)(j:(Zl e.holes).1=0\/Cn xT 19 [Z2 2] (.v (.int .i64 2))):Cn xT 155 [.cp (ec e) 0] (jS (Zl e.holes).1 (Zl e.holes).2):=by refine zt func155 1 ?_;refine pw ?_;refine .c (rcheck_c e.holes hb o j) ?_;exact ym _ _
def zaZ(e:En)(y:e.holes.length<=1152921504606846976):Cn xT 154 [.cp (ec e) 0] (jS (hk e.max e.holes 0).1 (hk e.max e.holes 0).2):=by
 refine zt func154 1 ?_;refine pw ?_;refine pLoop.go (λk=>k<=e.holes.length/\hk e.max e.holes 0=hk e.max (e.holes.drop k) k) (λk=>[(7,.v (.int .i64 (k:Nat)))]) (λ_=>[]) (λk=>e.holes.length-k) 0 [7] ?_ ?_ ?_
 .exact⟨X4 _,rfl⟩
 .exact pd
 .rintro k ⟨w,j⟩;refine pw ?_;refine .i ?_ ?_<;>intro o<;>first|refine pw ?_|exact pd
  .rw[K3 o]at j;refine .i ?_ ?_<;>intro u<;>first|refine pw ?_|exact pd
   .rw[j,vD u];refine .c (jT 4 (k:Nat)) ?_;exact ym _ _
   .rw[Vq a8]at j;exact⟨k+1,⟨o,j⟩,a8,rfl⟩
  .rw[wE o]at j;rw[j];exact .eq _ rfl
def yk{x:Nat×Int}(h:x.1=0):jS x.1 x.2=.v .nilIface:=vD h
def vu{x:Nat×Int}(h:x.1≠0):jS x.1 x.2=.ifc 115 (.agg [.v (.int .i64 x.1),.v (.int .i64 x.2)]):=Vq h
def zcJ(e:En)(hb:∀s∈e.holes,s.lo<zk/\s.hi<zk)(o:e.holes.length<=1152921504606846976)(y:(Zl e.holes).1=0\/Cn xT 19 [Z2 2] (.v (.int .i64 2))):Cn xT 115 [ep e] (jS (yV e).1 (yV e).2):=by
 refine zt func115 1 ?_;refine pw ?_;refine pLoop.go (λk=>k<=2/\(1<=k->(Zl e.holes).1=0)/\(2<=k->(yV e).1=0)) (λk=>[(12,.v (.int .i64 (k:Nat)))]) (λ_=>[]) (λk=>2-k) 0 [12] ?_ ?_ ?_
 .exact⟨a8,λh=>absurd h a8,λh=>absurd h a8⟩
 .exact pd
 .rintro k ⟨A,u,w⟩;obtain rfl|rfl|rfl:k=0\/k=1\/k=2:=a8
  .refine pw ?_;refine .rd (za0 e hb o y) rfl ?_;by_cases hz:(Zl e.holes).1=0
   .rw[yk hz];refine pw ?_;exact⟨1,⟨a8,λ_=>hz,λh=>absurd h a8⟩,a8,rfl⟩
   .have e1:yV e=Zl e.holes:=Vq hz;rw[e1,vu hz];exact pd
  .have hz:=u a8;have e1:yV e=hk e.max e.holes 0:=vD hz;refine pw ?_;refine .rd (zaZ e o) rfl ?_;by_cases j:(hk e.max e.holes 0).1=0
   .rw[yk j];refine pw ?_;exact⟨2,⟨a8,λ_=>hz,λ_=>by rw[e1];exact j⟩,a8,rfl⟩
   .rw[e1,vu j];exact pd
  .have hz:=w a8;rw[yk hz];exact pd
def znN(e:En)(c:Nat)(u:e.holes.length<=1152921504606846976):Cn xT 160 [ep e,.v (.int .u64 c)] (.v (.bool (decide (c<=e.max) && !mem e.holes c))):=by
 refine zt func160 2 ?_;refine pw ?_;refine .i ?_ ?_<;>intro o<;>first|refine pw ?_|exact pd
 .refine .c (kU e.holes c u) ?_;simp[o]
 .have j:¬c<=e.max:=a8;simp[j]
def Jg{e:En}(h:zO e):ZL e:=⟨h.1.lt,h.2.2.1,h.2.2.2⟩
section
variable (a b:En)(c:Nat)(ha:ZL a)(hb:ZL b)(hc:c<zk)
include ha hb hc
end
def HG(w:World):Prop:=w.cell? ⟨0,0,none⟩=some (.iface 190 (.agg #[.pointer (some ⟨1,41,none⟩)]))
def HG.of{D:Qk}{w:World}(h:GL D w):HG w:=(h _ rfl).2
def HG.pos{w:World}(h:HG w):0<w.heap.size:=tp w ⟨0,0,none⟩ h
def HG.alloc{w:World}(h:HG w)(o:Obj):HG (w.alloc o):=by unfold HG;rw[tq _ _ ⟨0,0,none⟩ h.pos];exact h
def KK{f:FuncId}{C:List PV}{r:PV}(H:r.own=none)(u:∀j w,(callFunc f j).run xT w=.ok (.enter f j) w)
 (h:∀(D:Qk)(w:World)(y:Array Value),HG w->(∀b o,D b o->b<w.heap.size)->y.size=C.length->(∀(i:Nat) p,C[i]?=some p->Dat D w (y.getD i undef) p) ->
   Calls xT f y w λe A=>∃v,e=.returned v/\Below w.heap.size w A/\Dat (λb o=>D b o\/(w.heap.size<=b/\b<A.heap.size)) A v r):Cn xT f C r:=by
 refine⟨u,λD w y G E B F=>(h D w y (.of G) E B F).mono ?_⟩;rintro e A ⟨v,rfl,hb,I⟩;exact⟨v,_,rfl,hb,λb o h=>.inl h,λb o h=>h.imp id UQ,λb o h=>h.elim (λh=>Vm (E b o h) hb.size) ub,I,zr H⟩
def zjw{j:Array Value}(h:j.size=1):j=#[j.getD 0 undef]:=by
 obtain⟨l⟩:=j;match l,h with
 |[x],_=>rfl
def zb4(c:Int)(w:World)(o:HG w):Calls xT 47 #[.iface 66 (.int .i64 c),.iface 108 (.pointer (some ⟨w.heap.size,0,none⟩))] (w.alloc (.cells #[.int .i64 0] 66))
 λev j=>ev=.returned (.bool true)/\Below w.heap.size w j/\j.cell? ⟨w.heap.size,0,none⟩=some (.int .i64 c):=by
 refine(As.as_NN c ⟨w.heap.size,0,none⟩ (.int .i64 0) _ (o.alloc _) b6 b6).mono ?_;rintro ev j ⟨rfl,rfl⟩;refine⟨rfl,?_,?_⟩
 .refine tW (((((((tr _ w).alloc ?_ _).alloc ?_ _).alloc ?_ _).alloc ?_ _).alloc ?_ _)) ?_ _<;>simp<;>omega
 .refine tU _ _ _ (u:=.int .i64 0) ?_;rw[tq _ _ ⟨w.heap.size,0,none⟩ a9,tq _ _ ⟨w.heap.size,0,none⟩ a9,tq _ _ ⟨w.heap.size,0,none⟩ a9,tq _ _ ⟨w.heap.size,0,none⟩ b6];simp
def zb3(c k:Int)(w:World)(o:HG w):Calls xT 47 #[.iface 115 (.agg #[.int .i64 c,.int .i64 k]),.iface 108 (.pointer (some ⟨w.heap.size,0,none⟩))] (w.alloc (.cells #[.int .i64 0] 66))
 λev j=>ev=.returned (.bool true)/\Below w.heap.size w j/\j.cell? ⟨w.heap.size,0,none⟩=some (.int .i64 c):=by
 refine(As.as_FN c k ⟨w.heap.size,0,none⟩ (.int .i64 0) _ (o.alloc _) b6 b6).mono ?_;rintro ev j ⟨rfl,rfl⟩;refine⟨rfl,?_,?_⟩
 .refine tW ((((((((tr _ w).alloc ?_ _).alloc ?_ _).alloc ?_ _).alloc ?_ _).alloc ?_ _).alloc ?_ _)) ?_ _<;>simp<;>omega
 .refine tU _ _ _ (u:=.int .i64 0) ?_;rw[tq _ _ ⟨w.heap.size,0,none⟩ a9,tq _ _ ⟨w.heap.size,0,none⟩ a9,tq _ _ ⟨w.heap.size,0,none⟩ a9,tq _ _ ⟨w.heap.size,0,none⟩ a9,tq _ _ ⟨w.heap.size,0,none⟩ b6];simp
def zcs(w:World):Calls xT 19 #[.nilIface] w λe j=>e=.returned (.int .i64 0)/\Below w.heap.size w j:=by
 go_enter func19,ntmps19
 go_wp2;go_ret;exact⟨rfl,(tr _ w).alloc (Zp _) _⟩
def zhu(c:Int)(w:World)(j:HG w):Calls xT 19 #[.iface 66 (.int .i64 c)] w λe o=>e=.returned (.int .i64 c)/\Below w.heap.size w o:=by
 go_enter func19,ntmps19
 go_wp2_with (go_at_call 47;refine(zb4 c w j).mono ?_;rintro e u ⟨rfl,hb,hc⟩)
 go_ret;exact⟨rfl,hb⟩
def zht(c k:Int)(w:World)(j:HG w):Calls xT 19 #[.iface 115 (.agg #[.int .i64 c,.int .i64 k])] w λe o=>e=.returned (.int .i64 c)/\Below w.heap.size w o:=by
 go_enter func19,ntmps19
 go_wp2_with (go_at_call 47;refine(zb3 c k w j).mono ?_;rintro e u ⟨rfl,hb,hc⟩)
 go_ret;exact⟨rfl,hb⟩
def z2:Obj:=.cells #[.int .i64 0,.int .i64 0] 115
def zaW{D:Qk}{w:World}{v:Value}{c:Int}{t:TypeId}(h:Dat D w v (.ifc t (.v (.int .i64 c)))):v=.iface t (.int .i64 c):=by
 cases h with
 |ifc t x p h=>rw[h.v_inv]
def zaX{D:Qk}{w:World}{v:Value}{c k:Int}{t:TypeId}(h:Dat D w v (.ifc t (.agg [.v (.int .i64 c),.v (.int .i64 k)]))):v=.iface t (.agg #[.int .i64 c,.int .i64 k]):=by
 cases h with
 | ifc t x p h=>
   generalize hc:[PV.v (.int .i64 c),PV.v (.int .i64 k)]=cs at h;cases h with
   | agg us cs hs _ h=>
     subst hc;obtain⟨l⟩:=us;match l,hs with
     |[x,y],_=>have j:=(h 0 _ rfl).v_inv;have e1:=(h 1 _ rfl).v_inv;simp at j e1;rw[j,e1]
def KL(c:Nat):Cn xT 19 [Z2 c] (.v (.int .i64 c)):=by refine KK rfl (enters_of func19 dK rfl) λD w A u y j o=>?_;rw[zjw j,zaW (o 0 _ rfl)];refine(zhu c w u).mono ?_;rintro e B ⟨rfl,hb⟩;exact⟨_,rfl,hb,.v _⟩
def Ju(c:Nat)(k:Int):Cn xT 19 [jS c k] (.v (.int .i64 c)):=by
 refine KK rfl (enters_of func19 dK rfl) λD w C y B o u=>?_;have j:=u 0 _ rfl;unfold jS at j;rw[zjw o];by_cases hc:c=0
 .rw[vD hc]at j;subst hc;rw[j.v_inv];refine(zcs w).mono ?_;rintro e A ⟨rfl,hb⟩;exact⟨_,rfl,hb,.v _⟩
 .rw[Vq hc]at j;rw[zaX j];refine(zht c k w y).mono ?_;rintro e A ⟨rfl,hb⟩;exact⟨_,rfl,hb,.v _⟩
def zcd(e:En)(h:zO e)(o:e.holes.length<=10000):Cn xT 167 [ep e] (.tup [ep (kP e).1,.v (.bool (kP e).2)]):=by have j:=kW e;refine zt func167 1 ?_;refine pw ?_;refine .c (Vl e h a8) ?_;refine .c (zg1 e.rep (kn e) (qT h) a8) ?_;rfl
def JF(v:List En):Bool:=v.all (λe=>decide (e.holes.length<=30)) && decide (v.length<=20)
def prv(v:List En)(k:Nat):Nat:=match v[k-1]? with
 |some p=>p.rep
 |none=>0
def Xl{v:List En}{k:Nat}(h:k-1<v.length):prv v k=v[k-1].rep:=by simp[prv,Zv h]
def hkV(v:List En):Nat->List En->Nat×Int
 |_,[]=>(0,-1)
 |k,e::r=>if (yV e).1≠0 then ((yV e).1,(k:Int)) else if 0<k/\e.rep<=prv v k then (3,(k:Int)) else hkV v (k+1) r
def jx(v:List En):Nat×Int:=hkV v 0 v
def Ve(v:List En):∀(k:Nat)(r:List En),r=v.drop k->((hkV v k r).1=0↔(∀e∈r,(yV e).1=0)/\∀j (h:j<v.length),k<=j->0<j->v[j-1].rep<v[j].rep)
 |k,[],h=>by have H:=W8 List.length h;simp at H;simp only[hkV,List.not_mem_nil,false_implies,implies_true,Un,true_iff];intro j C hk;omega
 | k,e::r,h=>by
   have H:=W8 List.length h;simp at H;have hk:k<v.length:=a8;rw[VS hk,Ws]at h;obtain⟨I,L⟩:=h;have ih:=Ve v (k+1) r L;unfold hkV;by_cases B:(yV e).1≠0
   .rw[vD B];constructor
    .intro h;exact absurd h B
    .rintro⟨o,_⟩;exact absurd (o e b6) B
   ·rw [Vq B];have E:(yV e).1=0:=a8;by_cases o:0<k/\e.rep<=prv v k
    .rw[vD o];constructor
     .intro h;cases h
     .rintro⟨_,w⟩;have:=w k hk (Zp _) o.1;have F:=o.2;have J:=W8 En.rep I;rw[Xl a8]at F;omega
    .rw[Vq o,ih];constructor
     .rintro⟨w,G⟩;refine⟨λf y=>?_,λj C A u=>?_⟩
      .rcases wi.1 y with rfl|y
       .exact E
       .exact w f y
      .rcases uC A with rfl|K
       .rw[Xl a8,I]at o;omega
       .exact G j C a8 u
     .rintro⟨w,G⟩;exact⟨λf y=>w f (by simp[y]),λj C A u=>G j C a8 u⟩
def zb0{v:List En}(h:∀j (h:j<v.length),0<j->v[j-1].rep<v[j].rep):v.Pairwise λa b=>a.rep<b.rep:=by
 rw[wP];intro i j hi y o;induction j with
 |zero=>omega
 | succ j ih=>
   have u:=h (j+1) y a8;simp only[Nat.add_sub_cancel]at u;rcases uC (Nat.le_of_lt_succ o)with rfl|w
   .exact u
   .have:=ih a8 w;omega
def XP{v:List En}(hb:∀e∈v,ZL e):(jx v).1=0↔zsC v:=by
 unfold jx;rw[Ve v 0 v rfl];have B:∀e∈v,(yV e).1=0↔zO e:=λe o=>by have:=VU (hb e o).1 (hb e o).2.1 (hb e o).2.2;unfold Xu at this;simpa using this
 constructor
 .rintro⟨u,w⟩;exact⟨λe o=>(B e o).1 (u e o),zb0 λj y A=>w j y (X4 _) A⟩
 .rintro⟨u,w⟩;refine⟨λe o=>(B e o).2 (u e o),λj y _ A=>?_⟩;exact wP.1 w (j-1) j a8 y a8
def fdV(r:Nat):Nat->List En->Int
 |_,[] =>-1
 |k,e::t=>if e.rep=r then (k:Int) else fdV r (k+1) t
def X2(r:Nat):∀(l:List En)(k:Nat),(fdV r k l=-1/\∀e∈l,e.rep≠r)\/∃(i:Nat) (h:i<l.length),fdV r k l=((k+i:Nat):Int)/\l[i].rep=r
 |[],k=>.inl ⟨rfl,λ_ h=>by cases h⟩
 | e::t,k=>by
   unfold fdV;by_cases h:e.rep=r
   .rw[vD h];exact .inr ⟨0,b6,b6,h⟩
   .rw[Vq h];rcases X2 r t (k+1)with⟨j,o⟩|⟨i,hi,j,o⟩
    .refine .inl ⟨j,λf u=>?_⟩;rcases wi.1 u with rfl|u
     .exact h
     .exact o f u
    .exact .inr ⟨i+1,dJ hi,by rw[j];omega,dJ o⟩
def zoo{v:List En}(h:zsC v)(r:Nat):∃i,i<=v.length/\(∀j,(h:j<v.length)->j<i->v[j].rep<r)/\(∀j,(h:j<v.length)->i<=j->r<=v[j].rep):=by
 have E:=wP.1 h.2;obtain⟨i,A,B,C⟩:=KV (λj=>∃h:j<v.length,v[j].rep<r) v.length λa b hab hb ⟨h4,h5⟩=>by
  refine⟨a8,?_⟩;rcases uB hab with o|o
  .have:=E a b a8 hb o;omega
  .subst o;exact h5
 exact⟨i,A,λj w y=>(B j y).2,λj w u=>ul λh=>C j u w ⟨w,h⟩⟩
def zoj{v:List En}(B:zsC v){r i:Nat}(w:∀j,(h:j<v.length)->j<i->v[j].rep<r)(y:∀j,(h:j<v.length)->i<=j->r<=v[j].rep):
 fdV r 0 v=if h:i<v.length then (if v[i].rep=r then (i:Int) else -1) else -1:=by
 have A:=wP.1 B.2;rcases X2 r v 0 with⟨e1,e2⟩|⟨j,u,e1,e2⟩
 .rw[e1];split
  .rename_i h;rw[Vq (e2 _ (Y1 h))]
  .rfl
 .have o:i<=j:=ul λh=>(by have:=w j u h;omega);have:i=j:=by
   rcases uB o with h|h
   .have C:=A i j a8 u h;have E:=y i a8 (Zp _);omega
   .exact h
  subst this;rw[uj u,vD e2,e1,wn]
def zh8{v:List En}(j:zsC v){r i:Nat}(hi:i<v.length)(h:v[i].rep=r):zT v r=kn v[i]:=by rw[<-h];exact kq j.2 (Y1 hi)
def zZ:List Nat->List Nat->Int
 |[],[]=>0
 |[],_::_ =>-1
 |_::_,[]=>1
 |a::x,b::y=>if a<b then -1 else if b<a then 1 else zZ x y
def ZV:∀a b,zZ b a=- zZ a b
 |[],[]=>rfl
 |[],_::_=>rfl
 |_::_,[]=>rfl
 | a::x,b::y=>by
   unfold zZ;split
   .rw[Vq a8];try rfl
   .split
    .rfl
    .exact ZV x y
def cmpL_zero:∀a b,zZ a b=0↔a=b
 |[],[]=>by simp[zZ]
 |[],_::_=>by simp[zZ]
 |_::_,[]=>by simp[zZ]
 | a::x,b::y=>by
   unfold zZ;rw[Ws];split
   .constructor
    .intro h;cases h
    .rintro⟨h,_⟩;omega
   .split
    .constructor
     .intro h;cases h
     .rintro⟨h,_⟩;omega
    .rw[cmpL_zero x y];constructor
     .intro h;exact⟨a8,h⟩
     .exact ub
def ZW:∀a b c,zZ a b<=0->zZ b c<=0->zZ a c<=0
 |[],_,[],_,_=>by simp[zZ]
 |[],_,_::_,_,_=>by simp[zZ]
 |_::_,[],_,h,_=>by simp[zZ]at h
 |_::_,_::_,[],_,h=>by simp[zZ]at h
 | a::x,b::y,c::z,h1,h2=>by
   unfold zZ at h1 h2⊢;split
   .omega
   .split at h1
    .split at h2
     .omega
     .split at h2
      .omega
      .omega
    .split at h1
     .omega
     .split at h2
      .omega
      .split at h2
       .omega
       .rw[Vq a8];exact ZW x y z h1 h2
def Yn:∀{a b:List Iv},a.flatMap (λs=>[s.lo,s.hi])=b.flatMap (λs=>[s.lo,s.hi])->a=b
 |[],[],_=>rfl
 |[],_::_,h=>by simp at h
 |_::_,[],h=>by simp at h
 |s::a,t::b,h=>by simp only[We,yb,Yf,Ws]at h;rw[Iv.ext' h.1 h.2.1,Yn h.2.2]
def xx(a:List Iv):(a.flatMap (λs=>[s.lo,s.hi])).length=2*a.length:=by
 induction a with
 |nil=>rfl
 |cons s a ih=>simp only[We,wj,wv,Ww,ih];omega
def YA:∀{a b:List En} ,a.length=b.length->a.flatMap zC=b.flatMap zC->a=b
 |[],[],_,_=>rfl
 |[],_::_,h,_=>by simp at h
 |_::_,[],h,_=>by simp at h
 |e::a,f::b,hl,h=>by simp only[We,zC,yb,Ws]at h;obtain⟨o,u,w,y⟩:=h;have j:=List.append_inj y (by rw[xx,xx,w]);rw[En.ext' o u (Yn j.1),YA (dJ hl) j.2]
def Vv{a b:List En}(h:zv a=zv b):a=b:=by unfold zv at h;simp only[Ws]at h;exact YA h.1 h.2
def ZJ(v:List En)(i:Nat):List Nat:=v.length::(v.take i).flatMap zC
def Q7(v:List En)(i:Nat)(h:i<v.length)(j:Nat):List Nat:=ZJ v i++[v[i].rep,v[i].max,v[i].holes.length]++(v[i].holes.take j).flatMap λs=>[s.lo,s.hi]
def ziE(v:List En):ZJ v 0=[v.length]:=by simp[ZJ]
def VF{v:List En}{i:Nat}(h:¬i<v.length):ZJ v i=zv v:=by unfold ZJ zv;rw[wm a8]
def ziD{v:List En}{i:Nat}(h:i<v.length):Q7 v i h 0=ZJ v i++[v[i].rep,v[i].max,v[i].holes.length]:=by simp[Q7]
def zbu{v:List En}{i:Nat}(h:i<v.length){j:Nat}(o:j<v[i].holes.length):Q7 v i h (j+1)=Q7 v i h j++[v[i].holes[j].lo,v[i].holes[j].hi]:=by unfold Q7;rw[vj o,Wl];simp
def zdH{v:List En}{i:Nat}(h:i<v.length){j:Nat}(o:¬j<v[i].holes.length):Q7 v i h j=ZJ v (i+1):=by unfold Q7 ZJ;rw[wm (l:=v[i].holes) (i:=j) a8,vj h,Wl];simp[zC]
def vQ{v:List En}(h:∀e∈v,e.holes.length<=1048576):∀i,i<=v.length->(ZJ v i).length<=1+2097155*i
 |0,_=>by simp[ZJ]
 |i+1,hi=>by have ih:=vQ h i a8;have j:=h _ (Y1 (show i<v.length by omega));unfold ZJ at ih⊢;rw[vj (show i<v.length by omega),Wl];simp only[wv,wj,We,Ux,wY,zC,xx]at ih⊢;omega
def zdI{v:List En}(hb:∀e∈v,e.holes.length<=1048576){i:Nat}(h:i<v.length){j:Nat}(o:j<=v[i].holes.length):(Q7 v i h j).length<=4+2097155*i+2*j:=by have:=vQ hb i a8;unfold Q7;simp only[wj,wv,Ww,xx,Wc];omega
def zdn(x:Nat):Cn xT 195 [.v (.int .u64 x)] (.v (.bool false)):=by refine zt func195 1 ?_;exact pd
def zdm(x:Int):Cn xT 214 [.v (.int .i64 x)] (.v (.bool false)):=by refine zt func214 1 ?_;exact pd
def XQ(x y:Nat):Cn xT 156 [.v (.int .u64 x),.v (.int .u64 y)] (.v (.int .i64 (if x<y then -1 else if y<x then 1 else 0))):=by
 refine zt func156 2 ?_;refine pw ?_;refine .c (zdn x) ?_;refine .c (zdn y) ?_;refine .i ?_ ?_<;>intro j<;>first|refine pw ?_|exact pd
 .rw[vD j]
 .rw[Vq a8];refine .i ?_ ?_<;>intro o<;>first|refine pw ?_|exact pd
  .rw[vD o]
  .rw[Vq a8]
def zhq(x y:Nat):Cn xT 209 [.v (.int .i64 x),.v (.int .i64 y)] (.v (.int .i64 (if x<y then -1 else if y<x then 1 else 0))):=by
 refine zt func209 2 ?_;refine pw ?_;refine .c (zdm x) ?_;refine .c (zdm y) ?_;refine .i ?_ ?_<;>intro j<;>first|refine pw ?_|exact pd
 .rw[vD j]
 .rw[Vq a8];refine .i ?_ ?_<;>intro o<;>first|refine pw ?_|exact pd
  .rw[vD o]
  .rw[Vq a8]
def zkx(r:Nat)(e:En):Cn xT 116 [.v (.int .u64 r),ep e] (.v (.int .i64 (if e.rep<r then -1 else if r<e.rep then 1 else 0))):=by refine zt func116 2 ?_;refine pw ?_;exact .d (XQ e.rep r)
def zfV(a b:List Nat)(ha:a.length<=1152921504606846976)(hb:b.length<=1152921504606846976):Cn xT 196 [ns a,ns b] (.v (.int .i64 (zZ a b))):=by
 refine zt func196 2 ?_;refine pw ?_;obtain⟨m,e1,C,E,u⟩:∃m:Nat,(if b.length<a.length then (b.length:Int) else (a.length:Int))=(m:Int)/\m<=a.length/\m<=b.length/\(m=a.length\/m=b.length):=by
  by_cases h:b.length<a.length
  .exact⟨b.length,vD h,a8,a8,.inr rfl⟩
  .exact⟨a.length,Vq h,a8,a8,.inl rfl⟩
 rw[e1];refine pLoop.go (λk=>k<=m/\zZ a b=zZ (a.drop k) (b.drop k)) (λk=>[(11,.v (.int .i64 (k:Nat)))]) (λ_=>[]) (λk=>m-k) 0 [11] ?_ ?_ ?_
 .exact⟨X4 _,rfl⟩
 .exact pd
 .rintro k ⟨hk,j⟩;refine pw ?_;refine .i ?_ ?_<;>intro h<;>first|refine pw ?_|exact pd
  .have w:k<a.length:=a8;have A:k<b.length:=a8;rw[VS w,VS A,zZ]at j;refine pw ?_;refine .i ?_ ?_<;>intro F<;>first|refine pw ?_|exact pd
   .refine .c (XQ a[k] b[k]) ?_;rw[j];by_cases o:a[k]<b[k]
    .rw[vD o,vD o]
    .rw[Vq o,Vq o,vD a8,vD a8]
   .rw[Vq a8,Vq a8]at j;exact⟨k+1,⟨h,j⟩,a8,rfl⟩
  .refine .c (zhq a.length b.length) ?_;have B:a.drop k=[]\/b.drop k=[]:=by
    rcases u with u|u
    .exact .inl (wE a8)
    .exact .inr (wE a8)
   have la:(a.drop k).length=a.length-k:=W7;have lb:(b.drop k).length=b.length-k:=W7;rw[j];generalize a.drop k=x at *;generalize b.drop k=y at *;rcases B with rfl|rfl
   .cases y with
    |nil=>simp at la lb;rw[Vq a8,Vq a8];rfl
    |cons c y=>simp at la lb;rw[vD a8];rfl
   .cases x with
    |nil=>simp at la lb;rw[Vq a8,Vq a8];rfl
    |cons c y=>simp at la lb;rw[Vq a8,vD a8];rfl
def Ks(a b:List En)(ha:∀e∈a,ZL e)(hb:∀e∈b,ZL e)(la:(zv a).length<=1073741824)(lb:(zv b).length<=1073741824):Cn xT 173 [vp a,vp b] (.v (.int .i64 (zZ (zv a) (zv b)))):=by refine zt func173 2 ?_;refine pw ?_;refine .c (Yz a ha la) ?_;refine .c (Yz b hb lb) ?_;exact .d (zfV (zv a) (zv b) a8 a8)
def zbB(v:List En)(r:Nat)(u:v.length<=1152921504606846976):Cn xT 159 [vp v,.v (.int .u64 r)] (.v (.int .i64 (fdV r 0 v))):=by
 refine zt func159 2 ?_;refine pw ?_;refine pLoop.go (λk=>k<=v.length/\fdV r 0 v=fdV r k (v.drop k)) (λk=>[(5,.v (.int .i64 (k:Nat)))]) (λ_=>[]) (λk=>v.length-k) 0 [5] ?_ ?_ ?_
 .exact⟨X4 _,rfl⟩
 .exact pd
 .rintro k ⟨hk,j⟩;refine pw ?_;refine .i ?_ ?_<;>intro h<;>first|refine pw ?_|exact pd
  .rw[VS h,fdV]at j;refine pw ?_;refine .i ?_ ?_<;>intro o<;>first|refine pw ?_|exact pd
   .rw[j,vD o]
   .rw[Vq o]at j;exact⟨k+1,⟨h,j⟩,a8,rfl⟩
  .rw[j,wE a8];rfl
def kfn:PV:=.cp [.fn (.func 116) [] []] 0
attribute [go_sem] kfn
def znQ(e:En)(r:Nat):Cn xT 158 [ep e,.v (.int .u64 r),kfn] (.v (.int .i64 (if e.rep<r then -1 else if r<e.rep then 1 else 0))):=by refine zt func158 3 ?_;refine pw ?_;exact .d (zkx r e)
def zoR(v:List En)(r:Nat)(i:Nat)(hi:i<=v.length)(G:∀j,(h:j<v.length)->j<i->v[j].rep<r)(y:∀j,(h:j<v.length)->i<=j->r<=v[j].rep)(H:v.length<=1152921504606846976):
 Cn xT 157 [vp v,.v (.int .u64 r),.fn (.func 158) [] [kfn]] (.tup [.v (.int .i64 i),.v (.bool (if h:i<v.length then decide (v[i].rep=r) else false))]):=by
 refine zt func157 3 ?_;refine pw ?_;refine pLoop.go (λp:Nat×Nat=>p.1<=i/\i<=p.2/\p.2<=v.length) (λp=>[(9,.v (.int .i64 (p.1:Nat))),(10,.v (.int .i64 (p.2:Nat)))]) (λ_=>[]) (λp=>p.2-p.1) (0,v.length) [9,10] ?_ ?_ ?_
 .exact⟨X4 _,hi,Zp _⟩
 .exact pd
 .rintro⟨p,q⟩ ⟨B,C,E⟩;simp only at B C E;refine pw ?_;refine .i ?_ ?_<;>intro h<;>first|refine pw ?_|exact pd
  .have A:(p+q)/2<v.length:=a8;have F:=G _ A;have w:=y _ A;refine pw ?_;refine .c (znQ v[(p+q)/2] r) ?_;refine .i ?_ ?_<;>intro o<;>first|refine pw ?_|exact pd
   .refine⟨((p+q)/2+1,q),⟨?_,C,E⟩,by simp only;omega,rfl,rfl⟩;simp only;refine Uz λu=>?_;have:=w u;rw[Vq a8]at o;split at o<;>omega
   .refine⟨(p,(p+q)/2),⟨B,?_,by simp only;omega⟩,by simp only;omega,rfl,rfl⟩;simp only;refine ul λu=>?_;have:=F u;rw[vD this]at o;omega
  .obtain rfl:p=i:=a8;obtain rfl:q=p:=a8;refine .i ?_ ?_<;>intro o<;>first|refine pw ?_|exact pd
   .refine .c (znQ v[q] r) ?_;have w:=y _ o (Zp _);rw[uj o,Vq a8];by_cases u:v[q].rep=r
    .rw[Vq a8,uO u];simp
    .rw[vD a8,WB u];simp
   .rw[UL a8]
def zoK(v:List En)(r:Nat)(w:zsC v)(y:v.length<=1152921504606846976):Cn xT 121 [vp v,.v (.int .u64 r)] (.v (.int .i64 (fdV r 0 v))):=by
 obtain⟨i,hi,j,o⟩:=zoo w r;rw[zoj w j o];refine zt func121 2 ?_;refine pw ?_;refine .c (zoR v r i hi j o y) ?_;by_cases h:i<v.length
 .rw[uj h,uj h];refine .i ?_ ?_<;>intro u<;>first|refine pw ?_|exact pd
  .rw[Vq u]
  .rw[vD u]
 .rw[UL h,UL h];exact pd
def zo6(v:List En)(r c:Nat)(j:zsC v)(hc:c<zk)(u:v.length<=1152921504606846976)(o:∀e∈v,e.holes.length<=1152921504606846976):Cn xT 87 [vp v,.v (.int .u64 r),.v (.int .u64 c)] (.v (.bool (mem (zT v r) c))):=by
 refine zt func87 3 ?_;refine pw ?_;refine .rd (zoK v r j u) rfl ?_;rcases X2 r v 0 with⟨e1,e2⟩|⟨i,hi,e1,e2⟩
 .rw[e1,qC e2];refine pw ?_;rfl
 .rw[e1,zh8 j hi e2,vC (j.1 _ (Y1 hi)) hc,wn];refine pw ?_;exact .d (zoS v[i] c (j.1 _ (Y1 hi)) (o _ (Y1 hi)))
def zl8(v:List En)(r c:Nat)(j:zsC v)(hc:c<zk)(u:v.length<=1152921504606846976)(o:∀e∈v,e.holes.length<=1152921504606846976):Cn xT 127 [vp v,.v (.int .u64 r),.v (.int .u64 c)] (.v (.bool (mem (zT v r) c))):=by
 refine zt func127 3 ?_;refine pw ?_;refine .rd (zbB v r u) rfl ?_;rcases X2 r v 0 with⟨e1,e2⟩|⟨i,hi,e1,e2⟩
 .rw[e1,qC e2];refine pw ?_;rfl
 .rw[e1,zh8 j hi e2,vC (j.1 _ (Y1 hi)) hc,wn];refine pw ?_;exact .d (znN v[i] c (o _ (Y1 hi)))
def zes(v:List En)(hb:∀e∈v,ZL e)(G:v.length<=1152921504606846976)(E:∀e∈v,e.holes.length<=1152921504606846976):Cn xT 80 [vp v] (jS (jx v).1 (jx v).2):=by
 refine zt func80 1 ?_;refine pw ?_;refine pLoop.go (λk=>k<=v.length/\jx v=hkV v k (v.drop k)) (λk=>[(8,.v (.int .i64 (k:Nat)))]) (λ_=>[]) (λk=>v.length-k) 0 [8] ?_ ?_ ?_
 .exact⟨X4 _,rfl⟩
 .exact pd
 .rintro k ⟨hk,j⟩;refine pw ?_;refine .i ?_ ?_<;>intro h<;>first|refine pw ?_|exact pd
  ·rw [VS h,hkV]at j;have y:=hb _ (Y1 h);have A:=E _ (Y1 h);have u:=Ju (yV v[k]).1 (yV v[k]).2;refine pw ?_;refine .rd (zcJ v[k] y.1 A (.inr (KL 2))) rfl ?_;by_cases hz:(yV v[k]).1=0
   .rw[yk hz];rw[Vq a8]at j;refine pw ?_;refine .i ?_ ?_<;>intro C<;>first|refine pw ?_|exact pd
    .have F:=Xl (v:=v) (k:=k) a8;rw[F]at j;refine pw ?_;refine .c (zkx v[k-1].rep v[k]) ?_;refine .i ?_ ?_<;>intro w<;>first|refine pw ?_|exact pd
     .have B:v[k].rep<=v[k-1].rep:=by split at w<;>(try split at w)<;>omega
      rw[vD ⟨C,B⟩]at j;rw[j];refine .c (jT 3 k) ?_;exact ym _ _
     .have B:¬v[k].rep<=v[k-1].rep:=by split at w<;>(try split at w)<;>omega
      rw[Vq (λh=>a8)]at j;exact⟨k+1,⟨h,j⟩,a8,rfl⟩
    .rw[Vq (λh=>a8)]at j;exact⟨k+1,⟨h,j⟩,a8,rfl⟩
   .rw[vD hz]at j;rw[j];rw[vu hz]at u⊢;refine pw ?_
    (first|refine .c (u) ?_|refine .o (u) ?_)
    refine .c (jT (yV v[k]).1 k) ?_;exact ym _ _
  .rw[j,wE a8];exact .eq _ rfl
def yY{v:List En}{k:Nat}(h:k<v.length):zi (v.take (k+1))=if (kP v[k]).2 then zi (v.take k)++[(kP v[k]).1] else zi (v.take k):=by
 unfold zi;rw[vj h,U6];simp only[uJ,UR,QX];split
 .rename_i h1;split at h1
  .cases h1
  .rename_i h2;rw[Vq h2,wY]
 .rename_i h1;split at h1
  .rename_i h2;cases h1;rw[vD h2]
  .cases h1
def ZU(v:List En)(k:Nat):(zi (v.take k)).length<=k:=by have:=Ug QX (v.take k);have j:(v.take k).length<=k:=uK _ _;unfold zi;omega
def zer(v:List En)(w:zsC v)(y:v.length<=1048576)(u:∀e∈v,e.holes.length<=10000):Cn xT 141 [vp v] (vp (zi v)):=by
 refine zt func141 1 ?_;refine pw ?_;refine pLoop.go (λk=>k<=v.length) (λk=>[(3,.sl ((zi (v.take k)).map ec) (.r 23 3)),(10,.v (.int .i64 (k:Nat)))]) (λ_=>[]) (λk=>v.length-k) 0 [3,10] ?_ ?_ ?_
 .exact X4 _
 .refine pw ?_;rfl
 .rintro k hk;have o:=ZU v k;refine pw ?_;refine .i ?_ ?_<;>intro h<;>first|refine pw ?_|exact pd
  .refine .c (zeP v[k] (w.1 _ (Y1 h)) (u _ (Y1 h))) ?_;refine .i ?_ ?_<;>intro j<;>first|refine pw ?_|exact pd
   .refine⟨k+1,h,a8,?_,rfl⟩;rw[yY h,vD j];simp;rfl
   .refine⟨k+1,h,a8,?_,rfl⟩;rw[yY h,Vq (dJ j)]
  .rw[wm a8]
def Ka(v:List En)(w:zsC v)(y:v.length<=1048576)(u:∀e∈v,e.holes.length<=10000):Cn xT 135 [vp v] (vp (zi v)):=by
 refine zt func135 1 ?_;refine pw ?_;refine pLoop.go (λk=>k<=v.length) (λk=>[(3,.sl ((zi (v.take k)).map ec) (.r 25 3)),(4,.v (.int .i64 (k:Nat)))]) (λ_=>[]) (λk=>v.length-k) 0 [3,4] ?_ ?_ ?_
 .exact X4 _
 .refine pw ?_;rfl
 .rintro k hk;have o:=ZU v k;refine pw ?_;refine .i ?_ ?_<;>intro h<;>first|refine pw ?_|exact pd
  .refine .c (zcd v[k] (w.1 _ (Y1 h)) (u _ (Y1 h))) ?_;refine .i ?_ ?_<;>intro j<;>first|refine pw ?_|exact pd
   .refine⟨k+1,h,a8,?_,rfl⟩;rw[yY h,vD j];simp;rfl
   .refine⟨k+1,h,a8,?_,rfl⟩;rw[yY h,Vq (dJ j)]
  .rw[wm a8]
def kE(v:List En)(B:v.length<=1024)(u:∀e∈v,e.holes.length<=1048576):Cn xT 168 [vp v] (ns (zv v)):=by
 have y:=zw;refine zt func168 1 ?_;refine pw ?_;refine pLoop.go (λi=>i<=v.length) (λi=>[(3,.sl ((ZJ v i).map yN) (.r 9 1)),(4,.v (.int .i64 (i:Nat)))]) (λ_=>[]) (λi=>v.length-i) 0 [3,4,9] ?_ ?_ ?_
 .exact X4 _
 .rw[ziE];exact pd
 .rintro i hi;have o:=vQ u i hi;refine pw ?_;refine .i ?_ ?_<;>intro h<;>first|refine pw ?_|exact pd
  .have A:=u _ (Y1 h);refine pw ?_;refine cutP.full rfl ?_ rfl ?_ ?_
   .exact pd
   .exact pd
   refine pw ?_;refine pLoop.go (λj=>j<=v[i].holes.length) (λj=>[(3,.sl ((Q7 v i h j).map yN) (.r 9 1)),(5,.v (.int .i64 (j:Nat)))]) (λ_=>[]) (λj=>v[i].holes.length-j) 0 [3,5,35,16] ?_ ?_ ?_
   .exact X4 _
   .rw[ziD];refine pw ?_;simp[yN]
   .rintro j w;have o:=zdI u h w;refine pw ?_;refine .i ?_ ?_<;>intro hc<;>first|refine pw ?_|exact pd
    .refine cutP.full rfl ?_ rfl ?_ ?_
     .exact pd
     .exact pd
     refine pw ?_;refine⟨j+1,hc,a8,?_,rfl⟩;rw[zbu h hc];simp[yN]
    .refine⟨i+1,h,a8,?_,rfl⟩;rw[zdH h a8]
  .rw[VF a8]
def Xp(a b:List En)(ha:∀e∈a,e.holes.length<=1048576)(hb:∀e∈b,e.holes.length<=1048576)(la:a.length<=1024)(lb:b.length<=1024):Cn xT 136 [vp a,vp b] (.v (.int .i64 (zZ (zv a) (zv b)))):=by
 have I:=vQ ha a.length (Zp _);have J:=vQ hb b.length (Zp _);rw[VF a8]at I J;refine zt func136 2 ?_;refine pw ?_;refine .c (kE a la ha) ?_;refine .c (kE b lb hb) ?_;generalize zv a=x at *;generalize zv b=y at *;refine pLoop.go (λk=>k<=x.length/\k<=y.length/\zZ x y=zZ (x.drop k) (y.drop k)) (λk=>[(7,.v (.int .i64 (k:Nat)))]) (λ_=>[]) (λk=>x.length-k) 0 [7] ?_ ?_ ?_
 .exact⟨X4 _,X4 _,rfl⟩
 .exact pd
 .rintro k ⟨F,G,o⟩;refine pw ?_;have j:¬(k<x.length/\k<y.length)->(if x.length<y.length then (-1:Int) else if y.length<x.length then 1 else 0)=zZ x y:=λH=>by
   have la:(x.drop k).length=x.length-k:=W7;have lb:(y.drop k).length=y.length-k:=W7;rw[o];cases hx:x.drop k with
   | nil=>
     rw[hx]at la;cases hy:y.drop k with
     |nil=>rw[hy]at lb;simp at la lb;rw[Vq a8,Vq a8];rfl
     |cons c z=>rw[hy]at lb;simp at la lb;rw[vD a8];rfl
   | cons c z=>
     rw[hx]at la;cases hy:y.drop k with
     |nil=>rw[hy]at lb;simp at la lb;rw[Vq a8,vD a8];rfl
     |cons d u=>rw[hy]at lb;simp at la lb;exact absurd ⟨a8,a8⟩ H
  have E:¬(k<x.length/\k<y.length)->True:=λ_=>trivial;refine .i ?_ ?_<;>intro B<;>first|refine pw ?_|exact pd
  .refine .i ?_ ?_<;>intro C<;>first|refine pw ?_|exact pd
   .rw[VS B,VS C,zZ]at o;refine pw ?_;refine .i ?_ ?_<;>intro w<;>first|refine pw ?_|exact pd
    .rw[o,vD w]
    .refine .i ?_ ?_<;>intro A<;>first|refine pw ?_|exact pd
     .rw[o,Vq a8,vD A]
     .rw[Vq a8,Vq a8]at o;exact⟨k+1,⟨B,C,o⟩,a8,rfl⟩
   .rw[<-j a8];refine .i ?_ ?_<;>intro w<;>first|refine pw ?_|exact pd
    .rw[vD w]
    .refine .i ?_ ?_<;>intro A<;>first|refine pw ?_|exact pd
     .rw[Vq a8,vD A]
     .rw[Vq a8,Vq a8]
  .rw[<-j a8];refine .i ?_ ?_<;>intro w<;>first|refine pw ?_|exact pd
   .rw[vD w]
   .refine .i ?_ ?_<;>intro A<;>first|refine pw ?_|exact pd
    .rw[Vq a8,vD A]
    .rw[Vq a8,Vq a8]
def CanV.bd{v:List En}(h:CanV v):∀e∈v,ZL e:=λe j=>Jg (h.1 e j).1
end
section
open Go.ChangeShapes Go.WideShapes Go.ChangeAt Go.RowKit Go.Deep
section
variable {H:Type}{enc:TypeId×Value->H}{w:World}{base:Nat}{spare:Nat->Bool}{held:Bool}
def zhh(w:World)(b o:Nat)(y:List PV):Prop:=∀(j:Nat)(p:PV),y[j]?=some p->∃u,w.cell? ⟨b,o+j,none⟩=some u/\u.oneCell'=true/\Dat (ZG w) w u p
def rdC{α:Type}(cv:α->List PV)(bd:α->Prop)(w:World)(b o:Nat)(x:α):Prop:=zhh w b o (cv x)/\bd x
def VQ{α:Type}{cv:α->List PV}{bd:α->Prop}{o:Nat}{v:Value}{l:List α}(A:∀x,(cv x).length=o)(h:RdSl o (rdC cv bd) 0 w.heap.size w v l):Dat (ZG w) w v (.sl (l.map cv) .sh)/\(∀x∈l,bd x)/\l.length<=9223372036854775807:=by
 obtain⟨a,C,rfl,U,L,V⟩:=h;have O:l.length<=9223372036854775807:=by unfold maxLen at L;omega
 suffices hs:Dat (ZG w) w (.slice a (l.map cv).length C) (.sl (l.map cv) .sh)/\∀x∈l,bd x from ⟨by rw[ww]at hs;exact hs.1,hs.2,O⟩
 by_cases H:l=[]
 .subst H;exact⟨.sl a C o [] .sh 0 0 (λ_=>undef) b6 (λh=>by cases h) L (λh=>absurd rfl h) (λi e h=>by simp at h) (λj h=>by simp at h) (λi e j p h=>by simp at h),λ_ h=>by cases h⟩
 obtain⟨b,y,rfl,X,M,hc⟩:=V H;have J:∀j,j<l.length*o->∃u,w.cell? ⟨b,y+j,none⟩=some u/\u.oneCell'=true/\∀(i k:Nat)(hi:i<l.length)(p:PV),j=i*o+k->(cv l[i])[k]?=some p->Dat (ZG w) w u p:=λj B=>by
  have I:0<o:=by
   rcases WC o with K|K
   .subst K;simp at B
   .exact K
  have hi:j/o<l.length:=Nat.div_lt_of_lt_mul (by rw[U0];exact B);have hk:j%o<(cv l[j/o]).length:=(by rw[A];exact U1 _ I);obtain⟨u,Q,u2,u3⟩:=(hc _ hi).1 (j%o) _ (Zv hk);have e:y+j/o*o+j%o=y+j:=(by have:=Nat.div_add_mod j o;rw[U0]at this;omega);rw[e]at Q;refine⟨u,Q,u2,λi k Y p F E=>?_⟩;have G:k<o:=by have:=(Zw.1 E).1;rwa[A]at this
  have q1:j/o=i:=(by rw[F];rw[U0,Nat.mul_add_div I,Nat.div_eq_of_lt G];omega);have q2:j%o=k:=(by rw[F];rw[U0,Nat.mul_add_mod,Nat.mod_eq_of_lt G]);subst q1;subst q2;rw[Zv hk]at E;cases E;exact u3
 obtain⟨f,P⟩:∃f:Nat->Value,∀j,j<l.length*o->w.cell? ⟨b,y+j,none⟩=some (f j)/\(f j).oneCell'=true/\∀(i k:Nat)(hi:i<l.length)(p:PV),j=i*o+k->(cv l[i])[k]?=some p->Dat (ZG w) w (f j) p:=by refine⟨λj=>if h:j<l.length*o then (J j h).choose else undef,λj B=>?_⟩;simp only[uj B];exact(J j B).choose_spec
 refine⟨.sl _ C o _ .sh b y f (dJ U) (λh=>by cases h) L (λ_=>rfl) (λi e h=>?_) (λj B=>?_) (λi e j p N I=>?_),λx Z=>?_⟩
 .simp only[wk,ZZ]at h;obtain⟨s,_,rfl⟩:=h;exact A s
 .obtain⟨S,T,_⟩:=P j (dJ B);exact⟨M,S,T⟩
 .have hi:i<l.length:=(by have:=(Zw.1 N).1;simpa using this);rw[xo hi]at N;cases N;have B:j<o:=by have:=(Zw.1 I).1;rwa[A]at this
  have:i*o+j<l.length*o:=(by have:=Wq o (show i+1<=l.length from hi);rw[WY]at this;omega);exact(P _ this).2.2 i j hi p rfl I
 .obtain⟨i,hi,rfl⟩:=Wj Z;exact(hc i hi).2
instance : Inhabited En:=⟨⟨0,0,[]⟩⟩
end
end
section
def Ji:∀(r j:List Nat),YN r->(∀y∈r,y∈j)->r.length<=j.length:=by
 intro r;induction r with
 |nil=>intro j _ _;exact X4 _
 | cons x r ih=>
   intro j h u;have o:=V3.1 h;have:=ih (j.erase x) o.2 λy A=>by have B:=o.1 y A;exact(WX a8).2 (u y (by simp[A]))
   have w:x∈j:=u x b6;rw[WF w]at this;have:=ug w;simp;omega
def Ed(l:List Iv)(x:Nat):Prop:=x<zk/\mem l x≠(if x=0 then false else mem l (x-1))
def NF.lo_prev:∀{l:List Iv}{n:Nat},NF n l->∀s∈l,s.lo≠0->mem l (s.lo-1)=false
 |[],_,_,s,hs,_=>by cases hs
 | t::l,n,h,s,hs,h0=>by
   obtain⟨o,u,w,j⟩:=h;rcases wi.1 hs with rfl|hs
   .rw[mem_cons,j.mem_lt a8,WB (show ¬s.lo<=s.lo-1 by omega)];rfl
   .have:=j.lo_ge s hs;rw[mem_cons,NF.lo_prev j s hs h0,WB (show ¬s.lo-1<=t.hi by omega)];simp
def NF.asc:∀{l:List Iv}{n:Nat},NF n l->YN (l.map Iv.lo)
 |[],_,_=>List.Pairwise.nil
 |t::l,n,h=>by refine V3.2 ⟨λy j=>?_,NF.asc h.2.2.2⟩;obtain⟨s,hs,rfl⟩:=wB.1 j;have:=h.2.2.2.lo_ge s hs;have:=h.2.1;omega
def zjS{l:List Iv}(h:Nrm l){s:Iv}(hs:s∈l):Ed l s.lo:=by
 have j:=NF.lo_ge h s hs;have o:mem l s.lo=true:=qf.2 ⟨s,hs,Zp _,j.2.1⟩;refine⟨a8,?_⟩;rw[o];split
 .simp
 .rename_i h0;rw[NF.lo_prev h s hs h0];simp
def zcK{l:List Iv}{C:List Nat}(h:Nrm l)(j:∀x,Ed l x->x∈C):l.length<=C.length:=by
 have:=Ji (l.map Iv.lo) C (NF.asc h) λy o=>by obtain⟨s,hs,rfl⟩:=wB.1 o;exact j _ (zjS h hs)
 simpa using this
def Y3{l:List Iv}(h:∀s∈l,s.lo<=s.hi/\s.hi<zk){x:Nat}(o:Ed l x):x∈z6 l:=by
 refine wT λj=>o.2 ?_;split
 .rename_i h0;subst h0;cases hm:mem l 0 with
  |false=>rfl
  |true=>obtain⟨s,hs,u,w⟩:=qf.1 hm;exact absurd (show 0∈z6 l from uk.2 ⟨s,hs,wi.2 (.inl a8)⟩) j
 .exact Qh h (x:=x-1) (y:=x) a8 o.1 λc hc=>by have:c≠x:=λe=>j (e▸hc);omega
def Nrm.ivs2{l:List Iv}(h:Nrm l):∀s∈l,s.lo<=s.hi/\s.hi<zk:=λs hs=>(NF.lo_ge h s hs).2
def zcM{f:XE}(y:f false false=false){a b:List Iv}(ha:Nrm a)(hb:Nrm b){x:Nat}(h:Ed (qy f a b) x):Ed a x\/Ed b x:=by
 obtain⟨o,j⟩:=h;by_cases u:mem a x=(if x=0 then false else mem a (x-1))
 .by_cases w:mem b x=(if x=0 then false else mem b (x-1))
  .refine absurd ?_ j;rw[qj ha hb o,u,w];split
   .exact y
   .rw[qj ha hb a8]
  .exact .inr ⟨o,w⟩
 .exact .inl ⟨o,u⟩
def zcL{x:Nat}:¬Ed [] x:=λh=>h.2 b6
def zhC{m n x:Nat}(h:Ed [⟨m,n⟩] x):x=m\/x=n+1:=by
 obtain⟨_,h⟩:=h;rw[jl,jl]at h;by_cases e1:x=m
 .exact .inl e1
 .by_cases e2:x=n+1
  .exact .inr e2
  .refine absurd ?_ h;split
   .rename_i h0;rw[WB (show ¬m<=x by omega)];rfl
   .rw[Wz];simp only[V0,wG];omega
def EdV(C:Q9)(v:List En):Prop:=∀r x,Ed (zT v r) x->x∈C r
structure IV(C:Q9)(R:List Nat)(v:List En):Prop where
 right:zsC v
 ed:EdV C v
 rep:∀e∈v,e.rep∈R
structure WV(C:Q9)(R:List Nat)(v:List En):Prop where
 can:CanV v
 ed:EdV C v
 rep:∀e∈v,e.rep∈R
variable {C C':Q9}{R R':List Nat}{v a b:List En}
def WV.iv(h:WV C R v):IV C R v:=⟨h.can.right,h.ed,h.rep⟩
def WV.nil:WV C R []:=⟨⟨λe h=>(by cases h),List.Pairwise.nil⟩,λr x h=>absurd h (by rw[knV_nil];exact zcL),λe h=>(by cases h)⟩
def IV.mono(h:IV C R v)(j:∀r x,x∈C r->x∈C' r)(o:∀x∈R,x∈R'):IV C' R' v:=⟨h.right,λr x w=>j _ _ (h.ed r x w),λe u=>o _ (h.rep e u)⟩
def IV.lat{f:XE}(u:f false false=false)(ha:IV C R a)(hb:IV C R b):WV C R (ks f a b):=by
 refine⟨Xe f ha.right hb.right,λr x w=>?_,λe y=>?_⟩
 .rw[JR u ha.right hb.right]at w;rcases zcM u (qi ha.right r) (qi hb.right r) w with h|h
  .exact ha.ed r x h
  .exact hb.ed r x h
 .have:=qr.1 (zdd e y);rcases wC.1 this with h|h
  .obtain⟨o,j,h⟩:=wB.1 h;rw[<-h];exact ha.rep o j
  .obtain⟨o,j,h⟩:=wB.1 h;rw[<-h];exact hb.rep o j
def IV.canVec(h:IV C R v):WV C R (zi v):=by refine⟨jN h.right,λr x y=>h.ed r x (by rwa[ja h.right]at y),λe w=>?_⟩;obtain⟨o,j,u⟩:=ue.1 w;rw[(v9 u).2.2];exact h.rep o j
def QY{e:En}(h:YP e){L:List Nat}(A:∀x,Ed (kn e) x->x∈L):e.holes.length<=L.length+2:=by
 have u:=ZM h;have w:=(jO h).1;have j:=qT h.1;rw[qD w]at u;have y:e.holes=qy zm [⟨0,QV (kn e)⟩] (kn e):=by have:=W8 (λp=>p.1.holes) u;exact this.symm
 have ht:=(x9 j w).2;have o:=qG (X4 (QV (kn e))) ht;rw[y];have:=zcK (C:=0::(QV (kn e)+1)::L) (qH (f:=zm) o j) λx B=>by
  rcases zcM fM0 o j B with h|h
  .rcases zhC h with h|h<;>simp[h]
  .simp[A x h]
 simpa using this
def zb5(h:v.Pairwise λa b=>a.rep<b.rep):YN (zM v):=by unfold YN zM;rw[uH];exact h
def WV.bv(h:WV C R v){n m:Nat}(o:∀r,(C r).length<=n)(A:R.length<=m):BV m (n+2) v:=by
 refine⟨h.can.right,?_,λe j=>?_⟩
 .have:=Ji (zM v) R (zb5 h.can.2) λy w=>(by obtain⟨e,j,rfl⟩:=wB.1 w;exact h.rep e j);simp only[zM,ww]at this;omega
 .have:=QY (h.can.1 e j) (L:=C e.rep) λx u=>h.ed e.rep x (by rw[kq h.can.2 j];exact u);have:=o e.rep;omega
def IV.of(h:zsC v):IV (λr=>z6 (zT v r)) (zM v) v:=⟨h,λr x o=>Y3 (qi h r).ivs2 o,λe j=>wB.2 ⟨e,j,rfl⟩⟩
end
end Go.Proofs.YtmpnbdhadjfbhaaGreatDoor
