import Derived.Maps.Own
import Derived.Maps.OwnIn
import Derived.Maps.Views
import Derived.Maps.RangeWalk
import Derived.Test.YtjdjjlkifdimkaaGreatDoorB16
set_option maxHeartbeats 16000000
set_option linter.all false
set_option maxRecDepth 100000
namespace Go.Proofs.YtjdjjlkifdimkaaGreatDoor
def t9:=@Go.World.cell?_setCell_same
def Tb:=@Go.RowKit.Below.setCell
def TY:=@Go.Maps.has_put_other
def T2:=@Go.Maps.has_put_same
def T6:=@Go.Maps.atKey_put_other
open Go.RowKit
open Go.Proofs.Tryz
open Go.Proofs.Tryz renaming prog->xT
section
def zgI(a b:List Iv)(A:a.length<=1152921504606846976):Cn xT 39 [rg a,rg b] (.v (.bool (decide (a=b)))):=by
 refine zt func39 2 ?_;refine pw ?_;refine .i ?_ ?_<;>intro o<;>first|refine pw ?_|exact pd
 .symm;rw[Wy];rintro rfl;exact o rfl
 .have w:a.length=b.length:=(dM o);clear o;refine pLoop.go (λk=>k<=a.length/\(a=b↔a.drop k=b.drop k)) (λk=>[(5,.v (.int .i64 (k:Nat)))]) (λ_=>[]) (λk=>a.length-k) 0 [5] ?_ ?_ ?_
  .exact⟨vj _,UL⟩
  .exact pd
  .rintro k ⟨hk,j⟩;refine pw ?_;refine .i ?_ ?_<;>intro h<;>first|refine pw ?_|exact pd
   .have u:k<b.length:=b6;rw[V1 h,V1 u,Wk]at j;refine pw ?_;refine .i ?_ ?_<;>intro e<;>first|refine pw ?_|exact pd
    .symm;rw[Wy];intro y;have:=(j.1 y).1;rcases (dM e:¬a[k].lo=b[k].lo\/¬a[k].hi=b[k].hi)with e|e
     .exact e (WU Iv.lo this)
     .exact e (WU Iv.hi this)
    .refine⟨k+1,⟨h,?_⟩,b6,rfl⟩;rw[j];have e:a[k].lo=b[k].lo/\a[k].hi=b[k].hi:=(dM e);exact⟨λh=>h.2,λh=>⟨Iv.ext' e.1 e.2,h⟩⟩
   .rw[eq_comm,wJ,j,wE h,wE b6]
def VX(o:List (List Iv))(F:o.length<=1048576)(G:∀l∈o,l.length<=1048576)(H:(yU o).length<=1048576)(L:∀l∈o,∀s∈l,s.lo<zk/\s.hi<zk):Cn xT 176 [rgs o] (.sl ((zH o).map yN) .sh):=by
 have N:=zw;refine zt func176 1 ?_;refine pw ?_;refine pLoop.go (λi=>i<=o.length) (λi=>[(3,.sl ((kA o i 0).map yN) (.r 9 1)),(4,.v (.int .i64 (i:Nat)))]) (λ_=>[]) (λi=>o.length-i) 0 [3,4,9] ?_ ?_ ?_
 .exact vj _
 .rw[zf6];exact pd
 ·rintro i hi;refine pw ?_;refine .i ?_ ?_<;>intro h<;>first|refine pw ?_|exact pd
  .have P:=G _ (X3 h);refine pLoop.go (λj=>j<=o[i].length) (λj=>[(3,.sl ((kA o i j).map yN) (.r 9 1)),(5,.v (.int .i64 (j:Nat)))]) (λ_=>[]) (λj=>o[i].length-j) 0 [3,5,9] ?_ ?_ ?_
   .exact vj _
   .exact pd
   .rintro j J;have w:=zdK j h;refine pw ?_;refine .i ?_ ?_<;>intro hc<;>first|refine pw ?_|exact pd
    .have hb:=L _ (X3 h) _ (X3 hc);refine callQ.mk zgX rfl ?_;refine pw ?_;refine .i ?_ ?_<;>intro O<;>first|refine pw ?_|exact pd
     .refine⟨j+1,hc,b6,?_,rfl⟩;rw[YF h hc,jQ,VS b6];simp[yN]
     .refine⟨j+1,hc,b6,?_,rfl⟩;rw[YF h hc,jQ,V2 b6];simp[yN]
    .refine⟨i+1,h,b6,?_,rfl⟩;rw[zbv h hc]
  ·rw [zdJ h];generalize E:yU o=xs at H⊢;have C:zH o=srt xs:=(by rw[<-E];rfl);rw[C];refine pLoop.mk (λk=>k<=xs.length) (λk=>⟨[(3,.sl (xs.map yN) (.r 9 1)),(6,.sl ((srt (xs.take k)).map yN) (.r 108 1)),(7,.v (.int .i64 (k:Nat)))],[]⟩) (λk=>xs.length-k) 0 ?_ ?_ ?_
   .exact vj _
   .rw[Wg,XB];exact pd
   .rintro k hk;have w:=ju (xs.take k);have B:(xs.take k).length<=k:=uS _ _;refine pw ?_;refine .i ?_ ?_<;>intro u<;>first|refine pw ?_|exact pd
    .refine pLoop.go (λa=>a<=(srt (xs.take k)).length/\∀m (h:m<(srt (xs.take k)).length),a<=m->xs[k]<(srt (xs.take k))[m]) (λa=>[(8,.v (.int .i64 (a:Nat)))]) (λ_=>[]) (λa=>a) (srt (xs.take k)).length [8] ?_ ?_ ?_
     .exact⟨Zp _,λm F G=>absurd F b6⟩
     .exact pd
     .rintro at_ ⟨ha,hb⟩;refine pw ?_;refine .i ?_ ?_<;>intro M<;>first|refine pw ?_|exact pd
      .refine .i ?_ ?_<;>intro I<;>first|refine pw ?_|exact pd
       .refine⟨at_-1,⟨b6,λm K A=>?_⟩,b6,rfl⟩;rcases uK A with y|y
        .subst y;exact I
        .exact hb m K b6
       .refine .i ?_ ?_<;>intro A<;>first|refine pw ?_|exact pd
        .exact absurd A b6
        .refine .i ?_ ?_<;>intro y<;>first|refine pw ?_|exact pd
         .refine cutP.mk [3,7] ?_ (keepOk.mk2 rfl rfl ?_ ?_ ?_) ?_
          .exact pd
          .exact pd
          .exact pd
          .right;exact pd
          .refine pw ?_;refine⟨k+1,u,b6,?_,rfl⟩;rw[vw u,kJ ha hb (.inr ⟨b6,b6⟩)];simp[yN]
         .refine⟨k+1,u,b6,?_,rfl⟩;rw[vw u,zaw (by rw[<-y];exact X3 _)]
      .obtain rfl:at_=0:=b6;have hz:=kJ ha hb (.inl rfl);rw[<-vw u]at hz;refine pw ?_;refine cutP.mk [3,7] ?_ (keepOk.mk2 rfl rfl ?_ ?_ ?_) ?_
       .exact pd
       .exact pd
       .exact pd
       .right;exact pd
       .refine pw ?_;refine⟨k+1,u,b6,?_,rfl⟩;rw[hz];simp[yN]
    .rw[ww u]
def Kl{ls:List (List Iv)}:(zH ls).length<=(yU ls).length:=ju _
def zjo(a b:List Iv):(yU [a,b]).length<=1+2*a.length+2*b.length:=by have:=vq a;have:=vq b;simp[yU];omega
def zhw(a b:List Iv)(op:Nat)(ha:Nrm a)(hb:Nrm b)(ho:op<3)(I:a.length<=131072)(J:b.length<=131072):Cn xT 144 [rg a,rg b,.v (.int .i64 op)] (rg (qy (Qj op) a b)):=by
 have K:=zw;have B:=zjo a b;have E:=Kl (ls:=[a,b]);have hcut:∀c,c∈z6 a\/c∈z6 b->c∈zH [a,b]:=λc hc=>qr.2 (by simp[yU];exact .inr hc);have j:∀x∈zH [a,b],x<zk:=Ze (by simp;exact⟨λs hs=>(ha.lt s hs).1,λs hs=>(hb.lt s hs).1⟩);refine zt func144 3 ?_;refine pw ?_;refine callO.rd (VX [a,b] b8 b7 b6 (by simp;exact⟨ha.lt,hb.lt⟩)) rfl ?_;refine pw ?_;refine pLoop.go (λp:Nat×List Iv=>p.1<=(zH [a,b]).length/\DoInv (Qj op) a b (zH [a,b]) p.1 p.2) (λp=>[(8,.sl (p.2.map Q2) (.r 38 2)),(9,.v (.int .i64 (p.1:Nat)))]) (λ_=>[]) (λp=>(zH [a,b]).length-p.1) (0,[]) [8,9] ?_ ?_ ?_
 .exact⟨vj _,DoInv.zero _⟩
 .exact pd
 .rintro⟨i,u⟩ ⟨hi,o⟩;simp only at hi o;have C:=o.len;refine pw ?_;refine .i ?_ ?_<;>intro h<;>first|refine pw ?_|exact pd
  .refine callQ.mk (kU a _ b6) rfl ?_;refine pw ?_;refine callQ.mk (kU b _ b6) rfl ?_;refine pw ?_;refine callQ.mk (zi5 _ _ op ho) rfl ?_;obtain⟨F,G⟩:=o.step ha hb (x8 _) j hcut h;refine pw ?_;refine .i ?_ ?_<;>intro A<;>first|refine pw ?_|exact pd
   .refine callP.mk (zan _ i h b6 λy=>?_) rfl ?_
    .have:=jJ (x8 [a,b]) y (UE i);have:=j _ (X3 y);omega
    have H:=F A;have w:=j _ (X3 h);refine pw ?_;refine callO.mk (zlq u ⟨(zH [a,b])[i],if h:i+1<(zH [a,b]).length then (zH [a,b])[i+1]-1 else zk-1⟩ w (λt ht=>?_) b6) rfl ?_
    .have e:KD (zH [a,b]) i=(zH [a,b])[i]:=ut h;have:=o.lt t ht;have:=o.nrm.lt t ht;show _/\t.hi<(zH [a,b])[i];omega
    refine pw ?_;exact⟨(i+1,_),⟨h,H⟩,b6,rfl,rfl⟩
   .exact⟨(i+1,u),⟨h,G A⟩,b6,rfl,rfl⟩
  .obtain rfl:i=(zH [a,b]).length:=b6;rw[o.done ha hb]
def znf:Qj 0=zn:=rfl
def Kf(a b:List Iv)(ha:Nrm a)(hb:Nrm b)(j:a.length<=131072)(o:b.length<=131072):Cn xT 148 [rg a,rg b] (rg (qy zn a b)):=by refine zt func148 2 ?_;refine pw ?_;refine callP.mk (zhw a b 0 ha hb b6 j o) rfl ?_;refine pw ?_;rfl
def zq2(a b:List Iv)(ha:Nrm a)(hb:Nrm b)(j:a.length<=131072)(o:b.length<=131072):Cn xT 104 [rg a,rg b] (rg (qy fMeet a b)):=by refine zt func104 2 ?_;refine pw ?_;refine callP.mk (zhw a b 1 ha hb b6 j o) rfl ?_;refine pw ?_;rfl
def QE(a b:List Iv)(ha:Nrm a)(hb:Nrm b)(j:a.length<=131072)(o:b.length<=131072):Cn xT 178 [rg a,rg b] (rg (qy zm a b)):=by refine zt func178 2 ?_;refine pw ?_;refine callP.mk (zhw a b 2 ha hb b6 j o) rfl ?_;refine pw ?_;rfl
def zd6(s:Iv):Cn xT 49 [Je s] (.v (.bool (decide (s.lo<=s.hi)))):=by refine zt func49 1 ?_;exact pd
def y7(l:List Iv)(k:Nat):Option Iv:=if k=0 then none else l[k-1]?
def XO(l:List Iv)(A:l.length<=9223372036854775807)(hb:∀s∈l,s.lo<zk/\s.hi<zk):Cn xT 21 [rg l] (.tup [.v (.int .i64 (Zl l).1),.v (.int .i64 (Zl l).2)]):=by
 refine zt func21 1 ?_;refine pw ?_;refine pLoop.go (λk=>k<=l.length/\Zl l=QZ (y7 l k) (l.drop k) k) (λk=>[(4,.v (.int .i64 (k:Nat)))]) (λ_=>[]) (λk=>l.length-k) 0 [4] ?_ ?_ ?_
 .exact⟨vj _,rfl⟩
 .exact pd
 .rintro k ⟨hk,j⟩;refine pw ?_;refine .i ?_ ?_<;>intro h<;>first|refine pw ?_|exact pd
  .refine callP.mk (zd6 l[k]) rfl ?_;rw[Yj h]at j;refine pw ?_;refine .i ?_ ?_<;>intro w<;>first|refine pw ?_|exact pd
   .rw[V2 b6]at j;rw[j];rfl
   .rw[VS w]at j;have hs:y7 l (k+1)=some l[k]:=(by unfold y7;rw[V2 b6];exact Zv h);refine .i ?_ ?_<;>intro y<;>first|refine pw ?_|exact pd
    .have o:y7 l k=some l[k-1]:=(by unfold y7;rw[V2 b6,Zv]);rw[o]at j;refine callQ.mk (zd3 l[k-1] l[k] (hb _ (X3 _)).1 (hb _ (X3 _)).1) rfl ?_;refine pw ?_;refine .i ?_ ?_<;>intro u<;>first|refine pw ?_|exact pd
     .rw[V2 (dM u)]at j;rw[j];rfl
     .rw[VS (dM u)]at j;exact⟨k+1,⟨h,by rw[hs];exact j⟩,b6,rfl⟩
    .have o:y7 l k=none:=(by unfold y7;rw[VS b6]);rw[o]at j;exact⟨k+1,⟨h,by rw[hs];exact j⟩,b6,rfl⟩
  .rw[wE h]at j;rw[j];rfl
def zpM(l:List Iv):Bool:=decide ((Zl l).1=0)
def zpN{l:List Iv}(h:∀s∈l,s.hi<zk):zpM l=true↔Nrm l:=by rw[<-YT h];unfold zpM;simp
def zqs(l:List Iv)(j:l.length<=1152921504606846976)(hb:∀s∈l,s.lo<zk/\s.hi<zk):Cn xT 7 [rg l] (.v (.bool (zpM l))):=by refine zt func7 1 ?_;refine pw ?_;refine callP.mk (XO l b6 hb) rfl ?_;refine pw ?_;rfl
def n23:Nrm [⟨2,3⟩,⟨9,9⟩]:=by simp[Nrm,NF,zw]
def n01:Nrm [⟨0,1⟩,⟨4,8⟩]:=by simp[Nrm,NF,zw]
def n09:Nrm [⟨0,9⟩]:=by simp[Nrm,NF,zw]
def e1:qy zm [⟨0,9⟩] [⟨2,3⟩,⟨9,9⟩]=[⟨0,1⟩,⟨4,8⟩]:=vK n09 n23 n01 λx _=>by rw[WO];simp[mem,zm];omega
def e2:qy zn [⟨2,3⟩,⟨9,9⟩] [⟨0,1⟩,⟨4,8⟩]=[⟨0,9⟩]:=vK n23 n01 n09 λx _=>by rw[WO];simp[mem,zn];omega
def e4:qy zm [⟨2,3⟩,⟨9,9⟩] [⟨0,1⟩,⟨4,8⟩]=[⟨2,3⟩,⟨9,9⟩]:=vK n23 n01 n23 λx _=>by rw[WO];simp[mem,zm];omega
def e5:qy fMeet [⟨2,3⟩,⟨9,9⟩] [⟨0,1⟩,⟨4,8⟩]=[]:=vK n23 n01 trivial λx _=>by rw[WO];simp[mem,fMeet];omega
def e6:qy zm [⟨2,3⟩,⟨9,9⟩] [⟨0,1⟩,⟨4,8⟩]=[⟨2,3⟩,⟨9,9⟩]:=vK n23 n01 n23 λx _=>by rw[WO];simp[mem,zm];omega
def BdR(l:List Iv):Prop:=∀s∈l,s.lo<zk/\s.hi<zk
def ec(e:En):List PV:=[.v (.int .u64 e.rep),.v (.int .u64 e.max),rg e.holes]
def ep(e:En):PV:=.agg (ec e)
attribute [go_sem] ep ec
def zjh(a b:En)(w:a.holes.length<=1152921504606846976):Cn xT 83 [ep a,ep b] (.v (.bool (decide (a=b)))):=by
 refine zt func83 2 ?_;refine pw ?_;have j:(a=b)↔(a.rep=b.rep/\a.max=b.max/\a.holes=b.holes):=⟨λh=>by subst h;exact⟨rfl,rfl,rfl⟩,λh=>En.ext' h.1 h.2.1 h.2.2⟩;refine .i ?_ ?_<;>intro o<;>first|refine pw ?_|exact pd
 .refine .i ?_ ?_<;>intro u<;>first|refine pw ?_|exact pd
  .refine .c (zgI a.holes b.holes w) ?_;simp[j,o,u]
  .simp[j,u]
 .simp[j,o]
def hk(m:Nat):List Iv->Nat->Nat×Int
 |[],_=>(0,-1)
 |s::r,i=>if m<s.hi then (4,(i:Int)) else hk m r (i+1)
def yV(e:En):Nat×Int:=if (Zl e.holes).1=0 then hk e.max e.holes 0 else Zl e.holes
def K4(m:Nat):∀(l:List Iv)(i:Nat),(hk m l i).1=0↔∀s∈l,s.hi<=m
 |[],i=>by simp[hk]
 | s::r,i=>by
   have:=K4 m r (i+1);unfold hk;split
   .simp;omega
   .rw[this];simp;omega
def K3{m:Nat}{l:List Iv}{k:Nat}(h:k<l.length):hk m (l.drop k) k=if m<l[k].hi then (4,(k:Int)) else hk m (l.drop (k+1)) (k+1):=by rw[V1 h];rfl
def Xu(e:En):Bool:=decide ((yV e).1=0)
def VU{e:En}(h:∀s∈e.holes,s.lo<zk/\s.hi<zk)(u:e.max<zk)(w:e.rep<zk):Xu e=true↔zO e:=by
 have o:=YT (l:=e.holes) λs hs=>(h s hs).2;have hz:=K4 e.max e.holes 0;unfold Xu yV zO;rw[wJ];by_cases j:(Zl e.holes).1=0
 .rw[VS j,hz];exact⟨λg=>⟨o.1 j,g,u,w⟩,λg=>g.2.1⟩
 .rw[V2 j];exact⟨λg=>absurd g j,λg=>absurd (o.2 g.1) j⟩
def Vl(e:En)(h:zO e)(j:e.holes.length<=131072):Cn xT 181 [ep e] (rg (kn e)):=by refine zt func181 1 ?_;refine pw ?_;refine .c (QE [⟨0,e.max⟩] e.holes (qG (vj _) h.2.2.1) h.1 b8 j) ?_;rfl
def zg1(r:Nat)(l:List Iv)(j:Nrm l)(o:l.length<=131072):Cn xT 143 [.v (.int .u64 r),rg l] (.tup [ep (Qi r l).1,.v (.bool (Qi r l).2)]):=by
 refine zt func143 2 ?_;refine pw ?_;refine .i ?_ ?_<;>intro h<;>first|refine pw ?_|exact pd
 .subst h;rfl
 .have w:0<l.length:=Wb.2 (dM h);have ht:=Kr w;have u:=(x9 j (dM h)).2;try simp (maxSteps:=2000000) (disch:=omega) only[go_sem,seval,ht]
  repeat ((with_reducible refine And.intro ?_ ?_);focus exact yI)
  refine .c (QE [⟨0,QV l⟩] l (qG (vj _) u) j b8 o) ?_;rw[qD (dM h)]
def zgE(x:Nat)(o:x<zk):Cn xT 190 [.v (.int .u64 x)] (.tup [.v (.int .u64 (x-1:Nat)),.v (.bool (decide (x≠0)))]):=by
 have j:=zw;refine zt func190 1 ?_;refine pw ?_;refine .i ?_ ?_<;>intro h<;>first|refine pw ?_|exact pd
 .subst h;rfl
 .simp[h]
def zeq(x:Nat):Cn xT 173 [.v (.int .u64 x)] (Je ⟨0,x⟩):=by
 refine zt func173 1 ?_
 (first|refine pw ?_|exact pd)
 try rfl
def XZ(e:En)(h:zO e)(j:e.holes.length<=131072):Cn xT 194 [ep e] (rg (kn e)):=by refine zt func194 1 ?_;refine pw ?_;refine .c (zeq e.max) ?_;refine .c (zg0 e.holes ⟨0,e.max⟩ h.1 (vj _) h.2.2.1 b6) ?_;rfl
def zjT(r:Nat)(l:List Iv)(j:Nrm l)(w:l.length<=131072):Cn xT 133 [.v (.int .u64 r),rg l] (.tup [ep (Qi r l).1,.v (.bool (Qi r l).2)]):=by
 refine zt func133 2 ?_;refine pw ?_;refine .i ?_ ?_<;>intro h<;>first|refine pw ?_|exact pd
 .subst h;rfl
 .have u:0<l.length:=Wb.2 (dM h);have ht:=Kr u;have o:=(x9 j (dM h)).2;try simp (maxSteps:=2000000) (disch:=omega) only[go_sem,seval,ht]
  repeat ((with_reducible refine And.intro ?_ ?_);focus exact yI)
  refine .c (zeq (QV l)) ?_;refine .c (zg0 l ⟨0,QV l⟩ j (vj _) o b6) ?_;rw[qD (dM h)]
section
variable (a b:En)(ha:zO a)(hb:zO b)(la:a.holes.length<=10000)(lb:b.holes.length<=10000)
include ha hb la lb
end
def JQ{l:List Iv}(h:0<l.length):l=l.take (l.length-1)++[l[l.length-1]]:=by
 conv=>lhs;rw[<-Wh (l.length-1) l]
 congr 1;rw[V1 b6,wE b6]
def zeP(e:En)(h:zO e)(H:e.holes.length<=10000):Cn xT 189 [ep e] (.tup [ep (kP e).1,.v (.bool (kP e).2)]):=by
 have G:=zw;refine zt func189 1 ?_;refine pw ?_;refine pLoop.go (λf:En=>zO f/\f.rep=e.rep/\kn f=kn e/\f.holes.length<=e.holes.length) (λ_=>[]) (λf=>[ec f,[.v (.int .u64 0),.v (.int .u64 0),.sl [] .sh]]) (λf=>f.holes.length) e [] ?_ ?_ ?_
 .exact⟨h,rfl,rfl,Zp _⟩
 .exact pd
 .rintro f ⟨j,w,o,F⟩;have hc:YP f->Qi e.rep (kn e)=(f,true):=λhc=>(by rw[<-w,<-o];exact ZM hc);unfold kP;refine pw ?_;refine .i ?_ ?_<;>intro A<;>first|refine pw ?_|exact pd
  .have hs:=JQ A;have hb:=NF.lo_ge j.1 _ (X3 (show f.holes.length-1<f.holes.length by omega));have B:=j.2.2.1;refine pw ?_;refine .i ?_ ?_<;>intro u<;>first|refine pw ?_|exact pd
   .rw[hc (zcc j hs u)]
   .refine .c (zgE (f.holes[f.holes.length-1]).lo b6) ?_;refine .i ?_ ?_<;>intro y<;>first|refine pw ?_|exact pd
    .rw[<-o,Jl j hs u (dM y)];rfl
    .obtain⟨C,E⟩:=Jm j hs u (by first|omega|(simp at y;omega));refine⟨⟨f.rep,f.holes[f.holes.length-1].lo-1,f.holes.take (f.holes.length-1)⟩,⟨C,w,E.trans o,b7⟩,b7,?_⟩;exact pd
  .rw[hc (Xb j (wM b6))]
def zi9{n:Int}(h : -9223372036854775808<=n/\n<9223372036854775808):IntKind.i64.wrap n=n:=by simp only[IntKind.wrap,IntKind.bits,IntKind.signed];simp;omega
def KV(p:Nat->Prop)[DecidablePred p]:∀n,(∀i j,i<=j->j<n->p j->p i)->∃i,i<=n/\(∀j,j<i->p j)/\∀j,i<=j->j<n->¬p j
 |0,_=>⟨0,Zp _,λj h=>absurd h b6,λj w o=>absurd o b6⟩
 | n+1,h=>by
   by_cases A:p n
   .exact⟨n+1,Zp _,λj E=>h j n b6 b6 A,λj w o=>absurd o b6⟩
   .obtain⟨i,w,o,B⟩:=KV p n λi j u E=>h i j u b6;refine⟨i,b6,o,λj C F=>?_⟩;rcases wO j n with y|y
    .exact B j C y
    .obtain rfl:j=n:=b6;exact A
attribute [go_sem] zi9
def zhn(l:List Iv)(x:Nat)(g:FuncId)(c:Nat->Int)(i:Nat)(hi:i<=l.length)(G:∀j,j<i->c j<0)(H:∀j,i<=j->j<l.length->0<=c j)(I:l.length<=1152921504606846976)
 (w:∀k (h:k<l.length),Cn xT g [Je l[k],.v (.int .u64 x)] (.v (.int .i64 (c k)))):Cn xT 120 [rg l,.v (.int .u64 x),.fn (.func g) [] []] (.tup [.v (.int .i64 i),.v (.bool (decide (i<l.length) && decide (c i=0)))]):=by
 refine zt func120 3 ?_;refine pw ?_;refine pLoop.go (λp:Nat×Nat=>p.1<=i/\i<=p.2/\p.2<=l.length) (λp=>[(9,.v (.int .i64 (p.1:Nat))),(10,.v (.int .i64 (p.2:Nat)))]) (λ_=>[]) (λp=>p.2-p.1) (0,l.length) [9,10] ?_ ?_ ?_
 .exact⟨vj _,hi,Zp _⟩
 .exact pd
 .rintro⟨p,q⟩ ⟨C,E,F⟩;simp only at C E F;refine pw ?_;refine .i ?_ ?_<;>intro h<;>first|refine pw ?_|exact pd
  .have B:(p+q)/2<l.length:=b6;refine pw ?_
   (first|refine .c (w ((p+q)/2) B) ?_|refine .o (w ((p+q)/2) B) ?_)
   refine .i ?_ ?_<;>intro u<;>first|refine pw ?_|exact pd
   .refine⟨((p+q)/2+1,q),⟨?_,E,F⟩,by simp only;omega,rfl,rfl⟩;simp only;refine UF λA=>?_;have:=H _ A B;omega
   .refine⟨(p,(p+q)/2),⟨C,?_,by simp only;omega⟩,by simp only;omega,rfl,rfl⟩;simp only;refine uv λA=>?_;have:=G _ A;omega
  .obtain rfl:p=i:=b6;obtain rfl:q=p:=b6;refine .i ?_ ?_<;>intro u<;>first|refine pw ?_|exact pd
   ·(first|refine .c (w q u) ?_|refine .o (w q u) ?_)
    simp[u]
   .have y:¬q<l.length:=b6;simp[y]
def zd5(s:Iv)(x:Nat):Cn xT 121 [Je s,.v (.int .u64 x)] (.v (.int .i64 (if s.hi<x then -1 else if x<s.lo then 1 else 0))):=by
 refine zt func121 2 ?_;refine pw ?_;refine .i ?_ ?_<;>intro j<;>first|refine pw ?_|exact pd
 .rw[VS j]
 .rw[V2 b6];refine .i ?_ ?_<;>intro o<;>first|refine pw ?_|exact pd
  .rw[VS o]
  .rw[V2 b6]
def zdE{l:List Iv}(B:Nrm l)(x:Nat):∃i,i<=l.length/\(∀j,(h:j<l.length)->j<i->l[j].hi<x)/\(∀j,(h:j<l.length)->i<=j->x<=l[j].hi)/\(mem l x=true↔∃h:i<l.length,l[i].lo<=x):=by
 have mono:∀{n:Nat}{l:List Iv},NF n l->∀i j,(o:i<j)->(u:j<l.length)->l[i].hi<l[j].lo:=by
  intro n l;induction l generalizing n with
  |nil=>intro _ i j _ u;simp at u
  | cons s l ih=>
    intro h i j o u;obtain⟨C,rfl⟩:∃C,j=C+1:=⟨j-1,b6⟩;cases i with
    |zero=>have:=NF.lo_ge h.2.2.2 (l[C]'(dM u)) (X3 _);simp only[uF,WT];omega
    |succ i=>exact ih h.2.2.2 i C b6 (dM u)
 obtain⟨i,H,F,I⟩:=KV (λj=>∃h:j<l.length,l[j].hi<x) l.length λa b hab hb ⟨A,G⟩=>by
  refine⟨b6,?_⟩;rcases uJ hab with w|w
  .have:=mono B a b w hb;have:=NF.lo_ge B l[b] (X3 _);omega
  .subst w;exact G
 have y:∀j,(h:j<l.length)->i<=j->x<=l[j].hi:=λj u o=>by have:=I j o u;exact uv λh=>this ⟨u,h⟩
 refine⟨i,H,λj u E=>(F j E).2,y,?_⟩;rw[qf];constructor
 .rintro⟨s,hs,A,G⟩;obtain⟨j,u,rfl⟩:=Wr hs;have o:i<=j:=uv λh=>(by have:=(F j h).2;omega);refine⟨b6,?_⟩;rcases uJ o with w|w
  .have:=mono B i j w u;have:=NF.lo_ge B (l[i]'b6) (X3 _);omega
  .subst w;exact A
 .rintro⟨h,A⟩;exact⟨l[i],X3 _,A,y i h (Zp _)⟩
def zaT(x:Nat)(s:Iv):Int:=if s.hi<x then -1 else if x<s.lo then 1 else 0
def ziQ(l:List Iv)(x:Nat)(H:Nrm l)(I:l.length<=1152921504606846976):Cn xT 38 [rg l,.v (.int .u64 x)] (.v (.bool (mem l x))):=by
 obtain⟨i,E,F,B,G⟩:=zdE H x;have hF:Cn xT 82 [rg l,.v (.int .u64 x)] (.v (.int .i64 (if mem l x then (i:Int) else -1))):=by
  refine zt func82 2 ?_;refine pw ?_;refine .c (zhn l x 121 (λk=>if h:k<l.length then zaT x l[k] else 0) i E (λj A=>by rw[ut (show j<l.length by omega)];unfold zaT;rw[VS (F j b6 A)];decide) (λj A y=>by rw[ut y];unfold zaT;rw[V2 (by have:=B j y A;omega)];split<;>decide) I (λk h=>by rw[ut h];exact zd5 l[k] x)) ?_;have e:(decide (i<l.length) && decide ((if h:i<l.length then zaT x l[i] else 0)=0))=mem l x:=by
   rw[WO,G];simp only[wh,wJ];constructor
   .rintro⟨w,u⟩;refine⟨w,?_⟩;rw[ut w]at u;unfold zaT at u;split at u
    .cases u
    .split at u
     .cases u
     .omega
   .rintro⟨w,u⟩;refine⟨w,?_⟩;rw[ut w];unfold zaT;rw[V2 (by have:=B i w (Zp _);omega),V2 b6]
  rw[e];refine .i ?_ ?_<;>intro C<;>first|refine pw ?_|exact pd
  .rw[C];rfl
  .rw[C];rfl
 refine zt func38 2 ?_;refine pw ?_
 (first|refine .c (hF) ?_|refine .o (hF) ?_)
 cases mem l x<;>simp
def zoS(e:En)(c:Nat)(h:zO e)(u:e.holes.length<=1152921504606846976):Cn xT 91 [ep e,.v (.int .u64 c)] (.v (.bool (decide (c<=e.max) && !mem e.holes c))):=by
 refine zt func91 2 ?_;refine pw ?_;refine .i ?_ ?_<;>intro o<;>first|refine pw ?_|exact pd
 .refine .c (ziQ e.holes c h.1 u) ?_;simp[o]
 .have j:¬c<=e.max:=b6;simp[j]
def vp(v:List En):PV:=.sl (v.map ec) .sh
attribute [go_sem] vp
def ZL(e:En):Prop:=(∀s∈e.holes,s.lo<zk/\s.hi<zk)/\e.max<zk/\e.rep<zk
def ea:En:=⟨1,2,[]⟩
def eb:En:=⟨1,5,[⟨3,4⟩]⟩
def ed:En:=⟨1,5,[]⟩
section
variable (a b:En)(ha:ZL a)(hb:ZL b)
include ha hb
end
def ze4{D:Qk}{w:World}{x:Value}{v:List En}(h:Dat D w x (vp v))(F:∀b o,D b o->b<w.heap.size)(hb:∀e∈v,ZL e):RdV w.heap.size w x v:=by
 unfold vp at h;generalize G:v.map ec=es at h;cases h with
 |sl a cap sz es o b off u hc hz hm ha hsz hd hx=>have H:es.length=v.length:=(by rw[<-G];simp);refine⟨a,cap,by rw[H],b6,hm,λB=>?_⟩;have y:0<v.length:=Wb.2 B;have g:∀i (h:i<v.length),es[i]?=some (ec v[i]):=λi h=>(by rw[<-G];exact xo h);obtain rfl:3=sz:=hsz 0 _ (g 0 y);have A:es≠[]:=(by intro e;subst e;simp at H;omega);have j:b<w.heap.size:=F _ _ (hd 0 b6).1;refine⟨b,off,ha A,vj _,j,λi hi=>?_⟩;have K:=(hx i _ 0 _ (g i hi) rfl).v_inv;have e1:=(hx i _ 1 _ (g i hi) rfl).v_inv;have e2:=hx i _ 2 _ (g i hi) rfl;have C:=(hd (i*3+0) b6).2.1;have E:=(hd (i*3+1) b6).2.1;have J:=(hd (i*3+2) b6).2.1;rw[K]at C;rw[e1]at E;obtain⟨b1,b2,I⟩:=hb _ (X3 hi);exact⟨C,E,⟨_,J,je e2 F b1⟩,I,b2⟩
def ns(l:List Nat):PV:=.sl (l.map yN) .sh
attribute [go_sem] ns
def vL{D:Qk}{base:Nat}{w:World}{v:Value}{l:List Nat}(h:OwnN base w v l)(G:∀b o,base<=b->b<w.heap.size->D b o):Dat D w v (ns l):=by
 unfold ns;have u:(l.map yN).length=l.length:=b8
 rcases id h.2 with⟨rfl,F⟩|⟨g,A,E,rfl,H,I,J,hc,_⟩
 .obtain rfl:l=[]:=Wc.1 F;exact .sl none 0 1 [] .sh 0 0 (λ_=>undef) b8 (λh=>by cases h) dG (λh=>absurd rfl h) (λi e h=>by simp at h) (λj h=>by simp at h) (λi e j p h=>by simp at h)
 .rw[<-u];refine .sl _ A 1 _ .sh g 0 (λj=>.int .u64 (l.getD j 0:Nat)) (dM J) (λh=>by cases h) hc (λ_=>rfl) (λi e h=>?_) (λj C=>?_) (λi e j p B y=>?_)
  .simp only[wn,Z3]at h;obtain⟨s,_,rfl⟩:=h;rfl
  .simp only[wB,Up]at C;refine⟨G _ _ H (Y1.1 I).1,?_,rfl⟩;rw[wy,h.cellAt _ (dM C)];simp[C]
  .have hi:i<l.length:=(by have:=(ZZ.1 B).1;simpa using this);rw[xo hi]at B;cases B;match j,y with
   |0,y=>cases y;simp[hi];exact .v _
   |j+1,y=>simp[yN]at y
def KB{j:Array Value}(h:j.size=1):j=#[j.getD 0 undef]:=by
 obtain⟨l⟩:=j;match l,h with
 |[x],_=>rfl
def Yz(v:List En)(hb:∀e∈v,ZL e)(F:(zv v).length<=1073741824):Cn xT 171 [vp v] (ns (zv v)):=by refine Js rfl (enters_of func171 dN rfl) λD w H C y E=>?_;rw[KB y];refine(Q4 v _ w (ze4 (E 0 _ rfl) C hb) F).mono ?_;rintro e I ⟨u,rfl,G,j⟩;exact⟨u,rfl,j,vL G λb o A B=>.inr ⟨A,B⟩⟩
end
section
open Go.ChangeShapes Go.WideShapes Go.ChangeAt Go.Deep
def ZG(w:World):Nat->Nat->Prop:=λb _=>b<w.heap.size
def zhi(D:Qk)(w:World):List Value->List PV->Prop
 |[],[]=>True
 |v::l,p::ps=>Dat D w v p/\zhi D w l ps
 |_,_=>False
def XX{D:Qk}{w:World}:∀{l:List Value}{j:List PV},zhi D w l j->l.length=j.length/\∀(i:Nat) p,j[i]?=some p->Dat D w (l.getD i undef) p
 |[],[],_=>⟨rfl,λi p h=>by simp at h⟩
 | v::l,p::j,h=>by
   obtain⟨u,y⟩:=XX h.2;refine⟨by simp[u],λi q o=>?_⟩;cases i with
   |zero=>cases o;exact h.1
   |succ i=>simpa using y i q (dM o)
 |[],_::_,h=>h.elim
 |_::_,[],h=>h.elim
def zeZ{f:FuncId}{u:List PV}{l:List Value}{W:World}(h:Cn xT f u (.v (.bool true)))(j:GL (ZG W) W)(A:zhi (ZG W) W l u):Calls xT f l.toArray W λe o=>e=.returned (.bool true)/\Below W.heap.size W o:=by obtain⟨w,y⟩:=XX A;refine(h.2 (ZG W) W l.toArray j (λ_ _ h=>h) (dM w) (λi p B=>by have:=y i p B;simpa[Vm]using this)).mono ?_;rintro e o ⟨v,E,rfl,hb,_,_,_,C,_⟩;rw[C.v_inv];exact⟨rfl,hb⟩
section
variable {H:Type}{enc:TypeId×Value->H}{w:World}{base:Nat}{spare:Nat->Bool}{held:Bool}
def zrh{r:Reach}{u:Nat}{v:Value}{d:DataW H}{y:List MemPlace}(j:Value.okWide xT w r u 24 v)(h:DataW.Trod enc xT w base spare held 24 v d y):∃l,Dat (ZG w) w v (rg l)/\∀s∈l,s.lo<zk/\s.hi<zk:=by obtain⟨l,o⟩:=zpo j h;exact⟨l,jp o λ_ _ _ h=>h,o.bound⟩
end
end
section
def jS(c:Nat)(k:Int):PV:=if c=0 then .v .nilIface else .ifc 123 (.agg [.v (.int .i64 c),.v (.int .i64 k)])
def Z2(c:Nat):PV:=.ifc 83 (.v (.int .i64 c))
def ym(c:Nat)(k:Int):SubP 0 (jS c k) (jS c k):=.eq _ (by unfold jS;split<;>rfl)
def jT(c:Nat)(k:Int):Cn xT 74 [.v (.int .i64 c),.v (.int .i64 k)] (jS c k):=by
 refine zt func74 2 ?_;refine pw ?_;unfold jS;refine .i ?_ ?_<;>intro h<;>first|refine pw ?_|exact pd
 .rw[VS b6];exact pd
 .rw[V2 b6];exact pd
def v8(a b:Nat)(hb:b<zk):Cn xT 116 [.v (.int .u64 a),.v (.int .u64 b)] (.tup [.v (.int .u64 (b-a-1:Nat)),.v (.bool (decide (a<b)))]):=by
 have u:=zw;refine zt func116 2 ?_;refine pw ?_;refine .i ?_ ?_<;>intro h<;>first|refine pw ?_|exact pd
 .have j:¬a<b:=b6;have o:b-a-1=0:=b6;simp[j,o]
 .simp[h]
def zea(s:Iv):Cn xT 76 [Je s] (if s.lo<=s.hi then .v .nilIface else Z2 2):=by
 refine zt func76 1 ?_;refine pw ?_;refine .i ?_ ?_<;>intro h<;>first|refine pw ?_|exact pd
 .rw[V2 b6];unfold Z2;exact pd
 .rw[VS h];exact pd
def ziY(s t:Iv)(A:s.lo<=s.hi)(B:t.lo<=t.hi)(C:s.hi<zk)(E:t.hi<zk):Cn xT 77 [Je s,Je t] (.v (.int .i64 (relate s t:Nat))):=by
 have F:=zw;refine zt func77 2 ?_;refine pw ?_;refine .c (v8 s.hi t.lo b6) ?_;unfold relate;by_cases u:s.hi<t.lo
 .have j:¬t.hi<s.lo:=b6;by_cases w:s.hi+1=t.lo
  .have o:t.lo-s.hi-1=0:=b6;rw[VS u,VS w,o,uC u];refine pw ?_;refine .c (v8 t.hi s.lo b6) ?_;rw[WF j];exact pd
  .have o:0<t.lo-s.hi-1:=b6;rw[VS u,V2 w,uC u];refine pw ?_;refine .i ?_ ?_<;>intro y<;>first|refine pw ?_|exact pd
   .refine .c (v8 t.hi s.lo b6) ?_;rw[WF j];exact pd
   .exact absurd o b6
 .rw[V2 u,WF u];refine pw ?_;refine .c (v8 t.hi s.lo b6) ?_;by_cases j:t.hi<s.lo
  .by_cases w:t.hi+1=s.lo
   .have o:s.lo-t.hi-1=0:=b6;rw[VS j,VS w,o,uC j];exact pd
   .have o:0<s.lo-t.hi-1:=b6;rw[VS j,V2 w,uC j];refine pw ?_;refine .i ?_ ?_<;>intro y<;>first|refine pw ?_|exact pd
    exact absurd o b6
  .rw[V2 j,WF j];exact pd
def rcheck_c(l:List Iv)(hb:∀s∈l,s.lo<zk/\s.hi<zk)(L:l.length<=1152921504606846976)(w:(Zl l).1=0\/Cn xT 24 [Z2 2] (.v (.int .i64 2))):Cn xT 34 [rg l] (jS (Zl l).1 (Zl l).2):=by
 refine zt func34 1 ?_;refine pw ?_;refine pLoop.go (λk=>k<=l.length/\Zl l=QZ (y7 l k) (l.drop k) k/\∀j (h:j<l.length),j<k->l[j].lo<=l[j].hi) (λk=>[(8,.v (.int .i64 (k:Nat)))]) (λ_=>[]) (λk=>l.length-k) 0 [8] ?_ ?_ ?_
 .exact⟨vj _,rfl,λj _ h=>absurd h b6⟩
 .exact pd
 .rintro k ⟨hk,u,H⟩;refine pw ?_;refine .i ?_ ?_<;>intro h<;>first|refine pw ?_|exact pd
  .rw[Yj h]at u;have B:=hb _ (X3 h);refine .rd (zea l[k]) rfl ?_;by_cases A:l[k].lo<=l[k].hi
   .rw[VS A]at u⊢;have hs:y7 l (k+1)=some l[k]:=(by unfold y7;rw[V2 b6];exact Zv h);have y:∀j (G:j<l.length),j<k+1->l[j].lo<=l[j].hi:=λj G I=>by
     rcases wO j k with F|F
     .exact H j G F
     .obtain rfl:j=k:=b6;exact A
    refine pw ?_;refine .i ?_ ?_<;>intro J<;>first|refine pw ?_|exact pd
    .have E:y7 l k=some l[k-1]:=(by unfold y7;rw[V2 b6,Zv]);rw[E]at u;have C:=hb _ (X3 (show k-1<l.length by omega));refine .c (ziY l[k-1] l[k] (H (k-1) b6 b6) A C.2 B.2) ?_;refine .i ?_ ?_<;>intro K<;>first|refine pw ?_|exact pd
     .rw[V2 b6]at u;rw[u];refine .c (jT 3 (k:Nat)) ?_;exact ym _ _
     .rw[VS b6]at u;exact⟨k+1,⟨h,by rw[hs];exact u,y⟩,b6,rfl⟩
    .have E:y7 l k=none:=(by unfold y7;rw[VS b6]);rw[E]at u;exact⟨k+1,⟨h,by rw[hs];exact u,y⟩,b6,rfl⟩
   .rw[V2 A]at u⊢;unfold Z2 at w⊢;rcases w with w|w
    .rw[u]at w;cases w
    .refine pw ?_
     (first|refine .c (w) ?_|refine .o (w) ?_)
     rw[u];refine .c (jT 2 (k:Nat)) ?_;exact ym _ _
  .rw[wE h]at u;rw[u];exact .eq _ rfl
def zpJ(l:List Iv)(j:Nrm l)(o:l.length<=1152921504606846976):Cn xT 34 [rg l] (.v .nilIface):=by have hz:=(YT (l:=l) λs hs=>(j.lt s hs).2).2 j;have:=rcheck_c l j.lt o (.inl hz);unfold jS at this;rw[VS hz]at this;exact this
def zfH(u:Nat)(j:List PV)(o:Nat):JU u (.cp j o)=true:=rfl
attribute [go_sem] zfH
def za0(e:En)(hb:∀s∈e.holes,s.lo<zk/\s.hi<zk)(o:e.holes.length<=1152921504606846976)(j:(Zl e.holes).1=0\/Cn xT 24 [Z2 2] (.v (.int .i64 2))):Cn xT 160 [.cp (ec e) 0] (jS (Zl e.holes).1 (Zl e.holes).2):=by refine zt func160 1 ?_;refine pw ?_;refine .c (rcheck_c e.holes hb o j) ?_;exact ym _ _
def zaZ(e:En)(y:e.holes.length<=1152921504606846976):Cn xT 159 [.cp (ec e) 0] (jS (hk e.max e.holes 0).1 (hk e.max e.holes 0).2):=by
 refine zt func159 1 ?_;refine pw ?_;refine pLoop.go (λk=>k<=e.holes.length/\hk e.max e.holes 0=hk e.max (e.holes.drop k) k) (λk=>[(7,.v (.int .i64 (k:Nat)))]) (λ_=>[]) (λk=>e.holes.length-k) 0 [7] ?_ ?_ ?_
 .exact⟨vj _,rfl⟩
 .exact pd
 .rintro k ⟨w,j⟩;refine pw ?_;refine .i ?_ ?_<;>intro o<;>first|refine pw ?_|exact pd
  .rw[K3 o]at j;refine .i ?_ ?_<;>intro u<;>first|refine pw ?_|exact pd
   .rw[j,VS u];refine .c (jT 4 (k:Nat)) ?_;exact ym _ _
   .rw[V2 b6]at j;exact⟨k+1,⟨o,j⟩,b6,rfl⟩
  .rw[wE o]at j;rw[j];exact .eq _ rfl
def yk{x:Nat×Int}(h:x.1=0):jS x.1 x.2=.v .nilIface:=VS h
def vu{x:Nat×Int}(h:x.1≠0):jS x.1 x.2=.ifc 123 (.agg [.v (.int .i64 x.1),.v (.int .i64 x.2)]):=V2 h
def zcJ(e:En)(hb:∀s∈e.holes,s.lo<zk/\s.hi<zk)(o:e.holes.length<=1152921504606846976)(y:(Zl e.holes).1=0\/Cn xT 24 [Z2 2] (.v (.int .i64 2))):Cn xT 114 [ep e] (jS (yV e).1 (yV e).2):=by
 refine zt func114 1 ?_;refine pw ?_;refine pLoop.go (λk=>k<=2/\(1<=k->(Zl e.holes).1=0)/\(2<=k->(yV e).1=0)) (λk=>[(12,.v (.int .i64 (k:Nat)))]) (λ_=>[]) (λk=>2-k) 0 [12] ?_ ?_ ?_
 .exact⟨b6,λh=>absurd h b6,λh=>absurd h b6⟩
 .exact pd
 .rintro k ⟨A,u,w⟩;obtain rfl|rfl|rfl:k=0\/k=1\/k=2:=b6
  .refine pw ?_;refine .rd (za0 e hb o y) rfl ?_;by_cases hz:(Zl e.holes).1=0
   .rw[yk hz];refine pw ?_;exact⟨1,⟨b6,λ_=>hz,λh=>absurd h b6⟩,b6,rfl⟩
   .have e1:yV e=Zl e.holes:=V2 hz;rw[e1,vu hz];exact pd
  .have hz:=u b6;have e1:yV e=hk e.max e.holes 0:=VS hz;refine pw ?_;refine .rd (zaZ e o) rfl ?_;by_cases j:(hk e.max e.holes 0).1=0
   .rw[yk j];refine pw ?_;exact⟨2,⟨b6,λ_=>hz,λ_=>by rw[e1];exact j⟩,b6,rfl⟩
   .rw[e1,vu j];exact pd
  .have hz:=w b6;rw[yk hz];exact pd
def znN(e:En)(c:Nat)(u:e.holes.length<=1152921504606846976):Cn xT 175 [ep e,.v (.int .u64 c)] (.v (.bool (decide (c<=e.max) && !mem e.holes c))):=by
 refine zt func175 2 ?_;refine pw ?_;refine .i ?_ ?_<;>intro o<;>first|refine pw ?_|exact pd
 .refine .c (kU e.holes c u) ?_;simp[o]
 .have j:¬c<=e.max:=b6;simp[j]
def Jg{e:En}(h:zO e):ZL e:=⟨h.1.lt,h.2.2.1,h.2.2.2⟩
section
variable (a b:En)(c:Nat)(ha:ZL a)(hb:ZL b)(hc:c<zk)
include ha hb hc
end
def HG(w:World):Prop:=w.cell? ⟨1,0,none⟩=some (.iface 194 (.agg #[.pointer (some ⟨2,44,none⟩)]))
def HG.of{D:Qk}{w:World}(h:GL D w):HG w:=(h _ rfl).2
def HG.pos{w:World}(h:HG w):1<w.heap.size:=tz w ⟨1,0,none⟩ h
def HG.alloc{w:World}(h:HG w)(o:Obj):HG (w.alloc o):=by unfold HG;rw[tA _ _ ⟨1,0,none⟩ h.pos];exact h
def KK{f:FuncId}{C:List PV}{r:PV}(H:r.own=none)(u:∀j w,(callFunc f j).run xT w=.ok (.enter f j) w)
 (h:∀(D:Qk)(w:World)(y:Array Value),HG w->(∀b o,D b o->b<w.heap.size)->y.size=C.length->(∀(i:Nat) p,C[i]?=some p->Dat D w (y.getD i undef) p) ->
   Calls xT f y w λe A=>∃v,e=.returned v/\Below w.heap.size w A/\Dat (λb o=>D b o\/(w.heap.size<=b/\b<A.heap.size)) A v r):Cn xT f C r:=by
 refine⟨u,λD w y G E B F=>(h D w y (.of G) E B F).mono ?_⟩;rintro e A ⟨v,rfl,hb,I⟩;exact⟨v,_,rfl,hb,λb o h=>.inl h,λb o h=>h.imp id UY,λb o h=>h.elim (λh=>Vq (E b o h) hb.size) ui,I,zr H⟩
def zjw{j:Array Value}(h:j.size=1):j=#[j.getD 0 undef]:=by
 obtain⟨l⟩:=j;match l,h with
 |[x],_=>rfl
def zb4(c:Int)(w:World)(o:HG w):Calls xT 57 #[.iface 83 (.int .i64 c),.iface 121 (.pointer (some ⟨w.heap.size,0,none⟩))] (w.alloc (.cells #[.int .i64 0] 83))
 λev j=>ev=.returned (.bool true)/\Below w.heap.size w j/\j.cell? ⟨w.heap.size,0,none⟩=some (.int .i64 c):=by
 refine(As.as_NN c ⟨w.heap.size,0,none⟩ (.int .i64 0) _ (o.alloc _) b8 b8).mono ?_;rintro ev j ⟨rfl,rfl⟩;refine⟨rfl,?_,?_⟩
 .refine Tb (((((((tB _ w).alloc ?_ _).alloc ?_ _).alloc ?_ _).alloc ?_ _).alloc ?_ _)) ?_ _<;>simp<;>omega
 .refine t9 _ _ _ (u:=.int .i64 0) ?_;rw[tA _ _ ⟨w.heap.size,0,none⟩ b7,tA _ _ ⟨w.heap.size,0,none⟩ b7,tA _ _ ⟨w.heap.size,0,none⟩ b7,tA _ _ ⟨w.heap.size,0,none⟩ b8];simp
def zb3(c k:Int)(w:World)(o:HG w):Calls xT 57 #[.iface 123 (.agg #[.int .i64 c,.int .i64 k]),.iface 121 (.pointer (some ⟨w.heap.size,0,none⟩))] (w.alloc (.cells #[.int .i64 0] 83))
 λev j=>ev=.returned (.bool true)/\Below w.heap.size w j/\j.cell? ⟨w.heap.size,0,none⟩=some (.int .i64 c):=by
 refine(As.as_FN c k ⟨w.heap.size,0,none⟩ (.int .i64 0) _ (o.alloc _) b8 b8).mono ?_;rintro ev j ⟨rfl,rfl⟩;refine⟨rfl,?_,?_⟩
 .refine Tb ((((((((tB _ w).alloc ?_ _).alloc ?_ _).alloc ?_ _).alloc ?_ _).alloc ?_ _).alloc ?_ _)) ?_ _<;>simp<;>omega
 .refine t9 _ _ _ (u:=.int .i64 0) ?_;rw[tA _ _ ⟨w.heap.size,0,none⟩ b7,tA _ _ ⟨w.heap.size,0,none⟩ b7,tA _ _ ⟨w.heap.size,0,none⟩ b7,tA _ _ ⟨w.heap.size,0,none⟩ b7,tA _ _ ⟨w.heap.size,0,none⟩ b8];simp
def zcs(w:World):Calls xT 24 #[.nilIface] w λe j=>e=.returned (.int .i64 0)/\Below w.heap.size w j:=by
 go_enter func24,ntmps24
 go_wp2;go_ret;exact⟨rfl,(tB _ w).alloc (Zp _) _⟩
def zhu(c:Int)(w:World)(j:HG w):Calls xT 24 #[.iface 83 (.int .i64 c)] w λe o=>e=.returned (.int .i64 c)/\Below w.heap.size w o:=by
 go_enter func24,ntmps24
 go_wp2_with (go_at_call 57;refine(zb4 c w j).mono ?_;rintro e u ⟨rfl,hb,hc⟩)
 go_ret;exact⟨rfl,hb⟩
def zht(c k:Int)(w:World)(j:HG w):Calls xT 24 #[.iface 123 (.agg #[.int .i64 c,.int .i64 k])] w λe o=>e=.returned (.int .i64 c)/\Below w.heap.size w o:=by
 go_enter func24,ntmps24
 go_wp2_with (go_at_call 57;refine(zb3 c k w j).mono ?_;rintro e u ⟨rfl,hb,hc⟩)
 go_ret;exact⟨rfl,hb⟩
def z2:Obj:=.cells #[.int .i64 0,.int .i64 0] 123
def zaW{D:Qk}{w:World}{v:Value}{c:Int}{t:TypeId}(h:Dat D w v (.ifc t (.v (.int .i64 c)))):v=.iface t (.int .i64 c):=by
 cases h with
 |ifc t x p h=>rw[h.v_inv]
def zaX{D:Qk}{w:World}{v:Value}{c k:Int}{t:TypeId}(h:Dat D w v (.ifc t (.agg [.v (.int .i64 c),.v (.int .i64 k)]))):v=.iface t (.agg #[.int .i64 c,.int .i64 k]):=by
 cases h with
 | ifc t x p h=>
   generalize hc:[PV.v (.int .i64 c),PV.v (.int .i64 k)]=cs at h;cases h with
   | agg us cs hs _ h=>
     subst hc;obtain⟨l⟩:=us;match l,hs with
     |[x,y],_=>have j:=(h 0 _ rfl).v_inv;have e1:=(h 1 _ rfl).v_inv;simp at j e1;rw[j,e1]
def KL(c:Nat):Cn xT 24 [Z2 c] (.v (.int .i64 c)):=by refine KK rfl (enters_of func24 dN rfl) λD w A u y j o=>?_;rw[zjw j,zaW (o 0 _ rfl)];refine(zhu c w u).mono ?_;rintro e B ⟨rfl,hb⟩;exact⟨_,rfl,hb,.v _⟩
def Ju(c:Nat)(k:Int):Cn xT 24 [jS c k] (.v (.int .i64 c)):=by
 refine KK rfl (enters_of func24 dN rfl) λD w C y B o u=>?_;have j:=u 0 _ rfl;unfold jS at j;rw[zjw o];by_cases hc:c=0
 .rw[VS hc]at j;subst hc;rw[j.v_inv];refine(zcs w).mono ?_;rintro e A ⟨rfl,hb⟩;exact⟨_,rfl,hb,.v _⟩
 .rw[V2 hc]at j;rw[zaX j];refine(zht c k w y).mono ?_;rintro e A ⟨rfl,hb⟩;exact⟨_,rfl,hb,.v _⟩
def zcd(e:En)(h:zO e)(o:e.holes.length<=10000):Cn xT 182 [ep e] (.tup [ep (kP e).1,.v (.bool (kP e).2)]):=by have j:=kW e;refine zt func182 1 ?_;refine pw ?_;refine .c (Vl e h b6) ?_;refine .c (zg1 e.rep (kn e) (qT h) b6) ?_;rfl
def JF(v:List En):Bool:=v.all (λe=>decide (e.holes.length<=30)) && decide (v.length<=20)
def prv(v:List En)(k:Nat):Nat:=match v[k-1]? with
 |some p=>p.rep
 |none=>0
def Xl{v:List En}{k:Nat}(h:k-1<v.length):prv v k=v[k-1].rep:=by simp[prv,Zv h]
def hkV(v:List En):Nat->List En->Nat×Int
 |_,[]=>(0,-1)
 |k,e::r=>if (yV e).1≠0 then ((yV e).1,(k:Int)) else if 0<k/\e.rep<=prv v k then (3,(k:Int)) else hkV v (k+1) r
def jx(v:List En):Nat×Int:=hkV v 0 v
def Ve(v:List En):∀(k:Nat)(r:List En),r=v.drop k->((hkV v k r).1=0↔(∀e∈r,(yV e).1=0)/\∀j (h:j<v.length),k<=j->0<j->v[j-1].rep<v[j].rep)
 |k,[],h=>by have H:=WU List.length h;simp at H;simp only[hkV,List.not_mem_nil,false_implies,implies_true,Ut,true_iff];intro j C hk;omega
 | k,e::r,h=>by
   have H:=WU List.length h;simp at H;have hk:k<v.length:=b6;rw[V1 hk,Wk]at h;obtain⟨I,L⟩:=h;have ih:=Ve v (k+1) r L;unfold hkV;by_cases B:(yV e).1≠0
   .rw[VS B];constructor
    .intro h;exact absurd h B
    .rintro⟨o,_⟩;exact absurd (o e b8) B
   ·rw [V2 B];have E:(yV e).1=0:=b6;by_cases o:0<k/\e.rep<=prv v k
    .rw[VS o];constructor
     .intro h;cases h
     .rintro⟨_,w⟩;have:=w k hk (Zp _) o.1;have F:=o.2;have J:=WU En.rep I;rw[Xl b6]at F;omega
    .rw[V2 o,ih];constructor
     .rintro⟨w,G⟩;refine⟨λf y=>?_,λj C A u=>?_⟩
      .rcases wm.1 y with rfl|y
       .exact E
       .exact w f y
      .rcases uK A with rfl|K
       .rw[Xl b6,I]at o;omega
       .exact G j C b6 u
     .rintro⟨w,G⟩;exact⟨λf y=>w f (by simp[y]),λj C A u=>G j C b6 u⟩
def zb0{v:List En}(h:∀j (h:j<v.length),0<j->v[j-1].rep<v[j].rep):v.Pairwise λa b=>a.rep<b.rep:=by
 rw[wU];intro i j hi y o;induction j with
 |zero=>omega
 | succ j ih=>
   have u:=h (j+1) y b6;simp only[Nat.add_sub_cancel]at u;rcases uK (Nat.le_of_lt_succ o)with rfl|w
   .exact u
   .have:=ih b6 w;omega
def XP{v:List En}(hb:∀e∈v,ZL e):(jx v).1=0↔zsC v:=by
 unfold jx;rw[Ve v 0 v rfl];have B:∀e∈v,(yV e).1=0↔zO e:=λe o=>by have:=VU (hb e o).1 (hb e o).2.1 (hb e o).2.2;unfold Xu at this;simpa using this
 constructor
 .rintro⟨u,w⟩;exact⟨λe o=>(B e o).1 (u e o),zb0 λj y A=>w j y (vj _) A⟩
 .rintro⟨u,w⟩;refine⟨λe o=>(B e o).2 (u e o),λj y _ A=>?_⟩;exact wU.1 w (j-1) j b6 y b6
def fdV(r:Nat):Nat->List En->Int
 |_,[] =>-1
 |k,e::t=>if e.rep=r then (k:Int) else fdV r (k+1) t
def X2(r:Nat):∀(l:List En)(k:Nat),(fdV r k l=-1/\∀e∈l,e.rep≠r)\/∃(i:Nat) (h:i<l.length),fdV r k l=((k+i:Nat):Int)/\l[i].rep=r
 |[],k=>.inl ⟨rfl,λ_ h=>by cases h⟩
 | e::t,k=>by
   unfold fdV;by_cases h:e.rep=r
   .rw[VS h];exact .inr ⟨0,b8,b8,h⟩
   .rw[V2 h];rcases X2 r t (k+1)with⟨j,o⟩|⟨i,hi,j,o⟩
    .refine .inl ⟨j,λf u=>?_⟩;rcases wm.1 u with rfl|u
     .exact h
     .exact o f u
    .exact .inr ⟨i+1,dM hi,by rw[j];omega,dM o⟩
def zoo{v:List En}(h:zsC v)(r:Nat):∃i,i<=v.length/\(∀j,(h:j<v.length)->j<i->v[j].rep<r)/\(∀j,(h:j<v.length)->i<=j->r<=v[j].rep):=by
 have E:=wU.1 h.2;obtain⟨i,A,B,C⟩:=KV (λj=>∃h:j<v.length,v[j].rep<r) v.length λa b hab hb ⟨h4,h5⟩=>by
  refine⟨b6,?_⟩;rcases uJ hab with o|o
  .have:=E a b b6 hb o;omega
  .subst o;exact h5
 exact⟨i,A,λj w y=>(B j y).2,λj w u=>uv λh=>C j u w ⟨w,h⟩⟩
def zoj{v:List En}(B:zsC v){r i:Nat}(w:∀j,(h:j<v.length)->j<i->v[j].rep<r)(y:∀j,(h:j<v.length)->i<=j->r<=v[j].rep):
 fdV r 0 v=if h:i<v.length then (if v[i].rep=r then (i:Int) else -1) else -1:=by
 have A:=wU.1 B.2;rcases X2 r v 0 with⟨e1,e2⟩|⟨j,u,e1,e2⟩
 .rw[e1];split
  .rename_i h;rw[V2 (e2 _ (X3 h))]
  .rfl
 .have o:i<=j:=uv λh=>(by have:=w j u h;omega);have:i=j:=by
   rcases uJ o with h|h
   .have C:=A i j b6 u h;have E:=y i b6 (Zp _);omega
   .exact h
  subst this;rw[ut u,VS e2,e1,wy]
def zh8{v:List En}(j:zsC v){r i:Nat}(hi:i<v.length)(h:v[i].rep=r):zT v r=kn v[i]:=by rw[<-h];exact kq j.2 (X3 hi)
def zZ:List Nat->List Nat->Int
 |[],[]=>0
 |[],_::_ =>-1
 |_::_,[]=>1
 |a::x,b::y=>if a<b then -1 else if b<a then 1 else zZ x y
def ZV:∀a b,zZ b a=- zZ a b
 |[],[]=>rfl
 |[],_::_=>rfl
 |_::_,[]=>rfl
 | a::x,b::y=>by
   unfold zZ;split
   .rw[V2 b6];try rfl
   .split
    .rfl
    .exact ZV x y
def cmpL_zero:∀a b,zZ a b=0↔a=b
 |[],[]=>by simp[zZ]
 |[],_::_=>by simp[zZ]
 |_::_,[]=>by simp[zZ]
 | a::x,b::y=>by
   unfold zZ;rw[Wk];split
   .constructor
    .intro h;cases h
    .rintro⟨h,_⟩;omega
   .split
    .constructor
     .intro h;cases h
     .rintro⟨h,_⟩;omega
    .rw[cmpL_zero x y];constructor
     .intro h;exact⟨b6,h⟩
     .exact ui
def ZW:∀a b c,zZ a b<=0->zZ b c<=0->zZ a c<=0
 |[],_,[],_,_=>by simp[zZ]
 |[],_,_::_,_,_=>by simp[zZ]
 |_::_,[],_,h,_=>by simp[zZ]at h
 |_::_,_::_,[],_,h=>by simp[zZ]at h
 | a::x,b::y,c::z,h1,h2=>by
   unfold zZ at h1 h2⊢;split
   .omega
   .split at h1
    .split at h2
     .omega
     .split at h2
      .omega
      .omega
    .split at h1
     .omega
     .split at h2
      .omega
      .split at h2
       .omega
       .rw[V2 b6];exact ZW x y z h1 h2
def Yn:∀{a b:List Iv},a.flatMap (λs=>[s.lo,s.hi])=b.flatMap (λs=>[s.lo,s.hi])->a=b
 |[],[],_=>rfl
 |[],_::_,h=>by simp at h
 |_::_,[],h=>by simp at h
 |s::a,t::b,h=>by simp only[Wn,Yf,XV,Wk]at h;rw[Iv.ext' h.1 h.2.1,Yn h.2.2]
def xx(a:List Iv):(a.flatMap (λs=>[s.lo,s.hi])).length=2*a.length:=by
 induction a with
 |nil=>rfl
 |cons s a ih=>simp only[Wn,wu,wD,WB,ih];omega
def YA:∀{a b:List En} ,a.length=b.length->a.flatMap zC=b.flatMap zC->a=b
 |[],[],_,_=>rfl
 |[],_::_,h,_=>by simp at h
 |_::_,[],h,_=>by simp at h
 |e::a,f::b,hl,h=>by simp only[Wn,zC,Yf,Wk]at h;obtain⟨o,u,w,y⟩:=h;have j:=List.append_inj y (by rw[xx,xx,w]);rw[En.ext' o u (Yn j.1),YA (dM hl) j.2]
def Vv{a b:List En}(h:zv a=zv b):a=b:=by unfold zv at h;simp only[Wk]at h;exact YA h.1 h.2
def ZJ(v:List En)(i:Nat):List Nat:=v.length::(v.take i).flatMap zC
def Q7(v:List En)(i:Nat)(h:i<v.length)(j:Nat):List Nat:=ZJ v i++[v[i].rep,v[i].max,v[i].holes.length]++(v[i].holes.take j).flatMap λs=>[s.lo,s.hi]
def ziE(v:List En):ZJ v 0=[v.length]:=by simp[ZJ]
def VF{v:List En}{i:Nat}(h:¬i<v.length):ZJ v i=zv v:=by unfold ZJ zv;rw[ww b6]
def ziD{v:List En}{i:Nat}(h:i<v.length):Q7 v i h 0=ZJ v i++[v[i].rep,v[i].max,v[i].holes.length]:=by simp[Q7]
def zbu{v:List En}{i:Nat}(h:i<v.length){j:Nat}(o:j<v[i].holes.length):Q7 v i h (j+1)=Q7 v i h j++[v[i].holes[j].lo,v[i].holes[j].hi]:=by unfold Q7;rw[vw o,Wl];simp
def zdH{v:List En}{i:Nat}(h:i<v.length){j:Nat}(o:¬j<v[i].holes.length):Q7 v i h j=ZJ v (i+1):=by unfold Q7 ZJ;rw[ww (l:=v[i].holes) (i:=j) b6,vw h,Wl];simp[zC]
def vQ{v:List En}(h:∀e∈v,e.holes.length<=1048576):∀i,i<=v.length->(ZJ v i).length<=1+2097155*i
 |0,_=>by simp[ZJ]
 |i+1,hi=>by have ih:=vQ h i b6;have j:=h _ (X3 (show i<v.length by omega));unfold ZJ at ih⊢;rw[vw (show i<v.length by omega),Wl];simp only[wD,wu,Wn,UD,We,zC,xx]at ih⊢;omega
def zdI{v:List En}(hb:∀e∈v,e.holes.length<=1048576){i:Nat}(h:i<v.length){j:Nat}(o:j<=v[i].holes.length):(Q7 v i h j).length<=4+2097155*i+2*j:=by have:=vQ hb i b6;unfold Q7;simp only[wu,wD,WB,xx,Wi];omega
def zdn(x:Nat):Cn xT 197 [.v (.int .u64 x)] (.v (.bool false)):=by refine zt func197 1 ?_;exact pd
def zdm(x:Int):Cn xT 222 [.v (.int .i64 x)] (.v (.bool false)):=by refine zt func222 1 ?_;exact pd
def XQ(x y:Nat):Cn xT 161 [.v (.int .u64 x),.v (.int .u64 y)] (.v (.int .i64 (if x<y then -1 else if y<x then 1 else 0))):=by
 refine zt func161 2 ?_;refine pw ?_;refine .c (zdn x) ?_;refine .c (zdn y) ?_;refine .i ?_ ?_<;>intro j<;>first|refine pw ?_|exact pd
 .rw[VS j]
 .rw[V2 b6];refine .i ?_ ?_<;>intro o<;>first|refine pw ?_|exact pd
  .rw[VS o]
  .rw[V2 b6]
def zhq(x y:Nat):Cn xT 210 [.v (.int .i64 x),.v (.int .i64 y)] (.v (.int .i64 (if x<y then -1 else if y<x then 1 else 0))):=by
 refine zt func210 2 ?_;refine pw ?_;refine .c (zdm x) ?_;refine .c (zdm y) ?_;refine .i ?_ ?_<;>intro j<;>first|refine pw ?_|exact pd
 .rw[VS j]
 .rw[V2 b6];refine .i ?_ ?_<;>intro o<;>first|refine pw ?_|exact pd
  .rw[VS o]
  .rw[V2 b6]
def zkx(r:Nat)(e:En):Cn xT 115 [.v (.int .u64 r),ep e] (.v (.int .i64 (if e.rep<r then -1 else if r<e.rep then 1 else 0))):=by refine zt func115 2 ?_;refine pw ?_;exact .d (XQ e.rep r)
def zfV(a b:List Nat)(ha:a.length<=1152921504606846976)(hb:b.length<=1152921504606846976):Cn xT 170 [ns a,ns b] (.v (.int .i64 (zZ a b))):=by
 refine zt func170 2 ?_;refine pw ?_;obtain⟨m,e1,C,E,u⟩:∃m:Nat,(if b.length<a.length then (b.length:Int) else (a.length:Int))=(m:Int)/\m<=a.length/\m<=b.length/\(m=a.length\/m=b.length):=by
  by_cases h:b.length<a.length
  .exact⟨b.length,VS h,b6,b6,.inr rfl⟩
  .exact⟨a.length,V2 h,b6,b6,.inl rfl⟩
 rw[e1];refine pLoop.go (λk=>k<=m/\zZ a b=zZ (a.drop k) (b.drop k)) (λk=>[(11,.v (.int .i64 (k:Nat)))]) (λ_=>[]) (λk=>m-k) 0 [11] ?_ ?_ ?_
 .exact⟨vj _,rfl⟩
 .exact pd
 .rintro k ⟨hk,j⟩;refine pw ?_;refine .i ?_ ?_<;>intro h<;>first|refine pw ?_|exact pd
  .have w:k<a.length:=b6;have A:k<b.length:=b6;rw[V1 w,V1 A,zZ]at j;refine pw ?_;refine .i ?_ ?_<;>intro F<;>first|refine pw ?_|exact pd
   .refine .c (XQ a[k] b[k]) ?_;rw[j];by_cases o:a[k]<b[k]
    .rw[VS o,VS o]
    .rw[V2 o,V2 o,VS b6,VS b6]
   .rw[V2 b6,V2 b6]at j;exact⟨k+1,⟨h,j⟩,b6,rfl⟩
  .refine .c (zhq a.length b.length) ?_;have B:a.drop k=[]\/b.drop k=[]:=by
    rcases u with u|u
    .exact .inl (wE b6)
    .exact .inr (wE b6)
   have la:(a.drop k).length=a.length-k:=ug;have lb:(b.drop k).length=b.length-k:=ug;rw[j];generalize a.drop k=x at *;generalize b.drop k=y at *;rcases B with rfl|rfl
   .cases y with
    |nil=>simp at la lb;rw[V2 b6,V2 b6];rfl
    |cons c y=>simp at la lb;rw[VS b6];rfl
   .cases x with
    |nil=>simp at la lb;rw[V2 b6,V2 b6];rfl
    |cons c y=>simp at la lb;rw[V2 b6,VS b6];rfl
def Ks(a b:List En)(ha:∀e∈a,ZL e)(hb:∀e∈b,ZL e)(la:(zv a).length<=1073741824)(lb:(zv b).length<=1073741824):Cn xT 129 [vp a,vp b] (.v (.int .i64 (zZ (zv a) (zv b)))):=by refine zt func129 2 ?_;refine pw ?_;refine .c (Yz a ha la) ?_;refine .c (Yz b hb lb) ?_;exact .d (zfV (zv a) (zv b) b6 b6)
def zji(a b:List En)(B:a.length<=1152921504606846976)(A:∀e∈a,e.holes.length<=1152921504606846976):Cn xT 40 [vp a,vp b] (.v (.bool (decide (a=b)))):=by
 refine zt func40 2 ?_;refine pw ?_;refine .i ?_ ?_<;>intro o<;>first|refine pw ?_|exact pd
 .symm;rw[Wy];rintro rfl;exact o rfl
 .have w:a.length=b.length:=(dM o);clear o;refine pLoop.go (λk=>k<=a.length/\(a=b↔a.drop k=b.drop k)) (λk=>[(5,.v (.int .i64 (k:Nat)))]) (λ_=>[]) (λk=>a.length-k) 0 [5] ?_ ?_ ?_
  .exact⟨vj _,UL⟩
  .exact pd
  .rintro k ⟨hk,j⟩;refine pw ?_;refine .i ?_ ?_<;>intro h<;>first|refine pw ?_|exact pd
   .have u:k<b.length:=b6;rw[V1 h,V1 u,Wk]at j;refine pw ?_;refine .c (zjh a[k] b[k] (A _ (X3 h))) ?_;refine .i ?_ ?_<;>intro e<;>first|refine pw ?_|exact pd
    .symm;rw[Wy];intro y;exact e (j.1 y).1
    .refine⟨k+1,⟨h,?_⟩,b6,rfl⟩;rw[j];exact⟨λh=>h.2,λh=>⟨e,h⟩⟩
   .rw[eq_comm,wJ,j,wE b6,wE b6]
def zbB(v:List En)(r:Nat)(u:v.length<=1152921504606846976):Cn xT 174 [vp v,.v (.int .u64 r)] (.v (.int .i64 (fdV r 0 v))):=by
 refine zt func174 2 ?_;refine pw ?_;refine pLoop.go (λk=>k<=v.length/\fdV r 0 v=fdV r k (v.drop k)) (λk=>[(5,.v (.int .i64 (k:Nat)))]) (λ_=>[]) (λk=>v.length-k) 0 [5] ?_ ?_ ?_
 .exact⟨vj _,rfl⟩
 .exact pd
 .rintro k ⟨hk,j⟩;refine pw ?_;refine .i ?_ ?_<;>intro h<;>first|refine pw ?_|exact pd
  .rw[V1 h,fdV]at j;refine pw ?_;refine .i ?_ ?_<;>intro o<;>first|refine pw ?_|exact pd
   .rw[j,VS o]
   .rw[V2 o]at j;exact⟨k+1,⟨h,j⟩,b6,rfl⟩
  .rw[j,wE b6];rfl
def kfn:PV:=.cp [.fn (.func 115) [] []] 0
attribute [go_sem] kfn
def znQ(e:En)(r:Nat):Cn xT 132 [ep e,.v (.int .u64 r),kfn] (.v (.int .i64 (if e.rep<r then -1 else if r<e.rep then 1 else 0))):=by refine zt func132 3 ?_;refine pw ?_;exact .d (zkx r e)
def zoR(v:List En)(r:Nat)(i:Nat)(hi:i<=v.length)(G:∀j,(h:j<v.length)->j<i->v[j].rep<r)(y:∀j,(h:j<v.length)->i<=j->r<=v[j].rep)(H:v.length<=1152921504606846976):
 Cn xT 131 [vp v,.v (.int .u64 r),.fn (.func 132) [] [kfn]] (.tup [.v (.int .i64 i),.v (.bool (if h:i<v.length then decide (v[i].rep=r) else false))]):=by
 refine zt func131 3 ?_;refine pw ?_;refine pLoop.go (λp:Nat×Nat=>p.1<=i/\i<=p.2/\p.2<=v.length) (λp=>[(9,.v (.int .i64 (p.1:Nat))),(10,.v (.int .i64 (p.2:Nat)))]) (λ_=>[]) (λp=>p.2-p.1) (0,v.length) [9,10] ?_ ?_ ?_
 .exact⟨vj _,hi,Zp _⟩
 .exact pd
 .rintro⟨p,q⟩ ⟨B,C,E⟩;simp only at B C E;refine pw ?_;refine .i ?_ ?_<;>intro h<;>first|refine pw ?_|exact pd
  .have A:(p+q)/2<v.length:=b6;have F:=G _ A;have w:=y _ A;refine pw ?_;refine .c (znQ v[(p+q)/2] r) ?_;refine .i ?_ ?_<;>intro o<;>first|refine pw ?_|exact pd
   .refine⟨((p+q)/2+1,q),⟨?_,C,E⟩,by simp only;omega,rfl,rfl⟩;simp only;refine UF λu=>?_;have:=w u;rw[V2 b6]at o;split at o<;>omega
   .refine⟨(p,(p+q)/2),⟨B,?_,by simp only;omega⟩,by simp only;omega,rfl,rfl⟩;simp only;refine uv λu=>?_;have:=F u;rw[VS this]at o;omega
  .obtain rfl:p=i:=b6;obtain rfl:q=p:=b6;refine .i ?_ ?_<;>intro o<;>first|refine pw ?_|exact pd
   .refine .c (znQ v[q] r) ?_;have w:=y _ o (Zp _);rw[ut o,V2 b6];by_cases u:v[q].rep=r
    .rw[V2 b6,uC u];simp
    .rw[VS b6,WF u];simp
   .rw[UT b6]
def zoK(v:List En)(r:Nat)(w:zsC v)(y:v.length<=1152921504606846976):Cn xT 90 [vp v,.v (.int .u64 r)] (.v (.int .i64 (fdV r 0 v))):=by
 obtain⟨i,hi,j,o⟩:=zoo w r;rw[zoj w j o];refine zt func90 2 ?_;refine pw ?_;refine .c (zoR v r i hi j o y) ?_;by_cases h:i<v.length
 .rw[ut h,ut h];refine .i ?_ ?_<;>intro u<;>first|refine pw ?_|exact pd
  .rw[V2 u]
  .rw[VS u]
 .rw[UT h,UT h];exact pd
def zo6(v:List En)(r c:Nat)(j:zsC v)(hc:c<zk)(u:v.length<=1152921504606846976)(o:∀e∈v,e.holes.length<=1152921504606846976):Cn xT 48 [vp v,.v (.int .u64 r),.v (.int .u64 c)] (.v (.bool (mem (zT v r) c))):=by
 refine zt func48 3 ?_;refine pw ?_;refine .rd (zoK v r j u) rfl ?_;rcases X2 r v 0 with⟨e1,e2⟩|⟨i,hi,e1,e2⟩
 .rw[e1,qC e2];refine pw ?_;rfl
 .rw[e1,zh8 j hi e2,vC (j.1 _ (X3 hi)) hc,wy];refine pw ?_;exact .d (zoS v[i] c (j.1 _ (X3 hi)) (o _ (X3 hi)))
def zl8(v:List En)(r c:Nat)(j:zsC v)(hc:c<zk)(u:v.length<=1152921504606846976)(o:∀e∈v,e.holes.length<=1152921504606846976):Cn xT 138 [vp v,.v (.int .u64 r),.v (.int .u64 c)] (.v (.bool (mem (zT v r) c))):=by
 refine zt func138 3 ?_;refine pw ?_;refine .rd (zbB v r u) rfl ?_;rcases X2 r v 0 with⟨e1,e2⟩|⟨i,hi,e1,e2⟩
 .rw[e1,qC e2];refine pw ?_;rfl
 .rw[e1,zh8 j hi e2,vC (j.1 _ (X3 hi)) hc,wy];refine pw ?_;exact .d (znN v[i] c (o _ (X3 hi)))
def zes(v:List En)(hb:∀e∈v,ZL e)(G:v.length<=1152921504606846976)(E:∀e∈v,e.holes.length<=1152921504606846976):Cn xT 75 [vp v] (jS (jx v).1 (jx v).2):=by
 refine zt func75 1 ?_;refine pw ?_;refine pLoop.go (λk=>k<=v.length/\jx v=hkV v k (v.drop k)) (λk=>[(8,.v (.int .i64 (k:Nat)))]) (λ_=>[]) (λk=>v.length-k) 0 [8] ?_ ?_ ?_
 .exact⟨vj _,rfl⟩
 .exact pd
 .rintro k ⟨hk,j⟩;refine pw ?_;refine .i ?_ ?_<;>intro h<;>first|refine pw ?_|exact pd
  ·rw [V1 h,hkV]at j;have y:=hb _ (X3 h);have A:=E _ (X3 h);have u:=Ju (yV v[k]).1 (yV v[k]).2;refine pw ?_;refine .rd (zcJ v[k] y.1 A (.inr (KL 2))) rfl ?_;by_cases hz:(yV v[k]).1=0
   .rw[yk hz];rw[V2 b6]at j;refine pw ?_;refine .i ?_ ?_<;>intro C<;>first|refine pw ?_|exact pd
    .have F:=Xl (v:=v) (k:=k) b6;rw[F]at j;refine pw ?_;refine .c (zkx v[k-1].rep v[k]) ?_;refine .i ?_ ?_<;>intro w<;>first|refine pw ?_|exact pd
     .have B:v[k].rep<=v[k-1].rep:=by split at w<;>(try split at w)<;>omega
      rw[VS ⟨C,B⟩]at j;rw[j];refine .c (jT 3 k) ?_;exact ym _ _
     .have B:¬v[k].rep<=v[k-1].rep:=by split at w<;>(try split at w)<;>omega
      rw[V2 (λh=>b6)]at j;exact⟨k+1,⟨h,j⟩,b6,rfl⟩
    .rw[V2 (λh=>b6)]at j;exact⟨k+1,⟨h,j⟩,b6,rfl⟩
   .rw[VS hz]at j;rw[j];rw[vu hz]at u⊢;refine pw ?_
    (first|refine .c (u) ?_|refine .o (u) ?_)
    refine .c (jT (yV v[k]).1 k) ?_;exact ym _ _
  .rw[j,wE b6];exact .eq _ rfl
def yY{v:List En}{k:Nat}(h:k<v.length):zi (v.take (k+1))=if (kP v[k]).2 then zi (v.take k)++[(kP v[k]).1] else zi (v.take k):=by
 unfold zi;rw[vw h,td];simp only[uR,UZ,QX];split
 .rename_i h1;split at h1
  .cases h1
  .rename_i h2;rw[V2 h2,We]
 .rename_i h1;split at h1
  .rename_i h2;cases h1;rw[VS h2]
  .cases h1
def ZU(v:List En)(k:Nat):(zi (v.take k)).length<=k:=by have:=Ul QX (v.take k);have j:(v.take k).length<=k:=uS _ _;unfold zi;omega
def zer(v:List En)(w:zsC v)(y:v.length<=1048576)(u:∀e∈v,e.holes.length<=10000):Cn xT 152 [vp v] (vp (zi v)):=by
 refine zt func152 1 ?_;refine pw ?_;refine pLoop.go (λk=>k<=v.length) (λk=>[(3,.sl ((zi (v.take k)).map ec) (.r 23 3)),(10,.v (.int .i64 (k:Nat)))]) (λ_=>[]) (λk=>v.length-k) 0 [3,10] ?_ ?_ ?_
 .exact vj _
 .refine pw ?_;rfl
 .rintro k hk;have o:=ZU v k;refine pw ?_;refine .i ?_ ?_<;>intro h<;>first|refine pw ?_|exact pd
  .refine .c (zeP v[k] (w.1 _ (X3 h)) (u _ (X3 h))) ?_;refine .i ?_ ?_<;>intro j<;>first|refine pw ?_|exact pd
   .refine⟨k+1,h,b6,?_,rfl⟩;rw[yY h,VS j];simp;rfl
   .refine⟨k+1,h,b6,?_,rfl⟩;rw[yY h,V2 (dM j)]
  .rw[ww b6]
def Ka(v:List En)(w:zsC v)(y:v.length<=1048576)(u:∀e∈v,e.holes.length<=10000):Cn xT 146 [vp v] (vp (zi v)):=by
 refine zt func146 1 ?_;refine pw ?_;refine pLoop.go (λk=>k<=v.length) (λk=>[(3,.sl ((zi (v.take k)).map ec) (.r 25 3)),(4,.v (.int .i64 (k:Nat)))]) (λ_=>[]) (λk=>v.length-k) 0 [3,4] ?_ ?_ ?_
 .exact vj _
 .refine pw ?_;rfl
 .rintro k hk;have o:=ZU v k;refine pw ?_;refine .i ?_ ?_<;>intro h<;>first|refine pw ?_|exact pd
  .refine .c (zcd v[k] (w.1 _ (X3 h)) (u _ (X3 h))) ?_;refine .i ?_ ?_<;>intro j<;>first|refine pw ?_|exact pd
   .refine⟨k+1,h,b6,?_,rfl⟩;rw[yY h,VS j];simp;rfl
   .refine⟨k+1,h,b6,?_,rfl⟩;rw[yY h,V2 (dM j)]
  .rw[ww b6]
def kE(v:List En)(B:v.length<=1024)(u:∀e∈v,e.holes.length<=1048576):Cn xT 183 [vp v] (ns (zv v)):=by
 have y:=zw;refine zt func183 1 ?_;refine pw ?_;refine pLoop.go (λi=>i<=v.length) (λi=>[(3,.sl ((ZJ v i).map yN) (.r 9 1)),(4,.v (.int .i64 (i:Nat)))]) (λ_=>[]) (λi=>v.length-i) 0 [3,4,9] ?_ ?_ ?_
 .exact vj _
 .rw[ziE];exact pd
 .rintro i hi;have o:=vQ u i hi;refine pw ?_;refine .i ?_ ?_<;>intro h<;>first|refine pw ?_|exact pd
  .have A:=u _ (X3 h);refine pw ?_;refine cutP.full rfl ?_ rfl ?_ ?_
   .exact pd
   .exact pd
   refine pw ?_;refine pLoop.go (λj=>j<=v[i].holes.length) (λj=>[(3,.sl ((Q7 v i h j).map yN) (.r 9 1)),(5,.v (.int .i64 (j:Nat)))]) (λ_=>[]) (λj=>v[i].holes.length-j) 0 [3,5,35,16] ?_ ?_ ?_
   .exact vj _
   .rw[ziD];refine pw ?_;simp[yN]
   .rintro j w;have o:=zdI u h w;refine pw ?_;refine .i ?_ ?_<;>intro hc<;>first|refine pw ?_|exact pd
    .refine cutP.full rfl ?_ rfl ?_ ?_
     .exact pd
     .exact pd
     refine pw ?_;refine⟨j+1,hc,b6,?_,rfl⟩;rw[zbu h hc];simp[yN]
    .refine⟨i+1,h,b6,?_,rfl⟩;rw[zdH h b6]
  .rw[VF b6]
def Xp(a b:List En)(ha:∀e∈a,e.holes.length<=1048576)(hb:∀e∈b,e.holes.length<=1048576)(la:a.length<=1024)(lb:b.length<=1024):Cn xT 147 [vp a,vp b] (.v (.int .i64 (zZ (zv a) (zv b)))):=by
 have I:=vQ ha a.length (Zp _);have J:=vQ hb b.length (Zp _);rw[VF b6]at I J;refine zt func147 2 ?_;refine pw ?_;refine .c (kE a la ha) ?_;refine .c (kE b lb hb) ?_;generalize zv a=x at *;generalize zv b=y at *;refine pLoop.go (λk=>k<=x.length/\k<=y.length/\zZ x y=zZ (x.drop k) (y.drop k)) (λk=>[(7,.v (.int .i64 (k:Nat)))]) (λ_=>[]) (λk=>x.length-k) 0 [7] ?_ ?_ ?_
 .exact⟨vj _,vj _,rfl⟩
 .exact pd
 .rintro k ⟨F,G,o⟩;refine pw ?_;have j:¬(k<x.length/\k<y.length)->(if x.length<y.length then (-1:Int) else if y.length<x.length then 1 else 0)=zZ x y:=λH=>by
   have la:(x.drop k).length=x.length-k:=ug;have lb:(y.drop k).length=y.length-k:=ug;rw[o];cases hx:x.drop k with
   | nil=>
     rw[hx]at la;cases hy:y.drop k with
     |nil=>rw[hy]at lb;simp at la lb;rw[V2 b6,V2 b6];rfl
     |cons c z=>rw[hy]at lb;simp at la lb;rw[VS b6];rfl
   | cons c z=>
     rw[hx]at la;cases hy:y.drop k with
     |nil=>rw[hy]at lb;simp at la lb;rw[V2 b6,VS b6];rfl
     |cons d u=>rw[hy]at lb;simp at la lb;exact absurd ⟨b6,b6⟩ H
  have E:¬(k<x.length/\k<y.length)->True:=λ_=>trivial;refine .i ?_ ?_<;>intro B<;>first|refine pw ?_|exact pd
  .refine .i ?_ ?_<;>intro C<;>first|refine pw ?_|exact pd
   .rw[V1 B,V1 C,zZ]at o;refine pw ?_;refine .i ?_ ?_<;>intro w<;>first|refine pw ?_|exact pd
    .rw[o,VS w]
    .refine .i ?_ ?_<;>intro A<;>first|refine pw ?_|exact pd
     .rw[o,V2 b6,VS A]
     .rw[V2 b6,V2 b6]at o;exact⟨k+1,⟨B,C,o⟩,b6,rfl⟩
   .rw[<-j b6];refine .i ?_ ?_<;>intro w<;>first|refine pw ?_|exact pd
    .rw[VS w]
    .refine .i ?_ ?_<;>intro A<;>first|refine pw ?_|exact pd
     .rw[V2 b6,VS A]
     .rw[V2 b6,V2 b6]
  .rw[<-j b6];refine .i ?_ ?_<;>intro w<;>first|refine pw ?_|exact pd
   .rw[VS w]
   .refine .i ?_ ?_<;>intro A<;>first|refine pw ?_|exact pd
    .rw[V2 b6,VS A]
    .rw[V2 b6,V2 b6]
end
section
open Go.Maps
abbrev DV:=DataW Value
def rV(v:Value):Option (DV×List MemPlace):=some (.held v,[])
def zP:Value:=.agg #[.slice none 0 0,.slice none 0 0]
def kR(r:Nat):Lit:=.int .u64 (r:Nat)
def vF:Keyed xT 36 := int_keyed underlying36
def zeC(w:World):(zeroValue 243).run xT w=.ok zP w:=dN
def Zq{r:Nat}(h:r<zk):keyOf xT 36 (.int .u64 (r:Nat))=some (kR r):=by rw[zw]at h;refine keyOf_int_mk underlying36 ?_;simp[Lit.wf,IntKind.min,IntKind.max,IntKind.signed,IntKind.bits];omega
def Qc(r:Nat):WideAt.IsKeyLit (kR r):=trivial
def Xa{r s:Nat}(h:kR r=kR s):r=s:=by unfold kR at h;injection h with _ h;omega
def DL(C:Qk)(j:Nat)(w:World):Nat->Nat->Prop:=λb o=>C b o\/(j<b/\b<w.heap.size)
def rdF(C:Qk)(w:World)(b o:Nat)(e:En):Prop:=w.cell? ⟨b,o,none⟩=some (.int .u64 e.rep)/\w.cell? ⟨b,o+1,none⟩=some (.int .u64 e.max)/\(∃j,w.cell? ⟨b,o+2,none⟩=some j/\Dat C w j (rg e.holes))/\e.rep<zk/\e.max<zk
def RdF(C:Qk)(j:Nat)(w:World)(v:Value)(l:List En):Prop:=RdSl 3 (rdF C) 0 j w v l
def RdF.keep{C:Qk}{j:Nat}{w w':World}{v:Value}{l:List En}(u:∀b o,C b o->b<j)(h:RdF C j w v l)(hb:∀k,k<j->w'.heap[k]?=w.heap[k]?):RdF C j w' v l:=
 RdSl.keep h (Zp _) (Zp _) λb o x _ h2 ⟨c0,c1,⟨hv,c2,c3⟩,c4⟩=>
  ⟨(tw (a:=⟨b,o,none⟩) (hb b h2)).trans c0,(tw (a:=⟨b,o+1,none⟩) (hb b h2)).trans c1,⟨hv,(tw (a:=⟨b,o+2,none⟩) (hb b h2)).trans c2,c3.mono (λ_ _ h=>h) λb o x y A=>(tw (a:=⟨b,o,none⟩) (hb b (u b o y))).trans A⟩,c4⟩
def dat_rdf{D:Qk}{w:World}{x:Value}{v:List En}(h:Dat D w x (vp v))(K:∀b o,D b o->b<w.heap.size)(hb:∀e∈v,ZL e):RdF D w.heap.size w x v:=by
 unfold vp at h;generalize F:v.map ec=es at h;cases h with
 |sl a cap sz es o b off u hc hz hm ha hsz hd hx=>have G:es.length=v.length:=(by rw[<-F];simp);refine⟨a,cap,by rw[G],b6,hm,λB=>?_⟩;have y:0<v.length:=Wb.2 B;have g:∀i (h:i<v.length),es[i]?=some (ec v[i]):=λi h=>(by rw[<-F];exact xo h);obtain rfl:3=sz:=hsz 0 _ (g 0 y);have A:es≠[]:=(by intro e;subst e;simp at G;omega);have j:b<w.heap.size:=K _ _ (hd 0 b6).1;refine⟨b,off,ha A,vj _,j,λi hi=>?_⟩;have J:=(hx i _ 0 _ (g i hi) rfl).v_inv;have e1:=(hx i _ 1 _ (g i hi) rfl).v_inv;have e2:=hx i _ 2 _ (g i hi) rfl;have C:=(hd (i*3+0) b6).2.1;have E:=(hd (i*3+1) b6).2.1;have I:=(hd (i*3+2) b6).2.1;rw[J]at C;rw[e1]at E;obtain⟨b1,b2,H⟩:=hb _ (X3 hi);exact⟨C,E,⟨_,I,e2⟩,H,b2⟩
def PairD(C:Qk)(w:World)(o:Nat)(D:DV)(j:List Nat)(A B:Nat->List Iv):Prop:=
 IsMap D/\∀r,has D (kR r)=decide (r∈j)/\∃u y,D.atKey (kR r) (.held zP)=.held (.agg #[u,y])/\Dat (DL C o w) w u (rg (A r))/\Dat (DL C o w) w y (rg (B r))
def KN{D:Qk}{w:World}:Dat D w (.slice none 0 0) (rg []):=.sl none 0 2 [] .sh 0 0 (λ_=>undef) b8 (λh=>by cases h) dE (λh=>absurd rfl h) (λi e h=>by simp at h) (λj h=>by simp at h) (λi e j p h=>by simp at h)
def PairD.start(C:Qk)(w:World)(j:Nat):PairD C w j (.map []) [] (λ_=>[]) (λ_=>[]):=
 ⟨⟨[],rfl⟩,λr=>⟨by simp[has],_,_,rfl,KN,KN⟩⟩
def PairD.mono{C:Qk}{w w':World}{u:Nat}{D:DV}{y:List Nat}{A B:Nat->List Iv}(H:∀b o,C b o->b<u)(h:PairD C w u D y A B)(hs:w.heap.size<=w'.heap.size)(hb:∀k,k<w.heap.size->k≠u->w'.heap[k]?=w.heap[k]?):PairD C w' u D y A B:=by
 refine⟨h.1,λr=>⟨(h.2 r).1,?_⟩⟩;obtain⟨I,J,e,d0,G⟩:=(h.2 r).2;have E:∀b o x,DL C u w b o->w.cell? ⟨b,o,none⟩=some x->w'.cell? ⟨b,o,none⟩=some x:=λb o x j F=>
  (tw (a:=⟨b,o,none⟩) (hb b (tz w ⟨b,o,none⟩ F) (by rcases j with j|j;have:=H b o j;omega;omega))).trans F
 have j:∀b o,DL C u w b o->DL C u w' b o:=λb o j=>j.imp id λh=>⟨h.1,Vq h.2 hs⟩;exact⟨I,J,e,d0.mono j E,G.mono j E⟩
def PairD.put0{C:Qk}{w:World}{A:Nat}{D:DV}{o:List Nat}{E F:Nat->List Iv}(h:PairD C w A D o E F){j:Nat}{l:List Iv}{s J B:Value}(hs:Dat (DL C A w) w s (rg l))(I:D.atKey (kR j) (.held zP)=.held (.agg #[J,B])):
 PairD C w A (D.put (kR j) (.held (.agg #[s,B]))) (o++[j]) (λr=>if r=j then l else E r) F:=by
 refine⟨h.1.put _ _,λr=>?_⟩;by_cases e:r=j
 .subst e;obtain⟨G,H,e1,d0,y⟩:=(h.2 r).2;rw[I]at e1;cases e1;exact⟨by rw[T2 h.1 (Qc _)];simp,s,B,atKey_put_same h.1 (Qc _) _ _,by dsimp only;rw[VS rfl];exact hs,y⟩
 .have u:kR r≠kR j:=λh=>e (Xa h);obtain⟨G,H,e1,d0,y⟩:=(h.2 r).2;exact⟨by rw[TY u,(h.2 r).1];simp[e],G,H,by rw[T6 u];exact e1,by dsimp only;rw[V2 e];exact d0,y⟩
def PairD.put1{C:Qk}{w:World}{y:Nat}{D:DV}{o:List Nat}{E F:Nat->List Iv}(h:PairD C w y D o E F){j:Nat}{l:List Iv}{s A J:Value}(hs:Dat (DL C y w) w s (rg l))(I:D.atKey (kR j) (.held zP)=.held (.agg #[A,J])):
 PairD C w y (D.put (kR j) (.held (.agg #[A,s]))) (o++[j]) E (λr=>if r=j then l else F r):=by
 refine⟨h.1.put _ _,λr=>?_⟩;by_cases e:r=j
 .subst e;obtain⟨G,H,e1,d0,B⟩:=(h.2 r).2;rw[I]at e1;cases e1;exact⟨by rw[T2 h.1 (Qc _)];simp,A,s,atKey_put_same h.1 (Qc _) _ _,d0,by dsimp only;rw[VS rfl];exact hs⟩
 .have u:kR r≠kR j:=λh=>e (Xa h);obtain⟨G,H,e1,d0,B⟩:=(h.2 r).2;exact⟨by rw[TY u,(h.2 r).1];simp[e],G,H,by rw[T6 u];exact e1,d0,by dsimp only;rw[V2 e];exact B⟩
def zc9{v:List En}{e:En}(h:∀f∈v,f.rep≠e.rep)(r:Nat):zT (v++[e]) r=if r=e.rep then kn e else zT v r:=by
 unfold zT;rw[List.find?_append];by_cases j:r=e.rep
 .subst j;rw[VS rfl,show List.find? (λf=>f.rep == e.rep) v=none from uW.2 λf o=>by simpa using h f o];simp
 .rw[V2 j];have:List.find? (λf=>f.rep == r) [e]=none:=(by simp;exact λh=>j h.symm);rw[this,Option.or_none]
def Vj{v:List En}(h:zsC v){k:Nat}(hk:k<v.length):zT (v.take (k+1))=λr=>if r=v[k].rep then kn v[k] else zT (v.take k) r:=by
 funext r;rw[vw hk];refine zc9 (λf o=>?_) r;obtain⟨i,hi,rfl⟩:=Wr o;have j:i<k:=by simp at hi;omega
 have:=wU.1 h.2 i k b6 hk j;simp only[Ud];omega
def SmV(v:List En):Prop:=zsC v/\v.length<=1048576/\∀e∈v,e.holes.length<=10000
end
end Go.Proofs.YtjdjjlkifdimkaaGreatDoor
