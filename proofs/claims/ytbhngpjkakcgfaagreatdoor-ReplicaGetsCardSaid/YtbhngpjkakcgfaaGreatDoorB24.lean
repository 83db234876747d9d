import Derived.Deep.Cut
import Derived.Test.YtbhngpjkakcgfaaGreatDoorB23
set_option maxHeartbeats 16000000
set_option linter.all false
set_option maxRecDepth 100000
namespace Go.Proofs.YtbhngpjkakcgfaaGreatDoor
def Te:=@Go.heap_alloc2_old
def Tz:=@Go.World.cell?_setCell_other
def TB:=@Go.heap_alloc2_new
open Go.Proofs.Tryz renaming prog->xT
section
open Go.RowKit
attribute [-go_sem] z7
def qB(j:List Fv):List Value:=j.flatMap λf=>[sv f.1,sv f.2]
def Yo:∀(w:List Fv)(j:Nat)(u:Value),(qB w)[j]?=some u->∃i,∃h:i<w.length,(j=i*2/\u=sv w[i].1)\/(j=i*2+1/\u=sv w[i].2)
 |[],j,u,h=>by simp[qB]at h
 |f::w,0,u,h=>⟨0,b6,.inl ⟨rfl,by simpa[qB]using h.symm⟩⟩
 |f::w,1,u,h=>⟨0,b6,.inr ⟨rfl,by simpa[qB]using h.symm⟩⟩
 | f::w,j+2,u,h=>by
   obtain⟨i,hi,y⟩:=Yo w j u (by simpa[qB]using h);refine⟨i+1,a9,?_⟩;rcases y with⟨e,e2⟩|⟨e,e2⟩
   .exact .inl ⟨a8,dJ e2⟩
   .exact .inr ⟨a8,dJ e2⟩
def Z5:∀(j:List Fv)(i:Nat)(h:i<j.length),(qB j)[i*2]?=some (sv j[i].1)/\(qB j)[i*2+1]?=some (sv j[i].2)
 |f::j,0,h=>⟨rfl,rfl⟩
 |f::j,i+1,h=>by have:=Z5 j i (dJ h);rw[show (i+1)*2=i*2+2 by omega];exact⟨by simpa[qB]using this.1,by simpa[qB]using this.2⟩
def jf(j:List Fv):(qB j).length=j.length*2:=by
 induction j with
 |nil=>rfl
 |cons f j ih=>simp[qB]at ih⊢;omega
def jg(w:List Fv):∀u∈qB w,u.oneCell'=true:=λu y=>by
 obtain⟨f,_,j⟩:=uk.1 y;simp at j;rcases j with rfl|rfl<;>rfl
def Zn{G:Nat}{w W:World}{A:Option Addr}{B:Nat}{y:List Fv}(h:zeF G w A B y)(E:∀b o x,b<G->w.cell? ⟨b,o,none⟩=some x->W.cell? ⟨b,o,none⟩=some x):(y.length=0/\A=none)\/∃a,A=some a/\∀j u,(qB y)[j]?=some u->W.cell? (a.add j)=some u:=by
 by_cases C:y=[]
 .subst C;cases A with
  |none=>exact .inl ⟨rfl,rfl⟩
  |some a=>exact .inr ⟨a,rfl,λj u h=>by simp[qB]at h⟩
 .obtain⟨b,J,rfl,hb,F⟩:=h.2.2 C;refine .inr ⟨_,rfl,λj u I=>?_⟩;obtain⟨i,hi,H⟩:=Yo y j u I;rw[zh];rcases H with⟨rfl,rfl⟩|⟨rfl,rfl⟩
  .exact E _ _ _ hb (F i hi).1
  .exact E _ _ _ hb (by rw[<-Wr];exact(F i hi).2)
def Jb{C:Array Oper}{rest:List Oper}{o:Oper}{a:Act}{w:World}{Q:Exit->Act->World->Prop}(s x:Operand)(t:TypeId)(J:o.guard=none)
 (ho:o.op=.call { callee:=.builtin .append,args:=#[s,x],argTypes:=#[t,t] }) (ht:xT.underlying t=some (.slice 72)) (base:Nat) (v:Value) (n:Nat) (K:List Value) (hs:a.eval s=v) (F:w.ownsRow base 72 2 v n K)
 (H:Option Addr) (m c:Nat) (y:List Value) (U:a.eval x=.slice H m c) (P:y.length=m*2) (B:(m=0/\H=none)\/∃a,H=some a/\∀j u,y[j]?=some u->w.cell? (a.add j)=some u) (L:∀u∈y,u.oneCell'=true) (I:n+m<=1073741824) (A:base<=w.heap.size)
 (h:∀E G,G.ownsRow base 72 2 E (n+m) (K++y)->w.grownBy G v.ownBlock->(E.ownBlock=v.ownBlock\/E.ownBlock=some w.heap.size)->wpList xT C Q rest (a.put o.dst E) G):wpList xT C Q (o::rest) a w:=by
 have T:Region.wanted o (yielded C a.tmps)=true:=by simp[Region.wanted,J]
 unfold wpList;rw[vj T];refine .inl ?_;obtain⟨E,G,S,M,N,O⟩:=YI w t o.type ht base v n K F H m c y P B L I A;unfold Oper.wp execOp;simp only[ho,resolve,invoke,builtin,tG,tI,tA,ug,Wz,W7,hs,U,S];exact h E G M N O
def OutG.two{C:Qk}{mb base:Nat}{w0 w:World}{v:Value}{a b:List Fg}{fa j:List Fv}(A:fa.length=a.length)(B:j.length=b.length)(ho:w.ownsRow base 72 2 v (0+a.length+b.length) ([]++qB fa++qB j))
 (J:∀b o,C b o->b<w0.heap.size) (hb:Below w0.heap.size w0 w) (H:w0.heap.size<=base)
 (L:∀i (h:i<fa.length),Dat C w0 (sv fa[i].1) (rg (a[i]'(A▸h)).items)/\Dat C w0 (sv fa[i].2) (vp (a[i]'(A▸h)).vec)) (db:∀i (h:i<j.length),Dat C w0 (sv j[i].1) (rg (b[i]'(B▸h)).items)/\Dat C w0 (sv j[i].2) (vp (b[i]'(B▸h)).vec)):OutG C mb base w v (a++b):=by
 have y:∀{x:Value}{p:PV},Dat C w0 x p->Dat (DX C mb w v) w x p:=λh=>h.mono (λb o h=>⟨.inl h,λe=>by have:=(ho.lt b e).1;have:=J b o h;omega⟩) λb o x N Q=>(tn (a:=⟨b,o,none⟩) (hb.block b (J b o N))).trans Q;have K:=jf fa;have P:=jf j;refine⟨qB fa++qB j,⟨by rw[wk,<-wn a.length];exact ho,a9,λu E=>?_⟩,λi hi=>?_⟩
 .rcases wE.1 E with E|E
  .exact jg fa u E
  .exact jg j u E
 .by_cases M:i<a.length
  .obtain⟨e1,e2⟩:=Z5 fa i a8;obtain⟨F,G⟩:=L i a8;have I:(a++b)[i]=a[i]:=up M;rw[I];exact⟨_,_,by rw[V3 a8];exact e1,by rw[V3 a8];exact e2,y F,y G⟩
  .have O:i-a.length<b.length:=(by simp at hi;omega);obtain⟨e1,e2⟩:=Z5 j (i-a.length) a8;obtain⟨F,G⟩:=db (i-a.length) a8;have I:(a++b)[i]=b[i-a.length]:=Wv a8;rw[I];exact⟨_,_,by rw[V1 a8,K,show i*2-fa.length*2=(i-a.length)*2 by omega];exact e1,by rw[V1 a8,K,show i*2+1-fa.length*2=(i-a.length)*2+1 by omega];exact e2,y F,y G⟩
end
section
open Go.RowKit
structure Rt12(k:List Fg):Prop where
 f:vx k=true
 r:RightK k
 kn:Kn (CK k) (RK k) 240 k
 ok:OkX (CK k) (RK k)
def CKL(l:List (List Fg))(r:Nat):List Nat:=l.flatMap λk=>CK k r
def RKL(l:List (List Fg)):List Nat:=l.flatMap RK
def Kn.at{C:Nat->List Nat}{R:List Nat}{n:Nat}{k:List Fg}(h:Kn C R n k)(ok:OkX C R)(x:Nat):SmV (qc k x):=(h.ik.at x).1.smv ok.c
def Kn.app{C:Nat->List Nat}{R:List Nat}{n m:Nat}{a b:List Fg}(j:Kn C R n a)(hb:Kn C R m b):Kn C R (n+m) (a++b):=by
 refine⟨j.r.app hb.r,λf u=>(wE.1 u).elim (j.ik f) (hb.ik f),λf u=>(wE.1 u).elim (j.s f) (hb.s f),?_,?_⟩
 .have:=kK a b;have:=j.m;have:=hb.m;omega
 .rw[wk];have:=j.l;have:=hb.l;omega
def Kn.parts{C:Nat->List Nat}{R:List Nat}{n m:Nat}{f:Bool->Bool->Bool}(j:f false false=false){a b:List Fg}(u:Kn C R n a)(hb:Kn C R m b)(ok:OkX C R):Kn C R (1+2*(n+m)) (yy f a b):=by
 have A:=xW (a++b);have B:=YO (a++b);have E:=kK a b;have F:=u.m;have G:=hb.m;have w:∀g∈yy f a b,WV C R g.vec:=λg y=>by obtain⟨s,_,rfl⟩:=wC.1 y;exact IV.lat j (u.ik.at s.lo).1.iv (hb.ik.at s.lo).1.iv
 refine⟨xU u.r hb.r,λf j=>(w f j).iv,λf j=>(w f j).smv ok.c,?_,?_⟩
 .unfold yy;rw[Zf];omega
 .unfold yy;rw[wu];omega
def Kn.do{C:Nat->List Nat}{R:List Nat}{n m:Nat}{f:Bool->Bool->Bool}(u:f false false=false){a b:List Fg}(j:Kn C R n a)(hb:Kn C R m b)(ok:OkX C R):Kn C R (1+2*(n+m)) (vh f a b):=(j.parts u hb ok).group ok
def Kn.canon{C:Nat->List Nat}{R:List Nat}{n:Nat}{k:List Fg}(h:Kn C R n k)(ok:OkX C R):Kn C R (1+2*n) (zbx k):=(h.refine ok).group ok
noncomputable def Zx (f:Bool->Bool->Bool) (a b:List Fg) (s:Iv):Fg:=⟨[s],ks f (qc a s.lo) (qc b s.lo)⟩
def Qr(f:Bool->Bool->Bool)(a b:List Fg){j:Nat}(h:j<(zu (a++b)).length):((zu (a++b)).take (j+1)).map (λs=>fc (Zx f a b s))=((zu (a++b)).take j).map (λs=>fc (Zx f a b s))++[fc (Zx f a b (zu (a++b))[j])]:=by rw[X4 h,WI];rfl
def YC(f:Bool->Bool->Bool)(a b:List Fg){j:Nat}(h:(zu (a++b)).length<=j):((zu (a++b)).take j).map (λs=>fc (Zx f a b s))=(yy f a b).map fc:=by rw[wm h];unfold yy;rw[u0];rfl
def KQ:Nat->Code->Code
 |0,c=>c
 |n+1,.seq _ c=>KQ n c
 |_,c=>c
def zjO{B:Nat->List Nat}{R:List Nat}{n:Nat}(f:Bool->Bool->Bool)(L:f false false=false)(op:FuncId)(a b:List Fg)(E:Kn B R n a)(hb:Kn B R n b)(ok:OkX B R)(O:n<=40000)
 (H:∀x,Cn xT op [vp (qc a x),vp (qc b x)] (vp (ks f (qc a x) (qc b x)))) :
 pW xT Tryz.f84.ntmps True ((qx xT Tryz.f84.ntmps [] (KQ 7 (xN Tryz.f84))).getD .sk) (jG [.t 6,.c 7 false 1] (.tup [kp (vh f a b),.v .nilIface])) ⟨[(0,kp a),(1,kp b),(2,.fn (.func op) [] []),(7,.bx 0 0),(8,kp (a++b)),(9,.sl [] .z)],[[.v .nilIface]]⟩:=by
 have F:=E.app hb;have y:=F.ok12 ok a8;have u:=E.ok12 ok a8;have w:=hb.ok12 ok a8;have M:=xW (a++b);have K:=y.t;have I:=E.parts L hb ok;have G:=zfn (yy f a b) I ok a8
 conv=>arg 4;cbv
 refine pw ?_;refine .c (zdF (a++b) y.r y.z (by have:=y.l;omega) y.t) ?_;refine pLoop.go (λj=>j<=(zu (a++b)).length) (λj=>[(9,.sl (((zu (a++b)).take j).map (λs=>fc (Zx f a b s))) (.r 51 2)),(32,.v (.int .i64 (j:Nat)))]) (λ_=>[[.v .nilIface]]) (λj=>(zu (a++b)).length-j) 0 [9,32] ?_ ?_ ?_
 .exact X3 _
 .exact pd
 .rintro j N;refine pw ?_;refine .i ?_ ?_<;>intro h<;>(try simp only[zb]at h)<;>first|refine pw ?_|exact pd
  .have J:=Qr f a b h;refine .c (zgU a (zu (a++b))[j].lo u.ik u.ok u.r u.s u.z) ?_;refine .c (zgU b (zu (a++b))[j].lo w.ik w.ok w.r w.s w.z) ?_;have A:=H (zu (a++b))[j].lo
   (first|refine .c (A) ?_|refine .o (A) ?_)
   refine cutP.full rfl ?_ rfl ?_ ?_
   .exact pd
   .exact pd
   .refine pw ?_;exact⟨j+1,h,a8,J.symm,rfl⟩
  .have C:Cn xT 116 [.sl (((zu (a++b)).take j).map (λs=>fc (Zx f a b s))) .sh] (kp (vh f a b)):=(by rw[YC f a b a8];exact G)
   (first|exact .d (C)|exact .q (C))
end
section
open Go.RowKit
attribute [-go_sem] z7 zae zaf Vr
def zeG(x y:Nat)(h:x+y<=80000)(w:World):(binOp .add 3 (.int .i64 (x:Nat)) (.int .i64 (y:Nat))).run xT w=.ok (.int .i64 ((x+y:Nat):Int)) w:=by go_simp;rw[Ty];omega
def Vk{B:Nat->List Nat}{R:List Nat}{n:Nat}(f:Bool->Bool->Bool)(hf:f false false=false)(op:FuncId)(a b:List Fg)(ha:Kn B R n a)(hb:Kn B R n b)(ok:OkX B R)(hn:n<=40000)
 (aL:∀x,Cn xT op [vp (qc a x),vp (qc b x)] (vp (ks f (qc a x) (qc b x)))):Cn xT 84 [kp a,kp b,.fn (.func op) [] []] (.tup [kp (vh f a b),.v .nilIface]):=by
 refine yZ rfl (enters_of Tryz.func84 dK rfl) λD w O hG hD aN hd=>?_;have d0:Dat D w (O.getD 0 undef) (kp a):=hd 0 _ rfl;have d1:Dat D w (O.getD 1 undef) (kp b):=hd 1 _ rfl;have d2:Dat D w (O.getD 2 undef) (.fn (.func op) [] []):=hd 2 _ rfl;obtain⟨v0,M⟩:=xm (O.getD 0 undef);obtain⟨v1,N⟩:=xm (O.getD 1 undef);rw[<-M]at d0;rw[<-N]at d1;have e2:O.getD 2 undef=.func (.func op) #[] #[]:=by
  generalize O.getD 2 undef=x at d2;cases d2 with
  |fn f va vb fs cs h1 h2 h3 h4=>obtain rfl:va=#[]:=UB (dJ h1);obtain rfl:vb=#[]:=UB (dJ h2);rfl
 obtain rfl:O=#[v0,v1,.func (.func op) #[] #[]]:=by
  obtain⟨l⟩:=O;match l,aN with
  |[p,q,s],_=>simp at M N e2;rw[M,N,e2]
 clear d2 e2 M N aN hd;obtain⟨aa,ca,fa,rfl,aj,A,da⟩:=kX d0 hD;obtain⟨ab,cb,fb,rfl,ak,E,db⟩:=kX d1 hD;have br:=ha.l;have bt:=hb.l;have bi:=A.1;have bj:=E.1;have aA:=A.2.1;have aB:=E.2.1;unfold maxLen at aA aB;rw[aj]at bi;rw[ak]at bj;have aR:=qL (λW (hW:Below w.heap.size w W)=>KH ha.r (ha.z a8) d0 hD hG hW);have aS:=qL (λW (hW:Below w.heap.size w W)=>KH hb.r (hb.z a8) d1 hD hG hW);have aX:=qL (λW (hW:Below w.heap.size w W)=>Zn (W:=W) A λb o x h hx=>(tn (a:=⟨b,o,none⟩) (hW.block b h)).trans hx);have aY:=qL (λW (hW:Below w.heap.size w W)=>Zn (W:=W) E λb o x h hx=>(tn (a:=⟨b,o,none⟩) (hW.block b h)).trans hx);have aT:=qL d0;have aU:=qL d1;have aV:=qL da;have aW:=qL db;have aZ:=qL hG;have G:=qL hD;have HA:=qL ha;have HB:=qL hb;have ba:=qL aj;have bc:=qL ak;have bg:=qL aL;obtain⟨i0,aH,aO,aP,aQ⟩:=tQ Z9;have I:=jf fa;have J:=jf fb;rw[aj]at I;rw[ak]at J;clear d0 d1 da db A E hG hD ha hb;have bq:=zeG a.length b.length a8;have HI:=qL (And.intro aH (And.intro aO (And.intro aP aQ)));have ar:=qL (And.intro I J);clear aH aO aP aQ I J aL;have S:True:=trivial;have T:True:=trivial;have U:True:=trivial;have V:True:=trivial;have X:True:=trivial
 go_enter_defers Tryz.func84,Tryz.ntmps84
 go_upto_region 6 with(first
  | (go_at_call 27;have _t:=S;refine(aR.o _ ((tu _ _).alloc (Zp _) _)).mono ?_;rintro e w1 ⟨rfl,ae⟩
     have an:Boxed w1 w.heap.size 44 .nilIface:=(ae.block _ b6).trans (tp w _);have au:=qL an;have Y:=qL (((tu _ w).alloc (Zp _) _).trans (ae.mono b6));have bu:=an.lt;clear ae an S)
  |(go_at_call 81;refine(zdp _ _).mono ?_;rintro e w' ⟨⟨u,rfl⟩,rfl⟩)
  | (go_at_call 27;have _t:=T;refine(aS.o _ Y.o).mono ?_;rintro e w2 ⟨rfl,af⟩
     have ao:Boxed w2 w.heap.size 44 .nilIface:=(af.block _ au.o.lt).trans au.o;have bh:=qL ao;have aq:=qL (Y.o.trans (af.mono Y.o.size));have bw:=ao.lt;clear af ao T)
  | (at_make;have _t:=U;refine wpList_make_own _ rfl _ _ 24 rfl (w.heap.size+1) 72 i0 _ 2 Tryz.underlying24 HI.o.1 HI.o.2.1 HI.o.2.2.1 .i64 .i64 _ (a.length+b.length) rfl rfl b6 (by rw[HI.o.2.2.2];omega) c8 a8 ?_
     intro w3 aI ag;have L:=qL aI;have K:=qL (aq.o.grown ag aq.o.size λj hj=>by cases hj);have av:=qL (bh.o.kept ag b6);clear aI ag U;dsimp only[Act.put])
  | (at_builtin;have _t:=V;refine Jb _ _ 24 rfl rfl Tryz.underlying24 (w.heap.size+1) _ 0 [] rfl L.o _ a.length ca (qB fa) rfl ar.o.1 (by rcases aX.o _ K.o with h|h;exact .inl ⟨by have:=h.1;omega,h.2⟩;exact .inr h) (jg fa) a8 (by have:=L.o.lt;have:=K.o.size;have:=av.o.lt;omega) ?_
     intro v4 w4 aJ ah bn;have ad:=qL aJ;have Z:=qL (K.o.grown ah K.o.size λj hj=>by have:=(L.o.lt j hj).1;omega);have aw:=qL (av.o.kept ah λe=>by have:=(L.o.lt _ e.symm).1;omega);clear aJ ah bn V;dsimp only[Act.put])
  | (at_builtin;have _t:=X;refine Jb _ _ 24 rfl rfl Tryz.underlying24 (w.heap.size+1) _ (0+a.length) ([]++qB fa) rfl ad.o _ b.length cb (qB fb) rfl ar.o.2 (by rcases aY.o _ Z.o with h|h;exact .inl ⟨by have:=h.1;omega,h.2⟩;exact .inr h) (jg fb) a8 (by have:=aw.o.lt;omega) ?_
     intro v5 w5 aK ai bp;have be:=qL aK;have ac:=qL (Z.o.grown ai Z.o.size λj hj=>by have:=(ad.o.lt j hj).1;omega);have ax:=qL (aw.o.kept ai λe=>by have:=(ad.o.lt _ e.symm).1;omega);clear aK ai bp X;dsimp only[Act.put])
  |go_in)
 have bl:=OutG.two (C:=D) (mb:=w.heap.size) (base:=w.heap.size+1) (a:=a) (b:=b) ba.o bc.o be.o G.o ac.o a8 aV.o aW.o;have aC:=bl.dat a8;have bz:=ax.o.lt;have y:∀b o x,D b o->w.cell? ⟨b,o,none⟩=some x->w5.cell? ⟨b,o,none⟩=some x:=λb o x h hx=>(tn (a:=⟨b,o,none⟩) (ac.o.block b (G.o b o h))).trans hx;have H:=ac.o;have am:=‹∀(a:Act)(w:World),Code.wp _ _ _ a w->_›
 apply wp_region_lit;unfold wpList;rw[vj (by simp[Region.wanted])];refine .inl ?_;unfold Oper.wp execOp;simp only[tI];refine am _ _ ?_;refine T5 (zih (nt:=Tryz.f84.ntmps) (D:=DL D w.heap.size w5) dK aZ.o _ ⟨H.os,H.tape,H.output,H.size,λk hk _=>H.block k hk,λb o h=>.inl h,y,λb o h=>h.imp id λh=>.inl (uy h.1),G.o⟩ (λb o h=>h.elim (λh=>by have:=G.o b o h;omega) ub) (Zp _) ax.o (.v _) rfl (λo h=>h.elim (λh=>by have:=G.o _ o h;omega) λh=>a8) rfl [(0,kp a),(1,kp b),(2,.fn (.func op) [] []),(7,.bx 0 0),(8,kp (a++b)),(9,.sl [] .z)] (λt=>?_) (λt=>?_) rfl (Q:=jG [.t 6,.c 7 false 1] (.tup [kp (vh f a b),.v .nilIface])) ?_) ?_
 .rcases t with _|_|_|_|_|_|_|_|_|_|t
  .exact .inr (aT.o.mono (λ_ _ h=>.inl h) y)
  .exact .inr (aU.o.mono (λ_ _ h=>.inl h) y)
  .exact .inr (.fn _ #[] #[] [] [] rfl rfl (λ_ _ h=>by simp at h) (λ_ _ h=>by simp at h))
  .exact .inr (.und _)
  .exact .inr (.und _)
  .exact .inr (.und _)
  .exact .inr (.und _)
  .exact .inl ⟨rfl,rfl⟩
  .exact .inr aC
  .exact .inr (.sl none 0 0 [] .z 0 0 (λ_=>undef) (Zp _) (λ_=>rfl) (X3 _) b6 (λi e h=>by simp at h) (λj h=>by simp at h) (λi e j p h=>by simp at h))
  .exact .inr (.und _)
 .rcases t with _|_|_|_|_|_|_|_|_|_|t<;>rfl
 .exact zjO f hf op a b HA.o HB.o ok hn bg.o
 .intro e a1 w1 hQ;obtain⟨he,aE,v,D',aM,F,ay,aD⟩:=zfM (P:=xT) (fn:=Tryz.f84) dK hQ;have az:Below w.heap.size w w1:=⟨F.os,F.tape,F.output,F.size,λk hk=>F.block k hk λh=>h⟩;have aG:Dat (λb o=>D b o\/(w.heap.size<=b/\b<w1.heap.size)) w1 v (.tup [kp (vh f a b),.v .nilIface]):=aD.mono (λb o h=>by
   rcases F.new b o h with h1|h1|h1
   .exact .inl h1
   .exact .inr ⟨h1,ay b o h⟩
   .exact h1.elim) (λ_ _ _ _ h=>h)
  obtain⟨tm,df⟩:=a1;simp only[Act.put]at aE;subst aE;have aF:Leaves xT Tryz.f84 tm (λe w'=>∃v,e=.returned v/\Below w.heap.size w w'/\Dat (λb o=>D b o\/(w.heap.size<=b/\b<w'.heap.size)) w' v (.tup [kp (vh f a b),.v .nilIface])) [{ target:=.fn (.func 80) #[],args:=#[.pointer (some ⟨w.heap.size,0,none⟩)] }] .returning w1:=(by refine leaves_cons (f := 80) (args:=#[.pointer (some ⟨w.heap.size,0,none⟩)]) b6 (by simp[go_sem]) ?_;refine(JI ⟨w.heap.size,0,none⟩ _).mono ?_;rintro e u' bA ⟨rfl,rfl,rfl⟩;exact⟨v,aM,v,rfl,az,aG⟩);rcases he with rfl|rfl<;>exact aF
def zog{D:Qk}{w:World}:Dat D w (.slice none 0 0) (.sl [] .sh):=
 .sl none 0 0 [] .sh 0 0 (λ_=>undef) (Zp _) (λ_=>rfl) (X3 _) b6 (λi e h=>by simp at h) (λj h=>by simp at h) (λi e j p h=>by simp at h)
def znT{D:Qk}{w:World}{u v:Value}{p q:PV}(y:Dat D w u p)(A:Dat D w v q)(B:u.oneCell'=true)(C:v.oneCell'=true):Dat D w (.agg #[u,v]) (.agg [p,q]):=
 .agg _ _ rfl (λi hi=>match i,hi with|0,_=>B|1,_=>C|i+2,hi=>by simp at hi;omega) λi r j=>match i,j with
  |0,j=>by cases j;exact y
  |1,j=>by cases j;exact A
  |i+2,j=>by simp at j
def zou(s:ByteArray)(x:Nat×Int):PV:=.ifc 127 (.agg [.v (.string s),jS x.1 x.2])
def zmb{x:Nat×Int}(h:x.1≠0):jS x.1 x.2=.ifc 96 (.agg [.v (.int .i64 x.1),.v (.int .i64 x.2)]):=Vm h
def zn4(c:Nat):ByteArray:=⟨#[101,114,114,111,114,32,UInt8.ofNat (48+c)]⟩
def zoU(c:Nat)(y:c<=9)(w:World):Calls xT 25 #[.int .i64 c] w λe u=>e=.returned (.string (zn4 c))/\u=w:=by
 have j:c=0\/c=1\/c=2\/c=3\/c=4\/c=5\/c=6\/c=7\/c=8\/c=9:=a8
 rcases j with rfl|rfl|rfl|rfl|rfl|rfl|rfl|rfl|rfl|rfl;all_goals
  go_enter Tryz.func25,Tryz.ntmps25
  go_wp2;apply wp_loop_once
  go_wp2;refine tz (tK rfl _ _ _) rfl ?_;exact⟨dK,rfl⟩
def zoT(c:Nat)(y:c<=9):Cn xT 25 [.v (.int .i64 c)] (.v (.string (zn4 c))):=by
 refine Js rfl (enters_of Tryz.func25 dK rfl) λD w u B j A=>?_;have d0:=(Rel.dat (ρ:=λ_=>0) (nb:=0) (A 0 _ rfl)).v_inv;obtain rfl:u=#[.int .i64 c]:=by
  obtain⟨l⟩:=u;match l,j with
  |[p],_=>simp at d0;rw[d0]
 refine(zoU c y w).mono ?_;rintro e C ⟨rfl,rfl⟩;exact⟨_,rfl,tu _ _,.v _⟩
def zol{t:TypeId}{m:String}{f:FuncId}(h:∀(v:Value)(w:World),(method (xT.types.size+Made.depth) t v m).run xT w=.ok (f,v) w):Mth xT t m f:=λv j w=>by unfold callMethod;simp only[tG,run_program,tA,h]
def zn8:Mth xT 127 "Error" 233 := zol λv w=>dK
def zn7:Mth xT 96 "Error" 231 := zol λv w=>dK
end
section
open Go.RowKit
def zoi(c:Nat)(k:Int)(j:c<=9):Cn xT 231 [.agg [.v (.int .i64 c),.v (.int .i64 k)]] (.v (.string (zn4 c))):=by refine zt Tryz.func231 1 ?_;refine pw ?_;exact .d (zoT c j)
def zoq:ByteArray:=⟨#[58,32]⟩
def zor:(⟨#[58,32]⟩:ByteArray).size=2:=rfl
def zoJ(c:Nat):(zn4 c).size=7:=rfl
def zom(s:ByteArray)(x:Nat×Int)(hs:s.size<=1000)(j:x.1≠0)(u:x.1<=9):Cn xT 233 [.agg [.v (.string s),jS x.1 x.2]] (.v (.string (s++zoq++zn4 x.1))):=by
 rw[zmb j];have y:(Array.mk [(58:UInt8),32]).size=2:=rfl;have w:=zor;have z2:=zoJ x.1;have A:(s++⟨#[58,32]⟩:ByteArray).size=s.size+2:=by rw[ByteArray.size_append,w]
 refine zt Tryz.func233 1 ?_;refine pw ?_;refine .mk zn7 ?_;refine .c (zoi x.1 x.2 u) ?_;rfl
def zqf(s:ByteArray)(c k:Int)(w:World)(y:HG w):Calls xT 36 #[.iface 127 (.agg #[.string s,.iface 96 (.agg #[.int .i64 c,.int .i64 k])]),.iface 94 (.pointer (some ⟨w.heap.size,0,none⟩))] (w.alloc (.cells #[.int .i64 0] 49))
 λev j=>ev=.returned (.bool true)/\Below w.heap.size w j/\j.cell? ⟨w.heap.size,0,none⟩=some (.int .i64 c):=by
 refine(As.as_DN s c k ⟨w.heap.size,0,none⟩ (.int .i64 0) _ (y.alloc _) b6 b6).mono ?_;rintro ev j ⟨rfl,rfl⟩;refine⟨rfl,?_,?_⟩
 .refine tX (((((((((tu _ w).alloc ?_ _).alloc ?_ _).alloc ?_ _).alloc ?_ _).alloc ?_ _).alloc ?_ _).alloc ?_ _)) ?_ _<;>simp<;>omega
 .refine tV _ _ _ (u:=.int .i64 0) ?_;rw[tr _ _ ⟨w.heap.size,0,none⟩ a9,tr _ _ ⟨w.heap.size,0,none⟩ a9,tr _ _ ⟨w.heap.size,0,none⟩ a9,tr _ _ ⟨w.heap.size,0,none⟩ a9,tr _ _ ⟨w.heap.size,0,none⟩ a9,tr _ _ ⟨w.heap.size,0,none⟩ b6];simp
def zqS(s:ByteArray)(c k:Int)(w:World)(j:HG w):Calls xT 11 #[.iface 127 (.agg #[.string s,.iface 96 (.agg #[.int .i64 c,.int .i64 k])])] w λe u=>e=.returned (.int .i64 c)/\Below w.heap.size w u:=by
 go_enter Tryz.func11,Tryz.ntmps11
 go_wp2_with (go_at_call 36;refine(zqf s c k w j).mono ?_;rintro e A ⟨rfl,hb,y⟩)
 go_ret;exact⟨rfl,hb⟩
def zqg(s:ByteArray)(c k:Int)(T:Nat)(W:World)(I:HG W)(A:W.cell? ⟨T,0,none⟩=some (.int .i64 0))(C:W.cell? ⟨T,1,none⟩=some (.int .i64 0))(G:W.frozen? ⟨T,0,none⟩=false)(H:W.frozen? ⟨T,1,none⟩=false):
 Calls xT 36 #[.iface 127 (.agg #[.string s,.iface 96 (.agg #[.int .i64 c,.int .i64 k])]),.iface 154 (.pointer (some ⟨T,0,none⟩))] W
 λev w=>ev=.returned (.bool true)/\Keep (λb=>b=T) W w/\w.cell? ⟨T,0,none⟩=some (.int .i64 c)/\w.cell? ⟨T,1,none⟩=some (.int .i64 k):=by
 have J:T<W.heap.size:=tq W ⟨T,0,none⟩ A;refine(As.as_DF s c k T W I (by rw[A];rfl) (by rw[C];rfl) G H).mono ?_;rintro ev w ⟨rfl,rfl⟩;obtain⟨j,u,y⟩:∃j,j=((((W.alloc (.cells #[.pointer (some ⟨T,0,none⟩)] 154)).alloc (.cells #[.pointer (some ⟨1,154,none⟩),.pointer (some ⟨W.heap.size,0,none⟩),.int .u64 150] 147)).alloc (.cells #[.pointer (some ⟨1,154,none⟩),.pointer (some ⟨W.heap.size,0,none⟩),.int .u64 150] 147)).alloc (.cells #[.string s,.iface 96 (.agg #[.int .i64 c,.int .i64 k])] 127)).alloc (.cells #[.int .i64 c,.int .i64 k] 96)/\Keep (λb=>b=T) W j:=
  ⟨_,rfl,(((((Keep.refl _ W).alloc _).alloc _).alloc _).alloc _).alloc _⟩
 have B:Keep (λ_=>False) W j:=by rw[u];exact(((((Keep.refl _ W).alloc _).alloc _).alloc _).alloc _).alloc _
 rw[<-u];have E:=B.cell_some A id;have F:=B.cell_some C id;unfold World.setCells World.setCells World.setCells;have b1:(j.setCell ⟨T,0,none⟩ (.int .i64 c)).cell? ⟨T,0,none⟩=some (.int .i64 c):=tV _ _ _ E;have b2:(j.setCell ⟨T,0,none⟩ (.int .i64 c)).cell? ⟨T,1,none⟩=some (.int .i64 0):=by rw[Tz _ _ _ _ b6];exact F
 refine⟨rfl,(y.setCell (λ_=>rfl) _).setCell (λ_=>rfl) _,?_,tV _ _ _ b2⟩;show ((j.setCell ⟨T,0,none⟩ _).setCell ⟨T,0+1,none⟩ _).cell? _=_;rw[Tz _ _ _ _ b6];exact b1
end
section
open Go.RowKit
attribute [-go_sem] z7 zae zaf Vr
end
section
open Go.RowKit
def zaJ:CanK []:=⟨GrpI.nil,List.Pairwise.nil⟩
def zcY(i r c:Nat):hasK [] i r c=false:=rfl
abbrev Tr:=Nat×Nat×Nat
def leT(t u:Tr):Prop:=t.1<u.1\/(t.1=u.1/\(t.2.1<u.2.1\/(t.2.1=u.2.1/\t.2.2<=u.2.2)))
structure IsLeast(k:List Fg)(t:Tr):Prop where
 b1:t.1<zk
 b2:t.2.2<zk
 has:hasK k t.1 t.2.1 t.2.2=true
 le:∀i r c,i<zk->c<zk->hasK k i r c=true->leT t (i,r,c)
def zfo{k:List Fg}(h:RightK k){i r c:Nat}:hasK k i r c=true↔∃f∈k,mem f.items i=true/\∃e∈f.vec,e.rep=r/\mem (kn e) c=true:=by
 rw[km];refine exists_congr λf=>uQ λB=>uQ λ_=>?_;have A:=(h f B).2;constructor
 .intro j;by_cases w:∀e∈f.vec,e.rep≠r
  .rw[qC w]at j;cases j
  .simp only[Classical.not_forall,Classical.not_not]at w;obtain⟨e,u,y⟩:=w;refine⟨e,u,y,?_⟩;rw[<-y,kq A.2 u]at j;exact j
 .rintro⟨e,u,rfl,j⟩;rw[kq A.2 u];exact j
def trc(t:Tr):List PV:=[.v (.int .u64 t.1),.v (.int .u64 t.2.1),.v (.int .u64 t.2.2)]
def trp(t:Tr):PV:=.agg (trc t)
attribute [go_sem] trc trp
def zl3(a b:List En)(j:SmV a)(hb:SmV b):Cn xT 85 [vp a,vp b] (vp (ks zn a b)):=by refine zt Tryz.func85 2 ?_;refine pw ?_;exact .d (zdc a b j hb)
def knowUnion_c{C:Nat->List Nat}{R:List Nat}{n:Nat}(a b:List Fg)(j:Kn C R n a)(hb:Kn C R n b)(ok:OkX C R)(u:n<=40000):Cn xT 51 [kp a,kp b] (.tup [kp (vh zn a b),.v .nilIface]):=by refine zt Tryz.func51 2 ?_;refine pw ?_;exact .d (Vk zn rfl 85 a b j hb ok u (λx=>zl3 _ _ (j.at ok x) (hb.at ok x)))
def zir{op:Nat}(h:op<3):Qj op false false=false:=by
 obtain rfl|rfl|rfl:op=0\/op=1\/op=2:=a8
 all_goals rfl
def YG{C:Nat->List Nat}{R:List Nat}{n:Nat}(a b:List Fg)(op:Nat)(ho:op<3)(A:Kn C R n a)(hb:Kn C R n b)(ok:OkX C R)(N:n<=20000):Cn xT 58 [kp a,kp b,.v (.int .i64 op)] (kp (vh (Qj op) a b)):=by
 have E:=A.app hb;have u:=E.ok12 ok a8;have w:=A.ok12 ok a8;have y:=hb.ok12 ok a8;have L:=xW (a++b);have I:=u.t;have J:=A.l;have K:=hb.l;have G:=A.parts (zir ho) hb ok;have F:=Kc (yy (Qj op) a b) G ok a8;refine zt Tryz.func58 3 ?_;refine pw ?_;rw[<-WI];refine .c (VT (a++b) u.r u.z u.l u.t (Ya (a++b) u.r u.z u.l u.t u.i)) ?_;refine pLoop.go (λj=>j<=(zu (a++b)).length) (λj=>[(9,.sl (((zu (a++b)).take j).map (λs=>fc (Zx (Qj op) a b s))) (.r 51 2)),(10,.v (.int .i64 (j:Nat)))]) (λ_=>[]) (λj=>(zu (a++b)).length-j) 0 [6,7,9,10,12,13,14,15,16,17,18,19] ?_ ?_ ?_
 .exact X3 _
 .exact pd
 .rintro j M;refine pw ?_;refine .i ?_ ?_<;>intro h<;>(try simp only[zb]at h)<;>first|refine pw ?_|exact pd
  .have H:=Qr (Qj op) a b h;refine .c (VR a (zu (a++b))[j].lo w.ik w.ok w.r w.s w.z) ?_;refine .c (VR b (zu (a++b))[j].lo y.ik y.ok y.r y.s y.z) ?_;refine .c (zcC (qc a (zu (a++b))[j].lo) (qc b (zu (a++b))[j].lo) op ho (A.at ok _) (hb.at ok _)) ?_;exact⟨j+1,h,a8,H.symm,rfl⟩
  .have B:Cn xT 95 [.sl (((zu (a++b)).take j).map (λs=>fc (Zx (Qj op) a b s))) .sh] (kp (vh (Qj op) a b)):=(by rw[YC (Qj op) a b a8];exact F)
   (first|exact .d (B)|exact .q (B))
def zds{C:Nat->List Nat}{R:List Nat}{n:Nat}(k:List Fg)(h:Kn C R n k)(ok:OkX C R)(j:n<=40000):Cn xT 83 [kp k] (kp (zbx k)):=by show Cn xT 83 [kp k] (kp (zL (jq k)));refine zt Tryz.func83 1 ?_;refine pw ?_;refine .c (ziJ k (h.ok12 ok a8)) ?_;exact .d (zfn (jq k) (h.refine ok) ok a8)
structure Cr15(a b:List Fg):Prop where
 ra:RightK a
 rb:RightK b
 ka:Kn (CKL [a,b]) (RKL [a,b]) 240 a
 kb:Kn (CKL [a,b]) (RKL [a,b]) 240 b
 ok:OkX (CKL [a,b]) (RKL [a,b])
attribute [go_sem] zou
def znP(i r c:Nat):List Fg:=[⟨[⟨i,i⟩],zl9 r c⟩]
def zmg:zsC []:=⟨λe h=>(by cases h),List.Pairwise.nil⟩
def zic:RightK []:=λf h=>by cases h
def zoC{r c:Nat}(w:r<zk)(j:c<zk):ks zn [] (zl9 r c)=zl9 r c:=
 zoY rfl zmg (zkS w j).right (zkS w j) λx=>by have u:=qi (zkS w j).right x;have A:Nrm []:=trivial;refine Nrm.unique u (qH A u) λy B=>?_;rw[knV_nil,qj A u B];simp[zn,mem]
def zoH:SmV []:=⟨zmg,b6,λe h=>by cases h⟩
def znJ{C:Nat->List Nat}{R:List Nat}{n:Nat}(k:List Fg)(i r c:Nat)(w:r<zk)(u:c<zk)(hk:Kn C R n k)(y:Kn C R n (znP i r c))(ok:OkX C R)(A:n<=40000):Cn xT 49 [kp k,.v (.int .u64 i),.v (.int .u64 r),.v (.int .u64 c)] (.tup [kp (vh zn k (znP i r c)),.v .nilIface]):=by
 have j:=zoX [] r c zoH w u;rw[zoC w u]at j;refine zt Tryz.func49 4 ?_;refine pw ?_
 (first|refine .c (j) ?_|refine .o (j) ?_)
 exact .d (knowUnion_c k (znP i r c) hk y ok A)
def zo1{D:Qk}{w:World}{v:Value}{s:ByteArray}{c k:Int}{t j:TypeId}(h:Dat D w v (.ifc t (.agg [.v (.string s),.ifc j (.agg [.v (.int .i64 c),.v (.int .i64 k)])]))):v=.iface t (.agg #[.string s,.iface j (.agg #[.int .i64 c,.int .i64 k])]):=by
 cases h with
 | ifc t x p h=>
   generalize A:[PV.v (.string s),PV.ifc j (.agg [.v (.int .i64 c),.v (.int .i64 k)])]=cs at h;cases h with
   | agg us cs hs _ h=>
     subst A;obtain⟨l⟩:=us;match l,hs with
     |[x,y],_=>have u:=(Rel.dat (ρ:=λ_=>0) (nb:=0) (h 0 _ rfl)).v_inv;have e1:=zaX (h 1 _ rfl);simp at u e1;rw[u,e1]
def zqt(i r c:Nat)(j:c<zk):Cn xT 91 [.v (.int .u64 i),.v (.int .u64 r),.v (.int .u64 c)] (kp (znP i r c)):=by refine zt Tryz.func91 3 ?_;refine pw ?_;refine .c (zq7 r c j) ?_;rfl
def zqd{C:Nat->List Nat}{R:List Nat}{n:Nat}(k:List Fg)(i r c:Nat)(w:c<zk)(hk:Kn C R n k)(u:Kn C R n (znP i r c))(ok:OkX C R)(y:n<=20000):Cn xT 56 [kp k,.v (.int .u64 i),.v (.int .u64 r),.v (.int .u64 c)] (kp (vh zn k (znP i r c))):=by
 have j:Cn xT 58 [kp k,kp (znP i r c),.v (.int .i64 0)] (kp (vh zn k (znP i r c))):=YG k (znP i r c) 0 a8 hk u ok y;refine zt Tryz.func56 4 ?_;refine pw ?_;refine .c (zqt i r c w) ?_
 (first|exact .d (j)|exact .q (j))
def zqm{a b:List Iv}(j:Nrm a)(hb:Nrm b):(qy fMeet a b).length<=2*(a.length+b.length):=by have u:=zcK (C:=z6 a++z6 b) (qH (f:=fMeet) j hb) λx w=>(zcM rfl j hb w).elim (λh=>wE.2 (.inl (Y3 j.ivs2 h))) (λh=>wE.2 (.inr (Y3 hb.ivs2 h)));have y:=vq a;have A:=vq b;rw[wk]at u;omega
def zl5(k:List Fg)(items:List Iv):List Fg:=k.map λf=>⟨qy fMeet f.items items,f.vec⟩
def znX{k:List Fg}{items:List Iv}(h:RightK k)(hi:Nrm items):RightK (zl5 k items):=λg u=>by obtain⟨f,j,rfl⟩:=wC.1 u;exact⟨qH (h f j).1 hi,(h f j).2⟩
def zoG{items:List Iv}(hi:Nrm items):∀{k:List Fg},RightK k->qE (zl5 k items)<=2*qE k+2*(k.length*items.length)
 |[],_=>X3 _
 |f::k,h=>by have u:=zoG hi (k:=k) λg j=>h g (by simp[j]);have w:=zqm (h f b6).1 hi;have e:zl5 (f::k) items=⟨qy fMeet f.items items,f.vec⟩::zl5 k items:=rfl;rw[e];simp only[qE,wy,WZ,Nat.one_mul];omega
def zn1{k:List Fg}{items:List Iv}(h:RightK k)(hi:Nrm items):CanK (znF k items):=zbX (znX h hi)
def zpu(f:FuncId):PV:=.fn (.func f) [] []
attribute [go_sem] zpu
structure Ok14(a b:List Fg):Prop where
 ra:RightK a
 rb:RightK b
 ka:Kn (CKL [a,b]) (RKL [a,b]) 240 a
 kb:Kn (CKL [a,b]) (RKL [a,b]) 240 b
 ok:OkX (CKL [a,b]) (RKL [a,b])
def Kn.proj{C:Nat->List Nat}{R:List Nat}{n m:Nat}{k:List Fg}{items:List Iv}(h:Kn C R n k)(hi:Nrm items)(B:2*n+2*(k.length*items.length)<=m):Kn C R m (zl5 k items):=by
 have w:=zoG hi h.r;have y:=h.m;have A:=h.l;refine⟨znX h.r hi,λg u=>?_,λg u=>?_,a8,?_⟩
 .obtain⟨f,j,rfl⟩:=wC.1 u;exact h.ik f j
 .obtain⟨f,j,rfl⟩:=wC.1 u;exact h.s f j
 .unfold zl5;rw[wu];omega
def zqU{C:Nat->List Nat}{R:List Nat}{n:Nat}(k:List Fg)(h:Kn C R n k)(ok:OkX C R)(j:n<=40000):Cn xT 97 [kp k] (kp (zbx k)):=by show Cn xT 97 [kp k] (kp (zL (jq k)));refine zt Tryz.func97 1 ?_;refine pw ?_;refine .c (zqR k (h.ok12 ok a8)) ?_;exact .d (Kc (jq k) (h.refine ok) ok a8)
def zqV(k:List Fg)(items:List Iv){j:Nat}(h:j<k.length):((zl5 k items).take (j+1)).map fc=((zl5 k items).take j).map fc++[fc ⟨qy fMeet k[j].items items,k[j].vec⟩]:=by have w:(zl5 k items).length=k.length:=wu _;have u:(zl5 k items)[j]'a8=⟨qy fMeet k[j].items items,k[j].vec⟩:=Uz _;rw[X4 a8,WI,u];rfl
def zqQ{C:Nat->List Nat}{R:List Nat}{n m:Nat}(k:List Fg)(items:List Iv)(hk:Kn C R n k)(hi:Nrm items)(B:items.length<=100000)(H:Kn C R m (zl5 k items))(ok:OkX C R)(K:n<=100000)(G:m<=40000):Cn xT 59 [kp k,rg items] (kp (znF k items)):=by
 have E:=hk.l;have y:=zqU (zl5 k items) H ok G;have I:(zl5 k items).length=k.length:=wu _;refine zt Tryz.func59 2 ?_;refine pw ?_;refine pLoop.go (λj=>j<=k.length) (λj=>[(5,.sl (((zl5 k items).take j).map fc) (.r 28 2)),(6,.v (.int .i64 (j:Nat)))]) (λ_=>[]) (λj=>k.length-j) 0 [5,6] ?_ ?_ ?_
 .exact X3 _
 .exact pd
 .rintro j J;refine pw ?_;refine .i ?_ ?_<;>intro h<;>(try simp only[zb]at h)<;>first|refine pw ?_|exact pd
  .have A:=zqV k items h;have w:=Yf h;have F:k[j].items.length<=100000:=(by have:=yv w;have:=hk.m;omega);refine .c (zq2 k[j].items items (hk.r _ w).1 hi a8 a8) ?_;refine cutP.full rfl ?_ rfl ?_ ?_
   .exact pd
   .exact pd
   .refine pw ?_;exact⟨j+1,h,a8,A.symm,rfl⟩
  .have u:Cn xT 97 [.sl (((zl5 k items).take j).map fc) .sh] (kp (znF k items)):=(by rw[wm a8];exact y)
   (first|exact .d (u)|exact .q (u))
def EdI(E:List Nat)(k:List Fg):Prop:=∀f∈k,∀x,Ed f.items x->x∈E
def zsx{E:List Nat}{k:List Fg}(h:RightK k)(C:EdI E k)(w:0∈E):∀x∈zq k,x∈E:=λx H=>by
 obtain⟨y,A⟩:=(vZ h).1 H;by_cases e:x=0
 .rw[e];exact w
 have B:=A.resolve_left e;have:∃f∈k,mem f.items (x-1)≠mem f.items x:=wU λG=>by have:qX k (x-1) x=true:=qo.2 λf j=>wU λF=>G ⟨f,j,F⟩;rw[B]at this;cases this
 obtain⟨f,j,u⟩:=this;exact C f j x ⟨y,by rw[Vm e];exact λe=>u e.symm⟩
def zsj{E:List Nat}{k:List Fg}(h:RightK k)(B:EdI E k)(y:0∈E):(zu k).length<=E.length/\∀s∈zu k,∀x,Ed [s] x->x∈E:=by
 have hs:=zsx h B y;have w:(cutsK k).length=(zq k).length:=vO _;have C:=Ji _ _ (startsK_asc k) hs;constructor
 .have:(zu k).length<=(cutsK k).length:=WA _ _;omega
 .intro s F x u;obtain⟨i,hi,rfl⟩:=Wk (WB.1 F).1;have j:i<(zq k).length:=a8;have e:(cutsK k)[i]=⟨(zq k)[i],if h:i+1<(zq k).length then (zq k)[i+1]-1 else zk-1⟩:=Vx (zq k) i j;have G:=u.1;rw[e]at u;rcases zhC u with rfl|A
  .exact hs _ (Yf j)
  .split at A
   .rename_i h3;have H:=wQ.1 (startsK_asc k) i (i+1) j h3 a8;rw[show x=(zq k)[i+1] by omega];exact hs _ (Yf h3)
   .have:=xM;omega
def zsu{E:List Nat}:∀{o:List Fg}{f:Fg},(∀g∈o,Nrm g.items)->Nrm f.items->EdI E o->(∀x,Ed f.items x->x∈E)->EdI E (qN o f)
 |[],f,_,_,_,hf=>λg u=>by simp only[qN,wI]at u;subst u;exact hf
 | g::o,f,hn,hnf,ho,hf=>by
   have w:=zsu (o:=o) (f:=f) (λx j=>hn x (by simp[j])) hnf (λx j=>ho x (by simp[j])) hf;have u:=ho g b6;unfold qN;split
   .intro x j;rcases wh.1 j with rfl|j
    .exact u
    .exact w x j
   .split
    .intro x j;rcases wh.1 j with rfl|j
     .exact λy A=>(zcM rfl (hn g b6) hnf A).elim (u y) (hf y)
     .exact ho x (by simp[j])
    .intro x j;rcases wh.1 j with rfl|j
     .exact hf
     .exact ho x j
def zsf{E:List Nat}:∀{k o:List Fg},GrpI o->RightK k->EdI E o->EdI E k->EdI E (k.foldl yo o)
 |[],_,_,_,ho,_=>ho
 | f::k,o,j,hr,ho,hk=>by
   have u:=hr f b6;rw[WP];refine zsf (Yr j u).1 (λg j=>hr g (by simp[j])) ?_ λg j=>hk g (by simp[j]);unfold yo;split
   .exact ho
   .exact zsu (λg h=>(j.ok g h).2.2.1) u.1 ho (hk f b6)
def zsl{E:List Nat}{k:List Fg}(h:RightK k)(j:EdI E k):EdI E (zL k):=zsf GrpI.nil h (λf h=>by cases h) j
structure Ke(C:Nat->List Nat)(R E:List Nat)(k:List Fg):Prop where
 can:CanK k
 ik:IK C R k
 s:∀f∈k,SmV f.vec
 ed:EdI E k
 m:qE k<=E.length
 l:k.length<=E.length
section
variable {C:Nat->List Nat}{R E:List Nat}{a b k:List Fg}
def Ke.r(h:Ke C R E k):RightK k:=h.can.right
def Ke.kn(h:Ke C R E k):Kn C R E.length k:=⟨h.r,h.ik,h.s,h.m,h.l⟩
def Ke.nil:Ke C R E []:=⟨zaJ,(λf h=>by cases h),(λf h=>by cases h),(λf h=>by cases h),X3 _,X3 _⟩
def Ke.do{f:Bool->Bool->Bool}(F:f false false=false)(j:Ke C R E a)(hb:Ke C R E b)(ok:OkX C R)(y:0∈E):Ke C R E (vh f a b):=by
 have G:=j.r.app hb.r;have B:EdI E (a++b):=λf h=>(wE.1 h).elim (j.ed f) (hb.ed f);obtain⟨H,A⟩:=zsj G B y;have w:=xU (f:=f) j.r hb.r;have hk:=Kn.do F j.kn hb.kn ok;have u:=jU w;refine⟨ze5 j.r hb.r,hk.ik,hk.s,zsl w λg u=>?_,?_,?_⟩
 .obtain⟨s,hs,rfl⟩:=wC.1 u;exact A s hs
 .have:qE (yy f a b)=(zu (a++b)).length:=Zf _ _;unfold vh;omega
 .have:(yy f a b).length=(zu (a++b)).length:=wu _;unfold vh;omega
def Ke.canonP{n:Nat}(hk:Kn C R n k)(B:EdI E k)(ok:OkX C R)(y:0∈E):Ke C R E (zbx k):=by
 obtain⟨F,A⟩:=zsj hk.r B y;have w:=Yb hk.r;have j:=hk.canon ok;have u:=jU w;refine⟨zbX hk.r,j.ik,j.s,zsl w λg u=>?_,?_,?_⟩
 .obtain⟨s,hs,rfl⟩:=wC.1 u;exact A s hs
 .have:qE (jq k)=(zu k).length:=Zf _ _;unfold zbx;omega
 .have:(jq k).length=(zu k).length:=wu _;unfold zbx;omega
def zsF{items:List Iv}(h:Ke C R E k)(hi:Nrm items)(u:∀x,Ed items x->x∈E):EdI E (zl5 k items):=λg w=>by obtain⟨f,j,rfl⟩:=wC.1 w;exact λx y=>(zcM rfl (h.r f j).1 hi y).elim (h.ed f j x) (u x)
end
structure Rs where
 id:Nat
 recs:List Rc
 known:List Fg
 next:Nat
def zs7(x y:Rc):Bool:=decide (y.ctr<x.ctr) || (decide (x.ctr=y.ctr) && decide (y.rep<x.rep))
def zsq(s:Rs)(i:Nat):Nat:=match zrZ s.recs i with
 |some x=>if s.next<=x.ctr then x.ctr+1 else s.next
 |none=>s.next
def ztL(s:Rs)(i:Nat)(v:ByteArray):Rc:=⟨i,s.id,zsq s i,v⟩
noncomputable def ztM (s:Rs) (i:Nat) (v:ByteArray):Rs:=⟨s.id,zr4 s.recs (ztL s i v),vh zn s.known (znP i s.id (zsq s i)),zsq s i+1⟩
def zs0(s:Rs)(known:List Fg)(items:List Iv):List Rc:=s.recs.filter λx=>mem items x.item && !hasK known x.item x.rep x.ctr
def zse(l:List Rc)(x:Rc):List Rc:=match zrZ l x.item with
 |some y=>if zs7 x y=true then zr4 l x else l
 |none=>zr4 l x
noncomputable def ztt (s f:Rs) (items:List Iv):Rs:=⟨s.id,(zs0 f s.known items).foldl zse s.recs,vh zn s.known (znF f.known items),s.next⟩
structure Env25(C:Nat->List Nat)(R E I:List Nat):Prop where
 ok:OkX C R
 c:∀r x,x<=26->x∈C r
 z:0∈E
 e:E.length<=1000
 i:I.length<=25
 m:∀i∈I,i<zk/\i∈E/\(i+1<zk->i+1∈E)
structure Ok25(C:Nat->List Nat)(R E I:List Nat)(n:Nat)(s:Rs):Prop where
 k:Ke C R E s.known
 a:zr8 s.recs
 x:∀x∈s.recs,x.item∈I/\x.rep<zk/\x.ctr<n/\x.val.size<=100
 n:s.next<=n
 i:s.id<zk/\s.id∈R
def zsA{l:List Rc}{I:List Nat}(h:zr8 l)(j:∀x∈l,x.item∈I):l.length<=I.length:=by
 have:=Ji (l.map Rc.item) I (uv.2 h) λy w=>by obtain⟨x,u,rfl⟩:=wC.1 w;exact j x u
 simpa using this
section
variable {C:Nat->List Nat}{R E I:List Nat}{n:Nat}{s f:Rs}
def Ok25.len(h:Ok25 C R E I n s)(e:Env25 C R E I):s.recs.length<=25:=by have:=zsA h.a λx j=>(h.x x j).1;have:=e.i;omega
def Ok25.ctr(h:Ok25 C R E I n s)(i:Nat):zsq s i<=n:=by
 unfold zsq;have:=h.n;cases hg:zrZ s.recs i with
 |none=>exact this
 | some x=>
   have j:=(h.x x (zsB hg).1).2.2.1;dsimp only;split
   .omega
   .exact this
def Ok25.mono{m:Nat}(h:Ok25 C R E I n s)(u:n<=m):Ok25 C R E I m s:=
 ⟨h.k,h.a,λx j=>by have:=h.x x j;exact⟨this.1,this.2.1,a8,this.2.2.2⟩,by have:=h.n;omega,h.i⟩
def ztd(e:Env25 C R E I){i r c:Nat}(hi:i∈I)(J:r<zk)(L:r∈R)(O:c<=25):Ke C R E (znP i r c):=by
 have N:=zw;obtain⟨B,F,G⟩:=e.m i hi;have w:c<zk:=a8
 have M:1<=E.length:=uh e.z;have u:=zkS J w;have H:IV C R (zl9 r c):=by
  refine⟨u.right,λq x A=>?_,λy K=>?_⟩
  .rw[zoE J w]at A;split at A
   .rcases zhC A with rfl|rfl
    .exact e.c _ _ a8
    .exact e.c _ _ a8
   .exact absurd A zcL
  .simp only[zl9,wI]at K;subst K;rw[qD b6];exact L
 refine⟨⟨⟨λg j=>?_,by simp[znP]⟩,by simp[znP,xh]⟩,λg j=>?_,λg j=>?_,λg j x A=>?_,?_,?_⟩
 .simp only[znP,wI]at j;subst j;exact⟨u,by simp[zl9],qG (Zp _) B,b6⟩
 .simp only[znP,wI]at j;subst j;exact H
 .simp only[znP,wI]at j;subst j;exact zoF J w
 .simp only[znP,wI]at j;subst j;rcases zhC A with rfl|rfl
  .exact F
  .exact G A.1
 .simp[znP,qE];omega
 .simp[znP];omega
def Ok25.put(h:Ok25 C R E I n s)(e:Env25 C R E I){i:Nat}{v:ByteArray}(hi:i∈I)(u:v.size<=100)(y:n<=25):Ok25 C R E I (n+1) (ztM s i v):=by
 have w:=h.ctr i;refine⟨h.k.do rfl (ztd e hi h.i.1 h.i.2 a8) e.ok e.z,zr6 h.a,λx j=>?_,by show zsq s i+1<=n+1;omega,h.i⟩;rcases zr3 j with rfl|j
 .exact⟨hi,h.i.1,by show zsq s i<n+1;omega,u⟩
 .have:=h.x x j;exact⟨this.1,this.2.1,a8,this.2.2.2⟩
def zsz{l:List Rc}{x y:Rc}(h:y∈zse l x):y=x\/y∈l:=by
 unfold zse at h;split at h
 .split at h
  .exact zr3 h
  .exact .inr h
 .exact zr3 h
def zsy{l:List Rc}{x:Rc}(h:zr8 l):zr8 (zse l x):=by
 unfold zse;split
 .split
  .exact zr6 h
  .exact h
 .exact zr6 h
def zsa:∀{m l:List Rc},zr8 l->zr8 (m.foldl zse l)/\∀x∈m.foldl zse l,x∈m\/x∈l
 |[],l,h=>⟨h,λx u=>.inr u⟩
 | y::m,l,h=>by
   obtain⟨w,A⟩:=zsa (m:=m) (zsy (x:=y) h);refine⟨w,λx u=>?_⟩;rcases A x u with j|j
   .exact .inl (by simp[j])
   .exact(zsz j).imp (λe=>by simp[e]) id
def zsR{k:List Fg}(h:Ke C R E k)(e:Env25 C R E I){items:List Iv}(hi:Nrm items)(u:∀x,Ed items x->x∈E)(w:items.length<=10):Ke C R E (znF k items)/\Kn C R 22000 (zl5 k items):=by have y:=h.l;have A:=h.m;have B:=e.e;have F:k.length*items.length<=1000*10:=UP a8 w;have j:Kn C R 22000 (zl5 k items):=Kn.proj h.kn hi a8;exact⟨Ke.canonP j (zsF h hi u) e.ok e.z,j⟩
def Ok25.pull(h:Ok25 C R E I n s)(u:Ok25 C R E I n f)(e:Env25 C R E I){items:List Iv}(hi:Nrm items)(A:∀x,Ed items x->x∈E)(B:items.length<=10):Ok25 C R E I n (ztt s f items):=by
 obtain⟨w,y⟩:=zsa (m:=zs0 f s.known items) h.a;refine⟨h.k.do rfl (zsR u.k e hi A B).1 e.ok e.z,w,λx F=>?_,h.n,h.i⟩;rcases y x F with j|j
 .exact u.x x (WB.1 j).1
 .exact h.x x j
end
end
section
open Go.RowKit
attribute [-go_sem] z7
def cn_bool{f:FuncId}{A:List PV}{b:Bool}(F:Cn xT f A (.v (.bool b))){D:Qk}{w:World}{vs:Array Value}(E:GL D w)(C:∀b o,D b o->b<w.heap.size)(y:vs.size=A.length)(j:∀(i:Nat) p,A[i]?=some p->Dat D w (vs.getD i undef) p):
 Calls xT f vs w λe B=>e=.returned (.bool b)/\Below w.heap.size w B:=by
 refine(jP F E C y j).mono ?_;rintro e B ⟨u,rfl,hb,j⟩;have e:=(Rel.dat (ρ:=λ_=>0) (nb:=0) j).v_inv;rw[e];exact⟨rfl,hb⟩
def wp_some{P:Program}{c:Code}{a:Act}{W:World}{Q:Exit->Act->World->Prop}{R:World->Prop}(h:R W)(k:∀W,R W->c.wp P Q a W):c.wp P Q a W:=k W h
def Nw(D:Qk)(w j:World):Nat->Nat->Prop:=λb o=>D b o\/(w.heap.size<=b/\b<j.heap.size)
def Gd(D:Qk)(w:World):Prop:=GL D w/\∀b o,D b o->b<w.heap.size
def Rpl(D:Qk)(t:Nat)(w:World)(b m:Nat)(s:Rs):Prop:=
 ∃ka j,w.heap[b]?=some (.cells #[.int .u64 s.id,.map (some m),.slice ka s.known.length j,.int .u64 s.next,.bool false] 107 (0,0))/\MR t m w s.recs/\Dat D w (.slice ka s.known.length j) (kp s.known)
def Gd.keep{D:Qk}{S:Nat->Prop}{w w':World}(h:Gd D w)(hk:Keep S w w')(u:∀b o,D b o->¬S b):Gd D w':=
 ⟨h.1.mono (λ_ _ h=>h) λb o x j y=>hk.cell_some y (u b o j),λb o j=>vw (h.2 b o j) hk.size⟩
def Gd.new{D:Qk}{w w0 j:World}(h:Gd D j)(hs:w0.heap.size<=j.heap.size):Gd (Nw D w0 j) j:=⟨h.1.mono (λ_ _ h=>.inl h) λ_ _ _ _ h=>h,λb o u=>u.elim (h.2 b o) ub⟩
def Rpl.keep{D D':Qk}{S:Nat->Prop}{t b m:Nat}{w w':World}{s:Rs}(h:Rpl D t w b m s)(hk:Keep S w w')(hb:¬S b)(C:¬S m)(u:∀b o,D b o->D' b o/\¬S b):Rpl D' t w' b m s:=by obtain⟨ka,F,y,j,A⟩:=h;exact⟨ka,F,hk.obj y hb,j.keep (hk.block m j.lt C),A.mono (λb o h=>(u b o h).1) λb o x B E=>hk.cell_some E (u b o B).2⟩
def Rpl.mono{D:Qk}{t j b m:Nat}{w:World}{s:Rs}(h:Rpl D t w b m s)(ht:t<=j):Rpl D j w b m s:=by obtain⟨ka,B,u,y,A⟩:=h;exact⟨ka,B,u,y.mono ht,A⟩
def zuI(id:Nat)(D:Qk)(w:World):Calls xT 19 #[.int .u64 (id:Nat)] w λe u=>e=.returned (.pointer (some ⟨w.heap.size+1,0,none⟩))/\Below w.heap.size w u/\u.heap.size=w.heap.size+2/\Rpl D 0 u (w.heap.size+1) w.heap.size ⟨id,[],[],0⟩:=by
 have y:=@run_makeMap xT
 go_enter Tryz.func19,Tryz.ntmps19
 go_wp2;refine tz (tK rfl _ _ _) rfl ?_;exact⟨rfl,((tu _ w).alloc (Zp _) _).alloc b6 _,b6,none,0,TB _ _ _,(MR.made w).keep (tv _ _ _ b6),.sl none 0 1 [] .sh 0 0 (λ_=>undef) (Zp _) (λh=>by cases h) b8 (λh=>absurd rfl h) (λi e h=>by simp at h) (λj h=>by simp at h) (λi e j p h=>by simp at h)⟩
def zte{D:Qk}{t b m n:Nat}{w:World}{s:Rs}(K:Rpl D t w b m s)(F:Gd D w)(hb:CanK s.known)(I:s.known.length<=1000000)(hz:∀f∈s.known,f.items.length<=1000000/\f.vec.length<=1000000/\∀e∈f.vec,e.holes.length<=1000000):
 Calls xT 23 #[.pointer (some ⟨b,0,none⟩)] w λe C=>∃v,e=.returned v/\Below w.heap.size w C/\Dat (Nw D w C) C v (kp s.known):=by
 obtain⟨ka,L,y,A,E⟩:=K;have G:=zrM s.known E F.2 (λf H=>⟨(hb.right f H).1.lt,(hb.gi.ok f H).1.bd⟩) I hz;have O:w.cell? ⟨b,2,none⟩=some (.slice ka s.known.length L):=(zW y 2 _ rfl).1;have J:=qL G;clear G y A E F hb I hz;go_enter Tryz.func23,Tryz.ntmps23
 go_wp2_with (go_at_call 53;refine J.o.mono ?_;rintro e P ⟨u,rfl,B,j⟩;obtain⟨M,N,rfl,_⟩:=RwF.shape j)
 go_ret;exact⟨_,rfl,B,KO.dat j λb o y A=>.inr ⟨y,A⟩⟩
def zs4{fn:Func}{p u:Tmp}{y t:TypeId}{B:Array Field}{w:World}{g:Nat}{cs:Array Value}{j:Array Value}(h:fn.results=#[.cell p y,.tmp u])(E:j.getD p undef=.pointer (some ⟨g,0,none⟩))(C:w.heap[g]?=some (.cells cs t (0,0)))
 (F:xT.underlying y=some (.struct B)) (hi:(xT.info? y).map (·.size)=some cs.size):(results fn j).run xT w=.ok (.tuple #[.agg cs,j.getD u undef]) w:=by
 have A:j[p]?.getD undef=.pointer (some ⟨g,0,none⟩):=dJ E
 simp[results,h,A,asAddr,run_loadVar_row w g t y cs (0,0) _ C F rfl hi]
def zwk{D:Qk}{t b m:Nat}{w:World}{s:Rs}{i:Nat}(I:Rpl D t w b m s)(hi:i<zk):Calls xT 17 #[.pointer (some ⟨b,0,none⟩),.int .u64 (i:Nat)] w λe J=>e=.returned (.tuple #[rcv ((zrZ s.recs i).getD zRc),.bool (zrZ s.recs i).isSome])/\Below w.heap.size w J:=by
 obtain⟨ka,K,j,u,H⟩:=I;have F:w.cell? ⟨b,1,none⟩=some (.map (some m)):=(zW j 1 _ rfl).1;have E:=qL u;have B:=u.lt;have A:=(XE.1 j).1;have G:∀o,(w.alloc o).cell? ⟨b,1,none⟩=some (.map (some m)):=λo=>(tn (a:=⟨b,1,none⟩) (tv _ _ _ A)).trans F;clear j u H;go_enter Tryz.func17,Tryz.ntmps17
 go_wp2_with (at_lookup;refine zsX rfl _ _ rfl rfl (E.o.keep (tv _ _ _ B)) hi rfl (λC=>?_) λy C=>?_)
 .refine tz (zs4 rfl rfl (Te _ _ _) Tryz.underlying60 dK) rfl ?_;rw[C];exact⟨rfl,((tu _ w).alloc (Zp _) _).alloc b6 _⟩
 .refine tz (zs4 rfl rfl (Te _ _ _) Tryz.underlying60 dK) rfl ?_;rw[C];exact⟨rfl,((tu _ w).alloc (Zp _) _).alloc b6 _⟩
def zvi{D:Qk}{base sz:Nat}{w:World}{e:TypeId}{v:Value}{B:List (List PV)}{C:List Value}(h:w.ownsRow base e sz v B.length C)(hs:∀(i:Nat)(p:List PV),B[i]?=some p->p.length=sz)(M:∀u∈C,u.oneCell'=true)(P:∀b o,base<=b->b<w.heap.size->D b o)
 (X:∀(i:Nat)(l:List PV)(j:Nat)(p:PV),B[i]?=some l->l[j]?=some p->∃u,C[i*sz+j]?=some u/\Dat D w u p):Dat D w v (.sl B .sh):=by
 have Z:=h.1;rcases h.2 with⟨rfl,L⟩|⟨g,y,K,rfl,S,Q,T,I,hz,ht⟩
 .rw[wX.1 L];exact .sl none 0 sz [] .sh 0 0 (λ_=>undef) (Zp _) (λh=>by cases h) b8 (λh=>absurd rfl h) (λi e h=>by simp at h) (λj h=>by simp at h) (λi e j p h=>by simp at h)
 .have F:=(XE.1 Q).1;by_cases E:B=[]
  .subst E;exact .sl _ y sz [] .sh g 0 (λ_=>undef) (X3 _) (λh=>by cases h) I (λ_=>rfl) (λi e h=>by simp at h) (λj h=>by simp at h) (λi e j p h=>by simp at h)
  have J:=wW.2 E;have H:∀j u,C[j]?=some u->w.cell? ⟨g,j,none⟩=some u:=λj u V=>(by have:=tJ h (g:=g) (by cases y with|zero=>omega|succ c=>rfl) j u V;rw[zh,wn]at this;exact this);refine .sl _ y sz B .sh g 0 (λj=>(C[j]?).getD undef) T (λh=>by cases h) I (λ_=>rfl) hs (λj Y=>?_) (λi l j p G U=>?_)
  .have A:j<C.length:=a8;rw[Zv A,wn];exact⟨P g j S F,H j _ (Zv A),M _ (Yf A)⟩
  .obtain⟨u,N,O⟩:=X i l j p G U;rw[N];exact O
def rcs(x:Rc):List Value:=[.int .u64 x.item,.int .u64 x.rep,.int .u64 x.ctr,.string x.val]
def OwnL(e:TypeId)(base:Nat)(w:World)(v:Value)(l:List Rc):Prop:=w.ownsRow base e 4 v l.length (l.flatMap rcs)
def zsD:∀{l:List Rc}{i:Nat}(h:i<l.length){j:Nat},j<4->(l.flatMap rcs)[i*4+j]?=(rcs l[i])[j]?
 |x::l,0,_,j,hj=>by rw[Wg,V3 (by simp[rcs];omega),Nat.zero_mul,wn];rfl
 |x::l,i+1,h,j,hj=>by rw[Wg,V1 (by simp[rcs];omega),show (i+1)*4+j-(rcs x).length=i*4+j by simp[rcs];omega,zsD (dJ h) hj];rfl
def zs3{l:List Rc}:∀u∈l.flatMap rcs,u.oneCell'=true:=λu j=>by
 obtain⟨x,_,h⟩:=uk.1 j;simp[rcs]at h;rcases h with rfl|rfl|rfl|rfl<;>rfl
def OwnL.dat{D:Qk}{e:TypeId}{base:Nat}{w:World}{v:Value}{l:List Rc}(h:OwnL e base w v l)(A:∀b o,base<=b->b<w.heap.size->D b o):Dat D w v (lp l):=by
 refine zvi (sz:=4) (e:=e) (base:=base) (by rw[wu];exact h) (λi p u=>?_) zs3 A λi q j p y u=>?_
 .rw[wj]at u;obtain⟨x,_,rfl⟩:=ZZ.1 u;rfl
 .rw[wj]at y;obtain⟨x,B,rfl⟩:=ZZ.1 y;obtain⟨hi,rfl⟩:=Zw.1 B;match j,u with
  |0,u=>cases u;exact⟨_,zsD hi a8,.v _⟩
  |1,u=>cases u;exact⟨_,zsD hi a8,.v _⟩
  |2,u=>cases u;exact⟨_,zsD hi a8,.v _⟩
  |3,u=>cases u;exact⟨_,zsD hi a8,.v _⟩
def OwnL.val{e:TypeId}{base:Nat}{w:World}{v:Value}{l:List Rc}(h:OwnL e base w v l):∃a c,v=.slice a l.length c:=by
 rcases h.2 with⟨h,y⟩|⟨g,j,u,h,_⟩
 .exact⟨none,0,by rw[h,y]⟩
 .exact⟨_,_,h⟩
def zvb{l:List Rc}(w:zr8 l){j:Nat}(u:j<l.length):zrZ l l[j].item=some l[j]:=by
 cases hg:zrZ l l[j].item with
 |none=>unfold zrZ at hg;rw[Ug]at hg;exact absurd b6 (hg _ (Yf u))
 | some y=>
   obtain⟨A,B⟩:=zsB hg;obtain⟨i,hi,rfl⟩:=Wk A;rcases WK i j with h|h|h
   .have:=wQ.1 w i j hi u h;omega
   .subst h;rfl
   .have:=wQ.1 w j i u hi h;omega
def zuW{P:Program}{f:FuncId}{t:Tmp}{xs:List Operand}{j:Array Value}{c:Call}{o:Oper}{a:Act}{w:World}{K:Act->World->Prop}{Q:Exit->Act->World->Prop}(ho:o.op=.call c)(B:c.callee=.value (.tmp t))(F:a.eval (.tmp t)=.func (.func f) #[] j)(A:c.args.toList=xs)
 (C:∀u w,(callFunc f u).run P w=.ok (.enter f u) w)
 (h:Calls P f ((xs.map a.eval).toArray++j) w λe y=>match e with|.returned v=>K (a.put o.dst v) y|.panicked chain=>Q (.panic chain) a y|.outgrown=>LetsOut Q):o.wp P a w K Q:=by
 have E:(execOp a.eval o).run P w=.ok (.enter f ((xs.map a.eval).toArray++j)) w:=by have e:c.args.map a.eval=(xs.map a.eval).toArray:=WE.1 (by rw[WT,A]);simp only[execOp,ho,resolve,B,e,F,Deferred.ofValue,tG,tI,tA,invoke];rw[show (#[]++(xs.map a.eval).toArray++j:Array Value)=(xs.map a.eval).toArray++j from by simp];exact C _ _
 unfold Oper.wp;rw[E,t9];exact h.mono (λe G h=>by cases e<;>exact h)
def zvP:(xT.info? 60).map (λi=>(i.zero,i.size,i.bytes))=some (some zR,4,40):=dK
def ztO{D:Qk}{t b m:Nat}{w:World}{s:Rs}{q:Rc->Bool}{f:FuncId}{cap:Array Value}(hR:Rpl D t w b m s)(ha:zr8 s.recs)(hl:s.recs.length<=1000000)(hi:∀x∈s.recs,x.item<zk)(he:∀T w,(callFunc f T).run xT w=.ok (.enter f T) w)
 (hf:∀x∈s.recs,∀W,Below w.heap.size w W->Calls xT f (#[rcv x]++cap) W λe w'=>e=.returned (.bool (q x))/\Below W.heap.size W w') :
 Calls xT 31 #[.pointer (some ⟨b,0,none⟩),.func (.func f) #[] cap] w λe w'=>∃v,e=.returned v/\Below w.heap.size w w'/\OwnL 60 w.heap.size w' v (s.recs.filter q):=by
 obtain⟨ka,kc,h1,h2,h3⟩:=hR;have c1:w.cell? ⟨b,1,none⟩=some (.map (some m)):=(zW h1 1 _ rfl).1;have hb:=(XE.1 h1).1;have HB:=qL h1;have HM:=qL h2;have HA:=qL ha;have HI:=qL hi;have HE:=qL he;have HF:=qL hf;obtain⟨n,hn⟩:=xm (s.recs.length);have HN:=qL hn;rw[<-hn]at hl;obtain⟨i0,aj,ar,au,av⟩:=tQ zvP;have B:=qL (And.intro aj (And.intro ar (And.intro au av)));clear h1 h2 h3 ha hi he hf hn aj ar au av;go_enter Tryz.func31,Tryz.ntmps31
 go_wp2_with (first
  |(go_at_call 67;refine(zuG _ _).mono ?_;rintro e w1 ⟨rfl,rfl⟩)
  | (go_at_call 66;refine(ztB HA.o (HM.o.keep (tv _ _ _ HM.o.lt)) HI.o (tU w _ _) (by rw[<-HN.o];omega)).mono ?_
     rintro e G ⟨u2,rfl,ab,Q⟩;obtain⟨a2,c2,rfl⟩:∃a c,u2=.slice a n c:=by
      have ak:(s.recs.map Rc.item).length=n:=(by rw[wu,HN.o]);rcases ab.2 with⟨h,h0⟩|⟨g,cap,Y,h,_⟩
      .exact⟨none,0,by rw[h,<-ak,h0]⟩
      .exact⟨_,_,by rw[h,ak]⟩
     have ad:=qL ab;have I:w.heap.size<=G.heap.size:=(by have:=Q.size;simp only[tw]at this;omega);have L:=qL (((tu _ w).alloc (Zp _) _).trans (Q.mono b6));have aE:=Q.size;simp only[tw]at aE;clear ab Q))
 go_loopg [5,16] n (λg y x wr=>∃j,j<=n/\g=n-j/\x=.int .i64 j/\OwnL 60 G.heap.size wr y ((s.recs.take j).filter q)/\Below G.heap.size G wr)
 case atStart=>exact⟨0,X3 _,rfl,rfl,tS _ _ _ _,tu _ _⟩
 case round=>
  obtain⟨j,hj,rfl,rfl,ac,A⟩:=hrel;have aC:=qL ac;have ax:=qL A;have aF:=A.size;by_cases Z:j<n
  .have C:j<s.recs.length:=(by rw[<-HN.o];exact Z);obtain⟨x,hx⟩:=xm (s.recs[j]);have H:x∈s.recs:=(by rw[hx];exact Yf C);have U:zrZ s.recs x.item=some x:=(by rw[hx];exact zvb HA.o C);have ao:s.recs.take (j+1)=s.recs.take j++[x]:=(by rw[hx];exact X4 C);obtain⟨g,rfl,hg,cg⟩:∃g,a2=some ⟨g,0,none⟩/\g<G.heap.size/\wr.cell? ⟨g,j,none⟩=some (.int .u64 x.item):=by
    rcases ad.o.2 with⟨_,h0⟩|⟨g,cap,Y,h,hg,hc,ag,_,_,_⟩
    .rw[wu,<-HN.o]at h0;omega
    .obtain⟨rfl,_,rfl⟩:a2=some ⟨g,0,none⟩/\n=(s.recs.map Rc.item).length/\c2=cap:=(dJ h);have ai:=(XE.1 hc).1;rw[wu,<-HN.o]at ag;have:=tJ ad.o (g:=g) (by cases c2 with|zero=>omega|succ c=>rfl) j (.int .u64 x.item) (by rw[u0,wj,Zv C,<-hx];rfl);rw[zh,wn]at this;exact⟨g,rfl,ai,(tn (a:=⟨g,j,none⟩) (A.block g ai)).trans this⟩
   have cb:wr.cell? ⟨b,1,none⟩=some (.map (some m)):=(tn (a:=⟨b,1,none⟩) ((A.block b a8).trans (L.o.block b hb))).trans c1;have am:MR t m wr s.recs:=HM.o.keep ((A.block m (by have:=HM.o.lt;omega)).trans (L.o.block m HM.o.lt));have aH:=HI.o x H;have aI:((s.recs.take j).filter q).length<=j:=V0 (WA _ _) a9;have HG:=qL U;have az:=qL am;have ay:=qL (HF.o x H);have ae:=qL ao;obtain⟨K,aG⟩:∃K,K=wr:=⟨wr,rfl⟩;subst aG;obtain⟨wb,J⟩:=xm (K.alloc (.cells #[.int .u64 x.item,.int .u64 x.rep,.int .u64 x.ctr,.string x.val] 60));have aK:wb.heap.size=K.heap.size+1:=(by rw[J];simp);have aq:wb.heap[K.heap.size]?=some (.cells #[.int .u64 x.item,.int .u64 x.rep,.int .u64 x.ctr,.string x.val] 60 (0,0)):=(by rw[J];exact tp K _);have aD:=qL aq;have X:qA (Below G.heap.size G wb):=qL (by rw[J];exact A.alloc aF _);have aB:qA (OwnL 60 G.heap.size wb u5 ((s.recs.take j).filter q)):=qL (by rw[J];exact ac.alloc _);clear H U hx ao am ac A aq
   go_wp2_with (at_lookup;refine ztf rfl _ _ rfl rfl az.o aH rfl HG.o ?_)
   rw[<-J];refine zuW (t:=26) (xs:=[.tmp 27]) rfl rfl rfl rfl HE.o ?_;refine(ay.o wb (L.o.trans (X.o.mono I))).mono ?_;rintro e V ⟨rfl,E⟩;have P:OwnL 60 G.heap.size V u5 ((s.recs.take j).filter q):=(Keep.of_below' (S:=qe) E (Zp _)).ownsRow aB.o λ_ _=>id;have O:Below G.heap.size G V:=X.o.trans (E.mono X.o.size);have F:=(E.block _ a8).trans aD.o;have aJ:=E.size;cases hq:q x with
   | false=>
     dsimp only;have N:=qL P;have M:=qL O;clear P O F E
     go_wp2_with fail
     go_roundg (n-(j+1));case measure=>omega
     case rel=>refine⟨j+1,Z,rfl,b6,?_,M.o⟩;rw[ae.o,um,uA,hq,Vm b6,UH,wZ];exact N.o
   | true=>
     have x0:V.cell? ⟨K.heap.size,0,none⟩=some (.int .u64 x.item):=(zW F 0 _ rfl).1;have x1:V.cell? ⟨K.heap.size,1,none⟩=some (.int .u64 x.rep):=(zW F 1 _ rfl).1;have x2:V.cell? ⟨K.heap.size,2,none⟩=some (.int .u64 x.ctr):=(zW F 2 _ rfl).1;have x3:V.cell? ⟨K.heap.size,3,none⟩=some (.string x.val):=(zW F 3 _ rfl).1;have N:=qL P;have M:=qL O;clear P O F E;dsimp only
     go_wp2_with fail
     refine Zi _ _ 42 rfl G.heap.size 60 i0 _ 4 40 Tryz.underlying42 B.o.1 B.o.2.1 B.o.2.2.1 B.o.2.2.2 rfl b8 _ _ (((s.recs.take j).filter q).flatMap rcs) rfl (World.ownsRow.alloc N.o _) ⟨V.heap.size,0,none⟩ 1 1 (rcs x) rfl rfl (λk u hk=>by
      rw[zh,wn];exact(zW (tp V _) k u (by simpa[rcs]using hk)).1) (λu hu=>zs3 (l:=[x]) u (dJ hu)) c8 a8 a9 ?_
     intro v6 w6 an ah _ _;have af:=(M.o.alloc M.o.size _).grown ah a9 λk hk=>(World.ownsRow.lt N.o k hk).1;have aA:=qL an;have aw:=qL af;clear an ah af
     go_wp2_with fail
     go_roundg (n-(j+1));case measure=>omega
     case rel=>refine⟨j+1,Z,rfl,b6,?_,aw.o⟩;rw[ae.o,um,uA,hq,vj rfl,UH];unfold OwnL;rw[wk,Wl,Wg,Uw,wZ];exact aA.o
  .obtain rfl:j=n:=a8
   go_wp2_with fail
   refine tz (tK rfl _ _ _) rfl ?_;have h:=aC.o;rw[wm (by rw[HN.o];exact Zp _)]at h;exact⟨_,rfl,L.o.trans (ax.o.mono I),h.1,h.2.imp id λ⟨g,cap,Y,q1,q2,q3⟩=>⟨g,cap,Y,q1,V0 I q2,q3⟩⟩
end
section
open Go.ChangeShapes Go.WideShapes Go.ChangeAt Go.RowKit Go.Deep
structure Opn where
 who:Int
 from_:Int
 item:Nat
 val:ByteArray
 items:List Iv
instance : Inhabited Opn:=⟨⟨0,0,0,⟨#[]⟩,[]⟩⟩
def opc(o:Opn):List PV:=[.v (.int .i64 o.who),.v (.int .i64 o.from_),.v (.int .u64 o.item),.v (.string o.val),rg o.items]
def opp(l:List Opn):PV:=.sl (l.map opc) .sh
def I63(x:Int):Prop := -9223372036854775808<=x/\x<9223372036854775808
def BdO(o:Opn):Prop:=(I63 o.who/\I63 o.from_)/\o.item<zk/\o.val.size<=maxLen/\(∀s∈o.items,s.lo<zk/\s.hi<zk)/\o.items.length<=9223372036854775807
section
variable {H:Type}{enc:TypeId×Value->H}{w:World}{base:Nat}{spare:Nat->Bool}{held:Bool}
def ztP{t:TypeId}{j:Nat}{u:List Value}{x:DataW H×List MemPlace}(ht:xT.underlying t=some (.int .i64))(h:DataW.trod enc xT w base spare held j t u=some x):∃n:Int,u=[.int .i64 n]/\I63 n:=by obtain⟨n,rfl,_,y⟩:=DataW.trod_int ht h;refine⟨n,rfl,?_⟩;simp[Lit.wf,IntKind.min,IntKind.max,IntKind.signed,IntKind.bits]at y;unfold I63;omega
def zvh{n:Nat}{a:Addr}{I:List Value}{y:DataW H×List MemPlace}(h1:w.cells? base a 5=some I)(h2:DataW.trod enc xT w base spare held n 40 I=some y):a.spot=none/\a.block<w.heap.size/\∃o,rdC opc BdO w a.block a.off o:=by
 obtain⟨_,E,u⟩:=TR h1;obtain⟨xs,k,_,_,_,L,C⟩:=TS Tryz.underlying40 h2;match xs,L,I,E with
 | [y0,y1,y2,y3,y4],_,[v0,v1,v2,v3,v4],_=>
   have N:=C 0 _ rfl;have O:=C 1 _ rfl;have P:=C 2 _ rfl;have Q:=C 3 _ rfl;have S:=C 4 _ rfl;have X:xT.cellsOf 3 = 1:=dK;have Y:xT.cellsOf 38 = 1:=dK;have Z:xT.cellsOf 9 = 1:=dK;have c4:xT.cellsOf 26 = 1:=dK;simp[X,Y,Z,c4]at N O P Q S;have B:=u 0 a8;have e1:=u 1 a8;have e2:=u 2 a8;have e3:=u 3 a8;have e4:=u 4 a8;obtain⟨T,q0,U⟩:=ztP Tryz.underlying3 N;obtain⟨m1,q1,b1⟩:=ztP Tryz.underlying3 O;obtain⟨m2,q2,b2⟩:=kM Tryz.underlying38 P;obtain⟨m3,q3,_,V⟩:=DataW.trod_string Tryz.underlying9 Q;obtain⟨M,l,q4,G⟩:=ZA S;obtain rfl:v0=_:=(dJ q0);obtain rfl:v1=_:=(dJ q1);obtain rfl:v2=_:=(dJ q2);obtain rfl:v3=_:=(dJ q3);obtain rfl:v4=M:=(dJ q4);replace B:w.cell? a=some (.int .i64 T):=(by simpa[Addr.add]using B);obtain⟨b,ab,F⟩:=a;obtain rfl:F=none:=TH B;have hd:Dat (ZG w) w v4 (rg l):=jp G λ_ _ _ h=>h;have J:=G.bound;have K:l.length<=9223372036854775807:=(by have:=G.len;unfold maxLen at this;omega);refine⟨rfl,tq _ _ B,⟨T,m1,m2,m3,l⟩,λj p A=>?_,⟨U,b1⟩,b2,V,J,K⟩;obtain⟨aa,c,rfl,_⟩:=G;match j,A with
   |0,A=>cases A;exact⟨_,B,rfl,.v _⟩
   |1,A=>cases A;exact⟨_,by simpa[Addr.add]using e1,rfl,.v _⟩
   |2,A=>cases A;exact⟨_,by simpa[Addr.add]using e2,rfl,.v _⟩
   |3,A=>cases A;exact⟨_,by simpa[Addr.add]using e3,rfl,.v _⟩
   |4,A=>cases A;exact⟨_,by simpa[Addr.add]using e4,rfl,hd⟩
def zwo{r:Reach}{B:Nat}{v:Value}{d:DataW H}{I:List MemPlace}(j:Value.okWide xT w r B 22 v)(h:DataW.Trod enc xT w base spare held 22 v d I):∃l,Dat (ZG w) w v (opp l)/\(∀o∈l,BdO o)/\l.length<=9223372036854775807:=by obtain⟨a,len,C,rfl⟩:=okWide_slice Tryz.underlying22 j;obtain⟨u,G⟩:=h;obtain⟨v,l,A,y⟩:=Za (rdC opc BdO) Tryz.underlying22 dK (λ_ _ _ _ E F=>zvh E F) G;simp[Value.cells]at A;rw[<-A]at y;exact⟨l,VQ (cv:=opc) (bd:=BdO) (λ_=>rfl) y⟩
end
end
end Go.Proofs.YtbhngpjkakcgfaaGreatDoor
