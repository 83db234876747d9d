import Derived.Deep.Cut
import Derived.Deep.RegionWith
import Derived.Test.YtmpnbdhadjfbhaaGreatDoorB23
set_option maxHeartbeats 16000000
set_option linter.all false
set_option maxRecDepth 100000
namespace Go.Proofs.YtmpnbdhadjfbhaaGreatDoor
def Tp:=@Go.heap_alloc2_old
def Tx:=@Go.World.cell?_setCell_other
def Tz:=@Go.heap_alloc2_new
open Go.RowKit
open Go.Proofs.Tryz
open Go.Proofs.Tryz renaming prog->xT
section
attribute [-go_sem] z7
def qB(j:List Fv):List Value:=j.flatMap λf=>[sv f.1,sv f.2]
def Yo:∀(o:List Fv)(j:Nat)(u:Value),(qB o)[j]?=some u->∃i,∃h:i<o.length,(j=i*2/\u=sv o[i].1)\/(j=i*2+1/\u=sv o[i].2)
 |[],j,u,h=>by simp[qB]at h
 |f::o,0,u,h=>⟨0,b6,.inl ⟨rfl,by simpa[qB]using h.symm⟩⟩
 |f::o,1,u,h=>⟨0,b6,.inr ⟨rfl,by simpa[qB]using h.symm⟩⟩
 | f::o,j+2,u,h=>by
   obtain⟨i,hi,w⟩:=Yo o j u (by simpa[qB]using h);refine⟨i+1,a9,?_⟩;rcases w with⟨e,e2⟩|⟨e,e2⟩
   .exact .inl ⟨a8,dJ e2⟩
   .exact .inr ⟨a8,dJ e2⟩
def Z5:∀(j:List Fv)(i:Nat)(h:i<j.length),(qB j)[i*2]?=some (sv j[i].1)/\(qB j)[i*2+1]?=some (sv j[i].2)
 |f::j,0,h=>⟨rfl,rfl⟩
 |f::j,i+1,h=>by have:=Z5 j i (dJ h);rw[show (i+1)*2=i*2+2 by omega];exact⟨by simpa[qB]using this.1,by simpa[qB]using this.2⟩
def jf(j:List Fv):(qB j).length=j.length*2:=by
 induction j with
 |nil=>rfl
 |cons f j ih=>simp[qB]at ih⊢;omega
def jg(o:List Fv):∀u∈qB o,u.oneCell'=true:=λu w=>by
 obtain⟨f,_,j⟩:=uk.1 w;simp at j;rcases j with rfl|rfl<;>rfl
def Zn{G:Nat}{w W:World}{A:Option Addr}{B:Nat}{y:List Fv}(h:zeF G w A B y)(E:∀b o x,b<G->w.cell? ⟨b,o,none⟩=some x->W.cell? ⟨b,o,none⟩=some x):(y.length=0/\A=none)\/∃a,A=some a/\∀j u,(qB y)[j]?=some u->W.cell? (a.add j)=some u:=by
 by_cases C:y=[]
 .subst C;cases A with
  |none=>exact .inl ⟨rfl,rfl⟩
  |some a=>exact .inr ⟨a,rfl,λj u h=>by simp[qB]at h⟩
 .obtain⟨b,J,rfl,hb,F⟩:=h.2.2 C;refine .inr ⟨_,rfl,λj u I=>?_⟩;obtain⟨i,hi,H⟩:=Yo y j u I;rw[zh];rcases H with⟨rfl,rfl⟩|⟨rfl,rfl⟩
  .exact E _ _ _ hb (F i hi).1
  .exact E _ _ _ hb (by rw[<-Wt];exact(F i hi).2)
def Jb{C:Array Oper}{rest:List Oper}{o:Oper}{a:Act}{w:World}{Q:Exit->Act->World->Prop}(s x:Operand)(t:TypeId)(J:o.guard=none)
 (ho:o.op=.call { callee:=.builtin .append,args:=#[s,x],argTypes:=#[t,t] }) (ht:xT.underlying t=some (.slice 59)) (base:Nat) (v:Value) (n:Nat) (K:List Value) (hs:a.eval s=v) (F:w.ownsRow base 59 2 v n K)
 (H:Option Addr) (m c:Nat) (y:List Value) (U:a.eval x=.slice H m c) (P:y.length=m*2) (B:(m=0/\H=none)\/∃a,H=some a/\∀j u,y[j]?=some u->w.cell? (a.add j)=some u) (L:∀u∈y,u.oneCell'=true) (I:n+m<=1073741824) (A:base<=w.heap.size)
 (h:∀E G,G.ownsRow base 59 2 E (n+m) (K++y)->w.grownBy G v.ownBlock->(E.ownBlock=v.ownBlock\/E.ownBlock=some w.heap.size)->wpList xT C Q rest (a.put o.dst E) G):wpList xT C Q (o::rest) a w:=by
 have T:Region.wanted o (yielded C a.tmps)=true:=by simp[Region.wanted,J]
 unfold wpList;rw[vD T];refine .inl ?_;obtain⟨E,G,S,M,N,O⟩:=YI w t o.type ht base v n K F H m c y P B L I A;unfold Oper.wp execOp;simp only[ho,resolve,invoke,builtin,tE,tH,tx,uf,Wx,W6,hs,U,S];exact h E G M N O
def OutG.two{C:Qk}{mb base:Nat}{w0 w:World}{v:Value}{a b:List Fg}{fa j:List Fv}(A:fa.length=a.length)(B:j.length=b.length)(ho:w.ownsRow base 59 2 v (0+a.length+b.length) ([]++qB fa++qB j))
 (J:∀b o,C b o->b<w0.heap.size) (hb:Below w0.heap.size w0 w) (H:w0.heap.size<=base)
 (L:∀i (h:i<fa.length),Dat C w0 (sv fa[i].1) (rg (a[i]'(A▸h)).items)/\Dat C w0 (sv fa[i].2) (vp (a[i]'(A▸h)).vec)) (db:∀i (h:i<j.length),Dat C w0 (sv j[i].1) (rg (b[i]'(B▸h)).items)/\Dat C w0 (sv j[i].2) (vp (b[i]'(B▸h)).vec)):OutG C mb base w v (a++b):=by
 have y:∀{x:Value}{p:PV},Dat C w0 x p->Dat (DX C mb w v) w x p:=λh=>h.mono (λb o h=>⟨.inl h,λe=>by have:=(ho.lt b e).1;have:=J b o h;omega⟩) λb o x N Q=>(tl (a:=⟨b,o,none⟩) (hb.block b (J b o N))).trans Q;have K:=jf fa;have P:=jf j;refine⟨qB fa++qB j,⟨by rw[wj,<-wn a.length];exact ho,a9,λu E=>?_⟩,λi hi=>?_⟩
 .rcases wC.1 E with E|E
  .exact jg fa u E
  .exact jg j u E
 .by_cases M:i<a.length
  .obtain⟨e1,e2⟩:=Z5 fa i a8;obtain⟨F,G⟩:=L i a8;have I:(a++b)[i]=a[i]:=ut M;rw[I];exact⟨_,_,by rw[wh a8];exact e1,by rw[wh a8];exact e2,y F,y G⟩
  .have O:i-a.length<b.length:=(by simp at hi;omega);obtain⟨e1,e2⟩:=Z5 j (i-a.length) a8;obtain⟨F,G⟩:=db (i-a.length) a8;have I:(a++b)[i]=b[i-a.length]:=Wu a8;rw[I];exact⟨_,_,by rw[V2 a8,K,show i*2-fa.length*2=(i-a.length)*2 by omega];exact e1,by rw[V2 a8,K,show i*2+1-fa.length*2=(i-a.length)*2+1 by omega];exact e2,y F,y G⟩
end
structure Rt12(k:List Fg):Prop where
 f:vx k=true
 r:RightK k
 kn:Kn (CK k) (RK k) 240 k
 ok:OkX (CK k) (RK k)
def CKL(l:List (List Fg))(r:Nat):List Nat:=l.flatMap λk=>CK k r
def RKL(l:List (List Fg)):List Nat:=l.flatMap RK
def Kn.at{C:Q9}{R:List Nat}{n:Nat}{k:List Fg}(h:Kn C R n k)(ok:OkX C R)(x:Nat):SmV (qc k x):=(h.ik.at x).1.smv ok.c
def Kn.app{C:Q9}{R:List Nat}{n m:Nat}{a b:List Fg}(j:Kn C R n a)(hb:Kn C R m b):Kn C R (n+m) (a++b):=by
 refine⟨j.r.app hb.r,λf o=>(wC.1 o).elim (j.ik f) (hb.ik f),λf o=>(wC.1 o).elim (j.s f) (hb.s f),?_,?_⟩
 .have:=kK a b;have:=j.m;have:=hb.m;omega
 .rw[wj];have:=j.l;have:=hb.l;omega
def Kn.parts{C:Q9}{R:List Nat}{n m:Nat}{f:XE}(j:f false false=false){a b:List Fg}(o:Kn C R n a)(hb:Kn C R m b)(ok:OkX C R):Kn C R (1+2*(n+m)) (yy f a b):=by
 have y:=xW (a++b);have A:=YO (a++b);have B:=kK a b;have E:=o.m;have F:=hb.m;have u:∀g∈yy f a b,WV C R g.vec:=λg w=>by obtain⟨s,_,rfl⟩:=wB.1 w;exact IV.lat j (o.ik.at s.lo).1.iv (hb.ik.at s.lo).1.iv
 refine⟨xU o.r hb.r,λf j=>(u f j).iv,λf j=>(u f j).smv ok.c,?_,?_⟩
 .unfold yy;rw[Zf];omega
 .unfold yy;rw[ww];omega
def Kn.do{C:Q9}{R:List Nat}{n m:Nat}{f:XE}(o:f false false=false){a b:List Fg}(j:Kn C R n a)(hb:Kn C R m b)(ok:OkX C R):Kn C R (1+2*(n+m)) (vh f a b):=(j.parts o hb ok).group ok
def Kn.canon{C:Q9}{R:List Nat}{n:Nat}{k:List Fg}(h:Kn C R n k)(ok:OkX C R):Kn C R (1+2*n) (zbx k):=(h.refine ok).group ok
noncomputable def Zx (f:XE) (a b:List Fg) (s:Iv):Fg:=⟨[s],ks f (qc a s.lo) (qc b s.lo)⟩
def Qr(f:XE)(a b:List Fg){j:Nat}(h:j<(zu (a++b)).length):((zu (a++b)).take (j+1)).map (λs=>fc (Zx f a b s))=((zu (a++b)).take j).map (λs=>fc (Zx f a b s))++[fc (Zx f a b (zu (a++b))[j])]:=by rw[vj h,WJ];rfl
def YC(f:XE)(a b:List Fg){j:Nat}(h:(zu (a++b)).length<=j):((zu (a++b)).take j).map (λs=>fc (Zx f a b s))=(yy f a b).map fc:=by rw[wm h];unfold yy;rw[Ud];rfl
def KQ:Nat->Code->Code
 |0,c=>c
 |n+1,.seq _ c=>KQ n c
 |_,c=>c
def zjO{B:Q9}{R:List Nat}{n:Nat}(f:XE)(L:f false false=false)(op:FuncId)(a b:List Fg)(E:Kn B R n a)(hb:Kn B R n b)(ok:OkX B R)(O:n<=40000)
 (H:∀x,Cn xT op [vp (qc a x),vp (qc b x)] (vp (ks f (qc a x) (qc b x)))) :
 pW xT Tryz.f63.ntmps True ((qx xT Tryz.f63.ntmps [] (KQ 7 (xN Tryz.f63))).getD .sk) (jG [.t 6,.c 7 false 1] (.tup [kp (vh f a b),.v .nilIface])) ⟨[(0,kp a),(1,kp b),(2,.fn (.func op) [] []),(7,.bx 0 0),(8,kp (a++b)),(9,.sl [] .z)],[[.v .nilIface]]⟩:=by
 have F:=E.app hb;have y:=F.ok12 ok a8;have u:=E.ok12 ok a8;have w:=hb.ok12 ok a8;have M:=xW (a++b);have K:=y.t;have I:=E.parts L hb ok;have G:=zfn (yy f a b) I ok a8
 conv=>arg 4;cbv
 refine pw ?_;refine .c (zdF (a++b) y.r y.z (by have:=y.l;omega) y.t) ?_;refine pLoop.go (λj=>j<=(zu (a++b)).length) (λj=>[(9,.sl (((zu (a++b)).take j).map (λs=>fc (Zx f a b s))) (.r 51 2)),(32,.v (.int .i64 (j:Nat)))]) (λ_=>[[.v .nilIface]]) (λj=>(zu (a++b)).length-j) 0 [9,32] ?_ ?_ ?_
 .exact X4 _
 .exact pd
 .rintro j N;refine pw ?_;refine .i ?_ ?_<;>intro h<;>first|refine pw ?_|exact pd
  .have J:=Qr f a b h;refine .c (zgU a (zu (a++b))[j].lo u.ik u.ok u.r u.s u.z) ?_;refine .c (zgU b (zu (a++b))[j].lo w.ik w.ok w.r w.s w.z) ?_;have A:=H (zu (a++b))[j].lo
   (first|refine .c (A) ?_|refine .o (A) ?_)
   refine cutP.full rfl ?_ rfl ?_ ?_
   .exact pd
   .exact pd
   .refine pw ?_;exact⟨j+1,h,a8,J.symm,rfl⟩
  .have C:Cn xT 103 [.sl (((zu (a++b)).take j).map (λs=>fc (Zx f a b s))) .sh] (kp (vh f a b)):=(by rw[YC f a b a8];exact G)
   (first|exact .d (C)|exact .q (C))
section
attribute [-go_sem] z7 zae zaf Vr
def zeG(x y:Nat)(h:x+y<=80000)(w:World):(binOp .add 3 (.int .i64 (x:Nat)) (.int .i64 (y:Nat))).run xT w=.ok (.int .i64 ((x+y:Nat):Int)) w:=by go_simp;rw[Tw];omega
def Vk{B:Q9}{R:List Nat}{n:Nat}(f:XE)(hf:f false false=false)(op:FuncId)(a b:List Fg)(ha:Kn B R n a)(hb:Kn B R n b)(ok:OkX B R)(hn:n<=40000)
 (aL:∀x,Cn xT op [vp (qc a x),vp (qc b x)] (vp (ks f (qc a x) (qc b x)))):Cn xT 63 [kp a,kp b,.fn (.func op) [] []] (.tup [kp (vh f a b),.v .nilIface]):=by
 refine yZ rfl (enters_of func63 dK rfl) λD w O hG hD aN hd=>?_;have d0:Dat D w (O.getD 0 undef) (kp a):=hd 0 _ rfl;have d1:Dat D w (O.getD 1 undef) (kp b):=hd 1 _ rfl;have d2:Dat D w (O.getD 2 undef) (.fn (.func op) [] []):=hd 2 _ rfl;obtain⟨v0,M⟩:=xm (O.getD 0 undef);obtain⟨v1,N⟩:=xm (O.getD 1 undef);rw[<-M]at d0;rw[<-N]at d1;have e2:O.getD 2 undef=.func (.func op) #[] #[]:=by
  generalize O.getD 2 undef=x at d2;cases d2 with
  |fn f va vb fs cs h1 h2 h3 h4=>obtain rfl:va=#[]:=UC (dJ h1);obtain rfl:vb=#[]:=UC (dJ h2);rfl
 obtain rfl:O=#[v0,v1,.func (.func op) #[] #[]]:=by
  obtain⟨l⟩:=O;match l,aN with
  |[p,q,s],_=>simp at M N e2;rw[M,N,e2]
 clear d2 e2 M N aN hd;obtain⟨aa,ca,fa,rfl,aj,A,da⟩:=kX d0 hD;obtain⟨ab,cb,fb,rfl,ak,E,db⟩:=kX d1 hD;have br:=ha.l;have bt:=hb.l;have bi:=A.1;have bj:=E.1;have aA:=A.2.1;have aB:=E.2.1;unfold maxLen at aA aB;rw[aj]at bi;rw[ak]at bj;have aR:=qL (λW (hW:Below w.heap.size w W)=>KH ha.r (ha.z a8) d0 hD hG hW);have aS:=qL (λW (hW:Below w.heap.size w W)=>KH hb.r (hb.z a8) d1 hD hG hW);have aX:=qL (λW (hW:Below w.heap.size w W)=>Zn (W:=W) A λb o x h hx=>(tl (a:=⟨b,o,none⟩) (hW.block b h)).trans hx);have aY:=qL (λW (hW:Below w.heap.size w W)=>Zn (W:=W) E λb o x h hx=>(tl (a:=⟨b,o,none⟩) (hW.block b h)).trans hx);have aT:=qL d0;have aU:=qL d1;have aV:=qL da;have aW:=qL db;have aZ:=qL hG;have G:=qL hD;have HA:=qL ha;have HB:=qL hb;have ba:=qL aj;have bc:=qL ak;have bg:=qL aL;obtain⟨i0,aH,aO,aP,aQ⟩:=tP Z9;have I:=jf fa;have J:=jf fb;rw[aj]at I;rw[ak]at J;clear d0 d1 da db A E hG hD ha hb;have bq:=zeG a.length b.length a8;have HI:=qL (And.intro aH (And.intro aO (And.intro aP aQ)));have ar:=qL (And.intro I J);clear aH aO aP aQ I J aL;have S:True:=trivial;have T:True:=trivial;have U:True:=trivial;have V:True:=trivial;have X:True:=trivial
 go_enter_defers func63,ntmps63
 go_upto_region 6 with(first
  | (go_at_call 40;have _t:=S;refine(aR.o _ ((tr _ _).alloc (Zp _) _)).mono ?_;rintro e w1 ⟨rfl,ae⟩
     have an:Boxed w1 w.heap.size 41 .nilIface:=(ae.block _ b6).trans (tn w _);have au:=qL an;have Y:=qL (((tr _ w).alloc (Zp _) _).trans (ae.mono b6));have bu:=an.lt;clear ae an S)
  |(go_at_call 60;refine(zdp _ _).mono ?_;rintro e w' ⟨⟨u,rfl⟩,rfl⟩)
  | (go_at_call 40;have _t:=T;refine(aS.o _ Y.o).mono ?_;rintro e w2 ⟨rfl,af⟩
     have ao:Boxed w2 w.heap.size 41 .nilIface:=(af.block _ au.o.lt).trans au.o;have bh:=qL ao;have aq:=qL (Y.o.trans (af.mono Y.o.size));have bw:=ao.lt;clear af ao T)
  | (at_make;have _t:=U;refine wpList_make_own _ rfl _ _ 54 rfl (w.heap.size+1) 59 i0 _ 2 underlying54 HI.o.1 HI.o.2.1 HI.o.2.2.1 .i64 .i64 _ (a.length+b.length) rfl rfl b6 (by rw[HI.o.2.2.2];omega) c8 a8 ?_
     intro w3 aI ag;have L:=qL aI;have K:=qL (aq.o.grown ag aq.o.size λj hj=>by cases hj);have av:=qL (bh.o.kept ag b6);clear aI ag U;dsimp only[Act.put])
  | (at_builtin;have _t:=V;refine Jb _ _ 54 rfl rfl underlying54 (w.heap.size+1) _ 0 [] rfl L.o _ a.length ca (qB fa) rfl ar.o.1 (by rcases aX.o _ K.o with h|h;exact .inl ⟨by have:=h.1;omega,h.2⟩;exact .inr h) (jg fa) a8 (by have:=L.o.lt;have:=K.o.size;have:=av.o.lt;omega) ?_
     intro v4 w4 aJ ah bn;have ad:=qL aJ;have Z:=qL (K.o.grown ah K.o.size λj hj=>by have:=(L.o.lt j hj).1;omega);have aw:=qL (av.o.kept ah λe=>by have:=(L.o.lt _ e.symm).1;omega);clear aJ ah bn V;dsimp only[Act.put])
  | (at_builtin;have _t:=X;refine Jb _ _ 54 rfl rfl underlying54 (w.heap.size+1) _ (0+a.length) ([]++qB fa) rfl ad.o _ b.length cb (qB fb) rfl ar.o.2 (by rcases aY.o _ Z.o with h|h;exact .inl ⟨by have:=h.1;omega,h.2⟩;exact .inr h) (jg fb) a8 (by have:=aw.o.lt;omega) ?_
     intro v5 w5 aK ai bp;have be:=qL aK;have ac:=qL (Z.o.grown ai Z.o.size λj hj=>by have:=(ad.o.lt j hj).1;omega);have ax:=qL (aw.o.kept ai λe=>by have:=(ad.o.lt _ e.symm).1;omega);clear aK ai bp X;dsimp only[Act.put])
  |go_in)
 have bl:=OutG.two (C:=D) (mb:=w.heap.size) (base:=w.heap.size+1) (a:=a) (b:=b) ba.o bc.o be.o G.o ac.o a8 aV.o aW.o;have aC:=bl.dat a8;have bz:=ax.o.lt;have y:∀b o x,D b o->w.cell? ⟨b,o,none⟩=some x->w5.cell? ⟨b,o,none⟩=some x:=λb o x h hx=>(tl (a:=⟨b,o,none⟩) (ac.o.block b (G.o b o h))).trans hx;have H:=ac.o;have am:=‹∀(a:Act)(w:World),Code.wp _ _ _ a w->_›
 apply wp_region_lit;unfold wpList;rw[vD (by simp[Region.wanted])];refine .inl ?_;unfold Oper.wp execOp;simp only[tH];refine am _ _ ?_;refine T2 (zih (nt:=Tryz.f63.ntmps) (D:=DL D w.heap.size w5) dK aZ.o _ ⟨H.os,H.tape,H.output,H.size,λk hk _=>H.block k hk,λb o h=>.inl h,y,λb o h=>h.imp id λh=>.inl (uy h.1),G.o⟩ (λb o h=>h.elim (λh=>by have:=G.o b o h;omega) ub) (Zp _) ax.o (.v _) rfl (λo h=>h.elim (λh=>by have:=G.o _ o h;omega) λh=>a8) rfl [(0,kp a),(1,kp b),(2,.fn (.func op) [] []),(7,.bx 0 0),(8,kp (a++b)),(9,.sl [] .z)] (λt=>?_) (λt=>?_) rfl (Q:=jG [.t 6,.c 7 false 1] (.tup [kp (vh f a b),.v .nilIface])) ?_) ?_
 .rcases t with _|_|_|_|_|_|_|_|_|_|t
  .exact .inr (aT.o.mono (λ_ _ h=>.inl h) y)
  .exact .inr (aU.o.mono (λ_ _ h=>.inl h) y)
  .exact .inr (.fn _ #[] #[] [] [] rfl rfl (λ_ _ h=>by simp at h) (λ_ _ h=>by simp at h))
  .exact .inr (.und _)
  .exact .inr (.und _)
  .exact .inr (.und _)
  .exact .inr (.und _)
  .exact .inl ⟨rfl,rfl⟩
  .exact .inr aC
  .exact .inr (.sl none 0 0 [] .z 0 0 (λ_=>undef) (Zp _) (λ_=>rfl) (X4 _) b6 (λi e h=>by simp at h) (λj h=>by simp at h) (λi e j p h=>by simp at h))
  .exact .inr (.und _)
 .rcases t with _|_|_|_|_|_|_|_|_|_|t<;>rfl
 .exact zjO f hf op a b HA.o HB.o ok hn bg.o
 .intro e a1 w1 hQ;obtain⟨he,aE,v,D',aM,F,ay,aD⟩:=zfM (P:=xT) (fn:=Tryz.f63) dK hQ;have az:Below w.heap.size w w1:=⟨F.os,F.tape,F.output,F.size,λk hk=>F.block k hk λh=>h⟩;have aG:Dat (λb o=>D b o\/(w.heap.size<=b/\b<w1.heap.size)) w1 v (.tup [kp (vh f a b),.v .nilIface]):=aD.mono (λb o h=>by
   rcases F.new b o h with h1|h1|h1
   .exact .inl h1
   .exact .inr ⟨h1,ay b o h⟩
   .exact h1.elim) (λ_ _ _ _ h=>h)
  obtain⟨tm,df⟩:=a1;simp only[Act.put]at aE;subst aE;have aF:Leaves xT Tryz.f63 tm (λe w'=>∃v,e=.returned v/\Below w.heap.size w w'/\Dat (λb o=>D b o\/(w.heap.size<=b/\b<w'.heap.size)) w' v (.tup [kp (vh f a b),.v .nilIface])) [{ target:=.fn (.func 59) #[],args:=#[.pointer (some ⟨w.heap.size,0,none⟩)] }] .returning w1:=(by refine leaves_cons (f := 59) (args:=#[.pointer (some ⟨w.heap.size,0,none⟩)]) b6 (by simp[go_sem]) ?_;refine(JI ⟨w.heap.size,0,none⟩ _).mono ?_;rintro e u' bA ⟨rfl,rfl,rfl⟩;exact⟨v,aM,v,rfl,az,aG⟩);rcases he with rfl|rfl<;>exact aF
def zog{D:Qk}{w:World}:Dat D w (.slice none 0 0) (.sl [] .sh):=
 .sl none 0 0 [] .sh 0 0 (λ_=>undef) (Zp _) (λ_=>rfl) (X4 _) b6 (λi e h=>by simp at h) (λj h=>by simp at h) (λi e j p h=>by simp at h)
def znT{D:Qk}{w:World}{u v:Value}{p q:PV}(o:Dat D w u p)(y:Dat D w v q)(A:u.oneCell'=true)(B:v.oneCell'=true):Dat D w (.agg #[u,v]) (.agg [p,q]):=
 .agg _ _ rfl (λi hi=>match i,hi with|0,_=>A|1,_=>B|i+2,hi=>by simp at hi;omega) λi r j=>match i,j with
  |0,j=>by cases j;exact o
  |1,j=>by cases j;exact y
  |i+2,j=>by simp at j
def zou(s:ByteArray)(x:Nat×Int):PV:=.ifc 145 (.agg [.v (.string s),jS x.1 x.2])
def zmb{x:Nat×Int}(h:x.1≠0):jS x.1 x.2=.ifc 115 (.agg [.v (.int .i64 x.1),.v (.int .i64 x.2)]):=Vq h
def zn4(c:Nat):ByteArray:=⟨#[101,114,114,111,114,32,UInt8.ofNat (48+c)]⟩
def zoU(c:Nat)(u:c<=9)(w:World):Calls xT 24 #[.int .i64 c] w λe o=>e=.returned (.string (zn4 c))/\o=w:=by
 have j:c=0\/c=1\/c=2\/c=3\/c=4\/c=5\/c=6\/c=7\/c=8\/c=9:=a8
 rcases j with rfl|rfl|rfl|rfl|rfl|rfl|rfl|rfl|rfl|rfl;all_goals
  go_enter func24,ntmps24
  go_wp2;apply wp_loop_once
  go_wp2;refine tz (tJ rfl _ _ _) rfl ?_;exact⟨dK,rfl⟩
def zoT(c:Nat)(u:c<=9):Cn xT 24 [.v (.int .i64 c)] (.v (.string (zn4 c))):=by
 refine Js rfl (enters_of func24 dK rfl) λD w o A j y=>?_;have d0:=(Rel.dat (ρ:=λ_=>0) (nb:=0) (y 0 _ rfl)).v_inv;obtain rfl:o=#[.int .i64 c]:=by
  obtain⟨l⟩:=o;match l,j with
  |[p],_=>simp at d0;rw[d0]
 refine(zoU c u w).mono ?_;rintro e B ⟨rfl,rfl⟩;exact⟨_,rfl,tr _ _,.v _⟩
def zol{t:TypeId}{m:String}{f:FuncId}(h:∀(v:Value)(w:World),(method (xT.types.size+Made.depth) t v m).run xT w=.ok (f,v) w):Mth xT t m f:=λv j w=>by unfold callMethod;simp only[tE,run_program,tx,h]
def zn8:Mth xT 145 "Error" 237 := zol λv w=>dK
def zn7:Mth xT 115 "Error" 235 := zol λv w=>dK
end
def zoi(c:Nat)(k:Int)(j:c<=9):Cn xT 235 [.agg [.v (.int .i64 c),.v (.int .i64 k)]] (.v (.string (zn4 c))):=by refine zt func235 1 ?_;refine pw ?_;exact .d (zoT c j)
def zoq:ByteArray:=⟨#[58,32]⟩
def zor:(⟨#[58,32]⟩:ByteArray).size=2:=rfl
def zoJ(c:Nat):(zn4 c).size=7:=rfl
def zom(s:ByteArray)(x:Nat×Int)(hs:s.size<=1000)(j:x.1≠0)(o:x.1<=9):Cn xT 237 [.agg [.v (.string s),jS x.1 x.2]] (.v (.string (s++zoq++zn4 x.1))):=by
 rw[zmb j];have w:(Array.mk [(58:UInt8),32]).size=2:=rfl;have u:=zor;have z2:=zoJ x.1;have y:(s++⟨#[58,32]⟩:ByteArray).size=s.size+2:=by rw[ByteArray.size_append,u]
 refine zt func237 1 ?_;refine pw ?_;refine .mk zn7 ?_;refine .c (zoi x.1 x.2 o) ?_;rfl
def zqf(s:ByteArray)(c k:Int)(w:World)(o:HG w):Calls xT 47 #[.iface 145 (.agg #[.string s,.iface 115 (.agg #[.int .i64 c,.int .i64 k])]),.iface 108 (.pointer (some ⟨w.heap.size,0,none⟩))] (w.alloc (.cells #[.int .i64 0] 66))
 λev j=>ev=.returned (.bool true)/\Below w.heap.size w j/\j.cell? ⟨w.heap.size,0,none⟩=some (.int .i64 c):=by
 refine(As.as_DN s c k ⟨w.heap.size,0,none⟩ (.int .i64 0) _ (o.alloc _) b6 b6).mono ?_;rintro ev j ⟨rfl,rfl⟩;refine⟨rfl,?_,?_⟩
 .refine tW (((((((((tr _ w).alloc ?_ _).alloc ?_ _).alloc ?_ _).alloc ?_ _).alloc ?_ _).alloc ?_ _).alloc ?_ _)) ?_ _<;>simp<;>omega
 .refine tU _ _ _ (u:=.int .i64 0) ?_;rw[tq _ _ ⟨w.heap.size,0,none⟩ a9,tq _ _ ⟨w.heap.size,0,none⟩ a9,tq _ _ ⟨w.heap.size,0,none⟩ a9,tq _ _ ⟨w.heap.size,0,none⟩ a9,tq _ _ ⟨w.heap.size,0,none⟩ a9,tq _ _ ⟨w.heap.size,0,none⟩ b6];simp
def zqS(s:ByteArray)(c k:Int)(w:World)(j:HG w):Calls xT 19 #[.iface 145 (.agg #[.string s,.iface 115 (.agg #[.int .i64 c,.int .i64 k])])] w λe o=>e=.returned (.int .i64 c)/\Below w.heap.size w o:=by
 go_enter func19,ntmps19
 go_wp2_with (go_at_call 47;refine(zqf s c k w j).mono ?_;rintro e y ⟨rfl,hb,u⟩)
 go_ret;exact⟨rfl,hb⟩
def zqg(s:ByteArray)(c k:Int)(T:Nat)(W:World)(H:HG W)(y:W.cell? ⟨T,0,none⟩=some (.int .i64 0))(B:W.cell? ⟨T,1,none⟩=some (.int .i64 0))(F:W.frozen? ⟨T,0,none⟩=false)(G:W.frozen? ⟨T,1,none⟩=false):
 Calls xT 47 #[.iface 145 (.agg #[.string s,.iface 115 (.agg #[.int .i64 c,.int .i64 k])]),.iface 167 (.pointer (some ⟨T,0,none⟩))] W
 λev u=>ev=.returned (.bool true)/\Keep (λb=>b=T) W u/\u.cell? ⟨T,0,none⟩=some (.int .i64 c)/\u.cell? ⟨T,1,none⟩=some (.int .i64 k):=by
 have I:T<W.heap.size:=tp W ⟨T,0,none⟩ y;refine(As.as_DF s c k T W H (by rw[y];rfl) (by rw[B];rfl) F G).mono ?_;rintro ev u ⟨rfl,rfl⟩;obtain⟨j,o,w⟩:∃j,j=((((W.alloc (.cells #[.pointer (some ⟨T,0,none⟩)] 167)).alloc (.cells #[.pointer (some ⟨1,167,none⟩),.pointer (some ⟨W.heap.size,0,none⟩),.int .u64 150] 159)).alloc (.cells #[.pointer (some ⟨1,167,none⟩),.pointer (some ⟨W.heap.size,0,none⟩),.int .u64 150] 159)).alloc (.cells #[.string s,.iface 115 (.agg #[.int .i64 c,.int .i64 k])] 145)).alloc (.cells #[.int .i64 c,.int .i64 k] 115)/\Keep (λb=>b=T) W j:=
  ⟨_,rfl,(((((Keep.refl _ W).alloc _).alloc _).alloc _).alloc _).alloc _⟩
 have A:Keep (λ_=>False) W j:=by rw[o];exact(((((Keep.refl _ W).alloc _).alloc _).alloc _).alloc _).alloc _
 rw[<-o];have C:=A.cell_some y id;have E:=A.cell_some B id;unfold World.setCells World.setCells World.setCells;have b1:(j.setCell ⟨T,0,none⟩ (.int .i64 c)).cell? ⟨T,0,none⟩=some (.int .i64 c):=tU _ _ _ C;have b2:(j.setCell ⟨T,0,none⟩ (.int .i64 c)).cell? ⟨T,1,none⟩=some (.int .i64 0):=by rw[Tx _ _ _ _ b6];exact E
 refine⟨rfl,(w.setCell (λ_=>rfl) _).setCell (λ_=>rfl) _,?_,tU _ _ _ b2⟩;show ((j.setCell ⟨T,0,none⟩ _).setCell ⟨T,0+1,none⟩ _).cell? _=_;rw[Tx _ _ _ _ b6];exact b1
section
attribute [-go_sem] z7 zae zaf Vr
end
section
def zaJ:CanK []:=⟨GrpI.nil,List.Pairwise.nil⟩
def zcY(i r c:Nat):hasK [] i r c=false:=rfl
abbrev Tr:=Nat×Nat×Nat
def leT(t u:Tr):Prop:=t.1<u.1\/(t.1=u.1/\(t.2.1<u.2.1\/(t.2.1=u.2.1/\t.2.2<=u.2.2)))
structure IsLeast(k:List Fg)(t:Tr):Prop where
 b1:t.1<zk
 b2:t.2.2<zk
 has:hasK k t.1 t.2.1 t.2.2=true
 le:∀i r c,i<zk->c<zk->hasK k i r c=true->leT t (i,r,c)
def zfo{k:List Fg}(h:RightK k){i r c:Nat}:hasK k i r c=true↔∃f∈k,mem f.items i=true/\∃e∈f.vec,e.rep=r/\mem (kn e) c=true:=by
 rw[km];refine exists_congr λf=>uT λA=>uT λ_=>?_;have y:=(h f A).2;constructor
 .intro j;by_cases u:∀e∈f.vec,e.rep≠r
  .rw[qC u]at j;cases j
  .simp only[Classical.not_forall,Classical.not_not]at u;obtain⟨e,o,w⟩:=u;refine⟨e,o,w,?_⟩;rw[<-w,kq y.2 o]at j;exact j
 .rintro⟨e,o,rfl,j⟩;rw[kq y.2 o];exact j
def trc(t:Tr):List PV:=[.v (.int .u64 t.1),.v (.int .u64 t.2.1),.v (.int .u64 t.2.2)]
def trp(t:Tr):PV:=.agg (trc t)
attribute [go_sem] trc trp
def zl3(a b:List En)(j:SmV a)(hb:SmV b):Cn xT 64 [vp a,vp b] (vp (ks zn a b)):=by refine zt func64 2 ?_;refine pw ?_;exact .d (zdc a b j hb)
def knowUnion_c{C:Q9}{R:List Nat}{n:Nat}(a b:List Fg)(j:Kn C R n a)(hb:Kn C R n b)(ok:OkX C R)(o:n<=40000):Cn xT 27 [kp a,kp b] (.tup [kp (vh zn a b),.v .nilIface]):=by refine zt func27 2 ?_;refine pw ?_;exact .d (Vk zn rfl 64 a b j hb ok o (λx=>zl3 _ _ (j.at ok x) (hb.at ok x)))
def zir{op:Nat}(h:op<3):Qj op false false=false:=by
 obtain rfl|rfl|rfl:op=0\/op=1\/op=2:=a8
 all_goals rfl
def YG{C:Q9}{R:List Nat}{n:Nat}(a b:List Fg)(op:Nat)(ho:op<3)(y:Kn C R n a)(hb:Kn C R n b)(ok:OkX C R)(M:n<=20000):Cn xT 57 [kp a,kp b,.v (.int .i64 op)] (kp (vh (Qj op) a b)):=by
 have B:=y.app hb;have o:=B.ok12 ok a8;have u:=y.ok12 ok a8;have w:=hb.ok12 ok a8;have K:=xW (a++b);have H:=o.t;have I:=y.l;have J:=hb.l;have F:=y.parts (zir ho) hb ok;have E:=Kc (yy (Qj op) a b) F ok a8;refine zt func57 3 ?_;refine pw ?_;rw[<-WJ];refine .c (VT (a++b) o.r o.z o.l o.t (Ya (a++b) o.r o.z o.l o.t o.i)) ?_;refine pLoop.go (λj=>j<=(zu (a++b)).length) (λj=>[(9,.sl (((zu (a++b)).take j).map (λs=>fc (Zx (Qj op) a b s))) (.r 51 2)),(10,.v (.int .i64 (j:Nat)))]) (λ_=>[]) (λj=>(zu (a++b)).length-j) 0 [6,7,9,10,12,13,14,15,16,17,18,19] ?_ ?_ ?_
 .exact X4 _
 .exact pd
 .rintro j L;refine pw ?_;refine .i ?_ ?_<;>intro h<;>first|refine pw ?_|exact pd
  .have G:=Qr (Qj op) a b h;refine .c (VR a (zu (a++b))[j].lo u.ik u.ok u.r u.s u.z) ?_;refine .c (VR b (zu (a++b))[j].lo w.ik w.ok w.r w.s w.z) ?_;refine .c (zcC (qc a (zu (a++b))[j].lo) (qc b (zu (a++b))[j].lo) op ho (y.at ok _) (hb.at ok _)) ?_;exact⟨j+1,h,a8,G.symm,rfl⟩
  .have A:Cn xT 98 [.sl (((zu (a++b)).take j).map (λs=>fc (Zx (Qj op) a b s))) .sh] (kp (vh (Qj op) a b)):=(by rw[YC (Qj op) a b a8];exact E)
   (first|exact .d (A)|exact .q (A))
def zds{C:Q9}{R:List Nat}{n:Nat}(k:List Fg)(h:Kn C R n k)(ok:OkX C R)(j:n<=40000):Cn xT 62 [kp k] (kp (zbx k)):=by show Cn xT 62 [kp k] (kp (zL (jq k)));refine zt func62 1 ?_;refine pw ?_;refine .c (ziJ k (h.ok12 ok a8)) ?_;exact .d (zfn (jq k) (h.refine ok) ok a8)
structure Cr15(a b:List Fg):Prop where
 ra:RightK a
 rb:RightK b
 ka:Kn (CKL [a,b]) (RKL [a,b]) 240 a
 kb:Kn (CKL [a,b]) (RKL [a,b]) 240 b
 ok:OkX (CKL [a,b]) (RKL [a,b])
attribute [go_sem] zou
def znP(i r c:Nat):List Fg:=[⟨[⟨i,i⟩],zl9 r c⟩]
def zmg:zsC []:=⟨λe h=>(by cases h),List.Pairwise.nil⟩
def zic:RightK []:=λf h=>by cases h
def zoC{r c:Nat}(u:r<zk)(j:c<zk):ks zn [] (zl9 r c)=zl9 r c:=
 zoY rfl zmg (zkS u j).right (zkS u j) λx=>by have o:=qi (zkS u j).right x;have w:Nrm []:=trivial;refine Nrm.unique o (qH w o) λy A=>?_;rw[knV_nil,qj w o A];simp[zn,mem]
def zoH:SmV []:=⟨zmg,b6,λe h=>by cases h⟩
def znJ{C:Q9}{R:List Nat}{n:Nat}(k:List Fg)(i r c:Nat)(w:r<zk)(u:c<zk)(hk:Kn C R n k)(y:Kn C R n (znP i r c))(ok:OkX C R)(A:n<=40000):Cn xT 37 [kp k,.v (.int .u64 i),.v (.int .u64 r),.v (.int .u64 c)] (.tup [kp (vh zn k (znP i r c)),.v .nilIface]):=by
 have j:=zoX [] r c zoH w u;rw[zoC w u]at j;refine zt func37 4 ?_;refine pw ?_
 (first|refine .c (j) ?_|refine .o (j) ?_)
 exact .d (knowUnion_c k (znP i r c) hk y ok A)
def zo1{D:Qk}{w:World}{v:Value}{s:ByteArray}{c k:Int}{t j:TypeId}(h:Dat D w v (.ifc t (.agg [.v (.string s),.ifc j (.agg [.v (.int .i64 c),.v (.int .i64 k)])]))):v=.iface t (.agg #[.string s,.iface j (.agg #[.int .i64 c,.int .i64 k])]):=by
 cases h with
 | ifc t x p h=>
   generalize u:[PV.v (.string s),PV.ifc j (.agg [.v (.int .i64 c),.v (.int .i64 k)])]=cs at h;cases h with
   | agg us cs hs _ h=>
     subst u;obtain⟨l⟩:=us;match l,hs with
     |[x,y],_=>have o:=(Rel.dat (ρ:=λ_=>0) (nb:=0) (h 0 _ rfl)).v_inv;have e1:=zaX (h 1 _ rfl);simp at o e1;rw[o,e1]
def zqt(i r c:Nat)(j:c<zk):Cn xT 92 [.v (.int .u64 i),.v (.int .u64 r),.v (.int .u64 c)] (kp (znP i r c)):=by refine zt func92 3 ?_;refine pw ?_;refine .c (zq7 r c j) ?_;rfl
def zqd{C:Q9}{R:List Nat}{n:Nat}(k:List Fg)(i r c:Nat)(u:c<zk)(hk:Kn C R n k)(o:Kn C R n (znP i r c))(ok:OkX C R)(w:n<=20000):Cn xT 53 [kp k,.v (.int .u64 i),.v (.int .u64 r),.v (.int .u64 c)] (kp (vh zn k (znP i r c))):=by
 have j:Cn xT 57 [kp k,kp (znP i r c),.v (.int .i64 0)] (kp (vh zn k (znP i r c))):=YG k (znP i r c) 0 a8 hk o ok w;refine zt func53 4 ?_;refine pw ?_;refine .c (zqt i r c u) ?_
 (first|exact .d (j)|exact .q (j))
def zqm{a b:List Iv}(j:Nrm a)(hb:Nrm b):(qy fMeet a b).length<=2*(a.length+b.length):=by have o:=zcK (C:=z6 a++z6 b) (qH (f:=fMeet) j hb) λx u=>(zcM rfl j hb u).elim (λh=>wC.2 (.inl (Y3 j.ivs2 h))) (λh=>wC.2 (.inr (Y3 hb.ivs2 h)));have w:=vq a;have y:=vq b;rw[wj]at o;omega
def zl5(k:List Fg)(items:List Iv):List Fg:=k.map λf=>⟨qy fMeet f.items items,f.vec⟩
def znX{k:List Fg}{items:List Iv}(h:RightK k)(hi:Nrm items):RightK (zl5 k items):=λg o=>by obtain⟨f,j,rfl⟩:=wB.1 o;exact⟨qH (h f j).1 hi,(h f j).2⟩
def zoG{items:List Iv}(hi:Nrm items):∀{k:List Fg},RightK k->qE (zl5 k items)<=2*qE k+2*(k.length*items.length)
 |[],_=>X4 _
 |f::k,h=>by have o:=zoG hi (k:=k) λg j=>h g (by simp[j]);have u:=zqm (h f b6).1 hi;have e:zl5 (f::k) items=⟨qy fMeet f.items items,f.vec⟩::zl5 k items:=rfl;rw[e];simp only[qE,wv,WY,Nat.one_mul];omega
def zn1{k:List Fg}{items:List Iv}(h:RightK k)(hi:Nrm items):CanK (znF k items):=zbX (znX h hi)
def zpu(f:FuncId):PV:=.fn (.func f) [] []
attribute [go_sem] zpu
structure Ok14(a b:List Fg):Prop where
 ra:RightK a
 rb:RightK b
 ka:Kn (CKL [a,b]) (RKL [a,b]) 240 a
 kb:Kn (CKL [a,b]) (RKL [a,b]) 240 b
 ok:OkX (CKL [a,b]) (RKL [a,b])
def Kn.proj{C:Q9}{R:List Nat}{n m:Nat}{k:List Fg}{items:List Iv}(h:Kn C R n k)(hi:Nrm items)(A:2*n+2*(k.length*items.length)<=m):Kn C R m (zl5 k items):=by
 have u:=zoG hi h.r;have w:=h.m;have y:=h.l;refine⟨znX h.r hi,λg o=>?_,λg o=>?_,a8,?_⟩
 .obtain⟨f,j,rfl⟩:=wB.1 o;exact h.ik f j
 .obtain⟨f,j,rfl⟩:=wB.1 o;exact h.s f j
 .unfold zl5;rw[ww];omega
def zqU{C:Q9}{R:List Nat}{n:Nat}(k:List Fg)(h:Kn C R n k)(ok:OkX C R)(j:n<=40000):Cn xT 100 [kp k] (kp (zbx k)):=by show Cn xT 100 [kp k] (kp (zL (jq k)));refine zt func100 1 ?_;refine pw ?_;refine .c (zqR k (h.ok12 ok a8)) ?_;exact .d (Kc (jq k) (h.refine ok) ok a8)
def zqV(k:List Fg)(items:List Iv){j:Nat}(h:j<k.length):((zl5 k items).take (j+1)).map fc=((zl5 k items).take j).map fc++[fc ⟨qy fMeet k[j].items items,k[j].vec⟩]:=by have u:(zl5 k items).length=k.length:=ww _;have o:(zl5 k items)[j]'a8=⟨qy fMeet k[j].items items,k[j].vec⟩:=UB _;rw[vj a8,WJ,o];rfl
def zqQ{C:Q9}{R:List Nat}{n m:Nat}(k:List Fg)(items:List Iv)(hk:Kn C R n k)(hi:Nrm items)(A:items.length<=100000)(G:Kn C R m (zl5 k items))(ok:OkX C R)(J:n<=100000)(F:m<=40000):Cn xT 58 [kp k,rg items] (kp (znF k items)):=by
 have B:=hk.l;have w:=zqU (zl5 k items) G ok F;have H:(zl5 k items).length=k.length:=ww _;refine zt func58 2 ?_;refine pw ?_;refine pLoop.go (λj=>j<=k.length) (λj=>[(5,.sl (((zl5 k items).take j).map fc) (.r 28 2)),(6,.v (.int .i64 (j:Nat)))]) (λ_=>[]) (λj=>k.length-j) 0 [5,6] ?_ ?_ ?_
 .exact X4 _
 .exact pd
 .rintro j I;refine pw ?_;refine .i ?_ ?_<;>intro h<;>first|refine pw ?_|exact pd
  .have y:=zqV k items h;have u:=Y1 h;have E:k[j].items.length<=100000:=(by have:=yv u;have:=hk.m;omega);refine .c (zq2 k[j].items items (hk.r _ u).1 hi a8 a8) ?_;refine cutP.full rfl ?_ rfl ?_ ?_
   .exact pd
   .exact pd
   .refine pw ?_;exact⟨j+1,h,a8,y.symm,rfl⟩
  .have o:Cn xT 100 [.sl (((zl5 k items).take j).map fc) .sh] (kp (znF k items)):=(by rw[wm a8];exact w)
   (first|exact .d (o)|exact .q (o))
def EdI(E:List Nat)(k:List Fg):Prop:=∀f∈k,∀x,Ed f.items x->x∈E
def zsx{E:List Nat}{k:List Fg}(h:RightK k)(B:EdI E k)(u:0∈E):∀x∈zq k,x∈E:=λx G=>by
 obtain⟨w,y⟩:=(vZ h).1 G;by_cases e:x=0
 .rw[e];exact u
 have A:=y.resolve_left e;have:∃f∈k,mem f.items (x-1)≠mem f.items x:=wT λF=>by have:qX k (x-1) x=true:=qo.2 λf j=>wT λC=>F ⟨f,j,C⟩;rw[A]at this;cases this
 obtain⟨f,j,o⟩:=this;exact B f j x ⟨w,by rw[Vq e];exact λe=>o e.symm⟩
def zsj{E:List Nat}{k:List Fg}(h:RightK k)(A:EdI E k)(w:0∈E):(zu k).length<=E.length/\∀s∈zu k,∀x,Ed [s] x->x∈E:=by
 have hs:=zsx h A w;have u:(cutsK k).length=(zq k).length:=vO _;have B:=Ji _ _ (startsK_asc k) hs;constructor
 .have:(zu k).length<=(cutsK k).length:=Wy _ _;omega
 .intro s C x o;obtain⟨i,hi,rfl⟩:=Wj (Wh.1 C).1;have j:i<(zq k).length:=a8;have e:(cutsK k)[i]=⟨(zq k)[i],if h:i+1<(zq k).length then (zq k)[i+1]-1 else zk-1⟩:=Vx (zq k) i j;have F:=o.1;rw[e]at o;rcases zhC o with rfl|y
  .exact hs _ (Y1 j)
  .split at y
   .rename_i h3;have G:=wP.1 (startsK_asc k) i (i+1) j h3 a8;rw[show x=(zq k)[i+1] by omega];exact hs _ (Y1 h3)
   .have:=xM;omega
def zsu{E:List Nat}:∀{o:List Fg}{f:Fg},(∀g∈o,Nrm g.items)->Nrm f.items->EdI E o->(∀x,Ed f.items x->x∈E)->EdI E (qN o f)
 |[],f,_,_,_,hf=>λg u=>by simp only[qN,wD]at u;subst u;exact hf
 | g::o,f,hn,hnf,ho,hf=>by
   have w:=zsu (o:=o) (f:=f) (λx j=>hn x (by simp[j])) hnf (λx j=>ho x (by simp[j])) hf;have u:=ho g b6;unfold qN;split
   .intro x j;rcases wi.1 j with rfl|j
    .exact u
    .exact w x j
   .split
    .intro x j;rcases wi.1 j with rfl|j
     .exact λy A=>(zcM rfl (hn g b6) hnf A).elim (u y) (hf y)
     .exact ho x (by simp[j])
    .intro x j;rcases wi.1 j with rfl|j
     .exact hf
     .exact ho x j
def zsf{E:List Nat}:∀{k o:List Fg},GrpI o->RightK k->EdI E o->EdI E k->EdI E (k.foldl yo o)
 |[],_,_,_,ho,_=>ho
 | f::k,o,j,hr,ho,hk=>by
   have u:=hr f b6;rw[WI];refine zsf (Yr j u).1 (λg j=>hr g (by simp[j])) ?_ λg j=>hk g (by simp[j]);unfold yo;split
   .exact ho
   .exact zsu (λg h=>(j.ok g h).2.2.1) u.1 ho (hk f b6)
def zsl{E:List Nat}{k:List Fg}(h:RightK k)(j:EdI E k):EdI E (zL k):=zsf GrpI.nil h (λf h=>by cases h) j
structure Ke(C:Q9)(R E:List Nat)(k:List Fg):Prop where
 can:CanK k
 ik:IK C R k
 s:∀f∈k,SmV f.vec
 ed:EdI E k
 m:qE k<=E.length
 l:k.length<=E.length
section
variable {C:Q9}{R E:List Nat}{a b k:List Fg}
def Ke.r(h:Ke C R E k):RightK k:=h.can.right
def Ke.kn(h:Ke C R E k):Kn C R E.length k:=⟨h.r,h.ik,h.s,h.m,h.l⟩
def Ke.nil:Ke C R E []:=⟨zaJ,(λf h=>by cases h),(λf h=>by cases h),(λf h=>by cases h),X4 _,X4 _⟩
def Ke.do{f:XE}(B:f false false=false)(j:Ke C R E a)(hb:Ke C R E b)(ok:OkX C R)(w:0∈E):Ke C R E (vh f a b):=by
 have F:=j.r.app hb.r;have A:EdI E (a++b):=λf h=>(wC.1 h).elim (j.ed f) (hb.ed f);obtain⟨G,y⟩:=zsj F A w;have u:=xU (f:=f) j.r hb.r;have hk:=Kn.do B j.kn hb.kn ok;have o:=jU u;refine⟨ze5 j.r hb.r,hk.ik,hk.s,zsl u λg o=>?_,?_,?_⟩
 .obtain⟨s,hs,rfl⟩:=wB.1 o;exact y s hs
 .have:qE (yy f a b)=(zu (a++b)).length:=Zf _ _;unfold vh;omega
 .have:(yy f a b).length=(zu (a++b)).length:=ww _;unfold vh;omega
def Ke.canonP{n:Nat}(hk:Kn C R n k)(A:EdI E k)(ok:OkX C R)(w:0∈E):Ke C R E (zbx k):=by
 obtain⟨B,y⟩:=zsj hk.r A w;have u:=Yb hk.r;have j:=hk.canon ok;have o:=jU u;refine⟨zbX hk.r,j.ik,j.s,zsl u λg o=>?_,?_,?_⟩
 .obtain⟨s,hs,rfl⟩:=wB.1 o;exact y s hs
 .have:qE (jq k)=(zu k).length:=Zf _ _;unfold zbx;omega
 .have:(jq k).length=(zu k).length:=ww _;unfold zbx;omega
def zsF{items:List Iv}(h:Ke C R E k)(hi:Nrm items)(o:∀x,Ed items x->x∈E):EdI E (zl5 k items):=λg u=>by obtain⟨f,j,rfl⟩:=wB.1 u;exact λx w=>(zcM rfl (h.r f j).1 hi w).elim (h.ed f j x) (o x)
end
structure Rs where
 id:Nat
 recs:List Rc
 known:List Fg
 next:Nat
def zs7(x y:Rc):Bool:=decide (y.ctr<x.ctr) || (decide (x.ctr=y.ctr) && decide (y.rep<x.rep))
def zsq(s:Rs)(i:Nat):Nat:=match zrZ s.recs i with
 |some x=>if s.next<=x.ctr then x.ctr+1 else s.next
 |none=>s.next
def ztL(s:Rs)(i:Nat)(v:ByteArray):Rc:=⟨i,s.id,zsq s i,v⟩
noncomputable def ztM (s:Rs) (i:Nat) (v:ByteArray):Rs:=⟨s.id,zr4 s.recs (ztL s i v),vh zn s.known (znP i s.id (zsq s i)),zsq s i+1⟩
def zs0(s:Rs)(known:List Fg)(items:List Iv):List Rc:=s.recs.filter λx=>mem items x.item && !hasK known x.item x.rep x.ctr
def zse(l:List Rc)(x:Rc):List Rc:=match zrZ l x.item with
 |some y=>if zs7 x y=true then zr4 l x else l
 |none=>zr4 l x
noncomputable def ztt (s f:Rs) (items:List Iv):Rs:=⟨s.id,(zs0 f s.known items).foldl zse s.recs,vh zn s.known (znF f.known items),s.next⟩
structure Env25(C:Q9)(R E I:List Nat):Prop where
 ok:OkX C R
 c:∀r x,x<=26->x∈C r
 z:0∈E
 e:E.length<=1000
 i:I.length<=25
 m:∀i∈I,i<zk/\i∈E/\(i+1<zk->i+1∈E)
structure Ok25(C:Q9)(R E I:List Nat)(n:Nat)(s:Rs):Prop where
 k:Ke C R E s.known
 a:zr8 s.recs
 x:∀x∈s.recs,x.item∈I/\x.rep<zk/\x.ctr<n/\x.val.size<=100
 n:s.next<=n
 i:s.id<zk/\s.id∈R
def zsA{l:List Rc}{I:List Nat}(h:zr8 l)(j:∀x∈l,x.item∈I):l.length<=I.length:=by
 have:=Ji (l.map Rc.item) I (uH.2 h) λy u=>by obtain⟨x,o,rfl⟩:=wB.1 u;exact j x o
 simpa using this
section
variable {C:Q9}{R E I:List Nat}{n:Nat}{s f:Rs}
def Ok25.len(h:Ok25 C R E I n s)(e:Env25 C R E I):s.recs.length<=25:=by have:=zsA h.a λx j=>(h.x x j).1;have:=e.i;omega
def Ok25.ctr(h:Ok25 C R E I n s)(i:Nat):zsq s i<=n:=by
 unfold zsq;have:=h.n;cases hg:zrZ s.recs i with
 |none=>exact this
 | some x=>
   have j:=(h.x x (zsB hg).1).2.2.1;dsimp only;split
   .omega
   .exact this
def Ok25.mono{m:Nat}(h:Ok25 C R E I n s)(o:n<=m):Ok25 C R E I m s:=
 ⟨h.k,h.a,λx j=>by have:=h.x x j;exact⟨this.1,this.2.1,a8,this.2.2.2⟩,by have:=h.n;omega,h.i⟩
def ztd(e:Env25 C R E I){i r c:Nat}(hi:i∈I)(H:r<zk)(K:r∈R)(N:c<=25):Ke C R E (znP i r c):=by
 have M:=zw;obtain⟨A,B,F⟩:=e.m i hi;have u:c<zk:=a8
 have L:1<=E.length:=ug e.z;have o:=zkS H u;have G:IV C R (zl9 r c):=by
  refine⟨o.right,λq x w=>?_,λy J=>?_⟩
  .rw[zoE H u]at w;split at w
   .rcases zhC w with rfl|rfl
    .exact e.c _ _ a8
    .exact e.c _ _ a8
   .exact absurd w zcL
  .simp only[zl9,wD]at J;subst J;rw[qD b6];exact K
 refine⟨⟨⟨λg j=>?_,by simp[znP]⟩,by simp[znP,xh]⟩,λg j=>?_,λg j=>?_,λg j x w=>?_,?_,?_⟩
 .simp only[znP,wD]at j;subst j;exact⟨o,by simp[zl9],qG (Zp _) A,b6⟩
 .simp only[znP,wD]at j;subst j;exact G
 .simp only[znP,wD]at j;subst j;exact zoF H u
 .simp only[znP,wD]at j;subst j;rcases zhC w with rfl|rfl
  .exact B
  .exact F w.1
 .simp[znP,qE];omega
 .simp[znP];omega
def Ok25.put(h:Ok25 C R E I n s)(e:Env25 C R E I){i:Nat}{v:ByteArray}(hi:i∈I)(o:v.size<=100)(w:n<=25):Ok25 C R E I (n+1) (ztM s i v):=by
 have u:=h.ctr i;refine⟨h.k.do rfl (ztd e hi h.i.1 h.i.2 a8) e.ok e.z,zr6 h.a,λx j=>?_,by show zsq s i+1<=n+1;omega,h.i⟩;rcases zr3 j with rfl|j
 .exact⟨hi,h.i.1,by show zsq s i<n+1;omega,o⟩
 .have:=h.x x j;exact⟨this.1,this.2.1,a8,this.2.2.2⟩
def zsz{l:List Rc}{x y:Rc}(h:y∈zse l x):y=x\/y∈l:=by
 unfold zse at h;split at h
 .split at h
  .exact zr3 h
  .exact .inr h
 .exact zr3 h
def zsy{l:List Rc}{x:Rc}(h:zr8 l):zr8 (zse l x):=by
 unfold zse;split
 .split
  .exact zr6 h
  .exact h
 .exact zr6 h
def zsa:∀{m l:List Rc},zr8 l->zr8 (m.foldl zse l)/\∀x∈m.foldl zse l,x∈m\/x∈l
 |[],l,h=>⟨h,λx o=>.inr o⟩
 | y::m,l,h=>by
   obtain⟨u,w⟩:=zsa (m:=m) (zsy (x:=y) h);refine⟨u,λx o=>?_⟩;rcases w x o with j|j
   .exact .inl (by simp[j])
   .exact(zsz j).imp (λe=>by simp[e]) id
def zsR{k:List Fg}(h:Ke C R E k)(e:Env25 C R E I){items:List Iv}(hi:Nrm items)(o:∀x,Ed items x->x∈E)(u:items.length<=10):Ke C R E (znF k items)/\Kn C R 22000 (zl5 k items):=by have w:=h.l;have y:=h.m;have A:=e.e;have B:k.length*items.length<=1000*10:=UO a8 u;have j:Kn C R 22000 (zl5 k items):=Kn.proj h.kn hi a8;exact⟨Ke.canonP j (zsF h hi o) e.ok e.z,j⟩
def Ok25.pull(h:Ok25 C R E I n s)(o:Ok25 C R E I n f)(e:Env25 C R E I){items:List Iv}(hi:Nrm items)(y:∀x,Ed items x->x∈E)(A:items.length<=10):Ok25 C R E I n (ztt s f items):=by
 obtain⟨u,w⟩:=zsa (m:=zs0 f s.known items) h.a;refine⟨h.k.do rfl (zsR o.k e hi y A).1 e.ok e.z,u,λx B=>?_,h.n,h.i⟩;rcases w x B with j|j
 .exact o.x x (Wh.1 j).1
 .exact h.x x j
end
end
section
attribute [-go_sem] z7
def cn_bool{f:FuncId}{A:List PV}{b:Bool}(F:Cn xT f A (.v (.bool b))){D:Qk}{w:World}{vs:Array Value}(E:GL D w)(C:∀b o,D b o->b<w.heap.size)(y:vs.size=A.length)(j:∀(i:Nat) p,A[i]?=some p->Dat D w (vs.getD i undef) p):
 Calls xT f vs w λe B=>e=.returned (.bool b)/\Below w.heap.size w B:=by
 refine(jP F E C y j).mono ?_;rintro e B ⟨u,rfl,hb,j⟩;have e:=(Rel.dat (ρ:=λ_=>0) (nb:=0) j).v_inv;rw[e];exact⟨rfl,hb⟩
def wp_some{P:Program}{c:Code}{a:Act}{W:World}{Q:Exit->Act->World->Prop}{R:World->Prop}(h:R W)(k:∀W,R W->c.wp P Q a W):c.wp P Q a W:=k W h
def Nw(D:Qk)(w j:World):Nat->Nat->Prop:=λb o=>D b o\/(w.heap.size<=b/\b<j.heap.size)
def Gd(D:Qk)(w:World):Prop:=GL D w/\∀b o,D b o->b<w.heap.size
def Rpl(D:Qk)(t:Nat)(w:World)(b m:Nat)(s:Rs):Prop:=
 ∃ka j,w.heap[b]?=some (.cells #[.int .u64 s.id,.map (some m),.slice ka s.known.length j,.int .u64 s.next,.bool false] 84 (0,0))/\MR t m w s.recs/\Dat D w (.slice ka s.known.length j) (kp s.known)
def Gd.keep{D:Qk}{S:Nat->Prop}{w w':World}(h:Gd D w)(hk:Keep S w w')(u:∀b o,D b o->¬S b):Gd D w':=
 ⟨h.1.mono (λ_ _ h=>h) λb o x j y=>hk.cell_some y (u b o j),λb o j=>Vm (h.2 b o j) hk.size⟩
def Gd.new{D:Qk}{w w0 j:World}(h:Gd D j)(hs:w0.heap.size<=j.heap.size):Gd (Nw D w0 j) j:=⟨h.1.mono (λ_ _ h=>.inl h) λ_ _ _ _ h=>h,λb o u=>u.elim (h.2 b o) ub⟩
def Rpl.keep{D D':Qk}{S:Nat->Prop}{t b m:Nat}{w w':World}{s:Rs}(h:Rpl D t w b m s)(hk:Keep S w w')(hb:¬S b)(C:¬S m)(u:∀b o,D b o->D' b o/\¬S b):Rpl D' t w' b m s:=by obtain⟨ka,F,y,j,A⟩:=h;exact⟨ka,F,hk.obj y hb,j.keep (hk.block m j.lt C),A.mono (λb o h=>(u b o h).1) λb o x B E=>hk.cell_some E (u b o B).2⟩
def Rpl.mono{D:Qk}{t j b m:Nat}{w:World}{s:Rs}(h:Rpl D t w b m s)(ht:t<=j):Rpl D j w b m s:=by obtain⟨ka,A,o,u,y⟩:=h;exact⟨ka,A,o,u.mono ht,y⟩
def zuI(id:Nat)(D:Qk)(w:World):Calls xT 20 #[.int .u64 (id:Nat)] w λe o=>e=.returned (.pointer (some ⟨w.heap.size+1,0,none⟩))/\Below w.heap.size w o/\o.heap.size=w.heap.size+2/\Rpl D 0 o (w.heap.size+1) w.heap.size ⟨id,[],[],0⟩:=by
 have u:=@run_makeMap xT
 go_enter func20,ntmps20
 go_wp2;refine tz (tJ rfl _ _ _) rfl ?_;exact⟨rfl,((tr _ w).alloc (Zp _) _).alloc b6 _,b6,none,0,Tz _ _ _,(MR.made w).keep (tu _ _ _ b6),.sl none 0 1 [] .sh 0 0 (λ_=>undef) (Zp _) (λh=>by cases h) b8 (λh=>absurd rfl h) (λi e h=>by simp at h) (λj h=>by simp at h) (λi e j p h=>by simp at h)⟩
def zte{D:Qk}{t b m n:Nat}{w:World}{s:Rs}(K:Rpl D t w b m s)(F:Gd D w)(hb:CanK s.known)(I:s.known.length<=1000000)(hz:∀f∈s.known,f.items.length<=1000000/\f.vec.length<=1000000/\∀e∈f.vec,e.holes.length<=1000000):
 Calls xT 15 #[.pointer (some ⟨b,0,none⟩)] w λe C=>∃v,e=.returned v/\Below w.heap.size w C/\Dat (Nw D w C) C v (kp s.known):=by
 obtain⟨ka,L,y,A,E⟩:=K;have G:=zrM s.known E F.2 (λf H=>⟨(hb.right f H).1.lt,(hb.gi.ok f H).1.bd⟩) I hz;have O:w.cell? ⟨b,2,none⟩=some (.slice ka s.known.length L):=(zW y 2 _ rfl).1;have J:=qL G;clear G y A E F hb I hz;go_enter func15,ntmps15
 go_wp2_with (go_at_call 35;refine J.o.mono ?_;rintro e P ⟨u,rfl,B,j⟩;obtain⟨M,N,rfl,_⟩:=RwF.shape j)
 go_ret;exact⟨_,rfl,B,KO.dat j λb o y A=>.inr ⟨y,A⟩⟩
def zs4{fn:Func}{p u:Tmp}{o t:TypeId}{A:Array Field}{w:World}{g:Nat}{cs:Array Value}{j:Array Value}(h:fn.results=#[.cell p o,.tmp u])(C:j.getD p undef=.pointer (some ⟨g,0,none⟩))(B:w.heap[g]?=some (.cells cs t (0,0)))
 (E:xT.underlying o=some (.struct A)) (hi:(xT.info? o).map (·.size)=some cs.size):(results fn j).run xT w=.ok (.tuple #[.agg cs,j.getD u undef]) w:=by
 have y:j[p]?.getD undef=.pointer (some ⟨g,0,none⟩):=dJ C
 simp[results,h,y,asAddr,run_loadVar_row w g t o cs (0,0) _ B E rfl hi]
def zwk{D:Qk}{t b m:Nat}{w:World}{s:Rs}{i:Nat}(I:Rpl D t w b m s)(hi:i<zk):Calls xT 18 #[.pointer (some ⟨b,0,none⟩),.int .u64 (i:Nat)] w λe J=>e=.returned (.tuple #[rcv ((zrZ s.recs i).getD zRc),.bool (zrZ s.recs i).isSome])/\Below w.heap.size w J:=by
 obtain⟨ka,K,j,u,H⟩:=I;have F:w.cell? ⟨b,1,none⟩=some (.map (some m)):=(zW j 1 _ rfl).1;have E:=qL u;have B:=u.lt;have A:=(XV.1 j).1;have G:∀o,(w.alloc o).cell? ⟨b,1,none⟩=some (.map (some m)):=λo=>(tl (a:=⟨b,1,none⟩) (tu _ _ _ A)).trans F;clear j u H;go_enter func18,ntmps18
 go_wp2_with (at_lookup;refine zsX rfl _ _ rfl rfl (E.o.keep (tu _ _ _ B)) hi rfl (λC=>?_) λy C=>?_)
 .refine tz (zs4 rfl rfl (Tp _ _ _) underlying47 dK) rfl ?_;rw[C];exact⟨rfl,((tr _ w).alloc (Zp _) _).alloc b6 _⟩
 .refine tz (zs4 rfl rfl (Tp _ _ _) underlying47 dK) rfl ?_;rw[C];exact⟨rfl,((tr _ w).alloc (Zp _) _).alloc b6 _⟩
def zti{D:Qk}{w:World}{v:Value}{k:List Fg}(h:Dat D w v (.tup [kp k,.v .nilIface])):∃a c,v=.tuple #[.slice a k.length c,.nilIface]/\Dat D w (.slice a k.length c) (kp k):=by
 cases h with
 | tup vs cs hs h=>
   have d0:=h 0 _ rfl;have o:=(h 1 _ rfl).v_inv;obtain⟨⟨a,n,c⟩,e,j⟩:=kH d0;obtain⟨l⟩:=vs;match l,hs with
   |[x,y],_=>simp at d0 o e;subst e;subst o;rw[ww]at j;simp only at j;subst j;exact⟨a,c,rfl,d0⟩
def zuD{C:Q9}{R E I:List Nat}{D:Qk}{w:World}{x:Value}{k:List Fg}(e:Env25 C R E I)(hk:Ke C R E k){i r c:Nat}(hi:i∈I)(B:r<zk)(F:r∈R)(G:c<=25)(A:Gd D w)(d:Dat D w x (kp k)):
 Calls xT 37 #[x,.int .u64 (i:Nat),.int .u64 (r:Nat),.int .u64 (c:Nat)] w λe y=>∃a u,e=.returned (.tuple #[.slice a (vh zn k (znP i r c)).length u,.nilIface])/\Below w.heap.size w y/\Dat (Nw D w y) y (.slice a (vh zn k (znP i r c)).length u) (kp (vh zn k (znP i r c))):=by
 refine(jP (znJ k i r c B (by have:=zw;omega) hk.kn (ztd e hi B F G).kn e.ok (by have:=e.e;omega)) A.1 A.2 rfl λj p o=>?_).mono ?_
 .match j,o with
  |0,o=>cases o;exact d
  |1,o=>cases o;exact .v _
  |2,o=>cases o;exact .v _
  |3,o=>cases o;exact .v _
  |j+4,o=>simp at o
 .rintro e y ⟨v,rfl,hb,H⟩;obtain⟨a,u,rfl,h⟩:=zti H;exact⟨a,u,rfl,hb,h⟩
def zt8{x c:Nat}(h:c=x+1)(o:c<zk)(w:World):Calls xT 36 #[.int .u64 (x:Nat)] w λe j=>e=.returned (.tuple #[.int .u64 (c:Nat),.bool true])/\j=w:=by have:=zw;refine(zdr x a8 w).mono ?_;rintro e j ⟨rfl,rfl⟩;rw[h];exact⟨rfl,rfl⟩
def SlK(D:Qk)(j:World)(k:List Fg)(u:Value)(W:World):Prop:=∃a c,u=.slice a k.length c/\Dat (Nw D j W) W (.slice a k.length c) (kp k)
def TuK(D:Qk)(j:World)(k:List Fg)(u:Value)(W:World):Prop:=∃a c,u=.tuple #[.slice a k.length c,.nilIface]/\Dat (Nw D j W) W (.slice a k.length c) (kp k)
def Nw.dat{D:Qk}{j A B:World}{x:Value}{p:PV}(h:Dat (Nw D j A) A x p)(hk:Keep qe A B):Dat (Nw D j B) B x p:=h.mono (λb o h=>h.imp id λh=>⟨h.1,Vm h.2 hk.size⟩) λb o x _ u=>hk.cell_some u id
def SlK.stab{D:Qk}{j:World}{k:List Fg}(u:Value)(A B:World)(h:SlK D j k u A)(hk:Keep qe A B):SlK D j k u B:=by obtain⟨a,c,e,h⟩:=h;exact⟨a,c,e,Nw.dat h hk⟩
def TuK.stab{D:Qk}{j:World}{k:List Fg}(u:Value)(A B:World)(h:TuK D j k u A)(hk:Keep qe A B):TuK D j k u B:=by obtain⟨a,c,e,h⟩:=h;exact⟨a,c,e,Nw.dat h hk⟩
def zvG{C:Q9}{R E I:List Nat}{n t b m i:Nat}{D:Qk}{w:World}{s:Rs}{v:ByteArray}(e:Env25 C R E I)(h:Ok25 C R E I n s)(hn:n<=25)(hi:i∈I)(hR:Rpl D t w b m s)(hG:Gd D w)(bH:∀o,¬D b o)(bJ:∀o,¬D m o)(aB:b≠m)(ht:t<1000000):
 Calls xT 14 #[.pointer (some ⟨b,0,none⟩),.int .u64 (i:Nat),.string v] w λe w'=>e=.returned (.tuple #[rcv (ztL s i v),.nilIface])/\Keep (λk=>k=b\/k=m) w w'/\Rpl (Nw D w w') (t+1) w' b m (ztM s i v):=by
 have hM:=zw;have aq:=(e.m i hi).1;obtain⟨ka,kc,h1,h2,h3⟩:=hR;have U:=(XV.1 h1).1;have aw:=h2.lt;obtain⟨c,G⟩:=xm (zsq s i);have bR:c<=n:=by rw[G];exact h.ctr i
 obtain⟨nx,aH⟩:=xm (s.next);obtain⟨kl,au⟩:=xm (s.known.length);have aD:(zrZ s.recs i=none/\c=nx)\/(∃y,zrZ s.recs i=some y/\y.ctr<nx/\c=nx)\/(∃y,zrZ s.recs i=some y/\nx<=y.ctr/\c=y.ctr+1):=by
  rw[G,aH];unfold zsq;cases hg:zrZ s.recs i with
  |none=>exact .inl ⟨rfl,rfl⟩
  | some y=>
    dsimp only;by_cases av:s.next<=y.ctr
    .exact .inr (.inr ⟨y,rfl,av,by rw[vD av]⟩)
    .exact .inr (.inl ⟨y,rfl,a8,by rw[Vq av]⟩)
 have ag:=λW (hW:Below w.heap.size w W)=>zuD (w:=W) (c:=c) e h.k hi h.i.1 h.i.2 a8 (hG.keep (Keep.of_below' (S:=qe) hW (Zp _)) λ_ _ _=>id) (h3.mono (λ_ _ h=>h) λb o x J hx=>(tl (a:=⟨b,o,none⟩) (hW.block b (hG.2 b o J))).trans hx);obtain⟨kr,aF⟩:=xm (vh zn s.known (znP i s.id c));have bn:=qL aF;have bl:=qL au;rw[<-au,<-aF]at ag;have aG:ztL s i v=⟨i,s.id,c,v⟩:=by unfold ztL;rw[<-G]
 have aW:ztM s i v=⟨s.id,zr4 s.recs ⟨i,s.id,c,v⟩,vh zn s.known (znP i s.id c),c+1⟩:=by unfold ztM;rw[aG,<-G]
 have c0:w.cell? ⟨b,0,none⟩=some (.int .u64 s.id):=(zW h1 0 _ rfl).1;have c1:w.cell? ⟨b,1,none⟩=some (.map (some m)):=(zW h1 1 _ rfl).1;have c2:w.cell? ⟨b,2,none⟩=some (.slice ka kl kc):=by rw[au];exact(zW h1 2 _ rfl).1
 have c3:w.cell? ⟨b,3,none⟩=some (.int .u64 nx):=by rw[aH];exact(zW h1 3 _ rfl).1
 have c4:w.cell? ⟨b,4,none⟩=some (.bool false):=(zW h1 4 _ rfl).1;have H1:=qL h1;have HM:=qL h2;have bi:=qL ag;have br:=qL h;have bq:=qL aG;have bt:=qL aW;have HG:=qL hG;obtain⟨F,af⟩:∃q,q=s.id:=⟨_,rfl⟩;have ab:=qL af;rw[<-af]at c0;have bM:xT.follows .mixedOrders=true:=dK
 clear h1 h2 h3 ag h aG aW hG G aH au af aF;go_enter func14,ntmps14
 go_wp2_with fail
 go_region;obtain⟨w1,ah⟩:=xm ((w.alloc (.cells #[.int .u64 0,.int .u64 0,.int .u64 0,.string ⟨#[]⟩] 47)).drew);have az:Below w.heap.size w w1:=by rw[ah];exact((tr _ w).alloc (Zp _) _).drew
 have bK:w1.heap.size=w.heap.size+1:=by rw[ah];exact tv _ _
 have aY:w1.heap[w.heap.size]?=some (.cells #[.int .u64 0,.int .u64 0,.int .u64 0,.string ⟨#[]⟩] 47 (0,0)):=by rw[ah];exact tn w _
 have d1:w1.cell? ⟨b,1,none⟩=some (.map (some m)):=(tl (a:=⟨b,1,none⟩) (az.block b U)).trans c1;have ak:=qL az;have bz:=qL aY;rw[<-ah];clear ah az aY;have ax:∀(o:Obj)(W:World),W=w1.alloc o->Below w.heap.size w W/\W.heap.size=w.heap.size+2/\W.heap[w.heap.size]?=some (.cells #[.int .u64 0,.int .u64 0,.int .u64 0,.string ⟨#[]⟩] 47 (0,0)):=λo W hW=>by rw[hW];exact⟨ak.o.alloc a8 _,by rw[tv,bK],(tu _ _ _ a8).trans bz.o⟩
 have aO:=qL ax;clear ax;rcases aD with⟨hq,V⟩|⟨y,hq,av,V⟩|⟨y,hq,bS,V⟩;case' inl=>
  subst V
  go_wp2_with (at_lookup;refine zsX rfl _ _ rfl rfl (HM.o.keep (ak.o.block m aw)) aq rfl (λ_=>?_) λy Q=>by rw[hq]at Q;cases Q)
 case' inr.inl=>
  subst V
  go_wp2_with (at_lookup;refine zsX rfl _ _ rfl rfl (HM.o.keep (ak.o.block m aw)) aq rfl (λQ=>by rw[hq]at Q;cases Q) λy' Q=>?_;rw[hq]at Q;cases Q)
 case' inr.inr=>
  have bg:=qL V;clear V
  go_wp2_with (first
   |(at_lookup;refine zsX rfl _ _ rfl rfl (HM.o.keep (ak.o.block m aw)) aq rfl (λQ=>by rw[hq]at Q;cases Q) λy' Q=>?_;rw[hq]at Q;cases Q)
   |(go_at_call 36;refine(zt8 bg.o a8 _).mono ?_;rintro e w3 ⟨rfl,rfl⟩))
 all_goals
  refine wp_some (R:=λW=>Below w.heap.size w W/\W.heap.size=w.heap.size+2/\W.heap[w.heap.size]?=some (.cells #[.int .u64 0,.int .u64 0,.int .u64 0,.string ⟨#[]⟩] 47 (0,0))) (aO.o _ _ rfl) ?_;rintro j ⟨an,bT,aZ⟩;have e0:j.cell? ⟨b,0,none⟩=some (.int .u64 F):=(tl (a:=⟨b,0,none⟩) (an.block b U)).trans c0;have e2:j.cell? ⟨b,2,none⟩=some (.slice ka kl kc):=(tl (a:=⟨b,2,none⟩) (an.block b U)).trans c2;have aP:=qL λW (hW:Below w.heap.size w W)=>bi.o W hW;rw[<-ab.o]at aP;have am:=qL an;have bA:=qL aZ;have aU:Below j.heap.size j j.drew:=(tr _ _).drew;clear an aZ;refine Kg (Sw:=qe) 16 109 (λw9=>Below j.heap.size j w9/\w9.cell? ⟨b,0,none⟩=some (.int .u64 F)/\w9.cell? ⟨b,2,none⟩=some (.slice ka kl kc)) dK dK rfl ⟨aU,e0,e2⟩ ?_;simp only[wO,wZ];refine Jz ?_;refine V7 (TuK D j kr) TuK.stab rfl ?_ ?_
  .intro a5 A G hk Y K N;have HK:=qL N;clear N;simp[Rds,zA,lk,Op.operands,Call.operands,RdEq]at Y;go_simp;refine(aP.o A (am.o.trans (G.1.mono am.o.size))).mono ?_;rintro e w3 ⟨H,k3,rfl,aT,ao⟩;have aE:Keep qe A w3:=Keep.of_below' aT (Zp _);exact HK.o _ _ aE ⟨G.1.trans (aT.mono G.1.size),aE.cell_some G.2.1 id,aE.cell_some G.2.2 id⟩ ⟨H,k3,rfl,ao.mono (λb o h=>h.imp id λh=>⟨V1 G.1.size h.1,h.2⟩) λ_ _ _ _ h=>h⟩
  simp only[Yf,yb];refine Jz ?_;refine V7 (TuK D j kr) TuK.stab rfl ?_ ?_
  .intro a5 A G hk Y K N;have HK:=qL N;clear N;simp[Rds,zA,lk,Op.operands,Call.operands,RdEq]at Y;obtain⟨_,⟨e1,e2⟩,H,k3,rfl,J⟩:=Y;go_simp;exact HK.o _ _ (Keep.refl _ _) G ⟨H,k3,rfl,J⟩
  simp only[Yf,yb];refine Jz ?_;refine V7 (SlK D j kr) SlK.stab rfl ?_ ?_
  .intro a5 A G hk Y K N;have HK:=qL N;clear N;simp[Rds,zA,lk,Op.operands,Call.operands,RdEq]at Y;obtain⟨_,⟨e1,e2⟩,H,k3,rfl,J⟩:=Y;go_simp;exact HK.o _ _ (Keep.refl _ _) G ⟨H,k3,rfl,J⟩
  simp only[Yf,yb];refine Jz ?_;refine V7 (λu _=>u=.nilIface) (yj _) rfl ?_ ?_
  .intro a5 A G hk Y K N;have HK:=qL N;clear N;simp[Rds,zA,lk,Op.operands,Call.operands,RdEq]at Y;obtain⟨_,⟨e1,e2⟩,H,k3,rfl,J⟩:=Y;go_simp;exact HK.o _ _ (Keep.refl _ _) G rfl
  simp only[Yf,yb];refine Jz ?_;refine V7 (SlK D j kr) SlK.stab rfl ?_ ?_
  .intro a5 A G hk Y K N;have HK:=qL N;clear N;simp[Rds,zA,lk,Op.operands,Call.operands,RdEq]at Y;obtain⟨_,⟨e1,e2⟩,H,k3,rfl,J⟩:=Y;go_simp;exact HK.o _ _ (Keep.refl _ _) G ⟨H,k3,rfl,J⟩
  simp only[Yf,yb];refine Jz ?_;intro j ae bI;simp only[finG,WQ,Yf,yb,wM,Wg,WR];simp only[Act.put,wy,wR,wS];rintro bZ bF bY bE cb bG _ ⟨H,k3,rfl,ao⟩;clear bF bE bG;have aC:Below w.heap.size w j:=am.o.trans (ae.1.mono am.o.size);have ba:=(ae.1.block _ a8).trans bA.o;have bU:=ae.1.size;have e1:j.cell? ⟨b,1,none⟩=some (.map (some m)):=(tl (a:=⟨b,1,none⟩) (aC.block b U)).trans c1;have bh:=qL ao;have aN:=qL aC;have bC:=qL ba;have bP:=ae.2.1;clear ao ae bI aC ba aU e0 e2
  go_wp2_with fail
  refine wp_some (R:=λW=>Below j.heap.size j W/\W.heap[j.heap.size]?=some (.cells #[.int .u64 i,.int .u64 F,.int .u64 c,.string v] 47 (0,0))/\W.heap.size=j.heap.size+1) ⟨(tr _ _).alloc (Zp _) _,tn _ _,b6⟩ ?_;rintro w4 ⟨aA,M,bW⟩;have ac:Below w.heap.size w w4.drew:=(aN.o.trans (aA.mono aN.o.size)).drew;obtain⟨v0,st,we,wf,q1,q2,q3,q4,q5⟩:=zu8 (w:=w4.drew) (t:=t) (B:=m) (l:=s.recs) (HM.o.keep (ac.block m aw)) br.o.a c8 (y:=⟨i,F,c,v⟩) aq;dsimp only[rcv]at q1 q2;have ai:we.heap[j.heap.size]?=some (.cells #[.int .u64 i,.int .u64 F,.int .u64 c,.string v] 47 (0,0)):=(q5 _ a8).trans M;have aJ:∀k,k<w4.heap.size->k≠m->wf.heap[k]?=w4.heap[k]?:=λk hk X=>q4.block k hk λe=>X (dJ e);have O:wf.heap[b]?=some (.cells #[.int .u64 F,.map (some m),.slice ka kl kc,.int .u64 s.next,.bool false] 84 (0,0)):=(aJ b a8 aB).trans ((ac.block b U).trans (by rw[ab.o,bl.o];exact H1.o));have f1:w4.cell? ⟨b,1,none⟩=some (.map (some m)):=(tl (a:=⟨b,1,none⟩) (ac.block b U)).trans c1;have x0:w4.cell? ⟨j.heap.size,0,none⟩=some (.int .u64 i):=(zW M 0 _ rfl).1;have x1:w4.cell? ⟨j.heap.size,1,none⟩=some (.int .u64 F):=(zW M 1 _ rfl).1;have x2:w4.cell? ⟨j.heap.size,2,none⟩=some (.int .u64 c):=(zW M 2 _ rfl).1;have x3:w4.cell? ⟨j.heap.size,3,none⟩=some (.string v):=(zW M 3 _ rfl).1;have y0:we.cell? ⟨j.heap.size,0,none⟩=some (.int .u64 i):=(zW ai 0 _ rfl).1;have y1:we.cell? ⟨j.heap.size,1,none⟩=some (.int .u64 F):=(zW ai 1 _ rfl).1;have y2:we.cell? ⟨j.heap.size,2,none⟩=some (.int .u64 c):=(zW ai 2 _ rfl).1;have y3:we.cell? ⟨j.heap.size,3,none⟩=some (.string v):=(zW ai 3 _ rfl).1
  have g2:wf.cell? ⟨b,2,none⟩=some (.slice ka kl kc):=(zW O 2 _ rfl).1;have z2:wf.frozen? ⟨b,2,none⟩=false:=(zW O 2 _ rfl).2;have bu:=qL q3;have aR:=qL q4;have bw:=qL aJ;have be:=qL O;have bB:=qL M;have aM:=qL ac;have aL:=qL aA;clear q3 q4 q5 aJ O M ai ac aA;go_region;obtain⟨A,L⟩:=xm (wf.setCell ⟨b,2,none⟩ (.slice H kr.length k3));have T:A.heap[b]?=some (.cells #[.int .u64 F,.map (some m),.slice H kr.length k3,.int .u64 s.next,.bool false] 84 (0,0)):=(by rw[L];exact zsw be.o 2 _);have ar:∀k,k<w4.heap.size->k≠m->k≠b->A.heap[k]?=w4.heap[k]?:=λk h1 h2 h3=>(by rw[L];exact(tw _ _ _ _ h3).trans (bw.o k h1 h2));have bQ:=aM.o.size;have bX:w4.heap.size<=A.heap.size:=(by rw[L];simp;exact aR.o.size);have aK:A.heap[w.heap.size]?=some (.cells #[.int .u64 0,.int .u64 0,.int .u64 0,.string ⟨#[]⟩] 47 (0,0)):=(ar _ a8 a8 a8).trans ((aL.o.block _ a8).trans bC.o);have aj:A.heap[j.heap.size]?=some (.cells #[.int .u64 i,.int .u64 F,.int .u64 c,.string v] 47 (0,0)):=(ar _ a8 a8 a8).trans bB.o;have aQ:qA (Keep (λk=>k=b\/k=m) w A):=qL (by
   rw[L];exact(((Keep.of_below' (S:=λk=>k=b\/k=m) aM.o (Zp _)).grown aR.o λk e _=>.inr (dJ e.symm)).setCell (p:=⟨b,2,none⟩) (λ_=>.inl rfl) _))
  have bp:qA (MR (t+1) m A (zr4 s.recs ⟨i,F,c,v⟩)):=qL (bu.o.keep (by rw[L];exact tw _ _ _ _ (uP aB)));rw[<-L];have b3:A.cell? ⟨b,3,none⟩=some (.int .u64 s.next):=(zW T 3 _ rfl).1;have r3:A.frozen? ⟨b,3,none⟩=false:=(zW T 3 _ rfl).2;have b4:A.cell? ⟨b,4,none⟩=some (.bool false):=(zW T 4 _ rfl).1;have r4:A.frozen? ⟨b,4,none⟩=false:=(zW T 4 _ rfl).2;have hz:=λk x h=>zW aK k x h;have n0:A.cell? ⟨w.heap.size,0,none⟩=some (.int .u64 0):=(hz 0 _ rfl).1;have n1:A.cell? ⟨w.heap.size,1,none⟩=some (.int .u64 0):=(hz 1 _ rfl).1;have n2:A.cell? ⟨w.heap.size,2,none⟩=some (.int .u64 0):=(hz 2 _ rfl).1;have n3:A.cell? ⟨w.heap.size,3,none⟩=some (.string ⟨#[]⟩):=(hz 3 _ rfl).1;have m0:A.frozen? ⟨w.heap.size,0,none⟩=false:=(hz 0 _ rfl).2;have m1:A.frozen? ⟨w.heap.size,1,none⟩=false:=(hz 1 _ rfl).2;have m2:A.frozen? ⟨w.heap.size,2,none⟩=false:=(hz 2 _ rfl).2;have m3:A.frozen? ⟨w.heap.size,3,none⟩=false:=(hz 3 _ rfl).2;have p0:A.cell? ⟨j.heap.size,0,none⟩=some (.int .u64 i):=(zW aj 0 _ rfl).1;have p1:A.cell? ⟨j.heap.size,1,none⟩=some (.int .u64 F):=(zW aj 1 _ rfl).1;have p2:A.cell? ⟨j.heap.size,2,none⟩=some (.int .u64 c):=(zW aj 2 _ rfl).1;have p3:A.cell? ⟨j.heap.size,3,none⟩=some (.string v):=(zW aj 3 _ rfl).1;have bO:j.heap.size≠w.heap.size:=a8;have ad:b≠w.heap.size:=a8;have bN:b≠j.heap.size:=a8;have bc:=qL T;have bD:=qL aK;have bj:=qL ar;clear L T ar aK aj hz q1 q2 x0 x1 x2 x3 y0 y1 y2 y3 f1 g2 z2
  go_wp2_with (go_at_call 36;refine(zt8 (x:=c) (c:=c+1) rfl a8 _).mono ?_;rintro e w6 ⟨rfl,rfl⟩)
  have bL:∀x y:Value,((w6.setCell ⟨b,3,none⟩ x).setCell ⟨b,4,none⟩ y).heap[w.heap.size]?=some (.cells #[.int .u64 0,.int .u64 0,.int .u64 0,.string ⟨#[]⟩] 47 (0,0)):=λx y=>(tw _ _ _ _ (uP ad)).trans ((tw _ _ _ _ (uP ad)).trans bD.o);refine tz (zs4 (cs:=#[.int .u64 i,.int .u64 F,.int .u64 c,.string v]) rfl rfl (by simpa using zsw (zsw (zsw (zsw (bL _ _) 0 _) 1 _) 2 _) 3 _) underlying47 dK) rfl ?_;have P:¬(w.heap.size<w.heap.size):=th _;have aV:∀x y a1 a2 H a4:Value,Keep (λk=>k=b\/k=m) w ((((((w6.setCell ⟨b,3,none⟩ x).setCell ⟨b,4,none⟩ y).setCell ⟨w.heap.size,0,none⟩ a1).setCell ⟨w.heap.size,1,none⟩ a2).setCell ⟨w.heap.size,2,none⟩ H).setCell ⟨w.heap.size,3,none⟩ a4):=λx y a1 a2 H a4=>
   (((((aQ.o.setCell (p:=⟨b,3,none⟩) (λ_=>.inl rfl) x).setCell (p:=⟨b,4,none⟩) (λ_=>.inl rfl) y).setCell (p:=⟨w.heap.size,0,none⟩) (λh=>absurd h P) a1).setCell (p:=⟨w.heap.size,1,none⟩) (λh=>absurd h P) a2).setCell (p:=⟨w.heap.size,2,none⟩) (λh=>absurd h P) H).setCell (p:=⟨w.heap.size,3,none⟩) (λh=>absurd h P) a4
  refine⟨by rw[bq.o,<-ab.o];rfl,aV _ _ _ _ _ _,?_⟩;rw[bt.o,<-bn.o];have aI:∀(W:World)(k:Nat),k≠w.heap.size->∀a1 a2 H a4:Value,((((W.setCell ⟨w.heap.size,0,none⟩ a1).setCell ⟨w.heap.size,1,none⟩ a2).setCell ⟨w.heap.size,2,none⟩ H).setCell ⟨w.heap.size,3,none⟩ a4).heap[k]?=W.heap[k]?:=λW k hk _ _ _ _=>(tw _ _ _ _ hk).trans ((tw _ _ _ _ hk).trans ((tw _ _ _ _ hk).trans (tw _ _ _ _ hk)));have aX:∀k,k≠b->∀x y:Value,((w6.setCell ⟨b,3,none⟩ x).setCell ⟨b,4,none⟩ y).heap[k]?=w6.heap[k]?:=λk hk _ _=>(tw _ _ _ _ hk).trans (tw _ _ _ _ hk);have aS:=bp.o;rw[ab.o]at aS;refine⟨H,k3,?_,aS.keep ((aI _ m a8 _ _ _ _).trans (aX m (uP aB) _ _)),bh.o.mono (λZ o h=>h.imp id λh=>⟨a8,?_⟩) λZ o x J hx=>?_⟩
  .refine(aI _ b ad _ _ _ _).trans ?_;have:=zsw (zsw bc.o 3 (.int .u64 ((c+1:Nat):Int))) 4 (.bool false);rw[ab.o]at this;simpa using this
  .have:=(aV (.int .u64 (c+1)) (.bool false) (.int .u64 i) (.int .u64 F) (.int .u64 c) (.string v)).size;have h5:=aQ.o.size;simp;omega
  .have ay:=tp j ⟨Z,o,none⟩ hx;have X:Z≠b/\Z≠m/\Z≠w.heap.size:=by
    rcases J with J|J
    .have:=HG.o.2 Z o J;exact⟨λe=>bH o (e▸J),λe=>bJ o (e▸J),a8⟩
    .exact⟨a8,a8,a8⟩
   exact(tl (a:=⟨Z,o,none⟩) ((aI _ Z X.2.2 _ _ _ _).trans ((aX Z X.1 _ _).trans ((bj.o Z (by have:Z<j.heap.size:=ay;omega) X.2.1 X.1).trans (aL.o.block Z ay))))).trans hx
end
section
open Go.Maps
attribute [go_sem] rcp rcc
def zvf(x y:Rc):Cn xT 66 [rcp x,rcp y] (.v (.bool (zs7 x y))):=by
 unfold zs7;refine zt func66 2 ?_;refine pw ?_;refine .i ?_ ?_<;>intro h<;>first|refine pw ?_|exact pd
 .simp[h]
 .refine .i ?_ ?_<;>intro j<;>first|refine pw ?_|exact pd
  .simp[h,j]
  .simp[h,j]
attribute [-go_sem] z7
def ztH{t B:Nat}{w:World}{l:List Rc}(h:MR t B w l){r:Nat}(C:r<zk):(Instr.lookup 82 (.map (some B)) (.int .u64 (r:Nat)) true).run xT w=.ok (.tuple #[rcv ((zrZ l r).getD zRc),.bool (zrZ l r).isSome]) w:=by obtain⟨D,u,E,y,A⟩:=h;obtain⟨v,F,j,o⟩:=u.look_ok vF underlying82 (zsv w) (zd:=.held zR) (zp:=[]) rfl (Zq C);rw[A r]at o;unfold rV at o;cases o;rw[y r]at j;exact j
def zuc{t B:Nat}{w:World}{l:List Rc}(h:MR t B w l)(F:zr8 l)(G:t<maxLen){y:Rc}(H:y.item<zk):∃o,(Instr.mapUpdate 82 (.map (some B)) (.int .u64 (y.item:Nat)) (rcv y)).run xT w=.ok () o/\MR (t+1) B o (zr4 l y)/\w.grownBy o (some B):=by obtain⟨D,u,A,C,E⟩:=h;obtain⟨o,j,I,J⟩:=u.update vF underlying82 G (Zq H) (val:=rcv y) rfl;exact⟨o,j,MR.put A C E F I,J⟩
def ztb{D:Qk}{w:World}(x:Rc):Dat D w (.agg #[.int .u64 x.item,.int .u64 x.rep,.int .u64 x.ctr,.string x.val]) (rcp x):=by
 refine .agg _ _ rfl (λi hi=>?_) λi p j=>?_
 .match i,hi with
  |0,_=>rfl
  |1,_=>rfl
  |2,_=>rfl
  |3,_=>rfl
 .match i,j with
  |0,j=>cases j;exact .v _
  |1,j=>cases j;exact .v _
  |2,j=>cases j;exact .v _
  |3,j=>cases j;exact .v _
def zv2{D:Qk}{t b m:Nat}{w:World}{l:List Rc}{x:Rc}(hG:Gd D w)(hb:w.cell? ⟨b,1,none⟩=some (.map (some m)))(hm:MR t m w l)(ha:zr8 l)(ht:t<1000000)(hx:x.item<zk)(an:∀o,¬D m o):
 Calls xT 28 #[.pointer (some ⟨b,0,none⟩),rcv x] w λe w'=>(∃u,e=.returned u)/\MR (t+1) m w' (zse l x)/\Keep (λk=>k=m) w w':=by
 have Y:=tp w _ hb;have ab:=hm.lt;obtain⟨B,K⟩:=xm (w.alloc (.cells #[.int .u64 x.item,.int .u64 x.rep,.int .u64 x.ctr,.string x.val] 47));have O:Below w.heap.size w B:=by rw[K];exact(tr _ w).alloc (Zp _) _
 have ag:B.heap.size=w.heap.size+1:=by rw[K];exact tv _ _
 have F:B.heap[w.heap.size]?=some (.cells #[.int .u64 x.item,.int .u64 x.rep,.int .u64 x.ctr,.string x.val] 47 (0,0)):=by rw[K];exact tn w _
 have Q:MR t m B l:=hm.keep (O.block m ab);have q1:=ztH (w:=B.drew) Q hx;have q2:=ztH (w:=(B.alloc (.cells #[.int .u64 0,.int .u64 0,.int .u64 0,.string ⟨#[]⟩] 47)).drew) (Q.keep (tu _ _ _ (by show m<B.heap.size;omega))) hx;have b1:B.cell? ⟨b,1,none⟩=some (.map (some m)):=(tl (a:=⟨b,1,none⟩) (O.block b Y)).trans hb;obtain⟨y,hy⟩:=xm ((zrZ l x.item).getD zRc);obtain⟨ok,ac⟩:=xm ((zrZ l x.item).isSome);rw[<-hy,<-ac]at q1 q2;dsimp only[rcv]at q1 q2⊢;have x0:B.cell? ⟨w.heap.size,0,none⟩=some (.int .u64 x.item):=(zW F 0 _ rfl).1;have x1:B.cell? ⟨w.heap.size,1,none⟩=some (.int .u64 x.rep):=(zW F 1 _ rfl).1;have x2:B.cell? ⟨w.heap.size,2,none⟩=some (.int .u64 x.ctr):=(zW F 2 _ rfl).1;have x3:B.cell? ⟨w.heap.size,3,none⟩=some (.string x.val):=(zW F 3 _ rfl).1;have HY:=qL hy;have af:=qL ac;have ah:=qL Q;have ai:=qL F;have U:=qL O;have HG:=qL hG;have HA:=qL ha;have am:xT.follows .mixedOrders=true:=dK
 clear hy ac Q F O hG ha hm hb;go_enter func28,ntmps28
 go_wp2_with fail
 rw [<-K];clear K;go_region;all_goals
  obtain⟨C,E⟩:=xm ((B.alloc (.cells #[.int .u64 y.item,.int .u64 y.rep,.int .u64 y.ctr,.string y.val] 47)).drew);have P:Below w.heap.size w C:=(by rw[E];exact(U.o.alloc a8 _).drew);have ao:C.heap.size=w.heap.size+2:=(by rw[E];show (B.alloc _).heap.size=_;rw[tv,ag]);have M:C.heap[w.heap.size+1]?=some (.cells #[.int .u64 y.item,.int .u64 y.rep,.int .u64 y.ctr,.string y.val] 47 (0,0)):=(by rw[E,<-ag];exact tn B _);have G:C.heap[w.heap.size]?=some (.cells #[.int .u64 x.item,.int .u64 x.rep,.int .u64 x.ctr,.string x.val] 47 (0,0)):=(by rw[E];exact(tu _ _ _ a8).trans ai.o);rw[<-E];have H:=qL P;have aj:=qL G;have I:=qL (ah.o.keep ((P.block m ab).trans (U.o.block m ab).symm));have ak:C.cell? ⟨b,1,none⟩=some (.map (some m)):=(tl (a:=⟨b,1,none⟩) ((P.block b Y).trans (U.o.block b Y).symm)).trans b1;have z0:C.cell? ⟨w.heap.size,0,none⟩=some (.int .u64 x.item):=(zW G 0 _ rfl).1;have z1:C.cell? ⟨w.heap.size,1,none⟩=some (.int .u64 x.rep):=(zW G 1 _ rfl).1;have z2:C.cell? ⟨w.heap.size,2,none⟩=some (.int .u64 x.ctr):=(zW G 2 _ rfl).1;have z3:C.cell? ⟨w.heap.size,3,none⟩=some (.string x.val):=(zW G 3 _ rfl).1;have y0:C.cell? ⟨w.heap.size+1,0,none⟩=some (.int .u64 y.item):=(zW M 0 _ rfl).1;have y1:C.cell? ⟨w.heap.size+1,1,none⟩=some (.int .u64 y.rep):=(zW M 1 _ rfl).1;have y2:C.cell? ⟨w.heap.size+1,2,none⟩=some (.int .u64 y.ctr):=(zW M 2 _ rfl).1;have y3:C.cell? ⟨w.heap.size+1,3,none⟩=some (.string y.val):=(zW M 3 _ rfl).1;clear E P M G x0 x1 x2 x3 q1 q2 b1;cases ok with
  | false=>
    have hn:zrZ l x.item=none:=by
     have:=af.o;cases hg:zrZ l x.item with
     |none=>rfl
     |some z=>rw[hg]at this;cases this
    obtain⟨T,r1,r2,r3⟩:=zuc (w:=C.drew) I.o HA.o c8 (y:=x) hx;dsimp only[rcv]at r1;have V:=qL r2;have X:=qL r3;clear r2 r3
    go_wp2_with fail
    go_region;all_goals
     go_wp2_with fail
     go_end0
     refine⟨⟨_,rfl⟩,?_,(Keep.of_below' H.o (Zp _)).drew.grown X.o λk e _=>dJ e.symm⟩;unfold zse;rw[hn];exact V.o
  | true=>
    have hn:zrZ l x.item=some y:=by
     have h1:=af.o;have h2:=HY.o;cases hg:zrZ l x.item with
     |none=>rw[hg]at h1;cases h1
     |some z=>rw[hg]at h2;rw[h2];rfl
    have J:=cn_bool (zvf x y) (vs:=#[.agg #[.int .u64 x.item,.int .u64 x.rep,.int .u64 x.ctr,.string x.val],.agg #[.int .u64 y.item,.int .u64 y.rep,.int .u64 y.ctr,.string y.val]]) (HG.o.keep (Keep.of_below' (S:=qe) H.o (Zp _)) λ_ _ _=>id).1 (HG.o.keep (Keep.of_below' (S:=qe) H.o (Zp _)) λ_ _ _=>id).2 rfl λj p hp=>by
     match j,hp with
     |0,hp=>cases hp;exact ztb x
     |1,hp=>cases hp;exact ztb y
     |j+2,hp=>simp at hp
    obtain⟨la,Z⟩:=xm (zs7 x y);rw[<-Z]at J;have ae:=qL J;have ad:=qL Z;clear J Z;cases la with
    | false=>
      go_wp2_with (go_at_call 66;refine ae.o.mono ?_;rintro e T ⟨rfl,A⟩;have N:=qL A;clear A)
      go_end0
      have hk:=(Keep.of_below' (S:=λk=>k=m) H.o (Zp _)).trans (Keep.of_below' N.o (Zp _));refine⟨⟨_,rfl⟩,?_,hk⟩;unfold zse;rw[hn];dsimp only;rw[<-ad.o,Vq b6];exact(I.o.keep (N.o.block m I.o.lt)).mono a8
    | true=>
      go_wp2_with (go_at_call 66;refine ae.o.mono ?_;rintro e T ⟨rfl,A⟩
                   obtain⟨w4,r1,r2,r3⟩:=zuc (w:=T.drew) (I.o.keep (A.block m I.o.lt)) HA.o c8 (y:=x) hx;dsimp only[rcv]at r1;have L:=(A.block _ a8).trans aj.o;have b3:T.cell? ⟨b,1,none⟩=some (.map (some m)):=(tl (a:=⟨b,1,none⟩) (A.block b a8)).trans ak;have v0:T.cell? ⟨w.heap.size,0,none⟩=some (.int .u64 x.item):=(zW L 0 _ rfl).1;have v1:T.cell? ⟨w.heap.size,1,none⟩=some (.int .u64 x.rep):=(zW L 1 _ rfl).1;have v2:T.cell? ⟨w.heap.size,2,none⟩=some (.int .u64 x.ctr):=(zW L 2 _ rfl).1;have v3:T.cell? ⟨w.heap.size,3,none⟩=some (.string x.val):=(zW L 3 _ rfl).1;have V:=qL r2;have X:=qL r3;have N:=qL A;clear r2 r3 A L)
      go_region;all_goals
       go_wp2_with fail
       go_end0
       have hk:=(Keep.of_below' (S:=λk=>k=m) H.o (Zp _)).trans (Keep.of_below' N.o (Zp _));refine⟨⟨_,rfl⟩,?_,hk.drew.grown X.o λk e _=>dJ e.symm⟩;unfold zse;rw[hn];dsimp only;rw[<-ad.o,vD rfl];exact V.o
end
section
attribute [go_sem] lp
def rfc(s:Rs):List PV:=[.v (.int .u64 s.id),lp s.recs,kp s.known,.v (.int .u64 s.next),.v (.bool false)]
attribute [go_sem] rfc
def zuQ(s:Rs)(i:Nat)(u:s.recs.length<=1000000):Cn xT 50 [.cp (rfc s) 0,.v (.int .u64 i)] (.v (.int .i64 (ixR s.recs i 0))):=by
 refine zt func50 2 ?_;refine pw ?_;refine pLoop.go (λk=>k<=s.recs.length/\ixR s.recs i 0=ixR (s.recs.drop k) i k) (λk=>[(5,.v (.int .i64 (k:Nat)))]) (λ_=>[]) (λk=>s.recs.length-k) 0 [5] ?_ ?_ ?_
 .exact⟨X4 _,rfl⟩
 .exact pd
 .rintro k ⟨hk,j⟩;refine pw ?_;refine .i ?_ ?_<;>intro h<;>first|refine pw ?_|exact pd
  .rw[VS h,ixR]at j;refine pw ?_;refine .i ?_ ?_<;>intro o<;>first|refine pw ?_|exact pd
   .rw[vD o]at j;rw[j]
   .rw[Vq o]at j;exact⟨k+1,⟨h,j⟩,a8,rfl⟩
  .rw[j,wE a8];rfl
def ztX(x y:Rc):Cn xT 56 [rcp x,rcp y] (.v (.bool (zs7 x y))):=by
 unfold zs7;refine zt func56 2 ?_;refine pw ?_;refine .i ?_ ?_<;>intro h<;>first|refine pw ?_|exact pd
 .simp[h]
 .refine .i ?_ ?_<;>intro j<;>first|refine pw ?_|exact pd
  .simp[h,j]
  .simp[h,j]
def ztz(s:Rs)(k:List Fg)(items:List Iv)(F:s.recs.length<=1000000)(E:∀x∈s.recs,x.ctr<zk)(hi:Nrm items)(A:items.length<=1000000)(C:RightK k)(hz:QW k):Cn xT 55 [.cp (rfc s) 0,kp k,rg items] (lp (zs0 s k items)):=by
 unfold zs0;refine zt func55 3 ?_;refine pw ?_;refine pLoop.go (λj=>j<=s.recs.length) (λj=>[(7,.sl (((s.recs.take j).filter λx=>mem items x.item && !hasK k x.item x.rep x.ctr).map rcc) (.r 44 4)),(8,.v (.int .i64 (j:Nat)))]) (λ_=>[]) (λk=>s.recs.length-k) 0 [7,8] ?_ ?_ ?_
 .exact X4 _
 .exact pd
 .rintro j hk;have B:((s.recs.take j).filter λx=>mem items x.item && !hasK k x.item x.rep x.ctr).length<=j:=V1 (Wy _ _) a9;refine pw ?_;refine .i ?_ ?_<;>intro h<;>first|refine pw ?_|exact pd
  .have o:s.recs.take (j+1)=s.recs.take j++[s.recs[j]]:=vj h;have w:=E _ (Y1 h);refine pw ?_;refine .c (kU items s.recs[j].item a8) ?_;refine .i ?_ ?_<;>intro u<;>first|refine pw ?_|exact pd
   .refine .c (zid k s.recs[j].item s.recs[j].rep s.recs[j].ctr C w hz) ?_;refine .i ?_ ?_<;>intro y<;>first|refine pw ?_|exact pd
    .refine⟨j+1,h,a8,?_,rfl⟩;rw[o,uo,up,u,y];simp;rfl
    .refine⟨j+1,h,a8,?_,rfl⟩;rw[o,uo,up,u,y];simp
   .refine⟨j+1,h,a8,?_,rfl⟩;rw[o,uo,up,u];simp
  .rw[wm a8]
def ztR(l:List Opn):Bool:=decide (l.length<=25) && l.all λo=>decide (o.val.size<=100) && decide (o.items.length<=10)
attribute [go_sem] opc
end
end Go.Proofs.YtmpnbdhadjfbhaaGreatDoor
