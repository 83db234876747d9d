import Derived.Deep.Cut
import Derived.Maps.OwnSet
import Derived.WideKeyEntry
import Derived.Test.YtjdjjlkifdimkaaGreatDoorB21
set_option maxHeartbeats 16000000
set_option linter.all false
set_option maxRecDepth 100000
namespace Go.Proofs.YtjdjjlkifdimkaaGreatDoor
def Tw:=@Go.World.cell?_setCell_other
def TD:=@Go.MapKept.run_getObj_map
def TE:=@Go.MapKept.run_setObj_map
open Go.RowKit
open Go.Proofs.Tryz
open Go.Proofs.Tryz renaming prog->xt
def trc(t:Tr):List PV:=[.v (.int .u64 t.1),.v (.int .u64 t.2.1),.v (.int .u64 t.2.2)]
def trp(t:Tr):PV:=.agg (trc t)
attribute [go_sem] trc trp
section
attribute [-go_sem] z7
def qB(j:List Fv):List Value:=j.flatMap λf=>[sv f.1,sv f.2]
def Yo:∀(o:List Fv)(j:Nat)(u:Value),(qB o)[j]?=some u->∃i,∃h:i<o.length,(j=i*2/\u=sv o[i].1)\/(j=i*2+1/\u=sv o[i].2)
 |[],j,u,h=>by simp[qB]at h
 |f::o,0,u,h=>⟨0,b7,.inl ⟨rfl,by simpa[qB]using h.symm⟩⟩
 |f::o,1,u,h=>⟨0,b7,.inr ⟨rfl,by simpa[qB]using h.symm⟩⟩
 | f::o,j+2,u,h=>by
   obtain⟨i,hi,w⟩:=Yo o j u (by simpa[qB]using h);refine⟨i+1,b6,?_⟩;rcases w with⟨e,e2⟩|⟨e,e2⟩
   .exact .inl ⟨a9,dL e2⟩
   .exact .inr ⟨a9,dL e2⟩
def Z5:∀(j:List Fv)(i:Nat)(h:i<j.length),(qB j)[i*2]?=some (sv j[i].1)/\(qB j)[i*2+1]?=some (sv j[i].2)
 |f::j,0,h=>⟨rfl,rfl⟩
 |f::j,i+1,h=>by have:=Z5 j i (dL h);rw[show (i+1)*2=i*2+2 by omega];exact⟨by simpa[qB]using this.1,by simpa[qB]using this.2⟩
def jf(j:List Fv):(qB j).length=j.length*2:=by
 induction j with
 |nil=>rfl
 |cons f j ih=>simp[qB]at ih⊢;omega
def jg(o:List Fv):∀u∈qB o,u.oneCell'=true:=λu w=>by
 obtain⟨f,_,j⟩:=up.1 w;simp at j;rcases j with rfl|rfl<;>rfl
def Zn{G:Nat}{w W:World}{A:Option Addr}{B:Nat}{y:List Fv}(h:zeF G w A B y)(E:∀b o x,b<G->w.cell? ⟨b,o,none⟩=some x->W.cell? ⟨b,o,none⟩=some x):(y.length=0/\A=none)\/∃a,A=some a/\∀j u,(qB y)[j]?=some u->W.cell? (a.add j)=some u:=by
 by_cases C:y=[]
 .subst C;cases A with
  |none=>exact .inl ⟨rfl,rfl⟩
  |some a=>exact .inr ⟨a,rfl,λj u h=>by simp[qB]at h⟩
 .obtain⟨b,J,rfl,hb,F⟩:=h.2.2 C;refine .inr ⟨_,rfl,λj u I=>?_⟩;obtain⟨i,hi,H⟩:=Yo y j u I;rw[zh];rcases H with⟨rfl,rfl⟩|⟨rfl,rfl⟩
  .exact E _ _ _ hb (F i hi).1
  .exact E _ _ _ hb (by rw[<-Wy];exact(F i hi).2)
def Jb{C:Array Oper}{rest:List Oper}{o:Oper}{a:Act}{w:World}{Q:Exit->Act->World->Prop}(s x:Operand)(t:TypeId)(J:o.guard=none)
 (ho:o.op=.call { callee:=.builtin .append,args:=#[s,x],argTypes:=#[t,t] }) (ht:xt.underlying t=some (.slice 50)) (base:Nat) (v:Value) (n:Nat) (K:List Value) (hs:a.eval s=v) (F:w.ownsRow base 50 2 v n K)
 (H:Option Addr) (m c:Nat) (y:List Value) (U:a.eval x=.slice H m c) (P:y.length=m*2) (B:(m=0/\H=none)\/∃a,H=some a/\∀j u,y[j]?=some u->w.cell? (a.add j)=some u) (L:∀u∈y,u.oneCell'=true) (I:n+m<=1073741824) (A:base<=w.heap.size)
 (h:∀E G,G.ownsRow base 50 2 E (n+m) (K++y)->w.grownBy G v.ownBlock->(E.ownBlock=v.ownBlock\/E.ownBlock=some w.heap.size)->wpList xt C Q rest (a.put o.dst E) G):wpList xt C Q (o::rest) a w:=by
 have T:Region.wanted o (yielded C a.tmps)=true:=by simp[Region.wanted,J]
 unfold wpList;rw[vj T];refine .inl ?_;obtain⟨E,G,S,M,N,O⟩:=YI w t o.type ht base v n K F H m c y P B L I A;unfold Oper.wp execOp;simp only[ho,resolve,invoke,builtin,tC,tG,tw,uh,Wx,W6,hs,U,S];exact h E G M N O
def OutG.two{C:xT}{mb base:Nat}{w0 w:World}{v:Value}{a b:List Fg}{fa j:List Fv}(A:fa.length=a.length)(B:j.length=b.length)(ho:w.ownsRow base 50 2 v (0+a.length+b.length) ([]++qB fa++qB j))
 (J:∀b o,C b o->b<w0.heap.size) (hb:Below w0.heap.size w0 w) (H:w0.heap.size<=base)
 (L:∀i (h:i<fa.length),Dat C w0 (sv fa[i].1) (rg (a[i]'(A▸h)).items)/\Dat C w0 (sv fa[i].2) (vp (a[i]'(A▸h)).vec)) (db:∀i (h:i<j.length),Dat C w0 (sv j[i].1) (rg (b[i]'(B▸h)).items)/\Dat C w0 (sv j[i].2) (vp (b[i]'(B▸h)).vec)):OutG C mb base w v (a++b):=by
 have y:∀{x:Value}{p:PV},Dat C w0 x p->Dat (DX C mb w v) w x p:=λh=>h.mono (λb o h=>⟨.inl h,λe=>by have:=(ho.lt b e).1;have:=J b o h;omega⟩) λb o x N Q=>(tk (a:=⟨b,o,none⟩) (hb.block b (J b o N))).trans Q;have K:=jf fa;have P:=jf j;refine⟨qB fa++qB j,⟨by rw[wi,<-wk a.length];exact ho,b6,λu E=>?_⟩,λi hi=>?_⟩
 .rcases wA.1 E with E|E
  .exact jg fa u E
  .exact jg j u E
 .by_cases M:i<a.length
  .obtain⟨e1,e2⟩:=Z5 fa i a9;obtain⟨F,G⟩:=L i a9;have I:(a++b)[i]=a[i]:=uw M;rw[I];exact⟨_,_,by rw[V1 a9];exact e1,by rw[V1 a9];exact e2,y F,y G⟩
  .have O:i-a.length<b.length:=(by simp at hi;omega);obtain⟨e1,e2⟩:=Z5 j (i-a.length) a9;obtain⟨F,G⟩:=db (i-a.length) a9;have I:(a++b)[i]=b[i-a.length]:=Wu a9;rw[I];exact⟨_,_,by rw[V0 a9,K,show i*2-fa.length*2=(i-a.length)*2 by omega];exact e1,by rw[V0 a9,K,show i*2+1-fa.length*2=(i-a.length)*2+1 by omega];exact e2,y F,y G⟩
end
noncomputable def Zx (f:Q3) (a b:List Fg) (s:Iv):Fg:=⟨[s],ks f (qc a s.lo) (qc b s.lo)⟩
def Qr(f:Q3)(a b:List Fg){j:Nat}(h:j<(zu (a++b)).length):((zu (a++b)).take (j+1)).map (λs=>fc (Zx f a b s))=((zu (a++b)).take j).map (λs=>fc (Zx f a b s))++[fc (Zx f a b (zu (a++b))[j])]:=by rw[X3 h,WI];rfl
def YC(f:Q3)(a b:List Fg){j:Nat}(h:(zu (a++b)).length<=j):((zu (a++b)).take j).map (λs=>fc (Zx f a b s))=(yy f a b).map fc:=by rw[wj h];unfold yy;rw[Ub];rfl
def KQ:Nat->Code->Code
 |0,c=>c
 |n+1,.seq _ c=>KQ n c
 |_,c=>c
def zjO{B:Qk}{R:List Nat}{n:Nat}(f:Q3)(L:f false false=false)(op:FuncId)(a b:List Fg)(E:Kn B R n a)(hb:Kn B R n b)(ok:OkX B R)(O:n<=40000)
 (H:∀x,Cn xt op [vp (qc a x),vp (qc b x)] (vp (ks f (qc a x) (qc b x)))) :
 pW xt Tryz.f70.ntmps True ((qx xt Tryz.f70.ntmps [] (KQ 7 (xN Tryz.f70))).getD .sk) (jG [.t 6,.c 7 false 1] (.tup [kp (vh f a b),.v .nilIface])) ⟨[(0,kp a),(1,kp b),(2,.fn (.func op) [] []),(7,.bx 0 0),(8,kp (a++b)),(9,.sl [] .z)],[[.v .nilIface]]⟩:=by
 have F:=E.app hb;have y:=F.ok12 ok a9;have u:=E.ok12 ok a9;have w:=hb.ok12 ok a9;have M:=xW (a++b);have K:=y.t;have I:=E.parts L hb ok;have G:=zfn (yy f a b) I ok a9
 conv=>arg 4;cbv
 refine pw ?_;refine .c (zdF (a++b) y.r y.z (by have:=y.l;omega) y.t) ?_;refine pLoop.go (λj=>j<=(zu (a++b)).length) (λj=>[(9,.sl (((zu (a++b)).take j).map (λs=>fc (Zx f a b s))) (.r 51 2)),(32,.v (.int .i64 (j:Nat)))]) (λ_=>[[.v .nilIface]]) (λj=>(zu (a++b)).length-j) 0 [9,32] ?_ ?_ ?_
 .exact X4 _
 .exact pd
 .rintro j N;refine pw ?_;refine .i ?_ ?_<;>intro h<;>first|refine pw ?_|exact pd
  .have J:=Qr f a b h;refine .c (zgU a (zu (a++b))[j].lo u.ik u.ok u.r u.s u.z) ?_;refine .c (zgU b (zu (a++b))[j].lo w.ik w.ok w.r w.s w.z) ?_;have A:=H (zu (a++b))[j].lo
   (first|refine .c (A) ?_|refine .o (A) ?_)
   refine cutP.full rfl ?_ rfl ?_ ?_
   .exact pd
   .exact pd
   .refine pw ?_;exact⟨j+1,h,a9,J.symm,rfl⟩
  .have C:Cn xt 109 [.sl (((zu (a++b)).take j).map (λs=>fc (Zx f a b s))) .sh] (kp (vh f a b)):=(by rw[YC f a b a9];exact G)
   (first|exact .d (C)|exact .q (C))
section
attribute [-go_sem] z7 zae zaf Vr
def zeG(x y:Nat)(h:x+y<=80000)(w:World):(binOp .add 3 (.int .i64 (x:Nat)) (.int .i64 (y:Nat))).run xt w=.ok (.int .i64 ((x+y:Nat):Int)) w:=by go_simp;rw[Tv];omega
def Vk{B:Qk}{R:List Nat}{n:Nat}(f:Q3)(hf:f false false=false)(op:FuncId)(a b:List Fg)(ha:Kn B R n a)(hb:Kn B R n b)(ok:OkX B R)(hn:n<=40000)
 (aL:∀x,Cn xt op [vp (qc a x),vp (qc b x)] (vp (ks f (qc a x) (qc b x)))):Cn xt 70 [kp a,kp b,.fn (.func op) [] []] (.tup [kp (vh f a b),.v .nilIface]):=by
 refine yZ rfl (enters_of func70 dM rfl) λD w O hG hD aN hd=>?_;have d0:Dat D w (O.getD 0 undef) (kp a):=hd 0 _ rfl;have d1:Dat D w (O.getD 1 undef) (kp b):=hd 1 _ rfl;have d2:Dat D w (O.getD 2 undef) (.fn (.func op) [] []):=hd 2 _ rfl;obtain⟨v0,M⟩:=xm (O.getD 0 undef);obtain⟨v1,N⟩:=xm (O.getD 1 undef);rw[<-M]at d0;rw[<-N]at d1;have e2:O.getD 2 undef=.func (.func op) #[] #[]:=by
  generalize O.getD 2 undef=x at d2;cases d2 with
  |fn f va vb fs cs h1 h2 h3 h4=>obtain rfl:va=#[]:=UB (dL h1);obtain rfl:vb=#[]:=UB (dL h2);rfl
 obtain rfl:O=#[v0,v1,.func (.func op) #[] #[]]:=by
  obtain⟨l⟩:=O;match l,aN with
  |[p,q,s],_=>simp at M N e2;rw[M,N,e2]
 clear d2 e2 M N aN hd;obtain⟨aa,ca,fa,rfl,aj,A,da⟩:=kX d0 hD;obtain⟨ab,cb,fb,rfl,ak,E,db⟩:=kX d1 hD;have br:=ha.l;have bt:=hb.l;have bi:=A.1;have bj:=E.1;have aA:=A.2.1;have aB:=E.2.1;unfold maxLen at aA aB;rw[aj]at bi;rw[ak]at bj;have aR:=qL (λW (hW:Below w.heap.size w W)=>KH ha.r (ha.z a9) d0 hD hG hW);have aS:=qL (λW (hW:Below w.heap.size w W)=>KH hb.r (hb.z a9) d1 hD hG hW);have aX:=qL (λW (hW:Below w.heap.size w W)=>Zn (W:=W) A λb o x h hx=>(tk (a:=⟨b,o,none⟩) (hW.block b h)).trans hx);have aY:=qL (λW (hW:Below w.heap.size w W)=>Zn (W:=W) E λb o x h hx=>(tk (a:=⟨b,o,none⟩) (hW.block b h)).trans hx);have aT:=qL d0;have aU:=qL d1;have aV:=qL da;have aW:=qL db;have aZ:=qL hG;have G:=qL hD;have HA:=qL ha;have HB:=qL hb;have ba:=qL aj;have bc:=qL ak;have bg:=qL aL;obtain⟨i0,aH,aO,aP,aQ⟩:=tN Z9;have I:=jf fa;have J:=jf fb;rw[aj]at I;rw[ak]at J;clear d0 d1 da db A E hG hD ha hb;have bq:=zeG a.length b.length a9;have HI:=qL (And.intro aH (And.intro aO (And.intro aP aQ)));have ar:=qL (And.intro I J);clear aH aO aP aQ I J aL;have S:True:=trivial;have T:True:=trivial;have U:True:=trivial;have V:True:=trivial;have X:True:=trivial
 go_enter_defers func70,ntmps70
 go_upto_region 6 with(first
  | (go_at_call 32;have _t:=S;refine(aR.o _ ((tq _ _).alloc (Zp _) _)).mono ?_;rintro e w1 ⟨rfl,ae⟩
     have an:Boxed w1 w.heap.size 44 .nilIface:=(ae.block _ b7).trans (tl w _);have au:=qL an;have Y:=qL (((tq _ w).alloc (Zp _) _).trans (ae.mono b7));have bu:=an.lt;clear ae an S)
  |(go_at_call 67;refine(zdp _ _).mono ?_;rintro e w' ⟨⟨u,rfl⟩,rfl⟩)
  | (go_at_call 32;have _t:=T;refine(aS.o _ Y.o).mono ?_;rintro e w2 ⟨rfl,af⟩
     have ao:Boxed w2 w.heap.size 44 .nilIface:=(af.block _ au.o.lt).trans au.o;have bh:=qL ao;have aq:=qL (Y.o.trans (af.mono Y.o.size));have bw:=ao.lt;clear af ao T)
  | (at_make;have _t:=U;refine wpList_make_own _ rfl _ _ 41 rfl (w.heap.size+1) 50 i0 _ 2 underlying41 HI.o.1 HI.o.2.1 HI.o.2.2.1 .i64 .i64 _ (a.length+b.length) rfl rfl b7 (by rw[HI.o.2.2.2];omega) dF a9 ?_
     intro w3 aI ag;have L:=qL aI;have K:=qL (aq.o.grown ag aq.o.size λj hj=>by cases hj);have av:=qL (bh.o.kept ag b7);clear aI ag U;dsimp only[Act.put])
  | (at_builtin;have _t:=V;refine Jb _ _ 41 rfl rfl underlying41 (w.heap.size+1) _ 0 [] rfl L.o _ a.length ca (qB fa) rfl ar.o.1 (by rcases aX.o _ K.o with h|h;exact .inl ⟨by have:=h.1;omega,h.2⟩;exact .inr h) (jg fa) a9 (by have:=L.o.lt;have:=K.o.size;have:=av.o.lt;omega) ?_
     intro v4 w4 aJ ah bn;have ad:=qL aJ;have Z:=qL (K.o.grown ah K.o.size λj hj=>by have:=(L.o.lt j hj).1;omega);have aw:=qL (av.o.kept ah λe=>by have:=(L.o.lt _ e.symm).1;omega);clear aJ ah bn V;dsimp only[Act.put])
  | (at_builtin;have _t:=X;refine Jb _ _ 41 rfl rfl underlying41 (w.heap.size+1) _ (0+a.length) ([]++qB fa) rfl ad.o _ b.length cb (qB fb) rfl ar.o.2 (by rcases aY.o _ Z.o with h|h;exact .inl ⟨by have:=h.1;omega,h.2⟩;exact .inr h) (jg fb) a9 (by have:=aw.o.lt;omega) ?_
     intro v5 w5 aK ai bp;have be:=qL aK;have ac:=qL (Z.o.grown ai Z.o.size λj hj=>by have:=(ad.o.lt j hj).1;omega);have ax:=qL (aw.o.kept ai λe=>by have:=(ad.o.lt _ e.symm).1;omega);clear aK ai bp X;dsimp only[Act.put])
  |go_in)
 have bl:=OutG.two (C:=D) (mb:=w.heap.size) (base:=w.heap.size+1) (a:=a) (b:=b) ba.o bc.o be.o G.o ac.o a9 aV.o aW.o;have aC:=bl.dat a9;have bz:=ax.o.lt;have y:∀b o x,D b o->w.cell? ⟨b,o,none⟩=some x->w5.cell? ⟨b,o,none⟩=some x:=λb o x h hx=>(tk (a:=⟨b,o,none⟩) (ac.o.block b (G.o b o h))).trans hx;have H:=ac.o;have am:=‹∀(a:Act)(w:World),Code.wp _ _ _ a w->_›
 apply wp_region_lit;unfold wpList;rw[vj (by simp[Region.wanted])];refine .inl ?_;unfold Oper.wp execOp;simp only[tG];refine am _ _ ?_;refine T1 (zih (nt:=Tryz.f70.ntmps) (D:=DL D w.heap.size w5) dM aZ.o _ ⟨H.os,H.tape,H.output,H.size,λk hk _=>H.block k hk,λb o h=>.inl h,y,λb o h=>h.imp id λh=>.inl (uB h.1),G.o⟩ (λb o h=>h.elim (λh=>by have:=G.o b o h;omega) W9) (Zp _) ax.o (.v _) rfl (λo h=>h.elim (λh=>by have:=G.o _ o h;omega) λh=>a9) rfl [(0,kp a),(1,kp b),(2,.fn (.func op) [] []),(7,.bx 0 0),(8,kp (a++b)),(9,.sl [] .z)] (λt=>?_) (λt=>?_) rfl (Q:=jG [.t 6,.c 7 false 1] (.tup [kp (vh f a b),.v .nilIface])) ?_) ?_
 .rcases t with _|_|_|_|_|_|_|_|_|_|t
  .exact .inr (aT.o.mono (λ_ _ h=>.inl h) y)
  .exact .inr (aU.o.mono (λ_ _ h=>.inl h) y)
  .exact .inr (.fn _ #[] #[] [] [] rfl rfl (λ_ _ h=>by simp at h) (λ_ _ h=>by simp at h))
  .exact .inr (.und _)
  .exact .inr (.und _)
  .exact .inr (.und _)
  .exact .inr (.und _)
  .exact .inl ⟨rfl,rfl⟩
  .exact .inr aC
  .exact .inr (.sl none 0 0 [] .z 0 0 (λ_=>undef) (Zp _) (λ_=>rfl) (X4 _) b7 (λi e h=>by simp at h) (λj h=>by simp at h) (λi e j p h=>by simp at h))
  .exact .inr (.und _)
 .rcases t with _|_|_|_|_|_|_|_|_|_|t<;>rfl
 .exact zjO f hf op a b HA.o HB.o ok hn bg.o
 .intro e a1 w1 hQ;obtain⟨he,aE,v,D',aM,F,ay,aD⟩:=zfM (P:=xt) (fn:=Tryz.f70) dM hQ;have az:Below w.heap.size w w1:=⟨F.os,F.tape,F.output,F.size,λk hk=>F.block k hk λh=>h⟩;have aG:Dat (λb o=>D b o\/(w.heap.size<=b/\b<w1.heap.size)) w1 v (.tup [kp (vh f a b),.v .nilIface]):=aD.mono (λb o h=>by
   rcases F.new b o h with h1|h1|h1
   .exact .inl h1
   .exact .inr ⟨h1,ay b o h⟩
   .exact h1.elim) (λ_ _ _ _ h=>h)
  obtain⟨tm,df⟩:=a1;simp only[Act.put]at aE;subst aE;have aF:Leaves xt Tryz.f70 tm (λe w'=>∃v,e=.returned v/\Below w.heap.size w w'/\Dat (λb o=>D b o\/(w.heap.size<=b/\b<w'.heap.size)) w' v (.tup [kp (vh f a b),.v .nilIface])) [{ target:=.fn (.func 66) #[],args:=#[.pointer (some ⟨w.heap.size,0,none⟩)] }] .returning w1:=(by refine leaves_cons (f := 66) (args:=#[.pointer (some ⟨w.heap.size,0,none⟩)]) b7 (by simp[go_sem]) ?_;refine(JI ⟨w.heap.size,0,none⟩ _).mono ?_;rintro e u' bA ⟨rfl,rfl,rfl⟩;exact⟨v,aM,v,rfl,az,aG⟩);rcases he with rfl|rfl<;>exact aF
end
def zl3(a b:List En)(j:SmV a)(hb:SmV b):Cn xt 71 [vp a,vp b] (vp (ks zn a b)):=by refine zt func71 2 ?_;refine pw ?_;exact .d (zdc a b j hb)
def knowUnion_c{C:Qk}{R:List Nat}{n:Nat}(a b:List Fg)(j:Kn C R n a)(hb:Kn C R n b)(ok:OkX C R)(o:n<=40000):Cn xt 30 [kp a,kp b] (.tup [kp (vh zn a b),.v .nilIface]):=by refine zt func30 2 ?_;refine pw ?_;exact .d (Vk zn rfl 71 a b j hb ok o (λx=>zl3 _ _ (j.at ok x) (hb.at ok x)))
def zir{op:Nat}(h:op<3):Qj op false false=false:=by
 obtain rfl|rfl|rfl:op=0\/op=1\/op=2:=a9
 all_goals rfl
def YG{C:Qk}{R:List Nat}{n:Nat}(a b:List Fg)(op:Nat)(ho:op<3)(y:Kn C R n a)(hb:Kn C R n b)(ok:OkX C R)(M:n<=20000):Cn xt 61 [kp a,kp b,.v (.int .i64 op)] (kp (vh (Qj op) a b)):=by
 have B:=y.app hb;have o:=B.ok12 ok a9;have u:=y.ok12 ok a9;have w:=hb.ok12 ok a9;have K:=xW (a++b);have H:=o.t;have I:=y.l;have J:=hb.l;have F:=y.parts (zir ho) hb ok;have E:=Kc (yy (Qj op) a b) F ok a9;refine zt func61 3 ?_;refine pw ?_;rw[<-WI];refine .c (VT (a++b) o.r o.z o.l o.t (Ya (a++b) o.r o.z o.l o.t o.i)) ?_;refine pLoop.go (λj=>j<=(zu (a++b)).length) (λj=>[(9,.sl (((zu (a++b)).take j).map (λs=>fc (Zx (Qj op) a b s))) (.r 51 2)),(10,.v (.int .i64 (j:Nat)))]) (λ_=>[]) (λj=>(zu (a++b)).length-j) 0 [6,7,9,10,12,13,14,15,16,17,18,19] ?_ ?_ ?_
 .exact X4 _
 .exact pd
 .rintro j L;refine pw ?_;refine .i ?_ ?_<;>intro h<;>first|refine pw ?_|exact pd
  .have G:=Qr (Qj op) a b h;refine .c (VR a (zu (a++b))[j].lo u.ik u.ok u.r u.s u.z) ?_;refine .c (VR b (zu (a++b))[j].lo w.ik w.ok w.r w.s w.z) ?_;refine .c (zcC (qc a (zu (a++b))[j].lo) (qc b (zu (a++b))[j].lo) op ho (y.at ok _) (hb.at ok _)) ?_;exact⟨j+1,h,a9,G.symm,rfl⟩
  .have A:Cn xt 103 [.sl (((zu (a++b)).take j).map (λs=>fc (Zx (Qj op) a b s))) .sh] (kp (vh (Qj op) a b)):=(by rw[YC (Qj op) a b a9];exact E)
   (first|exact .d (A)|exact .q (A))
def zds{C:Qk}{R:List Nat}{n:Nat}(k:List Fg)(h:Kn C R n k)(ok:OkX C R)(j:n<=40000):Cn xt 69 [kp k] (kp (zbx k)):=by show Cn xt 69 [kp k] (kp (zL (jq k)));refine zt func69 1 ?_;refine pw ?_;refine .c (ziJ k (h.ok12 ok a9)) ?_;exact .d (zfn (jq k) (h.refine ok) ok a9)
structure Cr15(a b:List Fg):Prop where
 ra:RightK a
 rb:RightK b
 ka:Kn (CKL [a,b]) (RKL [a,b]) 240 a
 kb:Kn (CKL [a,b]) (RKL [a,b]) 240 b
 ok:OkX (CKL [a,b]) (RKL [a,b])
def zpu(f:FuncId):PV:=.fn (.func f) [] []
attribute [go_sem] zpu
def zqI:Cn xt 86 [] (.agg [zpu 123,zpu 124,zpu 126,zpu 128]):=by refine zt func86 0 ?_;exact pd
def zqE(k:List Fg)(j:Nat)(b:List Iv)(h:j<k.length)(A:k.length<=1152921504606846976)(o:k[j].items≠[])(u:k[j].vec≠[]):Cn xt 123 [kp k,.v (.int .i64 (j:Nat)),rg b] (.v (.bool false)):=by
 have w:decide (k[j].items=[])=false:=Wn o;have y:decide (k[j].vec=[])=false:=Wn u;refine zt func123 3 ?_;try simp (maxSteps:=2000000) (disch:=omega) only[go_sem,seval,w,y]
 repeat ((with_reducible refine And.intro ?_ ?_);focus exact yI)
def zqF(k:List Fg)(j:Nat)(b:List Iv)(h:j<k.length)(y:k.length<=1152921504606846976)(w:CanV k[j].vec)(hs:SmV k[j].vec):Cn xt 124 [kp k,.v (.int .i64 (j:Nat)),rg b] (.v (.bool false)):=by
 have hb:∀e∈k[j].vec,ZL e:=λe u=>Jg (w.1 e u).1;have o:=zpc k[j].vec hb (by have:=hs.2.1;omega) (λe u=>by have:=hs.2.2 e u;omega);rw[(zp2 hb).2 w]at o;refine zt func124 3 ?_;refine pw ?_
 (first|exact .d (o)|exact .q (o))
def zqG(k:List Fg)(j:Nat)(b:List Iv)(h:j<k.length)(y:k.length<=1152921504606846976)(w:Nrm k[j].items)(hb:Nrm b)(u:qy fMeet k[j].items b=[]):Cn xt 126 [kp k,.v (.int .i64 (j:Nat)),rg b] (.v (.bool false)):=by
 have o:=zpG k[j].items b w hb;rw[ux u]at o;refine zt func126 3 ?_;refine pw ?_
 (first|exact .d (o)|exact .q (o))
def zqH(k:List Fg)(j:Nat)(b:List Iv)(h:j<k.length)(A:k.length<=1152921504606846976)(hb:∀f∈k,(∀e∈f.vec,ZL e)/\(zv f.vec).length<=1073741824)(y:∀o:0<j,zZ (zv k[j-1].vec) (zv k[j].vec)<0):Cn xt 128 [kp k,.v (.int .i64 (j:Nat)),rg b] (.v (.bool false)):=by
 refine zt func128 3 ?_;refine pw ?_;refine .i ?_ ?_<;>intro o<;>first|refine pw ?_|exact pd
 .have u:=hb k[j-1] (Yf _);have w:=hb k[j] (Yf _);have B:=y o;refine .c (Ks k[j-1].vec k[j].vec u.1 w.1 u.2 w.2) ?_;exact Wn a9
def zpF{C:Qk}{R:List Nat}{n:Nat}(k:List Fg)(hk:Kn C R n k)(B:CanK k)(ok:OkX C R)(T:n<=400000):Cn xt 42 [kp k] (.v .nilIface):=by
 have hz:=hk.z T;have y:=BdK.of hk.r hz;have w:=Vh k y hz;rw[yk ((ZN y).2 hk.r)]at w;have E:=hz.1;have J:=hk.r;have H:∀f∈k,(zv f.vec).length<=1073741824:=λf u=>WV.nlen ⟨(B.gi.ok f u).1,(hk.ik f u).ed,(hk.ik f u).rep⟩ ok.1 (by have:=ok.2;omega);have F:∀f∈k,(∀e∈f.vec,ZL e)/\(zv f.vec).length<=1073741824:=λf u=>⟨λe P=>Jg ((J f u).2.1 e P),H f u⟩;have A:=zqI;refine zgM func42 [12] 1 dM rfl (by simp[go_sem,seval]) ?_
 conv=>arg 4;cbv
 conv=>enter [5,1];cbv
 refine pw ?_
 (first|refine .c (w) ?_|refine .o (w) ?_)
 refine pLoop.go (λj=>j<=k.length) (λj=>[(4,rg (zoe k j)),(16,.v (.int .i64 (j:Nat)))]) (λ_=>[]) (λj=>k.length-j) 0 [4,16] ?_ ?_ ?_
 .exact X4 _
 .refine pw ?_;rfl
 .rintro j Q;obtain⟨b1,b2,X⟩:=zon J j Q;refine pw ?_;refine .i ?_ ?_<;>intro h<;>first|refine pw ?_|exact pd
  .have u:=B.gi.ok k[j] (Yf h);have K:=zqE k j (zoe k j) h E u.2.2.2 u.2.1;have L:=zqF k j (zoe k j) h E u.1 (hk.s _ (Yf h));have M:=zqG k j (zoe k j) h E u.2.2.1 b1 (zpE B h);have N:=zqH k j (zoe k j) h E F (λO=>zqy B O h)
   (first|refine .c (A) ?_|refine .o (A) ?_)
   refine pLoop.go (λi=>i<=4) (λi=>[(22,.v (.int .i64 (i:Nat)))]) (λ_=>[[rg k[j].items,vp k[j].vec]]) (λi=>4-i) 0 [22] ?_ ?_ ?_
   .exact X4 _
   .exact pd
   .rintro i hi;refine pw ?_;refine .i ?_ ?_<;>intro Y<;>first|refine pw ?_|exact pd
    .have G:i=0\/i=1\/i=2\/i=3:=a9;rcases G with rfl|rfl|rfl|rfl
     .refine pw ?_
      (first|refine .c (K) ?_|refine .o (K) ?_)
      exact⟨1,a9,a9,rfl⟩
     .refine pw ?_
      (first|refine .c (L) ?_|refine .o (L) ?_)
      exact⟨2,a9,a9,rfl⟩
     .refine pw ?_
      (first|refine .c (M) ?_|refine .o (M) ?_)
      exact⟨3,a9,a9,rfl⟩
     .refine pw ?_
      (first|refine .c (N) ?_|refine .o (N) ?_)
      exact⟨4,a9,a9,rfl⟩
    .have I:=zoZ h;have U:=zp9 k j;have V:=yv (Yf h);have S:=hk.m;refine .c (zaz (zoe k j) k[j].items b1 u.2.2.1 a9) ?_;exact⟨j+1,h,a9,by rw[I],rfl⟩
section
attribute [-go_sem] z7 zae zaf Vr
def zog{D:xT}{w:World}:Dat D w (.slice none 0 0) (.sl [] .sh):=
 .sl none 0 0 [] .sh 0 0 (λ_=>undef) (Zp _) (λ_=>rfl) (X4 _) b7 (λi e h=>by simp at h) (λj h=>by simp at h) (λi e j p h=>by simp at h)
def znT{D:xT}{w:World}{u v:Value}{p q:PV}(o:Dat D w u p)(y:Dat D w v q)(A:u.oneCell'=true)(B:v.oneCell'=true):Dat D w (.agg #[u,v]) (.agg [p,q]):=
 .agg _ _ rfl (λi hi=>match i,hi with|0,_=>A|1,_=>B|i+2,hi=>by simp at hi;omega) λi r j=>match i,j with
  |0,j=>by cases j;exact o
  |1,j=>by cases j;exact y
  |i+2,j=>by simp at j
def zou(s:ByteArray)(x:Nat×Int):PV:=.ifc 141 (.agg [.v (.string s),jS x.1 x.2])
def zmb{x:Nat×Int}(h:x.1≠0):jS x.1 x.2=.ifc 123 (.agg [.v (.int .i64 x.1),.v (.int .i64 x.2)]):=vD h
def zn4(c:Nat):ByteArray:=⟨#[101,114,114,111,114,32,UInt8.ofNat (48+c)]⟩
def zoU(c:Nat)(u:c<=9)(w:World):Calls xt 26 #[.int .i64 c] w λe o=>e=.returned (.string (zn4 c))/\o=w:=by
 have j:c=0\/c=1\/c=2\/c=3\/c=4\/c=5\/c=6\/c=7\/c=8\/c=9:=a9
 rcases j with rfl|rfl|rfl|rfl|rfl|rfl|rfl|rfl|rfl|rfl;all_goals
  go_enter func26,ntmps26
  go_wp2;apply wp_loop_once
  go_wp2;refine tx (tI rfl _ _ _) rfl ?_;exact⟨dM,rfl⟩
def zoT(c:Nat)(u:c<=9):Cn xt 26 [.v (.int .i64 c)] (.v (.string (zn4 c))):=by
 refine Js rfl (enters_of func26 dM rfl) λD w o A j y=>?_;have d0:=(Rel.dat (ρ:=λ_=>0) (nb:=0) (y 0 _ rfl)).v_inv;obtain rfl:o=#[.int .i64 c]:=by
  obtain⟨l⟩:=o;match l,j with
  |[p],_=>simp at d0;rw[d0]
 refine(zoU c u w).mono ?_;rintro e B ⟨rfl,rfl⟩;exact⟨_,rfl,tq _ _,.v _⟩
def zol{t:TypeId}{m:String}{f:FuncId}(h:∀(v:Value)(w:World),(method (xt.types.size+Made.depth) t v m).run xt w=.ok (f,v) w):Mth xt t m f:=λv j w=>by unfold callMethod;simp only[tC,run_program,tw,h]
def zn8:Mth xt 141 "Error" 250 := zol λv w=>dM
def zn7:Mth xt 123 "Error" 248 := zol λv w=>dM
end
def zoi(c:Nat)(k:Int)(j:c<=9):Cn xt 248 [.agg [.v (.int .i64 c),.v (.int .i64 k)]] (.v (.string (zn4 c))):=by refine zt func248 1 ?_;refine pw ?_;exact .d (zoT c j)
def zoq:ByteArray:=⟨#[58,32]⟩
def zor:(⟨#[58,32]⟩:ByteArray).size=2:=rfl
def zoJ(c:Nat):(zn4 c).size=7:=rfl
def zom(s:ByteArray)(x:Nat×Int)(hs:s.size<=1000)(j:x.1≠0)(o:x.1<=9):Cn xt 250 [.agg [.v (.string s),jS x.1 x.2]] (.v (.string (s++zoq++zn4 x.1))):=by
 rw[zmb j];have w:(Array.mk [(58:UInt8),32]).size=2:=rfl;have u:=zor;have z2:=zoJ x.1;have y:(s++⟨#[58,32]⟩:ByteArray).size=s.size+2:=by rw[ByteArray.size_append,u]
 refine zt func250 1 ?_;refine pw ?_;refine .mk zn7 ?_;refine .c (zoi x.1 x.2 o) ?_;rfl
def zqf(s:ByteArray)(c k:Int)(w:World)(o:HG w):Calls xt 57 #[.iface 141 (.agg #[.string s,.iface 123 (.agg #[.int .i64 c,.int .i64 k])]),.iface 121 (.pointer (some ⟨w.heap.size,0,none⟩))] (w.alloc (.cells #[.int .i64 0] 83))
 λev j=>ev=.returned (.bool true)/\Below w.heap.size w j/\j.cell? ⟨w.heap.size,0,none⟩=some (.int .i64 c):=by
 refine(As.as_DN s c k ⟨w.heap.size,0,none⟩ (.int .i64 0) _ (o.alloc _) b7 b7).mono ?_;rintro ev j ⟨rfl,rfl⟩;refine⟨rfl,?_,?_⟩
 .refine tW (((((((((tq _ w).alloc ?_ _).alloc ?_ _).alloc ?_ _).alloc ?_ _).alloc ?_ _).alloc ?_ _).alloc ?_ _)) ?_ _<;>simp<;>omega
 .refine tT _ _ _ (u:=.int .i64 0) ?_;rw[tp _ _ ⟨w.heap.size,0,none⟩ b6,tp _ _ ⟨w.heap.size,0,none⟩ b6,tp _ _ ⟨w.heap.size,0,none⟩ b6,tp _ _ ⟨w.heap.size,0,none⟩ b6,tp _ _ ⟨w.heap.size,0,none⟩ b6,tp _ _ ⟨w.heap.size,0,none⟩ b7];simp
def zqS(s:ByteArray)(c k:Int)(w:World)(j:HG w):Calls xt 24 #[.iface 141 (.agg #[.string s,.iface 123 (.agg #[.int .i64 c,.int .i64 k])])] w λe o=>e=.returned (.int .i64 c)/\Below w.heap.size w o:=by
 go_enter func24,ntmps24
 go_wp2_with (go_at_call 57;refine(zqf s c k w j).mono ?_;rintro e y ⟨rfl,hb,u⟩)
 go_ret;exact⟨rfl,hb⟩
def zqg(s:ByteArray)(c k:Int)(T:Nat)(W:World)(H:HG W)(y:W.cell? ⟨T,0,none⟩=some (.int .i64 0))(B:W.cell? ⟨T,1,none⟩=some (.int .i64 0))(F:W.frozen? ⟨T,0,none⟩=false)(G:W.frozen? ⟨T,1,none⟩=false):
 Calls xt 57 #[.iface 141 (.agg #[.string s,.iface 123 (.agg #[.int .i64 c,.int .i64 k])]),.iface 178 (.pointer (some ⟨T,0,none⟩))] W
 λev u=>ev=.returned (.bool true)/\Keep (λb=>b=T) W u/\u.cell? ⟨T,0,none⟩=some (.int .i64 c)/\u.cell? ⟨T,1,none⟩=some (.int .i64 k):=by
 have I:T<W.heap.size:=tn W ⟨T,0,none⟩ y;refine(As.as_DF s c k T W H (by rw[y];rfl) (by rw[B];rfl) F G).mono ?_;rintro ev u ⟨rfl,rfl⟩;obtain⟨j,o,w⟩:∃j,j=((((W.alloc (.cells #[.pointer (some ⟨T,0,none⟩)] 178)).alloc (.cells #[.pointer (some ⟨2,178,none⟩),.pointer (some ⟨W.heap.size,0,none⟩),.int .u64 150] 171)).alloc (.cells #[.pointer (some ⟨2,178,none⟩),.pointer (some ⟨W.heap.size,0,none⟩),.int .u64 150] 171)).alloc (.cells #[.string s,.iface 123 (.agg #[.int .i64 c,.int .i64 k])] 141)).alloc (.cells #[.int .i64 c,.int .i64 k] 123)/\Keep (λb=>b=T) W j:=
  ⟨_,rfl,(((((Keep.refl _ W).alloc _).alloc _).alloc _).alloc _).alloc _⟩
 have A:Keep (λ_=>False) W j:=by rw[o];exact(((((Keep.refl _ W).alloc _).alloc _).alloc _).alloc _).alloc _
 rw[<-o];have C:=A.cell_some y id;have E:=A.cell_some B id;unfold World.setCells World.setCells World.setCells;have b1:(j.setCell ⟨T,0,none⟩ (.int .i64 c)).cell? ⟨T,0,none⟩=some (.int .i64 c):=tT _ _ _ C;have b2:(j.setCell ⟨T,0,none⟩ (.int .i64 c)).cell? ⟨T,1,none⟩=some (.int .i64 0):=by rw[Tw _ _ _ _ b7];exact E
 refine⟨rfl,(w.setCell (λ_=>rfl) _).setCell (λ_=>rfl) _,?_,tT _ _ _ b2⟩;show ((j.setCell ⟨T,0,none⟩ _).setCell ⟨T,0+1,none⟩ _).cell? _=_;rw[Tw _ _ _ _ b7];exact b1
section
attribute [-go_sem] z7 zae zaf Vr
end
section
attribute [go_sem] zou
def znP(i r c:Nat):List Fg:=[⟨[⟨i,i⟩],zl9 r c⟩]
def zmg:zsC []:=⟨λe h=>(by cases h),List.Pairwise.nil⟩
def zic:RightK []:=λf h=>by cases h
def zoC{r c:Nat}(u:r<zk)(j:c<zk):ks zn [] (zl9 r c)=zl9 r c:=
 zoY rfl zmg (zkS u j).right (zkS u j) λx=>by have o:=qi (zkS u j).right x;have w:Nrm []:=trivial;refine Nrm.unique o (qH w o) λy A=>?_;rw[knV_nil,qj w o A];simp[zn,mem]
def zoH:SmV []:=⟨zmg,b7,λe h=>by cases h⟩
def znJ{C:Qk}{R:List Nat}{n:Nat}(k:List Fg)(i r c:Nat)(w:r<zk)(u:c<zk)(hk:Kn C R n k)(y:Kn C R n (znP i r c))(ok:OkX C R)(A:n<=40000):Cn xt 52 [kp k,.v (.int .u64 i),.v (.int .u64 r),.v (.int .u64 c)] (.tup [kp (vh zn k (znP i r c)),.v .nilIface]):=by
 have j:=zoX [] r c zoH w u;rw[zoC w u]at j;refine zt func52 4 ?_;refine pw ?_
 (first|refine .c (j) ?_|refine .o (j) ?_)
 exact .d (knowUnion_c k (znP i r c) hk y ok A)
def zo1{D:xT}{w:World}{v:Value}{s:ByteArray}{c k:Int}{t j:TypeId}(h:Dat D w v (.ifc t (.agg [.v (.string s),.ifc j (.agg [.v (.int .i64 c),.v (.int .i64 k)])]))):v=.iface t (.agg #[.string s,.iface j (.agg #[.int .i64 c,.int .i64 k])]):=by
 cases h with
 | ifc t x p h=>
   generalize u:[PV.v (.string s),PV.ifc j (.agg [.v (.int .i64 c),.v (.int .i64 k)])]=cs at h;cases h with
   | agg us cs hs _ h=>
     subst u;obtain⟨l⟩:=us;match l,hs with
     |[x,y],_=>have o:=(Rel.dat (ρ:=λ_=>0) (nb:=0) (h 0 _ rfl)).v_inv;have e1:=zaX (h 1 _ rfl);simp at o e1;rw[o,e1]
def zn0{C:Qk}{R:List Nat}{n:Nat}(k:List Fg)(hk:Kn C R n k)(j:CanK k)(ok:OkX C R)(o:n<=400000):Cn xt 16 [kp k] (.v (.bool true)):=by
 have h:=zpF k hk j ok o;refine zt func16 1 ?_;refine pw ?_
 (first|exact .d (h)|exact .q (h))
structure Ok14(a b:List Fg):Prop where
 ra:RightK a
 rb:RightK b
 ka:Kn (CKL [a,b]) (RKL [a,b]) 240 a
 kb:Kn (CKL [a,b]) (RKL [a,b]) 240 b
 ok:OkX (CKL [a,b]) (RKL [a,b])
end
section
open Go.ChangeShapes Go.WideShapes Go.ChangeAt Go.Deep
structure Opn where
 who:Int
 from_:Int
 item:Nat
 val:ByteArray
 items:List Iv
instance : Inhabited Opn:=⟨⟨0,0,0,⟨#[]⟩,[]⟩⟩
def opc(o:Opn):List PV:=[.v (.int .i64 o.who),.v (.int .i64 o.from_),.v (.int .u64 o.item),.v (.string o.val),rg o.items]
def opp(l:List Opn):PV:=.sl (l.map opc) .sh
def I63(x:Int):Prop := -9223372036854775808<=x/\x<9223372036854775808
def BdO(o:Opn):Prop:=(I63 o.who/\I63 o.from_)/\o.item<zk/\o.val.size<=maxLen/\(∀s∈o.items,s.lo<zk/\s.hi<zk)/\o.items.length<=9223372036854775807
section
variable {H:Type}{enc:TypeId×Value->H}{w:World}{base:Nat}{spare:Nat->Bool}{held:Bool}
def ztP{t:TypeId}{j:Nat}{o:List Value}{x:DataW H×List MemPlace}(ht:xt.underlying t=some (.int .i64))(h:DataW.trod enc xt w base spare held j t o=some x):∃n:Int,o=[.int .i64 n]/\I63 n:=by obtain⟨n,rfl,_,u⟩:=DataW.trod_int ht h;refine⟨n,rfl,?_⟩;simp[Lit.wf,IntKind.min,IntKind.max,IntKind.signed,IntKind.bits]at u;unfold I63;omega
def zvh{n:Nat}{a:Addr}{I:List Value}{y:DataW H×List MemPlace}(h1:w.cells? base a 5=some I)(h2:DataW.trod enc xt w base spare held n 38 I=some y):a.spot=none/\a.block<w.heap.size/\∃o,rdC opc BdO w a.block a.off o:=by
 obtain⟨_,E,u⟩:=World.cells?_some h1;obtain⟨xs,k,_,_,_,L,C⟩:=DataW.trod_struct underlying38 h2;match xs,L,I,E with
 | [y0,y1,y2,y3,y4],_,[v0,v1,v2,v3,v4],_=>
   have N:=C 0 _ rfl;have O:=C 1 _ rfl;have P:=C 2 _ rfl;have Q:=C 3 _ rfl;have S:=C 4 _ rfl;have X:xt.cellsOf 3 = 1:=dM;have Y:xt.cellsOf 36 = 1:=dM;have Z:xt.cellsOf 9 = 1:=dM;have c4:xt.cellsOf 24 = 1:=dM;simp[X,Y,Z,c4]at N O P Q S;have B:=u 0 a9;have e1:=u 1 a9;have e2:=u 2 a9;have e3:=u 3 a9;have e4:=u 4 a9;obtain⟨T,q0,U⟩:=ztP underlying3 N;obtain⟨m1,q1,b1⟩:=ztP underlying3 O;obtain⟨m2,q2,b2⟩:=kM underlying36 P;obtain⟨m3,q3,_,V⟩:=DataW.trod_string underlying9 Q;obtain⟨M,l,q4,G⟩:=ZA S;obtain rfl:v0=_:=(dL q0);obtain rfl:v1=_:=(dL q1);obtain rfl:v2=_:=(dL q2);obtain rfl:v3=_:=(dL q3);obtain rfl:v4=M:=(dL q4);replace B:w.cell? a=some (.int .i64 T):=(by simpa[Addr.add]using B);obtain⟨b,ab,F⟩:=a;obtain rfl:F=none:=World.cell?_spot B;have hd:Dat (ZG w) w v4 (rg l):=jp G λ_ _ _ h=>h;have J:=G.bound;have K:l.length<=9223372036854775807:=(by have:=G.len;unfold maxLen at this;omega);refine⟨rfl,tn _ _ B,⟨T,m1,m2,m3,l⟩,λj p A=>?_,⟨U,b1⟩,b2,V,J,K⟩;obtain⟨aa,c,rfl,_⟩:=G;match j,A with
   |0,A=>cases A;exact⟨_,B,rfl,.v _⟩
   |1,A=>cases A;exact⟨_,by simpa[Addr.add]using e1,rfl,.v _⟩
   |2,A=>cases A;exact⟨_,by simpa[Addr.add]using e2,rfl,.v _⟩
   |3,A=>cases A;exact⟨_,by simpa[Addr.add]using e3,rfl,.v _⟩
   |4,A=>cases A;exact⟨_,by simpa[Addr.add]using e4,rfl,hd⟩
def zwo{r:Reach}{B:Nat}{v:Value}{d:DataW H}{I:List MemPlace}(j:Value.okWide xt w r B 22 v)(h:DataW.Trod enc xt w base spare held 22 v d I):∃l,Dat (ZG w) w v (opp l)/\(∀o∈l,BdO o)/\l.length<=9223372036854775807:=by obtain⟨a,len,C,rfl⟩:=okWide_slice underlying22 j;obtain⟨u,G⟩:=h;obtain⟨v,l,A,y⟩:=Za (rdC opc BdO) underlying22 dM (λ_ _ _ _ E F=>zvh E F) G;simp[Value.cells]at A;rw[<-A]at y;exact⟨l,VQ (cv:=opc) (bd:=BdO) (λ_=>rfl) y⟩
end
end
section
attribute [-go_sem] z7
def dat_row{D:xT}{w:World}{x:Value}{y:List (List PV)}{sz:Nat}(h:Dat D w x (.sl y .sh))(hs:∀e∈y,e.length=sz):
 ∃J A C,x=.slice J y.length A/\y.length<=A/\A<=maxLen/\C.length=y.length*sz/\(∀u∈C,u.oneCell'=true)/\((y.length=0/\C=[])\/∃b B,J=some ⟨b,B,none⟩/\∀(j:Nat)(u:Value),C[j]?=some u->D b (B+j)/\w.cell? ⟨b,B+j,none⟩=some u) /\
  ∀(i:Nat)(e:List PV)(j:Nat)(p:PV),y[i]?=some e->e[j]?=some p->∃u,C[i*sz+j]?=some u/\Dat D w u p:=by
 generalize ho:Ow.sh=o at h;cases h with
 | sl a A sz' y o b B u hc hz hm ha hsz hD hd=>
   by_cases I:y=[]
   .subst I;exact⟨a,A,[],rfl,hc,hm,b7,λ_ h=>by simp at h,.inl ⟨rfl,rfl⟩,λi e j p h=>by simp at h⟩
   .obtain rfl:sz'=sz:=by
     cases y with
     |nil=>exact absurd rfl I
     |cons e y=>exact(hsz 0 e rfl).symm.trans (hs e b7)
    refine⟨a,A,(List.range (y.length*sz')).map u,rfl,hc,hm,b7,λv E=>?_,.inr ⟨b,B,ha I,λj v E=>?_⟩,λi e j p G L=>?_⟩
    .obtain⟨j,K,rfl⟩:=wy.1 E;exact(hD j (dL K)).2.2
    .rw[wh]at E;obtain⟨k,hk,rfl⟩:=ZZ.1 E;obtain⟨F,rfl⟩:=Zw.1 hk;simp at F;rw[UQ];exact⟨(hD j F).1,(hD j F).2.1⟩
    .have hi:=(Zw.1 G).1;have K:j<sz':=(by rw[<-hsz i e G];exact(Zw.1 L).1);have H:i*sz'+j<y.length*sz':=(by have:=Wr sz' (show i+1<=y.length from hi);rw[WX]at this;omega);refine⟨u (i*sz'+j),?_,hd i e j p G L⟩;rw[wh,uK H];rfl
def run_app_G(w:World)(t N e:TypeId)(E:TypeInfo)(z:Value)(sz A:Nat)(ht:xt.underlying t=some (.slice e))(hi:xt.info? e=some E)(hz:E.zero=some z)(hs:E.size=sz)(hb:E.bytes=A)(hzs:z.cells.size=sz)(M:0<sz)(K:A<=64)
 (base:Nat) (v:Value) (n:Nat) (O:List Value) (y:w.ownsRow base e sz v n O) (H:Option Addr) (m c:Nat) (o:List Value) (Q:o.length=m*sz)
 (C:(m=0/\H=none)\/∃a,H=some a/\∀j u,o[j]?=some u->w.cell? (a.add j)=some u) (U:∀u∈o,u.oneCell'=true) (J:n+m<=1073741824) (B:base<=w.heap.size) :
 ∃F G,(Builtin.append_ #[t,t] N #[v,.slice H m c]).run xt w=.ok F G/\G.ownsRow base e sz F (n+m) (O++o)/\w.grownBy G v.ownBlock/\(F.ownBlock=v.ownBlock\/F.ownBlock=some w.heap.size):=by
 rcases C with⟨rfl,rfl⟩|⟨a,rfl,V⟩
 .obtain rfl:o=[]:=wV.1 (dL Q);obtain⟨I,cp,rfl,L⟩:∃I cp,v=.slice I n cp/\n<=cp:=by
   rcases y.2 with⟨rfl,rfl⟩|⟨g,S,T,rfl,_,_,h,_⟩
   .exact⟨none,0,rfl,Zp _⟩
   .exact⟨_,_,rfl,h⟩
  exact⟨_,w,ve w t N _ E ht hi I n cp c L,dL y,jW _ _,.inl rfl⟩
 .obtain⟨F,G,X,Y,Z,_,r5⟩:=Te (P:=xt) w base t N e E z sz A ht hi hz hs hb hzs M v n O y a m c o Q V U dF (by
   calc (n+m)*A<=1073741824*64:=UM J K
    _<=140737488355328:=b9) B
  exact⟨F,G,X,Y,Z,r5⟩
def zq6{E:Array Oper}{rest:List Oper}{o:Oper}{a:Act}{w:World}{Q:Exit->Act->World->Prop}(s x:Operand)(t e:TypeId)(M:o.guard=none)
 (ho:o.op=.call { callee:=.builtin .append,args:=#[s,x],argTypes:=#[t,t] }) (H:TypeInfo) (z:Value) (sz A:Nat) (ht:xt.underlying t=some (.slice e)) (hi:xt.info? e=some H) (hz:H.zero=some z) (N:H.size=sz) (hb:H.bytes=A) (hzs:z.cells.size=sz) (O:0<sz) (L:A<=64)
 (base:Nat) (v:Value) (n:Nat) (P:List Value) (hs:a.eval s=v) (G:w.ownsRow base e sz v n P)
 (J:Option Addr) (m c:Nat) (y:List Value) (hx:a.eval x=.slice J m c) (X:y.length=m*sz) (C:(m=0/\J=none)\/∃a,J=some a/\∀j u,y[j]?=some u->w.cell? (a.add j)=some u) (S:∀u∈y,u.oneCell'=true) (K:n+m<=1073741824) (B:base<=w.heap.size)
 (h:∀F I,I.ownsRow base e sz F (n+m) (P++y)->w.grownBy I v.ownBlock->(F.ownBlock=v.ownBlock\/F.ownBlock=some w.heap.size)->wpList xt E Q rest (a.put o.dst F) I):wpList xt E Q (o::rest) a w:=by
 have Z:Region.wanted o (yielded E a.tmps)=true:=by simp[Region.wanted,M]
 unfold wpList;rw[vj Z];refine .inl ?_;obtain⟨F,I,Y,T,U,V⟩:=run_app_G w t o.type e H z sz A ht hi hz N hb hzs O L base v n P G J m c y X C S K B;unfold Oper.wp execOp;simp only[ho,resolve,invoke,builtin,tC,tG,tw,uh,Wx,W6,hs,hx,Y];exact h F I T U V
def zrH{w:World}{base A:Nat}{e:TypeId}{sz:Nat}(j:base<=A)(h:w.heap[A]?=some (.cells #[] e (0,0))):w.ownsRow base e sz (.slice (some ⟨A,0,none⟩) 0 0) 0 []:=⟨b7,.inr ⟨A,0,#[],rfl,j,h,Zp _,X4 _,b7,b7⟩⟩
def eqlV_some(j:Addr)(n c:Nat)(w:World):(binOp .eql 48 (.slice (some j) n c) (.slice none 0 0)).run xt w=.ok (.bool false) w:=dM
def eqlV_none(n c:Nat)(w:World):(binOp .eql 48 (.slice none n c) (.slice none 0 0)).run xt w=.ok (.bool true) w:=dM
def zqZ:(xt.info? 155).map (λi=>(i.zero,i.size,i.bytes))=some (some (.agg #[.int .u64 0,.int .u64 0,.slice none 0 0]),3,40):=dM
def znV{D:xT}{w:World}{x:Value}{es:List (List PV)}(d:Dat D w x (.sl es .sh))(hs:∀e∈es,e.length=3)(hl:es.length<=1073741824):
 Calls xt 106 #[x] w λe P=>∃u F,e=.returned u/\Below w.heap.size w P/\P.ownsRow w.heap.size 155 3 u es.length F/\∀(i:Nat)(e:List PV)(j:Nat)(p:PV),es[i]?=some e->e[j]?=some p->∃v,F[i*3+j]?=some v/\Dat D w v p:=by
 obtain⟨I,y,F,rfl,_,_,M,N,J,K⟩:=dat_row d hs;obtain⟨i0,A,B,C,E⟩:=tN zqZ;cases I with
 | none=>
   obtain⟨Q,rfl⟩:es.length=0/\F=[]:=by
    rcases J with h|⟨b,G,e,_⟩
    .exact h
    .cases e
   have hq:=eqlV_none es.length y;have L:=qL K;have T:=qL Q;clear M N J K d hl A B C E Q;go_enter func106,ntmps106
   go_wp2;go_ret;refine⟨_,[],rfl,tq _ _,?_,L.o⟩;rw[T.o];exact tR _ _ _ _
 | some I=>
   have hq:=eqlV_some I es.length y;have o:∀(j:Nat)(u:Value),F[j]?=some u->(w.alloc (.cells #[] 155)).cell? (I.add j)=some u:=λj u O=>by
    rcases J with⟨_,e⟩|⟨b,G,e,h⟩
    .rw[e]at O;simp at O
    .cases e;have S:=(h j u O).2;rw[zh];exact(tk (a:=⟨b,G+j,none⟩) (tr _ _ _ (tn w _ S))).trans S
   have Y:=qL (tl w (.cells #[] 155 (0,0)));have X:=qL o;have U:=qL M;have V:=qL N;have L:=qL K;have H:=qL (And.intro A (And.intro B (And.intro C E)));clear M N J K d o A B C E;go_enter func106,ntmps106
   go_wp2_with (at_builtin;refine zq6 _ _ 48 155 rfl rfl i0 _ 3 40 underlying48 H.o.1 H.o.2.1 H.o.2.2.1 H.o.2.2.2 rfl b9 b9 w.heap.size _ 0 [] rfl (zrH (Zp _) Y.o) _ es.length y F rfl U.o (.inr ⟨_,rfl,X.o⟩) V.o a9 b7 ?_;intro v' P ho Z hv)
   go_ret;rw[wk]at ho;refine⟨v',F,rfl,?_,ho,L.o⟩;exact(((tq _ w).alloc (Zp _) _).grown Z b7 λj hj=>by cases hj;exact Zp _)
def RwE(base:Nat)(w:World)(u:Value)(v:List En)(X:Nat->En->Value->Prop):Prop:=
 ∃j,w.ownsRow base 155 3 u v.length j/\∀i (h:i<v.length),j[i*3]?=some (uV v[i].rep)/\j[i*3+1]?=some (uV v[i].max)/\∃o,j[i*3+2]?=some o/\X i v[i] o
def RwE.imp{base:Nat}{w:World}{u:Value}{v:List En}{X Y:Nat->En->Value->Prop}(h:RwE base w u v X)(hi:∀i e o,i<v.length->X i e o->Y i e o):RwE base w u v Y:=by obtain⟨B,y,A⟩:=h;refine⟨B,y,λi j=>?_⟩;obtain⟨a,b,o,c,d⟩:=A i j;exact⟨a,b,o,c,hi i _ o j d⟩
def RwE.shape{base:Nat}{w:World}{u:Value}{v:List En}{X:Nat->En->Value->Prop}(h:RwE base w u v X):∃A j,u=.slice A v.length j/\v.length<=j/\j<=maxLen/\(v≠[]->∃g o,A=some ⟨g,0,none⟩/\base<=g/\g<w.heap.size/\w.heap[g]?=some (.cells o 155 (0,0))/\0<j):=by
 obtain⟨I,E,_⟩:=h;rcases E.2 with⟨rfl,C⟩|⟨g,j,o,rfl,F,B,H,G,_,_⟩
 .have:v=[]:=wV.1 C;subst this;exact⟨none,0,rfl,Zp _,b9,λh=>absurd rfl h⟩
 .refine⟨_,j,rfl,H,G,λy=>⟨g,o,rfl,F,(XE.1 B).1,B,?_⟩⟩;have:=wU.2 y;omega
def RwE.at{base g n u:Nat}{w:World}{v:List En}{X:Nat->En->Value->Prop}(h:RwE base w (.slice (some ⟨g,0,none⟩) n u) v X)(L:0<u){i:Nat}(hi:i<v.length):
 w.cell? ⟨g,i*3,none⟩=some (uV v[i].rep)/\w.frozen? ⟨g,i*3,none⟩=false/\w.cell? ⟨g,i*3+1,none⟩=some (uV v[i].max)/\w.frozen? ⟨g,i*3+1,none⟩=false/\∃A,w.cell? ⟨g,i*3+2,none⟩=some A/\w.frozen? ⟨g,i*3+2,none⟩=false/\X i v[i] A:=by
 obtain⟨J,E,G⟩:=h;obtain⟨a,b,A,c,d⟩:=G i hi;have B:∀o,w.frozen? ⟨g,o,none⟩=false:=by
  rcases E.2 with⟨e,_⟩|⟨K,C,F,e,_,H,_⟩
  .cases e
  .cases e;intro o;simp[World.frozen?,H]
 have y:∀j x,J[j]?=some x->w.cell? ⟨g,j,none⟩=some x:=λj x I=>by have:=tH E (g:=g) (by cases u with|zero=>omega|succ c=>rfl) j x I;rw[zh,wk]at this;exact this
 exact⟨y _ _ a,B _,y _ _ b,B _,A,y _ _ c,B _,d⟩
def RwE.set{base g u j:Nat}{w:World}{v:List En}{X:Nat->En->Value->Prop}{o:Value}(h:RwE base w (.slice (some ⟨g,0,none⟩) v.length u) v X){Y:Nat->En->Value->Prop}(G:∀i (h:i<v.length) A,i≠j->X i v[i] A->Y i v[i] A)(J:j<v.length)(C:Y j v[j] o):
 RwE base (w.setCell ⟨g,j*3+2,none⟩ o) (.slice (some ⟨g,0,none⟩) v.length u) v Y:=by
 obtain⟨I,E,F⟩:=h;obtain⟨H,_⟩:=E.stored (j*3+2) o;refine⟨I.set (j*3+2) o,H,λi hi=>?_⟩;obtain⟨a,b,A,c,d⟩:=F i hi;refine⟨by rw[wT a9];exact a,by rw[wT a9];exact b,?_⟩;by_cases y:i=j
 .subst y;have B:=(Zw.1 c).1;exact⟨o,by rw[WM B],C⟩
 .exact⟨A,by rw[wT a9];exact c,G i hi A y d⟩
def RwE.keep{base:Nat}{w w':World}{u:Value}{v:List En}{X:Nat->En->Value->Prop}(h:RwE base w u v X)(hb:∀k,k<w.heap.size->w'.heap[k]?=w.heap[k]?):RwE base w' u v X:=by
 obtain⟨xs,y,B⟩:=h;refine⟨xs,⟨y.1,?_⟩,B⟩;rcases y.2 with h|⟨g,j,o,e,C,A,r⟩
 .exact .inl h
 .exact .inr ⟨g,j,o,e,C,(hb g (XE.1 A).1).trans A,r⟩
def RwE.dat{D:xT}{base:Nat}{w:World}{u:Value}{v:List En}{X:Nat->En->Value->Prop}(h:RwE base w u v X)(M:∀i e K,X i e K->Dat D w K (rg e.holes))(T:∀b o,base<=b->b<w.heap.size->D b o):Dat D w u (vp v):=by
 obtain⟨N,E,rfl,Q,L,S⟩:=h.shape;have B:(v.map ec).length=v.length:=wt _;unfold vp;by_cases G:v=[]
 .subst G;exact .sl N E 3 [] .sh 0 0 (λ_=>undef) (X4 _) (λh=>by cases h) L (λh=>absurd rfl h) (λi e h=>by simp at h) (λj h=>by simp at h) (λi e j p h=>by simp at h)
 obtain⟨g,O,rfl,V,J,_,P⟩:=S G;have A:∀i (hi:i<v.length) j p,(ec v[i])[j]?=some p->∃x,w.cell? ⟨g,i*3+j,none⟩=some x/\Dat D w x p/\x.oneCell'=true:=λi hi j p C=>by
  obtain⟨a,_,b,_,K,c,_,d⟩:=h.at P hi;match j,C with
  |0,C=>cases C;exact⟨_,a,.v _,rfl⟩
  |1,C=>cases C;exact⟨_,b,.v _,rfl⟩
  |2,C=>cases C;exact⟨_,c,M _ _ _ d,Ki (M _ _ _ d)⟩
  |j+3,C=>simp[ec]at C
 rw[<-B];refine .sl (some ⟨g,0,none⟩) E 3 (v.map ec) .sh g 0 (λj=>(w.cell? ⟨g,j,none⟩).getD undef) (by rw[B];exact Q) (λh=>by cases h) L (λ_=>rfl) (λi e F=>?_) (λj Y=>?_) (λi e j p F C=>?_)
 .rw[wh]at F;obtain⟨x,_,rfl⟩:=ZZ.1 F;rfl
 .rw[B]at Y;have hi:j/3<v.length:=a9;have I:j%3<(ec v[j/3]).length:=UZ _ b9;obtain⟨x,H,_,ho⟩:=A (j/3) hi (j%3) ((ec v[j/3])[j%3]) (Zv I);rw[show j/3*3+j%3=j by omega]at H;simp only[wk,H,WP];exact⟨T _ _ V J,trivial,ho⟩
 .rw[wh]at F;obtain⟨x,H,rfl⟩:=ZZ.1 F;obtain⟨hi,rfl⟩:=Zw.1 H;obtain⟨y,Z,U,_⟩:=A i hi j p C;simp only[Z,WP];exact U
def zq3{D:xT}{w:World}{x:Value}(v:List En)(d:Dat D w x (vp v))(hD:∀b o,D b o->b<w.heap.size)(hb:∀e∈v,ZL e)(hl:v.length<=1073741824)(hh:∀e∈v,e.holes.length<=1073741824):
 Calls xt 65 #[x] w λe w'=>∃u,e=.returned u/\Below w.heap.size w w'/\RwE w.heap.size w' u v (λ_ e E=>OwnR w.heap.size w' E e.holes):=by
 have S:=znV (es:=v.map ec) d (λe T=>by obtain⟨x,_,rfl⟩:=wy.1 T;rfl) (by rw[wt];exact hl);have X:=qL S;have O:=qL hD;have HB:=qL hb;have HH:=qL hh;clear S d hD hb hh;go_enter func65,ntmps65
 go_upto_region 2 with(go_at_call 106;refine X.o.mono ?_;rintro e w1 ⟨u,xs,rfl,J,L,F⟩)
 have y:RwE w.heap.size w1 u v (λ_ e E=>Dat D w E (rg e.holes)):=by refine⟨xs,by rw[wt]at L;exact L,λi hi=>?_⟩;have T:(v.map ec)[i]?=some (ec v[i]):=(by rw[wh,Zv hi];rfl);obtain⟨x0,a0,d0⟩:=F i _ 0 _ T rfl;obtain⟨x1,a1,d1⟩:=F i _ 1 _ T rfl;obtain⟨x2,a2,d2⟩:=F i _ 2 _ T rfl;have e0:=(Rel.dat (ρ:=λ_=>0) (nb:=0) d0).v_inv;have e1:=(Rel.dat (ρ:=λ_=>0) (nb:=0) d1).v_inv;rw[e0]at a0;rw[e1]at a1;exact⟨a0,a1,x2,a2,d2⟩
 obtain⟨ad,ac,rfl,ah,ae,G⟩:=y.shape;unfold maxLen at ae;have ab:=qL y;have V:=qL J;have P:=qL G;have ai:=J.size;clear y L F J G
 go_wp2_with fail
 go_loopg [9] v.length (λgh x wr=>∃j,j<=v.length/\gh=v.length-j/\x=.int .i64 j/\RwE w.heap.size wr (.slice ad v.length ac) v (λi e E=>(i<j->OwnR w1.heap.size wr E e.holes)/\(j<=i->Dat D w E (rg e.holes)))/\Below w.heap.size w wr/\w1.heap.size<=wr.heap.size)
 case atStart=>exact⟨0,X4 _,rfl,rfl,ab.o.imp λi e E _ h=>⟨λh0=>absurd h0 (Uf _),λ_=>h⟩,V.o,Zp _⟩
 case round=>
  obtain⟨j,hj,rfl,rfl,y,Q,ag⟩:=hrel;have HR:=qL y;have I:=qL Q;by_cases C:j<v.length
  .obtain⟨g,aj,rfl,hg,ak,_,h0⟩:=P.o (by intro e;subst e;simp at C);obtain⟨_,_,_,_,E,ch,fh,_,B⟩:=y.at h0 C;have B:=B (Zp _);have K:=Yf C;obtain⟨av,cv,rfl⟩:=zK B;have U:∀W,Below w.heap.size w W->RdR 0 W.heap.size W (.slice av v[j].holes.length cv) v[j].holes:=λW hW=>je (B.mono (λ_ _ h=>h) λb o x h N=>(tk (a:=⟨b,o,none⟩) (hW.block b (O.o b o h))).trans N) (λb o h=>vw (O.o b o h) hW.size) (HB.o _ K).1;have Z:=qL U;have am:=HH.o _ K;clear y Q B U K
   go_wp2_with fail
   refine(zeX (Z.o _ I.o) a9).mono ?_;rintro e w3 ⟨u3,rfl,M,A⟩;obtain⟨au,cu,rfl⟩:=M.val;have c3:=(tk (a:=⟨g,j*3+2,none⟩) (A.block g a9)).trans ch;have f3:w3.frozen? ⟨g,j*3+2,none⟩=false:=(by have e:=A.block g a9;simp only[World.frozen?,e]at fh⊢;exact fh);have Y:=qL M;have H:=qL A;have ao:=A.size;clear M A ch fh;dsimp only
   go_wp2_with fail
   go_roundg (v.length-(j+1));case measure=>omega
   case rel=>
    refine⟨j+1,C,rfl,b7,(HR.o.keep λk hk=>H.o.block k hk).set (λi hi E an N=>⟨λaf=>?_,λaf=>N.2 a9⟩) C ⟨λ_=>?_,λh=>a9⟩,?_,b6⟩
    .exact((N.1 a9).below H.o (Zp _)).keep ((Keep.refl (λk=>k=g) w3).setCell (λ_=>rfl) _) λk hk e=>a9
    .exact(Y.o.mono ag).keep ((Keep.refl (λk=>k=g) w3).setCell (λ_=>rfl) _) λk hk e=>a9
    .exact tW (I.o.trans (H.o.mono a9)) (by show w.heap.size<=g;omega) _
  .obtain rfl:j=v.length:=a9
   go_wp2_with fail
   refine tx (tI rfl _ _ _) rfl ?_;exact⟨_,rfl,I.o,HR.o.imp λi e E hi N=>(N.1 hi).mono a9⟩
def zrs(j:Addr)(n c:Nat)(w:World):(binOp .eql 41 (.slice (some j) n c) (.slice none 0 0)).run xt w=.ok (.bool false) w:=dM
def zrr(n c:Nat)(w:World):(binOp .eql 41 (.slice none n c) (.slice none 0 0)).run xt w=.ok (.bool true) w:=dM
def zry{D:xT}{w:World}{x:Value}{es:List (List PV)}(d:Dat D w x (.sl es .sh))(hs:∀e∈es,e.length=2)(hl:es.length<=1073741824):
 Calls xt 63 #[x] w λe P=>∃u F,e=.returned u/\Below w.heap.size w P/\P.ownsRow w.heap.size 50 2 u es.length F/\∀(i:Nat)(e:List PV)(j:Nat)(p:PV),es[i]?=some e->e[j]?=some p->∃v,F[i*2+j]?=some v/\Dat D w v p:=by
 obtain⟨I,y,F,rfl,_,_,M,N,J,K⟩:=dat_row d hs;obtain⟨i0,A,B,C,E⟩:=tN Z9;cases I with
 | none=>
   obtain⟨Q,rfl⟩:es.length=0/\F=[]:=by
    rcases J with h|⟨b,G,e,_⟩
    .exact h
    .cases e
   have hq:=zrr es.length y;have L:=qL K;have T:=qL Q;clear M N J K d hl A B C E Q;go_enter func63,ntmps63
   go_wp2;go_ret;refine⟨_,[],rfl,tq _ _,?_,L.o⟩;rw[T.o];exact tR _ _ _ _
 | some I=>
   have hq:=zrs I es.length y;have o:∀(j:Nat)(u:Value),F[j]?=some u->(w.alloc (.cells #[] 50)).cell? (I.add j)=some u:=λj u O=>by
    rcases J with⟨_,e⟩|⟨b,G,e,h⟩
    .rw[e]at O;simp at O
    .cases e;have S:=(h j u O).2;rw[zh];exact(tk (a:=⟨b,G+j,none⟩) (tr _ _ _ (tn w _ S))).trans S
   have Y:=qL (tl w (.cells #[] 50 (0,0)));have X:=qL o;have U:=qL M;have V:=qL N;have L:=qL K;have H:=qL (And.intro A (And.intro B (And.intro C E)));clear M N J K d o A B C E;go_enter func63,ntmps63
   go_wp2_with (at_builtin;refine zq6 _ _ 41 50 rfl rfl i0 _ 2 48 underlying41 H.o.1 H.o.2.1 H.o.2.2.1 H.o.2.2.2 rfl b9 b9 w.heap.size _ 0 [] rfl (zrH (Zp _) Y.o) _ es.length y F rfl U.o (.inr ⟨_,rfl,X.o⟩) V.o a9 b7 ?_;intro v' P ho Z hv)
   go_ret;rw[wk]at ho;refine⟨v',F,rfl,?_,ho,L.o⟩;exact(((tq _ w).alloc (Zp _) _).grown Z b7 λj hj=>by cases hj;exact Zp _)
def VO(base:Nat)(w:World)(u:Value)(v:List En):Prop:=RwE base w u v (λ_ e j=>OwnR base w j e.holes)
def VO.keep{base:Nat}{S:Nat->Prop}{w w':World}{u:Value}{v:List En}(h:VO base w u v)(hk:Keep S w w')(o:∀g,base<=g->¬S g):VO base w' u v:=by obtain⟨xs,j,y⟩:=h;refine⟨xs,hk.ownsRow j λg A=>o g ((j.lt g A).1),λi hi=>?_⟩;obtain⟨a,b,B,c,d⟩:=y i hi;exact⟨a,b,B,c,d.keep hk o⟩
def VO.mono{base j:Nat}{w:World}{u:Value}{v:List En}(h:VO base w u v)(hb:j<=base):VO j w u v:=by
 obtain⟨G,B,C⟩:=h;refine⟨G,⟨B.1,?_⟩,λi hi=>?_⟩
 .rcases B.2 with F|⟨g,o,y,A,E,r⟩
  .exact .inl F
  .exact .inr ⟨g,o,y,A,VS hb E,r⟩
 .obtain⟨a,b,A,c,d⟩:=C i hi;exact⟨a,b,A,c,d.mono hb⟩
def VO.shape{base:Nat}{w:World}{u:Value}{v:List En}(h:VO base w u v):∃a c,u=.slice a v.length c:=by obtain⟨a,c,e,_⟩:=RwE.shape h;exact⟨a,c,e⟩
def RwF(base:Nat)(w:World)(u:Value)(k:List Fg)(X:Nat->Fg->Value->Value->Prop):Prop:=
 ∃j,w.ownsRow base 50 2 u k.length j/\∀i (h:i<k.length),∃o hb,j[i*2]?=some o/\j[i*2+1]?=some hb/\X i k[i] o hb
def RwF.imp{base:Nat}{w:World}{u:Value}{k:List Fg}{X Y:Nat->Fg->Value->Value->Prop}(h:RwF base w u k X)(hi:∀i f a b,i<k.length->X i f a b->Y i f a b):RwF base w u k Y:=by obtain⟨A,o,y⟩:=h;refine⟨A,o,λi j=>?_⟩;obtain⟨a,b,c,d,e⟩:=y i j;exact⟨a,b,c,d,hi i _ a b j e⟩
def RwF.shape{base:Nat}{w:World}{u:Value}{k:List Fg}{X:Nat->Fg->Value->Value->Prop}(h:RwF base w u k X):∃A j,u=.slice A k.length j/\k.length<=j/\j<=maxLen/\(k≠[]->∃g o,A=some ⟨g,0,none⟩/\base<=g/\g<w.heap.size/\w.heap[g]?=some (.cells o 50 (0,0))/\0<j):=by
 obtain⟨I,E,_⟩:=h;rcases E.2 with⟨rfl,C⟩|⟨g,j,o,rfl,F,B,H,G,_,_⟩
 .have:k=[]:=wV.1 C;subst this;exact⟨none,0,rfl,Zp _,b9,λh=>absurd rfl h⟩
 .refine⟨_,j,rfl,H,G,λy=>⟨g,o,rfl,F,(XE.1 B).1,B,?_⟩⟩;have:=wU.2 y;omega
def RwF.at{base g n u:Nat}{w:World}{k:List Fg}{X:Nat->Fg->Value->Value->Prop}(h:RwF base w (.slice (some ⟨g,0,none⟩) n u) k X)(L:0<u){i:Nat}(hi:i<k.length):
 ∃C hb,w.cell? ⟨g,i*2,none⟩=some C/\w.frozen? ⟨g,i*2,none⟩=false/\w.cell? ⟨g,i*2+1,none⟩=some hb/\w.frozen? ⟨g,i*2+1,none⟩=false/\X i k[i] C hb:=by
 obtain⟨J,B,G⟩:=h;obtain⟨a,b,c,d,e⟩:=G i hi;have E:∀o,w.frozen? ⟨g,o,none⟩=false:=by
  rcases B.2 with⟨e,_⟩|⟨K,A,F,e,_,H,_⟩
  .cases e
  .cases e;intro o;simp[World.frozen?,H]
 have y:∀j x,J[j]?=some x->w.cell? ⟨g,j,none⟩=some x:=λj x I=>by have:=tH B (g:=g) (by cases u with|zero=>omega|succ c=>rfl) j x I;rw[zh,wk]at this;exact this
 exact⟨a,b,y _ _ c,E _,y _ _ d,E _,e⟩
def RwF.set{base g o j:Nat}{w:World}{k:List Fg}{X:Nat->Fg->Value->Value->Prop}{y A:Value}(h:RwF base w (.slice (some ⟨g,0,none⟩) k.length o) k X){Y:Nat->Fg->Value->Value->Prop}(F:∀i (h:i<k.length) a b,i≠j->X i k[i] a b->Y i k[i] a b)(K:j<k.length)(B:Y j k[j] y A):
 RwF base ((w.setCell ⟨g,j*2,none⟩ y).setCell ⟨g,j*2+1,none⟩ A) (.slice (some ⟨g,0,none⟩) k.length o) k Y:=by
 obtain⟨L,C,E⟩:=h;obtain⟨I,_⟩:=C.stored (j*2) y;obtain⟨J,_⟩:=I.stored (j*2+1) A;refine⟨_,J,λi hi=>?_⟩;obtain⟨a,b,c,d,e⟩:=E i hi;by_cases u:i=j
 .subst u;have G:=(Zw.1 c).1;have H:=(Zw.1 d).1;exact⟨y,A,by rw[wT a9,WM G],by rw[WM (dL H)],B⟩
 .exact⟨a,b,by rw[wT a9,wT a9];exact c,by rw[wT a9,wT a9];exact d,F i hi a b u e⟩
def RwF.keep{base:Nat}{w w':World}{u:Value}{k:List Fg}{X:Nat->Fg->Value->Value->Prop}(h:RwF base w u k X)(hb:∀k,k<w.heap.size->w'.heap[k]?=w.heap[k]?):RwF base w' u k X:=by
 obtain⟨xs,y,B⟩:=h;refine⟨xs,⟨y.1,?_⟩,B⟩;rcases y.2 with h|⟨g,j,o,e,C,A,r⟩
 .exact .inl h
 .exact .inr ⟨g,j,o,e,C,(hb g (XE.1 A).1).trans A,r⟩
def KO(base:Nat)(w:World)(u:Value)(k:List Fg):Prop:=RwF base w u k (λ_ f a b=>OwnR base w a f.items/\VO base w b f.vec)
def KO.dat{D:xT}{base:Nat}{w:World}{u:Value}{k:List Fg}(h:KO base w u k)(K:∀b o,base<=b->b<w.heap.size->D b o):Dat D w u (kp k):=by
 obtain⟨O,H,rfl,F,E,S⟩:=RwF.shape h;have B:(k.map fc).length=k.length:=wt _;unfold kp;by_cases J:k=[]
 .subst J;exact .sl O H 2 [] .sh 0 0 (λ_=>undef) (X4 _) (λh=>by cases h) E (λh=>absurd rfl h) (λi e h=>by simp at h) (λj h=>by simp at h) (λi e j p h=>by simp at h)
 obtain⟨g,P,rfl,T,N,_,Q⟩:=S J;have A:∀i (hi:i<k.length) j p,(fc k[i])[j]?=some p->∃x,w.cell? ⟨g,i*2+j,none⟩=some x/\Dat D w x p/\x.oneCell'=true:=λi hi j p C=>by
  obtain⟨Z,hb,a,_,b,_,c,d⟩:=RwF.at h Q hi;match j,C with
  |0,C=>cases C;have G:=jp (D:=D) c.rd λb o F E=>K b o F E;exact⟨_,a,G,Ki G⟩
  |1,C=>cases C;have G:=RwE.dat (D:=D) d (λi e hv h=>jp h.rd λb o F E=>K b o F E) λb o F E=>K b o F E;obtain⟨X,Y,e⟩:=d.shape;exact⟨_,b,G,by rw[e];rfl⟩
  |j+2,C=>simp[fc]at C
 rw[<-B];refine .sl (some ⟨g,0,none⟩) H 2 (k.map fc) .sh g 0 (λj=>(w.cell? ⟨g,j,none⟩).getD undef) (by rw[B];exact F) (λh=>by cases h) E (λ_=>rfl) (λi e I=>?_) (λj U=>?_) (λi e j p I C=>?_)
 .rw[wh]at I;obtain⟨x,_,rfl⟩:=ZZ.1 I;rfl
 .rw[B]at U;have hi:j/2<k.length:=a9;have M:j%2<(fc k[j/2]).length:=UZ _ b9;obtain⟨x,L,_,ho⟩:=A (j/2) hi (j%2) ((fc k[j/2])[j%2]) (Zv M);rw[show j/2*2+j%2=j by omega]at L;simp only[wk,L,WP];exact⟨K _ _ T N,trivial,ho⟩
 .rw[wh]at I;obtain⟨x,L,rfl⟩:=ZZ.1 I;obtain⟨hi,rfl⟩:=Zw.1 L;obtain⟨y,V,G,_⟩:=A i hi j p C;simp only[wk,V,WP];exact G
def zss{D:xT}{w:World}{x:Value}{v:List En}(h:Dat D w x (vp v)):∃a c,x=.slice a v.length c:=by obtain⟨⟨a,n,c⟩,rfl,e⟩:=kH h;simp only[wt]at e;subst e;exact⟨a,c,rfl⟩
def zrM{D:xT}{w:World}{x:Value}(k:List Fg)(d:Dat D w x (kp k))(hD:∀b o,D b o->b<w.heap.size)(hb:∀f∈k,(∀s∈f.items,s.lo<zk/\s.hi<zk)/\∀e∈f.vec,ZL e)(hl:k.length<=1000000)(hz:∀f∈k,f.items.length<=1000000/\f.vec.length<=1000000/\∀e∈f.vec,e.holes.length<=1000000):
 Calls xt 28 #[x] w λe w'=>∃u,e=.returned u/\Below w.heap.size w w'/\KO w.heap.size w' u k:=by
 have aA:=zry (es:=k.map fc) d (λe he=>by obtain⟨x,_,rfl⟩:=wy.1 he;rfl) (by rw[wt];omega);obtain⟨aa,ca,fs,rfl,aQ,C,aB⟩:=kX d hD;have aN:=C.1;have az:=C.2.1;unfold maxLen at az;rw[aQ]at aN;have aH:=qL aA;have ar:=qL C;have aI:=qL aB;have aq:=qL hD;have HB:=qL hb;have HZ:=qL hz;have aR:xt.follows .mixedOrders=true:=dM
 clear aA d hD hb hz C aB;go_enter func28,ntmps28
 go_upto_region 2 with(go_at_call 63;refine aH.o.mono ?_;rintro e w1 ⟨u,xs,rfl,ag,ak,am⟩)
 have G:RwF w.heap.size w1 u k (λ_ _ _ _=>True):=by refine⟨xs,by rw[wt]at ak;exact ak,λi hi=>?_⟩;have he:(k.map fc)[i]?=some (fc k[i]):=(by rw[wh,Zv hi];rfl);obtain⟨x0,a0,_⟩:=am i _ 0 _ he rfl;obtain⟨x1,T,_⟩:=am i _ 1 _ he rfl;exact⟨x0,x1,a0,T,trivial⟩
 obtain⟨ad,aM,rfl,aS,aO,aC⟩:=G.shape;unfold maxLen at aO;have aL:=qL G;have aE:=qL ag;have aK:=qL aC;have aT:=ag.size;clear G ak am ag aC
 go_wp2_with fail
 go_loopg [10] k.length (λgh x wr=>∃j,j<=k.length/\gh=k.length-j/\x=.int .i64 j/\RwF w.heap.size wr (.slice ad k.length aM) k (λi f a b=>i<j->OwnR w1.heap.size wr a f.items/\VO w1.heap.size wr b f.vec)/\Below w.heap.size w wr/\w1.heap.size<=wr.heap.size)
 case atStart=>exact⟨0,X4 _,rfl,rfl,aL.o.imp λi f a b _ _=>λh0=>absurd h0 (Uf _),aE.o,Zp _⟩
 case round=>
  obtain⟨j,hj,rfl,rfl,G,I,bi⟩:=hrel;have HR:=qL G;have ao:=qL I;by_cases L:j<k.length
  .obtain⟨g,aY,rfl,hg,bc,_,h0⟩:=aK.o (by intro e;subst e;simp at L);have M:j<fs.length:=a9;obtain⟨bb,aD,rfl,ax,Y⟩:=ar.o.2.2 (by intro e;subst e;simp at M);obtain⟨c0,c1⟩:=Y j M;obtain⟨d0,d1⟩:=aI.o j M;replace c0:=(I.cell (p:=⟨bb,aD+j*2,none⟩) ax).trans c0;replace c1:=(I.cell (p:=⟨bb,aD+j*2+1,none⟩) ax).trans c1;have aj:=Yf L;have U:=HB.o _ aj;have an:=HZ.o _ aj;obtain⟨f,hf⟩:=xm (k[j]);obtain⟨q,hq⟩:=xm (fs[j]);rw[<-hf]at d0 d1 U an;rw[<-hq]at d0 d1 c0 c1;obtain⟨af,cf,e0⟩:=zK d0;obtain⟨av,cv,e1⟩:=zss d1;rw[e0]at c0 d0;rw[e1]at c1 d1;have HF:=qL hf;clear hq e0 e1 hf aj Y;obtain⟨y,O⟩:=xm (wr.alloc (.cells #[.slice af f.items.length cf,.slice av f.vec.length cv] 50));have V:y.heap[wr.heap.size]?=some (.cells #[.slice af f.items.length cf,.slice av f.vec.length cv] 50 (0,0)):=(by rw[O];exact tl wr _);have ah:Below wr.heap.size wr y:=(by rw[O];exact(tq _ wr).alloc (Zp _) _);have bh:y.heap.size=wr.heap.size+1:=(by rw[O];simp);have ac:∀W,Below y.heap.size y W->Below w.heap.size w W:=λW H=>I.trans ((ah.mono a9).trans (H.mono a9));have hw:∀W,Below y.heap.size y W->∀b o x,D b o->w.cell? ⟨b,o,none⟩=some x->W.cell? ⟨b,o,none⟩=some x:=λW H b o x h hx=>(tk (a:=⟨b,o,none⟩) ((ac W H).block b (aq.o b o h))).trans hx;have ae:∀W,Below y.heap.size y W->∀b o,D b o->b<W.heap.size:=λW H b o h=>vw (aq.o b o h) (ac W H).size;have aF:=qL (λW (H:Below y.heap.size y W)=>zeX (je (d0.mono (λ_ _ h=>h) (hw W H)) (ae W H) U.1) a9);have aG:=qL (λW (H:Below y.heap.size y W)=>zq3 f.vec (d1.mono (λ_ _ h=>h) (hw W H)) (ae W H) U.2 a9 λe he=>by have:=an.2.2 e he;omega);have aV:=qL V;have Z:=qL ah
   have g0:=(zW V 0 _ rfl).1;have g1:=(zW V 1 _ rfl).1;clear d0 d1 V ah ac hw ae U an G I
   go_wp2_with fail
   rw[<-O];have ay:Below y.heap.size y y.drew:=(tq _ _).drew;clear O;refine Kg (Sw:=qe) 9 27 (λQ=>Below y.heap.size y Q/\Q.cell? ⟨wr.heap.size,0,none⟩=some (.slice af f.items.length cf)/\Q.cell? ⟨wr.heap.size,1,none⟩=some (.slice av f.vec.length cv)) dM dM rfl ⟨ay,g0,g1⟩ ?_;simp only[wO,wY];refine Jz ?_;refine V7 (λu Q=>∃E F,u=.slice E f.items.length F/\OwnR y.heap.size Q u f.items) (λu wa y h hk=>by obtain⟨E,F,e,h⟩:=h;exact⟨E,F,e,h.keep hk λ_ _=>id⟩) rfl ?_ ?_
   .intro P w2 A hk hr K X;have HK:=qL X;clear X;simp[Rds,zA,lk,Op.operands,Call.operands,RdEq]at hr;go_simp;refine(aF.o _ A.1).mono ?_;rintro e w3 ⟨u,rfl,ho,hb⟩;obtain⟨E,F,rfl⟩:=ho.val;have B:Keep qe _ w3:=Keep.of_below' hb (Zp _);exact HK.o _ _ B ⟨A.1.trans (hb.mono A.1.size),B.cell_some A.2.1 id,B.cell_some A.2.2 id⟩ ⟨E,F,rfl,ho.mono A.1.size⟩
   simp only[Y1,yb];refine Jz ?_;refine V7 (λu Q=>∃E F,u=.slice E f.vec.length F/\VO y.heap.size Q u f.vec) (λu wa y h hk=>by obtain⟨E,F,e,h⟩:=h;exact⟨E,F,e,h.keep hk λ_ _=>id⟩) rfl ?_ ?_
   .intro P w2 A hk hr K X;have HK:=qL X;clear X;simp[Rds,zA,lk,Op.operands,Call.operands,RdEq]at hr;go_simp;refine(aG.o _ A.1).mono ?_;rintro e w3 ⟨u,rfl,hb,ho⟩;have ho:VO _ w3 u f.vec:=ho;obtain⟨E,F,rfl⟩:=ho.shape;have B:Keep qe _ w3:=Keep.of_below' hb (Zp _);exact HK.o _ _ B ⟨A.1.trans (hb.mono A.1.size),B.cell_some A.2.1 id,B.cell_some A.2.2 id⟩ ⟨E,F,rfl,ho.mono A.1.size⟩
   simp only[Y1,yb];refine Jz ?_;refine V7 (λu Q=>∃T n1 P n2,u=.agg #[.slice T f.items.length n1,.slice P f.vec.length n2]/\OwnR y.heap.size Q (.slice T f.items.length n1) f.items/\VO y.heap.size Q (.slice P f.vec.length n2) f.vec) (λu wa y h hk=>by obtain⟨T,n1,P,n2,e,h,h'⟩:=h;exact⟨T,n1,P,n2,e,h.keep hk λ_ _=>id,h'.keep hk λ_ _=>id⟩) rfl ?_ ?_
   .intro P w2 A hk hr K X;have HK:=qL X;clear X;simp[Rds,zA,lk,Op.operands,Call.operands,RdEq]at hr;obtain⟨⟨_,⟨e1,e2⟩,⟨E,F,rfl⟩,ho⟩,_,⟨e3,e4⟩,⟨aw,cw,rfl⟩,hv⟩:=hr;go_simp;exact HK.o _ _ (Keep.refl _ _) A ⟨E,F,aw,cw,rfl,ho,hv⟩
   simp only[Y1,yb];intro w2 ai aP;simp only[finG,WQ,Y1,yb,wM,Wh,WR];simp only[Act.put,ww,wR,wS];rintro _ ⟨_,_,rfl,_⟩ _ ⟨_,_,rfl,_⟩ _ ⟨T,n1,P,n2,rfl,hu,hv⟩;have HU:=qL hu;have HV:=qL hv;have ab:=qL ai.1;have aU:=ai.1.size;have N:=HR.o.keep (w':=w2) (λb hb=>(ab.o.block b a9).trans (Z.o.block b hb));obtain⟨xa,xb,aW,aZ,aX,ba,_⟩:=N.at h0 L;have aJ:=qL N;clear hu hv ai aP ay N g0 g1 c0 c1
   go_wp2_with fail
   go_roundg (k.length-(j+1));case measure=>omega
   case rel=>
    have hS:∀x,w1.heap.size<=x->¬x=g:=λx hx e=>a9;refine⟨j+1,L,rfl,b7,aJ.o.set (λi hi a b bg hx be=>?_) L (λ_=>?_),?_,b6⟩
    .have J:=(((Keep.of_below' (S:=λx=>x=g) Z.o (Zp _)).trans (Keep.of_below' ab.o (Zp _))).setCell (p:=⟨g,j*2,none⟩) (λ_=>rfl) (.slice T f.items.length n1)).setCell (p:=⟨g,j*2+1,none⟩) (λ_=>rfl) (.slice P f.vec.length n2);obtain⟨h1,h2⟩:=hx a9;exact⟨h1.keep J hS,h2.keep J hS⟩
    .have J:=((Keep.refl (λx=>x=g) w2).setCell (p:=⟨g,j*2,none⟩) (λ_=>rfl) (.slice T f.items.length n1)).setCell (p:=⟨g,j*2+1,none⟩) (λ_=>rfl) (.slice P f.vec.length n2);rw[<-HF.o];exact⟨(HU.o.mono a9).keep J hS,(HV.o.mono a9).keep J hS⟩
    .exact tW (tW (ao.o.trans ((Z.o.mono a9).trans (ab.o.mono a9))) (by show w.heap.size<=g;omega) _) (by show w.heap.size<=g;omega) _
  .obtain rfl:j=k.length:=a9
   go_wp2_with fail
   refine tx (tI rfl _ _ _) rfl ?_;exact⟨_,rfl,ao.o,HR.o.imp λi f a b hi hx=>⟨(hx hi).1.mono a9,(hx hi).2.mono a9⟩⟩
end
structure Rc where
 item:Nat
 rep:Nat
 ctr:Nat
 val:ByteArray
def rcc(x:Rc):List PV:=[.v (.int .u64 x.item),.v (.int .u64 x.rep),.v (.int .u64 x.ctr),.v (.string x.val)]
def rcp(x:Rc):PV:=.agg (rcc x)
def rcv(x:Rc):Value:=.agg #[.int .u64 x.item,.int .u64 x.rep,.int .u64 x.ctr,.string x.val]
def lp(l:List Rc):PV:=.sl (l.map rcc) .sh
def zrZ(l:List Rc)(i:Nat):Option Rc:=l.find? λx=>decide (x.item=i)
def zr4:List Rc->Rc->List Rc
 |[],x=>[x]
 |y::l,x=>if y.item<x.item then y::zr4 l x else if y.item=x.item then x::l else x::y::l
def zr8(l:List Rc):Prop:=l.Pairwise λx y=>x.item<y.item
def zr3:∀{l:List Rc}{x y:Rc},y∈zr4 l x->y=x\/y∈l
 |[],x,y,h=>by simp[zr4]at h;exact .inl h
 | z::l,x,y,h=>by
   unfold zr4 at h;split at h
   .rcases V3.1 h with rfl|h
    .exact .inr b7
    .exact(zr3 h).imp id λh=>by simp[h]
   .split at h
    .exact(V3.1 h).imp id λh=>by simp[h]
    .exact(V3.1 h).imp id id
def ztN:∀(l:List Rc)(x:Rc),(zr4 l x).length<=l.length+1
 |[],x=>by simp[zr4]
 | z::l,x=>by
   unfold zr4;have:=ztN l x;split
   .simp;omega
   .split<;>simp
def zr6:∀{l:List Rc}{x:Rc},zr8 l->zr8 (zr4 l x)
 |[],x,_=>by simp[zr4,zr8]
 | z::l,x,h=>by
   obtain⟨o,u⟩:=V2.1 h;unfold zr4;split
   .rename_i hlt;exact V2.2 ⟨λy j=>(zr3 j).elim (λe=>by rw[e];exact hlt) (o y),zr6 u⟩
   .split
    .rename_i e;exact V2.2 ⟨λy j=>by have:=o y j;omega,u⟩
    .refine V2.2 ⟨λy j=>?_,h⟩;rcases V3.1 j with rfl|j
     .omega
     .have:=o y j;omega
def ztk{l:List Rc}{i:Nat}(h:∀y∈l,y.item≠i):zrZ l i=none:=by unfold zrZ;rw[uP];intro x j;simp[h x j]
def zsB{l:List Rc}{i:Nat}{x:Rc}(h:zrZ l i=some x):x∈l/\x.item=i:=by unfold zrZ at h;exact⟨uF h,by simpa using List.find?_some h⟩
def zrf(y:Rc)(l:List Rc)(i:Nat):zrZ (y::l) i=if y.item=i then some y else zrZ l i:=by
 unfold zrZ;rw[List.find?_cons];by_cases h:y.item=i<;>simp[h]
def zsb:∀{l:List Rc}{x:Rc}(i:Nat),zr8 l->zrZ (zr4 l x) i=if x.item=i then some x else zrZ l i
 |[],x,i,_=>by rw[zr4,zrf]
 | z::l,x,i,h=>by
   obtain⟨o,j⟩:=V2.1 h;unfold zr4;split
   .rename_i hlt;rw[zrf,zsb i j,zrf];by_cases e:z.item=i
    .rw[vj e,vj e,vD a9]
    .rw[vD e,vD e]
   .split
    .rename_i e0;rw[zrf,zrf];by_cases e:x.item=i
     .rw[vj e,vj e]
     .rw[vD e,vD e,vD a9]
    .rw[zrf]
def ixR:List Rc->Nat->Int->Int
 |[],_,_ =>-1
 |x::l,i,n=>if x.item=i then n else ixR l i (n+1)
section
open Go.Maps Go.ChangeMaps
attribute [-go_sem] z7
def zR:Value:=.agg #[.int .u64 0,.int .u64 0,.int .u64 0,.string ⟨#[]⟩]
def zsv(w:World):(zeroValue 66).run xt w=.ok zR w:=dM
def zRc:Rc:=⟨0,0,0,⟨#[]⟩⟩
def MR(t B:Nat)(w:World)(l:List Rc):Prop:=∃D,w.ownsMap xt 36 rV B t D/\IsMap D/\(∀r,has D (kR r)=(zrZ l r).isSome)/\∀r,D.atKey (kR r) (.held zR)=.held (rcv ((zrZ l r).getD zRc))
def MR.made(w:World):MR 0 w.heap.size (w.alloc (.map #[] 0)) []:=⟨_,TM _ _ _ _,⟨[],rfl⟩,λr=>by simp[has,zrZ],λr=>by simp[zrZ];rfl⟩
def MR.keep{t B:Nat}{w w':World}{l:List Rc}(h:MR t B w l)(hb:w'.heap[B]?=w.heap[B]?):MR t B w' l:=by obtain⟨D,j,o⟩:=h;exact⟨D,yg j hb,o⟩
def MR.lt{t B:Nat}{w:World}{l:List Rc}(h:MR t B w l):B<w.heap.size:=by obtain⟨D,j,_⟩:=h;exact j.lt
def MR.mono{t j B:Nat}{w:World}{l:List Rc}(h:MR t B w l)(ht:t<=j):MR j B w l:=by obtain⟨D,o,u⟩:=h;exact⟨D,o.mono ht,u⟩
def zsX{t B:Nat}{w:World}{l:List Rc}{j:Array Oper}{rest:List Oper}{o:Oper}{a:Act}{Q:Exit->Act->World->Prop}(G:o.guard=none)(m x:Operand)(u:o.op=.lookup 89 m x true)
 (H:a.eval m=.map (some B)) (h:MR t B w l) {r:Nat} (J:r<zk) (K:a.eval x=.int .u64 (r:Nat))
 (I:zrZ l r=none->wpList xt j Q rest (a.put o.dst (.tuple #[.agg #[.int .u64 0,.int .u64 0,.int .u64 0,.string ⟨#[]⟩],.bool false])) w) (hs:∀y,zrZ l r=some y->wpList xt j Q rest (a.put o.dst (.tuple #[.agg #[.int .u64 y.item,.int .u64 y.rep,.int .u64 y.ctr,.string y.val],.bool true])) w):wpList xt j Q (o::rest) a w:=by
 obtain⟨D,C,L,E,F⟩:=h;refine wpList_lookup_own_ok w G m x _ u 36 66 vF underlying89 rV (zsv w) (.held zR) [] rfl B t D H C _ (kR r) K (Zq J) λv M A=>?_;rw[F r]at A;unfold rV at A;cases A;rw[E r];cases hq:zrZ l r with
 |none=>exact I hq
 |some y=>exact hs y hq
def ztf{t B:Nat}{w:World}{l:List Rc}{u:Array Oper}{rest:List Oper}{o:Oper}{a:Act}{Q:Exit->Act->World->Prop}(H:o.guard=none)(m x:Operand)(C:o.op=.lookup 89 m x false)
 (I:a.eval m=.map (some B)) (h:MR t B w l) {r:Nat} (J:r<zk) (K:a.eval x=.int .u64 (r:Nat)) {y:Rc} (L:zrZ l r=some y) (hs:wpList xt u Q rest (a.put o.dst (.agg #[.int .u64 y.item,.int .u64 y.rep,.int .u64 y.ctr,.string y.val])) w):wpList xt u Q (o::rest) a w:=by
 obtain⟨D,F,N,O,G⟩:=h;refine TT H λM A=>?_;obtain⟨v,P,j,E⟩:=F.lookup vF underlying89 (zsv w) (zd:=.held zR) (zp:=[]) rfl (Zq J);rw[G r,L]at E;unfold rV at E;cases E;unfold Oper.wp;simp[execOp,C,I,K,j,Result.andThen];exact A _ _ hs
def MR.put{t B:Nat}{u:World}{D:DV}{l:List Rc}{y:Rc}(j:IsMap D)(w:∀r,has D (kR r)=(zrZ l r).isSome)(A:∀r,D.atKey (kR r) (.held zR)=.held (rcv ((zrZ l r).getD zRc)))(o:zr8 l)(C:u.ownsMap xt 36 rV B t (D.put (kR y.item) (.held (rcv y)))):MR t B u (zr4 l y):=by
 refine⟨_,C,j.put _ _,λs=>?_,λs=>?_⟩
 .rw[zsb s o];by_cases e:s=y.item
  .subst e;rw[TU j (Qc _),vj rfl];rfl
  .rw[TQ (λh=>e (Xa h)),w s,vD (λh=>e h.symm)]
 .rw[zsb s o];by_cases e:s=y.item
  .subst e;rw[vj rfl];exact atKey_put_same j (Qc _) _ _
  .rw[vD (λh=>e h.symm),TY (λh=>e (Xa h))];exact A s
open Go.WideElems Go.MapKept Go.ChangeMaps in
def zuk{w:World}{B:Nat}{u:Array MapEntry}{c:Nat}{y v:Value}{kl:Lit}(hb:w.heap[B]?=some (.map u c))(F:WideElems.Fit (H:=Value) xt 36 rV u c)(hk:keyOf xt 36 y=some kl):
 ∃(v0:Value) (st:Nat) (J:Array MapEntry) (Y:Nat),(Instr.mapEntry 89 (.map (some B)) y).run xt w=.ok (.tuple #[v0,goInt st]) (setBlock w B (.map J Y))/\∀N:World,N.heap[B]?=some (.map J Y) ->
  ∃K Z,(Instr.entryStore 89 (.map (some B)) (goInt st) v).run xt N=.ok () (setBlock N B (.map K Z))/\(Instr.mapUpdate 89 (.map (some B)) y v).run xt w=.ok () (setBlock w B (.map K Z)):=by
 have S:=tE (w:=w) underlying89
 have Q:=TD (P:=xt) hb;have C:=λem=>vF.check w em hk;have E:=λo=>TE (P:=xt) o hb;rcases vF.find w hk u.toList F.keys with⟨L,_⟩|⟨j,I,L,G,O⟩
 .refine⟨zR,c,u.push ⟨y,zR,c⟩,c+1,?_,λN M=>⟨u.push ⟨y,v,c⟩,c+1,?_,?_⟩⟩
  .simp[Instr.mapEntry,S,Q,C,L,zsv,E,Result.andThen,setBlock];exact⟨rfl,rfl⟩
  .have V:((u.push ⟨y,zR,c⟩).toList.map (·.born)).Nodup:=(by rw[US,WI,Up];refine⟨F.stamped.2.1,b7,λa ha b hb e=>?_⟩;obtain⟨x,hx,rfl⟩:=wy.1 ha;have:=F.stamped.1 x hx;simp at hb;omega);have A:=findIdx_born V (j:=u.size) (e0:=⟨y,zR,c⟩) b7;rw[<-findIdx_arr]at A;have U:(u.push ⟨y,zR,c⟩).modify u.size (λe=>{ e with val:=v })=u.push ⟨y,v,c⟩:=Array.ext' (by
    rw[Ud,US,US,<-Array.length_toList,modify_last])
   simp[Instr.entryStore,TD M,asInt,asIntOf,goInt,A,U,TE _ M,Result.andThen,setBlock]
  .simp[Instr.mapUpdate,S,Q,C,L,E,Result.andThen,setBlock]
 .have hj:u[j]?=some I:=(dL G);have T:({ I with key:=y }:MapEntry)=I:=(by rw[<-O]);have X:u.modify j (λe=>{ e with key:=y })=u:=Array.ext' (by rw[Ud,modify_eq_set _ _ _ _ G,T];exact set_self _ _ _ G);refine⟨I.val,I.born,u,c,?_,λN M=>⟨u.modify j (λe=>{ e with key:=y,val:=v }),c,?_,?_⟩⟩
  .simp[Instr.mapEntry,S,Q,C,L,hj,O,vF.stays w hk,X,E,Result.andThen,setBlock]
  .have A:=findIdx_born F.stamped.2.1 G;rw[<-findIdx_arr]at A;have U:u.modify j (λe=>{ e with val:=v })=u.modify j (λe=>{ e with key:=y,val:=v }):=Array.ext' (by rw[Ud,Ud,modify_eq_set _ _ _ _ G,modify_eq_set _ _ _ _ G,<-O]);simp[Instr.entryStore,TD M,asInt,asIntOf,goInt,A,U,TE _ M,Result.andThen,setBlock]
  .simp[Instr.mapUpdate,S,Q,C,L,hj,O,vF.stays w hk,E,Result.andThen,setBlock]
def zu8{t B:Nat}{w:World}{l:List Rc}(h:MR t B w l)(T:zr8 l)(U:t<maxLen){y:Rc}(N:y.item<zk):∃(I:Value) (st:Int) (J K:World),(Instr.mapEntry 89 (.map (some B)) (.int .u64 (y.item:Nat))).run xt w=.ok (.tuple #[I,.int .i64 st]) J /\
 (Instr.entryStore 89 (.map (some B)) (.int .i64 st) (rcv y)).run xt J=.ok () K/\MR (t+1) B K (zr4 l y)/\w.grownBy K (some B)/\(∀k,k≠B->J.heap[k]?=w.heap[k]?):=by
 obtain⟨D,M,P,Q,S⟩:=h;obtain⟨w',j,X,Y⟩:=M.update vF underlying89 U (Zq N) (val:=rcv y) rfl;have E:=M;obtain⟨Z,C,hb,F,_,_⟩:=E;obtain⟨I,st,o,A,e1,e2⟩:=zuk (v:=rcv y) hb F (Zq N);have H:=(XE.1 hb).1;have G:(setBlock w B (.map o A)).heap[B]?=some (.map o A):=by simp[setBlock,H]
 obtain⟨u,L,O,V⟩:=e2 _ G;rw[V]at j;cases j;have e:setBlock (setBlock w B (.map o A)) B (.map u L)=setBlock w B (.map u L):=by simp[setBlock]
 rw[e]at O;exact⟨I,st,_,_,e1,O,MR.put P Q S T X,Y,λk hk=>by simp[setBlock,Uk hk]⟩
end
section
attribute [-go_sem] z7 zae zaf Vr
end
def zqt(i r c:Nat)(j:c<zk):Cn xt 93 [.v (.int .u64 i),.v (.int .u64 r),.v (.int .u64 c)] (kp (znP i r c)):=by refine zt func93 3 ?_;refine pw ?_;refine .c (zq7 r c j) ?_;rfl
def zqd{C:Qk}{R:List Nat}{n:Nat}(k:List Fg)(i r c:Nat)(u:c<zk)(hk:Kn C R n k)(o:Kn C R n (znP i r c))(ok:OkX C R)(w:n<=20000):Cn xt 56 [kp k,.v (.int .u64 i),.v (.int .u64 r),.v (.int .u64 c)] (kp (vh zn k (znP i r c))):=by
 have j:Cn xt 61 [kp k,kp (znP i r c),.v (.int .i64 0)] (kp (vh zn k (znP i r c))):=YG k (znP i r c) 0 a9 hk o ok w;refine zt func56 4 ?_;refine pw ?_;refine .c (zqt i r c u) ?_
 (first|exact .d (j)|exact .q (j))
end Go.Proofs.YtjdjjlkifdimkaaGreatDoor
