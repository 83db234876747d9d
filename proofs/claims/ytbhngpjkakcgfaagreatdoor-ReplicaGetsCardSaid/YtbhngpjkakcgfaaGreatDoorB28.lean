import Derived.Test.YtbhngpjkakcgfaaGreatDoorRows
import Derived.ChangeSame
import Derived.ChangeVars
import Derived.LaidLaws
import Derived.LaidHandle
import Derived.Stop.Joined
import Derived.Test.YtbhngpjkakcgfaaGreatDoorB27
set_option maxHeartbeats 16000000
set_option linter.all false
set_option maxRecDepth 100000
namespace Go.Proofs.YtbhngpjkakcgfaaGreatDoor
open Go.Proofs.Tryz renaming prog->xT
section
open Go.RowKit
attribute [-go_sem] z7
def zvH{C:Nat->List Nat}{R E I:List Nat}{n t b m c:Nat}{D:Qk}{w:World}{s:Rs}{k:List Fg}{items:List Iv}{ka B:Option Addr}{J F:Nat}(e:Env25 C R E I)(hs:Ok25 C R E I n s)(K:n<=26)(T:Rpl D t w b m s)(hF:Rpf D w c s)(S:Gd D w)(hk:RightK k)(hz:QW k)(hi:Nrm items)(V:items.length<=20)(P:Dat D w (.slice ka k.length J) (kp k))(Q:Dat D w (.slice B items.length F) (rg items))(W:World)(U:Below w.heap.size w W):
 (Calls xT 9 #[.pointer (some ⟨b,0,none⟩),.slice ka k.length J,.slice B items.length F] W λe j=>Below W.heap.size W j/\∃u,e=.returned (.tuple #[u,.nilIface])/\DT j u (zs0 s k items)) /\
 (Calls xT 15 #[.pointer (some ⟨c,0,none⟩),.slice ka k.length J,.slice B items.length F] W λe j=>Below W.heap.size W j/\∃u,e=.returned u/\DT j u (zs0 s k items)) /\
 (Calls xT 15 #[.pointer (some ⟨c,0,none⟩),.slice none 0 0,.slice B items.length F] W λe j=>Below W.heap.size W j/\∃u,e=.returned u/\DT j u (zs0 s [] items)) /\
 Calls xT 16 #[.pointer (some ⟨b,0,none⟩),.slice B items.length F] W λe j=>Below W.heap.size W j/\∃u,e=.returned u/\DT j u (zs0 s [] items):=by
 have y:Keep qe w W:=Keep.of_below' U (Zp _);have N:=T.keep (D':=D) y id id λb o h=>⟨h,id⟩;have O:=hF.keep (D':=D) y id λb o h=>⟨h,id⟩;have H:=S.keep y λ_ _ _=>id;have M:Dat D W (.slice ka k.length J) (kp k):=P.mono (λ_ _ h=>h) λb o x A L=>y.cell_some L id;have G:Dat D W (.slice B items.length F) (rg items):=Q.mono (λ_ _ h=>h) λb o x A L=>y.cell_some L id;have d0:Dat D W (.slice none 0 0) (kp []):=zog;have X:QW []:=⟨b8,λf h=>by cases h⟩;refine⟨(zul e hs K N H hk hz M hi a8 G).mono ?_,(ztA e hs K O H hk hz M hi a8 G).mono ?_,(ztA e hs K O H zic X d0 hi a8 G).mono ?_,(zum e hs N H (Nrm.ivs2 hi) a8 G).mono ?_⟩
 .rintro e j ⟨a,c,rfl,hb,ho⟩;exact⟨hb,_,rfl,.of (ho.dat (D:=λ_ _=>True) λ_ _ _ _=>trivial)⟩
 .rintro e j ⟨a,c,rfl,hb,A⟩;exact⟨hb,_,rfl,.of A⟩
 .rintro e j ⟨a,c,rfl,hb,A⟩;exact⟨hb,_,rfl,.of A⟩
 .rw[zu0];rintro e j ⟨a,c,rfl,hb,A⟩;exact⟨hb,_,rfl,.of A⟩
def zut{D:Qk}{A:World}{x:Nat×Int}(u:x.1≠0):∀(k:Nat) q,[zou sRp x][k]?=some q->Dat D A (#[erV x].getD k undef) q:=λk q j=>by
 match k,j with
 |0,j=>cases j;unfold zou;rw[zmb u];exact .ifc _ _ _ (znT (.v _) (.ifc _ _ _ (znT (.v _) (.v _) rfl rfl)) rfl rfl)
 |k+1,j=>simp at j
def zv6{D:Qk}{w:World}{l:List Opn}{k:List Fg}{items:List Iv}{ia ka xa:Option Addr}{ic kc xc:Nat}(hG:Gd D w)(hd:Dat D w (.slice ia l.length ic) (opp l))(hb:∀o∈l,BdO o)(hl:l.length<=9223372036854775807)(dk:Dat D w (.slice ka k.length kc) (kp k))(hk:BdK k)(dx:Dat D w (.slice xa items.length xc) (rg items))(H:∀s∈items,s.lo<zk/\s.hi<zk)(ci:items.length<=9223372036854775807):
 Calls xT 3 #[.slice ia l.length ic,.slice ka k.length kc,.slice xa items.length xc] w λe w'=>e=.returned (.bool true)/\Below w.heap.size w w':=by
 have C:∀W,Below w.heap.size w W->Gd D W/\Dat D W (.slice ia l.length ic) (opp l)/\Dat D W (.slice ka k.length kc) (kp k)/\Dat D W (.slice xa items.length xc) (rg items):=λW E=>by have hk:Keep qe w W:=Keep.of_below' E (Zp _);exact⟨hG.keep hk λ_ _ _=>id,hd.mono (λ_ _ h=>h) λb o x hd H=>hk.cell_some H id,dk.mono (λ_ _ h=>h) λb o x hd H=>hk.cell_some H id,dx.mono (λ_ _ h=>h) λb o x hd H=>hk.cell_some H id⟩
 have ar:=λW (E:Below w.heap.size w W)=>zwj (C W E).2.1 hl λo ho=>⟨(hb o ho).2.2.1,(hb o ho).2.2.2.2⟩;have af:=λW (E:Below w.heap.size w W)=>zu5 (C W E).1;have av:=λW (E:Below w.heap.size w W)=>zsI (zc8 k hk) (C W E).1 (vs:=#[.slice ka k.length kc]) rfl (zud (C W E).2.2.1);have bK:=qL af;obtain⟨a,c,ev,hc,aq⟩:=ztV hd;obtain⟨rfl,rfl⟩:ia=a/\ic=c:=dJ ev
 have bB:=hG.2;by_cases aR:ztR l=true/\vx k=true/\items.length<=20
 ·obtain⟨hf,bC,ay⟩:=aR;rw[hf]at ar;rw[bC]at av;obtain⟨e,ah⟩:=zu9 hf hb;have cc:=(ztG hf).1;have bL:=qL (And.intro hk (And.intro (zcS bC) (And.intro H (And.intro ay (And.intro dk dx)))));obtain⟨n,hn⟩:=xm (l.length);obtain⟨xn,aH⟩:=xm (items.length);obtain⟨kn,aE⟩:=xm (k.length);have aK:=qL ar;have aN:=qL av;have HC:=qL aq;have HE:=qL (And.intro e (And.intro ah hG));have az:=qL bB;have HN:=qL hn;have am:=qL aH;have aA:=qL aE;rw[<-hn]at aK hc hl cc⊢;rw[<-aE]at aN⊢;rw[<-aH]at ay⊢;have cD:¬(20<(xn:Int)):=a8;clear ar av aq af C e ah hG hd hb ev bB hn hf dk dx hk H bC ci aE aH;go_enter Tryz.func3,Tryz.ntmps3
  go_wp2_with (go_at_call 4;refine(zt2 w).mono ?_;rintro e w1 ⟨B,M,F,rfl,T,ad,aD⟩;dsimp only[plv])
  obtain⟨wp,aw⟩:=xm (w1.alloc (.cells (plv B F) 32));have aC:Below w.heap.size w wp:=(by rw[aw];exact T.alloc T.size _);have cj:wp.heap[w1.heap.size]?=some (.cells (plv B F) 32 (0,0)):=(by rw[aw];exact tp _ _);have bZ:Keep qe w1 wp:=(by rw[aw];exact(Keep.refl _ _).alloc _);have cL:wp.heap.size=w1.heap.size+1:=(by rw[aw];exact tw _ _);dsimp only[plv]at aw;rw[<-aw];clear aw
  go_wp2_with (first
   |(go_at_call 5;refine(aK.o wp aC).mono ?_;rintro e Q ⟨rfl,G⟩)
   |(go_at_call 6;refine(aN.o _ (aC.trans (G.mono aC.size))).mono ?_;rintro e Q ⟨rfl,A⟩;replace G:=G.trans (A.mono G.size)))
  have aP:Below w.heap.size w Q:=aC.trans (G.mono aC.size);have ch:=(G.block _ a8).trans cj;have aZ:∀i,i<3->∀o,¬D (B i) o/\¬D (M i) o/\¬D (F i) o:=λi hi o=>(by obtain⟨g1,g2,g3⟩:=aD i hi;exact⟨λh=>by have:=az.o _ _ h;omega,λh=>by have:=az.o _ _ h;omega,λh=>by have:=az.o _ _ h;omega⟩);have ag:∀i,i<3->B i<w1.heap.size/\M i<w1.heap.size/\F i<w1.heap.size:=λi hi=>ad.lt hi;have s2:=G.size;have ce:Play D 0 Q B M F S0:=(ad.same (D':=λ_ _=>False) (Zp _) ((bZ.below (Zp _) λ_ _ h=>h).trans (G.mono a8)) (λ_ _ h=>h) λ_ _ h=>h.elim).sub (Zp _) (λ_ _ h=>h.elim) aZ;obtain⟨e,ah,bQ⟩:=HE.o;have bw:Gd D Q:=bQ.keep (S:=qe) (Keep.of_below' aP (Zp _)) λ_ _ _=>id;have bW:PlI (λ_=>List.range 27) [0,10,20] (edO l) (l.map Opn.item) D Q B M F 0 S0 Q:=⟨ce.sub (Zp _) (λ_ _ h=>.inl h) λi hi o=>by
   obtain⟨n1,n2,n3⟩:=aZ i hi o;exact⟨λh=>h.elim n1 a8,λh=>h.elim n2 a8,λh=>h.elim n3 a8⟩,zwf λi hi=>a9,Keep.refl _ _⟩
  have bj:∀k,PB B M F k->w.heap.size<=k/\k<w1.heap.size:=λk hk=>by
   obtain⟨i,hi,rfl|rfl|rfl⟩:=hk
   .exact⟨(aD i hi).1,(ag i hi).1⟩
   .exact⟨(aD i hi).2.1,(ag i hi).2.1⟩
   .exact⟨(aD i hi).2.2,(ag i hi).2.2⟩
  have bl:∀i,i<3->B i<Q.heap.size/\M i<Q.heap.size/\F i<Q.heap.size:=λi hi=>(by obtain⟨l1,l2,l3⟩:=ag i hi;exact⟨a8,a8,a8⟩);have ck:∀W,Keep (PB B M F) Q W->W.heap[w1.heap.size]?=some (.cells (plv B F) 32 (0,0)):=λW hk=>hk.obj ch λh=>(by have:=bj _ h;omega);have cg:∀W,Keep (PB B M F) Q W->Below w.heap.size w W/\∀b o x,b<w.heap.size->w.cell? ⟨b,o,none⟩=some x->W.cell? ⟨b,o,none⟩=some x:=λW hk=>⟨aP.trans (hk.below aP.size λq hq h=>by have:=bj _ h;omega),λb o x hd H=>hk.cell_some (p:=⟨b,o,none⟩) (bc0 aP H) λh=>by
   have:=bj _ h;simp only at this;omega⟩
  have cs:=qL (fun(j:Nat) (S:Nat->Rs) (wr:World) (o:Opn) (ib:Option Addr) (jc:Nat) (h:PlI (λ_=>List.range 27) [0,10,20] (edO l) (l.map Opn.item) D Q B M F j S wr) (hj:j<25) (ho:o∈l) (d:Dat D w (.slice ib o.items.length jc) (rg o.items)) (obj:Obj)=>h.step e hj (ah o ho) bw bl aZ (d.mono (λ_ _ h=>h) λb o x hd H=>bc0 aP H) obj);have co:=qL (fun(S:Nat->Rs) (wr:World) (h:PlI (λ_=>List.range 27) [0,10,20] (edO l) (l.map Opn.item) D Q B M F n S wr)=>And.intro e (h.gd bw aZ));have cr:=qL bW;have ct:=qL ck;have ak:=qL cg;clear bW ck cg bj ag bl bw bQ ah e ce ad ch aZ aD bZ cj aC T G A HE aK aN
  go_wp2_with fail
  go_loopg [46] n (λg x wr=>∃j,j<=n/\g=n-j/\x=.int .i64 j/\∃S,PlI (λ_=>List.range 27) [0,10,20] (edO l) (l.map Opn.item) D Q B M F j S wr)
  case atStart=>exact⟨0,X3 _,rfl,rfl,S0,cr.o⟩
  case round=>
   obtain⟨j,hj,rfl,rfl,S,J⟩:=hrel;have cK:=J.k.size;have H:=ct.o wr J.k;have z0:wr.cell? ⟨w1.heap.size,0,none⟩=some (.pointer (some ⟨B 0,0,none⟩)):=(zW H 0 _ rfl).1;have z1:wr.cell? ⟨w1.heap.size,1,none⟩=some (.pointer (some ⟨B 1,0,none⟩)):=(zW H 1 _ rfl).1;have z2:wr.cell? ⟨w1.heap.size,2,none⟩=some (.pointer (some ⟨B 2,0,none⟩)):=(zW H 2 _ rfl).1;have z3:wr.cell? ⟨w1.heap.size,3,none⟩=some (.pointer (some ⟨F 0,0,none⟩)):=(zW H 3 _ rfl).1;have z4:wr.cell? ⟨w1.heap.size,4,none⟩=some (.pointer (some ⟨F 1,0,none⟩)):=(zW H 4 _ rfl).1;have z5:wr.cell? ⟨w1.heap.size,5,none⟩=some (.pointer (some ⟨F 2,0,none⟩)):=(zW H 5 _ rfl).1;have cG:=(XE.1 H).1;by_cases aF:j<n
   .have bY:j<l.length:=(by rw[<-HN.o];exact aF);obtain⟨o,ho⟩:=xm (l[j]);have bR:=HC.o j bY;rw[<-ho]at bR;obtain⟨g,K,ib,jc,rfl,bT,q0,q1,q2,q3,q4,dI⟩:=bR;have aX:=az.o g K bT;have hk:=J.k;have c0:wr.cell? ⟨g,K+j*5,none⟩=some (.int .i64 o.who):=(ak.o wr hk).2 _ _ _ aX q0;have c1:wr.cell? ⟨g,K+j*5+1,none⟩=some (.int .i64 o.from_):=(by rw[Wr];exact(ak.o wr hk).2 _ _ _ aX q1);have c2:wr.cell? ⟨g,K+j*5+2,none⟩=some (.int .u64 o.item):=(by rw[Wr];exact(ak.o wr hk).2 _ _ _ aX q2);have c3:wr.cell? ⟨g,K+j*5+3,none⟩=some (.string o.val):=(by rw[Wr];exact(ak.o wr hk).2 _ _ _ aX q3);have c4:wr.cell? ⟨g,K+j*5+4,none⟩=some (.slice ib o.items.length jc):=(by rw[Wr];exact(ak.o wr hk).2 _ _ _ aX q4);have cn:=qL (cs.o j S wr o ib jc J a8 (by rw[ho];exact Yf bY) dI (.cells #[.int .i64 o.who,.int .i64 o.from_,.int .u64 o.item,.string o.val,.slice ib o.items.length jc] 40));clear J hk H q0 q1 q2 q3 q4 dI bT ho
    go_wp2_with (go_at_call 8;refine cn.o.mono ?_;rintro e w5 ⟨rfl,cz⟩)
    go_roundg (n-(j+1));case measure=>omega
    case rel=>exact⟨j+1,aF,rfl,rfl,_,cz⟩
   .obtain rfl:j=n:=a8;have HP:=qL (And.intro J (co.o S wr J));have E:=(ak.o wr J.k).1;have aV:=(ak.o wr J.k).2;have y:Below wr.heap.size wr wr.drew:=(tu _ _).drew
    go_wp2_with fail
    go_region;obtain⟨hk,hz,ax,ay,dk,dx⟩:=bL.o;obtain⟨_,e,aQ⟩:=HP.o;have hs:Ok25 (λ_=>List.range 27) [0,10,20] (edO l) (l.map Opn.item) j (S 0):=J.ok 0 b8;have aO:Dat (Nw D Q wr) wr (.slice ka k.length kc) (kp k):=dk.mono (λ_ _ h=>.inl h) λb o x hd H=>aV b o x (az.o b o hd) H;have aB:Dat (Nw D Q wr) wr (.slice xa items.length xc) (rg items):=dx.mono (λ_ _ h=>.inl h) λb o x hd H=>aV b o x (az.o b o hd) H;have hR:=J.p.a 0 b8;have hF:=J.p.f 0 b8;have C:∀W,Below wr.heap.size wr W->Gd (Nw D Q wr) W/\Dat (Nw D Q wr) W (.slice ka k.length kc) (kp k)/\Dat (Nw D Q wr) W (.slice xa items.length xc) (rg items)/\Rpl (Nw D Q wr) (25*j) W (B 0) (M 0) (S 0)/\Rpf (Nw D Q wr) W (F 0) (S 0):=λW E=>by have aY:Keep qe wr W:=Keep.of_below' E (Zp _);exact⟨aQ.keep aY λ_ _ _=>id,aO.mono (λ_ _ h=>h) λb o x hd H=>aY.cell_some H id,aB.mono (λ_ _ h=>h) λb o x hd H=>aY.cell_some H id,hR.keep aY id id λb o h=>⟨h,id⟩,hF.keep aY id λb o h=>⟨h,id⟩⟩
    have bh:∀W,Below wr.heap.size wr W->Calls xT 10 #[.slice ka k.length kc] W λe w'=>e=.returned (.tuple #[.int .i64 (ckK k).1,.int .i64 (ckK k).2])/\Below W.heap.size W w':=λW E=>(by refine(jP (VS k hk hz) (C W E).1.1 (C W E).1.2 rfl (zud (C W E).2.1)).mono ?_;rintro e w' ⟨u,rfl,hb,hd⟩;rw[zux hd];exact⟨rfl,hb⟩);have bg:∀W,Below wr.heap.size wr W->Calls xT 13 #[.slice xa items.length xc] W λe w'=>e=.returned (.tuple #[.int .i64 (Zl items).1,.int .i64 (Zl items).2])/\Below W.heap.size W w':=λW E=>(by refine(jP (XO items a8 ax) (C W E).1.1 (C W E).1.2 rfl (zud (C W E).2.2.1)).mono ?_;rintro e w' ⟨u,rfl,hb,hd⟩;rw[zux hd];exact⟨rfl,hb⟩);have aU:∀(x:Nat×Int),x.1≠0->∀W,Below wr.heap.size wr W->Calls xT 11 #[erV x] W (λe w'=>e=.returned (.int .i64 x.1)/\Below W.heap.size W w')/\Calls xT 12 #[erV x] W λe w'=>e=.returned (.int .i64 x.2)/\Below W.heap.size W w':=λx H W E=>⟨zsI (zpW sRp x H) (C W E).1 rfl (zut H),zsI (zrc sRp x H) (C W E).1 rfl (zut H)⟩;have af:∀W,Below wr.heap.size wr W->Calls xT 7 #[] W λe w'=>e=.returned (.bool true)/\Below W.heap.size W w':=λW hb=>bK.o W (E.trans (hb.mono E.size));have Y:=qL bh;have aj:=qL bg;have aI:=qL af;by_cases X:(ckK k).1=0
    ·have hr:=(ZN hk).1 X;by_cases h2:(Zl items).1=0
     .have hi:=(YT λs hs=>(ax s hs).2).1 h2;have au:=λW E=>zvH e hs a8 hR hF aQ hr hz hi ay aO aB W E;have cJ:=hs.len e;have bG:∀q,(zs0 (S 0) q items).length<=1000000:=λq=>V0 (WA _ _) a8;have bq:∀j,j<xn->∃lo hi g K,lo<zk/\xn<=xc/\xa=some ⟨g,K,none⟩/\wr.cell? ⟨g,K+j*2,none⟩=some (.int .u64 (lo:Nat))/\wr.cell? ⟨g,K+j*2+1,none⟩=some (.int .u64 (hi:Nat)):=λj hj=>(by have bX:j<items.length:=(by rw[<-am.o];exact hj);obtain⟨X,g,K,h2,h3,h4⟩:=zwe aB j bX;exact⟨_,_,g,K,(ax _ (Yf bX)).1,by rw[am.o];exact X,h2,h3,h4⟩);have bU:=fun(i:Nat) (h:i<zk) W E=>zwk (i:=i) (C W E).2.2.2.1 h;have aG:=fun(i:Nat) W E=>ztJ (i:=i) (C W E).2.2.2.2 (C W E).1 a8;obtain⟨ra,rc,cN,cO,f1,f2,_⟩:=hF;obtain⟨cE,cF,ev,cf,_,ba⟩:=zsZ f2;obtain⟨rfl,rfl⟩:ra=cE/\rc=cF:=(dJ ev);obtain⟨rl,bI⟩:=xm ((S 0).recs.length);have cu:wr.cell? ⟨F 0,1,none⟩=some (.slice ra rl rc):=(by rw[bI];exact(zW f1 1 _ rfl).1);have aT:∀i,i<zk->(ixR (S 0).recs i 0=-1/\(zrZ (S 0).recs i).isSome=false/\rcv ((zrZ (S 0).recs i).getD zRc)=rcv zRc)\/∃(j2:Nat) (x:Rc) (g2 I:Nat),ixR (S 0).recs i 0=(j2:Nat)/\j2<rl/\(zrZ (S 0).recs i).isSome=true/\rcv ((zrZ (S 0).recs i).getD zRc)=rcv x/\ra=some ⟨g2,I,none⟩/\∀i u,(rcs x)[i]?=some u->wr.cell? ⟨g2,I+j2*4+i,none⟩=some u:=λi hi=>by
       rcases ztj (S 0).recs i 0 with⟨q1,q2⟩|⟨j2,bi,q1,q2⟩
       .rw[q1,q2];exact .inl ⟨rfl,rfl,rfl⟩
       .rw[q1,q2];obtain⟨g2,I,cA,cx⟩:=ba (λe=>by rw[e]at bi;simp at bi);refine .inr ⟨j2,(S 0).recs[j2],g2,I,a8,a8,rfl,rfl,cA,λi u hu=>?_⟩;have cy:i<4:=by have:=(Zw.1 hu).1;simpa[rcs]using this
        rw[Wr];exact(cx (j2*4+i) u (by rw[zsD bi cy];exact hu)).2
      rw[<-bI]at cf;rw[X]at Y;rw[h2]at aj;obtain⟨p0,V⟩:=xm ((Zl items).2);obtain⟨p1,ad⟩:=xm ((ckK k).2);rw[<-am.o,<-V]at aj;rw[<-aA.o,<-ad]at Y;rw[<-am.o,<-aA.o]at au;obtain⟨m1,bF⟩:=xm (zs0 (S 0) k items);obtain⟨m0,bE⟩:=xm (zs0 (S 0) [] items);have bp:m1.length<=1000000:=(by rw[bF];exact bG _);have bn:m0.length<=1000000:=(by rw[bE];exact bG _);rw[<-bF,<-bE]at au;have aL:=qL au;have bM:=aL;have bP:=qL bq;have cq:=qL bU;have be:=qL aG;have bO:=qL bp;have bN:=qL bn;have cm:=qL aT;clear au bq bU aG bG bp bn bF bE ba aT bI V ad X h2 hr hi af aU bg bh C hR f1 f2 aO aB hs aQ e hk hz ax dk dx H aV J ev
      go_wp2_with (first
       |(go_at_call 9;refine(aL.o _ y).1.mono ?_;rintro e w3 ⟨A,u3,rfl,hm⟩;replace y:=y.trans (A.mono y.size))
       |(go_at_call 10;refine(Y.o _ y).mono ?_;rintro e w3 ⟨rfl,A⟩;replace y:=y.trans (A.mono y.size);replace hm:=hm.below A)
       |(go_at_call 13;refine(aj.o _ y).mono ?_;rintro e w3 ⟨rfl,A⟩;replace y:=y.trans (A.mono y.size);replace hm:=hm.below A)
       |(go_at_call 15;have au:=(bM.o _ y).2.1;clear bM;refine au.mono ?_;clear au;rintro e w3 ⟨A,u5,rfl,bA⟩;replace y:=y.trans (A.mono y.size);replace hm:=hm.below A)
       |(go_at_call 14;refine(zu3 hm bA bO.o).mono ?_;rintro e w3 ⟨rfl,A⟩;replace y:=y.trans (A.mono y.size);have bO:=bN;clear hm bA)
       |(go_at_call 16;refine(aL.o _ y).2.2.2.mono ?_;rintro e w3 ⟨A,u3,rfl,hm⟩;replace y:=y.trans (A.mono y.size))
       |(go_at_call 15;refine(aL.o _ y).2.2.1.mono ?_;rintro e w3 ⟨A,u5,rfl,bA⟩;replace y:=y.trans (A.mono y.size);replace hm:=hm.below A))
      obtain⟨wv,cC⟩:∃wv,wv=wr:=⟨wr,rfl⟩;subst cC;clear aL aj Y bN;go_loopg [141] xn (λg x wr=>∃j,j<=xn/\g=xn-j/\x=.int .i64 j/\Below wv.heap.size wv wr);case atStart=>exact⟨0,X3 _,rfl,rfl,y⟩
      case round=>
       obtain⟨j,hj,rfl,rfl,U⟩:=hrel;have bt:=qL U;by_cases aF:j<xn
       .obtain⟨lo,hi,g,K,cb,cM,rfl,p0,p1⟩:=bP.o j aF;have q0:wr.cell? ⟨g,K+j*2,none⟩=some (.int .u64 (lo:Nat)):=bc0 U p0;have q1:wr.cell? ⟨g,K+j*2+1,none⟩=some (.int .u64 (hi:Nat)):=bc0 U p1;have N:=cq.o lo cb;have aG:=be.o lo;obtain⟨ix,bD⟩:=xm (ixR (S 0).recs lo 0);obtain⟨rv,bJ⟩:=xm (rcv ((zrZ (S 0).recs lo).getD zRc));obtain⟨ok,bH⟩:=xm ((zrZ (S 0).recs lo).isSome);have hc:=cm.o lo cb;rw[<-bD,<-bJ,<-bH]at hc;rw[<-bD]at aG;rw[<-bJ,<-bH]at N;have be:=qL aG;clear aG bD bJ bH p0 p1;rcases hc with⟨rfl,rfl,rfl⟩|⟨j2,x,g2,I,rfl,bi,rfl,rfl,rfl,bS⟩
        .have cH:=trivial;dsimp only[rcv,zRc]at N;have aM:=qL N;obtain⟨wa,O⟩:=xm (wr.alloc (.cells #[.int .u64 (lo:Nat),.int .u64 (hi:Nat)] 58));have aS:Below wv.heap.size wv wa:=(by rw[O];exact U.alloc U.size _);have cB:wa.heap.size=wr.heap.size+1:=(by rw[O];exact tw _ _);have s0:wa.cell? ⟨wr.heap.size,0,none⟩=some (.int .u64 (lo:Nat)):=(zW (by rw[O];exact tp _ _) 0 _ rfl).1;have ai:=qL aS;clear N U aS
         go_wp2_with (first
          | (go_at_call 17;rw[<-O];refine(aM.o wa ai.o).mono ?_;rintro e w4 ⟨rfl,Z⟩
             have s1:∀o,(w4.alloc o).cell? ⟨wr.heap.size,0,none⟩=some (.int .u64 (lo:Nat)):=λo=>bc0 (Z.alloc Z.size o) s0;have L:=qL (ai.o.trans (Z.mono ai.o.size));clear Z s0 O)
          | (go_at_call 18;refine(be.o _ (L.o.alloc L.o.size _)).mono ?_;rintro e w5 ⟨rfl,an⟩
             have ae:=qL ((L.o.alloc L.o.size _).trans (an.mono (L.o.alloc L.o.size _).size));have P:=(an.block w4.heap.size b6).trans (tp w4 _);have r0:w5.cell? ⟨w4.heap.size,0,none⟩=some (.int .u64 (0:Nat)):=(zW P 0 _ rfl).1;have r1:w5.cell? ⟨w4.heap.size,1,none⟩=some (.int .u64 (0:Nat)):=(zW P 1 _ rfl).1;have r2:w5.cell? ⟨w4.heap.size,2,none⟩=some (.int .u64 (0:Nat)):=(zW P 2 _ rfl).1;have r3:w5.cell? ⟨w4.heap.size,3,none⟩=some (.string ⟨#[]⟩):=(zW P 3 _ rfl).1;clear an P s1))
         go_region;have br:=qL ae.o.drew
         go_wp2_with fail
         go_roundg (xn-(j+1));case measure=>omega
         case rel=>exact⟨j+1,aF,rfl,rfl,br.o⟩
        .have aD:(0:Int)<=(j2:Int):=a8;have bc:=qL bS;clear bS;dsimp only[rcv,zRc]at N;have aM:=qL N;obtain⟨wa,O⟩:=xm (wr.alloc (.cells #[.int .u64 (lo:Nat),.int .u64 (hi:Nat)] 58));have aS:Below wv.heap.size wv wa:=(by rw[O];exact U.alloc U.size _);have cB:wa.heap.size=wr.heap.size+1:=(by rw[O];exact tw _ _);have s0:wa.cell? ⟨wr.heap.size,0,none⟩=some (.int .u64 (lo:Nat)):=(zW (by rw[O];exact tp _ _) 0 _ rfl).1;have ai:=qL aS;clear N U aS
         go_wp2_with (first
          | (go_at_call 17;rw[<-O];refine(aM.o wa ai.o).mono ?_;rintro e w4 ⟨rfl,Z⟩
             have s1:∀o,(w4.alloc o).cell? ⟨wr.heap.size,0,none⟩=some (.int .u64 (lo:Nat)):=λo=>bc0 (Z.alloc Z.size o) s0;have L:=qL (ai.o.trans (Z.mono ai.o.size));clear Z s0 O)
          | (go_at_call 18;refine(be.o _ (L.o.alloc L.o.size _)).mono ?_;rintro e w5 ⟨rfl,an⟩
             have ae:=qL ((L.o.alloc L.o.size _).trans (an.mono (L.o.alloc L.o.size _).size));have P:=(an.block w4.heap.size b6).trans (tp w4 _);have r0:w5.cell? ⟨w4.heap.size,0,none⟩=some (.int .u64 (x.item:Nat)):=(zW P 0 _ rfl).1;have r1:w5.cell? ⟨w4.heap.size,1,none⟩=some (.int .u64 (x.rep:Nat)):=(zW P 1 _ rfl).1;have r2:w5.cell? ⟨w4.heap.size,2,none⟩=some (.int .u64 (x.ctr:Nat)):=(zW P 2 _ rfl).1;have r3:w5.cell? ⟨w4.heap.size,3,none⟩=some (.string x.val):=(zW P 3 _ rfl).1;clear an P s1))
         have cI:w5.cell? ⟨F 0,1,none⟩=some (.slice (some ⟨g2,I,none⟩) rl rc):=bc0 ae.o cu;have y0:w5.cell? ⟨g2,I+j2*4,none⟩=some (.int .u64 x.item):=bc0 ae.o (bc.o 0 _ rfl);have y1:w5.cell? ⟨g2,I+j2*4+1,none⟩=some (.int .u64 x.rep):=bc0 ae.o (bc.o 1 _ rfl);have y2:w5.cell? ⟨g2,I+j2*4+2,none⟩=some (.int .u64 x.ctr):=bc0 ae.o (bc.o 2 _ rfl);have y3:w5.cell? ⟨g2,I+j2*4+3,none⟩=some (.string x.val):=bc0 ae.o (bc.o 3 _ rfl);go_region;have br:=qL ae.o.drew
         go_wp2_with fail
         go_roundg (xn-(j+1));case measure=>omega
         case rel=>exact⟨j+1,aF,rfl,rfl,br.o⟩
       .obtain rfl:j=xn:=a8;clear U
        go_wp2_with (go_at_call 7;refine(aI.o _ bt.o).mono ?_;rintro e w6 ⟨rfl,bz⟩)
        go_ret;exact⟨rfl,E.trans ((bt.o.trans (bz.mono bt.o.size)).mono E.size)⟩
     .have ac:=λW E=>ztI (b:=B 0) (C W E).1 hr hz (C W E).2.1 ax h2 a8 (C W E).2.2.1;have ab:=aU _ h2;rw[X]at Y;obtain⟨er,aW⟩:=xm (erV (Zl items));obtain⟨c0,ao⟩:∃c0:Int,c0=(Zl items).1:=⟨_,rfl⟩;obtain⟨p0,V⟩:=xm ((Zl items).2);obtain⟨p1,ad⟩:=xm ((ckK k).2);have h0:¬(c0=0):=a8;rw[<-aW]at ac ab;rw[<-am.o,<-aA.o]at ac;rw[<-ao,<-V]at ab;rw[<-am.o,<-ao,<-V]at aj;rw[<-aA.o,<-ad]at Y;have bu:=qL ac;have aJ:=qL ab;clear ac ab aW ao V ad X h2 hr af aU bg bh C hR hF aO aB hs aQ e hk hz ax dk dx H aV J
      go_wp2_with (first
       |(go_at_call 9;refine(bu.o _ y).mono ?_;rintro e w3 ⟨rfl,A⟩;replace y:=y.trans (A.mono y.size))
       |(go_at_call 10;refine(Y.o _ y).mono ?_;rintro e w3 ⟨rfl,A⟩;replace y:=y.trans (A.mono y.size))
       |(go_at_call 13;refine(aj.o _ y).mono ?_;rintro e w3 ⟨rfl,A⟩;replace y:=y.trans (A.mono y.size))
       |(go_at_call 7;refine(aI.o _ y).mono ?_;rintro e w3 ⟨rfl,A⟩;replace y:=y.trans (A.mono y.size))
       |(go_at_call 11;refine(aJ.o _ y).1.mono ?_;rintro e w3 ⟨rfl,A⟩;replace y:=y.trans (A.mono y.size))
       |(go_at_call 12;refine(aJ.o _ y).2.mono ?_;rintro e w3 ⟨rfl,A⟩;replace y:=y.trans (A.mono y.size)))
      go_ret;exact⟨rfl,E.trans (y.mono E.size)⟩
    .have ac:=λW E=>ztE (b:=B 0) (n:=items.length) (ic:=xc) (ia:=xa) (C W E).1 hk hz X (C W E).2.1;have ab:=aU _ X;obtain⟨er,aW⟩:=xm (erV (ckK k));obtain⟨c0,ao⟩:∃c0:Int,c0=(ckK k).1:=⟨_,rfl⟩;obtain⟨p0,V⟩:=xm ((ckK k).2);have h0:¬(c0=0):=a8;rw[<-aW]at ac ab;rw[<-am.o,<-aA.o]at ac;rw[<-ao,<-V]at ab;rw[<-aA.o,<-ao,<-V]at Y;have bu:=qL ac;have aJ:=qL ab;clear ac ab aW ao V X af aU bg bh C hR hF aO aB hs aQ e hk hz ax dk dx H aV J aj
     go_wp2_with (first
      |(go_at_call 9;refine(bu.o _ y).mono ?_;rintro e w3 ⟨rfl,A⟩;replace y:=y.trans (A.mono y.size))
      |(go_at_call 10;refine(Y.o _ y).mono ?_;rintro e w3 ⟨rfl,A⟩;replace y:=y.trans (A.mono y.size))
      |(go_at_call 7;refine(aI.o _ y).mono ?_;rintro e w3 ⟨rfl,A⟩;replace y:=y.trans (A.mono y.size))
      |(go_at_call 11;refine(aJ.o _ y).1.mono ?_;rintro e w3 ⟨rfl,A⟩;replace y:=y.trans (A.mono y.size))
      |(go_at_call 12;refine(aJ.o _ y).2.mono ?_;rintro e w3 ⟨rfl,A⟩;replace y:=y.trans (A.mono y.size)))
     go_ret;exact⟨rfl,E.trans (y.mono E.size)⟩
 .have h3:ztR l=false\/(ztR l=true/\vx k=false)\/(ztR l=true/\vx k=true/\20<items.length):=by
   by_cases X:ztR l=true
   .by_cases h2:vx k=true
    .exact .inr (.inr ⟨X,h2,Ua λh=>aR ⟨X,h2,h⟩⟩)
    .exact .inr (.inl ⟨X,dJ h2⟩)
   .exact .inl (dJ X)
  obtain⟨n,hn⟩:=xm (l.length);obtain⟨xn,aH⟩:=xm (items.length);obtain⟨kn,aE⟩:=xm (k.length);rw[<-hn]at ar⊢;rw[<-aE]at av⊢;rw[<-aH]at h3⊢;clear hn aE aH aq C af hG hd hb ev bB aR hl dk hk dx H ci hc;rcases h3 with X|⟨X,h2⟩|⟨X,h2,h4⟩;all_goals
   rw[X]at ar;try rw[h2]at av
   try have h5:(20:Int)<(xn:Int):=a8
   have aK:=qL ar;have aN:=qL av;clear ar av X;go_enter Tryz.func3,Tryz.ntmps3
   go_wp2_with (first
    |(go_at_call 4;refine(zt2 w).mono ?_;rintro e w1 ⟨B,M,F,rfl,T,_,_⟩;dsimp only[plv])
    |(go_at_call 5;refine(aK.o _ (T.alloc T.size _)).mono ?_;rintro e Q ⟨rfl,G⟩;replace G:=(T.alloc T.size _).trans (G.mono (T.alloc T.size _).size))
    |(go_at_call 6;refine(aN.o _ G).mono ?_;rintro e w3 ⟨rfl,A⟩;replace G:=G.trans (A.mono G.size))
    |(go_at_call 7;refine(bK.o _ G).mono ?_;rintro e w6 ⟨rfl,bz⟩))
   go_ret;exact⟨rfl,G.trans (bz.mono G.size)⟩
def zv5(l:List Opn)(k:List Fg)(items:List Iv)(hb:(∀o∈l,BdO o)/\l.length<=9223372036854775807)(hk:BdK k)(hi:∀s∈items,s.lo<zk/\s.hi<zk):Cn xT 3 [opp l,kp k,rg items] (.v (.bool true)):=by
 refine⟨enters_of Tryz.func3 dK rfl,λD w H M G F E=>?_⟩;have B:=E 0 _ rfl;have C:=E 1 _ rfl;have A:=E 2 _ rfl;obtain⟨a,c,ev,_⟩:=ztV B;obtain⟨I,K,j⟩:=zsM C;obtain⟨J,L,u⟩:=zK A;rw[ev]at B;rw[j]at C;rw[u]at A;rw[show H=#[.slice a l.length c,.slice I k.length K,.slice J items.length L] from by
  rw[<-ev,<-j,<-u];obtain⟨q⟩:=H;match q,F with|[x,y,z],_=>rfl]
 refine(zv6 ⟨M,G⟩ B hb.1 hb.2 C hk A hi (zwd A)).mono ?_;rintro e N ⟨rfl,hb⟩;exact⟨_,D,rfl,hb,λ_ _ h=>h,λ_ _ h=>.inl h,λb o h=>vw (G b o h) hb.size,.v _,trivial⟩
end
section
open Go.ChangeShapes Go.WideShapes Go.RowKit
def own:ownKnob xT.godebug=none:=dK
def Xc:laidOutB xT=true:=dK
def et:xT.globalNamed "errors.errorType" = some 0:=dK
def rt:(xT.cutTypes.find? (·.1 == "internal/reflectlite.rtype")).map (·.2)=some 174 :=dK
def ziq:((List.range 317).filter λt=>xT.rowNamed t [101,114,114,111,114])=[44]:=dK
def tsize:xT.types.size=317:=dK
def zab{H:Type}:List (String×DataW H):=[("errors.errorType",Rows.laid_errors_errorType)]
def Z7{W:World}(h:laidMetH xT zab W):W.cell? ⟨0,0,none⟩=some (.iface 174 (.agg #[.pointer (some ⟨1,44,none⟩)])):=by
 have B:laidMet xT [] W/\handlesMet xT zab W:=h;obtain⟨j,u,E,e1,e2,y,e4,e5⟩:=B.2 _ (wI.2 rfl);have A:j=[101,114,114,111,114]:=(wD e1).symm;subst A;obtain rfl:=wD (rt.symm.trans e2);have w:E∈(List.range 317).filter λt=>xT.rowNamed t [101,114,114,111,114]:=WB.2 ⟨WN.2 (by rw[<-tsize];exact y),e4⟩;rw[ziq]at w;obtain rfl:=wI.1 w;have C:typeHandle xT 44 = .pointer (some ⟨1,44,none⟩):=dK
 rw[C]at e5;simpa using World.var?_cell et e5 0
def JH{W:World}(h:laidMetH xT zab W):GL (ZG W) W:=λx u=>by have j:=Z7 h;obtain rfl:_=x:=wD u;exact⟨tq W ⟨0,0,none⟩ j,j⟩
noncomputable def Yx (os:Os):World:=
 let w0:=World.holding xT os ⟨#[],#[],[]⟩
 { w0 with heap:=w0.heap.modify 0 fun
  |.cells _ t frozen=>.cells #[.iface 174 (.agg #[.pointer (some ⟨1,44,none⟩)])] t frozen
  |o=>o }
def Q3(os:Os)(j:Array Value):laidMetH xT zab ((Yx os).forCall (λ_ _=>0) ⟨#[],j,[]⟩).memory:=
 laidMetH_of_parts (laidMet_nil _ _) dK
end
end Go.Proofs.YtbhngpjkakcgfaaGreatDoor
