import Derived.Tactics2
import Derived.Defers
import Derived.Recover
import Derived.Laws.Pointers
import Derived.WalkLawsBesides
import Derived.Deep.Cut
import Derived.Maps.OwnSet
import Derived.WideKeyEntry
import Derived.LoopN
import Derived.Test.YtmpnbdhadjfbhaaGreatDoorB22
set_option maxHeartbeats 16000000
set_option linter.all false
set_option maxRecDepth 100000
namespace Go.Proofs.YtmpnbdhadjfbhaaGreatDoor
def TH:=@Go.MapKept.run_getObj_map
def TI:=@Go.MapKept.run_setObj_map
open Go.RowKit
open Go.Proofs.Tryz
open Go.Proofs.Tryz renaming prog->xt
section
attribute [-go_sem] z7
def Vw{w:World}{base j size n:Nat}{e:TypeId}{v:Value}{o:List Value}(h:w.ownsRow base e size v n o)(hb:j<=base):w.ownsRow j e size v n o:=⟨h.1,h.2.imp id λ⟨g,cap,cur,e1,hg,r⟩=>⟨g,cap,cur,e1,V0 hb hg,r⟩⟩
def QD{B:Qk}{R:List Nat}{n:Nat}(C:xT)(k:List Fg)(vk:Value)(w:World)(hk:Kn B R n k)(ok:OkX B R)(hn:n<=100000)(rk:Dat C w vk (kp k))(hC:∀b o,C b o->b<w.heap.size)(hG:GL C w):
 Calls xt 98 #[vk] w λe w'=>∃v,e=.returned v/\Keep (λb=>w.heap.size<=b) w w'/\Dat (λb o=>C b o\/(w.heap.size<=b/\b<w'.heap.size)) w' v (kp (zL k)):=by
 obtain⟨aa,ca,fs,rfl,hl,aG,cs⟩:=kX rk hC;have dz:=hk.l;have HK:=qL hk;have br:=qL aG;have cM:=qL cs;have cO:=qL hG;have dg:=aG.1;have di:=aG.2.1;unfold maxLen at di;rw[hl]at dg;clear rk aG cs hG hk;obtain⟨mb,dB⟩:=xm (w.heap.size-1);go_enter func98,ntmps98
 go_wp2_with fail
 go_loopg [3,4] k.length (λg xv xi wr=>∃j,j<=k.length/\g=k.length-j/\xi=.int .i64 j/\OutG C mb w.heap.size wr xv (zL (k.take j))/\Keep (λb=>w.heap.size<=b) w wr)
 case atStart=>exact⟨0,X3 _,rfl,rfl,OutG.start _ _ _ _,Keep.refl _ w⟩
 case round=>
  obtain⟨j,S,rfl,rfl,aF,bS⟩:=hrel;obtain⟨o,ho⟩:=xm (zL (k.take j));rw[<-ho]at aF;obtain⟨ad,E,rfl,dA,cq⟩:=aF.shape;unfold maxLen at cq;have N:=qL aF;have V:=qL bS;have HO:=qL ho;have dE:=bS.size;by_cases ak:j<k.length
  ·have aY:j<fs.length:=a8;obtain⟨bb,P,rfl,dd,bw⟩:=br.o.2.2 (by intro e;subst e;simp at aY);obtain⟨c0,c1⟩:=bw j aY;obtain⟨d0,d1⟩:=cM.o j aY;replace c0:=(V.o.cell (p:=⟨bb,P+j*2,none⟩) (by show bb<_;omega) (by show ¬w.heap.size<=bb;omega)).trans c0;replace c1:=(V.o.cell (p:=⟨bb,P+j*2+1,none⟩) (by show bb<_;omega) (by show ¬w.heap.size<=bb;omega)).trans c1;have cZ:¬(zi k[j].vec=[]\/k[j].items=[])->AddOk o ⟨k[j].items,zi k[j].vec⟩:=λaL=>ho▸XK HK.o ok a8 ak aL;have ct:zL (k.take (j+1))=yo o k[j]:=ho▸Zo ak;have aX:=XE ak;have bX:=HK.o.s _ aX;have bO:=HK.o.r _ aX;have Y:k[j].items.length<=100000:=(by have:=yv aX;have:=HK.o.m;omega);have bn:=(HK.o.take j).group ok;rw[<-ho]at bn;have dC:o.length<=100000:=(by have:=bn.l;omega);have cB:∀g∈o,g.items.length<=100000:=λg hg=>(by have:=yv hg;have:=bn.m;omega);have cH:∀g∈o,g.vec.length<=1024/\∀e∈g.vec,e.holes.length<=1048576:=λg hg=>(by obtain⟨x,hx,e⟩:=(jU (HK.o.take j).r).2.2 g (ho▸hg);have:=((HK.o.take j).ik x hx).canVec.bv ok.1 ok.2;rw[<-e]at this;exact⟨by have:=this.2.1;omega,λe he=>by have:=this.2.2 e he;omega⟩);have cG:(zi k[j].vec).length<=1024/\∀e∈zi k[j].vec,e.holes.length<=1048576:=(by have:=(HK.o.ik _ aX).canVec.bv ok.1 ok.2;exact⟨by have:=this.2.1;omega,λe he=>by have:=this.2.2 e he;omega⟩)
   have bA:o.Pairwise λf g=>ZH f.vec g.vec:=ho▸(vB (HK.o.take j).r).srt;have cA:∀g∈o,Nrm g.items:=λg hg=>((vB (HK.o.take j).r).ok g (ho▸hg)).2.2.1;generalize k[j]=f at *;generalize fs[j]=q at *;obtain⟨ai,ci,e0⟩:=zK d0;obtain⟨av,cv,e1⟩:=xL d1;rw[e0]at c0 d0;rw[e1]at c1 d1;have aU:∀b o,C b o->b<wr.heap.size:=λb o h=>(by have:=hC b o h;omega);have cj:GL C wr:=cO.o.mono (λ_ _ h=>h) λb o x L hx=>V.o.cell_some hx (by have:=hC b o L;show ¬w.heap.size<=b;omega);have bN:∀(x:Value)(p:PV),Dat C w x p->∀W,Below wr.heap.size wr W->Dat C W x p:=λx p h W Q=>h.mono (λ_ _ h=>h) λb o x L hx=>(tp (a:=⟨b,o,none⟩) (Q.block b (aU b o L))).trans (V.o.cell_some hx (by have:=hC b o L;show ¬w.heap.size<=b;omega));have bM:∀W,Below wr.heap.size wr W->GL C W:=λW Q=>cj.mono (λ_ _ h=>h) λb o x L hx=>(tp (a:=⟨b,o,none⟩) (Q.block b (aU b o L))).trans hx;have bt:Calls xt 135 #[.slice av f.vec.length cv] wr λe w'=>∃a c,e=.returned (.slice a (zi f.vec).length c)/\Below wr.heap.size wr w'/\Dat (DX C mb w' (.slice ad o.length E)) w' (.slice a (zi f.vec).length c) (vp (zi f.vec)):=by
    refine(jP (D:=C) (Ka f.vec bO.2 bX.2.1 bX.2.2) (bM wr (tv _ _)) aU rfl (λi p hp=>?_)).mono ?_
    .match i,hp with
     |0,hp=>cases hp;exact bN _ _ d1 wr (tv _ _)
     |i+1,hp=>simp at hp
    .rintro e w' ⟨v,rfl,hb,hd⟩;obtain⟨a,c,rfl⟩:=xL hd;have cC:=N.o.owns;refine⟨a,c,rfl,hb,hd.mono (λb o h=>?_) λ_ _ _ _ h=>h⟩;rcases h with h|h
     .exact⟨.inl h,λe=>by have:=(cC b e).1;have:=hC b o h;omega⟩
     .exact⟨.inr ⟨a8,h.2⟩,λe=>by have:=(cC b e).2;omega⟩
   have aN:=qL bt;have ce:=qL bM;have bC:=qL bN;have bB:=qL d0;have aQ:=qL ct;have cY:=qL cH;have cX:=qL cG;have cP:=qL cA;have cQ:=qL cB;have cL:=qL bO.1;have bi:=qL aU;have cR:=qL N.o.owns;have cV:=qL bA;have ch:∀b o',C b o'->(Value.slice ad o.length E).ownBlock≠some b:=λb _ h e=>(by have:=(N.o.owns b e).1;have:=hC b _ h;omega);have aO:=qL ch;have HC:=qL hC;clear bt bM bN d0 d1 ct cH cG cA cB bO bX aU bA cZ aX bn cj e0 e1 bw ch hC ho aF bS;have ab:True:=trivial;obtain⟨wo,dq⟩:=xm (wr);subst dq;by_cases h1:0<(zi f.vec).length
   ·have b1:(((zi f.vec).length:Int) == 0)=false:=ue.2 a8;by_cases h2:0<f.items.length
    ·have b2:((f.items.length:Int) == 0)=false:=ue.2 a8;have aL:¬(zi f.vec=[]\/f.items=[]):=λe=>by
      rcases e with e|e
      .rw[e]at h1;simp at h1
      .rw[e]at h2;simp at h2
     have bH:=qL aL;obtain⟨i,hi,q1,q2⟩:=Qo (zi f.vec) cV.o;have cS:=qL q1;have cU:=qL q2;have bE:=qL (Y8 (f:=⟨f.items,zi f.vec⟩) hi q1 q2);clear q1 q2 aL
     go_wp2_with (first
      | (go_at_call 135;have _t:=ab;refine aN.o.mono ?_;rintro e w3 ⟨a3,n3,rfl,O,aK⟩
         have c3:=(O.cell (p:=⟨bb,P+j*2,none⟩) (by show bb<_;omega)).trans c0;have ac:=qL O;have cK:=qL aK;have dn:=O.size;clear O aK ab)
      |go_in)
     go_loopg [6] i (λg x w2=>∃a,a<=i/\g=i-a/\x=.int .i64 a/\Below w3.heap.size w3 w2)
     case atStart=>exact⟨0,X3 _,rfl,rfl,tv _ _⟩
     case round=>
      obtain⟨a,ha,rfl,rfl,ay⟩:=hrel;have bl:=ac.o.trans (ay.mono dn);have aj:=N.o.keep (w':=wr) bl.size λb hb=>bl.block b hb;have cr:=DX.keep cK.o ay.size λb hb _=>ay.block b hb;have c4:=(ay.cell (p:=⟨bb,P+j*2,none⟩) (by show bb<_;omega)).trans c3;have cI:=qL ay;have M:=qL bl;have aR:=qL aj;have bj:=qL cr;have dp:=ay.size;have bz:∀(a:Nat)(aI:a<o.length)(c:Int),zZ (zv o[a].vec) (zv (zi f.vec))=c->∀(aw:Option Addr)(ax:Nat),Dat (DX C mb wr (.slice ad o.length E)) wr (.slice aw o[a].vec.length ax) (vp o[a].vec)->∀W,Below wr.heap.size wr W->Calls xt 136 #[.slice aw o[a].vec.length ax,.slice a3 (zi f.vec).length n3] W λe w'=>e=.returned (.int .i64 c)/\Below W.heap.size W w':=λa aI c L aw ax hd W Q=>
       zhr c L (cY.o _ (XE aI)) cX.o (DX.keep hd Q.size λb hb _=>Q.block b hb) (DX.keep bj.o Q.size λb hb _=>Q.block b hb) aO.o (λb o h=>by have:=bi.o b o h;have:=Q.size;omega) (ce.o W (M.o.trans (Q.mono M.o.size)))
      have bq:=qL bz;clear ay bl aj cr bz;by_cases ck:a<i
      .have aI:a<o.length:=a8;obtain⟨g,bI,bJ,aw,ax,bK,rfl,bP,ah,x0,x1,da,db⟩:=aR.o.at aI;obtain⟨c,L⟩:=xn (zZ (zv o[a].vec) (zv (zi f.vec)));have dh:c<0:=(by rw[<-L];exact cS.o a aI ck);have ar:=qL (bq.o a aI c L aw ax db);clear da db L ah x0;generalize o[a]=oa at *
       go_wp2_with (first
        |(go_at_call 136;refine(ar.o _ (tv _ _)).mono ?_;rintro e w5 ⟨rfl,G⟩;have ae:=qL G;clear G)
        |go_in)
       go_roundg (i-(a+1));case measure=>omega
       case rel=>exact⟨a+1,ck,rfl,b6,cI.o.trans (ae.o.mono dp)⟩
      .obtain rfl:a=i:=a8;by_cases Y:a<o.length
       .obtain⟨g,bI,bJ,aw,ax,bK,rfl,bP,ah,x0,x1,da,db⟩:=aR.o.at Y;obtain⟨c,L⟩:=xn (zZ (zv o[a].vec) (zv (zi f.vec)));have dh:¬c<0:=(by rw[<-L];exact cU.o a Y (Zp _));have ar:=qL (bq.o a Y c L aw ax db);have bh:=qL L;have cc:=qL da;have cN:=qL ah;have cf:=qL x0;clear da db L ah x0;have aq:True:=trivial;have aH:True:=trivial;obtain⟨oa,bT⟩:=xm (o[a]);rw[<-bT]at x1 ar bh cc cf;have aS:=qL bT;clear bT;by_cases hz:c=0
        .go_wp2_with (first
          | (go_at_call 136;have _t:=aq;refine(ar.o _ (tv _ _)).mono ?_;rintro e w5 ⟨rfl,G⟩
             have y1:=(G.cell (p:=⟨g,a*2+1,none⟩) (tr wr ⟨g,a*2+1,none⟩ x1)).trans x1;have ae:=qL G;clear G aq)
          |(go_at_call 136;have _t:=aH;refine(ar.o _ ae.o).mono ?_;rintro e w6 ⟨rfl,G⟩;have U:=qL (ae.o.trans (G.mono ae.o.size));clear G aH)
          |go_in)
         have de:Below w6.heap.size w6 w6.drew:=(tv _ _).drew;have bQ:g<wr.heap.size:=tr wr ⟨g,a*2+1,none⟩ x1;have z0:=(U.o.cell (p:=⟨g,a*2,none⟩) bQ).trans cf.o;have z1:=(U.o.cell (p:=⟨g,a*2+1,none⟩) bQ).trans x1;have z4:=(U.o.cell (p:=⟨bb,P+j*2,none⟩) (by show bb<_;omega)).trans c4;have bp:=U.o.size;have cE:∀W,Below w6.heap.size w6 W->Calls xt 137 #[.slice bI oa.items.length bJ,.slice ai f.items.length ci] W λe w'=>∃u,e=.returned u/\Below W.heap.size W w'/\Dat (DX C mb w' (.slice (some ⟨g,0,none⟩) o.length E)) w' u (rg (qy zn oa.items f.items)):=λW Q=>(by have bL:=U.o.trans (Q.mono bp);have aT:=M.o.trans (bL.mono M.o.size);have cz:oa∈o:=(by rw[aS.o];exact XE Y);refine zep (cP.o _ cz) cL.o (by have:=cQ.o _ cz;omega) a8 (DX.keep cc.o bL.size λb hb _=>bL.block b hb) ((bC.o _ _ bB.o W aT).mono (λb o' h=>⟨.inl h,aO.o b o' h⟩) λ_ _ _ _ h=>h) (λb hb=>by have:=(cR.o b hb).2;have:=aT.size;omega) aO.o (λb o h=>by have:=bi.o b o h;have:=aT.size;omega) (by have:=aT.size;omega) (ce.o W aT));have cW:=qL cE;clear cE;have be:xt.follows .mixedOrders=true:=dL;obtain⟨A,bc⟩:=xm (w6);subst bc;refine Kg (Sw:=qe) 16 96 (λw9=>Below A.heap.size A w9/\w9.cell? ⟨g,a*2,none⟩=some (.slice bI oa.items.length bJ)/\w9.cell? ⟨bb,P+j*2,none⟩=some (.slice ai f.items.length ci)) dL dL rfl ⟨de,z0,z4⟩ ?_;simp only[wP,Wb];refine Jz ?_;refine V7 (λu w9=>Dat (DX C mb w9 (.slice (some ⟨g,0,none⟩) o.length E)) w9 u (rg (qy zn oa.items f.items))) (λu wa wb h hk=>DX.keep h hk.size λk aj _=>hk.block k aj id) rfl ?_ ?_
         .intro a2 w2 L hk hr K hK;have HK:=qL hK;clear hK;simp[Rds,zA,lk,Op.operands,Call.operands,RdEq]at hr;go_simp;refine(cW.o _ L.1).mono ?_;rintro e w3 ⟨u,rfl,hb,hd⟩;have bR:Keep qe _ w3:=Keep.of_below' hb (Zp _);exact HK.o _ _ bR ⟨L.1.trans (hb.mono L.1.size),bR.cell_some L.2.1 id,bR.cell_some L.2.2 id⟩ hd
         simp only[Y1,yb];refine Jz ?_;refine V7 (λu w9=>∃au cu,u=.agg #[.slice au (qy zn oa.items f.items).length cu,.slice a3 (zi f.vec).length n3]/\Dat (DX C mb w9 (.slice (some ⟨g,0,none⟩) o.length E)) w9 (.slice au (qy zn oa.items f.items).length cu) (rg (qy zn oa.items f.items))) (λu wa wb h hk=>by obtain⟨au,cu,e,h⟩:=h;exact⟨au,cu,e,DX.keep h hk.size λk aj _=>hk.block k aj id⟩) rfl ?_ ?_
         .intro a2 w2 L hk hr K hK;have HK:=qL hK;clear hK;simp[Rds,zA,lk,Op.operands,Call.operands,RdEq]at hr;obtain⟨⟨u,⟨e1,e2⟩,H⟩,e3,e4⟩:=hr;obtain⟨au,cu,rfl⟩:=zK H;go_simp;exact HK.o _ _ (Keep.refl _ _) L ⟨au,cu,rfl,H⟩
         simp only[Y1,yb];refine Jz ?_;intro w2 aJ aj;simp only[finG,WM,Y1,yb,wM,Wh,WO];simp only[Act.put,wu,wR,wS];rintro _ _ _ ⟨au,cu,rfl,H⟩;have cJ:=qL aJ.1;have HU:=qL H;have dD:=aJ.1.size;have r0:=aJ.2.1;have r1:=(aJ.1.cell (p:=⟨g,a*2+1,none⟩) (by show g<_;omega)).trans z1;have ah:w2.heap[g]?=some (.cells bK 59 (0,0)):=(aJ.1.block g a8).trans ((U.o.block g bQ).trans cN.o);have s0:w2.frozen? ⟨g,a*2,none⟩=false:=(by simp[World.frozen?,ah]);have s1:w2.frozen? ⟨g,a*2+1,none⟩=false:=(by simp[World.frozen?,ah]);have bu:0<E:=a8;clear H aJ aj ah
         go_wp2_with fail
         go_roundg (k.length-(j+1));case measure=>omega
         case rel=>
          have aA:=U.o.trans (cJ.o.mono U.o.size);have dl:=(aR.o.keep aA.size λb hb=>aA.block b hb).set Y HU.o bu;have cF:o[a].vec=zi f.vec:=(by have:=bh.o;rw[aS.o,hz]at this;exact YU this);have cy:(o.take a++(⟨qy zn oa.items f.items,o[a].vec⟩:Fg)::o.drop (a+1)).length=o.length:=a9;have dk:(o.take a++(⟨qy zn oa.items f.items,o[a].vec⟩:Fg)::o.drop (a+1))[a]'a8=⟨qy zn oa.items f.items,o[a].vec⟩:=(by rw[Wy (by rw[We];exact UJ _ _)];simp[W8 (uz Y)]);have dc:(Value.slice (some ⟨g,0,none⟩) o.length E).ownBlock=some g:=by
           cases E with
           |zero=>omega
           |succ c=>rfl
          refine⟨j+1,ak,rfl,b6,?_,?_⟩
          .have J:=dl.setV (i:=a) (a0:=.slice a3 (zi f.vec).length n3) cy a8 (by
            rw[dk];show Dat _ _ _ (vp o[a].vec);rw[cF];refine DX.keep bj.o (by simp;exact aA.size) λb hb aL=>?_;rw[tz _ _ _ _ (λe=>aL (by rw[dc];exact WR some e.symm))];exact aA.block b hb) bu
           rw[aQ.o,yo,Vq bH.o,bE.o,ul Y,Vm (by have:=bh.o;rw[aS.o,hz]at this;exact this)];rw[<-aS.o];rw[cF]at J;exact J
          .exact(((V.o.trans (Keep.of_below' M.o (Zp _))).trans (Keep.of_below' aA (Zp _))).setCell (λ_=>bP) _).setCell (λ_=>bP) _
        .have dj:¬(c=0):=hz
         go_wp2_with (first
          | (go_at_call 136;have _t:=aq;refine(ar.o _ (tv _ _)).mono ?_;rintro e w5 ⟨rfl,G⟩
             have y1:=(G.cell (p:=⟨g,a*2+1,none⟩) (tr wr ⟨g,a*2+1,none⟩ x1)).trans x1;have ae:=qL G;clear G aq)
          |(go_at_call 136;have _t:=aH;refine(ar.o _ ae.o).mono ?_;rintro e w6 ⟨rfl,G⟩;have U:=qL (ae.o.trans (G.mono ae.o.size));clear G aH)
          |go_in)
         obtain⟨A,bc⟩:=xm (w6);subst bc;have az:Below wr.heap.size wr A:=U.o;have bp:=az.size;have cD:=M.o.size;obtain⟨T,Z,aW⟩:=aR.o.keep az.size λb hb=>az.block b hb;have aM:=Z.2.1;have X:=qL Z;have bD:=qL aW;have be:xt.follows .mixedOrders=true:=dL;have aE:∀u∈T.take (a*2),u.oneCell'=true:=λu H=>Z.2.2 u (WH H);have bW:∀u∈T.drop (a*2),u.oneCell'=true:=λu H=>Z.2.2 u (Wv H);have aB:∀u∈[(.slice ai f.items.length ci:Value),.slice a3 (zi f.vec).length n3],u.oneCell'=true:=yF rfl rfl;have aD:∀g0,(some (⟨g,0,none⟩:Addr))=some ⟨g0,0,none⟩->∀W,Below A.heap.size A W->∀j u,T[j]?=some u->W.cell? ⟨g0,j,none⟩=some u:=λg0 hg W Q j u hx=>(by have h9:=tK X.o.1 (g:=g0) (by rw[hg];rfl) j u hx;rw[zh,wn]at h9;exact(Q.cell (p:=⟨g0,j,none⟩) (tr A ⟨g0,j,none⟩ h9)).trans h9);have aC:=qL aD;have z4:=(az.cell (p:=⟨bb,P+j*2,none⟩) (by show bb<_;omega)).trans c4;have J:∀(v:Value)(W:World),Below A.heap.size A W->W.ownsRow A.heap.size 59 2 v (0+a+1+(o.length-a)) ([]++T.take (a*2)++[Value.slice ai f.items.length ci,Value.slice a3 (zi f.vec).length n3]++T.drop (a*2)) ->
          OutG C mb w.heap.size W v (zL (k.take (j+1)))/\Keep (λb=>w.heap.size<=b) w W:=λv W Q ho=>by
          have aA:=az.trans (Q.mono bp);have hi:zL (k.take (j+1))=o.take a++⟨f.items,zi f.vec⟩::o.drop a:=(by rw[aQ.o,yo,Vq bH.o,bE.o];rw[ul Y,Vq (by have:=bh.o;rw[aS.o]at this;rw[this];exact dj)]);refine⟨?_,((V.o.trans (Keep.of_below' M.o (Zp _))).trans (Keep.of_below' aA (Zp _)))⟩;rw[hi];have hp:Dat (DX C mb A (.slice (some ⟨g,0,none⟩) o.length E)) A (.slice ai f.items.length ci) (rg f.items):=(bC.o _ _ bB.o A (M.o.trans (az.mono cD))).mono (λb o' h=>⟨.inl h,aO.o b o' h⟩) λ_ _ _ _ h=>h;have hq:Dat (DX C mb A (.slice (some ⟨g,0,none⟩) o.length E)) A (.slice a3 (zi f.vec).length n3) (vp (zi f.vec)):=DX.keep bj.o bp λb hb _=>az.block b hb;have ao:W.ownsRow A.heap.size 59 2 v (o.length+1) (T.take (a*2)++[Value.slice ai f.items.length ci,Value.slice a3 (zi f.vec).length n3]++T.drop (a*2)):=(by have e1:0+a+1+(o.length-a)=o.length+1:=a8;rw[e1,Y1]at ho;exact ho);refine OutG.insK (f:=⟨f.items,zi f.vec⟩) (uz Y) X.o.2.1 bD.o hp hq (λh=>DX.new h (λb o h=>by have:=bi.o b o h;omega) Q λk hk=>(ao.lt k hk).1) ⟨Vw ao a8,?_,?_⟩
          .simp[aM];omega
          .intro u H;rcases wF.1 H with H|H
           .rcases wF.1 H with H|H
            .exact X.o.2.2 u (WH H)
            .exact yF rfl rfl u H
           .exact X.o.2.2 u (Wv H)
         have aP:=qL J;have dv:=qL aE;clear J aD Z aW;have aZ:∀W:World,Below A.heap.size A W->(a=0/\(some (⟨g,0,none⟩:Addr))=none)\/∃a',some (⟨g,0,none⟩:Addr)=some a'/\∀j u,(T.take (a*2))[j]?=some u->W.cell? (a'.add j)=some u:=λW hB=>.inr ⟨_,rfl,λj u h=>by
          rw[zh,wn];rw[wt]at h;split at h
          .exact aC.o g rfl W hB j u h
          .cases h⟩
         have ba:∀W:World,Below A.heap.size A W->(o.length-a=0/\(some (⟨g,a*2,none⟩:Addr))=none)\/∃a',some (⟨g,a*2,none⟩:Addr)=some a'/\∀j u,(T.drop (a*2))[j]?=some u->W.cell? (a'.add j)=some u:=λW hB=>.inr ⟨_,rfl,λj u h=>by
          rw[zh];rw[Wn]at h;exact aC.o g rfl W hB _ u h⟩
         have bF:=qL aZ;have bG:=qL ba;have dx:¬(E=a):=a8;have co:bb<A.heap.size:=a8;have dy:a<=E:=a8;have dw:a<=o.length:=a8;clear aZ ba;go_region_law_o (first
          | (refine yH (.tmp 77) (.tmp 80) 54 rfl rfl underlying54 A.heap.size (.slice (some ⟨_,0,none⟩) 0 0) 0 [] rfl (zdz a8 (by first|exact tq _ _|exact tq A _|exact yw _ _ _|exact yx _ _ _|exact yw A _ _|exact yx A _ _)) _ a _ (T.take (a*2)) rfl (by simp[aM]<;>omega) (bF.o _ (by first|exact YR _ _|exact XM _ _ _)) aE a8 dF ?_
             intro ds bg I F cm;have b1:Below A.heap.size A bg:=by first|exact(YR A _).grown F dF (λj S=>by simp[Value.ownBlock]at S;omega)|exact(XM A _ _).grown F dF (λj S=>by simp[Value.ownBlock]at S;omega)
             have du:=(b1.cell (p:=⟨bb,P+j*2,none⟩) (by show bb<_;omega)).trans z4)
          | (refine yH (.tmp 81) (.tmp 89) 54 rfl rfl underlying54 A.heap.size _ (0+a) ([]++T.take (a*2)) rfl (by first|exact I|exact I.alloc _) _ 1 _ [Value.slice ai f.items.length ci,Value.slice a3 (zi f.vec).length n3] rfl rfl (.inr ⟨_,rfl,vI (vt := 59) (by first|exact tq bg _|exact(F.block _ dF dG).trans (yw A _ _)|exact(F.block _ dF dG).trans (yx A _ _))⟩) aB a8 (by have:=F.size;simp at this⊢<;>omega) ?_
             intro dt bZ am af cn;have b2:Below A.heap.size A bZ:=by first|exact b1.grown af b1.size (λj S=>(I.lt j S).1)|exact(b1.alloc b1.size _).grown af (by have:=b1.size;simp<;>omega) (λj S=>(I.lt j S).1))
          | (refine yH (.tmp 90) (.tmp 93) 54 rfl rfl underlying54 A.heap.size _ (0+a+1) ([]++T.take (a*2)++[Value.slice ai f.items.length ci,Value.slice a3 (zi f.vec).length n3]) rfl am _ ((o.length-a)) _ (T.drop (a*2)) rfl (by simp[aM]<;>omega) (bG.o _ b2) bW a8 b2.size ?_
             intro bY cb an ag aV;have HR:=qL (aP.o bY cb (b2.grown ag b2.size λj S=>(am.lt j S).1) an);clear an ag aV))
         all_goals (go_wp2_with fail;all_goals (go_roundg (k.length-(j+1));(case measure=>omega);(case rel=>exact⟨j+1,ak,rfl,b6,HR.o.1,HR.o.2⟩)))
       .obtain rfl:a=o.length:=a8;have aq:True:=trivial
        go_wp2_with fail
        obtain⟨A,bc⟩:=xm (wr);subst bc;have cD:=M.o.size;obtain⟨T,Z,aW⟩:=aR.o;have aM:=Z.2.1;have X:=qL Z;have bD:=qL aW;have be:xt.follows .mixedOrders=true:=dL;have aE:∀u∈T,u.oneCell'=true:=Z.2.2;have bU:∀u∈([]:List Value),u.oneCell'=true:=λu H=>(by cases H);have aB:∀u∈[(.slice ai f.items.length ci:Value),.slice a3 (zi f.vec).length n3],u.oneCell'=true:=yF rfl rfl;have aZ:∀W:World,Below A.heap.size A W->(o.length=0/\ad=none)\/∃a',ad=some a'/\∀j u,T[j]?=some u->W.cell? (a'.add j)=some u:=λW Q=>by
         rcases X.o.cases with⟨e,e2,rfl⟩|⟨g,cg,bK,e,_⟩
         .cases ad with
          |none=>exact .inl ⟨e2,rfl⟩
          |some a=>exact .inr ⟨a,rfl,λj u h=>by simp at h⟩
         .obtain⟨rfl,_,rfl⟩:ad=some ⟨g,0,none⟩/\o.length=o.length/\E=cg:=(dK e);refine .inr ⟨_,rfl,λj u hx=>?_⟩;have h9:=tK X.o.1 (g:=g) rfl j u hx;rw[zh,wn]at h9⊢;exact(Q.cell (p:=⟨g,j,none⟩) (tr A ⟨g,j,none⟩ h9)).trans h9
        have ba:(0=0/\(if E=o.length then ad else Option.map (λx=>x.add (o.length*2)) ad)=none)\/∃a',(if E=o.length then ad else Option.map (λx=>x.add (o.length*2)) ad)=some a':=by
         cases ad<;>simp;split<;>simp
        have bF:=qL aZ;have bG:=qL ba;have J:∀(v:Value)(W:World),Below A.heap.size A W->W.ownsRow A.heap.size 59 2 v (0+o.length+1+0) ([]++T++[Value.slice ai f.items.length ci,Value.slice a3 (zi f.vec).length n3]++[]) ->
         OutG C mb w.heap.size W v (zL (k.take (j+1)))/\Keep (λb=>w.heap.size<=b) w W:=λv W Q ho=>by
         have hi:zL (k.take (j+1))=o.take o.length++⟨f.items,zi f.vec⟩::o.drop o.length:=(by rw[aQ.o,yo,Vq bH.o,bE.o,UO (tj _),Wr,uO]);refine⟨?_,((V.o.trans (Keep.of_below' M.o (Zp _))).trans (Keep.of_below' Q (Zp _)))⟩;rw[hi];have hp:Dat (DX C mb A (.slice ad o.length E)) A (.slice ai f.items.length ci) (rg f.items):=(bC.o _ _ bB.o A M.o).mono (λb o' h=>⟨.inl h,aO.o b o' h⟩) λ_ _ _ _ h=>h;have ao:W.ownsRow A.heap.size 59 2 v (o.length+1) (T.take (o.length*2)++[Value.slice ai f.items.length ci,Value.slice a3 (zi f.vec).length n3]++T.drop (o.length*2)):=(by have e1:0+o.length+1+0=o.length+1:=a8;rw[e1,Y1]at ho;rw[wm a8,wA a8];exact ho);refine OutG.insK (f:=⟨f.items,zi f.vec⟩) (Zp _) X.o.2.1 bD.o hp bj.o (λh=>DX.new h (λb o h=>by have:=bi.o b o h;omega) Q λk hk=>(ao.lt k hk).1) ⟨Vw ao a8,?_,?_⟩
         .simp[aM];omega
         .intro u H;rcases wF.1 H with H|H
          .rcases wF.1 H with H|H
           .exact X.o.2.2 u (WH H)
           .exact yF rfl rfl u H
          .exact X.o.2.2 u (Wv H)
        have aP:=qL J;have co:bb<A.heap.size:=a8;have z4:=c4;clear J Z aW aZ ba;go_region_law_o (first
         | (refine yH (.tmp 77) (.tmp 80) 54 rfl rfl underlying54 A.heap.size (.slice (some ⟨_,0,none⟩) 0 0) 0 [] rfl (zdz a8 (by first|exact tq _ _|exact tq A _|exact yw _ _ _|exact yx _ _ _|exact yw A _ _|exact yx A _ _)) _ o.length _ T rfl (by simp[aM]<;>omega) (bF.o _ (by first|exact YR _ _|exact XM _ _ _)) aE a8 dF ?_
            intro ds bg I F cm;have b1:Below A.heap.size A bg:=by first|exact(YR A _).grown F dF (λj S=>by simp[Value.ownBlock]at S;omega)|exact(XM A _ _).grown F dF (λj S=>by simp[Value.ownBlock]at S;omega)
            have du:=(b1.cell (p:=⟨bb,P+j*2,none⟩) (by show bb<_;omega)).trans z4)
         | (refine yH (.tmp 81) (.tmp 89) 54 rfl rfl underlying54 A.heap.size _ (0+o.length) ([]++T) rfl (by first|exact I|exact I.alloc _) _ 1 _ [Value.slice ai f.items.length ci,Value.slice a3 (zi f.vec).length n3] rfl rfl (.inr ⟨_,rfl,vI (vt := 59) (by first|exact tq bg _|exact(F.block _ dF dG).trans (yw A _ _)|exact(F.block _ dF dG).trans (yx A _ _))⟩) aB a8 (by have:=F.size;simp at this⊢<;>omega) ?_
            intro dt bZ am af cn;have b2:Below A.heap.size A bZ:=by first|exact b1.grown af b1.size (λj S=>(I.lt j S).1)|exact(b1.alloc b1.size _).grown af (by have:=b1.size;simp<;>omega) (λj S=>(I.lt j S).1))
         | (refine yH (.tmp 90) (.tmp 93) 54 rfl rfl underlying54 A.heap.size _ (0+o.length+1) ([]++T++[Value.slice ai f.items.length ci,Value.slice a3 (zi f.vec).length n3]) rfl am _ 0 _ ([]) rfl b6 (by rcases bG.o with h|⟨a,h⟩;exact .inl h;exact .inr ⟨a,h,λj u S=>by simp at S⟩) bU a8 b2.size ?_
            intro bY cb an ag aV;have HR:=qL (aP.o bY cb (b2.grown ag b2.size λj S=>(am.lt j S).1) an);clear an ag aV))
        all_goals (go_wp2_with fail;all_goals (go_roundg (k.length-(j+1));(case measure=>omega);(case rel=>exact⟨j+1,ak,rfl,b6,HR.o.1,HR.o.2⟩)))
    .have h0:f.items=[]:=by cases hf:f.items with|nil=>rfl|cons a l=>rw[hf]at h2;simp at h2
     have b2:((f.items.length:Int) == 0)=true:=(by rw[h0];rfl);have H0:=qL h0;clear h0
     go_wp2_with (first
      | (go_at_call 135;have _t:=ab;refine aN.o.mono ?_;rintro e w3 ⟨a3,n3,rfl,O,aK⟩
         have c3:=(O.cell (p:=⟨bb,P+j*2,none⟩) (by show bb<_;omega)).trans c0;have ac:=qL O;clear O aK ab)
      |go_in)
     go_roundg (k.length-(j+1));case measure=>omega
     case rel=>refine⟨j+1,ak,rfl,b6,?_,V.o.trans (Keep.of_below' ac.o (Zp _))⟩;rw[aQ.o,yo,Vm (.inr H0.o)];exact N.o.keep ac.o.size λb hb=>ac.o.block b hb
   .have h0:zi f.vec=[]:=by cases hf:zi f.vec with|nil=>rfl|cons a l=>rw[hf]at h1;simp at h1
    have b1:(((zi f.vec).length:Int) == 0)=true:=(by rw[h0];rfl);have H0:=qL h0;clear h0
    go_wp2_with (first
     | (go_at_call 135;have _t:=ab;refine aN.o.mono ?_;rintro e w3 ⟨a3,n3,rfl,O,aK⟩
        have ac:=qL O;clear O aK ab)
     |go_in)
    go_roundg (k.length-(j+1));case measure=>omega
    case rel=>refine⟨j+1,ak,rfl,b6,?_,V.o.trans (Keep.of_below' ac.o (Zp _))⟩;rw[aQ.o,yo,Vm (.inl H0.o)];exact N.o.keep ac.o.size λb hb=>ac.o.block b hb
  .obtain rfl:j=k.length:=a8
   go_wp2_with fail
   refine tA (tL rfl _ _ _) rfl ?_;refine⟨_,rfl,V.o,?_⟩;by_cases h0:1<=w.heap.size
   .have h:=N.o.dat a8;rw[HO.o,Wr]at h;refine(show Dat (DL C mb wr) wr _ (kp (zL k)) from by rw[HO.o,Wr];exact h).mono (λb o h=>h.imp id λh=>⟨a8,h.2⟩) λ_ _ _ _ h=>h
   .have cx:k=[]:=by
     cases k with
     |nil=>rfl
     |cons f l=>obtain⟨bb,P,_,dd,_⟩:=br.o.2.2 (by intro e;subst e;simp at hl);omega
    have dm:o=[]:=(by rw[HO.o,cx];rfl);subst dm;subst cx;exact zfP c8
def Kc{B:Qk}{R:List Nat}{n:Nat}(k:List Fg)(hk:Kn B R n k)(ok:OkX B R)(C:n<=100000):Cn xt 98 [kp k] (kp (zL k)):=by refine yZ rfl (enters_of func98 dL rfl) λD w G u o j A=>?_;rw[KB j];refine(QD D k _ w hk ok C (A 0 _ rfl) o u).mono ?_;rintro e H ⟨v,rfl,hb,E⟩;exact⟨v,rfl,hb.below (Zp _) λ_ h F=>a8,E⟩
def zdp(s:ByteArray)(w:World):Calls xt 60 #[.string s,.nilIface] w λe j=>(∃u,e=.returned u)/\j=w:=by
 go_enter func60,ntmps60
 go_wp2
 go_end0
 exact⟨⟨_,rfl⟩,rfl⟩
def JI(p:Addr)(w:World):
 CallsD xt 59 #[.pointer (some p)] .returning w λe u A=>e=.returned (.tuple #[])/\u=.returning/\A=w:=by
 refine callsD_of_wpS func59 rfl λj B o=>?_;apply wpS_seq;apply wpS_region;simp[wpOpsS,go_sem,recoverD,o,ntmps59,Exit.thenS];refine wpS_of_wp ?_
 go_wp2;cases j;simp_all[bodyPostS,results,Tryz.results59]
end
section
attribute [-go_sem] z7
def BdK.of{k:List Fg}(h:RightK k)(hz:QW k):BdK k:=by refine⟨λf j=>⟨?_,λe o=>Jg ((h f j).2.1 e o),by have:=(hz.2 f j).1;omega,by have:=(hz.2 f j).2.1;omega⟩,by have:=hz.1;omega⟩;intro s hs;have:=NF.lo_ge (h f j).1 s hs;omega
def KH{C:xT}{w0 w:World}{k:List Fg}{v:Value}(H:RightK k)(hz:QW k)(L:Dat C w0 v (kp k))(F:∀b o,C b o->b<w0.heap.size)(K:GL C w0)(hb:Below w0.heap.size w0 w):
 Calls xt 40 #[v] w λe J=>e=.returned .nilIface/\Below w.heap.size w J:=by
 have j:=BdK.of H hz;have G:=Vh k j hz;rw[yk ((ZN j).2 H)]at G;have I:∀b o x,C b o->w0.cell? ⟨b,o,none⟩=some x->w.cell? ⟨b,o,none⟩=some x:=λb o x h M=>(tp (a:=⟨b,o,none⟩) (hb.block b (F b o h))).trans M;refine(jP (D:=C) G (K.mono (λ_ _ h=>h) I) (λb o h=>vw (F b o h) hb.size) rfl (λi p A=>?_)).mono ?_
 .match i,A with
  |0,A=>cases A;exact L.mono (λ_ _ h=>h) I
  |i+1,A=>simp at A
 .rintro e J ⟨u,rfl,B,E⟩;have e:=(Rel.dat (ρ:=λ_=>0) (nb:=0) E).v_inv;rw[e];exact⟨rfl,B⟩
def qB(j:List Fv):List Value:=j.flatMap λf=>[sv f.1,sv f.2]
def Yo:∀(o:List Fv)(j:Nat)(u:Value),(qB o)[j]?=some u->∃i,∃h:i<o.length,(j=i*2/\u=sv o[i].1)\/(j=i*2+1/\u=sv o[i].2)
 |[],j,u,h=>by simp[qB]at h
 |f::o,0,u,h=>⟨0,b6,.inl ⟨rfl,by simpa[qB]using h.symm⟩⟩
 |f::o,1,u,h=>⟨0,b6,.inr ⟨rfl,by simpa[qB]using h.symm⟩⟩
 | f::o,j+2,u,h=>by
   obtain⟨i,hi,w⟩:=Yo o j u (by simpa[qB]using h);refine⟨i+1,a9,?_⟩;rcases w with⟨e,e2⟩|⟨e,e2⟩
   .exact .inl ⟨a8,dK e2⟩
   .exact .inr ⟨a8,dK e2⟩
def Z5:∀(j:List Fv)(i:Nat)(h:i<j.length),(qB j)[i*2]?=some (sv j[i].1)/\(qB j)[i*2+1]?=some (sv j[i].2)
 |f::j,0,h=>⟨rfl,rfl⟩
 |f::j,i+1,h=>by have:=Z5 j i (dK h);rw[show (i+1)*2=i*2+2 by omega];exact⟨by simpa[qB]using this.1,by simpa[qB]using this.2⟩
def jf(j:List Fv):(qB j).length=j.length*2:=by
 induction j with
 |nil=>rfl
 |cons f j ih=>simp[qB]at ih⊢;omega
def jg(o:List Fv):∀u∈qB o,u.oneCell'=true:=λu w=>by
 obtain⟨f,_,j⟩:=um.1 w;simp at j;rcases j with rfl|rfl<;>rfl
def Zn{H:Nat}{w W:World}{B:Option Addr}{C:Nat}{A:List Fv}(h:zeF H w B C A)(F:∀b o x,b<H->w.cell? ⟨b,o,none⟩=some x->W.cell? ⟨b,o,none⟩=some x):(A.length=0/\B=none)\/∃a,B=some a/\∀j u,(qB A)[j]?=some u->W.cell? (a.add j)=some u:=by
 by_cases E:A=[]
 .subst E;cases B with
  |none=>exact .inl ⟨rfl,rfl⟩
  |some a=>exact .inr ⟨a,rfl,λj u h=>by simp[qB]at h⟩
 .obtain⟨b,K,rfl,hb,G⟩:=h.2.2 E;refine .inr ⟨_,rfl,λj u J=>?_⟩;obtain⟨i,hi,I⟩:=Yo A j u J;rw[zh];rcases I with⟨rfl,rfl⟩|⟨rfl,rfl⟩
  .exact F _ _ _ hb (G i hi).1
  .exact F _ _ _ hb (by rw[<-Ww];exact(G i hi).2)
def Jb{E:Array Oper}{rest:List Oper}{o:Oper}{a:Act}{w:World}{Q:Exit->Act->World->Prop}(s x:Operand)(t:TypeId)(K:o.guard=none)
 (ho:o.op=.call { callee:=.builtin .append,args:=#[s,x],argTypes:=#[t,t] }) (ht:xt.underlying t=some (.slice 59)) (base:Nat) (v:Value) (n:Nat) (L:List Value) (hs:a.eval s=v) (G:w.ownsRow base 59 2 v n L)
 (I:Option Addr) (m c:Nat) (A:List Value) (V:a.eval x=.slice I m c) (S:A.length=m*2) (C:(m=0/\I=none)\/∃a,I=some a/\∀j u,A[j]?=some u->w.cell? (a.add j)=some u) (M:∀u∈A,u.oneCell'=true) (J:n+m<=1073741824) (B:base<=w.heap.size)
 (h:∀F H,H.ownsRow base 59 2 F (n+m) (L++A)->w.grownBy H v.ownBlock->(F.ownBlock=v.ownBlock\/F.ownBlock=some w.heap.size)->wpList xt E Q rest (a.put o.dst F) H):wpList xt E Q (o::rest) a w:=by
 have U:Region.wanted o (yielded E a.tmps)=true:=by simp[Region.wanted,K]
 unfold wpList;rw[Vm U];refine .inl ?_;obtain⟨F,H,T,N,O,P⟩:=YI w t o.type ht base v n L G I m c A S C M J B;unfold Oper.wp execOp;simp only[ho,resolve,invoke,builtin,tH,tJ,tB,ui,WA,ub,hs,V,T];exact h F H N O P
def OutG.two{C:xT}{mb base:Nat}{w0 w:World}{v:Value}{a b:List Fg}{fa j:List Fv}(B:fa.length=a.length)(E:j.length=b.length)(ho:w.ownsRow base 59 2 v (0+a.length+b.length) ([]++qB fa++qB j))
 (K:∀b o,C b o->b<w0.heap.size) (hb:Below w0.heap.size w0 w) (I:w0.heap.size<=base)
 (M:∀i (h:i<fa.length),Dat C w0 (sv fa[i].1) (rg (a[i]'(B▸h)).items)/\Dat C w0 (sv fa[i].2) (vp (a[i]'(B▸h)).vec)) (db:∀i (h:i<j.length),Dat C w0 (sv j[i].1) (rg (b[i]'(E▸h)).items)/\Dat C w0 (sv j[i].2) (vp (b[i]'(E▸h)).vec)):OutG C mb base w v (a++b):=by
 have A:∀{x:Value}{p:PV},Dat C w0 x p->Dat (DX C mb w v) w x p:=λh=>h.mono (λb o h=>⟨.inl h,λe=>by have:=(ho.lt b e).1;have:=K b o h;omega⟩) λb o x O S=>(tp (a:=⟨b,o,none⟩) (hb.block b (K b o O))).trans S;have L:=jf fa;have Q:=jf j;refine⟨qB fa++qB j,⟨by rw[wi,<-wn a.length];exact ho,a9,λu F=>?_⟩,λi hi=>?_⟩
 .rcases wF.1 F with F|F
  .exact jg fa u F
  .exact jg j u F
 .by_cases N:i<a.length
  .obtain⟨e1,e2⟩:=Z5 fa i a8;obtain⟨G,H⟩:=M i a8;have J:(a++b)[i]=a[i]:=ur N;rw[J];exact⟨_,_,by rw[V2 a8];exact e1,by rw[V2 a8];exact e2,A G,A H⟩
  .have P:i-a.length<b.length:=(by simp at hi;omega);obtain⟨e1,e2⟩:=Z5 j (i-a.length) a8;obtain⟨G,H⟩:=db (i-a.length) a8;have J:(a++b)[i]=b[i-a.length]:=Wy a8;rw[J];exact⟨_,_,by rw[V1 a8,L,show i*2-fa.length*2=(i-a.length)*2 by omega];exact e1,by rw[V1 a8,L,show i*2+1-fa.length*2=(i-a.length)*2+1 by omega];exact e2,A G,A H⟩
end
structure Rt12(k:List Fg):Prop where
 f:vx k=true
 r:RightK k
 kn:Kn (CK k) (RK k) 240 k
 ok:OkX (CK k) (RK k)
def CKL(l:List (List Fg))(r:Nat):List Nat:=l.flatMap λk=>CK k r
def RKL(l:List (List Fg)):List Nat:=l.flatMap RK
def Kn.at{C:Qk}{R:List Nat}{n:Nat}{k:List Fg}(h:Kn C R n k)(ok:OkX C R)(x:Nat):SmV (qc k x):=(h.ik.at x).1.smv ok.c
def Kn.app{C:Qk}{R:List Nat}{n m:Nat}{a b:List Fg}(j:Kn C R n a)(hb:Kn C R m b):Kn C R (n+m) (a++b):=by
 refine⟨j.r.app hb.r,λf o=>(wF.1 o).elim (j.ik f) (hb.ik f),λf o=>(wF.1 o).elim (j.s f) (hb.s f),?_,?_⟩
 .have:=kK a b;have:=j.m;have:=hb.m;omega
 .rw[wi];have:=j.l;have:=hb.l;omega
def Kn.parts{C:Qk}{R:List Nat}{n m:Nat}{f:Q9}(j:f false false=false){a b:List Fg}(o:Kn C R n a)(hb:Kn C R m b)(ok:OkX C R):Kn C R (1+2*(n+m)) (yy f a b):=by
 have A:=xW (a++b);have B:=YO (a++b);have E:=kK a b;have F:=o.m;have G:=hb.m;have u:∀g∈yy f a b,WV C R g.vec:=λg w=>by obtain⟨s,_,rfl⟩:=wD.1 w;exact IV.lat j (o.ik.at s.lo).1.iv (hb.ik.at s.lo).1.iv
 refine⟨xU o.r hb.r,λf j=>(u f j).iv,λf j=>(u f j).smv ok.c,?_,?_⟩
 .unfold yy;rw[Zf];omega
 .unfold yy;rw[wB];omega
def Kn.do{C:Qk}{R:List Nat}{n m:Nat}{f:Q9}(o:f false false=false){a b:List Fg}(j:Kn C R n a)(hb:Kn C R m b)(ok:OkX C R):Kn C R (1+2*(n+m)) (vh f a b):=(j.parts o hb ok).group ok
def Kn.canon{C:Qk}{R:List Nat}{n:Nat}{k:List Fg}(h:Kn C R n k)(ok:OkX C R):Kn C R (1+2*n) (zbx k):=(h.refine ok).group ok
noncomputable def Zx (f:Q9) (a b:List Fg) (s:Iv):Fg:=⟨[s],ks f (qc a s.lo) (qc b s.lo)⟩
def Qr(f:Q9)(a b:List Fg){j:Nat}(h:j<(zu (a++b)).length):((zu (a++b)).take (j+1)).map (λs=>fc (Zx f a b s))=((zu (a++b)).take j).map (λs=>fc (Zx f a b s))++[fc (Zx f a b (zu (a++b))[j])]:=by rw[X4 h,WK];rfl
def YC(f:Q9)(a b:List Fg){j:Nat}(h:(zu (a++b)).length<=j):((zu (a++b)).take j).map (λs=>fc (Zx f a b s))=(yy f a b).map fc:=by rw[wm h];unfold yy;rw[Ub];rfl
def KQ:Nat->Code->Code
 |0,c=>c
 |n+1,.seq _ c=>KQ n c
 |_,c=>c
def zjO{B:Qk}{R:List Nat}{n:Nat}(f:Q9)(M:f false false=false)(op:FuncId)(a b:List Fg)(F:Kn B R n a)(hb:Kn B R n b)(ok:OkX B R)(P:n<=40000)
 (I:∀x,Cn xt op [vp (qc a x),vp (qc b x)] (vp (ks f (qc a x) (qc b x)))) :
 pW xt Tryz.f63.ntmps True ((qx xt Tryz.f63.ntmps [] (KQ 7 (xN Tryz.f63))).getD .sk) (jG [.t 6,.c 7 false 1] (.tup [kp (vh f a b),.v .nilIface])) ⟨[(0,kp a),(1,kp b),(2,.fn (.func op) [] []),(7,.bx 0 0),(8,kp (a++b)),(9,.sl [] .z)],[[.v .nilIface]]⟩:=by
 have G:=F.app hb;have A:=G.ok12 ok a8;have u:=F.ok12 ok a8;have w:=hb.ok12 ok a8;have N:=xW (a++b);have L:=A.t;have J:=F.parts M hb ok;have H:=zfn (yy f a b) J ok a8
 conv=>arg 4;cbv
 refine pw ?_;refine .c (zdF (a++b) A.r A.z (by have:=A.l;omega) A.t) ?_;refine pLoop.go (λj=>j<=(zu (a++b)).length) (λj=>[(9,.sl (((zu (a++b)).take j).map (λs=>fc (Zx f a b s))) (.r 51 2)),(32,.v (.int .i64 (j:Nat)))]) (λ_=>[[.v .nilIface]]) (λj=>(zu (a++b)).length-j) 0 [9,32] ?_ ?_ ?_
 .exact X3 _
 .exact pd
 .rintro j O;refine pw ?_;refine .i ?_ ?_<;>intro h<;>first|refine pw ?_|exact pd
  .have K:=Qr f a b h;refine .c (zgU a (zu (a++b))[j].lo u.ik u.ok u.r u.s u.z) ?_;refine .c (zgU b (zu (a++b))[j].lo w.ik w.ok w.r w.s w.z) ?_;have C:=I (zu (a++b))[j].lo
   (first|refine .c (C) ?_|refine .o (C) ?_)
   refine cutP.full rfl ?_ rfl ?_ ?_
   .exact pd
   .exact pd
   .refine pw ?_;exact⟨j+1,h,a8,K.symm,rfl⟩
  .have E:Cn xt 103 [.sl (((zu (a++b)).take j).map (λs=>fc (Zx f a b s))) .sh] (kp (vh f a b)):=(by rw[YC f a b a8];exact H)
   (first|exact .d (E)|exact .q (E))
section
attribute [-go_sem] z7 zae zaf Vr
def zeG(x y:Nat)(h:x+y<=80000)(w:World):(binOp .add 3 (.int .i64 (x:Nat)) (.int .i64 (y:Nat))).run xt w=.ok (.int .i64 ((x+y:Nat):Int)) w:=by go_simp;rw[TA];omega
def Vk{B:Qk}{R:List Nat}{n:Nat}(f:Q9)(hf:f false false=false)(op:FuncId)(a b:List Fg)(ha:Kn B R n a)(hb:Kn B R n b)(ok:OkX B R)(hn:n<=40000)
 (aM:∀x,Cn xt op [vp (qc a x),vp (qc b x)] (vp (ks f (qc a x) (qc b x)))):Cn xt 63 [kp a,kp b,.fn (.func op) [] []] (.tup [kp (vh f a b),.v .nilIface]):=by
 refine yZ rfl (enters_of func63 dL rfl) λD w S hG hD aO hd=>?_;have d0:Dat D w (S.getD 0 undef) (kp a):=hd 0 _ rfl;have d1:Dat D w (S.getD 1 undef) (kp b):=hd 1 _ rfl;have d2:Dat D w (S.getD 2 undef) (.fn (.func op) [] []):=hd 2 _ rfl;obtain⟨v0,N⟩:=xm (S.getD 0 undef);obtain⟨v1,O⟩:=xm (S.getD 1 undef);rw[<-N]at d0;rw[<-O]at d1;have e2:S.getD 2 undef=.func (.func op) #[] #[]:=by
  generalize S.getD 2 undef=x at d2;cases d2 with
  |fn f va vb fs cs h1 h2 h3 h4=>obtain rfl:va=#[]:=UE (dK h1);obtain rfl:vb=#[]:=UE (dK h2);rfl
 obtain rfl:S=#[v0,v1,.func (.func op) #[] #[]]:=by
  obtain⟨l⟩:=S;match l,aO with
  |[p,q,s],_=>simp at N O e2;rw[N,O,e2]
 clear d2 e2 N O aO hd;obtain⟨aa,ca,fa,rfl,ak,E,da⟩:=kX d0 hD;obtain⟨ab,cb,fb,rfl,am,F,db⟩:=kX d1 hD;have bt:=ha.l;have bu:=hb.l;have bj:=E.1;have bl:=F.1;have aB:=E.2.1;have aC:=F.2.1;unfold maxLen at aB aC;rw[ak]at bj;rw[am]at bl;have aS:=qL (λW (hW:Below w.heap.size w W)=>KH ha.r (ha.z a8) d0 hD hG hW);have aT:=qL (λW (hW:Below w.heap.size w W)=>KH hb.r (hb.z a8) d1 hD hG hW);have aY:=qL (λW (hW:Below w.heap.size w W)=>Zn (W:=W) E λb o x h hx=>(tp (a:=⟨b,o,none⟩) (hW.block b h)).trans hx);have aZ:=qL (λW (hW:Below w.heap.size w W)=>Zn (W:=W) F λb o x h hx=>(tp (a:=⟨b,o,none⟩) (hW.block b h)).trans hx);have aU:=qL d0;have aV:=qL d1;have aW:=qL da;have aX:=qL db;have ba:=qL hG;have H:=qL hD;have HA:=qL ha;have HB:=qL hb;have bc:=qL ak;have be:=qL am;have bh:=qL aM;obtain⟨i0,aI,aP,aQ,aR⟩:=tR Z9;have J:=jf fa;have K:=jf fb;rw[ak]at J;rw[am]at K;clear d0 d1 da db E F hG hD ha hb;have br:=zeG a.length b.length a8;have HI:=qL (And.intro aI (And.intro aP (And.intro aQ aR)));have au:=qL (And.intro J K);clear aI aP aQ aR J K aM;have T:True:=trivial;have U:True:=trivial;have V:True:=trivial;have X:True:=trivial;have Y:True:=trivial
 go_enter_defers func63,ntmps63
 go_upto_region 6 with(first
  | (go_at_call 40;have _t:=T;refine(aS.o _ ((tv _ _).alloc (Zp _) _)).mono ?_;rintro e w1 ⟨rfl,af⟩
     have ao:Boxed w1 w.heap.size 41 .nilIface:=(af.block _ b6).trans (tq w _);have av:=qL ao;have Z:=qL (((tv _ w).alloc (Zp _) _).trans (af.mono b6));have bw:=ao.lt;clear af ao T)
  |(go_at_call 60;refine(zdp _ _).mono ?_;rintro e w' ⟨⟨u,rfl⟩,rfl⟩)
  | (go_at_call 40;have _t:=U;refine(aT.o _ Z.o).mono ?_;rintro e w2 ⟨rfl,ag⟩
     have aq:Boxed w2 w.heap.size 41 .nilIface:=(ag.block _ av.o.lt).trans av.o;have bi:=qL aq;have ar:=qL (Z.o.trans (ag.mono Z.o.size));have bz:=aq.lt;clear ag aq U)
  | (at_make;have _t:=V;refine wpList_make_own _ rfl _ _ 54 rfl (w.heap.size+1) 59 i0 _ 2 underlying54 HI.o.1 HI.o.2.1 HI.o.2.2.1 .i64 .i64 _ (a.length+b.length) rfl rfl b6 (by rw[HI.o.2.2.2];omega) c8 a8 ?_
     intro w3 aJ ah;have M:=qL aJ;have L:=qL (ar.o.grown ah ar.o.size λj hj=>by cases hj);have aw:=qL (bi.o.kept ah b6);clear aJ ah V;dsimp only[Act.put])
  | (at_builtin;have _t:=X;refine Jb _ _ 54 rfl rfl underlying54 (w.heap.size+1) _ 0 [] rfl M.o _ a.length ca (qB fa) rfl au.o.1 (by rcases aY.o _ L.o with h|h;exact .inl ⟨by have:=h.1;omega,h.2⟩;exact .inr h) (jg fa) a8 (by have:=M.o.lt;have:=L.o.size;have:=aw.o.lt;omega) ?_
     intro v4 w4 aK ai bp;have ae:=qL aK;have ac:=qL (L.o.grown ai L.o.size λj hj=>by have:=(M.o.lt j hj).1;omega);have ax:=qL (aw.o.kept ai λe=>by have:=(M.o.lt _ e.symm).1;omega);clear aK ai bp X;dsimp only[Act.put])
  | (at_builtin;have _t:=Y;refine Jb _ _ 54 rfl rfl underlying54 (w.heap.size+1) _ (0+a.length) ([]++qB fa) rfl ae.o _ b.length cb (qB fb) rfl au.o.2 (by rcases aZ.o _ ac.o with h|h;exact .inl ⟨by have:=h.1;omega,h.2⟩;exact .inr h) (jg fb) a8 (by have:=ax.o.lt;omega) ?_
     intro v5 w5 aL aj bq;have bg:=qL aL;have ad:=qL (ac.o.grown aj ac.o.size λj hj=>by have:=(ae.o.lt j hj).1;omega);have ay:=qL (ax.o.kept aj λe=>by have:=(ae.o.lt _ e.symm).1;omega);clear aL aj bq Y;dsimp only[Act.put])
  |go_in)
 have bn:=OutG.two (C:=D) (mb:=w.heap.size) (base:=w.heap.size+1) (a:=a) (b:=b) bc.o be.o bg.o H.o ad.o a8 aW.o aX.o;have aD:=bn.dat a8;have bA:=ay.o.lt;have A:∀b o x,D b o->w.cell? ⟨b,o,none⟩=some x->w5.cell? ⟨b,o,none⟩=some x:=λb o x h hx=>(tp (a:=⟨b,o,none⟩) (ad.o.block b (H.o b o h))).trans hx;have I:=ad.o;have an:=‹∀(a:Act)(w:World),Code.wp _ _ _ a w->_›
 apply wp_region_lit;unfold wpList;rw[Vm (by simp[Region.wanted])];refine .inl ?_;unfold Oper.wp execOp;simp only[tJ];refine an _ _ ?_;refine T5 (zih (nt:=Tryz.f63.ntmps) (D:=DL D w.heap.size w5) dL ba.o _ ⟨I.os,I.tape,I.output,I.size,λk hk _=>I.block k hk,λb o h=>.inl h,A,λb o h=>h.imp id λh=>.inl (uz h.1),H.o⟩ (λb o h=>h.elim (λh=>by have:=H.o b o h;omega) uf) (Zp _) ay.o (.v _) rfl (λo h=>h.elim (λh=>by have:=H.o _ o h;omega) λh=>a8) rfl [(0,kp a),(1,kp b),(2,.fn (.func op) [] []),(7,.bx 0 0),(8,kp (a++b)),(9,.sl [] .z)] (λt=>?_) (λt=>?_) rfl (Q:=jG [.t 6,.c 7 false 1] (.tup [kp (vh f a b),.v .nilIface])) ?_) ?_
 .rcases t with _|_|_|_|_|_|_|_|_|_|t
  .exact .inr (aU.o.mono (λ_ _ h=>.inl h) A)
  .exact .inr (aV.o.mono (λ_ _ h=>.inl h) A)
  .exact .inr (.fn _ #[] #[] [] [] rfl rfl (λ_ _ h=>by simp at h) (λ_ _ h=>by simp at h))
  .exact .inr (.und _)
  .exact .inr (.und _)
  .exact .inr (.und _)
  .exact .inr (.und _)
  .exact .inl ⟨rfl,rfl⟩
  .exact .inr aD
  .exact .inr (.sl none 0 0 [] .z 0 0 (λ_=>undef) (Zp _) (λ_=>rfl) (X3 _) b6 (λi e h=>by simp at h) (λj h=>by simp at h) (λi e j p h=>by simp at h))
  .exact .inr (.und _)
 .rcases t with _|_|_|_|_|_|_|_|_|_|t<;>rfl
 .exact zjO f hf op a b HA.o HB.o ok hn bh.o
 .intro e a1 w1 hQ;obtain⟨he,aF,v,D',aN,G,az,aE⟩:=zfM (P:=xt) (fn:=Tryz.f63) dL hQ;have aA:Below w.heap.size w w1:=⟨G.os,G.tape,G.output,G.size,λk hk=>G.block k hk λh=>h⟩;have aH:Dat (λb o=>D b o\/(w.heap.size<=b/\b<w1.heap.size)) w1 v (.tup [kp (vh f a b),.v .nilIface]):=aE.mono (λb o h=>by
   rcases G.new b o h with h1|h1|h1
   .exact .inl h1
   .exact .inr ⟨h1,az b o h⟩
   .exact h1.elim) (λ_ _ _ _ h=>h)
  obtain⟨tm,df⟩:=a1;simp only[Act.put]at aF;subst aF;have aG:Leaves xt Tryz.f63 tm (λe w'=>∃v,e=.returned v/\Below w.heap.size w w'/\Dat (λb o=>D b o\/(w.heap.size<=b/\b<w'.heap.size)) w' v (.tup [kp (vh f a b),.v .nilIface])) [{ target:=.fn (.func 59) #[],args:=#[.pointer (some ⟨w.heap.size,0,none⟩)] }] .returning w1:=(by refine leaves_cons (f := 59) (args:=#[.pointer (some ⟨w.heap.size,0,none⟩)]) b6 (by simp[go_sem]) ?_;refine(JI ⟨w.heap.size,0,none⟩ _).mono ?_;rintro e u' bB ⟨rfl,rfl,rfl⟩;exact⟨v,aN,v,rfl,aA,aH⟩);rcases he with rfl|rfl<;>exact aG
def zog{D:xT}{w:World}:Dat D w (.slice none 0 0) (.sl [] .sh):=
 .sl none 0 0 [] .sh 0 0 (λ_=>undef) (Zp _) (λ_=>rfl) (X3 _) b6 (λi e h=>by simp at h) (λj h=>by simp at h) (λi e j p h=>by simp at h)
def znT{D:xT}{w:World}{u v:Value}{p q:PV}(o:Dat D w u p)(A:Dat D w v q)(B:u.oneCell'=true)(C:v.oneCell'=true):Dat D w (.agg #[u,v]) (.agg [p,q]):=
 .agg _ _ rfl (λi hi=>match i,hi with|0,_=>B|1,_=>C|i+2,hi=>by simp at hi;omega) λi r j=>match i,j with
  |0,j=>by cases j;exact o
  |1,j=>by cases j;exact A
  |i+2,j=>by simp at j
def zou(s:ByteArray)(x:Nat×Int):PV:=.ifc 145 (.agg [.v (.string s),jS x.1 x.2])
def zmb{x:Nat×Int}(h:x.1≠0):jS x.1 x.2=.ifc 115 (.agg [.v (.int .i64 x.1),.v (.int .i64 x.2)]):=Vq h
def zn4(c:Nat):ByteArray:=⟨#[101,114,114,111,114,32,UInt8.ofNat (48+c)]⟩
def zoU(c:Nat)(u:c<=9)(w:World):Calls xt 24 #[.int .i64 c] w λe o=>e=.returned (.string (zn4 c))/\o=w:=by
 have j:c=0\/c=1\/c=2\/c=3\/c=4\/c=5\/c=6\/c=7\/c=8\/c=9:=a8
 rcases j with rfl|rfl|rfl|rfl|rfl|rfl|rfl|rfl|rfl|rfl;all_goals
  go_enter func24,ntmps24
  go_wp2;apply wp_loop_once
  go_wp2;refine tA (tL rfl _ _ _) rfl ?_;exact⟨dL,rfl⟩
def zoT(c:Nat)(u:c<=9):Cn xt 24 [.v (.int .i64 c)] (.v (.string (zn4 c))):=by
 refine Js rfl (enters_of func24 dL rfl) λD w o B j A=>?_;have d0:=(Rel.dat (ρ:=λ_=>0) (nb:=0) (A 0 _ rfl)).v_inv;obtain rfl:o=#[.int .i64 c]:=by
  obtain⟨l⟩:=o;match l,j with
  |[p],_=>simp at d0;rw[d0]
 refine(zoU c u w).mono ?_;rintro e C ⟨rfl,rfl⟩;exact⟨_,rfl,tv _ _,.v _⟩
def zol{t:TypeId}{m:String}{f:FuncId}(h:∀(v:Value)(w:World),(method (xt.types.size+Made.depth) t v m).run xt w=.ok (f,v) w):Mth xt t m f:=λv j w=>by unfold callMethod;simp only[tH,run_program,tB,h]
def zn8:Mth xt 145 "Error" 237 := zol λv w=>dL
def zn7:Mth xt 115 "Error" 235 := zol λv w=>dL
end
def zoi(c:Nat)(k:Int)(j:c<=9):Cn xt 235 [.agg [.v (.int .i64 c),.v (.int .i64 k)]] (.v (.string (zn4 c))):=by refine zt func235 1 ?_;refine pw ?_;exact .d (zoT c j)
def zoq:ByteArray:=⟨#[58,32]⟩
def zor:(⟨#[58,32]⟩:ByteArray).size=2:=rfl
def zoJ(c:Nat):(zn4 c).size=7:=rfl
def zom(s:ByteArray)(x:Nat×Int)(hs:s.size<=1000)(j:x.1≠0)(o:x.1<=9):Cn xt 237 [.agg [.v (.string s),jS x.1 x.2]] (.v (.string (s++zoq++zn4 x.1))):=by
 rw[zmb j];have w:(Array.mk [(58:UInt8),32]).size=2:=rfl;have u:=zor;have z2:=zoJ x.1;have A:(s++⟨#[58,32]⟩:ByteArray).size=s.size+2:=by rw[ByteArray.size_append,u]
 refine zt func237 1 ?_;refine pw ?_;refine .mk zn7 ?_;refine .c (zoi x.1 x.2 o) ?_;rfl
def zqf(s:ByteArray)(c k:Int)(w:World)(o:HG w):Calls xt 47 #[.iface 145 (.agg #[.string s,.iface 115 (.agg #[.int .i64 c,.int .i64 k])]),.iface 108 (.pointer (some ⟨w.heap.size,0,none⟩))] (w.alloc (.cells #[.int .i64 0] 66))
 λev j=>ev=.returned (.bool true)/\Below w.heap.size w j/\j.cell? ⟨w.heap.size,0,none⟩=some (.int .i64 c):=by
 refine(As.as_DN s c k ⟨w.heap.size,0,none⟩ (.int .i64 0) _ (o.alloc _) b6 b6).mono ?_;rintro ev j ⟨rfl,rfl⟩;refine⟨rfl,?_,?_⟩
 .refine tZ (((((((((tv _ w).alloc ?_ _).alloc ?_ _).alloc ?_ _).alloc ?_ _).alloc ?_ _).alloc ?_ _).alloc ?_ _)) ?_ _<;>simp<;>omega
 .refine tT _ _ _ (u:=.int .i64 0) ?_;rw[tu _ _ ⟨w.heap.size,0,none⟩ a9,tu _ _ ⟨w.heap.size,0,none⟩ a9,tu _ _ ⟨w.heap.size,0,none⟩ a9,tu _ _ ⟨w.heap.size,0,none⟩ a9,tu _ _ ⟨w.heap.size,0,none⟩ a9,tu _ _ ⟨w.heap.size,0,none⟩ b6];simp
def zqS(s:ByteArray)(c k:Int)(w:World)(j:HG w):Calls xt 19 #[.iface 145 (.agg #[.string s,.iface 115 (.agg #[.int .i64 c,.int .i64 k])])] w λe o=>e=.returned (.int .i64 c)/\Below w.heap.size w o:=by
 go_enter func19,ntmps19
 go_wp2_with (go_at_call 47;refine(zqf s c k w j).mono ?_;rintro e A ⟨rfl,hb,u⟩)
 go_ret;exact⟨rfl,hb⟩
def zqg(s:ByteArray)(c k:Int)(T:Nat)(W:World)(I:HG W)(A:W.cell? ⟨T,0,none⟩=some (.int .i64 0))(C:W.cell? ⟨T,1,none⟩=some (.int .i64 0))(G:W.frozen? ⟨T,0,none⟩=false)(H:W.frozen? ⟨T,1,none⟩=false):
 Calls xt 47 #[.iface 145 (.agg #[.string s,.iface 115 (.agg #[.int .i64 c,.int .i64 k])]),.iface 167 (.pointer (some ⟨T,0,none⟩))] W
 λev u=>ev=.returned (.bool true)/\Keep (λb=>b=T) W u/\u.cell? ⟨T,0,none⟩=some (.int .i64 c)/\u.cell? ⟨T,1,none⟩=some (.int .i64 k):=by
 have J:T<W.heap.size:=tr W ⟨T,0,none⟩ A;refine(As.as_DF s c k T W I (by rw[A];rfl) (by rw[C];rfl) G H).mono ?_;rintro ev u ⟨rfl,rfl⟩;obtain⟨j,o,w⟩:∃j,j=((((W.alloc (.cells #[.pointer (some ⟨T,0,none⟩)] 167)).alloc (.cells #[.pointer (some ⟨1,167,none⟩),.pointer (some ⟨W.heap.size,0,none⟩),.int .u64 150] 159)).alloc (.cells #[.pointer (some ⟨1,167,none⟩),.pointer (some ⟨W.heap.size,0,none⟩),.int .u64 150] 159)).alloc (.cells #[.string s,.iface 115 (.agg #[.int .i64 c,.int .i64 k])] 145)).alloc (.cells #[.int .i64 c,.int .i64 k] 115)/\Keep (λb=>b=T) W j:=
  ⟨_,rfl,(((((Keep.refl _ W).alloc _).alloc _).alloc _).alloc _).alloc _⟩
 have B:Keep (λ_=>False) W j:=by rw[o];exact(((((Keep.refl _ W).alloc _).alloc _).alloc _).alloc _).alloc _
 rw[<-o];have E:=B.cell_some A id;have F:=B.cell_some C id;unfold World.setCells World.setCells World.setCells;have b1:(j.setCell ⟨T,0,none⟩ (.int .i64 c)).cell? ⟨T,0,none⟩=some (.int .i64 c):=tT _ _ _ E;have b2:(j.setCell ⟨T,0,none⟩ (.int .i64 c)).cell? ⟨T,1,none⟩=some (.int .i64 0):=by rw[Th _ _ _ _ b6];exact F
 refine⟨rfl,(w.setCell (λ_=>rfl) _).setCell (λ_=>rfl) _,?_,tT _ _ _ b2⟩;show ((j.setCell ⟨T,0,none⟩ _).setCell ⟨T,0+1,none⟩ _).cell? _=_;rw[Th _ _ _ _ b6];exact b1
section
attribute [-go_sem] z7 zae zaf Vr
def HG.below{w j:World}{n:Nat}(h:HG w)(hb:Below n w j)(o:0<n):HG j:=(hb.cell (p:=⟨0,0,none⟩) o).trans h
end
structure Rc where
 item:Nat
 rep:Nat
 ctr:Nat
 val:ByteArray
def rcc(x:Rc):List PV:=[.v (.int .u64 x.item),.v (.int .u64 x.rep),.v (.int .u64 x.ctr),.v (.string x.val)]
def rcp(x:Rc):PV:=.agg (rcc x)
def rcv(x:Rc):Value:=.agg #[.int .u64 x.item,.int .u64 x.rep,.int .u64 x.ctr,.string x.val]
def lp(l:List Rc):PV:=.sl (l.map rcc) .sh
def zrZ(l:List Rc)(i:Nat):Option Rc:=l.find? λx=>decide (x.item=i)
def zr4:List Rc->Rc->List Rc
 |[],x=>[x]
 |y::l,x=>if y.item<x.item then y::zr4 l x else if y.item=x.item then x::l else x::y::l
def zr8(l:List Rc):Prop:=l.Pairwise λx y=>x.item<y.item
def zr3:∀{l:List Rc}{x y:Rc},y∈zr4 l x->y=x\/y∈l
 |[],x,y,h=>by simp[zr4]at h;exact .inl h
 | z::l,x,y,h=>by
   unfold zr4 at h;split at h
   .rcases V3.1 h with rfl|h
    .exact .inr b6
    .exact(zr3 h).imp id λh=>by simp[h]
   .split at h
    .exact(V3.1 h).imp id λh=>by simp[h]
    .exact(V3.1 h).imp id id
def ztN:∀(l:List Rc)(x:Rc),(zr4 l x).length<=l.length+1
 |[],x=>by simp[zr4]
 | z::l,x=>by
   unfold zr4;have:=ztN l x;split
   .simp;omega
   .split<;>simp
def zr6:∀{l:List Rc}{x:Rc},zr8 l->zr8 (zr4 l x)
 |[],x,_=>by simp[zr4,zr8]
 | z::l,x,h=>by
   obtain⟨o,u⟩:=wj.1 h;unfold zr4;split
   .rename_i hlt;exact wj.2 ⟨λy j=>(zr3 j).elim (λe=>by rw[e];exact hlt) (o y),zr6 u⟩
   .split
    .rename_i e;exact wj.2 ⟨λy j=>by have:=o y j;omega,u⟩
    .refine wj.2 ⟨λy j=>?_,h⟩;rcases V3.1 j with rfl|j
     .omega
     .have:=o y j;omega
def zsB{l:List Rc}{i:Nat}{x:Rc}(h:zrZ l i=some x):x∈l/\x.item=i:=by unfold zrZ at h;exact⟨uG h,by simpa using List.find?_some h⟩
def zrf(y:Rc)(l:List Rc)(i:Nat):zrZ (y::l) i=if y.item=i then some y else zrZ l i:=by
 unfold zrZ;rw[List.find?_cons];by_cases h:y.item=i<;>simp[h]
def zsb:∀{l:List Rc}{x:Rc}(i:Nat),zr8 l->zrZ (zr4 l x) i=if x.item=i then some x else zrZ l i
 |[],x,i,_=>by rw[zr4,zrf]
 | z::l,x,i,h=>by
   obtain⟨o,j⟩:=wj.1 h;unfold zr4;split
   .rename_i hlt;rw[zrf,zsb i j,zrf];by_cases e:z.item=i
    .rw[Vm e,Vm e,Vq a8]
    .rw[Vq e,Vq e]
   .split
    .rename_i e0;rw[zrf,zrf];by_cases e:x.item=i
     .rw[Vm e,Vm e]
     .rw[Vq e,Vq e,Vq a8]
    .rw[zrf]
def ixR:List Rc->Nat->Int->Int
 |[],_,_ =>-1
 |x::l,i,n=>if x.item=i then n else ixR l i (n+1)
section
open Go.Maps Go.ChangeMaps
attribute [-go_sem] z7
def zR:Value:=.agg #[.int .u64 0,.int .u64 0,.int .u64 0,.string ⟨#[]⟩]
def zsv(w:World):(zeroValue 47).run xt w=.ok zR w:=dL
def zRc:Rc:=⟨0,0,0,⟨#[]⟩⟩
def MR(t B:Nat)(w:World)(l:List Rc):Prop:=∃D,w.ownsMap xt 36 rV B t D/\IsMap D/\(∀r,has D (kR r)=(zrZ l r).isSome)/\∀r,D.atKey (kR r) (.held zR)=.held (rcv ((zrZ l r).getD zRc))
def MR.made(w:World):MR 0 w.heap.size (w.alloc (.map #[] 0)) []:=⟨_,TQ _ _ _ _,⟨[],rfl⟩,λr=>by simp[has,zrZ],λr=>by simp[zrZ];rfl⟩
def MR.keep{t B:Nat}{w w':World}{l:List Rc}(h:MR t B w l)(hb:w'.heap[B]?=w.heap[B]?):MR t B w' l:=by obtain⟨D,j,o⟩:=h;exact⟨D,yg j hb,o⟩
def MR.lt{t B:Nat}{w:World}{l:List Rc}(h:MR t B w l):B<w.heap.size:=by obtain⟨D,j,_⟩:=h;exact j.lt
def MR.mono{t j B:Nat}{w:World}{l:List Rc}(h:MR t B w l)(ht:t<=j):MR j B w l:=by obtain⟨D,o,u⟩:=h;exact⟨D,o.mono ht,u⟩
def zsX{t B:Nat}{w:World}{l:List Rc}{j:Array Oper}{rest:List Oper}{o:Oper}{a:Act}{Q:Exit->Act->World->Prop}(G:o.guard=none)(m x:Operand)(u:o.op=.lookup 82 m x true)
 (H:a.eval m=.map (some B)) (h:MR t B w l) {r:Nat} (J:r<zk) (K:a.eval x=.int .u64 (r:Nat))
 (I:zrZ l r=none->wpList xt j Q rest (a.put o.dst (.tuple #[.agg #[.int .u64 0,.int .u64 0,.int .u64 0,.string ⟨#[]⟩],.bool false])) w) (hs:∀y,zrZ l r=some y->wpList xt j Q rest (a.put o.dst (.tuple #[.agg #[.int .u64 y.item,.int .u64 y.rep,.int .u64 y.ctr,.string y.val],.bool true])) w):wpList xt j Q (o::rest) a w:=by
 obtain⟨D,C,L,E,F⟩:=h;refine wpList_lookup_own_ok w G m x _ u 36 47 vF underlying82 rV (zsv w) (.held zR) [] rfl B t D H C _ (kR r) K (Zq J) λv M A=>?_;rw[F r]at A;unfold rV at A;cases A;rw[E r];cases hq:zrZ l r with
 |none=>exact I hq
 |some y=>exact hs y hq
def ztf{t B:Nat}{w:World}{l:List Rc}{u:Array Oper}{rest:List Oper}{o:Oper}{a:Act}{Q:Exit->Act->World->Prop}(H:o.guard=none)(m x:Operand)(C:o.op=.lookup 82 m x false)
 (I:a.eval m=.map (some B)) (h:MR t B w l) {r:Nat} (J:r<zk) (K:a.eval x=.int .u64 (r:Nat)) {y:Rc} (L:zrZ l r=some y) (hs:wpList xt u Q rest (a.put o.dst (.agg #[.int .u64 y.item,.int .u64 y.rep,.int .u64 y.ctr,.string y.val])) w):wpList xt u Q (o::rest) a w:=by
 obtain⟨D,F,N,O,G⟩:=h;refine TX H λM A=>?_;obtain⟨v,P,j,E⟩:=F.lookup vF underlying82 (zsv w) (zd:=.held zR) (zp:=[]) rfl (Zq J);rw[G r,L]at E;unfold rV at E;cases E;unfold Oper.wp;simp[execOp,C,I,K,j,Result.andThen];exact A _ _ hs
def MR.put{t B:Nat}{u:World}{D:DV}{l:List Rc}{y:Rc}(j:IsMap D)(w:∀r,has D (kR r)=(zrZ l r).isSome)(A:∀r,D.atKey (kR r) (.held zR)=.held (rcv ((zrZ l r).getD zRc)))(o:zr8 l)(C:u.ownsMap xt 36 rV B t (D.put (kR y.item) (.held (rcv y)))):MR t B u (zr4 l y):=by
 refine⟨_,C,j.put _ _,λs=>?_,λs=>?_⟩
 .rw[zsb s o];by_cases e:s=y.item
  .subst e;rw[TY j (Qc _),Vm rfl];rfl
  .rw[TU (λh=>e (Xa h)),w s,Vq (λh=>e h.symm)]
 .rw[zsb s o];by_cases e:s=y.item
  .subst e;rw[Vm rfl];exact atKey_put_same j (Qc _) _ _
  .rw[Vq (λh=>e h.symm),T2 (λh=>e (Xa h))];exact A s
open Go.WideElems Go.MapKept Go.ChangeMaps in
def zuk{w:World}{B:Nat}{u:Array MapEntry}{c:Nat}{y v:Value}{kl:Lit}(hb:w.heap[B]?=some (.map u c))(F:WideElems.Fit (H:=Value) xt 36 rV u c)(hk:keyOf xt 36 y=some kl):
 ∃(v0:Value) (st:Nat) (J:Array MapEntry) (Y:Nat),(Instr.mapEntry 82 (.map (some B)) y).run xt w=.ok (.tuple #[v0,goInt st]) (setBlock w B (.map J Y))/\∀N:World,N.heap[B]?=some (.map J Y) ->
  ∃K Z,(Instr.entryStore 82 (.map (some B)) (goInt st) v).run xt N=.ok () (setBlock N B (.map K Z))/\(Instr.mapUpdate 82 (.map (some B)) y v).run xt w=.ok () (setBlock w B (.map K Z)):=by
 have S:=tI (w:=w) underlying82
 have Q:=TH (P:=xt) hb;have C:=λem=>vF.check w em hk;have E:=λo=>TI (P:=xt) o hb;rcases vF.find w hk u.toList F.keys with⟨L,_⟩|⟨j,I,L,G,O⟩
 .refine⟨zR,c,u.push ⟨y,zR,c⟩,c+1,?_,λN M=>⟨u.push ⟨y,v,c⟩,c+1,?_,?_⟩⟩
  .simp[Instr.mapEntry,S,Q,C,L,zsv,E,Result.andThen,setBlock];exact⟨rfl,rfl⟩
  .have V:((u.push ⟨y,zR,c⟩).toList.map (·.born)).Nodup:=(by rw[UX,WK,Ur];refine⟨F.stamped.2.1,b6,λa ha b hb e=>?_⟩;obtain⟨x,hx,rfl⟩:=wD.1 ha;have:=F.stamped.1 x hx;simp at hb;omega);have A:=findIdx_born V (j:=u.size) (e0:=⟨y,zR,c⟩) b6;rw[<-findIdx_arr]at A;have U:(u.push ⟨y,zR,c⟩).modify u.size (λe=>{ e with val:=v })=u.push ⟨y,v,c⟩:=Array.ext' (by
    rw[Ue,UX,UX,<-Array.length_toList,modify_last])
   simp[Instr.entryStore,TH M,asInt,asIntOf,goInt,A,U,TI _ M,Result.andThen,setBlock]
  .simp[Instr.mapUpdate,S,Q,C,L,E,Result.andThen,setBlock]
 .have hj:u[j]?=some I:=(dK G);have T:({ I with key:=y }:MapEntry)=I:=(by rw[<-O]);have X:u.modify j (λe=>{ e with key:=y })=u:=Array.ext' (by rw[Ue,modify_eq_set _ _ _ _ G,T];exact set_self _ _ _ G);refine⟨I.val,I.born,u,c,?_,λN M=>⟨u.modify j (λe=>{ e with key:=y,val:=v }),c,?_,?_⟩⟩
  .simp[Instr.mapEntry,S,Q,C,L,hj,O,vF.stays w hk,X,E,Result.andThen,setBlock]
  .have A:=findIdx_born F.stamped.2.1 G;rw[<-findIdx_arr]at A;have U:u.modify j (λe=>{ e with val:=v })=u.modify j (λe=>{ e with key:=y,val:=v }):=Array.ext' (by rw[Ue,Ue,modify_eq_set _ _ _ _ G,modify_eq_set _ _ _ _ G,<-O]);simp[Instr.entryStore,TH M,asInt,asIntOf,goInt,A,U,TI _ M,Result.andThen,setBlock]
  .simp[Instr.mapUpdate,S,Q,C,L,hj,O,vF.stays w hk,E,Result.andThen,setBlock]
def zu8{t B:Nat}{w:World}{l:List Rc}(h:MR t B w l)(T:zr8 l)(U:t<maxLen){y:Rc}(N:y.item<zk):∃(I:Value) (st:Int) (J K:World),(Instr.mapEntry 82 (.map (some B)) (.int .u64 (y.item:Nat))).run xt w=.ok (.tuple #[I,.int .i64 st]) J /\
 (Instr.entryStore 82 (.map (some B)) (.int .i64 st) (rcv y)).run xt J=.ok () K/\MR (t+1) B K (zr4 l y)/\w.grownBy K (some B)/\(∀k,k≠B->J.heap[k]?=w.heap[k]?):=by
 obtain⟨D,M,P,Q,S⟩:=h;obtain⟨w',j,X,Y⟩:=M.update vF underlying82 U (Zq N) (val:=rcv y) rfl;have E:=M;obtain⟨Z,C,hb,F,_,_⟩:=E;obtain⟨I,st,o,A,e1,e2⟩:=zuk (v:=rcv y) hb F (Zq N);have H:=(Yf.1 hb).1;have G:(setBlock w B (.map o A)).heap[B]?=some (.map o A):=by simp[setBlock,H]
 obtain⟨u,L,O,V⟩:=e2 _ G;rw[V]at j;cases j;have e:setBlock (setBlock w B (.map o A)) B (.map u L)=setBlock w B (.map u L):=by simp[setBlock]
 rw[e]at O;exact⟨I,st,_,_,e1,O,MR.put P Q S T X,Y,λk hk=>by simp[setBlock,Ug hk]⟩
end
section
open Go.Maps
attribute [-go_sem] z7
def ztw:∀{r xs:List Nat},r.Nodup->(∀y∈r,y∈xs)->r.length<=xs.length
 |[],_,_,_=>X3 _
 |x::r,xs,h,hm=>by obtain⟨u,w⟩:=UH.1 h;have j:x∈xs:=hm x b6;have:=ztw (xs:=xs.erase x) w λy o=>(W6 (λe=>u (by rw[<-e];exact o))).2 (hm y (by simp[o]));rw[WI j]at this;have:=uj j;simp;omega
def MR.hasq{D:DV}{l:List Rc}(j:∀r,has D (kR r)=(zrZ l r).isSome){x:Nat}:ztm D x↔(zrZ l x).isSome=true/\x<zk:=by unfold ztm;rw[show kQ x=kR x from rfl,j x]
def zt7{D:DV}{l:List Rc}(u:∀r,has D (kR r)=(zrZ l r).isSome){pre:List Nat}(h:ztD D pre):pre.length<=l.length:=by
 have:=ztw (xs:=l.map Rc.item) h.1 λy w=>by obtain⟨z,hz⟩:=wZ.1 ((MR.hasq u).1 (h.2 y w)).1;obtain⟨j,o⟩:=zsB hz;exact wD.2 ⟨z,j,o⟩
 simpa using this
def zuh{t B A:Nat}{w:World}{D:DV}(j:w.ownsMap xt 36 rV B t D)(o:Boxed w A 82 (.map (some B)))(J:∀pre,ztD D pre->pre.length<=1000000):
 Calls xt 109 #[.func (.func 111) #[] #[.pointer (some ⟨A,0,none⟩)]] w λe C=>∃u pre,e=.returned u/\OwnN w.heap.size C u pre/\ztD D pre/\(∀x,x∈pre↔ztm D x)/\Below w.heap.size w C:=by
 have H:=qL (ztF j o J);clear j o;go_enter func109,ntmps109
 go_wp2_with (go_at_call 149;refine H.o.mono ?_;rintro e K ⟨u,pre,rfl,E,F,G,I⟩)
 go_ret;exact⟨_,pre,rfl,E,F,G,I⟩
def ztu{l:List Rc}(A:zr8 l){j:List Nat}(o:j.Pairwise (·<=·))(u:j.Nodup)(w:∀x,x∈j↔(zrZ l x).isSome=true):j=l.map Rc.item:=by
 refine jK ?_ (uw.2 A) λx=>?_
 .exact o.imp₂ (λa b h n=>a8) u
 .rw[w x];constructor
  .intro h;obtain⟨z,hz⟩:=wZ.1 h;obtain⟨B,C⟩:=zsB hz;exact wD.2 ⟨z,B,C⟩
  .intro h;obtain⟨z,hz,rfl⟩:=wD.1 h;cases hg:zrZ l z.item with
   |some y=>rfl
   |none=>unfold zrZ at hg;rw[Uj]at hg;exact absurd b6 (hg z hz)
def zuC(a:Option Addr)(c:Nat)(w:World):Calls xt 183 #[.slice a 0 c,.int .i64 0,.int .i64 0] w λe j=>e=.returned (.tuple #[])/\j=w:=by
 go_enter func183,ntmps183
 go_wp2_with fail
 refine To 2 ?_;rw[Ta]
 go_wp2_with fail
 go_end0
 exact⟨rfl,rfl⟩
def zuL(a:Option Addr)(c:Nat)(l:Int)(w:World):Calls xt 150 #[.slice a 0 c,.int .i64 0,.int .i64 0,.int .i64 l] w λe j=>e=.returned (.tuple #[])/\j=w:=by
 go_enter func150,ntmps150
 go_wp2_with fail
 refine To 2 ?_;rw[Ta]
 go_wp2_with (go_at_call 183;refine(zuC _ _ _).mono ?_;rintro e o ⟨rfl,rfl⟩)
 refine tA (tN rfl _ _ _) rfl ?_;exact⟨rfl,rfl⟩
def zuq(a:Option Addr)(c:Nat)(w:World):Calls xt 110 #[.slice a 0 c] w λe j=>e=.returned (.tuple #[])/\Below w.heap.size w j:=by
 go_enter func110,ntmps110
 go_wp2_with (first
  |(go_at_call 150;refine(zuL _ _ _ _).mono ?_;rintro e o ⟨rfl,rfl⟩)
  |go_in)
 go_end0
 exact⟨rfl,tv _ _⟩
def ztZ{w o:World}{u:Value}{l:List Rc}{pre:List Nat}(F:zr8 l)(C:OwnN w.heap.size o u pre)(M:pre.Nodup)(L:pre.length<=1000000)(E:∀x,x∈pre↔(zrZ l x).isSome=true)(A:Below w.heap.size w o):
 Calls xt 110 #[u] o λe B=>e=.returned (.tuple #[])/\OwnU w.heap.size B u (l.map Rc.item)/\Below w.heap.size w B:=by
 have j:OwnU w.heap.size o u pre:=C;by_cases G:pre=[]
 .subst G;have e:[]=l.map Rc.item:=ztu F List.Pairwise.nil US E;obtain⟨a,c,rfl⟩:∃a c,u=.slice a 0 c:=by
   rcases C.2 with⟨h,L⟩|⟨g,I,J,h,_⟩
   .exact⟨none,0,h⟩
   .exact⟨_,_,h⟩
  refine(zuq a c o).mono ?_;rintro K B ⟨rfl,hb⟩;rw[<-e];exact⟨rfl,j.keep λg N=>hb.block g (j.lt g N).2,A.trans (hb.mono A.size)⟩
 .obtain⟨T,H,O,P⟩:=zeb j G a8;have e:T=l.map Rc.item:=ztu F O (H.nodup_iff.2 M) λx=>(by rw[H.mem_iff,E x]);refine P.mono ?_;rintro K B ⟨rfl,Q,S⟩;rw[<-e];exact⟨rfl,Q,A.grown S A.size λk hk=>(j.lt k hk).1⟩
def ztB{t B G:Nat}{w:World}{l:List Rc}(K:zr8 l)(Y:MR t B w l)(hi:∀x∈l,x.item<zk)(A:Boxed w G 82 (.map (some B)))(L:l.length<=1000000):
 Calls xt 67 #[.func (.func 111) #[] #[.pointer (some ⟨G,0,none⟩)]] w λe N=>∃u,e=.returned u/\OwnU w.heap.size N u (l.map Rc.item)/\Below w.heap.size w N:=by
 obtain⟨D,j,_,o,_⟩:=Y;have H:=qL (zuh j A λpre h=>V0 (zt7 o h) L);have O:=qL K;have I:=qL o;have P:=qL hi;clear j A K o hi;go_enter func67,ntmps67
 go_wp2_with (go_at_call 109;refine H.o.mono ?_;rintro e w1 ⟨u,pre,rfl,E,F,o,J⟩
              have M:∀x,x∈pre↔(zrZ l x).isSome=true:=λx=>(by rw[o x,MR.hasq I.o];refine⟨UT,λh=>⟨h,?_⟩⟩;obtain⟨z,hz⟩:=wZ.1 h;obtain⟨Z,q2⟩:=zsB hz;rw[<-q2];exact P.o z Z);have C:=ztZ O.o E F.1 (V0 (zt7 I.o F) L) M J;obtain⟨ua,uc,rfl⟩:∃a c,u=.slice a pre.length c:=by
               rcases E.2 with⟨h,U⟩|⟨g,S,T,h,_⟩
               .exact⟨none,0,by rw[h,show pre.length=0 from U]⟩
               .exact⟨_,_,h⟩
              have Q:=qL C;clear E F o J C M)
 refine Q.o.mono ?_;rintro e w2 ⟨rfl,V,X⟩;dsimp only
 go_wp2_with fail
 refine tA (tL rfl _ _ _) rfl ?_;exact⟨_,rfl,V,X⟩
end
def cn_bool{f:FuncId}{B:List PV}{b:Bool}(G:Cn xt f B (.v (.bool b))){D:xT}{w:World}{vs:Array Value}(F:GL D w)(E:∀b o,D b o->b<w.heap.size)(A:vs.size=B.length)(j:∀(i:Nat) p,B[i]?=some p->Dat D w (vs.getD i undef) p):
 Calls xt f vs w λe C=>e=.returned (.bool b)/\Below w.heap.size w C:=by
 refine(jP G F E A j).mono ?_;rintro e C ⟨u,rfl,hb,j⟩;have e:=(Rel.dat (ρ:=λ_=>0) (nb:=0) j).v_inv;rw[e];exact⟨rfl,hb⟩
def zrm{S:Nat->Prop}{w:World}{a:Option Addr}{n c:Nat}(h:MuI S w (.slice a n c)){j:Nat}(F:j<n):∃b o u A,a=some ⟨b,o,none⟩/\S b/\w.cell? ⟨b,o+j*2,none⟩=some (.int .u64 u)/\w.frozen? ⟨b,o+j*2,none⟩=false/\w.cell? ⟨b,o+j*2+1,none⟩=some (.int .u64 A)/\w.frozen? ⟨b,o+j*2+1,none⟩=false:=by obtain⟨M,L,B,e,_,_,C⟩:=h;cases e;obtain⟨b,o,rfl,E⟩:=C a8;obtain⟨⟨G,u,H,I⟩,⟨_,A,J,K⟩⟩:=E j F;exact⟨b,o,u,A,rfl,G,H,I,J,K⟩
def wp_some{P:Program}{c:Code}{a:Act}{W:World}{Q:Exit->Act->World->Prop}{R:World->Prop}(h:R W)(k:∀W,R W->c.wp P Q a W):c.wp P Q a W:=k W h
def zsm{S:Nat->Prop}{w:World}{a:Option Addr}{n c:Nat}(h:MuF S w (.slice a n c)){j:Nat}(K:j<n):∃b o C A u E B cv,a=some ⟨b,o,none⟩/\w.cell? ⟨b,o+j*2,none⟩=some (.slice C A u)/\A<=u/\u<=2 ^ 63-1/\MuI S w (.slice C A u)/\w.cell? ⟨b,o+j*2+1,none⟩=some (.slice E B cv)/\B<=cv/\cv<=2 ^ 63-1/\MuE S w (.slice E B cv):=by obtain⟨X,V,H,e,_,_,I⟩:=h;cases e;obtain⟨b,o,rfl,J⟩:=I a8;obtain⟨⟨x,P,F⟩,y,Q,G⟩:=J j K;have T:=F;have U:=G;obtain⟨A,C,u,rfl,L,M,_⟩:=T;obtain⟨B,E,cv,rfl,N,O,_⟩:=U;exact⟨b,o,C,A,u,E,B,cv,rfl,P,L,M,F,Q,N,O,G⟩
section
attribute [-go_sem] z7
def dat_row{D:xT}{w:World}{x:Value}{A:List (List PV)}{sz:Nat}(h:Dat D w x (.sl A .sh))(hs:∀e∈A,e.length=sz):
 ∃K B E,x=.slice K A.length B/\A.length<=B/\B<=maxLen/\E.length=A.length*sz/\(∀u∈E,u.oneCell'=true)/\((A.length=0/\E=[])\/∃b C,K=some ⟨b,C,none⟩/\∀(j:Nat)(u:Value),E[j]?=some u->D b (C+j)/\w.cell? ⟨b,C+j,none⟩=some u) /\
  ∀(i:Nat)(e:List PV)(j:Nat)(p:PV),A[i]?=some e->e[j]?=some p->∃u,E[i*sz+j]?=some u/\Dat D w u p:=by
 generalize ho:Ow.sh=o at h;cases h with
 | sl a B sz' A o b C u hc hz hm ha hsz hD hd=>
   by_cases J:A=[]
   .subst J;exact⟨a,B,[],rfl,hc,hm,b6,λ_ h=>by simp at h,.inl ⟨rfl,rfl⟩,λi e j p h=>by simp at h⟩
   .obtain rfl:sz'=sz:=by
     cases A with
     |nil=>exact absurd rfl J
     |cons e A=>exact(hsz 0 e rfl).symm.trans (hs e b6)
    refine⟨a,B,(List.range (A.length*sz')).map u,rfl,hc,hm,b6,λv F=>?_,.inr ⟨b,C,ha J,λj v F=>?_⟩,λi e j p H M=>?_⟩
    .obtain⟨j,L,rfl⟩:=wD.1 F;exact(hD j (dK L)).2.2
    .rw[wh]at F;obtain⟨k,hk,rfl⟩:=ZZ.1 F;obtain⟨G,rfl⟩:=Zw.1 hk;simp at G;rw[UV];exact⟨(hD j G).1,(hD j G).2.1⟩
    .have hi:=(Zw.1 H).1;have L:j<sz':=(by rw[<-hsz i e H];exact(Zw.1 M).1);have I:i*sz'+j<A.length*sz':=(by have:=Wu sz' (show i+1<=A.length from hi);rw[W7]at this;omega);refine⟨u (i*sz'+j),?_,hd i e j p H M⟩;rw[wh,uK I];rfl
def run_app_G(w:World)(t O e:TypeId)(F:TypeInfo)(z:Value)(sz B:Nat)(ht:xt.underlying t=some (.slice e))(hi:xt.info? e=some F)(hz:F.zero=some z)(hs:F.size=sz)(hb:F.bytes=B)(hzs:z.cells.size=sz)(N:0<sz)(L:B<=64)
 (base:Nat) (v:Value) (n:Nat) (Q:List Value) (A:w.ownsRow base e sz v n Q) (I:Option Addr) (m c:Nat) (o:List Value) (S:o.length=m*sz)
 (E:(m=0/\I=none)\/∃a,I=some a/\∀j u,o[j]?=some u->w.cell? (a.add j)=some u) (V:∀u∈o,u.oneCell'=true) (K:n+m<=1073741824) (C:base<=w.heap.size) :
 ∃G H,(Builtin.append_ #[t,t] O #[v,.slice I m c]).run xt w=.ok G H/\H.ownsRow base e sz G (n+m) (Q++o)/\w.grownBy H v.ownBlock/\(G.ownBlock=v.ownBlock\/G.ownBlock=some w.heap.size):=by
 rcases E with⟨rfl,rfl⟩|⟨a,rfl,X⟩
 .obtain rfl:o=[]:=wY.1 (dK S);obtain⟨J,cp,rfl,M⟩:∃J cp,v=.slice J n cp/\n<=cp:=by
   rcases A.2 with⟨rfl,rfl⟩|⟨g,T,U,rfl,_,_,h,_⟩
   .exact⟨none,0,rfl,Zp _⟩
   .exact⟨_,_,rfl,h⟩
  exact⟨_,w,ve w t O _ F ht hi J n cp c M,dK A,jW _ _,.inl rfl⟩
 .obtain⟨G,H,Y,Z,r3,_,r5⟩:=Tk (P:=xt) w base t O e F z sz B ht hi hz hs hb hzs N v n Q A a m c o S X V c8 (by
   calc (n+m)*B<=1073741824*64:=UR K L
    _<=140737488355328:=b8) C
  exact⟨G,H,Y,Z,r3,r5⟩
def zq6{F:Array Oper}{rest:List Oper}{o:Oper}{a:Act}{w:World}{Q:Exit->Act->World->Prop}(s x:Operand)(t e:TypeId)(N:o.guard=none)
 (ho:o.op=.call { callee:=.builtin .append,args:=#[s,x],argTypes:=#[t,t] }) (I:TypeInfo) (z:Value) (sz B:Nat) (ht:xt.underlying t=some (.slice e)) (hi:xt.info? e=some I) (hz:I.zero=some z) (O:I.size=sz) (hb:I.bytes=B) (hzs:z.cells.size=sz) (P:0<sz) (M:B<=64)
 (base:Nat) (v:Value) (n:Nat) (S:List Value) (hs:a.eval s=v) (H:w.ownsRow base e sz v n S)
 (K:Option Addr) (m c:Nat) (A:List Value) (hx:a.eval x=.slice K m c) (Y:A.length=m*sz) (E:(m=0/\K=none)\/∃a,K=some a/\∀j u,A[j]?=some u->w.cell? (a.add j)=some u) (T:∀u∈A,u.oneCell'=true) (L:n+m<=1073741824) (C:base<=w.heap.size)
 (h:∀G J,J.ownsRow base e sz G (n+m) (S++A)->w.grownBy J v.ownBlock->(G.ownBlock=v.ownBlock\/G.ownBlock=some w.heap.size)->wpList xt F Q rest (a.put o.dst G) J):wpList xt F Q (o::rest) a w:=by
 have hw:Region.wanted o (yielded F a.tmps)=true:=by simp[Region.wanted,N]
 unfold wpList;rw[Vm hw];refine .inl ?_;obtain⟨G,J,Z,U,V,X⟩:=run_app_G w t o.type e I z sz B ht hi hz O hb hzs P M base v n S H K m c A Y E T L C;unfold Oper.wp execOp;simp only[ho,resolve,invoke,builtin,tH,tJ,tB,ui,WA,ub,hs,hx,Z];exact h G J U V X
def zrH{w:World}{base A:Nat}{e:TypeId}{sz:Nat}(j:base<=A)(h:w.heap[A]?=some (.cells #[] e (0,0))):w.ownsRow base e sz (.slice (some ⟨A,0,none⟩) 0 0) 0 []:=⟨b6,.inr ⟨A,0,#[],rfl,j,h,Zp _,X3 _,b6,b6⟩⟩
def eqlV_some(j:Addr)(n c:Nat)(w:World):(binOp .eql 57 (.slice (some j) n c) (.slice none 0 0)).run xt w=.ok (.bool false) w:=dL
def eqlV_none(n c:Nat)(w:World):(binOp .eql 57 (.slice none n c) (.slice none 0 0)).run xt w=.ok (.bool true) w:=dL
def zqZ:(xt.info? 181).map (λi=>(i.zero,i.size,i.bytes))=some (some (.agg #[.int .u64 0,.int .u64 0,.slice none 0 0]),3,40):=dL
def znV{D:xT}{w:World}{x:Value}{es:List (List PV)}(d:Dat D w x (.sl es .sh))(hs:∀e∈es,e.length=3)(hl:es.length<=1073741824):
 Calls xt 112 #[x] w λe Q=>∃u G,e=.returned u/\Below w.heap.size w Q/\Q.ownsRow w.heap.size 181 3 u es.length G/\∀(i:Nat)(e:List PV)(j:Nat)(p:PV),es[i]?=some e->e[j]?=some p->∃v,G[i*3+j]?=some v/\Dat D w v p:=by
 obtain⟨J,A,G,rfl,_,_,N,O,K,L⟩:=dat_row d hs;obtain⟨i0,B,C,E,F⟩:=tR zqZ;cases J with
 | none=>
   obtain⟨S,rfl⟩:es.length=0/\G=[]:=by
    rcases K with h|⟨b,H,e,_⟩
    .exact h
    .cases e
   have hq:=eqlV_none es.length A;have M:=qL L;have U:=qL S;clear N O K L d hl B C E F S;go_enter func112,ntmps112
   go_wp2;go_ret;refine⟨_,[],rfl,tv _ _,?_,M.o⟩;rw[U.o];exact tV _ _ _ _
 | some J=>
   have hq:=eqlV_some J es.length A;have o:∀(j:Nat)(u:Value),G[j]?=some u->(w.alloc (.cells #[] 181)).cell? (J.add j)=some u:=λj u P=>by
    rcases K with⟨_,e⟩|⟨b,H,e,h⟩
    .rw[e]at P;simp at P
    .cases e;have T:=(h j u P).2;rw[zh];exact(tp (a:=⟨b,H+j,none⟩) (tw _ _ _ (tr w _ T))).trans T
   have Z:=qL (tq w (.cells #[] 181 (0,0)));have Y:=qL o;have V:=qL N;have X:=qL O;have M:=qL L;have I:=qL (And.intro B (And.intro C (And.intro E F)));clear N O K L d o B C E F;go_enter func112,ntmps112
   go_wp2_with (at_builtin;refine zq6 _ _ 57 181 rfl rfl i0 _ 3 40 underlying57 I.o.1 I.o.2.1 I.o.2.2.1 I.o.2.2.2 rfl b8 b8 w.heap.size _ 0 [] rfl (zrH (Zp _) Z.o) _ es.length A G rfl V.o (.inr ⟨_,rfl,Y.o⟩) X.o a8 b6 ?_;intro v' Q ho hg hv)
   go_ret;rw[wn]at ho;refine⟨v',G,rfl,?_,ho,M.o⟩;exact(((tv _ w).alloc (Zp _) _).grown hg b6 λj hj=>by cases hj;exact Zp _)
end
end Go.Proofs.YtmpnbdhadjfbhaaGreatDoor
