import Derived.Tactics2
import Derived.Defers
import Derived.Recover
import Derived.Laws.Pointers
import Derived.WalkLawsBesides
import Derived.Deep.Cut
import Derived.Test.YtjdjjlkifdimkaaGreatDoorB21
set_option maxHeartbeats 16000000
set_option linter.all false
set_option maxRecDepth 100000
namespace Go.Proofs.YtjdjjlkifdimkaaGreatDoor
def TF:=@Go.World.cell?_setCell_other
open Go.RowKit
open Go.Proofs.Tryz
open Go.Proofs.Tryz renaming prog->xT
section
attribute [-go_sem] z7
def Vw{w:World}{base j size n:Nat}{e:TypeId}{v:Value}{o:List Value}(h:w.ownsRow base e size v n o)(hb:j<=base):w.ownsRow j e size v n o:=⟨h.1,h.2.imp id λ⟨g,cap,cur,e1,hg,r⟩=>⟨g,cap,cur,e1,V3 hb hg,r⟩⟩
def QD{B:Q9}{R:List Nat}{n:Nat}(C:Qk)(k:List Fg)(vk:Value)(w:World)(hk:Kn B R n k)(ok:OkX B R)(hn:n<=100000)(rk:Dat C w vk (kp k))(hC:∀b o,C b o->b<w.heap.size)(hG:GL C w):
 Calls xT 103 #[vk] w λe w'=>∃v,e=.returned v/\Keep (λb=>w.heap.size<=b) w w'/\Dat (λb o=>C b o\/(w.heap.size<=b/\b<w'.heap.size)) w' v (kp (zL k)):=by
 obtain⟨aa,ca,fs,rfl,hl,aF,cr⟩:=kX rk hC;have dy:=hk.l;have HK:=qL hk;have bq:=qL aF;have cL:=qL cr;have cN:=qL hG;have de:=aF.1;have dh:=aF.2.1;unfold maxLen at dh;rw[hl]at de;clear rk aF cr hG hk;obtain⟨mb,dA⟩:=xm (w.heap.size-1);go_enter func103,ntmps103
 go_wp2_with fail
 go_loopg [3,4] k.length (λg xv xi wr=>∃j,j<=k.length/\g=k.length-j/\xi=.int .i64 j/\OutG C mb w.heap.size wr xv (zL (k.take j))/\Keep (λb=>w.heap.size<=b) w wr)
 case atStart=>exact⟨0,vj _,rfl,rfl,OutG.start _ _ _ _,Keep.refl _ w⟩
 case round=>
  obtain⟨j,Q,rfl,rfl,aE,bR⟩:=hrel;obtain⟨o,ho⟩:=xm (zL (k.take j));rw[<-ho]at aE;obtain⟨ad,A,rfl,dz,co⟩:=aE.shape;unfold maxLen at co;have M:=qL aE;have U:=qL bR;have HO:=qL ho;have dD:=bR.size;by_cases aj:j<k.length
  ·have aX:j<fs.length:=b6;obtain⟨bb,O,rfl,dc,bu⟩:=bq.o.2.2 (by intro e;subst e;simp at aX);obtain⟨c0,c1⟩:=bu j aX;obtain⟨d0,d1⟩:=cL.o j aX;replace c0:=(U.o.cell (p:=⟨bb,O+j*2,none⟩) (by show bb<_;omega) (by show ¬w.heap.size<=bb;omega)).trans c0;replace c1:=(U.o.cell (p:=⟨bb,O+j*2+1,none⟩) (by show bb<_;omega) (by show ¬w.heap.size<=bb;omega)).trans c1;have cY:¬(zi k[j].vec=[]\/k[j].items=[])->AddOk o ⟨k[j].items,zi k[j].vec⟩:=λaK=>ho▸XK HK.o ok b6 aj aK;have cs:zL (k.take (j+1))=yo o k[j]:=ho▸Zo aj;have aW:=X3 aj;have bW:=HK.o.s _ aW;have bN:=HK.o.r _ aW;have X:k[j].items.length<=100000:=(by have:=yv aW;have:=HK.o.m;omega);have bl:=(HK.o.take j).group ok;rw[<-ho]at bl;have dB:o.length<=100000:=(by have:=bl.l;omega);have cA:∀g∈o,g.items.length<=100000:=λg hg=>(by have:=yv hg;have:=bl.m;omega);have cG:∀g∈o,g.vec.length<=1024/\∀e∈g.vec,e.holes.length<=1048576:=λg hg=>(by obtain⟨x,hx,e⟩:=(jU (HK.o.take j).r).2.2 g (ho▸hg);have:=((HK.o.take j).ik x hx).canVec.bv ok.1 ok.2;rw[<-e]at this;exact⟨by have:=this.2.1;omega,λe he=>by have:=this.2.2 e he;omega⟩);have cF:(zi k[j].vec).length<=1024/\∀e∈zi k[j].vec,e.holes.length<=1048576:=(by have:=(HK.o.ik _ aW).canVec.bv ok.1 ok.2;exact⟨by have:=this.2.1;omega,λe he=>by have:=this.2.2 e he;omega⟩)
   have bz:o.Pairwise λf g=>ZH f.vec g.vec:=ho▸(vB (HK.o.take j).r).srt;have cz:∀g∈o,Nrm g.items:=λg hg=>((vB (HK.o.take j).r).ok g (ho▸hg)).2.2.1;generalize k[j]=f at *;generalize fs[j]=q at *;obtain⟨ai,ci,e0⟩:=zK d0;obtain⟨av,cv,e1⟩:=xL d1;rw[e0]at c0 d0;rw[e1]at c1 d1;have aT:∀b o,C b o->b<wr.heap.size:=λb o h=>(by have:=hC b o h;omega);have ch:GL C wr:=cN.o.mono (λ_ _ h=>h) λb o x J hx=>U.o.cell_some hx (by have:=hC b o J;show ¬w.heap.size<=b;omega);have bM:∀(x:Value)(p:PV),Dat C w x p->∀W,Below wr.heap.size wr W->Dat C W x p:=λx p h W P=>h.mono (λ_ _ h=>h) λb o x J hx=>(tw (a:=⟨b,o,none⟩) (P.block b (aT b o J))).trans (U.o.cell_some hx (by have:=hC b o J;show ¬w.heap.size<=b;omega));have bL:∀W,Below wr.heap.size wr W->GL C W:=λW P=>ch.mono (λ_ _ h=>h) λb o x J hx=>(tw (a:=⟨b,o,none⟩) (P.block b (aT b o J))).trans hx;have br:Calls xT 146 #[.slice av f.vec.length cv] wr λe w'=>∃a c,e=.returned (.slice a (zi f.vec).length c)/\Below wr.heap.size wr w'/\Dat (DX C mb w' (.slice ad o.length A)) w' (.slice a (zi f.vec).length c) (vp (zi f.vec)):=by
    refine(jP (D:=C) (Ka f.vec bN.2 bW.2.1 bW.2.2) (bL wr (tB _ _)) aT rfl (λi p hp=>?_)).mono ?_
    .match i,hp with
     |0,hp=>cases hp;exact bM _ _ d1 wr (tB _ _)
     |i+1,hp=>simp at hp
    .rintro e w' ⟨v,rfl,hb,hd⟩;obtain⟨a,c,rfl⟩:=xL hd;have cB:=M.o.owns;refine⟨a,c,rfl,hb,hd.mono (λb o h=>?_) λ_ _ _ _ h=>h⟩;rcases h with h|h
     .exact⟨.inl h,λe=>by have:=(cB b e).1;have:=hC b o h;omega⟩
     .exact⟨.inr ⟨b6,h.2⟩,λe=>by have:=(cB b e).2;omega⟩
   have aM:=qL br;have cc:=qL bL;have bB:=qL bM;have bA:=qL d0;have aP:=qL cs;have cX:=qL cG;have cW:=qL cF;have cO:=qL cz;have cP:=qL cA;have cK:=qL bN.1;have bh:=qL aT;have cQ:=qL M.o.owns;have cU:=qL bz;have cg:∀b o',C b o'->(Value.slice ad o.length A).ownBlock≠some b:=λb _ h e=>(by have:=(M.o.owns b e).1;have:=hC b _ h;omega);have aN:=qL cg;have HC:=qL hC;clear br bL bM d0 d1 cs cG cF cz cA bN bW aT bz cY aW bl ch e0 e1 bu cg hC ho aE bR;have Z:True:=trivial;obtain⟨wo,dp⟩:=xm (wr);subst dp;by_cases h1:0<(zi f.vec).length
   ·have b1:(((zi f.vec).length:Int) == 0)=false:=uh.2 b6;by_cases h2:0<f.items.length
    ·have b2:((f.items.length:Int) == 0)=false:=uh.2 b6;have aK:¬(zi f.vec=[]\/f.items=[]):=λe=>by
      rcases e with e|e
      .rw[e]at h1;simp at h1
      .rw[e]at h2;simp at h2
     have bG:=qL aK;obtain⟨i,hi,q1,q2⟩:=Qo (zi f.vec) cU.o;have cR:=qL q1;have cS:=qL q2;have bD:=qL (Y8 (f:=⟨f.items,zi f.vec⟩) hi q1 q2);clear q1 q2 aK
     go_wp2_with (first
      | (go_at_call 146;have _t:=Z;refine aM.o.mono ?_;rintro e w3 ⟨a3,n3,rfl,N,aJ⟩
         have c3:=(N.cell (p:=⟨bb,O+j*2,none⟩) (by show bb<_;omega)).trans c0;have ab:=qL N;have cJ:=qL aJ;have dm:=N.size;clear N aJ Z)
      |go_in)
     go_loopg [6] i (λg x w2=>∃a,a<=i/\g=i-a/\x=.int .i64 a/\Below w3.heap.size w3 w2)
     case atStart=>exact⟨0,vj _,rfl,rfl,tB _ _⟩
     case round=>
      obtain⟨a,ha,rfl,rfl,ax⟩:=hrel;have bj:=ab.o.trans (ax.mono dm);have ah:=M.o.keep (w':=wr) bj.size λb hb=>bj.block b hb;have cq:=DX.keep cJ.o ax.size λb hb _=>ax.block b hb;have c4:=(ax.cell (p:=⟨bb,O+j*2,none⟩) (by show bb<_;omega)).trans c3;have cH:=qL ax;have L:=qL bj;have aQ:=qL ah;have bi:=qL cq;have dn:=ax.size;have bw:∀(a:Nat)(aH:a<o.length)(c:Int),zZ (zv o[a].vec) (zv (zi f.vec))=c->∀(ar:Option Addr)(aw:Nat),Dat (DX C mb wr (.slice ad o.length A)) wr (.slice ar o[a].vec.length aw) (vp o[a].vec)->∀W,Below wr.heap.size wr W->Calls xT 147 #[.slice ar o[a].vec.length aw,.slice a3 (zi f.vec).length n3] W λe w'=>e=.returned (.int .i64 c)/\Below W.heap.size W w':=λa aH c J ar aw hd W P=>
       zhr c J (cX.o _ (X3 aH)) cW.o (DX.keep hd P.size λb hb _=>P.block b hb) (DX.keep bi.o P.size λb hb _=>P.block b hb) aN.o (λb o h=>by have:=bh.o b o h;have:=P.size;omega) (cc.o W (L.o.trans (P.mono L.o.size)))
      have bp:=qL bw;clear ax bj ah cq bw;by_cases cj:a<i
      .have aH:a<o.length:=b6;obtain⟨g,bH,bI,ar,aw,bJ,rfl,bO,ag,x0,x1,da,db⟩:=aQ.o.at aH;obtain⟨c,J⟩:=xt (zZ (zv o[a].vec) (zv (zi f.vec)));have dg:c<0:=(by rw[<-J];exact cR.o a aH cj);have aq:=qL (bp.o a aH c J ar aw db);clear da db J ag x0;generalize o[a]=oa at *
       go_wp2_with (first
        |(go_at_call 147;refine(aq.o _ (tB _ _)).mono ?_;rintro e w5 ⟨rfl,F⟩;have ac:=qL F;clear F)
        |go_in)
       go_roundg (i-(a+1));case measure=>omega
       case rel=>exact⟨a+1,cj,rfl,b8,cH.o.trans (ac.o.mono dn)⟩
      .obtain rfl:a=i:=b6;by_cases X:a<o.length
       .obtain⟨g,bH,bI,ar,aw,bJ,rfl,bO,ag,x0,x1,da,db⟩:=aQ.o.at X;obtain⟨c,J⟩:=xt (zZ (zv o[a].vec) (zv (zi f.vec)));have dg:¬c<0:=(by rw[<-J];exact cS.o a X (Zp _));have aq:=qL (bp.o a X c J ar aw db);have bg:=qL J;have cb:=qL da;have cM:=qL ag;have ce:=qL x0;clear da db J ag x0;have ao:True:=trivial;have aG:True:=trivial;obtain⟨oa,bS⟩:=xm (o[a]);rw[<-bS]at x1 aq bg cb ce;have aR:=qL bS;clear bS;by_cases hz:c=0
        .go_wp2_with (first
          | (go_at_call 147;have _t:=ao;refine(aq.o _ (tB _ _)).mono ?_;rintro e w5 ⟨rfl,F⟩
             have y1:=(F.cell (p:=⟨g,a*2+1,none⟩) (tz wr ⟨g,a*2+1,none⟩ x1)).trans x1;have ac:=qL F;clear F ao)
          |(go_at_call 147;have _t:=aG;refine(aq.o _ ac.o).mono ?_;rintro e w6 ⟨rfl,F⟩;have T:=qL (ac.o.trans (F.mono ac.o.size));clear F aG)
          |go_in)
         have dd:Below w6.heap.size w6 w6.drew:=(tB _ _).drew;have bP:g<wr.heap.size:=tz wr ⟨g,a*2+1,none⟩ x1;have z0:=(T.o.cell (p:=⟨g,a*2,none⟩) bP).trans ce.o;have z1:=(T.o.cell (p:=⟨g,a*2+1,none⟩) bP).trans x1;have z4:=(T.o.cell (p:=⟨bb,O+j*2,none⟩) (by show bb<_;omega)).trans c4;have bn:=T.o.size;have cD:∀W,Below w6.heap.size w6 W->Calls xT 148 #[.slice bH oa.items.length bI,.slice ai f.items.length ci] W λe w'=>∃u,e=.returned u/\Below W.heap.size W w'/\Dat (DX C mb w' (.slice (some ⟨g,0,none⟩) o.length A)) w' u (rg (qy zn oa.items f.items)):=λW P=>(by have bK:=T.o.trans (P.mono bn);have aS:=L.o.trans (bK.mono L.o.size);have cy:oa∈o:=(by rw[aR.o];exact X3 X);refine zep (cO.o _ cy) cK.o (by have:=cP.o _ cy;omega) b6 (DX.keep cb.o bK.size λb hb _=>bK.block b hb) ((bB.o _ _ bA.o W aS).mono (λb o' h=>⟨.inl h,aN.o b o' h⟩) λ_ _ _ _ h=>h) (λb hb=>by have:=(cQ.o b hb).2;have:=aS.size;omega) aN.o (λb o h=>by have:=bh.o b o h;have:=aS.size;omega) (by have:=aS.size;omega) (cc.o W aS));have cV:=qL cD;clear cD;have bc:xT.follows .mixedOrders=true:=dN;obtain⟨y,ba⟩:=xm (w6);subst ba;refine Kg (Sw:=qe) 16 96 (λw9=>Below y.heap.size y w9/\w9.cell? ⟨g,a*2,none⟩=some (.slice bH oa.items.length bI)/\w9.cell? ⟨bb,O+j*2,none⟩=some (.slice ai f.items.length ci)) dN dN rfl ⟨dd,z0,z4⟩ ?_;simp only[wT,Wg];refine Jz ?_;refine V7 (λu w9=>Dat (DX C mb w9 (.slice (some ⟨g,0,none⟩) o.length A)) w9 u (rg (qy zn oa.items f.items))) (λu wa wb h hk=>DX.keep h hk.size λk ah _=>hk.block k ah id) rfl ?_ ?_
         .intro a2 w2 J hk hr K hK;have HK:=qL hK;clear hK;simp[Rds,zA,lk,Op.operands,Call.operands,RdEq]at hr;go_simp;refine(cV.o _ J.1).mono ?_;rintro e w3 ⟨u,rfl,hb,hd⟩;have bQ:Keep qe _ w3:=Keep.of_below' hb (Zp _);exact HK.o _ _ bQ ⟨J.1.trans (hb.mono J.1.size),bQ.cell_some J.2.1 id,bQ.cell_some J.2.2 id⟩ hd
         simp only[XV,Yf];refine Jz ?_;refine V7 (λu w9=>∃au cu,u=.agg #[.slice au (qy zn oa.items f.items).length cu,.slice a3 (zi f.vec).length n3]/\Dat (DX C mb w9 (.slice (some ⟨g,0,none⟩) o.length A)) w9 (.slice au (qy zn oa.items f.items).length cu) (rg (qy zn oa.items f.items))) (λu wa wb h hk=>by obtain⟨au,cu,e,h⟩:=h;exact⟨au,cu,e,DX.keep h hk.size λk ah _=>hk.block k ah id⟩) rfl ?_ ?_
         .intro a2 w2 J hk hr K hK;have HK:=qL hK;clear hK;simp[Rds,zA,lk,Op.operands,Call.operands,RdEq]at hr;obtain⟨⟨u,⟨e1,e2⟩,G⟩,e3,e4⟩:=hr;obtain⟨au,cu,rfl⟩:=zK G;go_simp;exact HK.o _ _ (Keep.refl _ _) J ⟨au,cu,rfl,G⟩
         simp only[XV,Yf];refine Jz ?_;intro w2 aI ah;simp only[finG,WZ,XV,Yf,wR,Wo,W5];simp only[Act.put,wF,wW,wX];rintro _ _ _ ⟨au,cu,rfl,G⟩;have cI:=qL aI.1;have HU:=qL G;have dC:=aI.1.size;have r0:=aI.2.1;have r1:=(aI.1.cell (p:=⟨g,a*2+1,none⟩) (by show g<_;omega)).trans z1;have ag:w2.heap[g]?=some (.cells bJ 50 (0,0)):=(aI.1.block g b6).trans ((T.o.block g bP).trans cM.o);have s0:w2.frozen? ⟨g,a*2,none⟩=false:=(by simp[World.frozen?,ag]);have s1:w2.frozen? ⟨g,a*2+1,none⟩=false:=(by simp[World.frozen?,ag]);have bt:0<A:=b6;clear G aI ah ag
         go_wp2_with fail
         go_roundg (k.length-(j+1));case measure=>omega
         case rel=>
          have az:=T.o.trans (cI.o.mono T.o.size);have dk:=(aQ.o.keep az.size λb hb=>az.block b hb).set X HU.o bt;have cE:o[a].vec=zi f.vec:=(by have:=bg.o;rw[aR.o,hz]at this;exact YU this);have cx:(o.take a++(⟨qy zn oa.items f.items,o[a].vec⟩:Fg)::o.drop (a+1)).length=o.length:=b7;have dj:(o.take a++(⟨qy zn oa.items f.items,o[a].vec⟩:Fg)::o.drop (a+1))[a]'b6=⟨qy zn oa.items f.items,o[a].vec⟩:=(by rw[Wz (by rw[Wi];exact UO _ _)];simp[ud (uG X)]);have cZ:(Value.slice (some ⟨g,0,none⟩) o.length A).ownBlock=some g:=by
           cases A with
           |zero=>omega
           |succ c=>rfl
          refine⟨j+1,aj,rfl,b8,?_,?_⟩
          .have I:=dk.setV (i:=a) (a0:=.slice a3 (zi f.vec).length n3) cx b6 (by
            rw[dj];show Dat _ _ _ (vp o[a].vec);rw[cE];refine DX.keep bi.o (by simp;exact az.size) λb hb aK=>?_;rw[tG _ _ _ _ (λe=>aK (by rw[cZ];exact WU some e.symm))];exact az.block b hb) bt
           rw[aP.o,yo,V2 bG.o,bD.o,ut X,VS (by have:=bg.o;rw[aR.o,hz]at this;exact this)];rw[<-aR.o];rw[cE]at I;exact I
          .exact(((U.o.trans (Keep.of_below' L.o (Zp _))).trans (Keep.of_below' az (Zp _))).setCell (λ_=>bO) _).setCell (λ_=>bO) _
        .have di:¬(c=0):=hz
         go_wp2_with (first
          | (go_at_call 147;have _t:=ao;refine(aq.o _ (tB _ _)).mono ?_;rintro e w5 ⟨rfl,F⟩
             have y1:=(F.cell (p:=⟨g,a*2+1,none⟩) (tz wr ⟨g,a*2+1,none⟩ x1)).trans x1;have ac:=qL F;clear F ao)
          |(go_at_call 147;have _t:=aG;refine(aq.o _ ac.o).mono ?_;rintro e w6 ⟨rfl,F⟩;have T:=qL (ac.o.trans (F.mono ac.o.size));clear F aG)
          |go_in)
         obtain⟨y,ba⟩:=xm (w6);subst ba;have ay:Below wr.heap.size wr y:=T.o;have bn:=ay.size;have cC:=L.o.size;obtain⟨S,Y,aV⟩:=aQ.o.keep ay.size λb hb=>ay.block b hb;have aL:=Y.2.1;have V:=qL Y;have bC:=qL aV;have bc:xT.follows .mixedOrders=true:=dN;have aD:∀u∈S.take (a*2),u.oneCell'=true:=λu G=>Y.2.2 u (WJ G);have bU:∀u∈S.drop (a*2),u.oneCell'=true:=λu G=>Y.2.2 u (Wx G);have aA:∀u∈[(.slice ai f.items.length ci:Value),.slice a3 (zi f.vec).length n3],u.oneCell'=true:=yF rfl rfl;have aC:∀g0,(some (⟨g,0,none⟩:Addr))=some ⟨g0,0,none⟩->∀W,Below y.heap.size y W->∀j u,S[j]?=some u->W.cell? ⟨g0,j,none⟩=some u:=λg0 hg W P j u hx=>(by have h9:=tQ V.o.1 (g:=g0) (by rw[hg];rfl) j u hx;rw[zh,wy]at h9;exact(P.cell (p:=⟨g0,j,none⟩) (tz y ⟨g0,j,none⟩ h9)).trans h9);have aB:=qL aC;have z4:=(ay.cell (p:=⟨bb,O+j*2,none⟩) (by show bb<_;omega)).trans c4;have I:∀(v:Value)(W:World),Below y.heap.size y W->W.ownsRow y.heap.size 50 2 v (0+a+1+(o.length-a)) ([]++S.take (a*2)++[Value.slice ai f.items.length ci,Value.slice a3 (zi f.vec).length n3]++S.drop (a*2)) ->
          OutG C mb w.heap.size W v (zL (k.take (j+1)))/\Keep (λb=>w.heap.size<=b) w W:=λv W P ho=>by
          have az:=ay.trans (P.mono bn);have hi:zL (k.take (j+1))=o.take a++⟨f.items,zi f.vec⟩::o.drop a:=(by rw[aP.o,yo,V2 bG.o,bD.o];rw[ut X,V2 (by have:=bg.o;rw[aR.o]at this;rw[this];exact di)]);refine⟨?_,((U.o.trans (Keep.of_below' L.o (Zp _))).trans (Keep.of_below' az (Zp _)))⟩;rw[hi];have hp:Dat (DX C mb y (.slice (some ⟨g,0,none⟩) o.length A)) y (.slice ai f.items.length ci) (rg f.items):=(bB.o _ _ bA.o y (L.o.trans (ay.mono cC))).mono (λb o' h=>⟨.inl h,aN.o b o' h⟩) λ_ _ _ _ h=>h;have hq:Dat (DX C mb y (.slice (some ⟨g,0,none⟩) o.length A)) y (.slice a3 (zi f.vec).length n3) (vp (zi f.vec)):=DX.keep bi.o bn λb hb _=>ay.block b hb;have an:W.ownsRow y.heap.size 50 2 v (o.length+1) (S.take (a*2)++[Value.slice ai f.items.length ci,Value.slice a3 (zi f.vec).length n3]++S.drop (a*2)):=(by have e1:0+a+1+(o.length-a)=o.length+1:=b6;rw[e1,XV]at ho;exact ho);refine OutG.insK (f:=⟨f.items,zi f.vec⟩) (uG X) V.o.2.1 bC.o hp hq (λh=>DX.new h (λb o h=>by have:=bh.o b o h;omega) P λk hk=>(an.lt k hk).1) ⟨Vw an b6,?_,?_⟩
          .simp[aL];omega
          .intro u G;rcases wI.1 G with G|G
           .rcases wI.1 G with G|G
            .exact V.o.2.2 u (WJ G)
            .exact yF rfl rfl u G
           .exact V.o.2.2 u (Wx G)
         have aO:=qL I;have du:=qL aD;clear I aC Y aV;have aY:∀W:World,Below y.heap.size y W->(a=0/\(some (⟨g,0,none⟩:Addr))=none)\/∃a',some (⟨g,0,none⟩:Addr)=some a'/\∀j u,(S.take (a*2))[j]?=some u->W.cell? (a'.add j)=some u:=λW hB=>.inr ⟨_,rfl,λj u h=>by
          rw[zh,wy];rw[wA]at h;split at h
          .exact aB.o g rfl W hB j u h
          .cases h⟩
         have aZ:∀W:World,Below y.heap.size y W->(o.length-a=0/\(some (⟨g,a*2,none⟩:Addr))=none)\/∃a',some (⟨g,a*2,none⟩:Addr)=some a'/\∀j u,(S.drop (a*2))[j]?=some u->W.cell? (a'.add j)=some u:=λW hB=>.inr ⟨_,rfl,λj u h=>by
          rw[zh];rw[Wp]at h;exact aB.o g rfl W hB _ u h⟩
         have bE:=qL aY;have bF:=qL aZ;have dw:¬(A=a):=b6;have cn:bb<y.heap.size:=b6;have dx:a<=A:=b6;have dv:a<=o.length:=b6;clear aY aZ;go_region_law_o (first
          | (refine yH (.tmp 77) (.tmp 80) 41 rfl rfl underlying41 y.heap.size (.slice (some ⟨_,0,none⟩) 0 0) 0 [] rfl (zdz b6 (by first|exact tx _ _|exact tx y _|exact yw _ _ _|exact yx _ _ _|exact yw y _ _|exact yx y _ _)) _ a _ (S.take (a*2)) rfl (by simp[aL]<;>omega) (bE.o _ (by first|exact YR _ _|exact XM _ _ _)) aD b6 dH ?_
             intro dq be H E ck;have b1:Below y.heap.size y be:=by first|exact(YR y _).grown E dH (λj Q=>by simp[Value.ownBlock]at Q;omega)|exact(XM y _ _).grown E dH (λj Q=>by simp[Value.ownBlock]at Q;omega)
             have dt:=(b1.cell (p:=⟨bb,O+j*2,none⟩) (by show bb<_;omega)).trans z4)
          | (refine yH (.tmp 81) (.tmp 89) 41 rfl rfl underlying41 y.heap.size _ (0+a) ([]++S.take (a*2)) rfl (by first|exact H|exact H.alloc _) _ 1 _ [Value.slice ai f.items.length ci,Value.slice a3 (zi f.vec).length n3] rfl rfl (.inr ⟨_,rfl,vI (vt := 50) (by first|exact tx be _|exact(E.block _ dH dJ).trans (yw y _ _)|exact(E.block _ dH dJ).trans (yx y _ _))⟩) aA b6 (by have:=E.size;simp at this⊢<;>omega) ?_
             intro ds bY ak ae cm;have b2:Below y.heap.size y bY:=by first|exact b1.grown ae b1.size (λj Q=>(H.lt j Q).1)|exact(b1.alloc b1.size _).grown ae (by have:=b1.size;simp<;>omega) (λj Q=>(H.lt j Q).1))
          | (refine yH (.tmp 90) (.tmp 93) 41 rfl rfl underlying41 y.heap.size _ (0+a+1) ([]++S.take (a*2)++[Value.slice ai f.items.length ci,Value.slice a3 (zi f.vec).length n3]) rfl ak _ ((o.length-a)) _ (S.drop (a*2)) rfl (by simp[aL]<;>omega) (bF.o _ b2) bU b6 b2.size ?_
             intro bX bZ am af aU;have HR:=qL (aO.o bX bZ (b2.grown af b2.size λj Q=>(ak.lt j Q).1) am);clear am af aU))
         all_goals (go_wp2_with fail;all_goals (go_roundg (k.length-(j+1));(case measure=>omega);(case rel=>exact⟨j+1,aj,rfl,b8,HR.o.1,HR.o.2⟩)))
       .obtain rfl:a=o.length:=b6;have ao:True:=trivial
        go_wp2_with fail
        obtain⟨y,ba⟩:=xm (wr);subst ba;have cC:=L.o.size;obtain⟨S,Y,aV⟩:=aQ.o;have aL:=Y.2.1;have V:=qL Y;have bC:=qL aV;have bc:xT.follows .mixedOrders=true:=dN;have aD:∀u∈S,u.oneCell'=true:=Y.2.2;have bT:∀u∈([]:List Value),u.oneCell'=true:=λu G=>(by cases G);have aA:∀u∈[(.slice ai f.items.length ci:Value),.slice a3 (zi f.vec).length n3],u.oneCell'=true:=yF rfl rfl;have aY:∀W:World,Below y.heap.size y W->(o.length=0/\ad=none)\/∃a',ad=some a'/\∀j u,S[j]?=some u->W.cell? (a'.add j)=some u:=λW P=>by
         rcases V.o.cases with⟨e,e2,rfl⟩|⟨g,cf,bJ,e,_⟩
         .cases ad with
          |none=>exact .inl ⟨e2,rfl⟩
          |some a=>exact .inr ⟨a,rfl,λj u h=>by simp at h⟩
         .obtain⟨rfl,_,rfl⟩:ad=some ⟨g,0,none⟩/\o.length=o.length/\A=cf:=(dM e);refine .inr ⟨_,rfl,λj u hx=>?_⟩;have h9:=tQ V.o.1 (g:=g) rfl j u hx;rw[zh,wy]at h9⊢;exact(P.cell (p:=⟨g,j,none⟩) (tz y ⟨g,j,none⟩ h9)).trans h9
        have aZ:(0=0/\(if A=o.length then ad else Option.map (λx=>x.add (o.length*2)) ad)=none)\/∃a',(if A=o.length then ad else Option.map (λx=>x.add (o.length*2)) ad)=some a':=by
         cases ad<;>simp;split<;>simp
        have bE:=qL aY;have bF:=qL aZ;have I:∀(v:Value)(W:World),Below y.heap.size y W->W.ownsRow y.heap.size 50 2 v (0+o.length+1+0) ([]++S++[Value.slice ai f.items.length ci,Value.slice a3 (zi f.vec).length n3]++[]) ->
         OutG C mb w.heap.size W v (zL (k.take (j+1)))/\Keep (λb=>w.heap.size<=b) w W:=λv W P ho=>by
         have hi:zL (k.take (j+1))=o.take o.length++⟨f.items,zi f.vec⟩::o.drop o.length:=(by rw[aP.o,yo,V2 bG.o,bD.o,UT (tr _),Wt,uU]);refine⟨?_,((U.o.trans (Keep.of_below' L.o (Zp _))).trans (Keep.of_below' P (Zp _)))⟩;rw[hi];have hp:Dat (DX C mb y (.slice ad o.length A)) y (.slice ai f.items.length ci) (rg f.items):=(bB.o _ _ bA.o y L.o).mono (λb o' h=>⟨.inl h,aN.o b o' h⟩) λ_ _ _ _ h=>h;have an:W.ownsRow y.heap.size 50 2 v (o.length+1) (S.take (o.length*2)++[Value.slice ai f.items.length ci,Value.slice a3 (zi f.vec).length n3]++S.drop (o.length*2)):=(by have e1:0+o.length+1+0=o.length+1:=b6;rw[e1,XV]at ho;rw[ww b6,wE b6];exact ho);refine OutG.insK (f:=⟨f.items,zi f.vec⟩) (Zp _) V.o.2.1 bC.o hp bi.o (λh=>DX.new h (λb o h=>by have:=bh.o b o h;omega) P λk hk=>(an.lt k hk).1) ⟨Vw an b6,?_,?_⟩
         .simp[aL];omega
         .intro u G;rcases wI.1 G with G|G
          .rcases wI.1 G with G|G
           .exact V.o.2.2 u (WJ G)
           .exact yF rfl rfl u G
          .exact V.o.2.2 u (Wx G)
        have aO:=qL I;have cn:bb<y.heap.size:=b6;have z4:=c4;clear I Y aV aY aZ;go_region_law_o (first
         | (refine yH (.tmp 77) (.tmp 80) 41 rfl rfl underlying41 y.heap.size (.slice (some ⟨_,0,none⟩) 0 0) 0 [] rfl (zdz b6 (by first|exact tx _ _|exact tx y _|exact yw _ _ _|exact yx _ _ _|exact yw y _ _|exact yx y _ _)) _ o.length _ S rfl (by simp[aL]<;>omega) (bE.o _ (by first|exact YR _ _|exact XM _ _ _)) aD b6 dH ?_
            intro dq be H E ck;have b1:Below y.heap.size y be:=by first|exact(YR y _).grown E dH (λj Q=>by simp[Value.ownBlock]at Q;omega)|exact(XM y _ _).grown E dH (λj Q=>by simp[Value.ownBlock]at Q;omega)
            have dt:=(b1.cell (p:=⟨bb,O+j*2,none⟩) (by show bb<_;omega)).trans z4)
         | (refine yH (.tmp 81) (.tmp 89) 41 rfl rfl underlying41 y.heap.size _ (0+o.length) ([]++S) rfl (by first|exact H|exact H.alloc _) _ 1 _ [Value.slice ai f.items.length ci,Value.slice a3 (zi f.vec).length n3] rfl rfl (.inr ⟨_,rfl,vI (vt := 50) (by first|exact tx be _|exact(E.block _ dH dJ).trans (yw y _ _)|exact(E.block _ dH dJ).trans (yx y _ _))⟩) aA b6 (by have:=E.size;simp at this⊢<;>omega) ?_
            intro ds bY ak ae cm;have b2:Below y.heap.size y bY:=by first|exact b1.grown ae b1.size (λj Q=>(H.lt j Q).1)|exact(b1.alloc b1.size _).grown ae (by have:=b1.size;simp<;>omega) (λj Q=>(H.lt j Q).1))
         | (refine yH (.tmp 90) (.tmp 93) 41 rfl rfl underlying41 y.heap.size _ (0+o.length+1) ([]++S++[Value.slice ai f.items.length ci,Value.slice a3 (zi f.vec).length n3]) rfl ak _ 0 _ ([]) rfl b8 (by rcases bF.o with h|⟨a,h⟩;exact .inl h;exact .inr ⟨a,h,λj u Q=>by simp at Q⟩) bT b6 b2.size ?_
            intro bX bZ am af aU;have HR:=qL (aO.o bX bZ (b2.grown af b2.size λj Q=>(ak.lt j Q).1) am);clear am af aU))
        all_goals (go_wp2_with fail;all_goals (go_roundg (k.length-(j+1));(case measure=>omega);(case rel=>exact⟨j+1,aj,rfl,b8,HR.o.1,HR.o.2⟩)))
    .have h0:f.items=[]:=by cases hf:f.items with|nil=>rfl|cons a l=>rw[hf]at h2;simp at h2
     have b2:((f.items.length:Int) == 0)=true:=(by rw[h0];rfl);have H0:=qL h0;clear h0
     go_wp2_with (first
      | (go_at_call 146;have _t:=Z;refine aM.o.mono ?_;rintro e w3 ⟨a3,n3,rfl,N,aJ⟩
         have c3:=(N.cell (p:=⟨bb,O+j*2,none⟩) (by show bb<_;omega)).trans c0;have ab:=qL N;clear N aJ Z)
      |go_in)
     go_roundg (k.length-(j+1));case measure=>omega
     case rel=>refine⟨j+1,aj,rfl,b8,?_,U.o.trans (Keep.of_below' ab.o (Zp _))⟩;rw[aP.o,yo,VS (.inr H0.o)];exact M.o.keep ab.o.size λb hb=>ab.o.block b hb
   .have h0:zi f.vec=[]:=by cases hf:zi f.vec with|nil=>rfl|cons a l=>rw[hf]at h1;simp at h1
    have b1:(((zi f.vec).length:Int) == 0)=true:=(by rw[h0];rfl);have H0:=qL h0;clear h0
    go_wp2_with (first
     | (go_at_call 146;have _t:=Z;refine aM.o.mono ?_;rintro e w3 ⟨a3,n3,rfl,N,aJ⟩
        have ab:=qL N;clear N aJ Z)
     |go_in)
    go_roundg (k.length-(j+1));case measure=>omega
    case rel=>refine⟨j+1,aj,rfl,b8,?_,U.o.trans (Keep.of_below' ab.o (Zp _))⟩;rw[aP.o,yo,VS (.inl H0.o)];exact M.o.keep ab.o.size λb hb=>ab.o.block b hb
  .obtain rfl:j=k.length:=b6
   go_wp2_with fail
   refine tI (tR rfl _ _ _) rfl ?_;refine⟨_,rfl,U.o,?_⟩;by_cases h0:1<=w.heap.size
   .have h:=M.o.dat b6;rw[HO.o,Wt]at h;refine(show Dat (DL C mb wr) wr _ (kp (zL k)) from by rw[HO.o,Wt];exact h).mono (λb o h=>h.imp id λh=>⟨b6,h.2⟩) λ_ _ _ _ h=>h
   .have ct:k=[]:=by
     cases k with
     |nil=>rfl
     |cons f l=>obtain⟨bb,O,_,dc,_⟩:=bq.o.2.2 (by intro e;subst e;simp at hl);omega
    have dl:o=[]:=(by rw[HO.o,ct];rfl);subst dl;subst ct;exact zfP dG
def Kc{B:Q9}{R:List Nat}{n:Nat}(k:List Fg)(hk:Kn B R n k)(ok:OkX B R)(A:n<=100000):Cn xT 103 [kp k] (kp (zL k)):=by refine yZ rfl (enters_of func103 dN rfl) λD w F u o j y=>?_;rw[KB j];refine(QD D k _ w hk ok A (y 0 _ rfl) o u).mono ?_;rintro e G ⟨v,rfl,hb,C⟩;exact⟨v,rfl,hb.below (Zp _) λ_ h E=>b6,C⟩
def zdp(s:ByteArray)(w:World):Calls xT 67 #[.string s,.nilIface] w λe j=>(∃u,e=.returned u)/\j=w:=by
 go_enter func67,ntmps67
 go_wp2
 go_end0
 exact⟨⟨_,rfl⟩,rfl⟩
def JI(p:Addr)(w:World):
 CallsD xT 66 #[.pointer (some p)] .returning w λe u y=>e=.returned (.tuple #[])/\u=.returning/\y=w:=by
 refine callsD_of_wpS func66 rfl λj A o=>?_;apply wpS_seq;apply wpS_region;simp[wpOpsS,go_sem,recoverD,o,ntmps66,Exit.thenS];refine wpS_of_wp ?_
 go_wp2;cases j;simp_all[bodyPostS,results,Tryz.results66]
end
section
attribute [-go_sem] z7
def BdK.of{k:List Fg}(h:RightK k)(hz:QW k):BdK k:=by refine⟨λf j=>⟨?_,λe o=>Jg ((h f j).2.1 e o),by have:=(hz.2 f j).1;omega,by have:=(hz.2 f j).2.1;omega⟩,by have:=hz.1;omega⟩;intro s hs;have:=NF.lo_ge (h f j).1 s hs;omega
def KH{C:Qk}{w0 w:World}{k:List Fg}{v:Value}(G:RightK k)(hz:QW k)(K:Dat C w0 v (kp k))(E:∀b o,C b o->b<w0.heap.size)(J:GL C w0)(hb:Below w0.heap.size w0 w):
 Calls xT 32 #[v] w λe I=>e=.returned .nilIface/\Below w.heap.size w I:=by
 have j:=BdK.of G hz;have F:=Vh k j hz;rw[yk ((ZN j).2 G)]at F;have H:∀b o x,C b o->w0.cell? ⟨b,o,none⟩=some x->w.cell? ⟨b,o,none⟩=some x:=λb o x h L=>(tw (a:=⟨b,o,none⟩) (hb.block b (E b o h))).trans L;refine(jP (D:=C) F (J.mono (λ_ _ h=>h) H) (λb o h=>Vq (E b o h) hb.size) rfl (λi p y=>?_)).mono ?_
 .match i,y with
  |0,y=>cases y;exact K.mono (λ_ _ h=>h) H
  |i+1,y=>simp at y
 .rintro e I ⟨u,rfl,A,B⟩;have e:=(Rel.dat (ρ:=λ_=>0) (nb:=0) B).v_inv;rw[e];exact⟨rfl,A⟩
def qB(j:List Fv):List Value:=j.flatMap λf=>[sv f.1,sv f.2]
def Yo:∀(o:List Fv)(j:Nat)(u:Value),(qB o)[j]?=some u->∃i,∃h:i<o.length,(j=i*2/\u=sv o[i].1)\/(j=i*2+1/\u=sv o[i].2)
 |[],j,u,h=>by simp[qB]at h
 |f::o,0,u,h=>⟨0,b8,.inl ⟨rfl,by simpa[qB]using h.symm⟩⟩
 |f::o,1,u,h=>⟨0,b8,.inr ⟨rfl,by simpa[qB]using h.symm⟩⟩
 | f::o,j+2,u,h=>by
   obtain⟨i,hi,w⟩:=Yo o j u (by simpa[qB]using h);refine⟨i+1,b7,?_⟩;rcases w with⟨e,e2⟩|⟨e,e2⟩
   .exact .inl ⟨b6,dM e2⟩
   .exact .inr ⟨b6,dM e2⟩
def Z5:∀(j:List Fv)(i:Nat)(h:i<j.length),(qB j)[i*2]?=some (sv j[i].1)/\(qB j)[i*2+1]?=some (sv j[i].2)
 |f::j,0,h=>⟨rfl,rfl⟩
 |f::j,i+1,h=>by have:=Z5 j i (dM h);rw[show (i+1)*2=i*2+2 by omega];exact⟨by simpa[qB]using this.1,by simpa[qB]using this.2⟩
def jf(j:List Fv):(qB j).length=j.length*2:=by
 induction j with
 |nil=>rfl
 |cons f j ih=>simp[qB]at ih⊢;omega
def jg(o:List Fv):∀u∈qB o,u.oneCell'=true:=λu w=>by
 obtain⟨f,_,j⟩:=uu.1 w;simp at j;rcases j with rfl|rfl<;>rfl
def Zn{G:Nat}{w W:World}{A:Option Addr}{B:Nat}{y:List Fv}(h:zeF G w A B y)(E:∀b o x,b<G->w.cell? ⟨b,o,none⟩=some x->W.cell? ⟨b,o,none⟩=some x):(y.length=0/\A=none)\/∃a,A=some a/\∀j u,(qB y)[j]?=some u->W.cell? (a.add j)=some u:=by
 by_cases C:y=[]
 .subst C;cases A with
  |none=>exact .inl ⟨rfl,rfl⟩
  |some a=>exact .inr ⟨a,rfl,λj u h=>by simp[qB]at h⟩
 .obtain⟨b,J,rfl,hb,F⟩:=h.2.2 C;refine .inr ⟨_,rfl,λj u I=>?_⟩;obtain⟨i,hi,H⟩:=Yo y j u I;rw[zh];rcases H with⟨rfl,rfl⟩|⟨rfl,rfl⟩
  .exact E _ _ _ hb (F i hi).1
  .exact E _ _ _ hb (by rw[<-WD];exact(F i hi).2)
def Jb{C:Array Oper}{rest:List Oper}{o:Oper}{a:Act}{w:World}{Q:Exit->Act->World->Prop}(s x:Operand)(t:TypeId)(J:o.guard=none)
 (ho:o.op=.call { callee:=.builtin .append,args:=#[s,x],argTypes:=#[t,t] }) (ht:xT.underlying t=some (.slice 50)) (base:Nat) (v:Value) (n:Nat) (K:List Value) (hs:a.eval s=v) (F:w.ownsRow base 50 2 v n K)
 (H:Option Addr) (m c:Nat) (y:List Value) (U:a.eval x=.slice H m c) (P:y.length=m*2) (B:(m=0/\H=none)\/∃a,H=some a/\∀j u,y[j]?=some u->w.cell? (a.add j)=some u) (L:∀u∈y,u.oneCell'=true) (I:n+m<=1073741824) (A:base<=w.heap.size)
 (h:∀E G,G.ownsRow base 50 2 E (n+m) (K++y)->w.grownBy G v.ownBlock->(E.ownBlock=v.ownBlock\/E.ownBlock=some w.heap.size)->wpList xT C Q rest (a.put o.dst E) G):wpList xT C Q (o::rest) a w:=by
 have T:Region.wanted o (yielded C a.tmps)=true:=by simp[Region.wanted,J]
 unfold wpList;rw[VS T];refine .inl ?_;obtain⟨E,G,S,M,N,O⟩:=YI w t o.type ht base v n K F H m c y P B L I A;unfold Oper.wp execOp;simp only[ho,resolve,invoke,builtin,tM,tP,tH,ul,WC,uf,hs,U,S];exact h E G M N O
def OutG.two{C:Qk}{mb base:Nat}{w0 w:World}{v:Value}{a b:List Fg}{fa fb:List Fv}(y:fa.length=a.length)(A:fb.length=b.length)(ho:w.ownsRow base 50 2 v (0+a.length+b.length) ([]++qB fa++qB fb))
 (I:∀b o,C b o->b<w0.heap.size) (hb:Below w0.heap.size w0 w) (G:w0.heap.size<=base)
 (K:∀i (h:i<fa.length),Dat C w0 (sv fa[i].1) (rg (a[i]'(y▸h)).items)/\Dat C w0 (sv fa[i].2) (vp (a[i]'(y▸h)).vec)) (db:∀i (h:i<fb.length),Dat C w0 (sv fb[i].1) (rg (b[i]'(A▸h)).items)/\Dat C w0 (sv fb[i].2) (vp (b[i]'(A▸h)).vec)):OutG C mb base w v (a++b):=by
 have j:∀{x:Value}{p:PV},Dat C w0 x p->Dat (DX C mb w v) w x p:=λh=>h.mono (λb o h=>⟨.inl h,λe=>by have:=(ho.lt b e).1;have:=I b o h;omega⟩) λb o x M P=>(tw (a:=⟨b,o,none⟩) (hb.block b (I b o M))).trans P;have J:=jf fa;have O:=jf fb;refine⟨qB fa++qB fb,⟨by rw[wu,<-wy a.length];exact ho,b7,λu B=>?_⟩,λi hi=>?_⟩
 .rcases wI.1 B with B|B
  .exact jg fa u B
  .exact jg fb u B
 .by_cases L:i<a.length
  .obtain⟨e1,e2⟩:=Z5 fa i b6;obtain⟨E,F⟩:=K i b6;have H:(a++b)[i]=a[i]:=uz L;rw[H];exact⟨_,_,by rw[wj b6];exact e1,by rw[wj b6];exact e2,j E,j F⟩
  .have N:i-a.length<b.length:=(by simp at hi;omega);obtain⟨e1,e2⟩:=Z5 fb (i-a.length) b6;obtain⟨E,F⟩:=db (i-a.length) b6;have H:(a++b)[i]=b[i-a.length]:=Wz b6;rw[H];exact⟨_,_,by rw[wi b6,J,show i*2-fa.length*2=(i-a.length)*2 by omega];exact e1,by rw[wi b6,J,show i*2+1-fa.length*2=(i-a.length)*2+1 by omega];exact e2,j E,j F⟩
end
def zaJ:CanK []:=⟨GrpI.nil,List.Pairwise.nil⟩
def zcY(i r c:Nat):hasK [] i r c=false:=rfl
def KP{f:XE}(u:f false false=false){a b:List Fg}(o:RightK a)(hb:RightK b):vh f a b=[]↔∀i r c,i<zk->c<zk->f (hasK a i r c) (hasK b i r c)=false:=by
 constructor
 .intro h i r c hi j;rw[<-zcZ u o hb hi j,h];rfl
 .intro h;exact XN (ze5 o hb) zaJ λi r c hi j=>by rw[zcZ u o hb hi j,h i r c hi j];rfl
def V0{a b:List Fg}(u:RightK a)(hb:RightK b):vh zm a b=[]↔∀i r c,i<zk->c<zk->hasK a i r c=true->hasK b i r c=true:=by
 rw[KP rfl u hb];refine⟨λh i r c hi j o=>?_,λh i r c hi j=>?_⟩
 .have:=h i r c hi j;rw[o]at this;simpa[zm]using this
 .have:=h i r c hi j;cases o:hasK a i r c<;>cases h2:hasK b i r c<;>simp_all[zm]
structure Rt12(k:List Fg):Prop where
 f:vx k=true
 r:RightK k
 kn:Kn (CK k) (RK k) 240 k
 ok:OkX (CK k) (RK k)
def CKL(l:List (List Fg))(r:Nat):List Nat:=l.flatMap λk=>CK k r
def RKL(l:List (List Fg)):List Nat:=l.flatMap RK
def Kn.at{C:Q9}{R:List Nat}{n:Nat}{k:List Fg}(h:Kn C R n k)(ok:OkX C R)(x:Nat):SmV (qc k x):=(h.ik.at x).1.smv ok.c
def Kn.app{C:Q9}{R:List Nat}{n m:Nat}{a b:List Fg}(j:Kn C R n a)(hb:Kn C R m b):Kn C R (n+m) (a++b):=by
 refine⟨j.r.app hb.r,λf o=>(wI.1 o).elim (j.ik f) (hb.ik f),λf o=>(wI.1 o).elim (j.s f) (hb.s f),?_,?_⟩
 .have:=kK a b;have:=j.m;have:=hb.m;omega
 .rw[wu];have:=j.l;have:=hb.l;omega
def Kn.parts{C:Q9}{R:List Nat}{n m:Nat}{f:XE}(j:f false false=false){a b:List Fg}(o:Kn C R n a)(hb:Kn C R m b)(ok:OkX C R):Kn C R (1+2*(n+m)) (yy f a b):=by
 have y:=xW (a++b);have A:=YO (a++b);have B:=kK a b;have E:=o.m;have F:=hb.m;have u:∀g∈yy f a b,WV C R g.vec:=λg w=>by obtain⟨s,_,rfl⟩:=wG.1 w;exact IV.lat j (o.ik.at s.lo).1.iv (hb.ik.at s.lo).1.iv
 refine⟨xU o.r hb.r,λf j=>(u f j).iv,λf j=>(u f j).smv ok.c,?_,?_⟩
 .unfold yy;rw[Zf];omega
 .unfold yy;rw[wB];omega
def Kn.do{C:Q9}{R:List Nat}{n m:Nat}{f:XE}(o:f false false=false){a b:List Fg}(j:Kn C R n a)(hb:Kn C R m b)(ok:OkX C R):Kn C R (1+2*(n+m)) (vh f a b):=(j.parts o hb ok).group ok
def Kn.canon{C:Q9}{R:List Nat}{n:Nat}{k:List Fg}(h:Kn C R n k)(ok:OkX C R):Kn C R (1+2*n) (zbx k):=(h.refine ok).group ok
noncomputable def Zx (f:XE) (a b:List Fg) (s:Iv):Fg:=⟨[s],ks f (qc a s.lo) (qc b s.lo)⟩
def Qr(f:XE)(a b:List Fg){j:Nat}(h:j<(zu (a++b)).length):((zu (a++b)).take (j+1)).map (λs=>fc (Zx f a b s))=((zu (a++b)).take j).map (λs=>fc (Zx f a b s))++[fc (Zx f a b (zu (a++b))[j])]:=by rw[vw h,WP];rfl
def YC(f:XE)(a b:List Fg){j:Nat}(h:(zu (a++b)).length<=j):((zu (a++b)).take j).map (λs=>fc (Zx f a b s))=(yy f a b).map fc:=by rw[ww h];unfold yy;rw[Ui];rfl
def KQ:Nat->Code->Code
 |0,c=>c
 |n+1,.seq _ c=>KQ n c
 |_,c=>c
def zjO{B:Q9}{R:List Nat}{n:Nat}(f:XE)(L:f false false=false)(op:FuncId)(a b:List Fg)(E:Kn B R n a)(hb:Kn B R n b)(ok:OkX B R)(O:n<=40000)
 (H:∀x,Cn xT op [vp (qc a x),vp (qc b x)] (vp (ks f (qc a x) (qc b x)))) :
 pW xT Tryz.f70.ntmps True ((qx xT Tryz.f70.ntmps [] (KQ 7 (xN Tryz.f70))).getD .sk) (jG [.t 6,.c 7 false 1] (.tup [kp (vh f a b),.v .nilIface])) ⟨[(0,kp a),(1,kp b),(2,.fn (.func op) [] []),(7,.bx 0 0),(8,kp (a++b)),(9,.sl [] .z)],[[.v .nilIface]]⟩:=by
 have F:=E.app hb;have y:=F.ok12 ok b6;have u:=E.ok12 ok b6;have w:=hb.ok12 ok b6;have M:=xW (a++b);have K:=y.t;have I:=E.parts L hb ok;have G:=zfn (yy f a b) I ok b6
 conv=>arg 4;cbv
 refine pw ?_;refine .c (zdF (a++b) y.r y.z (by have:=y.l;omega) y.t) ?_;refine pLoop.go (λj=>j<=(zu (a++b)).length) (λj=>[(9,.sl (((zu (a++b)).take j).map (λs=>fc (Zx f a b s))) (.r 51 2)),(32,.v (.int .i64 (j:Nat)))]) (λ_=>[[.v .nilIface]]) (λj=>(zu (a++b)).length-j) 0 [9,32] ?_ ?_ ?_
 .exact vj _
 .exact pd
 .rintro j N;refine pw ?_;refine .i ?_ ?_<;>intro h<;>first|refine pw ?_|exact pd
  .have J:=Qr f a b h;refine .c (zgU a (zu (a++b))[j].lo u.ik u.ok u.r u.s u.z) ?_;refine .c (zgU b (zu (a++b))[j].lo w.ik w.ok w.r w.s w.z) ?_;have A:=H (zu (a++b))[j].lo
   (first|refine .c (A) ?_|refine .o (A) ?_)
   refine cutP.full rfl ?_ rfl ?_ ?_
   .exact pd
   .exact pd
   .refine pw ?_;exact⟨j+1,h,b6,J.symm,rfl⟩
  .have C:Cn xT 109 [.sl (((zu (a++b)).take j).map (λs=>fc (Zx f a b s))) .sh] (kp (vh f a b)):=(by rw[YC f a b b6];exact G)
   (first|exact .d (C)|exact .q (C))
section
attribute [-go_sem] z7 zae zaf Vr
def zeG(x y:Nat)(h:x+y<=80000)(w:World):(binOp .add 3 (.int .i64 (x:Nat)) (.int .i64 (y:Nat))).run xT w=.ok (.int .i64 ((x+y:Nat):Int)) w:=by go_simp;rw[TE];omega
def Vk{B:Q9}{R:List Nat}{n:Nat}(f:XE)(hf:f false false=false)(op:FuncId)(a b:List Fg)(ha:Kn B R n a)(hb:Kn B R n b)(ok:OkX B R)(hn:n<=40000)
 (aL:∀x,Cn xT op [vp (qc a x),vp (qc b x)] (vp (ks f (qc a x) (qc b x)))):Cn xT 70 [kp a,kp b,.fn (.func op) [] []] (.tup [kp (vh f a b),.v .nilIface]):=by
 refine yZ rfl (enters_of func70 dN rfl) λD w O hG hD aN hd=>?_;have d0:Dat D w (O.getD 0 undef) (kp a):=hd 0 _ rfl;have d1:Dat D w (O.getD 1 undef) (kp b):=hd 1 _ rfl;have d2:Dat D w (O.getD 2 undef) (.fn (.func op) [] []):=hd 2 _ rfl;obtain⟨v0,M⟩:=xm (O.getD 0 undef);obtain⟨v1,N⟩:=xm (O.getD 1 undef);rw[<-M]at d0;rw[<-N]at d1;have e2:O.getD 2 undef=.func (.func op) #[] #[]:=by
  generalize O.getD 2 undef=x at d2;cases d2 with
  |fn f va vb fs cs h1 h2 h3 h4=>obtain rfl:va=#[]:=UJ (dM h1);obtain rfl:vb=#[]:=UJ (dM h2);rfl
 obtain rfl:O=#[v0,v1,.func (.func op) #[] #[]]:=by
  obtain⟨l⟩:=O;match l,aN with
  |[p,q,s],_=>simp at M N e2;rw[M,N,e2]
 clear d2 e2 M N aN hd;obtain⟨aa,ca,fa,rfl,aj,A,da⟩:=kX d0 hD;obtain⟨ab,cb,fb,rfl,ak,E,db⟩:=kX d1 hD;have br:=ha.l;have bt:=hb.l;have bi:=A.1;have bj:=E.1;have aA:=A.2.1;have aB:=E.2.1;unfold maxLen at aA aB;rw[aj]at bi;rw[ak]at bj;have aR:=qL (λW (hW:Below w.heap.size w W)=>KH ha.r (ha.z b6) d0 hD hG hW);have aS:=qL (λW (hW:Below w.heap.size w W)=>KH hb.r (hb.z b6) d1 hD hG hW);have aX:=qL (λW (hW:Below w.heap.size w W)=>Zn (W:=W) A λb o x h hx=>(tw (a:=⟨b,o,none⟩) (hW.block b h)).trans hx);have aY:=qL (λW (hW:Below w.heap.size w W)=>Zn (W:=W) E λb o x h hx=>(tw (a:=⟨b,o,none⟩) (hW.block b h)).trans hx);have aT:=qL d0;have aU:=qL d1;have aV:=qL da;have aW:=qL db;have aZ:=qL hG;have G:=qL hD;have HA:=qL ha;have HB:=qL hb;have ba:=qL aj;have bc:=qL ak;have bg:=qL aL;obtain⟨i0,aH,aO,aP,aQ⟩:=tV Z9;have I:=jf fa;have J:=jf fb;rw[aj]at I;rw[ak]at J;clear d0 d1 da db A E hG hD ha hb;have bq:=zeG a.length b.length b6;have HI:=qL (And.intro aH (And.intro aO (And.intro aP aQ)));have ar:=qL (And.intro I J);clear aH aO aP aQ I J aL;have S:True:=trivial;have T:True:=trivial;have U:True:=trivial;have V:True:=trivial;have X:True:=trivial
 go_enter_defers func70,ntmps70
 go_upto_region 6 with(first
  | (go_at_call 32;have _t:=S;refine(aR.o _ ((tB _ _).alloc (Zp _) _)).mono ?_;rintro e w1 ⟨rfl,ae⟩
     have an:Boxed w1 w.heap.size 44 .nilIface:=(ae.block _ b8).trans (tx w _);have au:=qL an;have Y:=qL (((tB _ w).alloc (Zp _) _).trans (ae.mono b8));have bu:=an.lt;clear ae an S)
  |(go_at_call 67;refine(zdp _ _).mono ?_;rintro e w' ⟨⟨u,rfl⟩,rfl⟩)
  | (go_at_call 32;have _t:=T;refine(aS.o _ Y.o).mono ?_;rintro e w2 ⟨rfl,af⟩
     have ao:Boxed w2 w.heap.size 44 .nilIface:=(af.block _ au.o.lt).trans au.o;have bh:=qL ao;have aq:=qL (Y.o.trans (af.mono Y.o.size));have bw:=ao.lt;clear af ao T)
  | (at_make;have _t:=U;refine wpList_make_own _ rfl _ _ 41 rfl (w.heap.size+1) 50 i0 _ 2 underlying41 HI.o.1 HI.o.2.1 HI.o.2.2.1 .i64 .i64 _ (a.length+b.length) rfl rfl b8 (by rw[HI.o.2.2.2];omega) dG b6 ?_
     intro w3 aI ag;have L:=qL aI;have K:=qL (aq.o.grown ag aq.o.size λj hj=>by cases hj);have av:=qL (bh.o.kept ag b8);clear aI ag U;dsimp only[Act.put])
  | (at_builtin;have _t:=V;refine Jb _ _ 41 rfl rfl underlying41 (w.heap.size+1) _ 0 [] rfl L.o _ a.length ca (qB fa) rfl ar.o.1 (by rcases aX.o _ K.o with h|h;exact .inl ⟨by have:=h.1;omega,h.2⟩;exact .inr h) (jg fa) b6 (by have:=L.o.lt;have:=K.o.size;have:=av.o.lt;omega) ?_
     intro v4 w4 aJ ah bn;have ad:=qL aJ;have Z:=qL (K.o.grown ah K.o.size λj hj=>by have:=(L.o.lt j hj).1;omega);have aw:=qL (av.o.kept ah λe=>by have:=(L.o.lt _ e.symm).1;omega);clear aJ ah bn V;dsimp only[Act.put])
  | (at_builtin;have _t:=X;refine Jb _ _ 41 rfl rfl underlying41 (w.heap.size+1) _ (0+a.length) ([]++qB fa) rfl ad.o _ b.length cb (qB fb) rfl ar.o.2 (by rcases aY.o _ Z.o with h|h;exact .inl ⟨by have:=h.1;omega,h.2⟩;exact .inr h) (jg fb) b6 (by have:=aw.o.lt;omega) ?_
     intro v5 w5 aK ai bp;have be:=qL aK;have ac:=qL (Z.o.grown ai Z.o.size λj hj=>by have:=(ad.o.lt j hj).1;omega);have ax:=qL (aw.o.kept ai λe=>by have:=(ad.o.lt _ e.symm).1;omega);clear aK ai bp X;dsimp only[Act.put])
  |go_in)
 have bl:=OutG.two (C:=D) (mb:=w.heap.size) (base:=w.heap.size+1) (a:=a) (b:=b) ba.o bc.o be.o G.o ac.o b6 aV.o aW.o;have aC:=bl.dat b6;have bz:=ax.o.lt;have y:∀b o x,D b o->w.cell? ⟨b,o,none⟩=some x->w5.cell? ⟨b,o,none⟩=some x:=λb o x h hx=>(tw (a:=⟨b,o,none⟩) (ac.o.block b (G.o b o h))).trans hx;have H:=ac.o;have am:=‹∀(a:Act)(w:World),Code.wp _ _ _ a w->_›
 apply wp_region_lit;unfold wpList;rw[VS (by simp[Region.wanted])];refine .inl ?_;unfold Oper.wp execOp;simp only[tP];refine am _ _ ?_;refine T9 (zih (nt:=Tryz.f70.ntmps) (D:=DL D w.heap.size w5) dN aZ.o _ ⟨H.os,H.tape,H.output,H.size,λk hk _=>H.block k hk,λb o h=>.inl h,y,λb o h=>h.imp id λh=>.inl (uG h.1),G.o⟩ (λb o h=>h.elim (λh=>by have:=G.o b o h;omega) ui) (Zp _) ax.o (.v _) rfl (λo h=>h.elim (λh=>by have:=G.o _ o h;omega) λh=>b6) rfl [(0,kp a),(1,kp b),(2,.fn (.func op) [] []),(7,.bx 0 0),(8,kp (a++b)),(9,.sl [] .z)] (λt=>?_) (λt=>?_) rfl (Q:=jG [.t 6,.c 7 false 1] (.tup [kp (vh f a b),.v .nilIface])) ?_) ?_
 .rcases t with _|_|_|_|_|_|_|_|_|_|t
  .exact .inr (aT.o.mono (λ_ _ h=>.inl h) y)
  .exact .inr (aU.o.mono (λ_ _ h=>.inl h) y)
  .exact .inr (.fn _ #[] #[] [] [] rfl rfl (λ_ _ h=>by simp at h) (λ_ _ h=>by simp at h))
  .exact .inr (.und _)
  .exact .inr (.und _)
  .exact .inr (.und _)
  .exact .inr (.und _)
  .exact .inl ⟨rfl,rfl⟩
  .exact .inr aC
  .exact .inr (.sl none 0 0 [] .z 0 0 (λ_=>undef) (Zp _) (λ_=>rfl) (vj _) b8 (λi e h=>by simp at h) (λj h=>by simp at h) (λi e j p h=>by simp at h))
  .exact .inr (.und _)
 .rcases t with _|_|_|_|_|_|_|_|_|_|t<;>rfl
 .exact zjO f hf op a b HA.o HB.o ok hn bg.o
 .intro e a1 w1 hQ;obtain⟨he,aE,v,D',aM,F,ay,aD⟩:=zfM (P:=xT) (fn:=Tryz.f70) dN hQ;have az:Below w.heap.size w w1:=⟨F.os,F.tape,F.output,F.size,λk hk=>F.block k hk λh=>h⟩;have aG:Dat (λb o=>D b o\/(w.heap.size<=b/\b<w1.heap.size)) w1 v (.tup [kp (vh f a b),.v .nilIface]):=aD.mono (λb o h=>by
   rcases F.new b o h with h1|h1|h1
   .exact .inl h1
   .exact .inr ⟨h1,ay b o h⟩
   .exact h1.elim) (λ_ _ _ _ h=>h)
  obtain⟨tm,df⟩:=a1;simp only[Act.put]at aE;subst aE;have aF:Leaves xT Tryz.f70 tm (λe w'=>∃v,e=.returned v/\Below w.heap.size w w'/\Dat (λb o=>D b o\/(w.heap.size<=b/\b<w'.heap.size)) w' v (.tup [kp (vh f a b),.v .nilIface])) [{ target:=.fn (.func 66) #[],args:=#[.pointer (some ⟨w.heap.size,0,none⟩)] }] .returning w1:=(by refine leaves_cons (f := 66) (args:=#[.pointer (some ⟨w.heap.size,0,none⟩)]) b8 (by simp[go_sem]) ?_;refine(JI ⟨w.heap.size,0,none⟩ _).mono ?_;rintro e u' bA ⟨rfl,rfl,rfl⟩;exact⟨v,aM,v,rfl,az,aG⟩);rcases he with rfl|rfl<;>exact aF
end
def zl3(a b:List En)(j:SmV a)(hb:SmV b):Cn xT 71 [vp a,vp b] (vp (ks zn a b)):=by refine zt func71 2 ?_;refine pw ?_;exact .d (zdc a b j hb)
def zkv(a b:List En)(j:SmV a)(hb:SmV b):Cn xT 84 [vp a,vp b] (vp (ks zm a b)):=by refine zt func84 2 ?_;refine pw ?_;exact .d (zdb a b j hb)
def knowUnion_c{C:Q9}{R:List Nat}{n:Nat}(a b:List Fg)(j:Kn C R n a)(hb:Kn C R n b)(ok:OkX C R)(o:n<=40000):Cn xT 30 [kp a,kp b] (.tup [kp (vh zn a b),.v .nilIface]):=by refine zt func30 2 ?_;refine pw ?_;exact .d (Vk zn rfl 71 a b j hb ok o (λx=>zl3 _ _ (j.at ok x) (hb.at ok x)))
def vD{C:Q9}{R:List Nat}{n:Nat}(a b:List Fg)(j:Kn C R n a)(hb:Kn C R n b)(ok:OkX C R)(o:n<=40000):Cn xT 41 [kp a,kp b] (.tup [kp (vh zm a b),.v .nilIface]):=by refine zt func41 2 ?_;refine pw ?_;exact .d (Vk zm rfl 84 a b j hb ok o (λx=>zkv _ _ (j.at ok x) (hb.at ok x)))
def Zw{C:Q9}{R:List Nat}{n:Nat}(a b:List Fg)(j:Kn C R n a)(hb:Kn C R n b)(ok:OkX C R)(o:n<=40000):Cn xT 14 [kp a,kp b] (.tup [.v (.bool (decide (vh zm a b=[]))),.v .nilIface]):=by refine zt func14 2 ?_;refine pw ?_;exact .d (vD a b j hb ok o)
def zqm{a b:List Iv}(j:Nrm a)(hb:Nrm b):(qy fMeet a b).length<=2*(a.length+b.length):=by have o:=zcK (C:=z6 a++z6 b) (qH (f:=fMeet) j hb) λx u=>(zcM rfl j hb u).elim (λh=>wI.2 (.inl (Y3 j.ivs2 h))) (λh=>wI.2 (.inr (Y3 hb.ivs2 h)));have w:=vq a;have y:=vq b;rw[wu]at o;omega
def zl5(k:List Fg)(items:List Iv):List Fg:=k.map λf=>⟨qy fMeet f.items items,f.vec⟩
def znX{k:List Fg}{items:List Iv}(h:RightK k)(hi:Nrm items):RightK (zl5 k items):=λg o=>by obtain⟨f,j,rfl⟩:=wG.1 o;exact⟨qH (h f j).1 hi,(h f j).2⟩
def zoG{items:List Iv}(hi:Nrm items):∀{k:List Fg},RightK k->qE (zl5 k items)<=2*qE k+2*(k.length*items.length)
 |[],_=>vj _
 |f::k,h=>by have o:=zoG hi (k:=k) λg j=>h g (by simp[j]);have u:=zqm (h f b8).1 hi;have e:zl5 (f::k) items=⟨qy fMeet f.items items,f.vec⟩::zl5 k items:=rfl;rw[e];simp only[qE,wD,ub,Nat.one_mul];omega
def zn1{k:List Fg}{items:List Iv}(h:RightK k)(hi:Nrm items):CanK (znF k items):=zbX (znX h hi)
abbrev Tr:=Nat×Nat×Nat
def leT(t u:Tr):Prop:=t.1<u.1\/(t.1=u.1/\(t.2.1<u.2.1\/(t.2.1=u.2.1/\t.2.2<=u.2.2)))
structure IsLeast(k:List Fg)(t:Tr):Prop where
 b1:t.1<zk
 b2:t.2.2<zk
 has:hasK k t.1 t.2.1 t.2.2=true
 le:∀i r c,i<zk->c<zk->hasK k i r c=true->leT t (i,r,c)
def zfo{k:List Fg}(h:RightK k){i r c:Nat}:hasK k i r c=true↔∃f∈k,mem f.items i=true/\∃e∈f.vec,e.rep=r/\mem (kn e) c=true:=by
 rw[km];refine exists_congr λf=>uZ λA=>uZ λ_=>?_;have y:=(h f A).2;constructor
 .intro j;by_cases u:∀e∈f.vec,e.rep≠r
  .rw[qC u]at j;cases j
  .simp only[Classical.not_forall,Classical.not_not]at u;obtain⟨e,o,w⟩:=u;refine⟨e,o,w,?_⟩;rw[<-w,kq y.2 o]at j;exact j
 .rintro⟨e,o,rfl,j⟩;rw[kq y.2 o];exact j
def trc(t:Tr):List PV:=[.v (.int .u64 t.1),.v (.int .u64 t.2.1),.v (.int .u64 t.2.2)]
def trp(t:Tr):PV:=.agg (trc t)
attribute [go_sem] trc trp
def zir{op:Nat}(h:op<3):Qj op false false=false:=by
 obtain rfl|rfl|rfl:op=0\/op=1\/op=2:=b6
 all_goals rfl
def YG{C:Q9}{R:List Nat}{n:Nat}(a b:List Fg)(op:Nat)(ho:op<3)(y:Kn C R n a)(hb:Kn C R n b)(ok:OkX C R)(M:n<=20000):Cn xT 61 [kp a,kp b,.v (.int .i64 op)] (kp (vh (Qj op) a b)):=by
 have B:=y.app hb;have o:=B.ok12 ok b6;have u:=y.ok12 ok b6;have w:=hb.ok12 ok b6;have K:=xW (a++b);have H:=o.t;have I:=y.l;have J:=hb.l;have F:=y.parts (zir ho) hb ok;have E:=Kc (yy (Qj op) a b) F ok b6;refine zt func61 3 ?_;refine pw ?_;rw[<-WP];refine .c (VT (a++b) o.r o.z o.l o.t (Ya (a++b) o.r o.z o.l o.t o.i)) ?_;refine pLoop.go (λj=>j<=(zu (a++b)).length) (λj=>[(9,.sl (((zu (a++b)).take j).map (λs=>fc (Zx (Qj op) a b s))) (.r 51 2)),(10,.v (.int .i64 (j:Nat)))]) (λ_=>[]) (λj=>(zu (a++b)).length-j) 0 [6,7,9,10,12,13,14,15,16,17,18,19] ?_ ?_ ?_
 .exact vj _
 .exact pd
 .rintro j L;refine pw ?_;refine .i ?_ ?_<;>intro h<;>first|refine pw ?_|exact pd
  .have G:=Qr (Qj op) a b h;refine .c (VR a (zu (a++b))[j].lo u.ik u.ok u.r u.s u.z) ?_;refine .c (VR b (zu (a++b))[j].lo w.ik w.ok w.r w.s w.z) ?_;refine .c (zcC (qc a (zu (a++b))[j].lo) (qc b (zu (a++b))[j].lo) op ho (y.at ok _) (hb.at ok _)) ?_;exact⟨j+1,h,b6,G.symm,rfl⟩
  .have A:Cn xT 103 [.sl (((zu (a++b)).take j).map (λs=>fc (Zx (Qj op) a b s))) .sh] (kp (vh (Qj op) a b)):=(by rw[YC (Qj op) a b b6];exact E)
   (first|exact .d (A)|exact .q (A))
def zds{C:Q9}{R:List Nat}{n:Nat}(k:List Fg)(h:Kn C R n k)(ok:OkX C R)(j:n<=40000):Cn xT 69 [kp k] (kp (zbx k)):=by show Cn xT 69 [kp k] (kp (zL (jq k)));refine zt func69 1 ?_;refine pw ?_;refine .c (ziJ k (h.ok12 ok b6)) ?_;exact .d (zfn (jq k) (h.refine ok) ok b6)
structure Cr15(a b:List Fg):Prop where
 ra:RightK a
 rb:RightK b
 ka:Kn (CKL [a,b]) (RKL [a,b]) 240 a
 kb:Kn (CKL [a,b]) (RKL [a,b]) 240 b
 ok:OkX (CKL [a,b]) (RKL [a,b])
def zpu(f:FuncId):PV:=.fn (.func f) [] []
attribute [go_sem] zpu
section
attribute [-go_sem] z7 zae zaf Vr
def zog{D:Qk}{w:World}:Dat D w (.slice none 0 0) (.sl [] .sh):=
 .sl none 0 0 [] .sh 0 0 (λ_=>undef) (Zp _) (λ_=>rfl) (vj _) b8 (λi e h=>by simp at h) (λj h=>by simp at h) (λi e j p h=>by simp at h)
def znT{D:Qk}{w:World}{u v:Value}{p q:PV}(o:Dat D w u p)(y:Dat D w v q)(A:u.oneCell'=true)(B:v.oneCell'=true):Dat D w (.agg #[u,v]) (.agg [p,q]):=
 .agg _ _ rfl (λi hi=>match i,hi with|0,_=>A|1,_=>B|i+2,hi=>by simp at hi;omega) λi r j=>match i,j with
  |0,j=>by cases j;exact o
  |1,j=>by cases j;exact y
  |i+2,j=>by simp at j
def zou(s:ByteArray)(x:Nat×Int):PV:=.ifc 141 (.agg [.v (.string s),jS x.1 x.2])
def zmb{x:Nat×Int}(h:x.1≠0):jS x.1 x.2=.ifc 123 (.agg [.v (.int .i64 x.1),.v (.int .i64 x.2)]):=V2 h
def zn4(c:Nat):ByteArray:=⟨#[101,114,114,111,114,32,UInt8.ofNat (48+c)]⟩
def zoU(c:Nat)(u:c<=9)(w:World):Calls xT 26 #[.int .i64 c] w λe o=>e=.returned (.string (zn4 c))/\o=w:=by
 have j:c=0\/c=1\/c=2\/c=3\/c=4\/c=5\/c=6\/c=7\/c=8\/c=9:=b6
 rcases j with rfl|rfl|rfl|rfl|rfl|rfl|rfl|rfl|rfl|rfl;all_goals
  go_enter func26,ntmps26
  go_wp2;apply wp_loop_once
  go_wp2;refine tI (tR rfl _ _ _) rfl ?_;exact⟨dN,rfl⟩
def zoT(c:Nat)(u:c<=9):Cn xT 26 [.v (.int .i64 c)] (.v (.string (zn4 c))):=by
 refine Js rfl (enters_of func26 dN rfl) λD w o A j y=>?_;have d0:=(Rel.dat (ρ:=λ_=>0) (nb:=0) (y 0 _ rfl)).v_inv;obtain rfl:o=#[.int .i64 c]:=by
  obtain⟨l⟩:=o;match l,j with
  |[p],_=>simp at d0;rw[d0]
 refine(zoU c u w).mono ?_;rintro e B ⟨rfl,rfl⟩;exact⟨_,rfl,tB _ _,.v _⟩
def zol{t:TypeId}{m:String}{f:FuncId}(h:∀(v:Value)(w:World),(method (xT.types.size+Made.depth) t v m).run xT w=.ok (f,v) w):Mth xT t m f:=λv j w=>by unfold callMethod;simp only[tM,run_program,tH,h]
def zn8:Mth xT 141 "Error" 250 := zol λv w=>dN
def zn7:Mth xT 123 "Error" 248 := zol λv w=>dN
end
def zoi(c:Nat)(k:Int)(j:c<=9):Cn xT 248 [.agg [.v (.int .i64 c),.v (.int .i64 k)]] (.v (.string (zn4 c))):=by refine zt func248 1 ?_;refine pw ?_;exact .d (zoT c j)
def zoq:ByteArray:=⟨#[58,32]⟩
def zor:(⟨#[58,32]⟩:ByteArray).size=2:=rfl
def zoJ(c:Nat):(zn4 c).size=7:=rfl
def zom(s:ByteArray)(x:Nat×Int)(hs:s.size<=1000)(j:x.1≠0)(o:x.1<=9):Cn xT 250 [.agg [.v (.string s),jS x.1 x.2]] (.v (.string (s++zoq++zn4 x.1))):=by
 rw[zmb j];have w:(Array.mk [(58:UInt8),32]).size=2:=rfl;have u:=zor;have z2:=zoJ x.1;have y:(s++⟨#[58,32]⟩:ByteArray).size=s.size+2:=by rw[ByteArray.size_append,u]
 refine zt func250 1 ?_;refine pw ?_;refine .mk zn7 ?_;refine .c (zoi x.1 x.2 o) ?_;rfl
def zqf(s:ByteArray)(c k:Int)(w:World)(o:HG w):Calls xT 57 #[.iface 141 (.agg #[.string s,.iface 123 (.agg #[.int .i64 c,.int .i64 k])]),.iface 121 (.pointer (some ⟨w.heap.size,0,none⟩))] (w.alloc (.cells #[.int .i64 0] 83))
 λev j=>ev=.returned (.bool true)/\Below w.heap.size w j/\j.cell? ⟨w.heap.size,0,none⟩=some (.int .i64 c):=by
 refine(As.as_DN s c k ⟨w.heap.size,0,none⟩ (.int .i64 0) _ (o.alloc _) b8 b8).mono ?_;rintro ev j ⟨rfl,rfl⟩;refine⟨rfl,?_,?_⟩
 .refine Tb (((((((((tB _ w).alloc ?_ _).alloc ?_ _).alloc ?_ _).alloc ?_ _).alloc ?_ _).alloc ?_ _).alloc ?_ _)) ?_ _<;>simp<;>omega
 .refine t9 _ _ _ (u:=.int .i64 0) ?_;rw[tA _ _ ⟨w.heap.size,0,none⟩ b7,tA _ _ ⟨w.heap.size,0,none⟩ b7,tA _ _ ⟨w.heap.size,0,none⟩ b7,tA _ _ ⟨w.heap.size,0,none⟩ b7,tA _ _ ⟨w.heap.size,0,none⟩ b7,tA _ _ ⟨w.heap.size,0,none⟩ b8];simp
def zqS(s:ByteArray)(c k:Int)(w:World)(j:HG w):Calls xT 24 #[.iface 141 (.agg #[.string s,.iface 123 (.agg #[.int .i64 c,.int .i64 k])])] w λe o=>e=.returned (.int .i64 c)/\Below w.heap.size w o:=by
 go_enter func24,ntmps24
 go_wp2_with (go_at_call 57;refine(zqf s c k w j).mono ?_;rintro e y ⟨rfl,hb,u⟩)
 go_ret;exact⟨rfl,hb⟩
def zqg(s:ByteArray)(c k:Int)(T:Nat)(W:World)(H:HG W)(y:W.cell? ⟨T,0,none⟩=some (.int .i64 0))(B:W.cell? ⟨T,1,none⟩=some (.int .i64 0))(F:W.frozen? ⟨T,0,none⟩=false)(G:W.frozen? ⟨T,1,none⟩=false):
 Calls xT 57 #[.iface 141 (.agg #[.string s,.iface 123 (.agg #[.int .i64 c,.int .i64 k])]),.iface 178 (.pointer (some ⟨T,0,none⟩))] W
 λev u=>ev=.returned (.bool true)/\Keep (λb=>b=T) W u/\u.cell? ⟨T,0,none⟩=some (.int .i64 c)/\u.cell? ⟨T,1,none⟩=some (.int .i64 k):=by
 have I:T<W.heap.size:=tz W ⟨T,0,none⟩ y;refine(As.as_DF s c k T W H (by rw[y];rfl) (by rw[B];rfl) F G).mono ?_;rintro ev u ⟨rfl,rfl⟩;obtain⟨j,o,w⟩:∃j,j=((((W.alloc (.cells #[.pointer (some ⟨T,0,none⟩)] 178)).alloc (.cells #[.pointer (some ⟨2,178,none⟩),.pointer (some ⟨W.heap.size,0,none⟩),.int .u64 150] 171)).alloc (.cells #[.pointer (some ⟨2,178,none⟩),.pointer (some ⟨W.heap.size,0,none⟩),.int .u64 150] 171)).alloc (.cells #[.string s,.iface 123 (.agg #[.int .i64 c,.int .i64 k])] 141)).alloc (.cells #[.int .i64 c,.int .i64 k] 123)/\Keep (λb=>b=T) W j:=
  ⟨_,rfl,(((((Keep.refl _ W).alloc _).alloc _).alloc _).alloc _).alloc _⟩
 have A:Keep (λ_=>False) W j:=by rw[o];exact(((((Keep.refl _ W).alloc _).alloc _).alloc _).alloc _).alloc _
 rw[<-o];have C:=A.cell_some y id;have E:=A.cell_some B id;unfold World.setCells World.setCells World.setCells;have b1:(j.setCell ⟨T,0,none⟩ (.int .i64 c)).cell? ⟨T,0,none⟩=some (.int .i64 c):=t9 _ _ _ C;have b2:(j.setCell ⟨T,0,none⟩ (.int .i64 c)).cell? ⟨T,1,none⟩=some (.int .i64 0):=by rw[TF _ _ _ _ b8];exact E
 refine⟨rfl,(w.setCell (λ_=>rfl) _).setCell (λ_=>rfl) _,?_,t9 _ _ _ b2⟩;show ((j.setCell ⟨T,0,none⟩ _).setCell ⟨T,0+1,none⟩ _).cell? _=_;rw[TF _ _ _ _ b8];exact b1
section
attribute [-go_sem] z7 zae zaf Vr
end
section
attribute [go_sem] zou
def znP(i r c:Nat):List Fg:=[⟨[⟨i,i⟩],zl9 r c⟩]
def zmg:zsC []:=⟨λe h=>(by cases h),List.Pairwise.nil⟩
def zic:RightK []:=λf h=>by cases h
def zoC{r c:Nat}(u:r<zk)(j:c<zk):ks zn [] (zl9 r c)=zl9 r c:=
 zoY rfl zmg (zkS u j).right (zkS u j) λx=>by have o:=qi (zkS u j).right x;have w:Nrm []:=trivial;refine Nrm.unique o (qH w o) λy A=>?_;rw[knV_nil,qj w o A];simp[zn,mem]
def zoH:SmV []:=⟨zmg,b8,λe h=>by cases h⟩
def znJ{C:Q9}{R:List Nat}{n:Nat}(k:List Fg)(i r c:Nat)(w:r<zk)(u:c<zk)(hk:Kn C R n k)(y:Kn C R n (znP i r c))(ok:OkX C R)(A:n<=40000):Cn xT 52 [kp k,.v (.int .u64 i),.v (.int .u64 r),.v (.int .u64 c)] (.tup [kp (vh zn k (znP i r c)),.v .nilIface]):=by
 have j:=zoX [] r c zoH w u;rw[zoC w u]at j;refine zt func52 4 ?_;refine pw ?_
 (first|refine .c (j) ?_|refine .o (j) ?_)
 exact .d (knowUnion_c k (znP i r c) hk y ok A)
def zo1{D:Qk}{w:World}{v:Value}{s:ByteArray}{c k:Int}{t j:TypeId}(h:Dat D w v (.ifc t (.agg [.v (.string s),.ifc j (.agg [.v (.int .i64 c),.v (.int .i64 k)])]))):v=.iface t (.agg #[.string s,.iface j (.agg #[.int .i64 c,.int .i64 k])]):=by
 cases h with
 | ifc t x p h=>
   generalize u:[PV.v (.string s),PV.ifc j (.agg [.v (.int .i64 c),.v (.int .i64 k)])]=cs at h;cases h with
   | agg us cs hs _ h=>
     subst u;obtain⟨l⟩:=us;match l,hs with
     |[x,y],_=>have o:=(Rel.dat (ρ:=λ_=>0) (nb:=0) (h 0 _ rfl)).v_inv;have e1:=zaX (h 1 _ rfl);simp at o e1;rw[o,e1]
structure Ok14(a b:List Fg):Prop where
 ra:RightK a
 rb:RightK b
 ka:Kn (CKL [a,b]) (RKL [a,b]) 240 a
 kb:Kn (CKL [a,b]) (RKL [a,b]) 240 b
 ok:OkX (CKL [a,b]) (RKL [a,b])
end
section
open Go.ChangeShapes Go.WideShapes Go.ChangeAt Go.Deep
structure Opn where
 who:Int
 from_:Int
 item:Nat
 val:ByteArray
 items:List Iv
instance : Inhabited Opn:=⟨⟨0,0,0,⟨#[]⟩,[]⟩⟩
def opc(o:Opn):List PV:=[.v (.int .i64 o.who),.v (.int .i64 o.from_),.v (.int .u64 o.item),.v (.string o.val),rg o.items]
def opp(l:List Opn):PV:=.sl (l.map opc) .sh
def I63(x:Int):Prop := -9223372036854775808<=x/\x<9223372036854775808
def BdO(o:Opn):Prop:=(I63 o.who/\I63 o.from_)/\o.item<zk/\o.val.size<=maxLen/\(∀s∈o.items,s.lo<zk/\s.hi<zk)/\o.items.length<=9223372036854775807
section
variable {H:Type}{enc:TypeId×Value->H}{w:World}{base:Nat}{spare:Nat->Bool}{held:Bool}
def ztP{t:TypeId}{j:Nat}{o:List Value}{x:DataW H×List MemPlace}(ht:xT.underlying t=some (.int .i64))(h:DataW.trod enc xT w base spare held j t o=some x):∃n:Int,o=[.int .i64 n]/\I63 n:=by obtain⟨n,rfl,_,u⟩:=DataW.trod_int ht h;refine⟨n,rfl,?_⟩;simp[Lit.wf,IntKind.min,IntKind.max,IntKind.signed,IntKind.bits]at u;unfold I63;omega
def zvh{n:Nat}{a:Addr}{I:List Value}{y:DataW H×List MemPlace}(h1:w.cells? base a 5=some I)(h2:DataW.trod enc xT w base spare held n 38 I=some y):a.spot=none/\a.block<w.heap.size/\∃o,rdC opc BdO w a.block a.off o:=by
 obtain⟨_,E,u⟩:=World.cells?_some h1;obtain⟨xs,k,_,_,_,L,C⟩:=DataW.trod_struct underlying38 h2;match xs,L,I,E with
 | [y0,y1,y2,y3,y4],_,[v0,v1,v2,v3,v4],_=>
   have N:=C 0 _ rfl;have O:=C 1 _ rfl;have P:=C 2 _ rfl;have Q:=C 3 _ rfl;have S:=C 4 _ rfl;have X:xT.cellsOf 3 = 1:=dN;have Y:xT.cellsOf 36 = 1:=dN;have Z:xT.cellsOf 9 = 1:=dN;have c4:xT.cellsOf 24 = 1:=dN;simp[X,Y,Z,c4]at N O P Q S;have B:=u 0 b6;have e1:=u 1 b6;have e2:=u 2 b6;have e3:=u 3 b6;have e4:=u 4 b6;obtain⟨T,q0,U⟩:=ztP underlying3 N;obtain⟨m1,q1,b1⟩:=ztP underlying3 O;obtain⟨m2,q2,b2⟩:=kM underlying36 P;obtain⟨m3,q3,_,V⟩:=DataW.trod_string underlying9 Q;obtain⟨M,l,q4,G⟩:=ZA S;obtain rfl:v0=_:=(dM q0);obtain rfl:v1=_:=(dM q1);obtain rfl:v2=_:=(dM q2);obtain rfl:v3=_:=(dM q3);obtain rfl:v4=M:=(dM q4);replace B:w.cell? a=some (.int .i64 T):=(by simpa[Addr.add]using B);obtain⟨b,ab,F⟩:=a;obtain rfl:F=none:=World.cell?_spot B;have hd:Dat (ZG w) w v4 (rg l):=jp G λ_ _ _ h=>h;have J:=G.bound;have K:l.length<=9223372036854775807:=(by have:=G.len;unfold maxLen at this;omega);refine⟨rfl,tz _ _ B,⟨T,m1,m2,m3,l⟩,λj p A=>?_,⟨U,b1⟩,b2,V,J,K⟩;obtain⟨aa,c,rfl,_⟩:=G;match j,A with
   |0,A=>cases A;exact⟨_,B,rfl,.v _⟩
   |1,A=>cases A;exact⟨_,by simpa[Addr.add]using e1,rfl,.v _⟩
   |2,A=>cases A;exact⟨_,by simpa[Addr.add]using e2,rfl,.v _⟩
   |3,A=>cases A;exact⟨_,by simpa[Addr.add]using e3,rfl,.v _⟩
   |4,A=>cases A;exact⟨_,by simpa[Addr.add]using e4,rfl,hd⟩
def zwo{r:Reach}{B:Nat}{v:Value}{d:DataW H}{I:List MemPlace}(j:Value.okWide xT w r B 22 v)(h:DataW.Trod enc xT w base spare held 22 v d I):∃l,Dat (ZG w) w v (opp l)/\(∀o∈l,BdO o)/\l.length<=9223372036854775807:=by obtain⟨a,len,C,rfl⟩:=okWide_slice underlying22 j;obtain⟨u,G⟩:=h;obtain⟨v,l,A,y⟩:=Za (rdC opc BdO) underlying22 dN (λ_ _ _ _ E F=>zvh E F) G;simp[Value.cells]at A;rw[<-A]at y;exact⟨l,VQ (cv:=opc) (bd:=BdO) (λ_=>rfl) y⟩
end
end
section
attribute [-go_sem] z7
def dat_row{D:Qk}{w:World}{x:Value}{y:List (List PV)}{sz:Nat}(h:Dat D w x (.sl y .sh))(hs:∀e∈y,e.length=sz):
 ∃J A C,x=.slice J y.length A/\y.length<=A/\A<=maxLen/\C.length=y.length*sz/\(∀u∈C,u.oneCell'=true)/\((y.length=0/\C=[])\/∃b B,J=some ⟨b,B,none⟩/\∀(j:Nat)(u:Value),C[j]?=some u->D b (B+j)/\w.cell? ⟨b,B+j,none⟩=some u) /\
  ∀(i:Nat)(e:List PV)(j:Nat)(p:PV),y[i]?=some e->e[j]?=some p->∃u,C[i*sz+j]?=some u/\Dat D w u p:=by
 generalize ho:Ow.sh=o at h;cases h with
 | sl a A sz' y o b B u hc hz hm ha hsz hD hd=>
   by_cases I:y=[]
   .subst I;exact⟨a,A,[],rfl,hc,hm,b8,λ_ h=>by simp at h,.inl ⟨rfl,rfl⟩,λi e j p h=>by simp at h⟩
   .obtain rfl:sz'=sz:=by
     cases y with
     |nil=>exact absurd rfl I
     |cons e y=>exact(hsz 0 e rfl).symm.trans (hs e b8)
    refine⟨a,A,(List.range (y.length*sz')).map u,rfl,hc,hm,b8,λv E=>?_,.inr ⟨b,B,ha I,λj v E=>?_⟩,λi e j p G L=>?_⟩
    .obtain⟨j,K,rfl⟩:=wG.1 E;exact(hD j (dM K)).2.2
    .rw[wn]at E;obtain⟨k,hk,rfl⟩:=Z3.1 E;obtain⟨F,rfl⟩:=ZZ.1 hk;simp at F;rw[U0];exact⟨(hD j F).1,(hD j F).2.1⟩
    .have hi:=(ZZ.1 G).1;have K:j<sz':=(by rw[<-hsz i e G];exact(ZZ.1 L).1);have H:i*sz'+j<y.length*sz':=(by have:=Ww sz' (show i+1<=y.length from hi);rw[ub]at this;omega);refine⟨u (i*sz'+j),?_,hd i e j p G L⟩;rw[wn,uQ H];rfl
def run_app_G(w:World)(t N e:TypeId)(E:TypeInfo)(z:Value)(sz A:Nat)(ht:xT.underlying t=some (.slice e))(hi:xT.info? e=some E)(hz:E.zero=some z)(hs:E.size=sz)(hb:E.bytes=A)(hzs:z.cells.size=sz)(M:0<sz)(K:A<=64)
 (base:Nat) (v:Value) (n:Nat) (O:List Value) (y:w.ownsRow base e sz v n O) (H:Option Addr) (m c:Nat) (o:List Value) (Q:o.length=m*sz)
 (C:(m=0/\H=none)\/∃a,H=some a/\∀j u,o[j]?=some u->w.cell? (a.add j)=some u) (U:∀u∈o,u.oneCell'=true) (J:n+m<=1073741824) (B:base<=w.heap.size) :
 ∃F G,(Builtin.append_ #[t,t] N #[v,.slice H m c]).run xT w=.ok F G/\G.ownsRow base e sz F (n+m) (O++o)/\w.grownBy G v.ownBlock/\(F.ownBlock=v.ownBlock\/F.ownBlock=some w.heap.size):=by
 rcases C with⟨rfl,rfl⟩|⟨a,rfl,V⟩
 .obtain rfl:o=[]:=Wc.1 (dM Q);obtain⟨I,cp,rfl,L⟩:∃I cp,v=.slice I n cp/\n<=cp:=by
   rcases y.2 with⟨rfl,rfl⟩|⟨g,S,T,rfl,_,_,h,_⟩
   .exact⟨none,0,rfl,Zp _⟩
   .exact⟨_,_,rfl,h⟩
  exact⟨_,w,ve w t N _ E ht hi I n cp c L,dM y,jW _ _,.inl rfl⟩
 .obtain⟨F,G,X,Y,Z,_,r5⟩:=Tm (P:=xT) w base t N e E z sz A ht hi hz hs hb hzs M v n O y a m c o Q V U dG (by
   calc (n+m)*A<=1073741824*64:=UW J K
    _<=140737488355328:=dE) B
  exact⟨F,G,X,Y,Z,r5⟩
def zq6{E:Array Oper}{rest:List Oper}{o:Oper}{a:Act}{w:World}{Q:Exit->Act->World->Prop}(s x:Operand)(t e:TypeId)(M:o.guard=none)
 (ho:o.op=.call { callee:=.builtin .append,args:=#[s,x],argTypes:=#[t,t] }) (H:TypeInfo) (z:Value) (sz A:Nat) (ht:xT.underlying t=some (.slice e)) (hi:xT.info? e=some H) (hz:H.zero=some z) (N:H.size=sz) (hb:H.bytes=A) (hzs:z.cells.size=sz) (O:0<sz) (L:A<=64)
 (base:Nat) (v:Value) (n:Nat) (P:List Value) (hs:a.eval s=v) (G:w.ownsRow base e sz v n P)
 (J:Option Addr) (m c:Nat) (y:List Value) (hx:a.eval x=.slice J m c) (X:y.length=m*sz) (C:(m=0/\J=none)\/∃a,J=some a/\∀j u,y[j]?=some u->w.cell? (a.add j)=some u) (S:∀u∈y,u.oneCell'=true) (K:n+m<=1073741824) (B:base<=w.heap.size)
 (h:∀F I,I.ownsRow base e sz F (n+m) (P++y)->w.grownBy I v.ownBlock->(F.ownBlock=v.ownBlock\/F.ownBlock=some w.heap.size)->wpList xT E Q rest (a.put o.dst F) I):wpList xT E Q (o::rest) a w:=by
 have Z:Region.wanted o (yielded E a.tmps)=true:=by simp[Region.wanted,M]
 unfold wpList;rw[VS Z];refine .inl ?_;obtain⟨F,I,Y,T,U,V⟩:=run_app_G w t o.type e H z sz A ht hi hz N hb hzs O L base v n P G J m c y X C S K B;unfold Oper.wp execOp;simp only[ho,resolve,invoke,builtin,tM,tP,tH,ul,WC,uf,hs,hx,Y];exact h F I T U V
def zrH{w:World}{base A:Nat}{e:TypeId}{sz:Nat}(j:base<=A)(h:w.heap[A]?=some (.cells #[] e (0,0))):w.ownsRow base e sz (.slice (some ⟨A,0,none⟩) 0 0) 0 []:=⟨b8,.inr ⟨A,0,#[],rfl,j,h,Zp _,vj _,b8,b8⟩⟩
def eqlV_some(j:Addr)(n c:Nat)(w:World):(binOp .eql 48 (.slice (some j) n c) (.slice none 0 0)).run xT w=.ok (.bool false) w:=dN
def eqlV_none(n c:Nat)(w:World):(binOp .eql 48 (.slice none n c) (.slice none 0 0)).run xT w=.ok (.bool true) w:=dN
def zqZ:(xT.info? 155).map (λi=>(i.zero,i.size,i.bytes))=some (some (.agg #[.int .u64 0,.int .u64 0,.slice none 0 0]),3,40):=dN
def znV{D:Qk}{w:World}{x:Value}{es:List (List PV)}(d:Dat D w x (.sl es .sh))(hs:∀e∈es,e.length=3)(hl:es.length<=1073741824):
 Calls xT 106 #[x] w λe P=>∃u F,e=.returned u/\Below w.heap.size w P/\P.ownsRow w.heap.size 155 3 u es.length F/\∀(i:Nat)(e:List PV)(j:Nat)(p:PV),es[i]?=some e->e[j]?=some p->∃v,F[i*3+j]?=some v/\Dat D w v p:=by
 obtain⟨I,y,F,rfl,_,_,M,N,J,K⟩:=dat_row d hs;obtain⟨i0,A,B,C,E⟩:=tV zqZ;cases I with
 | none=>
   obtain⟨Q,rfl⟩:es.length=0/\F=[]:=by
    rcases J with h|⟨b,G,e,_⟩
    .exact h
    .cases e
   have hq:=eqlV_none es.length y;have L:=qL K;have T:=qL Q;clear M N J K d hl A B C E Q;go_enter func106,ntmps106
   go_wp2;go_ret;refine⟨_,[],rfl,tB _ _,?_,L.o⟩;rw[T.o];exact tX _ _ _ _
 | some I=>
   have hq:=eqlV_some I es.length y;have o:∀(j:Nat)(u:Value),F[j]?=some u->(w.alloc (.cells #[] 155)).cell? (I.add j)=some u:=λj u O=>by
    rcases J with⟨_,e⟩|⟨b,G,e,h⟩
    .rw[e]at O;simp at O
    .cases e;have S:=(h j u O).2;rw[zh];exact(tw (a:=⟨b,G+j,none⟩) (tC _ _ _ (tz w _ S))).trans S
   have Y:=qL (tx w (.cells #[] 155 (0,0)));have X:=qL o;have U:=qL M;have V:=qL N;have L:=qL K;have H:=qL (And.intro A (And.intro B (And.intro C E)));clear M N J K d o A B C E;go_enter func106,ntmps106
   go_wp2_with (at_builtin;refine zq6 _ _ 48 155 rfl rfl i0 _ 3 40 underlying48 H.o.1 H.o.2.1 H.o.2.2.1 H.o.2.2.2 rfl dE dE w.heap.size _ 0 [] rfl (zrH (Zp _) Y.o) _ es.length y F rfl U.o (.inr ⟨_,rfl,X.o⟩) V.o b6 b8 ?_;intro v' P ho Z hv)
   go_ret;rw[wy]at ho;refine⟨v',F,rfl,?_,ho,L.o⟩;exact(((tB _ w).alloc (Zp _) _).grown Z b8 λj hj=>by cases hj;exact Zp _)
end
end Go.Proofs.YtjdjjlkifdimkaaGreatDoor
