import Derived.Test.YtjdjjlkifdimkaaGreatDoorRows
import Derived.ChangeSame
import Derived.ChangeVars
import Derived.LaidLaws
import Derived.LaidHandle
import Derived.Stop.Joined
import Derived.Test.YtjdjjlkifdimkaaGreatDoorB26
set_option maxHeartbeats 16000000
set_option linter.all false
set_option maxRecDepth 100000
namespace Go.Proofs.YtjdjjlkifdimkaaGreatDoor
open Go.RowKit
open Go.Proofs.Tryz
open Go.Proofs.Tryz renaming prog->xT
section
attribute [-go_sem] z7
def zvp{w j:World}{base size n:Nat}{e:TypeId}{v:Value}{o:List Value}(h:w.ownsRow base e size v n o)(hb:Below w.heap.size w j):j.ownsRow base e size v n o:=
 ⟨h.1,h.2.imp id λ⟨g,cap,cur,e1,hg,hc,r⟩=>⟨g,cap,cur,e1,hg,(hb.block g (Y1.1 hc).1).trans hc,r⟩⟩
def zvJ{S:Nat->Prop}{A W j:World}(h:Keep S A W)(hb:Below W.heap.size W j):Keep S A j:=h.trans (Keep.of_below' hb (Zp _))
def zwy{D:Qk}{w j W:World}{v:Value}{k:List Fg}{u:List Fv}(A:u.length=k.length)(E:∀i (h:i<u.length),Dat (Nw D w j) j (sv u[i].1) (rg (k[i]'(A▸h)).items)/\Dat (Nw D w j) j (sv u[i].2) (vp (k[i]'(A▸h)).vec))(C:∀b o,Nw D w j b o->b<j.heap.size)(hs:w.heap.size<=j.heap.size)(F:0<j.heap.size)(hb:Below j.heap.size j W)(ho:W.ownsRow j.heap.size 50 2 v k.length (qB u)):SlK D w k v W:=by
 have y:OutG (Nw D w j) (j.heap.size-1) j.heap.size W v (k++[]):=OutG.two (fa:=u) (fb:=[]) A rfl (by
  rw[show 0+k.length+([]:List Fg).length=k.length by simp,show []++qB u++qB []=qB u by simp[qB]];exact ho) C hb (Zp _) E λi h=>absurd h b8
 rw[We]at y;obtain⟨a,c,rfl,_⟩:=y.shape;have B:=hb.size;refine⟨a,c,rfl,(y.dat b6).mono (λb o h=>?_) λ_ _ _ _ h=>h⟩;rcases h with h|h
 .exact Nw.up B h
 .exact .inr ⟨b6,h.2⟩
def zwD{D:Qk}{w:World}{l:List Opn}{items:List Iv}{ia xa:Option Addr}{ic xc:Nat}(hG:Gd D w)(hd:Dat D w (.slice ia l.length ic) (opp l))(hb:∀o∈l,BdO o)(hl:l.length<=9223372036854775807)(dx:Dat D w (.slice xa items.length xc) (rg items))(C:∀s∈items,s.lo<zk/\s.hi<zk)(bT:items.length<=9223372036854775807):
 Calls xT 3 #[.slice ia l.length ic,.slice xa items.length xc] w λe w'=>e=.returned (.bool true)/\Below w.heap.size w w':=by
 have ad:∀W,Below w.heap.size w W->Gd D W/\Dat D W (.slice ia l.length ic) (opp l)/\Dat D W (.slice xa items.length xc) (rg items):=λW hW=>by have hk:Keep qe w W:=Keep.of_below' hW (Zp _);exact⟨hG.keep hk λ_ _ _=>id,hd.mono (λ_ _ h=>h) λb o x hd C=>hk.cell_some C id,dx.mono (λ_ _ h=>h) λb o x hd C=>hk.cell_some C id⟩
 have Z:=λW (hW:Below w.heap.size w W)=>zwj (ad W hW).2.1 hl λo ho=>⟨(hb o ho).2.2.1,(hb o ho).2.2.2.2⟩;have aO:=λW (hW:Below w.heap.size w W)=>zu5 (ad W hW).1;have E:items.length<=10->∀W,Below w.heap.size w W->Calls xT 7 #[.slice xa items.length xc] W λe w'=>e=.returned (.bool (zpM items))/\Below W.heap.size W w':=λh W hW=>zsI (zqs items b6 C) (ad W hW).1 (vs:=#[.slice xa items.length xc]) rfl (zud (ad W hW).2.2);have aW:=qL aO;obtain⟨a,c,ev,hc,Y⟩:=ztV hd;obtain⟨rfl,rfl⟩:ia=a/\ic=c:=dM ev
 have aP:=hG.2;by_cases am:ztR l=true/\items.length<=10/\zpM items=true
 .obtain⟨hf,G,aU⟩:=am;rw[hf]at Z;rw[aU]at E;replace E:=E G;obtain⟨e,K⟩:=zvV (items:=items) hf hb G;have bL:=(ztG hf).1;have J:Nrm items:=(zpN λs hs=>(C s hs).2).1 aU;have aH:=qL (And.intro J (And.intro G dx));obtain⟨n,hn⟩:=xm (l.length);obtain⟨xn,af⟩:=xm (items.length);have ah:=qL Z;have ai:=qL E;have HC:=qL Y;have HE:=qL (And.intro e (And.intro K hG));have ag:=qL aP;have HN:=qL hn;have aL:=qL af;rw[<-hn]at ah hc hl bL⊢;rw[<-af]at ai G⊢;have cE:¬(10<(xn:Int)):=b6;clear Z E Y aO ad e K hG hd hb ev aP hn hf dx C bT af aU J;go_enter func3,ntmps3
  go_wp2_with (go_at_call 5;refine(zt2 w).mono ?_;rintro e H ⟨B,M,F,rfl,I,aT,aq⟩;dsimp only[plv])
  obtain⟨wp,ac⟩:=xm (H.alloc (.cells (plv B F) 30));have L:Below w.heap.size w wp:=(by rw[ac];exact I.alloc I.size _);have bU:wp.heap[H.heap.size]?=some (.cells (plv B F) 30 (0,0)):=(by rw[ac];exact tx _ _);have bK:Keep qe H wp:=(by rw[ac];exact(Keep.refl _ _).alloc _);have cM:wp.heap.size=H.heap.size+1:=(by rw[ac];exact tE _ _);dsimp only[plv]at ac;rw[<-ac];clear ac
  go_wp2_with (first
   |(go_at_call 6;refine(ah.o wp L).mono ?_;rintro e X ⟨rfl,y⟩)
   |(go_at_call 7;refine(ai.o _ (L.trans (y.mono L.size))).mono ?_;rintro e X ⟨rfl,az⟩;replace y:=y.trans (az.mono y.size)))
  have ak:Below w.heap.size w X:=L.trans (y.mono L.size);have bQ:=(y.block _ b6).trans bU;have av:∀i,i<3->∀o,¬D (B i) o/\¬D (M i) o/\¬D (F i) o:=λi hi o=>(by obtain⟨g1,g2,g3⟩:=aq i hi;exact⟨λh=>by have:=ag.o _ _ h;omega,λh=>by have:=ag.o _ _ h;omega,λh=>by have:=ag.o _ _ h;omega⟩);have T:∀i,i<3->B i<H.heap.size/\M i<H.heap.size/\F i<H.heap.size:=λi hi=>aT.lt hi;have s2:=y.size;have bN:Play D 0 X B M F S0:=(aT.same (D':=λ_ _=>False) (Zp _) ((bK.below (Zp _) λ_ _ h=>h).trans (y.mono b6)) (λ_ _ h=>h) λ_ _ h=>h.elim).sub (Zp _) (λ_ _ h=>h.elim) av;obtain⟨e,K,bp⟩:=HE.o;have aN:Gd D X:=bp.keep (S:=qe) (Keep.of_below' ak (Zp _)) λ_ _ _=>id;have au:PlI (λ_=>List.range 27) [0,10,20,999] (edO l++z6 items) (l.map Opn.item) D X B M F 0 S0 X:=⟨bN.sub (Zp _) (λ_ _ h=>.inl h) λi hi o=>by
   obtain⟨n1,n2,n3⟩:=av i hi o;exact⟨λh=>h.elim n1 b6,λh=>h.elim n2 b6,λh=>h.elim n3 b6⟩,zwf λi hi=>b7,Keep.refl _ _⟩
  have aF:∀k,PB B M F k->w.heap.size<=k/\k<H.heap.size:=λk hk=>by
   obtain⟨i,hi,rfl|rfl|rfl⟩:=hk
   .exact⟨(aq i hi).1,(T i hi).1⟩
   .exact⟨(aq i hi).2.1,(T i hi).2.1⟩
   .exact⟨(aq i hi).2.2,(T i hi).2.2⟩
  have aJ:∀i,i<3->B i<X.heap.size/\M i<X.heap.size/\F i<X.heap.size:=λi hi=>(by obtain⟨l1,l2,l3⟩:=T i hi;exact⟨b6,b6,b6⟩);have bW:∀W,Keep (PB B M F) X W->W.heap[H.heap.size]?=some (.cells (plv B F) 30 (0,0)):=λW hk=>hk.obj bQ λh=>(by have:=aF _ h;omega);have bP:∀W,Keep (PB B M F) X W->Below w.heap.size w W/\∀b o x,b<w.heap.size->w.cell? ⟨b,o,none⟩=some x->W.cell? ⟨b,o,none⟩=some x:=λW hk=>⟨ak.trans (hk.below ak.size λq hq h=>by have:=aF _ h;omega),λb o x hd C=>hk.cell_some (p:=⟨b,o,none⟩) (bc0 ak C) λh=>by
   have:=aF _ h;simp only at this;omega⟩
  have bh:=qL (fun(j:Nat) (S:Nat->Rs) (wr:World) (o:Opn) (ib:Option Addr) (jc:Nat) (h:PlI (λ_=>List.range 27) [0,10,20,999] (edO l++z6 items) (l.map Opn.item) D X B M F j S wr) (hj:j<25) (ho:o∈l) (d:Dat D w (.slice ib o.items.length jc) (rg o.items)) (obj:Obj)=>h.step e hj (K o ho) aN aJ av (d.mono (λ_ _ h=>h) λb o x hd C=>bc0 ak C) obj);have be:=qL (fun(j:Nat) (S:Nat->Rs) (o:Opn) (pi:PyI S) (ok:OkS (λ_=>List.range 27) [0,10,20,999] (edO l++z6 items) (l.map Opn.item) j S) (hj:j<25) (ho:o∈l)=>pi.step e b6 ok (K o ho));have aY:=qL (fun(S:Nat->Rs) (wr:World) (h:PlI (λ_=>List.range 27) [0,10,20,999] (edO l++z6 items) (l.map Opn.item) D X B M F n S wr)=>And.intro e (h.gd aN av));have aZ:=qL au;have aM:=qL bW;have Q:=qL bP;clear au bW bP aF T aJ aN bp K e bN aT bQ av aq bK bU L I y az HE ah ai
  go_wp2_with fail
  go_loopg [46] n (λg x wr=>∃j,j<=n/\g=n-j/\x=.int .i64 j/\∃S,PlI (λ_=>List.range 27) [0,10,20,999] (edO l++z6 items) (l.map Opn.item) D X B M F j S wr/\PyI S)
  case atStart=>exact⟨0,vj _,rfl,rfl,S0,aZ.o,PyI.zero⟩
  case round=>
   obtain⟨j,hj,rfl,rfl,S,A,ab⟩:=hrel;have cK:=A.k.size;have C:=aM.o wr A.k;have z0:wr.cell? ⟨H.heap.size,0,none⟩=some (.pointer (some ⟨B 0,0,none⟩)):=(zW C 0 _ rfl).1;have z1:wr.cell? ⟨H.heap.size,1,none⟩=some (.pointer (some ⟨B 1,0,none⟩)):=(zW C 1 _ rfl).1;have z2:wr.cell? ⟨H.heap.size,2,none⟩=some (.pointer (some ⟨B 2,0,none⟩)):=(zW C 2 _ rfl).1;have z3:wr.cell? ⟨H.heap.size,3,none⟩=some (.pointer (some ⟨F 0,0,none⟩)):=(zW C 3 _ rfl).1;have z4:wr.cell? ⟨H.heap.size,4,none⟩=some (.pointer (some ⟨F 1,0,none⟩)):=(zW C 4 _ rfl).1;have z5:wr.cell? ⟨H.heap.size,5,none⟩=some (.pointer (some ⟨F 2,0,none⟩)):=(zW C 5 _ rfl).1;have cH:=(Y1.1 C).1;by_cases aE:j<n
   .have bI:j<l.length:=(by rw[<-HN.o];exact aE);obtain⟨o,ho⟩:=xm (l[j]);have bA:=HC.o j bI;rw[<-ho]at bA;obtain⟨g,O,ib,jc,rfl,bH,q0,q1,q2,q3,q4,dI⟩:=bA;have ar:=ag.o g O bH;have hk:=A.k;have c0:wr.cell? ⟨g,O+j*5,none⟩=some (.int .i64 o.who):=(Q.o wr hk).2 _ _ _ ar q0;have c1:wr.cell? ⟨g,O+j*5+1,none⟩=some (.int .i64 o.from_):=(by rw[WD];exact(Q.o wr hk).2 _ _ _ ar q1);have c2:wr.cell? ⟨g,O+j*5+2,none⟩=some (.int .u64 o.item):=(by rw[WD];exact(Q.o wr hk).2 _ _ _ ar q2);have c3:wr.cell? ⟨g,O+j*5+3,none⟩=some (.string o.val):=(by rw[WD];exact(Q.o wr hk).2 _ _ _ ar q3);have c4:wr.cell? ⟨g,O+j*5+4,none⟩=some (.slice ib o.items.length jc):=(by rw[WD];exact(Q.o wr hk).2 _ _ _ ar q4);have aS:o∈l:=(by rw[ho];exact X3 bI);have ce:=qL (bh.o j S wr o ib jc A b6 aS dI (.cells #[.int .i64 o.who,.int .i64 o.from_,.int .u64 o.item,.string o.val,.slice ib o.items.length jc] 38));have cf:=qL (be.o j S o ab A.ok b6 aS);clear A ab hk C q0 q1 q2 q3 q4 dI bH ho aS
    go_wp2_with (go_at_call 9;refine ce.o.mono ?_;rintro e w5 ⟨rfl,cB⟩)
    go_roundg (n-(j+1));case measure=>omega
    case rel=>exact⟨j+1,aE,rfl,rfl,_,cB,cf.o⟩
   .obtain rfl:j=n:=b6;obtain⟨e,bq⟩:=aY.o S wr A;obtain⟨J,G,dx⟩:=aH.o;have hW:=(Q.o wr A.k).1;have bC:=(Q.o wr A.k).2;have ao:Below wr.heap.size wr wr.drew:=(tB _ _).drew;have aC:Keep qe wr wr.drew:=Keep.of_below' ao (Zp _);have bl:Dat (Nw D X wr) wr.drew (.slice xa items.length xc) (rg items):=dx.mono (λ_ _ h=>.inl h) λb o x hd C=>aC.cell_some (bC b o x (ag.o b o hd) C) id;have hE:∀x,Ed items x->x∈edO l++z6 items:=λx C=>te _ (Y3 J.ivs2 C);have hP:=A.p.same (D':=Nw D X wr) (Zp _) ao (λ_ _ h=>h) λ_ _ h=>.inl h;have br:=bq.keep aC λ_ _ _=>id;have h1:=zv7 hP e A.ok b6 b6 J hE G (.zero hP br bl);rw[<-aL.o]at h1;have H1:=qL h1;have HP:=qL (And.intro hP (And.intro e (And.intro ab (And.intro A.ok (And.intro J hE)))));have bj:=qL G;have HT:=qL (show 25*j+25<800000 by omega);have bc:=qL (A.k.trans (aC.mono λ_ _ h=>h.elim));obtain⟨i0,au,bX,bY,bZ⟩:=tV Z9;have HI:=qL (And.intro au (And.intro bX (And.intro bY bZ)));obtain⟨kn,aB⟩:=xm ((S 1).known.length);have cF:kn<=1000000:=(by rw[aB];exact((A.ok 1 dE).k.sz e).1);have aj:=qL aB;rw[<-aB]at H1;clear h1 hP br A ab e bq J dx bl hE bC aC C aH bh be aY aZ aB au bX bY bZ
    go_wp2_with fail
    go_region
    go_wp2_with (first
     |(go_at_call 10;refine H1.o.mono ?_;rintro e w3 ⟨a1,c1,rfl,h3⟩;have H3:=qL h3;clear h3)
     |(go_at_call 11;refine H3.o.mono ?_;rintro e w4 ⟨⟨q4,rfl⟩,aQ,P,bO⟩))
    have aV:=aM.o w4 (bc.o.trans aQ);have cA:=(Y1.1 aV).1;obtain⟨a2,c2,ev,bD⟩:=bO;rw[<-aj.o]at ev;obtain⟨rfl,rfl⟩:a1=a2/\c1=c2:=(dM ev);obtain⟨a3,c3,fs,bn,ax⟩:=kX bD P.g.2;have cg:=qL ax;obtain⟨ae,ay,_⟩:=ax;obtain⟨rfl,rfl⟩:a1=a3/\c1=c3:=(dM bn);have cz:fs.length=kn:=(by rw[ae];exact aj.o.symm);have bi:=qL P;have ci:=qL aQ;have bg:=qL ay;have cI:=qL aV;have cJ:kn<=c1:=(by rw[<-cz];exact ay.1);clear aQ P ev bD bn ay aV H1 H3
    go_wp2_with fail
    obtain⟨wv,cD⟩:∃wv,wv=wr:=⟨wr,rfl⟩;subst cD;go_loopg [14,72] kn (λg xv xi wr=>∃j,j<=kn/\g=kn-j/\xi=.int .i64 j/\Below w4.heap.size w4 wr/\wr.ownsRow w4.heap.size 50 2 xv j (qB (fs.take j)));case atStart=>exact⟨0,vj _,rfl,rfl,tB _ _,tX _ _ _ _⟩
    case round=>
     obtain⟨i,hi,rfl,rfl,N,U⟩:=hrel;by_cases aE:i<kn
     .have aD:i<fs.length:=b6;obtain⟨b,O,rfl,cx,bB⟩:=bg.o.2.2 (λe=>by rw[e]at aD;simp at aD);obtain⟨y0,y1⟩:=bB i aD;have ae:qB (fs.take (i+1))=qB (fs.take i)++[sv fs[i].1,sv fs[i].2]:=(by rw[vw aD];unfold qB;rw[Wl];simp);obtain⟨f,hf⟩:=xm (fs[i]);rw[<-hf]at y0 y1 ae;obtain⟨⟨ga,gn,gc⟩,pa,pn,pc⟩:=f;dsimp only[sv]at y0 y1 ae;have q0:wr.cell? ⟨b,O+i*2,none⟩=some (.slice ga gn gc):=bc0 N y0;have q1:wr.cell? ⟨b,O+i*2+1,none⟩=some (.slice pa pn pc):=bc0 N y1;have cc:=qL N;have aI:=qL U;have ch:=qL ae;have cC:=N.size;clear N U ae y0 y1 bB hf cx
      go_wp2_with fail
      obtain⟨wa,aG⟩:=xm ((wr.alloc (.cells #[.slice ga gn gc,.slice pa pn pc] 50)).alloc (.cells #[.slice ga gn gc,.slice pa pn pc] 50));have an:Below wr.heap.size wr wa:=(by rw[aG];exact((tB _ _).alloc (Zp _) _).alloc b8 _);have bS:wa.heap[wr.heap.size+1]?=some (.cells #[.slice ga gn gc,.slice pa pn pc] 50 (0,0)):=(by rw[aG];exact Tx _ _ _);have cL:wr.heap.size<=wa.heap.size:=an.size;have aX:=qL (cc.o.trans (an.mono cC));rw[<-aG];refine Zi _ _ 41 rfl w4.heap.size 50 i0 _ 2 48 underlying41 HI.o.1 HI.o.2.1 HI.o.2.2.1 HI.o.2.2.2 rfl dE _ _ (qB (fs.take i)) rfl (zvp aI.o an) ⟨wr.heap.size+1,0,none⟩ 1 1 [.slice ga gn gc,.slice pa pn pc] rfl rfl (λj u hj=>by
       rw[zh,wy];exact(zW bS j u (dM hj)).1) (λu hu=>by simp at hu;rcases hu with rfl|rfl<;>rfl) dG b6 b6 ?_
      intro v6 w6 aR bG _ _;rw[<-ch.o]at aR;have cs:=qL aR;have cb:=qL (aX.o.grown bG aX.o.size λk hk=>((zvp aI.o an).lt k hk).1);clear aR bG an bS aG
      go_wp2_with fail
      go_roundg (kn-(i+1));case measure=>omega
      case rel=>exact⟨i+1,aE,rfl,b8,cb.o,cs.o⟩
     .obtain rfl:i=kn:=b6;obtain⟨bF,_,bE⟩:=cg.o;have P:=bi.o;rw[aL.o]at P;have bR:=P.sz;rw[ww b6,aj.o]at U;have aw:=zwy bF bE P.g.2 bR b6 N U;obtain⟨hP,e,ab,bM,J,hE⟩:=HP.o;have h2:=zv8 hP e ab bM b6 b8 HT.o J hE bj.o (P.below N) aw;rw[<-aL.o]at h2;have H2:=qL h2;have cr:=qL (zvJ (bc.o.trans ci.o) N);clear h2 hP e ab bM J hE aw P U bE N
      go_wp2_with (first
       |(go_at_call 10;have h:=H2.o;clear H2;refine h.mono ?_;clear h;rintro e w5 ⟨bt,u5,rfl,h5⟩;have cj:=qL (zvJ cr.o bt);have H5:=qL h5;clear bt h5)
       |(go_at_call 12;refine H5.o.mono ?_;rintro e w6 ⟨aA,⟨a6,c6,rfl⟩,h6⟩;have ck:=qL (zvJ cj.o aA);have H6:=qL h6;clear aA h6)
       |(go_at_call 11;refine H6.o.mono ?_;rintro e w7 ⟨rfl,bJ,h7⟩;have cm:=qL (ck.o.trans bJ);have H7:=qL h7;clear bJ h7)
       |(go_at_call 10;have h:=H7.o;clear H7;refine h.mono ?_;clear h;rintro e w8 ⟨bu,u8,rfl,h8⟩;have cn:=qL (zvJ cm.o bu);have H8:=qL h8;clear bu h8)
       | (go_at_call 13;refine H8.o.mono ?_;rintro e w9 ⟨rfl,bw,h9⟩;have ba:=qL (zvJ cn.o bw);have H9:=qL h9
          have V:=aM.o w9 ba.o;clear bw h9;have y0:w9.cell? ⟨H.heap.size,0,none⟩=some (.pointer (some ⟨B 0,0,none⟩)):=(zW V 0 _ rfl).1;have y1:w9.cell? ⟨H.heap.size,1,none⟩=some (.pointer (some ⟨B 1,0,none⟩)):=(zW V 1 _ rfl).1;have y2:w9.cell? ⟨H.heap.size,2,none⟩=some (.pointer (some ⟨B 2,0,none⟩)):=(zW V 2 _ rfl).1;have y3:w9.cell? ⟨H.heap.size,3,none⟩=some (.pointer (some ⟨F 0,0,none⟩)):=(zW V 3 _ rfl).1;have y4:w9.cell? ⟨H.heap.size,4,none⟩=some (.pointer (some ⟨F 1,0,none⟩)):=(zW V 4 _ rfl).1;have y5:w9.cell? ⟨H.heap.size,5,none⟩=some (.pointer (some ⟨F 2,0,none⟩)):=(zW V 5 _ rfl).1;have cG:=(Y1.1 V).1;clear V)
       |(go_at_call 15;refine H9.o.mono ?_;rintro e wp ⟨L,up,rfl,hp⟩;have co:=qL (zvJ ba.o L);have ct:=qL hp;clear L hp)
       |(go_at_call 10;refine ct.o.mono ?_;rintro e wq ⟨ao,uq,rfl,hq⟩;have cq:=qL (zvJ co.o ao);have cu:=qL hq;clear ao hq)
       |(go_at_call 14;refine cu.o.mono ?_;rintro e ws ⟨rfl,bz⟩;have aK:=qL (Q.o ws (zvJ cq.o bz)).1;clear bz)
       |(go_at_call 8;refine(aW.o _ aK.o).mono ?_;rintro e wt ⟨rfl,cy⟩))
      go_ret;exact⟨rfl,aK.o.trans (cy.mono aK.o.size)⟩
 .have h3:ztR l=false\/(ztR l=true/\10<items.length)\/(ztR l=true/\items.length<=10/\zpM items=false):=by
   by_cases h1:ztR l=true
   .by_cases h2:items.length<=10
    .exact .inr (.inr ⟨h1,h2,by simpa using λh=>am ⟨h1,h2,h⟩⟩)
    .exact .inr (.inl ⟨h1,b6⟩)
   .exact .inl (dM h1)
  obtain⟨n,hn⟩:=xm (l.length);obtain⟨xn,af⟩:=xm (items.length);rw[<-hn]at Z⊢;rw[<-af]at h3 E⊢;clear hn af Y ad aO hG hd hb ev aP am hl dx C bT hc;rcases h3 with h1|⟨h1,h4⟩|⟨h1,h4,h2⟩;all_goals
   rw[h1]at Z;try
    replace E:=E h4;rw[h2]at E
   try have h5:(10:Int)<(xn:Int):=b6
   try have h5:¬(10:Int)<(xn:Int):=b6
   have ah:=qL Z;have ai:=qL E;clear Z E h1;go_enter func3,ntmps3
   go_wp2_with (first
    |(go_at_call 5;refine(zt2 w).mono ?_;rintro e H ⟨B,M,F,rfl,I,_,_⟩;dsimp only[plv])
    |(go_at_call 6;refine(ah.o _ (I.alloc I.size _)).mono ?_;rintro e X ⟨rfl,y⟩;replace y:=(I.alloc I.size _).trans (y.mono (I.alloc I.size _).size))
    |(go_at_call 7;refine(ai.o _ y).mono ?_;rintro e w3 ⟨rfl,az⟩;replace y:=y.trans (az.mono y.size))
    |(go_at_call 8;refine(aW.o _ y).mono ?_;rintro e w6 ⟨rfl,aA⟩))
   go_ret;exact⟨rfl,y.trans (aA.mono y.size)⟩
def zwA(l:List Opn)(items:List Iv)(hb:(∀o∈l,BdO o)/\l.length<=9223372036854775807)(hi:∀s∈items,s.lo<zk/\s.hi<zk):Cn xT 3 [opp l,rg items] (.v (.bool true)):=by
 refine⟨enters_of func3 dN rfl,λD w F I C B E=>?_⟩;have A:=E 0 _ rfl;have u:=E 1 _ rfl;obtain⟨a,c,ev,_⟩:=ztV A;obtain⟨G,H,j⟩:=zK u;rw[ev]at A;rw[j]at u;rw[show F=#[.slice a l.length c,.slice G items.length H] from by
  rw[<-ev,<-j];obtain⟨q⟩:=F;match q,B with|[x,y],_=>rfl]
 refine(zwD ⟨I,C⟩ A hb.1 hb.2 u hi (zwd u)).mono ?_;rintro e J ⟨rfl,hb⟩;exact⟨_,D,rfl,hb,λ_ _ h=>h,λ_ _ h=>.inl h,λb o h=>Vq (C b o h) hb.size,.v _,trivial⟩
end
section
open Go.ChangeShapes Go.WideShapes
def own:ownKnob xT.godebug=none:=dN
def Xc:laidOutB xT=true:=dN
def et:xT.globalNamed "errors.errorType" = some 1:=dN
def rt:(xT.cutTypes.find? (·.1 == "internal/reflectlite.rtype")).map (·.2)=some 194 :=dN
def ziq:((List.range 332).filter λt=>xT.rowNamed t [101,114,114,111,114])=[44]:=dN
def tsize:xT.types.size=332:=dN
def zab{H:Type}:List (String×DataW H):=[("errors.errorType",Rows.laid_errors_errorType)]
def Z7{W:World}(h:laidMetH xT zab W):W.cell? ⟨1,0,none⟩=some (.iface 194 (.agg #[.pointer (some ⟨2,44,none⟩)])):=by
 have A:laidMet xT [] W/\handlesMet xT zab W:=h;obtain⟨j,u,C,e1,e2,w,e4,e5⟩:=A.2 _ (wK.2 rfl);have y:j=[101,114,114,111,114]:=(wH e1).symm;subst y;obtain rfl:=wH (rt.symm.trans e2);have o:C∈(List.range 332).filter λt=>xT.rowNamed t [101,114,114,111,114]:=Wv.2 ⟨WW.2 (by rw[<-tsize];exact w),e4⟩;rw[ziq]at o;obtain rfl:=wK.1 o;have B:typeHandle xT 44 = .pointer (some ⟨2,44,none⟩):=dN
 rw[B]at e5;simpa using World.var?_cell et e5 0
def JH{W:World}(h:laidMetH xT zab W):GL (ZG W) W:=λx o=>by have j:=Z7 h;obtain rfl:_=x:=wH o;exact⟨tz W ⟨1,0,none⟩ j,j⟩
noncomputable def Yx (os:Os):World:=
 let w0:=World.holding xT os ⟨#[],#[],[]⟩
 { w0 with heap:=w0.heap.modify 1 fun
  |.cells _ t frozen=>.cells #[.iface 194 (.agg #[.pointer (some ⟨2,44,none⟩)])] t frozen
  |o=>o }
def Q3(os:Os)(j:Array Value):laidMetH xT zab ((Yx os).forCall (λ_ _=>0) ⟨#[],j,[]⟩).memory:=
 laidMetH_of_parts (laidMet_nil _ _) dN
end
end Go.Proofs.YtjdjjlkifdimkaaGreatDoor
