import Derived.Test.YtmpnbdhadjfbhaaGreatDoorRows
import Derived.ChangeSame
import Derived.ChangeVars
import Derived.LaidLaws
import Derived.LaidHandle
import Derived.Stop.Joined
import Derived.Test.YtmpnbdhadjfbhaaGreatDoorB27
set_option maxHeartbeats 16000000
set_option linter.all false
set_option maxRecDepth 100000
namespace Go.Proofs.YtmpnbdhadjfbhaaGreatDoor
open Go.RowKit
open Go.Proofs.Tryz
open Go.Proofs.Tryz renaming prog->xT
section
attribute [-go_sem] z7
def zvV{l:List Opn}{items:List Iv}(h:ztR l=true)(hb:∀o∈l,BdO o)(hi:items.length<=10):Env25 (λ_=>List.range 27) [0,10,20,999] (edO l++z6 items) (l.map Opn.item)/\∀o∈l,OpE (edO l++z6 items) (l.map Opn.item) o:=by
 obtain⟨e,y⟩:=zu9 h hb;have E:=zt4 l λo ho=>((ztG h).2 o ho).2;have F:=(ztG h).1;have G:=vq items;refine⟨⟨⟨λr=>b6,b6⟩,e.c,by simp[edO],by rw[wj];omega,e.i,λi hi=>?_⟩,λo ho=>?_⟩
 .obtain⟨j,u,w⟩:=e.m i hi;exact⟨j,Ub _ u,λh=>Ub _ (w h)⟩
 .obtain⟨j,u,w,B,C⟩:=y o ho;exact⟨j,u,w,B,λx A=>Ub _ (C x A)⟩
def zvC{C:Q9}{R E I:List Nat}{n t P a c:Nat}{D:Qk}{w:World}{B M F:Nat->Nat}{S:Nat->Rs}{A f:Rs}{b m:Nat}{items:List Iv}{ia:Option Addr}{N:Nat}(e:Env25 C R E I)(Q:Ok25 C R E I n A)(Y:Ok25 C R E I n f)(hn:n<=26)(J:Rpl D t w b m A)(hF:Rpl D P w a c f)(O:Gd D w)(G:∀o,¬D b o)(H:∀o,¬D m o)(K:b≠m)(ht:t<900000)(hi:Nrm items)(T:∀x,Ed items x->x∈E)(L:items.length<=10)(d:Dat D w (.slice ia items.length N) (rg items))(U:a≠b/\a≠m)(V:c≠b/\c≠m):
 Calls xT 10 #[.pointer (some ⟨b,0,none⟩),.pointer (some ⟨a,0,none⟩),.slice ia items.length N] w λe j=>e=.returned (.tuple #[.int .i64 (zs0 f A.known items).length,.nilIface])/\Keep (λk=>k=b\/k=m) w j/\Gd (Nw D w j) j/\Rpl (Nw D w j) (t+25) j b m (ztt A f items)/\Rpl (Nw D w j) P j a c f/\Dat (Nw D w j) j (.slice ia items.length N) (rg items)/\(∀o,¬Nw D w j b o)/\(∀o,¬Nw D w j m o):=by
 have ab:b<w.heap.size:=(XV.1 J.choose_spec.choose_spec.1).1;have ac:m<w.heap.size:=J.choose_spec.choose_spec.2.1.lt;have Z:a<w.heap.size:=(XV.1 hF.choose_spec.choose_spec.1).1;refine(zuP e Q Y hn J hF O G H K ht hi T L d).mono ?_;rintro e j ⟨rfl,hk,hr⟩;have y:∀u o,D u o->¬(u=b\/u=m):=λu o h=>by
  rintro(rfl|rfl)
  .exact G _ h
  .exact H _ h
 refine⟨rfl,hk,Gd.new (w:=w) (O.keep hk y) hk.size,hr,hF.keep hk a8 a8 λu o h=>⟨.inl h,y u o h⟩,d.mono (λ_ _ h=>.inl h) λu o x X hx=>hk.cell_some hx (y u o X),λo h=>h.elim (G o) a8,λo h=>h.elim (H o) a8⟩
def zvE{C:Q9}{R E I:List Nat}{n t b m:Nat}{D:Qk}{w:World}{s:Rs}{items:List Iv}{ia:Option Addr}{B:Nat}(e:Env25 C R E I)(h:Ok25 C R E I n s)(G:Rpl D t w b m s)(F:Gd D w)(hi:Nrm items)(j:items.length<=1000000)(d:Dat D w (.slice ia items.length B) (rg items))(W:World)(H:Below w.heap.size w W):
 Calls xT 12 #[.pointer (some ⟨b,0,none⟩),.slice ia items.length B] W λe y=>Below W.heap.size W y/\∃u,e=.returned u/\DT y u (s.recs.filter λx=>mem items x.item):=by
 have hk:Keep qe w W:=Keep.of_below' H (Zp _);refine(zum e h (G.keep hk id id λb o h=>⟨h,id⟩) (F.keep hk λ_ _ _=>id) hi.ivs2 j (d.mono (λ_ _ h=>h) λb o x A J=>hk.cell_some J id)).mono ?_;rintro e y ⟨a,c,rfl,hb,A⟩;exact⟨hb,_,rfl,.of A⟩
def zwi{C:Q9}{R E I:List Nat}{n t:Nat}{D:Qk}{w:World}{B M F:Nat->Nat}{S:Nat->Rs}{items:List Iv}{ia:Option Addr}{K:Nat}(e:Env25 C R E I)(ok:OkS C R E I n S)(hn:n<=26)(pi:PyI S)(j:Play D t w B M F S)(hG:Gd D w)(ht:t<800000)(hi:Nrm items)(O:∀x,Ed items x->x∈E)(y:items.length<=10)(d:Dat D w (.slice ia items.length K) (rg items)):
 Calls xT 10 #[.pointer (some ⟨B 0,0,none⟩),.pointer (some ⟨B 1,0,none⟩),.slice ia items.length K] w λe T=>(∃q:Nat,e=.returned (.tuple #[.int .i64 q,.nilIface]))/\Keep (PB B M F) w T /\
  Calls xT 10 #[.pointer (some ⟨B 1,0,none⟩),.pointer (some ⟨B 0,0,none⟩),.slice ia items.length K] T λe U=>(∃q:Nat,e=.returned (.tuple #[.int .i64 q,.nilIface]))/\Keep (PB B M F) T U/\∃L:List Rc,L.length<=1000000/\∀W,Below U.heap.size U W ->
   (Calls xT 12 #[.pointer (some ⟨B 0,0,none⟩),.slice ia items.length K] W λe N=>Below W.heap.size W N/\∃u,e=.returned u/\DT N u L) /\
   Calls xT 12 #[.pointer (some ⟨B 1,0,none⟩),.slice ia items.length K] W λe N=>Below W.heap.size W N/\∃u,e=.returned u/\DT N u L:=by
 have o0:=ok 0 b8;have P:=ok 1 b8;have H:B 1≠B 0:=λh=>by have:=j.bb 1 0 b8 b8 h;omega
 have J:M 1≠M 0:=λh=>by have:=j.mm 1 0 b8 b8 h;omega
 have b10:=j.bm 1 0 b8 b8;have A:=j.bm 0 1 b8 b8;have V:=j.bm 0 0 b8 b8;have b11:=j.bm 1 1 b8 b8;have Q:=o0.pull P e hi O y;have oB:=P.pull Q e hi O y;refine(zvC (B:=B) (M:=M) (F:=F) (S:=S) e o0 P hn (j.a 0 b8) (j.a 1 b8) hG (λo=>(j.nd 0 b8 o).1) (λo=>(j.nd 0 b8 o).2.1) V a8 hi O y d ⟨H,b10⟩ ⟨uP A,J⟩).mono ?_;rintro e3 T ⟨rfl,Y,X,ab,ad,d3,_,_⟩;have af:B 1<w.heap.size/\M 1<w.heap.size:=⟨(j.lt b8).1,(j.lt b8).2.1⟩;refine⟨⟨_,rfl⟩,Y.mono λk _ h=>⟨0,b8,h.imp id .inl⟩,?_⟩;refine(zvC (B:=B) (M:=M) (F:=F) (S:=S) e P Q hn ad ab X (λo h=>h.elim (j.nd 1 b8 o).1 a8) (λo h=>h.elim (j.nd 1 b8 o).2.1 a8) b11 a8 hi O y d3 ⟨uP H,A⟩ ⟨uP b10,uP J⟩).mono ?_;rintro e4 U ⟨rfl,Z,G,ae,ac,d4,_,_⟩;have hL:=pi.both e hn ok hi;refine⟨⟨_,rfl⟩,Z.mono λk _ h=>⟨1,b8,h.imp id .inl⟩,_,?_,λW hW=>⟨zvE e Q ac G hi a8 d4 W hW,?_⟩⟩
 .have:=Q.len e;exact V1 (Wy _ _) a8
 .rw[hL];exact zvE e oB ae G hi a8 d4 W hW
def zwC{D:Qk}{w:World}{l:List Opn}{items:List Iv}{ia xa:Option Addr}{ic xc:Nat}(hG:Gd D w)(hd:Dat D w (.slice ia l.length ic) (opp l))(hb:∀o∈l,BdO o)(hl:l.length<=9223372036854775807)(dx:Dat D w (.slice xa items.length xc) (rg items))(A:∀s∈items,s.lo<zk/\s.hi<zk)(bl:items.length<=9223372036854775807):
 Calls xT 3 #[.slice ia l.length ic,.slice xa items.length xc] w λe w'=>e=.returned (.bool true)/\Below w.heap.size w w':=by
 have V:∀W,Below w.heap.size w W->Gd D W/\Dat D W (.slice ia l.length ic) (opp l)/\Dat D W (.slice xa items.length xc) (rg items):=λW U=>by have hk:Keep qe w W:=Keep.of_below' U (Zp _);exact⟨hG.keep hk λ_ _ _=>id,hd.mono (λ_ _ h=>h) λb o x hd A=>hk.cell_some A id,dx.mono (λ_ _ h=>h) λb o x hd A=>hk.cell_some A id⟩
 have Q:=λW (U:Below w.heap.size w W)=>zwj (V W U).2.1 hl λo ho=>⟨(hb o ho).2.2.1,(hb o ho).2.2.2.2⟩;have ax:=λW (U:Below w.heap.size w W)=>zu5 (V W U).1;have E:items.length<=10->∀W,Below w.heap.size w W->Calls xT 7 #[.slice xa items.length xc] W λe w'=>e=.returned (.bool (zpM items))/\Below W.heap.size W w':=λh W U=>zsI (zqs items a8 A) (V W U).1 (vs:=#[.slice xa items.length xc]) rfl (zud (V W U).2.2);have aF:=qL ax;obtain⟨a,c,ev,hc,P⟩:=ztV hd;obtain⟨rfl,rfl⟩:ia=a/\ic=c:=dJ ev
 have aA:=hG.2;by_cases ah:ztR l=true/\items.length<=10/\zpM items=true
 .obtain⟨hf,I,aE⟩:=ah;rw[hf]at Q;rw[aE]at E;replace E:=E I;obtain⟨e,H⟩:=zvV (items:=items) hf hb I;have be:=(ztG hf).1;have Z:Nrm items:=(zpN λs hs=>(A s hs).2).1 aE;have ar:=qL (And.intro Z (And.intro I dx));obtain⟨n,hn⟩:=xm (l.length);obtain⟨xn,ab⟩:=xm (items.length);have ae:=qL Q;have af:=qL E;have HC:=qL P;have HE:=qL (And.intro e (And.intro H hG));have ad:=qL aA;have HN:=qL hn;have bA:=qL ab;rw[<-hn]at ae hc hl be⊢;rw[<-ab]at af I⊢;have bE:¬(10<(xn:Int)):=a8;clear Q E P ax V e H hG hd hb ev aA hn hf dx A bl ab aE Z;go_enter func3,ntmps3
  go_wp2_with (go_at_call 5;refine(zt2 w).mono ?_;rintro e O ⟨B,M,F,rfl,G,aC,ai⟩;dsimp only[plv])
  obtain⟨wp,T⟩:=xm (O.alloc (.cells (plv B F) 30));have X:Below w.heap.size w wp:=(by rw[T];exact G.alloc G.size _);have bn:wp.heap[O.heap.size]?=some (.cells (plv B F) 30 (0,0)):=(by rw[T];exact tn _ _);have ba:Keep qe O wp:=(by rw[T];exact(Keep.refl _ _).alloc _);have bH:wp.heap.size=O.heap.size+1:=(by rw[T];exact tv _ _);dsimp only[plv]at T;rw[<-T];clear T
  go_wp2_with (first
   |(go_at_call 6;refine(ae.o wp X).mono ?_;rintro e N ⟨rfl,u⟩)
   |(go_at_call 7;refine(af.o _ (X.trans (u.mono X.size))).mono ?_;rintro e N ⟨rfl,am⟩;replace u:=u.trans (am.mono u.size)))
  have ag:Below w.heap.size w N:=X.trans (u.mono X.size);have bj:=(u.block _ a8).trans bn;have ak:∀i,i<3->∀o,¬D (B i) o/\¬D (M i) o/\¬D (F i) o:=λi hi o=>(by obtain⟨g1,g2,g3⟩:=ai i hi;exact⟨λh=>by have:=ad.o _ _ h;omega,λh=>by have:=ad.o _ _ h;omega,λh=>by have:=ad.o _ _ h;omega⟩);have K:∀i,i<3->B i<O.heap.size/\M i<O.heap.size/\F i<O.heap.size:=λi hi=>aC.lt hi;have s2:=u.size;have bg:Play D 0 N B M F S0:=(aC.same (D':=λ_ _=>False) (Zp _) ((ba.below (Zp _) λ_ _ h=>h).trans (u.mono a8)) (λ_ _ h=>h) λ_ _ h=>h.elim).sub (Zp _) (λ_ _ h=>h.elim) ak;obtain⟨e,H,aO⟩:=HE.o;have aw:Gd D N:=aO.keep (S:=qe) (Keep.of_below' ag (Zp _)) λ_ _ _=>id;have aW:PlI (λ_=>List.range 27) [0,10,20,999] (edO l++z6 items) (l.map Opn.item) D N B M F 0 S0 N:=⟨bg.sub (Zp _) (λ_ _ h=>.inl h) λi hi o=>by
   obtain⟨n1,n2,n3⟩:=ak i hi o;exact⟨λh=>h.elim n1 a8,λh=>h.elim n2 a8,λh=>h.elim n3 a8⟩,zwf λi hi=>a9,Keep.refl _ _⟩
  have ao:∀k,PB B M F k->w.heap.size<=k/\k<O.heap.size:=λk hk=>by
   obtain⟨i,hi,rfl|rfl|rfl⟩:=hk
   .exact⟨(ai i hi).1,(K i hi).1⟩
   .exact⟨(ai i hi).2.1,(K i hi).2.1⟩
   .exact⟨(ai i hi).2.2,(K i hi).2.2⟩
  have au:∀i,i<3->B i<N.heap.size/\M i<N.heap.size/\F i<N.heap.size:=λi hi=>(by obtain⟨l1,l2,l3⟩:=K i hi;exact⟨a8,a8,a8⟩);have bp:∀W,Keep (PB B M F) N W->W.heap[O.heap.size]?=some (.cells (plv B F) 30 (0,0)):=λW hk=>hk.obj bj λh=>(by have:=ao _ h;omega);have bi:∀W,Keep (PB B M F) N W->Below w.heap.size w W/\∀b o x,b<w.heap.size->w.cell? ⟨b,o,none⟩=some x->W.cell? ⟨b,o,none⟩=some x:=λW hk=>⟨ag.trans (hk.below ag.size λq hq h=>by have:=ao _ h;omega),λb o x hd A=>hk.cell_some (p:=⟨b,o,none⟩) (bc0 ag A) λh=>by
   have:=ao _ h;simp only at this;omega⟩
  have aL:=qL (fun(j:Nat) (S:Nat->Rs) (wr:World) (o:Opn) (ib:Option Addr) (jc:Nat) (h:PlI (λ_=>List.range 27) [0,10,20,999] (edO l++z6 items) (l.map Opn.item) D N B M F j S wr) (hj:j<25) (ho:o∈l) (d:Dat D w (.slice ib o.items.length jc) (rg o.items)) (obj:Obj)=>h.step e hj (H o ho) aw au ak (d.mono (λ_ _ h=>h) λb o x hd A=>bc0 ag A) obj);have aJ:=qL (fun(j:Nat) (S:Nat->Rs) (o:Opn) (pi:PyI S) (ok:OkS (λ_=>List.range 27) [0,10,20,999] (edO l++z6 items) (l.map Opn.item) j S) (hj:j<25) (ho:o∈l)=>pi.step e a8 ok (H o ho));have aH:=qL (fun(S:Nat->Rs) (wr:World) (h:PlI (λ_=>List.range 27) [0,10,20,999] (edO l++z6 items) (l.map Opn.item) D N B M F n S wr)=>And.intro e (h.gd aw ak));have aI:=qL aW;have aM:=qL bp;have J:=qL bi;clear aW bp bi ao K au aw aO H e bg aC bj ak ai ba bn X G u am HE ae af
  go_wp2_with fail
  go_loopg [37] n (λg x wr=>∃j,j<=n/\g=n-j/\x=.int .i64 j/\∃S,PlI (λ_=>List.range 27) [0,10,20,999] (edO l++z6 items) (l.map Opn.item) D N B M F j S wr/\PyI S)
  case atStart=>exact⟨0,X4 _,rfl,rfl,S0,aI.o,PyI.zero⟩
  case round=>
   obtain⟨j,hj,rfl,rfl,S,y,aq⟩:=hrel;have bG:=y.k.size;have A:=aM.o wr y.k;have z0:wr.cell? ⟨O.heap.size,0,none⟩=some (.pointer (some ⟨B 0,0,none⟩)):=(zW A 0 _ rfl).1;have z1:wr.cell? ⟨O.heap.size,1,none⟩=some (.pointer (some ⟨B 1,0,none⟩)):=(zW A 1 _ rfl).1;have z2:wr.cell? ⟨O.heap.size,2,none⟩=some (.pointer (some ⟨B 2,0,none⟩)):=(zW A 2 _ rfl).1;have z3:wr.cell? ⟨O.heap.size,3,none⟩=some (.pointer (some ⟨F 0,0,none⟩)):=(zW A 3 _ rfl).1;have z4:wr.cell? ⟨O.heap.size,4,none⟩=some (.pointer (some ⟨F 1,0,none⟩)):=(zW A 4 _ rfl).1;have z5:wr.cell? ⟨O.heap.size,5,none⟩=some (.pointer (some ⟨F 2,0,none⟩)):=(zW A 5 _ rfl).1;have bF:=(XV.1 A).1;by_cases bc:j<n
   .have aX:j<l.length:=(by rw[<-HN.o];exact bc);obtain⟨o,ho⟩:=xm (l[j]);have aS:=HC.o j aX;rw[<-ho]at aS;obtain⟨g,ac,ib,jc,rfl,aV,q0,q1,q2,q3,q4,dI⟩:=aS;have aj:=ad.o g ac aV;have hk:=y.k;have c0:wr.cell? ⟨g,ac+j*5,none⟩=some (.int .i64 o.who):=(J.o wr hk).2 _ _ _ aj q0;have c1:wr.cell? ⟨g,ac+j*5+1,none⟩=some (.int .i64 o.from_):=(by rw[Wt];exact(J.o wr hk).2 _ _ _ aj q1);have c2:wr.cell? ⟨g,ac+j*5+2,none⟩=some (.int .u64 o.item):=(by rw[Wt];exact(J.o wr hk).2 _ _ _ aj q2);have c3:wr.cell? ⟨g,ac+j*5+3,none⟩=some (.string o.val):=(by rw[Wt];exact(J.o wr hk).2 _ _ _ aj q3);have c4:wr.cell? ⟨g,ac+j*5+4,none⟩=some (.slice ib o.items.length jc):=(by rw[Wt];exact(J.o wr hk).2 _ _ _ aj q4);have aB:o∈l:=(by rw[ho];exact Y1 aX);have br:=qL (aL.o j S wr o ib jc y a8 aB dI (.cells #[.int .i64 o.who,.int .i64 o.from_,.int .u64 o.item,.string o.val,.slice ib o.items.length jc] 38));have bt:=qL (aJ.o j S o aq y.ok a8 aB);clear y aq hk A q0 q1 q2 q3 q4 dI aV ho aB
    go_wp2_with (go_at_call 9;refine br.o.mono ?_;rintro e w5 ⟨rfl,bD⟩)
    go_roundg (n-(j+1));case measure=>omega
    case rel=>exact⟨j+1,bc,rfl,rfl,_,bD,bt.o⟩
   .obtain rfl:j=n:=a8;obtain⟨e,aP⟩:=aH.o S wr y;obtain⟨Z,I,dx⟩:=ar.o;have U:=(J.o wr y.k).1;have aU:=(J.o wr y.k).2;have aR:Below wr.heap.size wr wr.drew:=(tr _ _).drew;have an:Keep qe wr wr.drew:=Keep.of_below' aR (Zp _);have aN:Dat (Nw D N wr) wr.drew (.slice xa items.length xc) (rg items):=dx.mono (λ_ _ h=>.inl h) λb o x hd A=>an.cell_some (aU b o x (ad.o b o hd) A) id;have hE:∀x,Ed items x->x∈edO l++z6 items:=λx A=>U7 _ (Y3 Z.ivs2 A);have Y:=zwi e y.ok a8 aq (y.p.same (D':=Nw D N wr) (Zp _) aR (λ_ _ h=>h) λ_ _ h=>.inl h) (aP.keep an λ_ _ _=>id) a8 Z hE I aN;rw[<-bA.o]at Y;have aG:=qL Y;have bw:=qL (y.k.trans (an.mono λ_ _ h=>h.elim));clear Y y aq e aP Z dx aN hE aU an A ar aL aJ aH aI aM
    go_wp2_with fail
    go_region
    go_wp2_with (first
     |(go_at_call 10;have Y:=aG.o;clear aG;refine Y.mono ?_;rintro e w3 ⟨⟨q3,rfl⟩,aY,aT⟩;have bu:=qL (bw.o.trans aY);have bq:=qL aT;clear aY aT Y)
     |(go_at_call 10;refine bq.o.mono ?_;rintro e w4 ⟨⟨q4,rfl⟩,aZ,L,hL,aD⟩;have av:=qL (J.o w4 (bu.o.trans aZ)).1;have aK:=qL λW U=>(aD W U).1;have bz:=qL λW U=>(aD W U).2;have HL:=qL hL;clear aZ aD hL)
     |(go_at_call 8;refine(aF.o _ av.o).mono ?_;rintro e w5 ⟨rfl,C⟩)
     |(go_at_call 12;have bh:=aK.o _ C;clear aK;refine bh.mono ?_;clear bh;rintro e w6 ⟨ay,u6,rfl,az⟩;replace C:=C.trans (ay.mono C.size))
     |(go_at_call 12;refine(bz.o _ C).mono ?_;rintro e w7 ⟨aQ,u7,rfl,bC⟩;replace C:=C.trans (aQ.mono C.size);replace az:=az.below aQ)
     |(go_at_call 11;refine(zw7 az bC HL.o).mono ?_;rintro e w8 ⟨rfl,bB⟩;replace C:=C.trans (bB.mono C.size)))
    go_ret;exact⟨rfl,av.o.trans (C.mono av.o.size)⟩
 .have h3:ztR l=false\/(ztR l=true/\10<items.length)\/(ztR l=true/\items.length<=10/\zpM items=false):=by
   by_cases h1:ztR l=true
   .by_cases h2:items.length<=10
    .exact .inr (.inr ⟨h1,h2,by simpa using λh=>ah ⟨h1,h2,h⟩⟩)
    .exact .inr (.inl ⟨h1,a8⟩)
   .exact .inl (dJ h1)
  obtain⟨n,hn⟩:=xm (l.length);obtain⟨xn,ab⟩:=xm (items.length);rw[<-hn]at Q⊢;rw[<-ab]at h3 E⊢;clear hn ab P V ax hG hd hb ev aA ah hl dx A bl hc;rcases h3 with h1|⟨h1,h4⟩|⟨h1,h4,h2⟩;all_goals
   rw[h1]at Q;try
    replace E:=E h4;rw[h2]at E
   try have h5:(10:Int)<(xn:Int):=a8
   try have h5:¬(10:Int)<(xn:Int):=a8
   have ae:=qL Q;have af:=qL E;clear Q E h1;go_enter func3,ntmps3
   go_wp2_with (first
    |(go_at_call 5;refine(zt2 w).mono ?_;rintro e O ⟨B,M,F,rfl,G,_,_⟩;dsimp only[plv])
    |(go_at_call 6;refine(ae.o _ (G.alloc G.size _)).mono ?_;rintro e N ⟨rfl,u⟩;replace u:=(G.alloc G.size _).trans (u.mono (G.alloc G.size _).size))
    |(go_at_call 7;refine(af.o _ u).mono ?_;rintro e w3 ⟨rfl,am⟩;replace u:=u.trans (am.mono u.size))
    |(go_at_call 8;refine(aF.o _ u).mono ?_;rintro e w6 ⟨rfl,ay⟩))
   go_ret;exact⟨rfl,u.trans (ay.mono u.size)⟩
def zwB(l:List Opn)(items:List Iv)(hb:(∀o∈l,BdO o)/\l.length<=9223372036854775807)(hi:∀s∈items,s.lo<zk/\s.hi<zk):Cn xT 3 [opp l,rg items] (.v (.bool true)):=by
 refine⟨enters_of func3 dK rfl,λD w F I C B E=>?_⟩;have A:=E 0 _ rfl;have u:=E 1 _ rfl;obtain⟨a,c,ev,_⟩:=ztV A;obtain⟨G,H,j⟩:=zK u;rw[ev]at A;rw[j]at u;rw[show F=#[.slice a l.length c,.slice G items.length H] from by
  rw[<-ev,<-j];obtain⟨q⟩:=F;match q,B with|[x,y],_=>rfl]
 refine(zwC ⟨I,C⟩ A hb.1 hb.2 u hi (zwd u)).mono ?_;rintro e J ⟨rfl,hb⟩;exact⟨_,D,rfl,hb,λ_ _ h=>h,λ_ _ h=>.inl h,λb o h=>Vm (C b o h) hb.size,.v _,trivial⟩
end
section
open Go.ChangeShapes Go.WideShapes
def own:ownKnob xT.godebug=none:=dK
def Xc:laidOutB xT=true:=dK
def et:xT.globalNamed "errors.errorType" = some 0:=dK
def rt:(xT.cutTypes.find? (·.1 == "internal/reflectlite.rtype")).map (·.2)=some 190 :=dK
def ziq:((List.range 321).filter λt=>xT.rowNamed t [101,114,114,111,114])=[41]:=dK
def tsize:xT.types.size=321:=dK
def zab{H:Type}:List (String×DataW H):=[("errors.errorType",Rows.laid_errors_errorType)]
def Z7{W:World}(h:laidMetH xT zab W):W.cell? ⟨0,0,none⟩=some (.iface 190 (.agg #[.pointer (some ⟨1,41,none⟩)])):=by
 have A:laidMet xT [] W/\handlesMet xT zab W:=h;obtain⟨j,u,C,e1,e2,w,e4,e5⟩:=A.2 _ (wD.2 rfl);have y:j=[101,114,114,111,114]:=(wA e1).symm;subst y;obtain rfl:=wA (rt.symm.trans e2);have o:C∈(List.range 321).filter λt=>xT.rowNamed t [101,114,114,111,114]:=Wh.2 ⟨WO.2 (by rw[<-tsize];exact w),e4⟩;rw[ziq]at o;obtain rfl:=wD.1 o;have B:typeHandle xT 41 = .pointer (some ⟨1,41,none⟩):=dK
 rw[B]at e5;simpa using World.var?_cell et e5 0
def JH{W:World}(h:laidMetH xT zab W):GL (ZG W) W:=λx o=>by have j:=Z7 h;obtain rfl:_=x:=wA o;exact⟨tp W ⟨0,0,none⟩ j,j⟩
noncomputable def Yx (os:Os):World:=
 let w0:=World.holding xT os ⟨#[],#[],[]⟩
 { w0 with heap:=w0.heap.modify 0 fun
  |.cells _ t frozen=>.cells #[.iface 190 (.agg #[.pointer (some ⟨1,41,none⟩)])] t frozen
  |o=>o }
def Q3(os:Os)(j:Array Value):laidMetH xT zab ((Yx os).forCall (λ_ _=>0) ⟨#[],j,[]⟩).memory:=
 laidMetH_of_parts (laidMet_nil _ _) dK
end
end Go.Proofs.YtmpnbdhadjfbhaaGreatDoor
