import Derived.Test.YtmpnbdhadjfbhaaGreatDoorRows
import Derived.ChangeSame
import Derived.ChangeVars
import Derived.LaidLaws
import Derived.LaidHandle
import Derived.Stop.Joined
import Derived.Test.YtmpnbdhadjfbhaaGreatDoorB27
set_option maxHeartbeats 16000000
set_option linter.all false
set_option maxRecDepth 100000
namespace Go.Proofs.YtmpnbdhadjfbhaaGreatDoor
open Go.RowKit
open Go.Proofs.Tryz
open Go.Proofs.Tryz renaming prog->xt
section
attribute [-go_sem] z7
structure ClE(w:World)(gx gy:Nat)(r:Rc)(W:World):Prop where
 b:Below w.heap.size w W
 g:HG W
 x:W.heap[gx]?=some (.cells #[.int .u64 r.item,.int .u64 r.rep,.int .u64 r.ctr,.string r.val] 47 (0,0))
 y:W.heap[gy]?=some (.cells #[.int .u64 r.item,.int .u64 r.rep,.int .u64 r.ctr,.string r.val] 47 (0,0))
def ClE.below{w W j:World}{o u:Nat}{r:Rc}(h:ClE w o u r W)(hb:Below W.heap.size W j):ClE w o u r j:=
 ⟨h.b.trans (hb.mono h.b.size),h.g.below hb h.g.pos,(hb.block _ (Yf.1 h.x).1).trans h.x,(hb.block _ (Yf.1 h.y).1).trans h.y⟩
def ClE.alloc{w W j:World}{u A:Nat}{r:Rc}{o:Obj}(h:ClE w u A r W)(hb:Below (W.alloc o).heap.size (W.alloc o) j):ClE w u A r j:=(h.below ((tv _ W).alloc (Zp _) o)).below hb
def zwx{D:xT}{w:World}{l:List Opn}{Q:Nat}{v:ByteArray}{ia:Option Addr}{ic:Nat}(hG:Gd D w)(hd:Dat D w (.slice ia l.length ic) (opp l))(hb:∀o∈l,BdO o)(hl:l.length<=9223372036854775807)(bl:Q<zk):
 Calls xt 4 #[.slice ia l.length ic,.int .u64 Q,.string v] w λe w'=>e=.returned (.bool true)/\Below w.heap.size w w':=by
 have am:∀W,Below w.heap.size w W->Gd D W/\Dat D W (.slice ia l.length ic) (opp l):=λW hW=>by have hk:Keep qe w W:=Keep.of_below' hW (Zp _);exact⟨hG.keep hk λ_ _ _=>id,hd.mono (λ_ _ h=>h) λb o x hd hx=>hk.cell_some hx id⟩
 have K:=λW (hW:Below w.heap.size w W)=>zwj (am W hW).2 hl λo ho=>⟨(hb o ho).2.2.1,(hb o ho).2.2.2.2⟩;have aE:=λW (hW:Below w.heap.size w W)=>zu5 (am W hW).1;have aL:=qL aE;obtain⟨a,c,ev,hc,J⟩:=ztV hd;obtain⟨rfl,rfl⟩:ia=a/\ic=c:=dK ev
 have aI:=hG.2;by_cases ad:ztR l=true/\v.size<=100
 .obtain⟨hf,hv⟩:=ad;rw[hf]at K;obtain⟨e,H⟩:=zwE (i:=Q) hf hb;have ah:=(ztG hf).1;obtain⟨n,hn⟩:=xm (l.length);have Z:=qL K;have HC:=qL J;have HE:=qL (And.intro e (And.intro H hG));have ak:=qL aI;have HN:=qL hn;have aP:=qL bl;have aO:=qL (HG.of hG.1);rw[<-hn]at Z hc hl ah⊢;have cu:¬(100<(v.size:Int)):=a8;clear K J aE am e H hG hd hb ev aI hn hf hv bl;go_enter func4,ntmps4
  go_wp2_with (go_at_call 5;refine(zt2 w).mono ?_;rintro e V ⟨B,M,F,rfl,E,aJ,ae⟩;dsimp only[plv])
  obtain⟨wp,L⟩:=xm (V.alloc (.cells (plv B F) 30));have aq:Below w.heap.size w wp:=(by rw[L];exact E.alloc E.size _);have bF:wp.heap[V.heap.size]?=some (.cells (plv B F) 30 (0,0)):=(by rw[L];exact tq _ _);have bp:Keep qe V wp:=(by rw[L];exact(Keep.refl _ _).alloc _);have cs:wp.heap.size=V.heap.size+1:=(by rw[L];exact tx _ _);dsimp only[plv]at L;rw[<-L];clear L
  go_wp2_with (go_at_call 6;refine(Z.o wp aq).mono ?_;rintro e O ⟨rfl,C⟩)
  have ab:Below w.heap.size w O:=aq.trans (C.mono aq.size);have bB:=(C.block _ a8).trans bF;have U:∀i,i<3->∀o,¬D (B i) o/\¬D (M i) o/\¬D (F i) o:=λi hi o=>(by obtain⟨g1,g2,g3⟩:=ae i hi;exact⟨λh=>by have:=ak.o _ _ h;omega,λh=>by have:=ak.o _ _ h;omega,λh=>by have:=ak.o _ _ h;omega⟩);have G:∀i,i<3->B i<V.heap.size/\M i<V.heap.size/\F i<V.heap.size:=λi hi=>aJ.lt hi;have s2:=C.size;have bz:Play D 0 O B M F S0:=(aJ.same (D':=λ_ _=>False) (Zp _) ((bp.below (Zp _) λ_ _ h=>h).trans (C.mono a8)) (λ_ _ h=>h) λ_ _ h=>h.elim).sub (Zp _) (λ_ _ h=>h.elim) U;obtain⟨e,H,aX⟩:=HE.o;have ac:Gd D O:=aX.keep (S:=qe) (Keep.of_below' ab (Zp _)) λ_ _ _=>id;have bj:PlI (λ_=>List.range 27) [0,10,20] (edO l++[Q,Q+1]) (l.map Opn.item) D O B M F 0 S0 O:=⟨bz.sub (Zp _) (λ_ _ h=>.inl h) λi hi o=>by
   obtain⟨n1,n2,n3⟩:=U i hi o;exact⟨λh=>h.elim n1 a8,λh=>h.elim n2 a8,λh=>h.elim n3 a8⟩,zwf λi hi=>a9,Keep.refl _ _⟩
  have aj:∀k,PB B M F k->w.heap.size<=k/\k<V.heap.size:=λk hk=>by
   obtain⟨i,hi,rfl|rfl|rfl⟩:=hk
   .exact⟨(ae i hi).1,(G i hi).1⟩
   .exact⟨(ae i hi).2.1,(G i hi).2.1⟩
   .exact⟨(ae i hi).2.2,(G i hi).2.2⟩
  have aC:∀i,i<3->B i<O.heap.size/\M i<O.heap.size/\F i<O.heap.size:=λi hi=>(by obtain⟨l1,l2,l3⟩:=G i hi;exact⟨a8,a8,a8⟩);have bH:∀W,Keep (PB B M F) O W->W.heap[V.heap.size]?=some (.cells (plv B F) 30 (0,0)):=λW hk=>hk.obj bB λh=>(by have:=aj _ h;omega);have bA:∀W,Keep (PB B M F) O W->Below w.heap.size w W/\∀b o x,b<w.heap.size->w.cell? ⟨b,o,none⟩=some x->W.cell? ⟨b,o,none⟩=some x:=λW hk=>⟨ab.trans (hk.below ab.size λq hq h=>by have:=aj _ h;omega),λb o x hd hx=>hk.cell_some (p:=⟨b,o,none⟩) (bc0 ab hx) λh=>by
   have:=aj _ h;simp only at this;omega⟩
  have aU:=qL (fun(j:Nat) (S:Nat->Rs) (wr:World) (o:Opn) (ib:Option Addr) (jc:Nat) (h:PlI (λ_=>List.range 27) [0,10,20] (edO l++[Q,Q+1]) (l.map Opn.item) D O B M F j S wr) (hj:j<25) (ho:o∈l) (d:Dat D w (.slice ib o.items.length jc) (rg o.items)) (obj:Obj)=>h.step e hj (H o ho) ac aC U (d.mono (λ_ _ h=>h) λb o x hd hx=>bc0 ab hx) obj);have az:=fun(S:Nat->Rs) (wr:World) (h:PlI (λ_=>List.range 27) [0,10,20] (edO l++[Q,Q+1]) (l.map Opn.item) D O B M F n S wr)=>And.intro (zwm (v:=v) h e ah ⟨aP.o,b6,λ_=>b6⟩ ac U) (zvW (v:=v) h e ah ⟨aP.o,b6,λ_=>b6⟩ ac U);have aM:=qL az;have bM:=qL aj;have cb:=qL ac;have bK:=qL bj;have bN:=qL bH;have T:=qL bA;have cc:=qL G;clear bj bH bA aj G aC ac aX H e bz aJ bB U ae bp bF aq E C HE Z az
  go_wp2_with fail
  go_loopg [47] n (λg x wr=>∃j,j<=n/\g=n-j/\x=.int .i64 j/\∃S,PlI (λ_=>List.range 27) [0,10,20] (edO l++[Q,Q+1]) (l.map Opn.item) D O B M F j S wr)
  case atStart=>exact⟨0,X3 _,rfl,rfl,S0,bK.o⟩
  case round=>
   obtain⟨j,hj,rfl,rfl,S,I⟩:=hrel;have cm:=I.k.size;have hx:=bN.o wr I.k;obtain⟨z0,z1,z2,z3,z4,z5⟩:=c6s hx;have bE:=(Yf.1 hx).1;by_cases br:j<n
   .have bn:j<l.length:=(by rw[<-HN.o];exact br);obtain⟨o,ho⟩:=xm (l[j]);have bc:=HC.o j bn;rw[<-ho]at bc;obtain⟨g,N,ib,jc,rfl,bi,q0,q1,q2,q3,q4,dI⟩:=bc;have af:=ak.o g N bi;have hk:=I.k;have c0:wr.cell? ⟨g,N+j*5,none⟩=some (.int .i64 o.who):=(T.o wr hk).2 _ _ _ af q0;have c1:wr.cell? ⟨g,N+j*5+1,none⟩=some (.int .i64 o.from_):=(by rw[Ww];exact(T.o wr hk).2 _ _ _ af q1);have c2:wr.cell? ⟨g,N+j*5+2,none⟩=some (.int .u64 o.item):=(by rw[Ww];exact(T.o wr hk).2 _ _ _ af q2);have c3:wr.cell? ⟨g,N+j*5+3,none⟩=some (.string o.val):=(by rw[Ww];exact(T.o wr hk).2 _ _ _ af q3);have c4:wr.cell? ⟨g,N+j*5+4,none⟩=some (.slice ib o.items.length jc):=(by rw[Ww];exact(T.o wr hk).2 _ _ _ af q4);have bw:o∈l:=(by rw[ho];exact XE bn);have bJ:=qL (aU.o j S wr o ib jc I a8 bw dI (.cells #[.int .i64 o.who,.int .i64 o.from_,.int .u64 o.item,.string o.val,.slice ib o.items.length jc] 38));clear I hk hx q0 q1 q2 q3 q4 dI bi ho bw
    go_wp2_with (go_at_call 9;refine bJ.o.mono ?_;rintro e w5 ⟨rfl,bU⟩)
    go_roundg (n-(j+1));case measure=>omega
    case rel=>exact⟨j+1,br,rfl,rfl,_,bU⟩
   .obtain rfl:j=n:=a8;obtain⟨aY,aZ⟩:=aM.o S wr I;have H1:=qL aY;have H2:=qL aZ;have HX:=qL hx;have HK:=qL I.k;obtain⟨r,hr⟩:=xm (ztL (S 1) Q v);rw[<-hr]at H1 H2;clear aY aZ I hx aU aM hr
    go_wp2_with (first
     |(go_at_call 13;refine H1.o.mono ?_;rintro e w3 ⟨g,rfl,bO,h3⟩;have H3:=qL h3;clear h3)
     |(go_at_call 14;refine H3.o.mono ?_;rintro e w4 ⟨rfl,aF,h4⟩;dsimp only[rcv];have H4:=qL h4;clear h4))
    have aK:(w4.alloc (.cells #[.int .u64 r.item,.int .u64 r.rep,.int .u64 r.ctr,.string r.val] 47)).heap[w4.heap.size]?=some (.cells #[.int .u64 r.item,.int .u64 r.rep,.int .u64 r.ctr,.string r.val] 47 (0,0)):=tq _ _;have s4:=aF.size;have P:=aF.alloc s4 (.cells #[.int .u64 r.item,.int .u64 r.rep,.int .u64 r.ctr,.string r.val] 47);obtain⟨wk,aw⟩:=xm (w4.alloc (.cells #[.int .u64 r.item,.int .u64 r.rep,.int .u64 r.ctr,.string r.val] 47));have ba:Below w4.heap.size w4 wk:=(by rw[aw];exact(tv _ _).alloc (Zp _) _);have cr:wk.heap.size=w4.heap.size+1:=(by rw[aw];exact tx _ _);rw[<-aw]at aK P⊢;clear aw aF
    go_wp2_with (go_at_call 15;have h:=H4.o wk ba;clear H4;refine h.mono ?_;clear h;rintro e w5 ⟨a5,n5,c5,rfl,ck,ce,an,bt⟩)
    have bC:=(an.block _ a8).trans aK;have aA:=P.trans (an.mono P.size);have s5:=an.size;have HM:=qL bt;have aV:=qL bC;have aN:=qL aA;clear bt aK P an bC aA bO ba;obtain⟨wv,bY⟩:∃wv,wv=wr:=⟨wr,rfl⟩;subst bY
    go_wp2_with fail
    go_loopg [72] n5 (λg x wl=>∃i,i<=n5/\g=n5-i/\x=.int .i64 i/\Kd wk.heap.size w5 wl)
    case atStart=>exact⟨0,X3 _,rfl,rfl,Kd.refl _ _⟩
    case round=>
     obtain⟨i,hi,rfl,rfl,hk⟩:=hrel;have aQ:=qL hk;by_cases bR:i<n5
     .obtain⟨b,N,ai,li,ci,av,lv,cv,rfl,s0,cf,cg,bu,s1,ch,cj,bT⟩:=zsm (HM.o.kd hk) bR;have ct:=hk.below.size;obtain⟨wy,bZ⟩:∃wy,wy=wr:=⟨wr,rfl⟩;subst bZ;have bL:=qL bu;clear bu bT hk
      go_wp2_with fail
      obtain⟨wz,ax⟩:=xm (wy.alloc (.cells #[.slice ai li ci,.slice av lv cv] 59));have bq:Kd wk.heap.size wy wz:=(by rw[ax];exact(Kd.refl _ _).alloc a8 _);have be:wz.cell? ⟨wy.heap.size,0,none⟩=some (.slice ai li ci):=(by rw[ax];exact(zW (tq wy _) 0 _ rfl).1);have aS:=qL bq;have bI:=qL be;rw[<-ax];clear ax bq be s0 s1;go_loopg [79] li (λg x wl=>∃q,q<=li/\g=li-q/\x=.int .i64 q/\Kd wk.heap.size wz wl);case atStart=>exact⟨0,X3 _,rfl,rfl,Kd.refl _ _⟩
      case round=>
       obtain⟨q,hq,rfl,rfl,ag⟩:=hrel;have aR:=qL ag;by_cases bW:q<li
       .obtain⟨bh,oh,n0,n1,rfl,bQ,t0,f0,t1,f1⟩:=zrm ((bL.o.kd aS.o).kd ag) bW;have y0:=ag.keep bI.o (by intro m e;cases e);clear ag
        go_wp2;go_roundg (li-(q+1));case measure=>omega
        case rel=>exact⟨q+1,a8,rfl,rfl,aR.o.set bQ t0 _⟩
       .clear ag
        go_wp2_with fail
        go_roundg (n5-(i+1));case measure=>omega
        case rel=>exact⟨i+1,a8,rfl,rfl,(aQ.o.trans aS.o).trans aR.o⟩
     .obtain⟨wq,bX⟩:∃wq,wq=wr:=⟨wr,rfl⟩;subst bX;have aH:=aN.o.trans (hk.below.mono a8);have bG:=(hk.below.block _ a8).trans aV.o;have au:=(aH.block _ bE).trans HX.o;obtain⟨c0,c1,c2,c3,c4,c5⟩:=c6s au;have bS:V.heap.size<wq.heap.size:=(Yf.1 au).1;have cn:=hk.below.size;have Y:=qL aH;have aW:=qL bG;have aT:=qL au;clear hk aH bG au aQ HM aV aN z0 z1 z2 z3 z4 z5;have aD:True:=trivial
      go_wp2_with (first
       | (go_at_call 16;refine(H2.o wq Y.o).1.mono ?_;rintro e w7 ⟨rfl,aG⟩
          have d1:w7.cell? ⟨V.heap.size,1,none⟩=some (.pointer (some ⟨B 1,0,none⟩)):=(zW ((aG.block _ bS).trans aT.o) 1 _ rfl).1;have X:=qL aG;clear aG)
       | (go_at_call 14;have h:=(H2.o w7 (Y.o.trans (X.o.mono Y.o.size))).2;clear H2;refine h.mono ?_;clear h;rintro e w8 ⟨rfl,ar⟩;dsimp only[rcv]
          have co:=X.o.size;have cq:=ar.size;have bD:w8.heap[w4.heap.size]?=some (.cells #[.int .u64 r.item,.int .u64 r.rep,.int .u64 r.ctr,.string r.val] 47 (0,0)):=ar.obj ((X.o.block _ a8).trans aW.o) λh=>(by have:=bM.o _ h;omega);have aB:Keep (PB B M F) O w8:=((HK.o.trans (Keep.of_below' Y.o (Zp _))).trans (Keep.of_below' X.o (Zp _))).trans ar;have ao:=(T.o w8 aB).1;have bg:ClE w w4.heap.size w8.heap.size r (w8.alloc (.cells #[.int .u64 r.item,.int .u64 r.rep,.int .u64 r.ctr,.string r.val] 47)):=⟨ao.alloc ao.size _,(aO.o.below ao aO.o.pos).alloc _,(tw _ _ _ a8).trans bD,tq _ _⟩;have u:=qL bg;clear bg bD ar ao HX HK aT aW Y X aB c0 c1 c2 c3 c4 c5 d1)
       |(go_at_call 14;refine(zw0 Q v _).mono ?_;rintro e w9 ⟨rfl,A⟩;dsimp only[zR,nlV];replace u:=qL (u.o.below A);clear A)
       |(go_at_call 17;refine(zvK _).mono ?_;rintro e cx ⟨rfl,A⟩;dsimp only[nlV];replace u:=qL (u.o.alloc A);clear A)
       |(go_at_call 10;have _t:=aD;refine(zwK _ _).mono ?_;clear _t aD;rintro e cy ⟨rfl,A⟩;dsimp only[nlV];replace u:=qL (u.o.below A);clear A)
       |(go_at_call 10;refine(zwu _ _).mono ?_;rintro e cz ⟨rfl,A⟩;dsimp only[nlV];replace u:=qL (u.o.below A);clear A)
       |(go_at_call 18;refine(zwZ Q _).mono ?_;rintro e cA ⟨rfl,A⟩;dsimp only[zR];replace u:=qL (u.o.below A);clear A)
       | (go_at_call 8;refine(aL.o _ (u.o.b.alloc u.o.b.size _)).mono ?_;rintro e ay ⟨rfl,A⟩;replace u:=qL (u.o.alloc A);clear A
          obtain⟨⟨x0,x1,x2,x3⟩,-⟩:=c4s u.o.x;have y0:ay.cell? ⟨w8.heap.size,0,none⟩=some (.int .u64 r.item):=(zW u.o.y 0 _ rfl).1;have y1:ay.cell? ⟨w8.heap.size,1,none⟩=some (.int .u64 r.rep):=(zW u.o.y 1 _ rfl).1;have y2:ay.cell? ⟨w8.heap.size,2,none⟩=some (.int .u64 r.ctr):=(zW u.o.y 2 _ rfl).1;have y3:ay.cell? ⟨w8.heap.size,3,none⟩=some (.string r.val):=(zW u.o.y 3 _ rfl).1)
       |(go_at_call 19;refine(zhu 1 _ u.o.g).mono ?_;rintro e cB ⟨rfl,A⟩;replace u:=qL (u.o.below A);clear A)
       |(go_at_call 12;refine(zvU _).mono ?_;rintro e cC ⟨rfl,A⟩;replace u:=qL (u.o.below A);clear A)
       |(go_at_call 15;refine(zwt _).mono ?_;rintro e cD ⟨rfl,A⟩;replace u:=qL (u.o.below A);clear A)
       |(go_at_call 13;refine(zwn _).mono ?_;rintro e cE ⟨rfl,A⟩;replace u:=qL (u.o.below A);clear A))
      go_ret;exact⟨rfl,u.o.b⟩
 .have h3:ztR l=false\/(ztR l=true/\100<v.size):=by
   by_cases h1:ztR l=true
   .exact .inr ⟨h1,Uc λh=>ad ⟨h1,h⟩⟩
   .exact .inl (dK h1)
  obtain⟨n,hn⟩:=xm (l.length);rw[<-hn]at K⊢;clear hn J am aE hG hd hb ev aI ad hl hc;rcases h3 with h1|⟨h1,h4⟩;all_goals
   rw[h1]at K;try have h5:(100:Int)<(v.size:Int):=a8
   have Z:=qL K;clear K h1;go_enter func4,ntmps4
   go_wp2_with (first
    |(go_at_call 5;refine(zt2 w).mono ?_;rintro e V ⟨B,M,F,rfl,E,_,_⟩;dsimp only[plv])
    |(go_at_call 6;refine(Z.o _ (E.alloc E.size _)).mono ?_;rintro e O ⟨rfl,C⟩;replace C:=(E.alloc E.size _).trans (C.mono (E.alloc E.size _).size))
    |(go_at_call 8;refine(aL.o _ C).mono ?_;rintro e w6 ⟨rfl,bP⟩))
   go_ret;exact⟨rfl,C.trans (bP.mono C.size)⟩
def zww(l:List Opn)(B:Nat)(v:ByteArray)(hb:(∀o∈l,BdO o)/\l.length<=9223372036854775807)(hi:B<zk)(_:v.size<=maxLen):Cn xt 4 [opp l,.v (.int .u64 B),.v (.string v)] (.v (.bool true)):=by
 refine⟨enters_of func4 dL rfl,λD w E H C A u=>?_⟩;have j:=u 0 _ rfl;have F:=(u 1 _ rfl).v_inv;have G:=(u 2 _ rfl).v_inv;obtain⟨a,c,ev,_⟩:=ztV j;rw[ev]at j;rw[show E=#[.slice a l.length c,.int .u64 (B:Nat),.string v] from by
  rw[<-ev,<-F,<-G];obtain⟨q⟩:=E;match q,A with|[x,y,z],_=>rfl]
 refine(zwx ⟨H,C⟩ j hb.1 hb.2 hi).mono ?_;rintro e I ⟨rfl,hb⟩;exact⟨_,D,rfl,hb,λ_ _ h=>h,λ_ _ h=>.inl h,λb o h=>vw (C b o h) hb.size,.v _,trivial⟩
end
section
open Go.ChangeShapes Go.WideShapes
def own:ownKnob xt.godebug=none:=dL
def Xc:laidOutB xt=true:=dL
def et:xt.globalNamed "errors.errorType" = some 0:=dL
def rt:(xt.cutTypes.find? (·.1 == "internal/reflectlite.rtype")).map (·.2)=some 190 :=dL
def ziq:((List.range 321).filter λt=>xt.rowNamed t [101,114,114,111,114])=[41]:=dL
def tsize:xt.types.size=321:=dL
def zab{H:Type}:List (String×DataW H):=[("errors.errorType",Rows.laid_errors_errorType)]
def Z7{W:World}(h:laidMetH xt zab W):W.cell? ⟨0,0,none⟩=some (.iface 190 (.agg #[.pointer (some ⟨1,41,none⟩)])):=by
 have B:laidMet xt [] W/\handlesMet xt zab W:=h;obtain⟨j,u,E,e1,e2,w,e4,e5⟩:=B.2 _ (wH.2 rfl);have A:j=[101,114,114,111,114]:=(wE e1).symm;subst A;obtain rfl:=wE (rt.symm.trans e2);have o:E∈(List.range 321).filter λt=>xt.rowNamed t [101,114,114,111,114]:=WB.2 ⟨WS.2 (by rw[<-tsize];exact w),e4⟩;rw[ziq]at o;obtain rfl:=wH.1 o;have C:typeHandle xt 41 = .pointer (some ⟨1,41,none⟩):=dL
 rw[C]at e5;simpa using World.var?_cell et e5 0
def JH{W:World}(h:laidMetH xt zab W):GL (ZG W) W:=λx o=>by have j:=Z7 h;obtain rfl:_=x:=wE o;exact⟨tr W ⟨0,0,none⟩ j,j⟩
noncomputable def Yx (os:Os):World:=
 let w0:=World.holding xt os ⟨#[],#[],[]⟩
 { w0 with heap:=w0.heap.modify 0 fun
  |.cells _ t frozen=>.cells #[.iface 190 (.agg #[.pointer (some ⟨1,41,none⟩)])] t frozen
  |o=>o }
def Q3(os:Os)(j:Array Value):laidMetH xt zab ((Yx os).forCall (λ_ _=>0) ⟨#[],j,[]⟩).memory:=
 laidMetH_of_parts (laidMet_nil _ _) dL
end
end Go.Proofs.YtmpnbdhadjfbhaaGreatDoor
