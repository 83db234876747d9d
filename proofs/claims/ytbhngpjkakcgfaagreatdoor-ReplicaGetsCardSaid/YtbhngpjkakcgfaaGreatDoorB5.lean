import Derived.Laws.AppendOwn
import Derived.Test.YtbhngpjkakcgfaaGreatDoorB4
set_option maxHeartbeats 16000000
set_option linter.all false
set_option maxRecDepth 100000
namespace Go.Proofs.YtbhngpjkakcgfaaGreatDoor
def c8{p:Prop}(h:p:=by unfold maxLen;omega):p:=h
section
open Go.RowKit
def zC(e:En):List Nat:=e.rep::e.max::e.holes.length::e.holes.flatMap λs=>[s.lo,s.hi]
def zv(v:List En):List Nat:=v.length::v.flatMap zC
def PtE(w j:Nat)(A B:World):Prop:=A.heap.size<=B.heap.size/\∀k,k<A.heap.size->(k<w\/k=j\/∃u f t,A.heap[k]?=some (.cells u t f)/\(t = 109 \/ t = 58))->B.heap[k]?=A.heap[k]?
def RdV.pt{j u:Nat}{w w':World}{v:Value}{l:List En}(h:RdV j w v l)(y:PtE j u w w')(A:j<=w.heap.size):RdV j w' v l:=h.keep λk hk=>y.2 k a8 (.inl hk)
def zko(x y z:Int)(w:World):(Instr.index 287 (.agg #[.int .u64 x,.int .u64 y,.int .u64 z]) (.int .i64 0)).run Tryz.prog w=.ok (.int .u64 x) w:=dK
def zkp(x y z:Int)(w:World):(Instr.index 287 (.agg #[.int .u64 x,.int .u64 y,.int .u64 z]) (.int .i64 1)).run Tryz.prog w=.ok (.int .u64 y) w:=dK
def zkq(x y z:Int)(w:World):(Instr.index 287 (.agg #[.int .u64 x,.int .u64 y,.int .u64 z]) (.int .i64 2)).run Tryz.prog w=.ok (.int .u64 z) w:=dK
def zfR{v:List En}{k:Nat}(h:k<v.length):zv v=(v.length::(v.take k).flatMap zC)++zC v[k]++(v.drop (k+1)).flatMap zC:=by
 unfold zv
 conv=>lhs;rw[<-Wc k v,vD h,Wl,Wg]
 simp
def Vt(v:List En)(va:Value)(Bv C:Nat)(W0:World)(hv:RdV C W0 va v)(hb:Boxed W0 Bv 70 va)(aG:C<=W0.heap.size):
 v7 Tryz.prog 209 #[.pointer (some ⟨Bv,0,none⟩)] (λx:Nat=>#[.int .u64 x]) (λ_=>False) (PtE C Bv) (zv v) W0:=by
 intro l J Jx hJ ar hY h0;refine callsIn_wide.2 ?_;show Calls Tryz.prog 209 #[.func (.yield l) #[] #[],.pointer (some ⟨Bv,0,none⟩)] W0 _;have HJ:=qL hJ;have bp:=qL ar;have HY:=qL hY;have HV:=qL hv;clear hJ ar hY;have bw:=hv.len;obtain⟨av,M,rfl,bc,aC,af⟩:=hv;unfold maxLen at aC;have hM:=zw;have bz:IntKind.u64.wrap ((v.length:Nat):Int)=(v.length:Int):=ZR a8;have aZ:=hb.cell;obtain⟨fn,L,w,I,U,O⟩:=HY.o [] v.length W0 h0 ⟨v.flatMap zC,rfl⟩;dsimp only at U;clear hM;go_enter Tryz.func209,Tryz.ntmps209
 go_upto_region 0 with fail
 refine(Tv (n:=8)).1 ?_
 gi_wp2
 refine O.mono ?_;rintro e w1 (⟨rfl,ao,X⟩|⟨rfl,au⟩)
 .gi_wp2
  have aA:Boxed w1 Bv 70 (.slice av v.length M):=(X.2 Bv hb.lt (.inr (.inl rfl))).trans hb;have ak:=qL (HV.o.pt X aG);have aH:C<=w1.heap.size:=V0 aG X.1;have ba:=aA.cell;clear U O aZ hb aA h0
  go_wp2_with fail
  go_loopg [17] v.length (λg x wr=>∃k:Nat,k<=v.length/\g=v.length-k/\x=.int .i64 k/\J (v.length::(v.take k).flatMap zC) wr/\RdV C wr (.slice av v.length M) v/\C<=wr.heap.size)
  case atStart=>exact⟨0,X3 _,rfl,rfl,dJ ao,ak.o,aH⟩
  case round=>
   obtain⟨k,hk,rfl,rfl,V,aU,bu⟩:=hrel;obtain⟨wo,bj⟩:=xm (wr);subst bj;clear ao ak aH X ba af;by_cases Y:k<v.length
   .obtain⟨a',an,az,_,_,aB⟩:=aU;obtain⟨b,Z,aV,_,aX,S⟩:=aB (by intro e;subst e;simp at Y);obtain⟨rfl,_,rfl⟩:av=a'/\v.length=v.length/\M=an:=(dJ az);subst aV;obtain⟨c0,c1,⟨hv,c2,ai⟩,bg,bi⟩:=S k Y;have aN:qA (RdV C wo (.slice (some ⟨b,Z,none⟩) v.length M) v):=⟨_,_,rfl,bc,by unfold maxLen;exact aC,λ_=>⟨b,Z,rfl,X3 _,aX,S⟩⟩;have HE:qA (∃e,e=v[k]):=⟨_,rfl⟩;obtain⟨e,he⟩:=HE.o;rw[<-he]at c0 c1 ai bg bi;have HK:=qL he;have bt:=ai.len;obtain⟨ah,y,rfl,aE,ag,K⟩:=ai;unfold maxLen at ag;have bA:IntKind.u64.wrap ((e.holes.length:Nat):Int)=(e.holes.length:Int):=ZR (by rw[zw];omega);have HH:qA (RdR 0 C wo (.slice ah e.holes.length y) e.holes):=⟨_,_,rfl,aE,by unfold maxLen;exact ag,K⟩;clear aB S he HE az K;have HP:qA (zv v=(v.length::(v.take k).flatMap zC)++zC e++(v.drop (k+1)).flatMap zC):=(by show zv v=_;rw[HK.o];exact zfR Y)
    go_wp2_with fail
    go_loopg [30] 3 (λg x wr=>((g=3/\x=.int .i64 0/\J (v.length::(v.take k).flatMap zC) wr)\/(g=2/\x=.int .i64 1/\J ((v.length::(v.take k).flatMap zC)++[e.rep]) wr)\/(g=1/\x=.int .i64 2/\J ((v.length::(v.take k).flatMap zC)++[e.rep,e.max]) wr)\/(g=0/\x=.int .i64 3/\J ((v.length::(v.take k).flatMap zC)++[e.rep,e.max,e.holes.length]) wr)) /\
     RdV C wr (.slice (some ⟨b,Z,none⟩) v.length M) v/\C<=wr.heap.size/\wr.heap[wo.heap.size]?=some (.cells #[.int .u64 e.rep,.int .u64 e.max,.slice ah e.holes.length y] 109 (0,0))/\RdR 0 C wr (.slice ah e.holes.length y) e.holes)
    case atStart=>exact⟨.inl ⟨rfl,rfl,HJ.o _ _ _ V ((Keep.refl _ _).alloc _)⟩,aN.o.keep λj hj=>tv _ _ _ a8,a9,tp _ _,HH.o.keep (Zp _) (Zp _) λj _ hj=>tv _ _ _ a8⟩
    case round=>
     obtain⟨aD,Q,F,B,P⟩:=hrel;clear V;have i0:=zko;have i1:=zkp;have i2:=zkq;rcases aD with⟨rfl,rfl,E⟩|⟨rfl,rfl,E⟩|⟨rfl,rfl,E⟩|⟨rfl,rfl,E⟩
     .obtain⟨fn,L,w,I,U,O⟩:=HY.o ((v.length::(v.take k).flatMap zC)) e.rep wr E ⟨e.max::e.holes.length::(e.holes.flatMap λs=>[s.lo,s.hi])++(v.drop (k+1)).flatMap zC,by rw[HP.o];simp[zC]⟩;try dsimp only at U
      go_upto_region 7 with fail
      refine(Tv (n:=8)).1 ?_
      gi_wp2
      refine O.mono ?_;rintro e' w3 (⟨rfl,G,u⟩|⟨rfl,A⟩)
      .gi_wp2
       go_wp2;go_roundg 2;case measure=>omega
       case rel=>exact⟨.inr (.inl ⟨rfl,rfl,dJ G⟩),Q.pt u F,V0 F u.1,(u.2 _ (XE.1 B).1 (.inr (.inr ⟨_,_,_,B,.inl rfl⟩))).trans B,P.keep (Zp _) (Zp _) λj _ hj=>u.2 j a8 (.inl hj)⟩
      .gi_wp2
       go_wp2;refine tz (tL rfl _ _ _) rfl ?_;exact⟨⟨_,rfl⟩,.inr ⟨((v.length::(v.take k).flatMap zC))++[e.rep],⟨e.max::e.holes.length::(e.holes.flatMap λs=>[s.lo,s.hi])++(v.drop (k+1)).flatMap zC,by rw[HP.o];simp[zC]⟩,A⟩⟩
     .obtain⟨fn,L,w,I,U,O⟩:=HY.o ((v.length::(v.take k).flatMap zC)++[e.rep]) e.max wr E ⟨e.holes.length::(e.holes.flatMap λs=>[s.lo,s.hi])++(v.drop (k+1)).flatMap zC,by rw[HP.o];simp[zC]⟩;try dsimp only at U
      go_upto_region 7 with fail
      refine(Tv (n:=8)).1 ?_
      gi_wp2
      refine O.mono ?_;rintro e' w3 (⟨rfl,G,u⟩|⟨rfl,A⟩)
      .gi_wp2
       go_wp2;go_roundg 1;case measure=>omega
       case rel=>exact⟨.inr (.inr (.inl ⟨rfl,rfl,dJ G⟩)),Q.pt u F,V0 F u.1,(u.2 _ (XE.1 B).1 (.inr (.inr ⟨_,_,_,B,.inl rfl⟩))).trans B,P.keep (Zp _) (Zp _) λj _ hj=>u.2 j a8 (.inl hj)⟩
      .gi_wp2
       go_wp2;refine tz (tL rfl _ _ _) rfl ?_;exact⟨⟨_,rfl⟩,.inr ⟨((v.length::(v.take k).flatMap zC)++[e.rep])++[e.max],⟨e.holes.length::(e.holes.flatMap λs=>[s.lo,s.hi])++(v.drop (k+1)).flatMap zC,by rw[HP.o];simp[zC]⟩,A⟩⟩
     .obtain⟨fn,L,w,I,U,O⟩:=HY.o ((v.length::(v.take k).flatMap zC)++[e.rep,e.max]) e.holes.length wr E ⟨(e.holes.flatMap λs=>[s.lo,s.hi])++(v.drop (k+1)).flatMap zC,by rw[HP.o];simp[zC]⟩;try dsimp only at U
      go_upto_region 7 with fail
      refine(Tv (n:=8)).1 ?_
      gi_wp2
      refine O.mono ?_;rintro e' w3 (⟨rfl,G,u⟩|⟨rfl,A⟩)
      .gi_wp2
       go_wp2;go_roundg 0;case measure=>omega
       case rel=>exact⟨.inr (.inr (.inr (⟨rfl,rfl,dJ G⟩))),Q.pt u F,V0 F u.1,(u.2 _ (XE.1 B).1 (.inr (.inr ⟨_,_,_,B,.inl rfl⟩))).trans B,P.keep (Zp _) (Zp _) λj _ hj=>u.2 j a8 (.inl hj)⟩
      .gi_wp2
       go_wp2;refine tz (tL rfl _ _ _) rfl ?_;exact⟨⟨_,rfl⟩,.inr ⟨((v.length::(v.take k).flatMap zC)++[e.rep,e.max])++[e.holes.length],⟨(e.holes.flatMap λs=>[s.lo,s.hi])++(v.drop (k+1)).flatMap zC,by rw[HP.o];simp[zC]⟩,A⟩⟩
     .have d0:wr.cell? ⟨wo.heap.size,2,none⟩=some (.slice ah e.holes.length y):=(by simp[World.cell?,B])
      go_wp2_with fail
      go_loopg [41] e.holes.length (λg x wr=>∃j:Nat,j<=e.holes.length/\g=e.holes.length-j/\x=.int .i64 j/\J (((v.length::(v.take k).flatMap zC)++[e.rep,e.max,e.holes.length])++(e.holes.take j).flatMap λs=>[s.lo,s.hi]) wr/\RdV C wr (.slice (some ⟨b,Z,none⟩) v.length M) v/\C<=wr.heap.size/\RdR 0 C wr (.slice ah e.holes.length y) e.holes)
      case atStart=>exact⟨0,X3 _,rfl,rfl,dJ E,Q,F,P⟩
      case round=>
       obtain⟨j,hj,rfl,rfl,aq,ae,aI,aT⟩:=hrel;clear E Q F P d0 B;obtain⟨N,aJ⟩:∃wo,wo=wr:=⟨_,rfl⟩;subst aJ;by_cases T:j<e.holes.length
       .obtain⟨aO,ad,ay,_,_,ab⟩:=aT;obtain⟨bh,ac,ax,_,aW,H⟩:=ab (by intro e';rw[e']at T;simp at T);obtain⟨rfl,rfl⟩:ah=aO/\y=ad:=(dJ ay);subst ax;obtain⟨c3,c4,s1,s2⟩:=H j T;obtain⟨s,hs⟩:=xm (e.holes[j]);rw[<-hs]at c3 c4 s1 s2;have HS:=qL hs;have aL:qA (RdR 0 C N (.slice (some ⟨bh,ac,none⟩) e.holes.length y) e.holes):=⟨_,_,rfl,aE,by unfold maxLen;exact ag,λ_=>⟨bh,ac,rfl,X3 _,aW,H⟩⟩;clear hs ab H ay;have aM:=qL ae;clear ae;have aQ:=HJ.o _ _ _ aq ((Keep.refl _ N).alloc (.cells #[.int .u64 s.lo,.int .u64 s.hi] 58));have HF:qA (zv v=((v.length::(v.take k).flatMap zC)++[e.rep,e.max,e.holes.length])++((e.holes.take j).flatMap λs=>[s.lo,s.hi])++[s.lo,s.hi]++(((e.holes.drop (j+1)).flatMap λs=>[s.lo,s.hi])++(v.drop (k+1)).flatMap zC)):=by
         show zv v=_;rw[HP.o];unfold zC
         conv=>lhs;rw[<-Wc j e.holes,vD T,<-HS.o]
         simp;omega
        obtain⟨fn,L,w,I,U,O⟩:=HY.o (((v.length::(v.take k).flatMap zC)++[e.rep,e.max,e.holes.length])++((e.holes.take j).flatMap λs=>[s.lo,s.hi])) s.lo _ aQ ⟨s.hi::(((e.holes.drop (j+1)).flatMap λs=>[s.lo,s.hi])++(v.drop (k+1)).flatMap zC),by rw[HF.o];simp only[wR,yb,Y1]⟩;try dsimp only at U
        go_upto_region 12 with fail
        refine(Tv (n:=8)).1 ?_
        gi_wp2
        refine O.mono ?_;rintro e' w3 (⟨rfl,G,u⟩|⟨rfl,A⟩)
        .have aY:w3.heap[N.heap.size]?=some (.cells #[.int .u64 s.lo,.int .u64 s.hi] 58 (0,0)):=(u.2 _ b6 (.inr (.inr ⟨_,_,_,tp _ _,.inr rfl⟩))).trans (tp _ _);have br:w3.cell? ⟨N.heap.size,1,none⟩=some (.int .u64 s.hi):=(by simp[World.cell?,aY]);have be:C<=w3.heap.size:=V0 aI (V0 b6 u.1);have aK:qA (∀q,q<C->w3.heap[q]?=N.heap[q]?):=λq hq=>(u.2 q a9 (.inl hq)).trans (tv _ _ _ a8);obtain⟨bq,bn,am,aP,bl,aS⟩:=HY.o ((((v.length::(v.take k).flatMap zC)++[e.rep,e.max,e.holes.length])++((e.holes.take j).flatMap λs=>[s.lo,s.hi]))++[s.lo]) s.hi w3 G ⟨(((e.holes.drop (j+1)).flatMap λs=>[s.lo,s.hi])++(v.drop (k+1)).flatMap zC),by rw[HF.o];simp only[wR,yb,Y1]⟩;try dsimp only at bl
         clear U O
         gi_wp2
         refine aS.mono ?_;rintro e2 w4 (⟨rfl,aR,aF⟩|⟨rfl,aw⟩)
         .gi_wp2
          go_wp2;go_roundg (e.holes.length-(j+1));case measure=>omega
          case rel=>have aj:∀q,q<C->w4.heap[q]?=N.heap[q]?:=λq hq=>(aF.2 q a8 (.inl hq)).trans (aK.o q hq);refine⟨j+1,a8,rfl,by go_num,?_,aM.o.keep aj,V0 be aF.1,aL.o.keep (Zp _) (Zp _) λq _ hq=>aj q hq⟩;rw[X4 T,Wl,<-HS.o];simpa using aR
         .gi_wp2
          go_wp2;refine tz (tL rfl _ _ _) rfl ?_;exact⟨⟨_,rfl⟩,.inr ⟨_,⟨(((e.holes.drop (j+1)).flatMap λs=>[s.lo,s.hi])++(v.drop (k+1)).flatMap zC),by rw[HF.o];simp only[wR,yb,Y1]⟩,aw⟩⟩
        .gi_wp2
         refine⟨λf hf=>(by cases hf),?_⟩
         gi_wp2
         go_wp2;refine tz (tL rfl _ _ _) rfl ?_;exact⟨⟨_,rfl⟩,.inr ⟨_,⟨s.hi::(((e.holes.drop (j+1)).flatMap λs=>[s.lo,s.hi])++(v.drop (k+1)).flatMap zC),by rw[HF.o];simp only[wR,yb,Y1]⟩,A⟩⟩
       .obtain rfl:j=e.holes.length:=a8
        go_wp2;go_roundg (v.length-(k+1));case measure=>omega
        case rel=>refine⟨k+1,a8,rfl,by go_num,?_,ae,aI⟩;rw[X4 Y,Wl,<-HK.o];simpa[zC]using aq
   .obtain rfl:k=v.length:=a8
    go_wp2;refine bodyPost_end (tL rfl _ _ _) rfl ?_;rw[wm (Zp _)]at V;exact⟨⟨_,rfl⟩,.inl V⟩
 .gi_wp2
  go_wp2;refine tz (tL rfl _ _ _) rfl ?_;exact⟨⟨_,rfl⟩,.inr ⟨[v.length],⟨v.flatMap zC,rfl⟩,au⟩⟩
attribute [local go_sem] Oper.semAt_some
def Vu(a:Option Addr)(n c:Nat)(w:World):Calls Tryz.prog 205 #[.slice a n c] w λe w'=>e=.returned (.func (.func 209) #[] #[.pointer (some ⟨w.heap.size,0,none⟩)])/\w'=w.alloc (.cells #[.slice a n c] 70):=by
 go_enter Tryz.func205,Tryz.ntmps205
 go_wp2;go_ret;exact⟨rfl,rfl⟩
def OwnN(base:Nat)(w:World)(v:Value)(j:List Nat):Prop:=w.ownsRow base 38 1 v j.length (j.map λx=>.int .u64 (x:Nat))
def OwnN.nil(base:Nat)(w:World):OwnN base w (.slice none 0 0) []:=tS _ _ _ _
def OwnN.keep{base:Nat}{S:Nat->Prop}{w w':World}{v:Value}{l:List Nat}(h:OwnN base w v l)(hb:Keep S w w')(hs:∀g,base<=g->g<w.heap.size->¬S g):OwnN base w' v l:=
 hb.ownsRow h λg j=>hs g (h.lt g j).1 (h.lt g j).2
def OwnN.mono{base j:Nat}{w:World}{v:Value}{l:List Nat}(h:OwnN base w v l)(hb:j<=base):OwnN j w v l:=by
 refine⟨h.1,?_⟩;rcases h.2 with B|⟨g,u,y,C,A,r⟩
 .exact .inl B
 .exact .inr ⟨g,u,y,C,V0 hb A,r⟩
def SN(j:Nat)(A B:World):Prop:=(∃v,Boxed A j 133 v)/\Keep (λk=>k=j\/(j+4<=k/\∃u f,A.heap[k]?=some (.cells u 38 f))) A B
def SN.pt{C:Nat}{A B:World}(h:SN C A B):PtE C (C+1) A B:=by
 obtain⟨⟨v,G⟩,hk⟩:=h;refine⟨hk.size,λk w j=>hk.block k w ?_⟩;rintro(rfl|⟨I,E,f,u⟩)
 .rcases j with j|j|⟨E,f,t,j,ht⟩
  .omega
  .omega
  .have y:A.heap[k]?=some (.cells #[v] 133 (0,0)):=G;rw[y]at j;cases j;rcases ht with ht|ht<;>cases ht
 .rcases j with j|j|⟨F,H,t,j,ht⟩
  .omega
  .omega
  .rw[u]at j;cases j;rcases ht with ht|ht<;>cases ht
def Q5{W E:World}{y:Nat}{v B:Value}{N ys:List Nat}{C:Obj}
 (H:Boxed W y 133 v) (w:OwnN (y+4) W v N) (A:E.ownsRow (y+4) 38 1 B ys.length (ys.map λx=>.int .u64 (x:Nat))) (u:(W.alloc C).grownBy E v.ownBlock) :
 Boxed (E.setCell ⟨y,0,none⟩ B) y 133 B/\OwnN (y+4) (E.setCell ⟨y,0,none⟩ B) B ys/\SN y W (E.setCell ⟨y,0,none⟩ B):=by
 have G : 133 ≠ 38 :=b8
 obtain⟨O,K,L,P⟩:=qO H G w A u;refine⟨K,L,⟨v,H⟩,?_⟩;refine Keep.setCell (p:=⟨y,0,none⟩) ?_ (λ_=>.inl rfl) _;refine((Keep.refl _ W).alloc C).grown u λj F _=>.inr ⟨(w.lt j F).1,?_⟩;rcases w.2 with⟨rfl,_⟩|⟨g,I,J,rfl,Q,M,_⟩
 .cases F
 .have:g=j:=(by simpa[Value.ownBlock]using F);subst this;exact⟨_,_,M⟩
def Tryz.infoU:(Tryz.prog.info? 38).map (λi=>(i.zero,i.size,i.bytes))=some (some (Value.int .u64 0),1,8):=dK
def Q4(v:List En)(va:Value)(w:World)(hv:RdV w.heap.size w va v)(ab:(zv v).length<=1073741824):
 Calls Tryz.prog 197 #[va] w λe w'=>∃u,e=.returned u/\OwnN w.heap.size w' u (zv v)/\Below w.heap.size w w':=by
 have HV:=qL hv;obtain⟨N,K,rfl,_⟩:=hv;refine callsIn_wide.1 (Ta (n:=9) Tryz.func197 rfl trivial ?_ rfl);simp only[Tryz.ntmps197,WD,wy,Wx,Nat.reduceAdd,Nat.reduceSub,ur,ut,uH,uw,Y1,yb]
 gi_wp2_with (refine⟨trivial,?_⟩;gi_at_call 205;refine(callsIn_wide.2 (Vu _ _ _ _)).mono ?_;rintro e w' ⟨rfl,rfl⟩)
 obtain⟨J,I⟩:=xt (((w.alloc (Obj.cells #[Value.slice none 0 0] 133)).alloc (Obj.cells #[Value.slice N v.length K] 70)));have ac:J.heap.size=w.heap.size+2:=by rw[<-I];simp
 have b0:Boxed J w.heap.size 133 (Value.slice none 0 0):=by rw[<-I];exact(tU w _ _).alloc _
 have b1:Boxed J (w.heap.size+1) 70 (Value.slice N v.length K):=by rw[<-I];have:=tU (w.alloc (Obj.cells #[Value.slice none 0 0] 133)) 70 (Value.slice N v.length K);rw[tw]at this;exact this
 have O:Below w.heap.size w J:=by rw[<-I];exact((tu _ _).alloc (Zp _) _).alloc b6 _
 try simp only[tw]
 rw [I];clear I;refine Xt (w:=J) 209 #[.pointer (some ⟨w.heap.size+1,0,none⟩)] rfl (enters_of Tryz.func209 dK rfl) (λx:Nat=>#[.int .u64 x]) (λ_=>rfl)
  (λ_=>False) (PtE w.heap.size (w.heap.size+1)) (zv v) ?hit
  (SN w.heap.size) (λA B h k hk L=>h.2.block k L (by rintro(e|⟨e,_⟩)<;>omega)) (λA B h=>h.pt)
  ?hPt ?hPt0 ⟨id,id⟩
  (λpre W=>(∃u,Boxed W w.heap.size 133 u/\OwnN (w.heap.size+4) W u pre)/\Below w.heap.size w W)
  (λ_ _ _=>False) ?hI (λ_ _ _ _ h _=>h) ⟨⟨_,b0,OwnN.nil _ _⟩,O⟩
  (λpre x Q W=>((∃u,Boxed W w.heap.size 133 u/\OwnN (w.heap.size+4) W u pre)/\Below w.heap.size w W) /\
    Q={ tmps:=#[Value.slice N v.length K,undef,Value.slice none 0 0,Value.pointer (some ⟨w.heap.size,0,none⟩),.int .u64 (x:Nat),Value.slice N v.length K,Value.func (Fn.func 209) #[] #[Value.pointer (some ⟨w.heap.size+1,0,none⟩)],.int .u64 (x:Nat),undef,undef,undef,undef,undef],defers:=[] })
  ?hAx ?hassign ?hbody ?hdone (λ_ _ _ _ h _=>h.elim)
 case hit=>intro W hk _;exact Vt v _ (w.heap.size+1) w.heap.size W (RdV.keep HV.o λk U=>((O.trans (hk.below a8 λ_ _=>id)).block k U)) (hk.boxed b1 id) (by have:=hk.size;omega)
 case hPt=>
  rintro A B C ⟨E,H⟩ ⟨F,h4⟩;refine⟨V0 E F,λk hk y=>?_⟩;have e1:=H k hk y;refine(h4 k a8 ?_).trans e1;rcases y with y|y|⟨cs,f,t,y,ht⟩
  .exact .inl y
  .exact .inr (.inl y)
  .exact .inr (.inr ⟨cs,f,t,by rw[e1];exact y,ht⟩)
 case hPt0=>
  rintro A B hk ⟨o,ho⟩;refine⟨hk.size,λk L y=>hk.block k L ?_⟩;rintro rfl;rcases y with y|y|⟨cs,f,t,y,ht⟩
  .omega
  .omega
  .rw[ho]at y;cases y
 case hI=>rintro pre A B ⟨⟨u,E,H⟩,F⟩ T;have hk:Keep (λk=>k=J.heap.size\/k=J.heap.size+1) A B:=T.mono λ_ _ h=>h.elim False.elim id;exact⟨⟨u,hk.boxed E a8,H.keep hk (λg hg _=>a8)⟩,F.trans (hk.below F.size λk hk=>a8)⟩
 case hAx=>rintro pre x Q A B ⟨⟨⟨u,E,H⟩,F⟩,rfl⟩ hk;exact⟨⟨⟨u,hk.boxed E a8,H.keep hk (λg hg _=>a8)⟩,F.trans (hk.below F.size λk hk=>a8)⟩,rfl⟩
 case hassign=>
  rintro l pre x W M L ⟨⟨u,E,H⟩,F⟩;clear M
  gi_wp2
  exact⟨⟨⟨u,E⟩,Keep.refl _ _⟩,⟨⟨u,E,H⟩,F⟩,trivial⟩
 case hbody=>
  rintro l pre x Q W M L ⟨⟨⟨u,E,H⟩,F⟩,rfl⟩;have y:=E.cell;have hf:=E.frozen;obtain⟨i0,S,V,X,Y⟩:=tQ Tryz.infoU;have hl:pre.length+1<=(zv v).length:=(by have:=M.length_le;simpa using this)
  gi_wp2_with (gi_at_builtin;refine TA _ rfl _ _ 133 rfl (w.heap.size+4) 38 i0 (.int .u64 0) 1 8 Tryz.underlying133 S V X Y rfl b8 _ _ _ rfl (H.alloc _) ⟨W.heap.size,0,none⟩ 1 1 [.int .u64 (x:Nat)] rfl rfl (kw (cs:=#[.int .u64 (x:Nat)]) (t := 38) (fr:=(0,0)) (tp W _)) dG c8 a8 (by rw[tw];omega) ?_;intro v' w3 j G _;obtain⟨g',Z,rfl⟩:=TW j;obtain⟨q2,q3,q4⟩:=Q5 (ys:=pre++[x]) E H (dJ j) G;have ad:=(qO E b8 H j G).1.cell;have ae:=(qO E b8 H j G).1.frozen)
  exact⟨q4,⟨_,q2,q3⟩,F.trans (q4.2.below F.size λk hk=>by rintro(e|⟨e,_⟩)<;>omega)⟩
 case hdone=>
  rintro W ⟨⟨u,E,H⟩,F⟩ hD;have y:=E.cell
  gi_wp2
  refine⟨b6,.inl ⟨_,_,rfl,Tc hD,?_⟩⟩;have P:Keep (λk=>k=J.heap.size) W (W.putObj J.heap.size (.deferred none)):=(Keep.refl (λk=>k=J.heap.size) W).putObj (λ_=>rfl) _;exact⟨_,tK rfl _ _ _,u,rfl,OwnN.mono (H.keep P λg hg _=>a8) a8,F.trans (P.below F.size λk hk=>a8)⟩
attribute [local go_sem] Oper.semAt_some
def zmw:Option Value:=some (.iface 174 (.agg #[.pointer (some ⟨1,44,none⟩)]))
def GL(D:Qk)(w:World):Prop:=∀x,zmw=some x->D 0 0/\w.cell? ⟨0,0,none⟩=some x
def GL.mono{D D':Qk}{w w':World}(h:GL D w)(u:∀b o,D b o->D' b o)(y:∀b o x,D b o->w.cell? ⟨b,o,none⟩=some x->w'.cell? ⟨b,o,none⟩=some x):GL D' w':=λx j=>⟨u _ _ (h x j).1,y _ _ _ (h x j).1 (h x j).2⟩
inductive Ow where
 |sh
 |z
 |n (sz:Nat)
 |p (i:Nat)
 |r (n sz:Nat)
inductive PV where
 |v (x:Value)
 |agg (cs:List PV)
 |tup (cs:List PV)
 |sl (es:List (List PV)) (o:Ow)
 |cp (cs:List PV) (o:Nat)
 |bx (i o:Nat)
 |fn (f:Fn) (fs cs:List PV)
 |ifc (t:TypeId) (x:PV)
 |und
inductive Dat(D:Qk)(w:World):Value->PV->Prop where
 |v (x:Value):Dat D w x (.v x)
 |und (x:Value):Dat D w x .und
 |agg (vs:Array Value) (cs:List PV) (hs:vs.size=cs.length) (h1:∀i,i<cs.length->(vs.getD i undef).oneCell'=true) (h:∀(i:Nat)(p:PV),cs[i]?=some p->Dat D w (vs.getD i undef) p):Dat D w (.agg vs) (.agg cs)
 |tup (vs:Array Value) (cs:List PV) (hs:vs.size=cs.length) (h:∀(i:Nat)(p:PV),cs[i]?=some p->Dat D w (vs.getD i undef) p):Dat D w (.tuple vs) (.tup cs)
 |fn (f:Fn) (va vb:Array Value) (fs cs:List PV) (h1:va.size=fs.length) (h2:vb.size=cs.length) (h3:∀(i:Nat)(p:PV),fs[i]?=some p->Dat D w (va.getD i undef) p) (h4:∀(i:Nat)(p:PV),cs[i]?=some p->Dat D w (vb.getD i undef) p):Dat D w (.func f va vb) (.fn f fs cs)
 |ifc (t:TypeId) (x:Value) (p:PV) (h:Dat D w x p):Dat D w (.iface t x) (.ifc t p)
 |sl (a:Option Addr) (cap sz:Nat) (es:List (List PV)) (o:Ow) (b off:Nat) (u:Nat->Value) (hc:es.length<=cap) (hz:o=.z->cap=es.length) (hm:cap<=maxLen) (ha:es≠[]->a=some ⟨b,off,none⟩)
    (hsz:∀(i:Nat)(e:List PV),es[i]?=some e->e.length=sz) (hD:∀j,j<es.length*sz->D b (off+j)/\w.cell? ⟨b,off+j,none⟩=some (u j)/\(u j).oneCell'=true)
    (h:∀(i:Nat)(e:List PV)(j:Nat)(p:PV),es[i]?=some e->e[j]?=some p->Dat D w (u (i*sz+j)) p):Dat D w (.slice a es.length cap) (.sl es o)
 |cp (b off:Nat) (cs:List PV) (o:Nat) (u:Nat->Value) (hD:∀j,j<cs.length->D b (off+j)/\w.cell? ⟨b,off+j,none⟩=some (u j)/\(u j).oneCell'=true)
    (h:∀(j:Nat)(p:PV),cs[j]?=some p->Dat D w (u j) p):Dat D w (.pointer (some ⟨b,off+o,none⟩)) (.cp cs o)
def Dat.mono{D D':Qk}{w w':World}{x:Value}{p:PV}(h:Dat D w x p)(A:∀b o,D b o->D' b o)(B:∀b o x,D b o->w.cell? ⟨b,o,none⟩=some x->w'.cell? ⟨b,o,none⟩=some x):Dat D' w' x p:=by
 induction h with
 |v x=>exact .v x
 |und x=>exact .und x
 |agg vs cs hs h1 _ ih=>exact .agg vs cs hs h1 ih
 |tup vs cs hs _ ih=>exact .tup vs cs hs ih
 |fn f va vb fs cs h1 h2 _ _ ih1 ih2=>exact .fn f va vb fs cs h1 h2 ih1 ih2
 |ifc t x p _ ih=>exact .ifc t x p ih
 |sl a cap sz es o b off u hc hz hm ha hsz hd _ ih=>exact .sl a cap sz es o b off u hc hz hm ha hsz (λj y=>⟨A _ _ (hd j y).1,B _ _ _ (hd j y).1 (hd j y).2.1,(hd j y).2.2⟩) ih
 |cp b off cs o u hd _ ih=>exact .cp b off cs o u (λj y=>⟨A _ _ (hd j y).1,B _ _ _ (hd j y).1 (hd j y).2.1,(hd j y).2.2⟩) ih
def Rel1(D:Qk)(ρ:Nat->Nat)(j:Nat)(w:World)(x:Value)(p:PV):Prop:=
 Dat D w x p\/∃i o,p=.bx i o/\i<j/\x=.pointer (some ⟨ρ i,o,none⟩)
def Rel(D:Qk)(ρ:Nat->Nat)(nb:Nat)(w:World)(x:Value)(p:PV):Prop:=
 Rel1 D ρ nb w x p\/∃f y A u j,p=.fn f u j/\x=.func f y A/\y.size=u.length/\A.size=j.length/\(∀i q,u[i]?=some q->Rel1 D ρ nb w (y.getD i undef) q)/\(∀i q,j[i]?=some q->Rel1 D ρ nb w (A.getD i undef) q)
def Rel1.mono{D D':Qk}{ρ ρ':Nat->Nat}{u j:Nat}{w w':World}{x:Value}{p:PV}(h:Rel1 D ρ u w x p)(y:∀b o,D b o->D' b o)(A:∀b o x,D b o->w.cell? ⟨b,o,none⟩=some x->w'.cell? ⟨b,o,none⟩=some x)
 (C:u<=j) (B:∀i,i<u->ρ' i=ρ i):Rel1 D' ρ' j w' x p:=by
 rcases h with h|⟨i,o,rfl,hi,rfl⟩
 .exact .inl (h.mono y A)
 .exact .inr ⟨i,o,rfl,a8,by rw[B i hi]⟩
def Rel.mono{D D':Qk}{ρ ρ':Nat->Nat}{E j:Nat}{w w':World}{x:Value}{p:PV}(h:Rel D ρ E w x p)(u:∀b o,D b o->D' b o)(B:∀b o x,D b o->w.cell? ⟨b,o,none⟩=some x->w'.cell? ⟨b,o,none⟩=some x)
 (y:E<=j) (C:∀i,i<E->ρ' i=ρ i):Rel D' ρ' j w' x p:=by
 rcases h with h|⟨f,L,M,G,F,rfl,rfl,H,I,J,K⟩
 .exact .inl (h.mono u B y C)
 .exact .inr ⟨f,L,M,G,F,rfl,rfl,H,I,λi q A=>(J i q A).mono u B y C,λi q A=>(K i q A).mono u B y C⟩
def Rel.dat{D:Qk}{ρ:Nat->Nat}{nb:Nat}{w:World}{x:Value}{p:PV}(h:Dat D w x p):Rel D ρ nb w x p:=.inl (.inl h)
def PV.own:PV->Option Nat
 |.sl _ (.r n _)=>some n
 |_=>none
def PV.isB:PV->Bool
 |.bx _ _=>true
 |_=>false
def PV.isD:PV->Bool
 |.bx _ _=>false
 |.fn _ fs cs=>fs.all (λp=>!p.isB) && cs.all (λp=>!p.isB)
 |_=>true
def PV.strip:PV->PV
 |.sl es (.r _ _)=>.sl es .sh
 |.sl es (.n _)=>.sl es .sh
 |.sl es (.p _)=>.sl es .sh
 |p=>p
def PV.sh:PV->PV
 |.sl es _=>.sl es .sh
 |p=>p
def PV.strip_own(p:PV):p.strip.own=none:=by
 cases p<;>try rfl
 rename_i o;cases o<;>rfl
def PV.isN:PV->Bool
 |.sl _ (.n _)=>true
 |.sl _ (.p _)=>true
 |_=>false
def PV.strip_isN(p:PV):p.strip.isN=false:=by
 cases p<;>try rfl
 rename_i o;cases o<;>rfl
def NewOk(B:Nat->Value)(A:Nat)(w:World)(x:Value):PV->Prop
 |.sl es (.p i)=>∃y len j,B i=.slice y len j/\x=.slice y es.length j
 |.sl es (.n sz)=>(∃y,x=.slice y es.length es.length)\/∃g j u e,A<=g/\x=.slice (some ⟨g,0,none⟩) es.length j/\w.heap[g]?=some (.cells u e (0,0))/\u.size=j*sz
 |_=>True
def xA{u:Nat->Value}{j:Nat}{w:World}{x:Value}{p:PV}(h:p.isN=false):NewOk u j w x p:=by
 cases p<;>try trivial
 rename_i o;cases o<;>first|trivial|cases h
def NewOk.mono{C:Nat->Value}{A B:Nat}{w w':World}{x:Value}{p:PV}(h:NewOk C A w x p)(I:B<=A)(G:∀k,k<w.heap.size->w'.heap[k]?=w.heap[k]?):NewOk C B w' x p:=by
 cases p<;>try trivial
 rename_i es o;cases o<;>first|exact h|skip
 rcases h with h|⟨g,j,u,e,H,E,y,F⟩
 .exact .inl h
 .exact .inr ⟨g,j,u,e,a8,E,(G g (XE.1 y).1).trans y,F⟩
def Dat.strip{D:Qk}{w:World}{x:Value}{p:PV}(h:Dat D w x p):Dat D w x p.strip:=by
 cases h with
 | sl a cap sz es o b off u hc hz hm ha hsz hD h=>
   cases o with
   |sh=>exact .sl a cap sz es _ b off u hc hz hm ha hsz hD h
   |z=>exact .sl a cap sz es _ b off u hc hz hm ha hsz hD h
   |n m=>exact .sl a cap sz es _ b off u hc (λh=>by cases h) hm ha hsz hD h
   |p m=>exact .sl a cap sz es _ b off u hc (λh=>by cases h) hm ha hsz hD h
   |r n m=>exact .sl a cap sz es _ b off u hc (λh=>by cases h) hm ha hsz hD h
 |v x=>exact .v x
 |und x=>exact .und x
 |agg vs cs hs h1 h=>exact .agg vs cs hs h1 h
 |tup vs cs hs h=>exact .tup vs cs hs h
 |fn f va vb fs cs h1 h2 h3 h4=>exact .fn f va vb fs cs h1 h2 h3 h4
 |ifc t x p h=>exact .ifc t x p h
 |cp b off cs o u hD h=>exact .cp b off cs o u hD h
def Dat.sh{D:Qk}{w:World}{x:Value}{p:PV}(h:Dat D w x p):Dat D w x p.sh:=by
 cases h with
 |sl a cap sz es o b off u hc hz hm ha hsz hD h=>exact .sl a cap sz es _ b off u hc (λh=>by cases h) hm ha hsz hD h
 |v x=>exact .v x
 |und x=>exact .und x
 |agg vs cs hs h1 h=>exact .agg vs cs hs h1 h
 |tup vs cs hs h=>exact .tup vs cs hs h
 |fn f va vb fs cs h1 h2 h3 h4=>exact .fn f va vb fs cs h1 h2 h3 h4
 |ifc t x p h=>exact .ifc t x p h
 |cp b off cs o u hD h=>exact .cp b off cs o u hD h
def Dat.owned{D:Qk}{w:World}{x:Value}{j:List (List PV)}{k:Ow}(h:Dat D w x (.sl j k))(n m:Nat):Dat D w x (.sl j (.r n m)):=by
 cases h with
 |sl a cap sz j o b off u hc hz hm ha hsz hD h=>exact .sl a cap sz j _ b off u hc (λh=>by cases h) hm ha hsz hD h
def PV.sh_own(p:PV):p.sh.own=none:=by cases p<;>rfl
def PV.sh_isD(p:PV):p.sh.isD=p.isD:=by cases p<;>rfl
def Rel1.strip{D:Qk}{ρ:Nat->Nat}{j:Nat}{w:World}{x:Value}{p:PV}(h:Rel1 D ρ j w x p):Rel1 D ρ j w x p.strip:=by
 rcases h with h|⟨i,o,rfl,hi,rfl⟩
 .exact .inl h.strip
 .exact .inr ⟨i,o,rfl,hi,rfl⟩
def Rel.strip{D:Qk}{ρ:Nat->Nat}{j:Nat}{w:World}{x:Value}{p:PV}(h:Rel D ρ j w x p):Rel D ρ j w x p.strip:=by
 rcases h with h|⟨f,A,B,y,u,rfl,h⟩
 .exact .inl h.strip
 .exact .inr ⟨f,A,B,y,u,rfl,h⟩
def yW(D:Qk)(W:Nat->Prop)(w:World)(x:Value):PV->Prop
 |.sl es (.r _ sz)=>(∃a,x=.slice a 0 0/\es=[])\/∃g j u e,x=.slice (some ⟨g,0,none⟩) es.length j/\W g/\w.heap[g]?=some (.cells u e (0,0))/\u.size=j*sz/\(∀e∈es,e.length=sz)/\∀o,es.length*sz<=o->¬D g o
 |_=>True
def zr{D:Qk}{W:Nat->Prop}{w:World}{x:Value}{p:PV}(h:p.own=none):yW D W w x p:=by
 cases p<;>try trivial
 rename_i o;cases o<;>first|trivial|cases h
def zc:Value->Option Nat
 |.slice (some a) _ (_+1)=>some a.block
 |_=>Option.none
def Dat.restrict{D:Qk}{w:World}{x:Value}{p:PV}(h:Dat D w x p):Dat (λb o=>D b o/\b<w.heap.size) w x p:=by
 induction h with
 |v x=>exact .v x
 |und x=>exact .und x
 |agg vs cs hs h1 _ ih=>exact .agg vs cs hs h1 ih
 |tup vs cs hs _ ih=>exact .tup vs cs hs ih
 |fn f va vb fs cs h1 h2 _ _ ih1 ih2=>exact .fn f va vb fs cs h1 h2 ih1 ih2
 |ifc t x p _ ih=>exact .ifc t x p ih
 |sl a cap sz es o b off u hc hz hm ha hsz hd _ ih=>exact .sl a cap sz es o b off u hc hz hm ha hsz (λj y=>⟨⟨(hd j y).1,tq w ⟨b,off+j,_⟩ (hd j y).2.1⟩,(hd j y).2⟩) ih
 |cp b off cs o u hd _ ih=>exact .cp b off cs o u (λj y=>⟨⟨(hd j y).1,tq w ⟨b,off+j,_⟩ (hd j y).2.1⟩,(hd j y).2⟩) ih
def Rel1.restrict{D:Qk}{ρ:Nat->Nat}{j:Nat}{w:World}{x:Value}{p:PV}(h:Rel1 D ρ j w x p):Rel1 (λb o=>D b o/\b<w.heap.size) ρ j w x p:=by
 rcases h with h|h
 .exact .inl h.restrict
 .exact .inr h
def Rel.restrict{D:Qk}{ρ:Nat->Nat}{u:Nat}{w:World}{x:Value}{p:PV}(h:Rel D ρ u w x p):Rel (λb o=>D b o/\b<w.heap.size) ρ u w x p:=by
 rcases h with h|⟨f,I,J,A,y,B,C,E,F,G,H⟩
 .exact .inl h.restrict
 .exact .inr ⟨f,I,J,A,y,B,C,E,F,λi q j=>(G i q j).restrict,λi q j=>(H i q j).restrict⟩
def Dat.isD{D:Qk}{w:World}{x:Value}{p:PV}(h:Dat D w x p):p.isD=true:=by
 have u:∀{x p},Dat D w x p->p.isB=false:=λh=>by cases h<;>rfl
 cases h<;>try rfl
 rename_i f va vb fs cs h1 h2 h3 h4;simp only[PV.isD,Vq,wL,Wn];exact⟨λp j=>by obtain⟨i,hi⟩:=wJ j;exact u (h3 i p hi),λp j=>by obtain⟨i,hi⟩:=wJ j;exact u (h4 i p hi)⟩
def Rel1.data{D:Qk}{ρ:Nat->Nat}{u:Nat}{w:World}{x:Value}{p:PV}(h:Rel1 D ρ u w x p)(j:p.isB=false):Dat D w x p:=by
 rcases h with h|⟨i,o,rfl,_⟩
 .exact h
 .cases j
def Rel.data{D:Qk}{ρ:Nat->Nat}{G:Nat}{w:World}{x:Value}{p:PV}(h:Rel D ρ G w x p)(u:p.isD=true):Dat D w x p:=by
 rcases h with h|⟨f,H,I,A,y,rfl,rfl,B,C,E,F⟩
 .rcases h with h|⟨i,o,rfl,_⟩
  .exact h
  .cases u
 .simp only[PV.isD,Vq,wL,Wn]at u;exact .fn f H I A y B C (λi q j=>(E i q j).data (u.1 q (wM j))) (λi q j=>(F i q j).data (u.2 q (wM j)))
def Rel.v_inv{D:Qk}{ρ:Nat->Nat}{j:Nat}{w:World}{x y:Value}(h:Rel D ρ j w x (.v y)):x=y:=by
 rcases h with(h|⟨i,o,h,_⟩)|⟨f,va,vb,fs,cs,h,_⟩
 .cases h;rfl
 .cases h
 .cases h
def PV.pre(i:Nat):PV->PV
 |.sl es (.r _ _)=>.sl es (.p i)
 |p=>p.strip
def PV.pre_or(i:Nat)(p:PV):p.pre i=p.strip\/∃j n m,p=.sl j (.r n m)/\p.pre i=.sl j (.p i):=by
 cases p<;>try exact .inl rfl
 rename_i j o;cases o<;>first|exact .inl rfl|exact .inr ⟨_,_,_,rfl,rfl⟩
def PV.clean:PV->PV
 |.sl es (.n _)=>.sl es .sh
 |.sl es (.p _)=>.sl es .sh
 |p=>p
def PV.clean_or(p:PV):p.clean=p.strip\/p.clean=p:=by
 cases p<;>try exact .inr rfl
 rename_i es o;cases o<;>first|exact .inl rfl|exact .inr rfl
def PV.clean_isN(p:PV):p.clean.isN=false:=by
 cases p<;>try rfl
 rename_i es o;cases o<;>rfl
end
section
open Go.RowKit
structure PS where
 t:List (Nat×PV)
 b:List (List PV)
def yr:List (Nat×PV)->Nat->PV
 |[],_=>.und
 |(j,p)::r,i=>if j=i then p else yr r i
def PS.get(s:PS)(i:Nat):PV:=yr s.t i
def PS.put(s:PS)(d:Option Nat)(p:PV):PS:=match d with|some d=>⟨(d,p)::s.t,s.b⟩|none=>s
structure Gh where
 D:Nat->Nat->Prop
 ρ:Nat->Nat
structure Bs where
 w0:World
 D0:Nat->Nat->Prop
 Sb:Nat->Prop
 gl:GL D0 w0
 df:List Deferred
def Bs.W(B:Bs)(k:Nat):Prop:=B.w0.heap.size<=k\/B.Sb k
structure Fr(B:Bs)(D:Qk)(w:World):Prop where
 os:w.os=B.w0.os
 tape:w.tape=B.w0.tape
 output:w.output=B.w0.output
 size:B.w0.heap.size<=w.heap.size
 block:∀k,k<B.w0.heap.size->¬B.Sb k->w.heap[k]?=B.w0.heap[k]?
 d0:∀b o,B.D0 b o->D b o
 cell:∀b o x,B.D0 b o->B.w0.cell? ⟨b,o,none⟩=some x->w.cell? ⟨b,o,none⟩=some x
 new:∀b o,D b o->B.D0 b o\/B.W b
 d0lt:∀b o,B.D0 b o->b<B.w0.heap.size
def zaA(g:Gh)(A:Nat)(w:World)(i:Nat)(y:List PV):Prop:=
 ∃u e,w.heap[g.ρ i]?=some (.cells u e (0,0))/\u.size=y.length/\∀(j:Nat)(p:PV),y[j]?=some p->Rel g.D g.ρ A w (u.getD j undef) p/\(u.getD j undef).oneCell'=true
def zQ(g:Gh)(s:PS)(x:Nat->Value)(w:World)(u:Value)(p:PV):Prop:=
 (∃t,u=x t/\p=s.get t)\/(∃(i j:Nat) (y:List PV),s.b[i]?=some y/\y[j]?=some p/\w.cell? ⟨g.ρ i,j,none⟩=some u)
structure R(B:Bs)(g:Gh)(s:PS)(x:Nat->Value)(w:World):Prop where
 slots:∀t,Rel g.D g.ρ s.b.length w (x t) (s.get t)
 boxes:∀(i:Nat) cs,s.b[i]?=some cs->B.W (g.ρ i)/\zaA g s.b.length w i cs
 inj:∀i j,i<s.b.length->j<s.b.length->g.ρ i=g.ρ j->i=j
 owns:∀u p,zQ g s x w u p->yW g.D B.W w u p
 disj:∀u p u' p' b,zQ g s x w u p->zQ g s x w u' p'->p.own≠none->p'.own≠none->zc u=some b->zc u'=some b->p.own=p'.own
 ownbox:∀u p b i,zQ g s x w u p->p.own≠none->zc u=some b->i<s.b.length->g.ρ i≠b
 dlt:∀b o,g.D b o->b<w.heap.size
 dbox:∀i,i<s.b.length->∀o,¬g.D (g.ρ i) o
 fr:Fr B g.D w
def qa{n:Nat}{w w':World}(h:Below n w w'){b o:Nat}{x:Value}(hb:b<n)(j:w.cell? ⟨b,o,none⟩=some x):w'.cell? ⟨b,o,none⟩=some x:=(h.cell (p:=⟨b,o,none⟩) hb).trans j
def qF{w:World}{b o:Nat}{x:Value}(j:w.cell? ⟨b,o,none⟩=some x):b<w.heap.size:=tq w ⟨b,o,none⟩ j
def QO(x:Nat->Value)(d:Option Nat)(u:Value):Nat->Value:=λt=>if d=some t then u else x t
def kN(x:Nat->Value)(d:Nat)(u:Value):QO x (some d) u d=u:=by simp[QO]
def QP(x:Nat->Value){d t:Nat}(u:Value)(h:d≠t):QO x (some d) u t=x t:=by simp[QO,h]
def zF(s:PS)(d:Nat)(p:PV):(s.put (some d) p).get d=p:=by simp[PS.put,PS.get,yr]
def zV(s:PS){d t:Nat}(p:PV)(h:d≠t):(s.put (some d) p).get t=s.get t:=by simp[PS.put,PS.get,yr,h]
variable {B:Bs}{g:Gh}{s:PS}{x:Nat->Value}{w w':World}
def R.gl(h:R B g s x w):GL g.D w:=B.gl.mono h.fr.d0 h.fr.cell
def R.slot(h:R B g s x w)(t:Nat):zQ g s x w (x t) (s.get t):=.inl ⟨t,rfl,rfl⟩
def R.ρlt(h:R B g s x w){i:Nat}(hi:i<s.b.length):g.ρ i<w.heap.size:=by obtain⟨_,u,e,j,_⟩:=h.boxes i _ (Zv hi);exact(XE.1 j).1
def zX{D:Qk}{W:Nat->Prop}{u:Value}{p:PV}{b:Nat}(h:yW D W w u p)(ho:p.own≠none)(hb:zc u=some b):b<w.heap.size/\W b:=by
 cases p<;>try exact absurd rfl ho
 rename_i o;cases o<;>try exact absurd rfl ho
 rcases h with⟨a,rfl,_⟩|⟨A,j,y,e,rfl,B,C,_⟩
 .cases a<;>cases hb
 .obtain rfl:A=b:=by cases j<;>simp[zc]at hb;exact hb
  exact⟨(XE.1 C).1,B⟩
def QH{D:Qk}{ρ:Nat->Nat}{nb:Nat}{a:Option Addr}{n j:Nat}{y:List (List PV)}{o:Ow}(h:Rel D ρ nb w (.slice a n j) (.sl y o)):n<=j/\n=y.length/\j<=maxLen:=by
 rcases h with(h|⟨i,o,h,_⟩)|⟨f,va,vb,fs,cs,h,_⟩
 .cases h with
  |sl a j sz y o b off u hc hz hm ha hsz hD h=>exact⟨hc,rfl,hm⟩
 .cases h
 .cases h
def R.slot_rel(h:R B g s x w){u:Value}{p:PV}(hs:zQ g s x w u p):Rel g.D g.ρ s.b.length w u p:=by
 rcases hs with⟨t,rfl,rfl⟩|⟨i,j,A,C,E,y⟩
 .exact h.slots t
 .obtain⟨_,I,e,H,G,F⟩:=h.boxes i A C;have:=(F j p E).1;simp only[World.cell?,H]at y;simp only[Option.isSome_none,uD,UZ]at y;rw[ww,y]at this;exact this
def OwnNew(B:Bs)(g:Gh)(s:PS)(x:Nat->Value)(w:World)(u:Value)(p:PV):Prop:=
 p.own≠none->yW g.D B.W w u p/\(∀v q b,zQ g s x w v q->q.own≠none->zc v=some b->zc u=some b->q.own=p.own)/\(∀b i,zc u=some b->i<s.b.length->g.ρ i≠b)
def OwnNew.none{u:Value}{p:PV}(h:p.own=none):OwnNew B g s x w u p:=λj=>absurd h j
def R.ownNew(h:R B g s x w){u:Value}{p:PV}(hs:zQ g s x w u p):OwnNew B g s x w u p:=λho=>
 ⟨h.owns _ _ hs,λv q b j y A C=>h.disj _ _ _ _ b j hs y ho A C,λb i j y=>h.ownbox _ _ b i hs ho j y⟩
def R.put(h:R B g s x w)(d:Option Nat){u:Value}{p:PV}(K:Rel g.D g.ρ s.b.length w u p)(ho:OwnNew B g s x w u p):
 R B g (s.put d p) (QO x d u) w:=by
 cases d with
 |none=>have:QO x none u=x:=(by funext t;simp[QO]);rw[this];exact h
 |some d=>
 have hs:∀v q,zQ g (s.put (some d) p) (QO x (some d) u) w v q->(v=u/\q=p)\/zQ g s x w v q:=by
  rintro v q (⟨t,rfl,rfl⟩|hb)
  .by_cases e:d=t
   .subst e;exact .inl ⟨kN _ _ _,zF _ _ _⟩
   .exact .inr (.inl ⟨t,QP _ _ e,zV _ _ e⟩)
  .exact .inr (.inr hb)
 refine⟨?_,h.boxes,h.inj,?_,?_,?_,h.dlt,h.dbox,h.fr⟩
 .intro t;by_cases e:d=t
  .subst e;rw[kN,zF];exact K
  .rw[QP _ _ e,zV _ _ e];exact h.slots t
 .intro v q j;by_cases C:q.own=none
  .exact zr C
  .rcases hs v q j with⟨rfl,rfl⟩|j
   .exact(ho C).1
   .exact h.owns _ _ j
 .intro v q H G b I J y A b1 b2;rcases hs v q I with⟨rfl,rfl⟩|E<;>rcases hs H G J with⟨rfl,rfl⟩|F
  .rfl
  .exact((ho y).2.1 H G b F A b2 b1).symm
  .exact(ho A).2.1 v q b E y b1 b2
  .exact h.disj _ _ _ _ b E F y A b1 b2
 .intro v q b i j y b1 hi;rcases hs v q j with⟨rfl,rfl⟩|j
  .exact(ho y).2.2 b i b1 hi
  .exact h.ownbox _ _ b i j y b1 hi
def R.frame(h:R B g s x w)(F:Qk)(J:∀b o y,g.D b o->w.cell? ⟨b,o,none⟩=some y->w'.cell? ⟨b,o,none⟩=some y)
 (V:∀i,i<s.b.length->w'.heap[g.ρ i]?=w.heap[g.ρ i]?) (c3:∀u p b,zQ g s x w u p->p.own≠none->zc u=some b->w'.heap[b]?=w.heap[b]?)
 (M:∀b o,g.D b o->F b o) (N:∀b o,F b o->g.D b o\/(B.W b/\(∀i,i<s.b.length->g.ρ i≠b)/\∀u p,zQ g s x w u p->p.own≠none->zc u≠some b)) (d3:∀b o,F b o->b<w'.heap.size)
 (e1:w'.os=w.os) (e2:w'.tape=w.tape) (e3:w'.output=w.output) (e4:w.heap.size<=w'.heap.size) (e5:∀k,k<B.w0.heap.size->¬B.Sb k->w'.heap[k]?=w.heap[k]?):R B ⟨F,g.ρ⟩ s x w':=by
 have hs:∀u q,zQ ⟨F,g.ρ⟩ s x w' u q->zQ g s x w u q:=by
  rintro u q (T|⟨i,j,K,Y,h5,h6⟩)
  .exact .inl T
  .exact .inr ⟨i,j,K,Y,h5,by rw[<-h6];exact(tn (a:=⟨g.ρ i,j,none⟩) (V i (Zw.1 Y).1)).symm⟩
 refine⟨λt=>(h.slots t).mono M J (Zp _) λ_ _=>rfl,?_,h.inj,?_,?_,?_,d3,?_,?_⟩
 .intro i K hi;obtain⟨O,vs,e,hv,S,hr⟩:=h.boxes i K hi;exact⟨O,vs,e,(V i (Zw.1 hi).1).trans hv,S,λj p Z=>⟨(hr j p Z).1.mono M J (Zp _) λ_ _=>rfl,(hr j p Z).2⟩⟩
 .intro u q T;by_cases Q:q.own=none
  .exact zr Q
  have E:=hs u q T;have:=h.owns u q E;cases q<;>try trivial
  rename_i es o;cases o<;>try trivial
  rcases this with I|⟨X,G,L,e,rfl,O,hh,hc,he,hd⟩
  .exact .inl I
  .cases G with
   | zero=>
     by_cases H:es=[]
     .subst H;exact .inl ⟨_,rfl,rfl⟩
     .obtain⟨P,_⟩:=QH (h.slot_rel E);exact absurd (wH (tc.1 P)) H
   | succ G=>
     refine .inr ⟨X,_,L,e,rfl,O,(c3 _ _ X E Q rfl).trans hh,hc,he,λo ho C=>?_⟩;rcases N _ _ C with A|A
     .exact hd o ho A
     .exact A.2.2 _ _ E Q rfl
 .intro u q u' q' b U k2;exact h.disj u q u' q' b (hs _ _ U) (hs _ _ k2)
 .intro u q b i U;exact h.ownbox u q b i (hs _ _ U)
 .intro i hi o C;rcases N _ _ C with A|A
  .exact h.dbox i hi o A
  .exact A.2.1 i hi rfl
 .refine⟨e1.trans h.fr.os,e2.trans h.fr.tape,e3.trans h.fr.output,V0 h.fr.size e4,λk hk I=>(e5 k hk I).trans (h.fr.block k hk I),λb o C=>M _ _ (h.fr.d0 b o C),?_,?_,?_⟩
  .intro b o y C hy;exact J _ _ _ (h.fr.d0 b o C) (h.fr.cell b o y C hy)
  .intro b o C;rcases N _ _ C with A|A
   .exact h.fr.new b o A
   .exact .inr A.1
  .exact h.fr.d0lt
def R.grow(h:R B g s x w)(hb:Below w.heap.size w w')(j:Qk)(G:∀b o,g.D b o->j b o)
 (H:∀b o,j b o->g.D b o\/w.heap.size<=b) (I:∀b o,j b o->b<w'.heap.size):R B ⟨j,g.ρ⟩ s x w':=by
 refine h.frame j (λb o y _ F=>qa hb (qF F) F) (λi hi=>hb.block _ (h.ρlt hi)) (λu p b E ho C=>hb.block _ (zX (h.owns u p E) ho C).1) G ?_ I
  hb.os hb.tape hb.output hb.size λk hk _=>hb.block k (vw hk h.fr.size)
 intro b o J;rcases H b o J with A|A
 .exact .inl A
 .refine .inr ⟨.inl (V0 h.fr.size A),λi hi e=>?_,λu p E ho e=>?_⟩
  .have:=h.ρlt hi;omega
  .have:=(zX (h.owns u p E) ho e).1;omega
def R.drew(h:R B g s x w):R B g s x w.drew:=
 h.grow (w':=w.drew) ⟨rfl,rfl,rfl,Zp _,λ_ _=>rfl⟩ g.D (λ_ _ h=>h) (λ_ _ h=>.inl h) h.dlt
def R.box(h:R B g s x w)(d:Option Nat)(C:Array Value)(e:TypeId)(F:List PV)(ab:C.size=F.length)
 (hr:∀(j:Nat)(p:PV),F[j]?=some p->Rel g.D g.ρ s.b.length w (C.getD j undef) p/\(C.getD j undef).oneCell'=true) (ho:∀p∈F,p.own=none) :
 R B ⟨g.D,λi=>if i=s.b.length then w.heap.size else g.ρ i⟩ (PS.put ⟨s.t,s.b++[F]⟩ d (.bx s.b.length 0)) (QO x d (.pointer (some ⟨w.heap.size,0,none⟩))) (w.alloc (.cells C e)):=by
 have hb:Below w.heap.size w (w.alloc (.cells C e)):=(tu _ _).alloc (Zp _) _;have I:R B g s x (w.alloc (.cells C e)):=h.grow hb g.D (λ_ _ h=>h) (λ_ _ h=>.inl h) λb o X=>vw (h.dlt b o X) hb.size;obtain⟨ρ',L⟩:=xt ((λi=>if i=s.b.length then w.heap.size else g.ρ i));rw[L];have e1:∀i,i<s.b.length->ρ' i=g.ρ i:=λi hi=>by rw[<-L];simp;omega
 have e2:ρ' s.b.length=w.heap.size:=by rw[<-L];simp
 have J:∀b o x,g.D b o->w.cell? ⟨b,o,none⟩=some x->(w.alloc (.cells C e)).cell? ⟨b,o,none⟩=some x:=λb o x _ M=>qa hb (qF M) M;have mono:∀u p,Rel g.D g.ρ s.b.length (w.alloc (.cells C e)) u p->Rel g.D ρ' (s.b++[F]).length (w.alloc (.cells C e)) u p:=λu p hu=>hu.mono (λ_ _ h=>h) (λ_ _ _ _ h=>h) b6 e1;have ad:(s.b++[F]).length=s.b.length+1:=b6
 have hs:∀u q,zQ ⟨g.D,ρ'⟩ ⟨s.t,s.b++[F]⟩ x (w.alloc (.cells C e)) u q->q.own≠none->zQ g s x (w.alloc (.cells C e)) u q:=by
  rintro u q (M|⟨i,j,E,G,T,V⟩) U
  .exact .inl M
  .rcases wK i s.b.length with hi|hi
   .rw[V3 hi]at G;exact .inr ⟨i,j,E,G,T,by rw[<-V];show _=World.cell? _ ⟨ρ' i,j,none⟩;rw[e1 i hi]⟩
   .rw[V1 hi]at G;have K:i-s.b.length=0:=by have:=(Zw.1 G).1;simp at this;omega
    rw[K]at G;simp at G;subst G;exact absurd (ho q (wM T)) U
 have r1:R B ⟨g.D,ρ'⟩ ⟨s.t,s.b++[F]⟩ x (w.alloc (.cells C e)):=by
  refine⟨λt=>mono _ _ (I.slots t),?_,?_,?_,?_,?_,I.dlt,?_,I.fr⟩
  .intro i E hi;rcases wK i s.b.length with y|y
   .rw[V3 y]at hi;obtain⟨hW,ac,e',hv,S,Q⟩:=I.boxes i E hi;refine⟨by show B.W (ρ' i);rw[e1 i y];exact hW,ac,e',by show _=_;rw[<-hv];show (World.alloc _ _).heap[ρ' i]?=_;rw[e1 i y],S,λj p P=>⟨mono _ _ (Q j p P).1,(Q j p P).2⟩⟩
   .rw[V1 y]at hi;have K:i-s.b.length=0:=by have:=(Zw.1 hi).1;simp at this;omega
    rw[K]at hi;simp at hi;subst hi;have:i=s.b.length:=a8;subst this;refine⟨by show B.W (ρ' _);rw[e2];exact .inl h.fr.size,C,e,?_,ab,λj p P=>⟨mono _ _ ((hr j p P).1.mono (λ_ _ h=>h) J (Zp _) λ_ _=>rfl),(hr j p P).2⟩⟩;show (World.alloc _ _).heap[ρ' _]?=_;rw[e2];exact tp w _
  .intro i j hi hj Z;have Y:i<s.b.length+1:=(dJ hi);have ae:j<s.b.length+1:=(dJ hj);have A:ρ' i=ρ' j:=Z;rcases wK i s.b.length with y|y<;>rcases wK j s.b.length with O|O
   .rw[e1 i y,e1 j O]at A;exact I.inj i j y O A
   .have:j=s.b.length:=a8;rw[e1 i y,this,e2]at A;have:=h.ρlt y;omega
   .have:i=s.b.length:=a8;rw[e1 j O,this,e2]at A;have:=h.ρlt O;omega
   .omega
  .intro u q hu;by_cases U:q.own=none
   .exact zr U
   .exact I.owns u q (hs u q hu U)
  .intro u q u' q' b k1 k2 N o2;exact I.disj u q u' q' b (hs _ _ k1 N) (hs _ _ k2 o2) N o2
  .intro u q b i k1 N b1 hi;have k:=hs _ _ k1 N;show ρ' i≠b;rcases wK i s.b.length with y|y
   .rw[e1 i y];exact I.ownbox u q b i k N b1 y
   .have:i=s.b.length:=(by have:i<(s.b++[F]).length:=hi;simp at this;omega);rw[this,e2];have k0:zQ g s x w u q:=by
     rcases k with M|⟨i,j,E,G,T,V⟩
     .exact .inl M
     .exact .inr ⟨i,j,E,G,T,by rw[<-V];exact(hb.cell (p:=⟨g.ρ i,j,none⟩) (h.ρlt (Zw.1 G).1)).symm⟩
    have:=(zX (h.owns u q k0) N b1).1;omega
  .intro i hi o X;have Y:i<s.b.length+1:=(by have:i<(s.b++[F]).length:=hi;simpa using this);have H:g.D (ρ' i) o:=X;rcases wK i s.b.length with y|y
   .rw[e1 i y]at H;exact h.dbox i y o H
   .have:i=s.b.length:=a8;rw[this,e2]at H;have:=h.dlt _ _ H;omega
 refine r1.put d (.inl (.inr ⟨s.b.length,0,rfl,b6,?_⟩)) (.none rfl);show _=Value.pointer (some ⟨ρ' s.b.length,0,none⟩);rw[e2]
def R.boxAt(h:R B g s x w)(d:Option Nat)(Q:Array Value)(e:TypeId)(C:List PV)(Z:Q.size=C.length){E:Nat}(hh:w.heap[E]?=some (.cells Q e (0,0)))(T:B.W E)(M:∀i,i<s.b.length->g.ρ i≠E)(X:∀o,¬g.D E o)(Y:∀u q,zQ g s x w u q->q.own≠none->zc u≠some E)
 (hr:∀(j:Nat)(p:PV),C[j]?=some p->Rel g.D g.ρ s.b.length w (Q.getD j undef) p/\(Q.getD j undef).oneCell'=true) (ho:∀p∈C,p.own=none) :
 R B ⟨g.D,λi=>if i=s.b.length then E else g.ρ i⟩ (PS.put ⟨s.t,s.b++[C]⟩ d (.bx s.b.length 0)) (QO x d (.pointer (some ⟨E,0,none⟩))) w:=by
 obtain⟨ρ',J⟩:=xt ((λi=>if i=s.b.length then E else g.ρ i));rw[J];have e1:∀i,i<s.b.length->ρ' i=g.ρ i:=λi hi=>by rw[<-J];simp;omega
 have e2:ρ' s.b.length=E:=by rw[<-J];simp
 have mono:∀u p,Rel g.D g.ρ s.b.length w u p->Rel g.D ρ' (s.b++[C]).length w u p:=λu p hu=>hu.mono (λ_ _ h=>h) (λ_ _ _ _ h=>h) b6 e1;have ac:(s.b++[C]).length=s.b.length+1:=b6
 have hs:∀u q,zQ ⟨g.D,ρ'⟩ ⟨s.t,s.b++[C]⟩ x w u q->q.own≠none->zQ g s x w u q:=by
  rintro u q (hx|⟨i,j,G,H,h5,h6⟩) S
  .exact .inl hx
  .rcases wK i s.b.length with hi|hi
   .rw[V3 hi]at H;exact .inr ⟨i,j,G,H,h5,by rw[<-h6];show _=World.cell? _ ⟨ρ' i,j,none⟩;rw[e1 i hi]⟩
   .rw[V1 hi]at H;have I:i-s.b.length=0:=by have:=(Zw.1 H).1;simp at this;omega
    rw[I]at H;simp at H;subst H;exact absurd (ho q (wM h5)) S
 have r1:R B ⟨g.D,ρ'⟩ ⟨s.t,s.b++[C]⟩ x w:=by
  refine⟨λt=>mono _ _ (h.slots t),?_,?_,?_,?_,?_,h.dlt,?_,h.fr⟩
  .intro i G hi;rcases wK i s.b.length with A|A
   .rw[V3 A]at hi;obtain⟨T,ab,e',hv,P,O⟩:=h.boxes i G hi;refine⟨by show B.W (ρ' i);rw[e1 i A];exact T,ab,e',by show _=_;rw[<-hv];show w.heap[ρ' i]?=_;rw[e1 i A],P,λj p N=>⟨mono _ _ (O j p N).1,(O j p N).2⟩⟩
   .rw[V1 A]at hi;have I:i-s.b.length=0:=by have:=(Zw.1 hi).1;simp at this;omega
    rw[I]at hi;simp at hi;subst hi;have:i=s.b.length:=a8;subst this;refine⟨by show B.W (ρ' _);rw[e2];exact T,Q,e,?_,Z,λj p N=>⟨mono _ _ (hr j p N).1,(hr j p N).2⟩⟩;show w.heap[ρ' _]?=_;rw[e2];exact hh
  .intro i j hi hj V;have U:i<s.b.length+1:=(dJ hi);have ad:j<s.b.length+1:=(dJ hj);have y:ρ' i=ρ' j:=V;rcases wK i s.b.length with A|A<;>rcases wK j s.b.length with L|L
   .rw[e1 i A,e1 j L]at y;exact h.inj i j A L y
   .have:j=s.b.length:=a8;rw[e1 i A,this,e2]at y;exact absurd y (M i A)
   .have:i=s.b.length:=a8;rw[e1 j L,this,e2]at y;exact absurd y.symm (M j L)
   .omega
  .intro u q hu;by_cases S:q.own=none
   .exact zr S
   .exact h.owns u q (hs u q hu S)
  .intro u q u' q' b k1 k2 K o2;exact h.disj u q u' q' b (hs _ _ k1 K) (hs _ _ k2 o2) K o2
  .intro u q b i k1 K b1 hi;have k:=hs _ _ k1 K;show ρ' i≠b;rcases wK i s.b.length with A|A
   .rw[e1 i A];exact h.ownbox u q b i k K b1 A
   .have:i=s.b.length:=(by have:i<(s.b++[C]).length:=hi;simp at this;omega);rw[this,e2];exact λe3=>Y u q k K (by rw[b1,<-e3])
  .intro i hi o hD;have U:i<s.b.length+1:=(by have:i<(s.b++[C]).length:=hi;simpa using this);have F:g.D (ρ' i) o:=hD;rcases wK i s.b.length with A|A
   .rw[e1 i A]at F;exact h.dbox i A o F
   .have:i=s.b.length:=a8;rw[this,e2]at F;exact X o F
 refine r1.put d (.inl (.inr ⟨s.b.length,0,rfl,b6,?_⟩)) (.none rfl);show _=Value.pointer (some ⟨ρ' s.b.length,0,none⟩);rw[e2]
def PV.down(n:Nat):PV->PV
 |.sl es (.r m sz)=>if m=n then .sl es .sh else .sl es (.r m sz)
 |p=>p
def PS.down(n:Nat)(s:PS):PS:=⟨s.t.map λy=>(y.1,y.2.down n),s.b.map λj=>j.map (PV.down n)⟩
def PV.down_or(n:Nat)(p:PV):p.down n=p.strip\/(p.down n=p/\p.own≠some n):=by
 cases p<;>try exact .inl rfl
 rename_i es o;cases o with
 |sh=>exact .inl rfl
 |z=>exact .inl rfl
 |n k=>exact .inr ⟨rfl,by simp[PV.own]⟩
 |p k=>exact .inr ⟨rfl,by simp[PV.own]⟩
 | r m sz=>
   by_cases e:m=n
   .exact .inl (by simp[PV.down,PV.strip,e])
   .exact .inr ⟨by simp[PV.down,e],by simp[PV.own,e]⟩
def PV.down_own{n:Nat}{p:PV}(h:(p.down n).own≠none):p.down n=p/\p.own≠some n:=by
 rcases PV.down_or n p with e|e
 .rw[e]at h;exact absurd p.strip_own h
 .exact e
def Vn(n t:Nat):∀l:List (Nat×PV),yr (l.map λy=>(y.1,y.2.down n)) t=(yr l t).down n
 |[]=>rfl
 | (j,p)::l=>by
   simp only[Wz,yr];split
   .rfl
   .exact Vn n t l
def Va(n t:Nat)(s:PS):(s.down n).get t=(s.get t).down n:=Vn n t s.t
def Rel.down{D:Qk}{ρ:Nat->Nat}{j:Nat}{u:Value}{p:PV}(n:Nat)(h:Rel D ρ j w u p):Rel D ρ j w u (p.down n):=by
 rcases PV.down_or n p with e|e
 .rw[e];exact h.strip
 .rw[e.1];exact h
def zbH{n:Nat}{u:Value}{q:PV}(h:zQ g (s.down n) x w u q):∃p,q=p.down n/\zQ g s x w u p:=by
 rcases h with⟨t,rfl,rfl⟩|⟨i,j,E,y,A,C⟩
 .exact⟨_,Va n t s,.inl ⟨t,rfl,rfl⟩⟩
 .simp only[PS.down,wj,ZZ]at y;obtain⟨B,y,rfl⟩:=y;simp only[wj,ZZ]at A;obtain⟨p,A,rfl⟩:=A;exact⟨p,rfl,.inr ⟨i,j,B,y,A,C⟩⟩
def R.down(h:R B g s x w)(n:Nat):R B g (s.down n) x w/\∀u p,zQ g (s.down n) x w u p->p.own≠none->zQ g s x w u p/\p.own≠some n:=by
 have A:(s.down n).b.length=s.b.length:=by simp[PS.down]
 have hs:∀u p,zQ g (s.down n) x w u p->p.own≠none->zQ g s x w u p/\p.own≠some n:=by intro u q F ho;obtain⟨p,rfl,y⟩:=zbH F;obtain⟨e1,e2⟩:=PV.down_own ho;rw[e1];exact⟨y,e2⟩
 refine⟨⟨λt=>?_,?_,λi j=>by rw[A];exact h.inj i j,?_,?_,?_,h.dlt,λi=>by rw[A];exact h.dbox i,h.fr⟩,hs⟩
 .rw[Va,A];exact(h.slots t).down n
 .intro i P hi;simp only[PS.down,wj,ZZ]at hi;obtain⟨E,hi,rfl⟩:=hi;obtain⟨M,O,e,K,L,H⟩:=h.boxes i E hi;refine⟨M,O,e,K,dJ L,λj p y=>?_⟩;simp only[wj,ZZ]at y;obtain⟨J,y,rfl⟩:=y;rw[A];exact⟨(H j J y).1.down n,(H j J y).2⟩
 .intro u q F;by_cases ho:q.own=none
  .exact zr ho
  .exact h.owns _ _ (hs u q F ho).1
 .intro u q S Q b G N C I;exact h.disj _ _ _ _ b (hs _ _ G C).1 (hs _ _ N I).1 C I
 .intro u q b i G C b1 hi;exact h.ownbox _ _ b i (hs _ _ G C).1 C b1 (by rw[<-A];exact hi)
def PS.clean(s:PS):PS:=⟨s.t.map λy=>(y.1,y.2.clean),s.b⟩
def Yy(t:Nat):∀l:List (Nat×PV),yr (l.map λy=>(y.1,y.2.clean)) t=(yr l t).clean
 |[]=>rfl
 | (j,p)::l=>by
   simp only[Wz,yr];split
   .rfl
   .exact Yy t l
def kT(t:Nat)(s:PS):s.clean.get t=(s.get t).clean:=Yy t s.t
def Rel.clean{D:Qk}{ρ:Nat->Nat}{j:Nat}{u:Value}{p:PV}(h:Rel D ρ j w u p):Rel D ρ j w u p.clean:=by
 rcases PV.clean_or p with e|e
 .rw[e];exact h.strip
 .rw[e];exact h
def R.clean(h:R B g s x w):R B g s.clean x w:=by
 have hs:∀u p,zQ g s.clean x w u p->p.own≠none->zQ g s x w u p:=λu p j ho=>by
  rcases j with⟨t,rfl,rfl⟩|j
  .rw[kT]at ho⊢;rcases PV.clean_or (s.get t)with e|e
   .rw[e]at ho;exact absurd (s.get t).strip_own ho
   .rw[e];exact .inl ⟨t,rfl,rfl⟩
  .exact .inr j
 refine⟨λt=>by rw[kT];exact(h.slots t).clean,h.boxes,h.inj,λu p j=>?_,λu p G F b C E y A=>h.disj u p G F b (hs _ _ C y) (hs _ _ E A) y A,λu p b i k y=>h.ownbox u p b i (hs _ _ k y) y,h.dlt,h.dbox,h.fr⟩;by_cases ho:p.own=none
 .exact zr ho
 .exact h.owns _ _ (hs _ _ j ho)
end
section
open Go.RowKit
inductive PO where
 |t (i:Nat)
 |c (p:PV)
 |f (f:FuncId)
def PS.ev(s:PS):PO->PV
 |.t i=>s.get i
 |.c p=>p
 |.f f=>.fn (.func f) [] []
def Q6:Value->PV
 |.slice none 0 0=>.sl [] .sh
 |v=>.v v
def ofV:Value->PV
 |.slice none 0 0=>.sl [] .z
 |.agg vs=>if vs.toList.all (·.oneCell') then .agg (vs.toList.map Q6) else .v (.agg vs)
 |v=>.v v
def po:Operand->Option PO
 |.tmp t=>some (.t t)
 |.const v=>some (.c (ofV v))
 |.func f=>some (.f f)
 |.global _=>none
inductive PK where
 |mv (x:PO)
 |bin (op:BinOp) (x y:PO)
 |beq (neg:Bool) (x y:PO)
 |eq2 (neg:Bool) (x y:PO) (n:Nat)
 |nil (neg:Bool) (x:PO)
 |not (x:PO)
 |cv (k:IntKind) (x:PO)
 |fa (x:PO) (off:Nat)
 |ia (x y:PO) (sz:Nat)
 |aa (x y:PO) (n sz:Nat)
 |ix (x y:PO) (n:Nat) (ag:Bool) (sz:Nat)
 |fl (x:PO) (off:Nat) (ag:Bool) (sz:Nat)
 |ld (x:PO) (ag:Bool) (sz:Nat)
 |nc (x:PO)
 |bd (zs:List PV) (ps:List (Nat×Nat×PO))
 |bs (sz:Nat) (ps:List PO)
 |ln (x:PO)
 |ex (x:PO) (i:Nat)
 |mf (f:Fn) (fs cs:List PO)
 |mi (t:TypeId) (x:PO)
 |pk (c x y:PO)
 |sc (x:PO) (lo hi:Option PO) (sz:Nat)
 |ap (x y:PO) (sz bytes:Nat)
 |mm (max:Bool) (x y:PO)
 |ca (f:FuncId) (xs:List PO)
 |cl (f:PO) (xs:List PO)
 |iv (x:PO) (m:String) (xs:List PO)
 |sb (op:BinOp) (x y:PO)
 |al (zs:List PV)
 |bo (x:PO)
 |st (x y:PO) (sz:Nat)
structure PI where
 d:Option Nat
 g:Option (Nat×Bool)
 k:PK
def Qb:TypeDesc->Bool
 |.struct _=>true
 |.array _ _=>true
 |_=>false
def XH(P:Program)(t:TypeId):Option (Bool×Nat):=(P.info? t).bind λi=>(P.underlying t).map λd=>(Qb d,i.size)
def Qu:List Operand->Option (List PO)
 |[]=>some []
 |x::r=>(po x).bind λy=>(Qu r).map λl=>y::l
def poo:Option Operand->Option (Option PO)
 |none=>some none
 |some x=>(po x).map some
def Qq(P:Program)(j:Array Field):List (Nat×Operand)->Option (List (Nat×Nat×PO))
 |[]=>some []
 |(i,x)::r=>(j[i]?).bind λf=>(P.info? f.type).bind λn=>(po x).bind λy=>(Qq P j r).map λl=>(f.offset,n.size,y)::l
def Qp(sz:Nat):List (Nat×Operand)->Option (List (Nat×Nat×PO))
 |[]=>some []
 |(i,x)::r=>(po x).bind λy=>(Qp sz r).map λl=>(i*sz,sz,y)::l
def xg(P:Program)(t:TypeId):Option (List PV):=(P.info? t).bind λi=>i.zero.bind λz=>if z.cells.toList.all (·.oneCell') then some (z.cells.toList.map Q6) else none
def jX(P:Program)(t:TypeId):Bool:=match P.underlying t with
 |some (.int _)=>true
 |_=>false
def K8(P:Program):Nat->List Field->Bool
 |_,[]=>true
 |i,f::r=>(f.name != "_") && f.offset == i && jX P f.type && K8 P (i+1) r
def za9(P:Program)(t:TypeId):Option Nat:=match P.underlying t with
 |some (.struct fs)=>if K8 P 0 fs.toList && !P.stoodInHeld t && !P.eqGuardType P.depth t then some fs.size else none
 |some (.array n e)=>if jX P e && (P.info? e).isSome && P.cellsOf e == 1 && !P.eqGuardType P.depth t then some n else none
 |_=>none
def JL:Operand->Bool
 |.const .nilIface=>true
 |_=>false
def zk3:BinOp->Bool
 |.add|.sub|.mul|.quo|.rem|.eql|.neq|.lss|.leq|.gtr|.geq|.shr=>true
 |_=>false
def zoQ:BinOp->Bool
 |.add|.eql|.neq=>true
 |_=>false
def zpq(P:Program)(t:TypeId):Bool:=match P.underlying t with
 |some .string=>true
 |_=>false
def zc6(P:Program)(t:TypeId):Bool:=match P.underlying t with
 |some (.interface _)=>true
 |_=>false
def zh0(P:Program)(t:TypeId):Bool:=match P.underlying t with
 |some .bool=>true
 |_=>false
def zmS(P:Program)(t:TypeId):Bool:=match P.underlying t with
 |some (.int _)=>true
 |_=>false
def XR(P:Program)(o:Oper):Option PK:=
 match o.op with
 |.move x=>(po x).map .mv
 |.assign x=>(po x).map .mv
 |.pick c a b=>(po c).bind λc=>(po a).bind λa=>(po b).map λb=>.pk c a b
 |.alloc e=>(xg P e).map .al
 |.box _ x=>(po x).map .bo
 | .build t parts=>(xg P t).bind λC=>match P.underlying t with
   |some (.struct u)=>if u.toList.all (λf=>(P.info? f.type).isSome) then (Qq P u parts.toList).map λB=>.bd C B else none
   |some (.array _ e)=>(P.info? e).bind λi=>(Qp i.size parts.toList).map λB=>.bd C B
   |_=>none
 | .buildSlice t n parts=>match P.underlying t with
   |some (.slice e)=>(P.info? e).bind λi=>(xg P e).bind λC=>(Qu (parts.toList.map (·.2))).bind λB=>if parts.toList.map (·.1)=List.range n/\n*i.size<=16777216/\n<=16777216 then some (.bs i.size B) else none
   |_=>none
 |.load t a=>(XH P t).bind fun(ag,n)=>if ag || n == 1 then (po a).map λa=>.ld a ag n else none
 |.store t a v=>(XH P t).bind fun(_,n)=>(po a).bind λa=>(po v).map λv=>.st a v n
 |.nilCheck x=>(po x).map .nc
 | .binOp op t x y _=>(po x).bind λw=>(po y).bind λE=>
   if (op == .eql || op == .neq) && JL y && zc6 P t then some (.nil (op == .neq) w)
   else if (op == .eql || op == .neq) && (za9 P t).isSome then some (.eq2 (op == .neq) w E ((za9 P t).getD 0))
   else if (op == .eql || op == .neq) && zh0 P t then some (.beq (op == .neq) w E)
   else if zk3 op && zmS P t then some (.bin op w E)
   else if zoQ op && zpq P t then some (.sb op w E) else none
 |.unOp .not _ x=>(po x).map .not
 | .convert s t x=>match P.underlying s,P.underlying t with
   |some (.int _),some (.int k)=>(po x).map (.cv k)
   |_,_=>none
 | .makeInterface t x=>match P.underlying t with
   |some (.interface _)=>none
   |some _=>(po x).map (.mi t)
   |none=>none
 |.makeFunc f u F=>(Qu u.toList).bind λu=>(Qu F.toList).map λF=>.mf f u F
 | .slice t x lo hi none=>match P.underlying t with
   |some (.slice e)=>(P.info? e).bind λi=>(po x).bind λx=>(poo lo).bind λlo=>(poo hi).map λhi=>.sc x lo hi i.size
   |_=>none
 | .fieldAddr t x f=>match P.underlying t with
   |some (.struct u)=>(u[f]?).bind λA=>(P.info? A.type).bind λi=>if i.size=0 then none else (po x).map λx=>.fa x A.offset
   |_=>none
 | .field t x f=>match P.underlying t with
   |some (.struct u)=>(u[f]?).bind λA=>(XH P A.type).bind fun(ag,n)=>if ag || n == 1 then (po x).map λx=>.fl x A.offset ag n else none
   |_=>none
 | .indexAddr t x y=>match P.underlying t with
   |some (.slice e)=>(P.info? e).bind λi=>(po x).bind λx=>(po y).map λy=>.ia x y i.size
   |some (.array n e)=>(P.info? e).bind λi=>(po x).bind λx=>(po y).map λy=>.aa x y n i.size
   |_=>none
 | .index t x y=>match P.underlying t with
   |some (.array n e)=>(XH P e).bind fun(ag,k)=>if ag || k == 1 then (po x).bind λx=>(po y).map λy=>.ix x y n ag k else none
   |_=>none
 |.extract x i=>(po x).map λx=>.ex x i
 | .call c=>match c.callee,c.args.toList,c.argTypes.toList with
   | .builtin .len,[x],[t]=>match P.underlying t with
     |some (.slice _)=>(po x).map .ln
     |_=>none
   | .builtin .append,[x,y],[t,t']=>match P.underlying t with
     |some (.slice e)=>(P.info? e).bind λi=>if t=t'/\0<i.size/\0<i.bytes then (xg P e).bind λC=>if C.length=i.size then (po x).bind λx=>(po y).map λy=>.ap x y i.size i.bytes else none else none
     |_=>none
   |.builtin .max,[x,y],_=>(po x).bind λx=>(po y).map λy=>.mm true x y
   |.builtin .min,[x,y],_=>(po x).bind λx=>(po y).map λy=>.mm false x y
   |.value (.func f),j,_=>(Qu j).map λj=>.ca f j
   |.value (.tmp t),j,_=>(Qu j).map λj=>.cl (.t t) j
   |.invoke (.tmp t) m,j,_=>(Qu j).map λj=>.iv (.t t) m j
   |_,_,_=>none
 |.unOp .neg _ x=>(po x).map λw=>.bin .sub (.c (.v (.int .i64 0))) w
 |_=>none
def Cn(P:Program)(f:FuncId)(A:List PV)(r:PV):Prop:=
 (∀j w,(callFunc f j).run P w=.ok (.enter f j) w) /\
 ∀(D:Qk)(w:World)(y:Array Value),GL D w->(∀b o,D b o->b<w.heap.size)->y.size=A.length->(∀(i:Nat) p,A[i]?=some p->Dat D w (y.getD i undef) p)->Calls P f y w λe w'=>
  ∃v u,e=.returned v/\Below w.heap.size w w'/\(∀b o,D b o->u b o)/\(∀b o,u b o->D b o\/w.heap.size<=b)/\(∀b o,u b o->b<w'.heap.size)/\Dat u w' v r/\yW u (λk=>w.heap.size<=k) w' v r
def OCn(P:Program)(f:FuncId)(C:List (List PV))(sz:Nat)(E:List PV)(F:List (List PV)):Prop:=
 (∀j w,(callFunc f j).run P w=.ok (.enter f j) w) /\
 ∀(D:Qk) (w:World) (v:Value) (B:Array Value),GL D w->(∀b o,D b o->b<w.heap.size)->B.size=E.length->(∀(i:Nat) p,E[i]?=some p->Dat D w (B.getD i undef) p)->Dat D w v (.sl C .sh)->yW D (λ_=>True) w v (.sl C (.r 0 sz)) ->
  Calls P f (#[v]++B) w λe w'=>∃u A,e=.returned u/\(w'.os=w.os/\w'.tape=w.tape/\w'.output=w.output/\w.heap.size<=w'.heap.size)/\(∀k,k<w.heap.size->zc v≠some k->w'.heap[k]?=w.heap[k]?) /\
   (∀b o y,D b o->w.cell? ⟨b,o,none⟩=some y->w'.cell? ⟨b,o,none⟩=some y)/\(∀b o,D b o->A b o)/\(∀b o,A b o->D b o\/w.heap.size<=b\/zc v=some b)/\(∀b o,A b o->b<w'.heap.size) /\
   Dat A w' u (.sl F .sh)/\yW A (λk=>w.heap.size<=k\/zc v=some k) w' u (.sl F (.r 0 sz))
def qW(p:PV)(K:List PV->Prop):Prop:=match p with
 |.agg cs=>K cs
 |.v x=>x.oneCell'=true/\K [.v x]
 |.sl es o=>K [.sl es o]
 |.cp cs o=>K [.cp cs o]
 |.bx i o=>K [.bx i o]
 |.fn f fs cs=>K [.fn f fs cs]
 |.ifc t x=>K [.ifc t x]
 |_=>False
def qV(p:PV)(K:Bool->Prop):Prop:=match p with
 |.v (.bool b)=>K b
 |_=>False
def vR(p:PV)(K:IntKind->Int->Prop):Prop:=match p with
 |.v (.int k n)=>K k n
 |_=>False
def QA(p:PV)(K:List (List PV)->Prop):Prop:=match p with
 |.sl es _=>K es
 |_=>False
def qar(k:IntKind)(n:Int)(K:PV->Prop):Prop:=match k with
 |.i64=>(-9223372036854775808<=n/\n<9223372036854775808)/\K (.v (.int .i64 n))
 |k=>K (.v (.int k (k.wrap n)))
def zgm(k:IntKind)(a b:Int):Int:=a.fdiv (2 ^ (min b.toNat k.bits))
def Xo(op:BinOp)(k:IntKind)(a b:Int)(K:PV->Prop):Prop:=match op with
 |.add=>qar k (a+b) K
 |.sub=>qar k (a-b) K
 |.mul=>qar k (a*b) K
 |.quo=>b≠0/\qar k (a.tdiv b) K
 |.rem=>b≠0/\K (.v (.int k (a.tmod b)))
 |.eql=>K (.v (.bool (decide (a=b))))
 |.neq=>K (.v (.bool (!decide (a=b))))
 |.lss=>K (.v (.bool (decide (a<b))))
 |.leq=>K (.v (.bool (decide (a<=b))))
 |.gtr=>K (.v (.bool (decide (b<a))))
 |.geq=>K (.v (.bool (decide (b<=a))))
 |.shr=>0<=b/\K (.v (.int k (zgm k a b)))
 |_=>False
def QB(op:BinOp)(p q:PV)(K:PV->Prop):Prop:=match p,q with
 |.v (.int k a),.v (.int k' b)=>k=k'/\Xo op k a b K
 |_,_=>False
def jy:List PV->List PV->Prop
 |[],[]=>True
 |.v (.int k _)::r,.v (.int k' _)::r'=>k=k'/\jy r r'
 |_,_=>False
def xQ:List PV->List PV->Bool
 |.v (.int _ a)::r,.v (.int _ b)::r'=>decide (a=b) && xQ r r'
 |_,_=>true
def zbz(j:Bool)(m:Nat)(p q:PV)(K:PV->Prop):Prop:=match p,q with
 |.agg xs,.agg ys=>(xs.length=m/\jy xs ys)/\K (.v (.bool (j != xQ xs ys)))
 |_,_=>False
def sbV(op:BinOp)(a b:ByteArray):PV:=match op with
 |.add=>.v (.string (a++b))
 |.eql=>.v (.bool (a.toList == b.toList))
 |_=>.v (.bool !(a.toList == b.toList))
def qsb(op:BinOp)(p q:PV)(K:PV->Prop):Prop:=match p,q with
 |.v (.string a),.v (.string b)=>a.size+b.size<=9223372036854775807/\K (sbV op a b)
 |_,_=>False
def Mth(P:Program)(t:TypeId)(m:String)(f:FuncId):Prop:=∀(v:Value)(j:Array Value)(w:World),(callMethod (.iface t v) m j).run P w=(callFunc f (#[v]++j)).run P w
def VI(j:List PV)(o:Nat)(u:Bool)(n:Nat)(K:PV->Prop):Prop:=match u with
 |true=>o+n<=j.length/\K (.agg ((j.drop o).take n))
 | false=>match j[o]? with
   |some p=>K p
   |none=>False
def zY(j:List PV):Bool:=j.all PV.isD
def XI(w u:List PV)(j:Nat):List PV:=w.take j++u++w.drop (j+u.length)
def vS(s:PS):List (Nat×Nat×PO)->List PV->(List PV->Prop)->Prop
 |[],zs,K=>K zs
 |(off,n,x)::r,zs,K=>qW (s.ev x) λj=>j.length=n/\off+n<=zs.length/\zY j=true/\vS s r (XI zs (j.map PV.sh) off) K
def yP(s:PS)(sz:Nat):List PO->(List (List PV)->Prop)->Prop
 |[],K=>K []
 |x::r,K=>qW (s.ev x) λj=>j.length=sz/\zY j=true/\yP s sz r λu=>K (j.map PV.sh::u)
def Xw(lo:Option PO)(p:PV):Ow:=match lo,p with
 |none,.sl _ (.p i)=>.p i
 |_,_=>.sh
def qBd(s:PS)(y:Option PO)(n:Nat)(K:Nat->Prop):Prop:=match y with
 |none=>K n
 |some y=>vR (s.ev y) λ_ n=>0<=n/\K n.toNat
def PK.q(P:Program)(s:PS)(k:PK)(K:PV->Prop):Prop:=match k with
 | .mv x=>match x with
   |.t i=>K ((s.get i).pre i)
   |x=>K (s.ev x).strip
 |.bin op x y=>QB op (s.ev x) (s.ev y) K
 |.beq n x y=>qV (s.ev x) λa=>qV (s.ev y) λb=>K (.v (.bool (n != (a == b))))
 |.eq2 n x y m=>zbz n m (s.ev x) (s.ev y) K
 | .nil n x=>match s.ev x with
   |.v .nilIface=>K (.v (.bool (!n)))
   |.ifc _ _=>K (.v (.bool n))
   |_=>False
 |.not x=>qV (s.ev x) λb=>K (.v (.bool (!b)))
 |.cv k x=>vR (s.ev x) λ_ n=>K (.v (.int k (k.wrap n)))
 | .fa x off=>match s.ev x with
   |.bx i o=>K (.bx i (o+off))
   |.cp j o=>K (.cp j (o+off))
   |_=>False
 | .ia x y sz=>QA (s.ev x) λu=>vR (s.ev y) λ_ n=>0<=n/\match u[n.toNat]? with
   |some e=>e.length=sz/\K (.cp e 0)
   |none=>False
 | .aa x y n sz=>vR (s.ev y) λ_ m=>(0<=m/\m<n)/\match s.ev x with
   |.bx i o=>K (.bx i (o+m.toNat*sz))
   |.cp j o=>K (.cp j (o+m.toNat*sz))
   |_=>False
 | .ix x y n ag sz=>vR (s.ev y) λ_ m=>(0<=m/\m<n)/\match s.ev x with
   |.agg j=>VI j (m.toNat*sz) ag sz λp=>K p.strip
   |_=>False
 | .fl x off ag n=>match s.ev x with
   |.agg j=>VI j off ag n λp=>K p.strip
   |_=>False
 | .ld x ag n=>match s.ev x with
   |.cp j o=>VI j o ag n λp=>K p.strip
   | .bx i o=>match s.b[i]? with
     |some j=>zY ((j.drop o).take n)=true/\VI j o ag n λp=>K p.strip
     |none=>False
   |_=>False
 | .nc x=>match s.ev x with
   |.bx i o=>K (.bx i o)
   |.cp j o=>K (.cp j o)
   |_=>False
 |.bd zs ps=>vS s ps zs λj=>K (.agg j)
 |.bs sz ps=>yP s sz ps λu=>K (.sl u .z)
 |.ln x=>QA (s.ev x) λu=>K (.v (.int .i64 u.length))
 | .ex x i=>match s.ev x with
   | .tup j=>match j[i]? with
     |some p=>K p.strip
     |none=>False
   |_=>False
 |.mf f fs j=>(fs.all (λx=>(s.ev x).sh.isD || (s.ev x).sh.isB) && j.all (λx=>(s.ev x).sh.isD || (s.ev x).sh.isB))=true/\K (.fn f (fs.map λx=>(s.ev x).sh) (j.map λx=>(s.ev x).sh))
 | .mi t x=>match (s.ev x).isD with
   |true=>K (.ifc t (s.ev x).sh)
   |false=>False
 |.pk c x y=>qV (s.ev c) λb=>(b=true->K (s.ev x).strip)/\(b=false->K (s.ev y).strip)
 |.sc x lo hi sz=>QA (s.ev x) λu=>qBd s hi u.length λh=>qBd s lo 0 λl=>l<=h/\h<=u.length/\(∀e∈u,e.length=sz)/\K (.sl ((u.take h).drop l) (Xw lo (s.ev x)))
 |.mm m x y=>vR (s.ev x) λk a=>vR (s.ev y) λA b=>k=A/\K (.v (.int k (if m then (if b > a then b else a) else (if b<a then b else a))))
 |.ca f xs=>∃r,Cn P f (xs.map λx=>(s.ev x).sh) r/\zY (xs.map λx=>(s.ev x).sh)=true/\K r.strip
 | .cl y xs=>match s.ev y with
   |.fn (.func f) fs j=>∃r,Cn P f (fs++(xs.map λx=>(s.ev x).sh)++j) r/\zY (fs++(xs.map λx=>(s.ev x).sh)++j)=true/\K r.strip
   |_=>False
 | .iv x m xs=>match s.ev x with
   |.ifc t p=>∃f,Mth P t m f/\∃r,Cn P f (p.sh::xs.map λx=>(s.ev x).sh) r/\zY (p.sh::xs.map λx=>(s.ev x).sh)=true/\K r.strip
   |_=>False
 |.sb op x y=>qsb op (s.ev x) (s.ev y) K
 | .ap x y sz by_=>match s.ev x with
   |.sl u .z=>QA (s.ev y) λw=>(∀e∈u,e.length=sz)/\(∀e∈w,e.length=sz)/\(u.length+w.length)*by_<=140737488355328/\K (.sl (u++w) (.n sz))
   |_=>False
 |_=>False
def yC(y:PO)(p:PV)(j:List PV):List PV:=match y,p with
 |.t _,.sl es o=>[.sl es o]
 |_,_=>j.map PV.sh
def apO(u j:List (List PV))(d sz:Nat):Ow:=match u,j with
 |_::_,[]=>.sh
 |_,_=>.r d sz
def isT:PO->Bool
 |.t _=>true
 |_=>false
def PV.fz1(b:List (List PV)):PV->PV
 |.bx i o=>.cp ((b[i]?.getD []).map PV.sh) o
 |p=>p
def PV.fz(b:List (List PV)):PV->PV
 |.fn f fs cs=>.fn f (fs.map (PV.fz1 b)) (cs.map (PV.fz1 b))
 |p=>p.fz1 b
def PS.fz(s:PS):PS:=⟨s.t.map λy=>(y.1,y.2.fz s.b),[]⟩
def PK.e(P:Program)(k:PK)(d:Option Nat)(s:PS)(K:PS->Prop):Prop:=match k with
 |.mf f fs w=>if (fs.any λx=>(s.ev x).isB) || (w.any λx=>(s.ev x).isB) then s.b.all zY=true/\PK.q P s.fz (.mf f fs w) λp=>K (s.fz.put d p) else PK.q P s (.mf f fs w) λp=>K (s.put d p)
 |.mv (.t i)=>K (s.put d (s.get i))
 |.sc x lo hi sz=>PK.q P s (.sc x lo hi sz) λp=>K (s.put d p.strip)
 | .ld x false 1=>match s.ev x with
   | .bx i o=>match s.b[i]? with
     | some w=>match w[o]? with
       |some p=>K (s.put d p)
       |none=>False
     |none=>False
   |_=>PK.q P s (.ld x false 1) λp=>K (s.put d p)
 |.al zs=>K (PS.put ⟨s.t,s.b++[zs]⟩ d (.bx s.b.length 0))
 | .bs sz ps=>match d with
   |some d=>yP s sz ps λu=>K (s.put (some d) (.sl u (.r d sz)))
   |none=>PK.q P s (.bs sz ps) λp=>K (s.put d p)
 |.bo x=>qW (s.ev x) λw=>K (PS.put ⟨s.t,s.b++[w.map PV.sh]⟩ d (.bx s.b.length 0))
 | .st x y sz=>match s.ev x with
   | .bx i o=>match s.b[i]? with
     |some w=>qW (s.ev y) λus=>us.length=sz/\o+sz<=w.length/\K (PS.put ⟨s.t,s.b.set i (XI w (yC y (s.ev y) us) o)⟩ d (.v undef))
     |none=>False
   |_=>False
 | .ap x y sz by_=>match s.ev x with
   |.sl u (.r n sz')=>sz'=sz/\isT x=true/\QA (s.ev y) λj=>(∀e∈j,e.length=sz)/\(u.length+j.length)*by_<=140737488355328/\K ((s.down n).put d (.sl (u++j) (.r n sz)))
   | .sl u .z=>match d with
     |some d=>QA (s.ev y) λj=>(∀e∈u,e.length=sz)/\(∀e∈j,e.length=sz)/\(u.length+j.length)*by_<=140737488355328/\K (s.put (some d) (.sl (u++j) (apO u j d sz)))
     |none=>PK.q P s (.ap x y sz by_) λp=>K (s.put d p.strip)
   |_=>False
 | .ca f xs=>match xs with
   | .t i::xs'=>match s.get i with
     |.sl u (.r n sz)=>(∃r,Cn P f (xs.map λx=>(s.ev x).sh) r/\zY (xs.map λx=>(s.ev x).sh)=true/\K (s.put d r))\/∃A,OCn P f u sz (xs'.map λx=>(s.ev x).sh) A/\zY (xs'.map λx=>(s.ev x).sh)=true/\K ((s.down n).put d (.sl A (.r n sz)))
     |_=>∃r,Cn P f (xs.map λx=>(s.ev x).sh) r/\zY (xs.map λx=>(s.ev x).sh)=true/\K (s.put d r)
   |_=>∃r,Cn P f (xs.map λx=>(s.ev x).sh) r/\zY (xs.map λx=>(s.ev x).sh)=true/\K (s.put d r)
 |k=>k.q P s λp=>K (s.put d p)
end
section
open Go.RowKit
variable {P:Program}{s:PS}
def Det{α:Type}(H:(α->Prop)->Prop):Prop:=∀K,H K->∃x,K x/\H λy=>y=x
def Det.pure{α:Type}(x:α):Det λK:α->Prop=>K x:=λK h=>⟨x,h,rfl⟩
def Det.false{α:Type}:Det λ_:α->Prop=>False:=λ_ h=>h.elim
def Det.and{α:Type}{H:(α->Prop)->Prop}(p:Prop)(h:Det H):Det λK=>p/\H K:=λK hk=>by obtain⟨x,j,u⟩:=h K hk.2;exact⟨x,j,hk.1,u⟩
def Qw{α:Type}{p:PV}{H:List PV->(α->Prop)->Prop}(h:∀j,Det (H j)):Det λK=>qW p λj=>H j K:=by
 intro K hk;unfold qW at hk⊢;split at hk<;>first|exact h _ K hk|exact Det.and _ (h _) K hk|exact hk.elim
def jm{α:Type}{p:PV}{H:Bool->(α->Prop)->Prop}(h:∀b,Det (H b)):Det λK=>qV p λb=>H b K:=by
 intro K hk;unfold qV at hk⊢;split at hk
 .exact h _ K hk
 .exact hk.elim
def yQ{α:Type}{p:PV}{H:IntKind->Int->(α->Prop)->Prop}(h:∀k n,Det (H k n)):Det λK=>vR p λk n=>H k n K:=by
 intro K hk;unfold vR at hk⊢;split at hk
 .exact h _ _ K hk
 .exact hk.elim
def ZQ{α:Type}{p:PV}{H:List (List PV)->(α->Prop)->Prop}(h:∀j,Det (H j)):Det λK=>QA p λj=>H j K:=by
 intro K hk;unfold QA at hk⊢;split at hk
 .exact h _ K hk
 .exact hk.elim
def zav(k:IntKind)(n:Int):Det (qar k n):=by
 intro K hk;unfold qar at hk⊢;split at hk
 .exact⟨_,hk.2,hk.1,rfl⟩
 .exact⟨_,hk,rfl⟩
def zdZ(op:BinOp)(k:IntKind)(a b:Int):Det (Xo op k a b):=by
 intro K hk;unfold Xo at hk⊢;split at hk<;>first|exact zav _ _ K hk|exact Det.and _ (zav _ _) K hk|exact Det.and _ (Det.pure _) K hk|exact⟨_,hk,rfl⟩|exact hk.elim
def zdV(op:BinOp)(p q:PV):Det (QB op p q):=by
 intro K hk;unfold QB at hk⊢;split at hk
 .exact Det.and _ (zdZ _ _ _ _) K hk
 .exact hk.elim
def zdY(n:Bool)(m:Nat)(p q:PV):Det (zbz n m p q):=by
 intro K hk;unfold zbz at hk⊢;split at hk
 .exact⟨_,hk.2,hk.1,rfl⟩
 .exact hk.elim
def zgf(u:List PV)(o:Nat)(j:Bool)(n:Nat):Det (VI u o j n):=by
 intro K hk;unfold VI at hk⊢;split at hk
 .exact⟨_,hk.2,hk.1,rfl⟩
 .split at hk
  .exact⟨_,hk,rfl⟩
  .exact hk.elim
def kB{α:Type}(w:List PV)(o:Nat)(u:Bool)(n:Nat)(f:PV->α):Det λK:α->Prop=>VI w o u n λp=>K (f p):=by
 intro K hk;obtain⟨x,y,j⟩:=zgf w o u n _ hk;refine⟨f x,y,?_⟩;unfold VI at j⊢;split at j
 .exact⟨j.1,by rw[j.2]⟩
 .split at j
  .rw[j]
  .exact j.elim
def Qy{α:Type}(f:List PV->α):∀(w:List (Nat×Nat×PO))(j:List PV),Det λK:α->Prop=>vS s w j λu=>K (f u)
 |[],j=>Det.pure _
 |(off,n,x)::r,j=>Qw λu=>Det.and _ (Det.and _ (Det.and _ (Qy f r _)))
def Qx{α:Type}(sz:Nat):∀(w:List PO)(f:List (List PV)->α),Det λK:α->Prop=>yP s sz w λj=>K (f j)
 |[],f=>Det.pure _
 |x::r,f=>Qw λu=>Det.and _ (Det.and _ (Qx sz r λj=>f (u.map PV.sh::j)))
def zar{α:Type}(y:Option PO)(n:Nat){H:Nat->(α->Prop)->Prop}(h:∀n,Det (H n)):Det λK=>qBd s y n λm=>H m K:=by
 cases y with
 |none=>exact h n
 |some y=>exact yQ λ_ _=>Det.and _ (h _)
def zat(k:PK):Det (k.q P s):=by
 cases k with
 |mv x=>cases x<;>exact Det.pure _
 |bin op x y=>exact zdV _ _ _
 |beq n x y=>exact jm λa=>jm λb=>Det.pure _
 |eq2 n x y m=>exact zdY _ _ _ _
 | nil n x=>
   intro K hk;simp only[PK.q]at hk⊢;split at hk<;>first|exact⟨_,hk,rfl⟩|exact hk.elim
 |not x=>exact jm λa=>Det.pure _
 |cv k x=>exact yQ λa b=>Det.pure _
 | fa x off=>
   intro K hk;simp only[PK.q]at hk⊢;split at hk<;>first|exact⟨_,hk,rfl⟩|exact hk.elim
 | ia x y sz=>
   refine ZQ λA=>yQ λ_ n=>Det.and _ λK hk=>?_;split at hk
   .exact⟨_,hk.2,hk.1,rfl⟩
   .exact hk.elim
 | aa x y n sz=>
   refine yQ λ_ m=>Det.and _ λK hk=>?_;split at hk<;>first|exact⟨_,hk,rfl⟩|exact hk.elim
 | ix x y n ag sz=>
   refine yQ λ_ m=>Det.and _ λK hk=>?_;split at hk
   .exact kB _ _ _ _ _ K hk
   .exact hk.elim
 | fl x off ag n=>
   intro K hk;simp only[PK.q]at hk⊢;split at hk
   .exact kB _ _ _ _ _ K hk
   .exact hk.elim
 | ld x ag n=>
   intro K hk;simp only[PK.q]at hk⊢;split at hk
   .exact kB _ _ _ _ _ K hk
   .split at hk
    .exact Det.and _ (kB _ _ _ _ _) K hk
    .exact hk.elim
   .exact hk.elim
 | nc x=>
   intro K hk;simp only[PK.q]at hk⊢;split at hk<;>first|exact⟨_,hk,rfl⟩|exact hk.elim
 |bd zs ps=>exact Qy _ _ _
 |bs sz ps=>exact Qx _ _ _
 |ln x=>exact ZQ λ_=>Det.pure _
 | ex x i=>
   intro K hk;simp only[PK.q]at hk⊢;split at hk
   .split at hk
    .exact⟨_,hk,rfl⟩
    .exact hk.elim
   .exact hk.elim
 |mf f fs cs=>exact Det.and _ (Det.pure _)
 | mi t x=>
   intro K hk;simp only[PK.q]at hk⊢;split at hk
   .exact⟨_,hk,rfl⟩
   .exact hk.elim
 | pk c x y=>
   refine jm λb=>?_;intro K hk;cases b with
   |true=>exact⟨_,hk.1 rfl,λ_=>rfl,nofun⟩
   |false=>exact⟨_,hk.2 rfl,nofun,λ_=>rfl⟩
 |sc x lo hi sz=>exact ZQ λA=>zar _ _ λh=>zar _ _ λl=>Det.and _ (Det.and _ (Det.and _ (Det.pure _)))
 | ap x y sz b=>
   intro K hk;simp only[PK.q]at hk⊢;split at hk
   .exact ZQ (λB=>Det.and _ (Det.and _ (Det.and _ (Det.pure _)))) K hk
   .exact hk.elim
 |mm m x y=>exact yQ λ_ _=>yQ λ_ _=>Det.and _ (Det.pure _)
 |ca f xs=>intro K hk;obtain⟨r,j,u,w⟩:=hk;exact⟨_,w,r,j,u,rfl⟩
 | cl y xs=>
   intro K hk;simp only[PK.q]at hk⊢;split at hk
   .obtain⟨r,j,u,w⟩:=hk;exact⟨_,w,r,j,u,rfl⟩
   .exact hk.elim
 | iv x m xs=>
   intro K hk;simp only[PK.q]at hk⊢;split at hk
   .obtain⟨f,C,r,j,u,w⟩:=hk;exact⟨_,w,f,C,r,j,u,rfl⟩
   .exact hk.elim
 | sb op x y=>
   intro K hk;simp only[PK.q]at hk⊢;unfold qsb at hk⊢;split at hk
   .exact⟨_,hk.2,hk.1,rfl⟩
   .exact hk.elim
 |al zs=>exact Det.false
 |bo x=>exact Det.false
 |st x y n=>exact Det.false
end
end Go.Proofs.YtbhngpjkakcgfaaGreatDoor
