import Derived.Deep.RegionWith
import Derived.Test.YtbhngpjkakcgfaaGreatDoorB12
import Derived.Test.YtbhngpjkakcgfaaGreatDoorB24
set_option maxHeartbeats 16000000
set_option linter.all false
set_option maxRecDepth 100000
namespace Go.Proofs.YtbhngpjkakcgfaaGreatDoor
open Go.Proofs.Tryz renaming prog->xT
section
open Go.RowKit
attribute [-go_sem] z7
def zti{D:Qk}{w:World}{v:Value}{k:List Fg}(h:Dat D w v (.tup [kp k,.v .nilIface])):∃a c,v=.tuple #[.slice a k.length c,.nilIface]/\Dat D w (.slice a k.length c) (kp k):=by
 cases h with
 | tup vs cs hs h=>
   have d0:=h 0 _ rfl;have u:=(h 1 _ rfl).v_inv;obtain⟨⟨a,n,c⟩,e,j⟩:=kH d0;obtain⟨l⟩:=vs;match l,hs with
   |[x,y],_=>simp at d0 u e;subst e;subst u;rw[wu]at j;simp only at j;subst j;exact⟨a,c,rfl,d0⟩
def zuD{C:Nat->List Nat}{R E I:List Nat}{D:Qk}{w:World}{x:Value}{k:List Fg}(e:Env25 C R E I)(hk:Ke C R E k){i r c:Nat}(hi:i∈I)(F:r<zk)(G:r∈R)(H:c<=25)(B:Gd D w)(d:Dat D w x (kp k)):
 Calls xT 49 #[x,.int .u64 (i:Nat),.int .u64 (r:Nat),.int .u64 (c:Nat)] w λe A=>∃a y,e=.returned (.tuple #[.slice a (vh zn k (znP i r c)).length y,.nilIface])/\Below w.heap.size w A/\Dat (Nw D w A) A (.slice a (vh zn k (znP i r c)).length y) (kp (vh zn k (znP i r c))):=by
 refine(jP (znJ k i r c F (by have:=zw;omega) hk.kn (ztd e hi F G H).kn e.ok (by have:=e.e;omega)) B.1 B.2 rfl λj p u=>?_).mono ?_
 .match j,u with
  |0,u=>cases u;exact d
  |1,u=>cases u;exact .v _
  |2,u=>cases u;exact .v _
  |3,u=>cases u;exact .v _
  |j+4,u=>simp at u
 .rintro e A ⟨v,rfl,hb,J⟩;obtain⟨a,y,rfl,h⟩:=zti J;exact⟨a,y,rfl,hb,h⟩
def zt8{x c:Nat}(h:c=x+1)(u:c<zk)(w:World):Calls xT 48 #[.int .u64 (x:Nat)] w λe j=>e=.returned (.tuple #[.int .u64 (c:Nat),.bool true])/\j=w:=by have:=zw;refine(zdr x a8 w).mono ?_;rintro e j ⟨rfl,rfl⟩;rw[h];exact⟨rfl,rfl⟩
def SlK(D:Qk)(j:World)(k:List Fg)(u:Value)(W:World):Prop:=∃a c,u=.slice a k.length c/\Dat (Nw D j W) W (.slice a k.length c) (kp k)
def TuK(D:Qk)(j:World)(k:List Fg)(u:Value)(W:World):Prop:=∃a c,u=.tuple #[.slice a k.length c,.nilIface]/\Dat (Nw D j W) W (.slice a k.length c) (kp k)
def Nw.dat{D:Qk}{j A B:World}{x:Value}{p:PV}(h:Dat (Nw D j A) A x p)(hk:Keep qe A B):Dat (Nw D j B) B x p:=h.mono (λb o h=>h.imp id λh=>⟨h.1,vw h.2 hk.size⟩) λb o x _ u=>hk.cell_some u id
def SlK.stab{D:Qk}{j:World}{k:List Fg}(u:Value)(A B:World)(h:SlK D j k u A)(hk:Keep qe A B):SlK D j k u B:=by obtain⟨a,c,e,h⟩:=h;exact⟨a,c,e,Nw.dat h hk⟩
def TuK.stab{D:Qk}{j:World}{k:List Fg}(u:Value)(A B:World)(h:TuK D j k u A)(hk:Keep qe A B):TuK D j k u B:=by obtain⟨a,c,e,h⟩:=h;exact⟨a,c,e,Nw.dat h hk⟩
def zvG{C:Nat->List Nat}{R E I:List Nat}{n t b m i:Nat}{D:Qk}{w:World}{s:Rs}{v:ByteArray}(e:Env25 C R E I)(h:Ok25 C R E I n s)(hn:n<=25)(hi:i∈I)(hR:Rpl D t w b m s)(hG:Gd D w)(bH:∀o,¬D b o)(bJ:∀o,¬D m o)(aB:b≠m)(ht:t<1000000):
 Calls xT 21 #[.pointer (some ⟨b,0,none⟩),.int .u64 (i:Nat),.string v] w λe w'=>e=.returned (.tuple #[rcv (ztL s i v),.nilIface])/\Keep (λk=>k=b\/k=m) w w'/\Rpl (Nw D w w') (t+1) w' b m (ztM s i v):=by
 have hM:=zw;have aq:=(e.m i hi).1;obtain⟨ka,kc,h1,h2,h3⟩:=hR;have U:=(XE.1 h1).1;have aw:=h2.lt;obtain⟨c,G⟩:=xm (zsq s i);have bR:c<=n:=by rw[G];exact h.ctr i
 obtain⟨nx,aH⟩:=xm (s.next);obtain⟨kl,au⟩:=xm (s.known.length);have aD:(zrZ s.recs i=none/\c=nx)\/(∃y,zrZ s.recs i=some y/\y.ctr<nx/\c=nx)\/(∃y,zrZ s.recs i=some y/\nx<=y.ctr/\c=y.ctr+1):=by
  rw[G,aH];unfold zsq;cases hg:zrZ s.recs i with
  |none=>exact .inl ⟨rfl,rfl⟩
  | some y=>
    dsimp only;by_cases av:s.next<=y.ctr
    .exact .inr (.inr ⟨y,rfl,av,by rw[vj av]⟩)
    .exact .inr (.inl ⟨y,rfl,a8,by rw[Vm av]⟩)
 have ag:=λW (hW:Below w.heap.size w W)=>zuD (w:=W) (c:=c) e h.k hi h.i.1 h.i.2 a8 (hG.keep (Keep.of_below' (S:=qe) hW (Zp _)) λ_ _ _=>id) (h3.mono (λ_ _ h=>h) λb o x J hx=>(tn (a:=⟨b,o,none⟩) (hW.block b (hG.2 b o J))).trans hx);obtain⟨kr,aF⟩:=xm (vh zn s.known (znP i s.id c));have bn:=qL aF;have bl:=qL au;rw[<-au,<-aF]at ag;have aG:ztL s i v=⟨i,s.id,c,v⟩:=by unfold ztL;rw[<-G]
 have aW:ztM s i v=⟨s.id,zr4 s.recs ⟨i,s.id,c,v⟩,vh zn s.known (znP i s.id c),c+1⟩:=by unfold ztM;rw[aG,<-G]
 have c0:w.cell? ⟨b,0,none⟩=some (.int .u64 s.id):=(zW h1 0 _ rfl).1;have c1:w.cell? ⟨b,1,none⟩=some (.map (some m)):=(zW h1 1 _ rfl).1;have c2:w.cell? ⟨b,2,none⟩=some (.slice ka kl kc):=by rw[au];exact(zW h1 2 _ rfl).1
 have c3:w.cell? ⟨b,3,none⟩=some (.int .u64 nx):=by rw[aH];exact(zW h1 3 _ rfl).1
 have c4:w.cell? ⟨b,4,none⟩=some (.bool false):=(zW h1 4 _ rfl).1;have H1:=qL h1;have HM:=qL h2;have bi:=qL ag;have br:=qL h;have bq:=qL aG;have bt:=qL aW;have HG:=qL hG;obtain⟨F,af⟩:∃q,q=s.id:=⟨_,rfl⟩;have ab:=qL af;rw[<-af]at c0;have bM:xT.follows .mixedOrders=true:=dK
 clear h1 h2 h3 ag h aG aW hG G aH au af aF;go_enter Tryz.func21,Tryz.ntmps21
 go_wp2_with fail
 go_region;obtain⟨w1,ah⟩:=xm ((w.alloc (.cells #[.int .u64 0,.int .u64 0,.int .u64 0,.string ⟨#[]⟩] 60)).drew);have az:Below w.heap.size w w1:=by rw[ah];exact((tu _ w).alloc (Zp _) _).drew
 have bK:w1.heap.size=w.heap.size+1:=by rw[ah];exact tw _ _
 have aY:w1.heap[w.heap.size]?=some (.cells #[.int .u64 0,.int .u64 0,.int .u64 0,.string ⟨#[]⟩] 60 (0,0)):=by rw[ah];exact tp w _
 have d1:w1.cell? ⟨b,1,none⟩=some (.map (some m)):=(tn (a:=⟨b,1,none⟩) (az.block b U)).trans c1;have ak:=qL az;have bz:=qL aY;rw[<-ah];clear ah az aY;have ax:∀(o:Obj)(W:World),W=w1.alloc o->Below w.heap.size w W/\W.heap.size=w.heap.size+2/\W.heap[w.heap.size]?=some (.cells #[.int .u64 0,.int .u64 0,.int .u64 0,.string ⟨#[]⟩] 60 (0,0)):=λo W hW=>by rw[hW];exact⟨ak.o.alloc a8 _,by rw[tw,bK],(tv _ _ _ a8).trans bz.o⟩
 have aO:=qL ax;clear ax;rcases aD with⟨hq,V⟩|⟨y,hq,av,V⟩|⟨y,hq,bS,V⟩;case' inl=>
  subst V
  go_wp2_with (at_lookup;refine zsX rfl _ _ rfl rfl (HM.o.keep (ak.o.block m aw)) aq rfl (λ_=>?_) λy Q=>by rw[hq]at Q;cases Q)
 case' inr.inl=>
  subst V
  go_wp2_with (at_lookup;refine zsX rfl _ _ rfl rfl (HM.o.keep (ak.o.block m aw)) aq rfl (λQ=>by rw[hq]at Q;cases Q) λy' Q=>?_;rw[hq]at Q;cases Q)
 case' inr.inr=>
  have bg:=qL V;clear V
  go_wp2_with (first
   |(at_lookup;refine zsX rfl _ _ rfl rfl (HM.o.keep (ak.o.block m aw)) aq rfl (λQ=>by rw[hq]at Q;cases Q) λy' Q=>?_;rw[hq]at Q;cases Q)
   |(go_at_call 48;refine(zt8 bg.o a8 _).mono ?_;rintro e w3 ⟨rfl,rfl⟩))
 all_goals
  refine wp_some (R:=λW=>Below w.heap.size w W/\W.heap.size=w.heap.size+2/\W.heap[w.heap.size]?=some (.cells #[.int .u64 0,.int .u64 0,.int .u64 0,.string ⟨#[]⟩] 60 (0,0))) (aO.o _ _ rfl) ?_;rintro j ⟨an,bT,aZ⟩;have e0:j.cell? ⟨b,0,none⟩=some (.int .u64 F):=(tn (a:=⟨b,0,none⟩) (an.block b U)).trans c0;have e2:j.cell? ⟨b,2,none⟩=some (.slice ka kl kc):=(tn (a:=⟨b,2,none⟩) (an.block b U)).trans c2;have aP:=qL λW (hW:Below w.heap.size w W)=>bi.o W hW;rw[<-ab.o]at aP;have am:=qL an;have bA:=qL aZ;have aU:Below j.heap.size j j.drew:=(tu _ _).drew;clear an aZ;refine Kg (Sw:=qe) 16 109 (λw9=>Below j.heap.size j w9/\w9.cell? ⟨b,0,none⟩=some (.int .u64 F)/\w9.cell? ⟨b,2,none⟩=some (.slice ka kl kc)) dK dK rfl ⟨aU,e0,e2⟩ ?_;simp only[wP,Wb];refine Jz ?_;refine V7 (TuK D j kr) TuK.stab rfl ?_ ?_
  .intro a5 A G hk Y K N;have HK:=qL N;clear N;simp[Rds,zA,lk,Op.operands,Call.operands,RdEq]at Y;go_simp;refine(aP.o A (am.o.trans (G.1.mono am.o.size))).mono ?_;rintro e w3 ⟨H,k3,rfl,aT,ao⟩;have aE:Keep qe A w3:=Keep.of_below' aT (Zp _);exact HK.o _ _ aE ⟨G.1.trans (aT.mono G.1.size),aE.cell_some G.2.1 id,aE.cell_some G.2.2 id⟩ ⟨H,k3,rfl,ao.mono (λb o h=>h.imp id λh=>⟨V0 G.1.size h.1,h.2⟩) λ_ _ _ _ h=>h⟩
  simp only[Y1,yb];refine Jz ?_;refine V7 (TuK D j kr) TuK.stab rfl ?_ ?_
  .intro a5 A G hk Y K N;have HK:=qL N;clear N;simp[Rds,zA,lk,Op.operands,Call.operands,RdEq]at Y;obtain⟨_,⟨e1,e2⟩,H,k3,rfl,J⟩:=Y;go_simp;exact HK.o _ _ (Keep.refl _ _) G ⟨H,k3,rfl,J⟩
  simp only[Y1,yb];refine Jz ?_;refine V7 (SlK D j kr) SlK.stab rfl ?_ ?_
  .intro a5 A G hk Y K N;have HK:=qL N;clear N;simp[Rds,zA,lk,Op.operands,Call.operands,RdEq]at Y;obtain⟨_,⟨e1,e2⟩,H,k3,rfl,J⟩:=Y;go_simp;exact HK.o _ _ (Keep.refl _ _) G ⟨H,k3,rfl,J⟩
  simp only[Y1,yb];refine Jz ?_;refine V7 (λu _=>u=.nilIface) (yj _) rfl ?_ ?_
  .intro a5 A G hk Y K N;have HK:=qL N;clear N;simp[Rds,zA,lk,Op.operands,Call.operands,RdEq]at Y;obtain⟨_,⟨e1,e2⟩,H,k3,rfl,J⟩:=Y;go_simp;exact HK.o _ _ (Keep.refl _ _) G rfl
  simp only[Y1,yb];refine Jz ?_;refine V7 (SlK D j kr) SlK.stab rfl ?_ ?_
  .intro a5 A G hk Y K N;have HK:=qL N;clear N;simp[Rds,zA,lk,Op.operands,Call.operands,RdEq]at Y;obtain⟨_,⟨e1,e2⟩,H,k3,rfl,J⟩:=Y;go_simp;exact HK.o _ _ (Keep.refl _ _) G ⟨H,k3,rfl,J⟩
  simp only[Y1,yb];refine Jz ?_;intro j ae bI;simp only[finG,WR,Y1,yb,wN,Wh,WS];simp only[Act.put,wB,wS,wT];rintro bZ bF bY bE cb bG _ ⟨H,k3,rfl,ao⟩;clear bF bE bG;have aC:Below w.heap.size w j:=am.o.trans (ae.1.mono am.o.size);have ba:=(ae.1.block _ a8).trans bA.o;have bU:=ae.1.size;have e1:j.cell? ⟨b,1,none⟩=some (.map (some m)):=(tn (a:=⟨b,1,none⟩) (aC.block b U)).trans c1;have bh:=qL ao;have aN:=qL aC;have bC:=qL ba;have bP:=ae.2.1;clear ao ae bI aC ba aU e0 e2
  go_wp2_with fail
  refine wp_some (R:=λW=>Below j.heap.size j W/\W.heap[j.heap.size]?=some (.cells #[.int .u64 i,.int .u64 F,.int .u64 c,.string v] 60 (0,0))/\W.heap.size=j.heap.size+1) ⟨(tu _ _).alloc (Zp _) _,tp _ _,b6⟩ ?_;rintro w4 ⟨aA,M,bW⟩;have ac:Below w.heap.size w w4.drew:=(aN.o.trans (aA.mono aN.o.size)).drew;obtain⟨v0,st,we,wf,q1,q2,q3,q4,q5⟩:=zu8 (w:=w4.drew) (t:=t) (B:=m) (l:=s.recs) (HM.o.keep (ac.block m aw)) br.o.a c8 (y:=⟨i,F,c,v⟩) aq;dsimp only[rcv]at q1 q2;have ai:we.heap[j.heap.size]?=some (.cells #[.int .u64 i,.int .u64 F,.int .u64 c,.string v] 60 (0,0)):=(q5 _ a8).trans M;have aJ:∀k,k<w4.heap.size->k≠m->wf.heap[k]?=w4.heap[k]?:=λk hk X=>q4.block k hk λe=>X (dJ e);have O:wf.heap[b]?=some (.cells #[.int .u64 F,.map (some m),.slice ka kl kc,.int .u64 s.next,.bool false] 107 (0,0)):=(aJ b a8 aB).trans ((ac.block b U).trans (by rw[ab.o,bl.o];exact H1.o));have f1:w4.cell? ⟨b,1,none⟩=some (.map (some m)):=(tn (a:=⟨b,1,none⟩) (ac.block b U)).trans c1;have x0:w4.cell? ⟨j.heap.size,0,none⟩=some (.int .u64 i):=(zW M 0 _ rfl).1;have x1:w4.cell? ⟨j.heap.size,1,none⟩=some (.int .u64 F):=(zW M 1 _ rfl).1;have x2:w4.cell? ⟨j.heap.size,2,none⟩=some (.int .u64 c):=(zW M 2 _ rfl).1;have x3:w4.cell? ⟨j.heap.size,3,none⟩=some (.string v):=(zW M 3 _ rfl).1;have y0:we.cell? ⟨j.heap.size,0,none⟩=some (.int .u64 i):=(zW ai 0 _ rfl).1;have y1:we.cell? ⟨j.heap.size,1,none⟩=some (.int .u64 F):=(zW ai 1 _ rfl).1;have y2:we.cell? ⟨j.heap.size,2,none⟩=some (.int .u64 c):=(zW ai 2 _ rfl).1;have y3:we.cell? ⟨j.heap.size,3,none⟩=some (.string v):=(zW ai 3 _ rfl).1
  have g2:wf.cell? ⟨b,2,none⟩=some (.slice ka kl kc):=(zW O 2 _ rfl).1;have z2:wf.frozen? ⟨b,2,none⟩=false:=(zW O 2 _ rfl).2;have bu:=qL q3;have aR:=qL q4;have bw:=qL aJ;have be:=qL O;have bB:=qL M;have aM:=qL ac;have aL:=qL aA;clear q3 q4 q5 aJ O M ai ac aA;go_region;obtain⟨A,L⟩:=xm (wf.setCell ⟨b,2,none⟩ (.slice H kr.length k3));have T:A.heap[b]?=some (.cells #[.int .u64 F,.map (some m),.slice H kr.length k3,.int .u64 s.next,.bool false] 107 (0,0)):=(by rw[L];exact zsw be.o 2 _);have ar:∀k,k<w4.heap.size->k≠m->k≠b->A.heap[k]?=w4.heap[k]?:=λk h1 h2 h3=>(by rw[L];exact(tx _ _ _ _ h3).trans (bw.o k h1 h2));have bQ:=aM.o.size;have bX:w4.heap.size<=A.heap.size:=(by rw[L];simp;exact aR.o.size);have aK:A.heap[w.heap.size]?=some (.cells #[.int .u64 0,.int .u64 0,.int .u64 0,.string ⟨#[]⟩] 60 (0,0)):=(ar _ a8 a8 a8).trans ((aL.o.block _ a8).trans bC.o);have aj:A.heap[j.heap.size]?=some (.cells #[.int .u64 i,.int .u64 F,.int .u64 c,.string v] 60 (0,0)):=(ar _ a8 a8 a8).trans bB.o;have aQ:qA (Keep (λk=>k=b\/k=m) w A):=qL (by
   rw[L];exact(((Keep.of_below' (S:=λk=>k=b\/k=m) aM.o (Zp _)).grown aR.o λk e _=>.inr (dJ e.symm)).setCell (p:=⟨b,2,none⟩) (λ_=>.inl rfl) _))
  have bp:qA (MR (t+1) m A (zr4 s.recs ⟨i,F,c,v⟩)):=qL (bu.o.keep (by rw[L];exact tx _ _ _ _ (Uk aB)));rw[<-L];have b3:A.cell? ⟨b,3,none⟩=some (.int .u64 s.next):=(zW T 3 _ rfl).1;have r3:A.frozen? ⟨b,3,none⟩=false:=(zW T 3 _ rfl).2;have b4:A.cell? ⟨b,4,none⟩=some (.bool false):=(zW T 4 _ rfl).1;have r4:A.frozen? ⟨b,4,none⟩=false:=(zW T 4 _ rfl).2;have hz:=λk x h=>zW aK k x h;have n0:A.cell? ⟨w.heap.size,0,none⟩=some (.int .u64 0):=(hz 0 _ rfl).1;have n1:A.cell? ⟨w.heap.size,1,none⟩=some (.int .u64 0):=(hz 1 _ rfl).1;have n2:A.cell? ⟨w.heap.size,2,none⟩=some (.int .u64 0):=(hz 2 _ rfl).1;have n3:A.cell? ⟨w.heap.size,3,none⟩=some (.string ⟨#[]⟩):=(hz 3 _ rfl).1;have m0:A.frozen? ⟨w.heap.size,0,none⟩=false:=(hz 0 _ rfl).2;have m1:A.frozen? ⟨w.heap.size,1,none⟩=false:=(hz 1 _ rfl).2;have m2:A.frozen? ⟨w.heap.size,2,none⟩=false:=(hz 2 _ rfl).2;have m3:A.frozen? ⟨w.heap.size,3,none⟩=false:=(hz 3 _ rfl).2;have p0:A.cell? ⟨j.heap.size,0,none⟩=some (.int .u64 i):=(zW aj 0 _ rfl).1;have p1:A.cell? ⟨j.heap.size,1,none⟩=some (.int .u64 F):=(zW aj 1 _ rfl).1;have p2:A.cell? ⟨j.heap.size,2,none⟩=some (.int .u64 c):=(zW aj 2 _ rfl).1;have p3:A.cell? ⟨j.heap.size,3,none⟩=some (.string v):=(zW aj 3 _ rfl).1;have bO:j.heap.size≠w.heap.size:=a8;have ad:b≠w.heap.size:=a8;have bN:b≠j.heap.size:=a8;have bc:=qL T;have bD:=qL aK;have bj:=qL ar;clear L T ar aK aj hz q1 q2 x0 x1 x2 x3 y0 y1 y2 y3 f1 g2 z2
  go_wp2_with (go_at_call 48;refine(zt8 (x:=c) (c:=c+1) rfl a8 _).mono ?_;rintro e w6 ⟨rfl,rfl⟩)
  have bL:∀x y:Value,((w6.setCell ⟨b,3,none⟩ x).setCell ⟨b,4,none⟩ y).heap[w.heap.size]?=some (.cells #[.int .u64 0,.int .u64 0,.int .u64 0,.string ⟨#[]⟩] 60 (0,0)):=λx y=>(tx _ _ _ _ (Uk ad)).trans ((tx _ _ _ _ (Uk ad)).trans bD.o);refine tz (zs4 (cs:=#[.int .u64 i,.int .u64 F,.int .u64 c,.string v]) rfl rfl (by simpa using zsw (zsw (zsw (zsw (bL _ _) 0 _) 1 _) 2 _) 3 _) Tryz.underlying60 dK) rfl ?_;have P:¬(w.heap.size<w.heap.size):=tj _;have aV:∀x y a1 a2 H a4:Value,Keep (λk=>k=b\/k=m) w ((((((w6.setCell ⟨b,3,none⟩ x).setCell ⟨b,4,none⟩ y).setCell ⟨w.heap.size,0,none⟩ a1).setCell ⟨w.heap.size,1,none⟩ a2).setCell ⟨w.heap.size,2,none⟩ H).setCell ⟨w.heap.size,3,none⟩ a4):=λx y a1 a2 H a4=>
   (((((aQ.o.setCell (p:=⟨b,3,none⟩) (λ_=>.inl rfl) x).setCell (p:=⟨b,4,none⟩) (λ_=>.inl rfl) y).setCell (p:=⟨w.heap.size,0,none⟩) (λh=>absurd h P) a1).setCell (p:=⟨w.heap.size,1,none⟩) (λh=>absurd h P) a2).setCell (p:=⟨w.heap.size,2,none⟩) (λh=>absurd h P) H).setCell (p:=⟨w.heap.size,3,none⟩) (λh=>absurd h P) a4
  refine⟨by rw[bq.o,<-ab.o];rfl,aV _ _ _ _ _ _,?_⟩;rw[bt.o,<-bn.o];have aI:∀(W:World)(k:Nat),k≠w.heap.size->∀a1 a2 H a4:Value,((((W.setCell ⟨w.heap.size,0,none⟩ a1).setCell ⟨w.heap.size,1,none⟩ a2).setCell ⟨w.heap.size,2,none⟩ H).setCell ⟨w.heap.size,3,none⟩ a4).heap[k]?=W.heap[k]?:=λW k hk _ _ _ _=>(tx _ _ _ _ hk).trans ((tx _ _ _ _ hk).trans ((tx _ _ _ _ hk).trans (tx _ _ _ _ hk)));have aX:∀k,k≠b->∀x y:Value,((w6.setCell ⟨b,3,none⟩ x).setCell ⟨b,4,none⟩ y).heap[k]?=w6.heap[k]?:=λk hk _ _=>(tx _ _ _ _ hk).trans (tx _ _ _ _ hk);have aS:=bp.o;rw[ab.o]at aS;refine⟨H,k3,?_,aS.keep ((aI _ m a8 _ _ _ _).trans (aX m (Uk aB) _ _)),bh.o.mono (λZ o h=>h.imp id λh=>⟨a8,?_⟩) λZ o x J hx=>?_⟩
  .refine(aI _ b ad _ _ _ _).trans ?_;have:=zsw (zsw bc.o 3 (.int .u64 ((c+1:Nat):Int))) 4 (.bool false);rw[ab.o]at this;simpa using this
  .have:=(aV (.int .u64 (c+1)) (.bool false) (.int .u64 i) (.int .u64 F) (.int .u64 c) (.string v)).size;have h5:=aQ.o.size;simp;omega
  .have ay:=tq j ⟨Z,o,none⟩ hx;have X:Z≠b/\Z≠m/\Z≠w.heap.size:=by
    rcases J with J|J
    .have:=HG.o.2 Z o J;exact⟨λe=>bH o (e▸J),λe=>bJ o (e▸J),a8⟩
    .exact⟨a8,a8,a8⟩
   exact(tn (a:=⟨Z,o,none⟩) ((aI _ Z X.2.2 _ _ _ _).trans ((aX Z X.1 _ _).trans ((bj.o Z (by have:Z<j.heap.size:=ay;omega) X.2.1 X.1).trans (aL.o.block Z ay))))).trans hx
end
section
open Go.RowKit Go.Maps
attribute [go_sem] rcp rcc
def zvf(x y:Rc):Cn xT 87 [rcp x,rcp y] (.v (.bool (zs7 x y))):=by
 unfold zs7;refine zt Tryz.func87 2 ?_;refine pw ?_;refine .i ?_ ?_<;>intro h<;>(try simp only[zb]at h)<;>first|refine pw ?_|exact pd
 .simp[h]
 .refine .i ?_ ?_<;>intro j<;>(try simp only[zb]at j)<;>first|refine pw ?_|exact pd
  .simp[h,j]
  .simp[h,j]
attribute [-go_sem] z7
def ztH{t B:Nat}{w:World}{l:List Rc}(h:MR t B w l){r:Nat}(E:r<zk):(Instr.lookup 105 (.map (some B)) (.int .u64 (r:Nat)) true).run xT w=.ok (.tuple #[rcv ((zrZ l r).getD zRc),.bool (zrZ l r).isSome]) w:=by obtain⟨D,y,F,A,C⟩:=h;obtain⟨v,G,j,u⟩:=y.look_ok vF Tryz.underlying105 (zsv w) (zd:=.held zR) (zp:=[]) rfl (Zq E);rw[C r]at u;unfold rV at u;cases u;rw[A r]at j;exact j
def zuc{t B:Nat}{w:World}{l:List Rc}(h:MR t B w l)(G:zr8 l)(H:t<maxLen){y:Rc}(I:y.item<zk):∃u,(Instr.mapUpdate 105 (.map (some B)) (.int .u64 (y.item:Nat)) (rcv y)).run xT w=.ok () u/\MR (t+1) B u (zr4 l y)/\w.grownBy u (some B):=by obtain⟨D,A,C,E,F⟩:=h;obtain⟨u,j,J,K⟩:=A.update vF Tryz.underlying105 H (Zq I) (val:=rcv y) rfl;exact⟨u,j,MR.put C E F G J,K⟩
def ztb{D:Qk}{w:World}(x:Rc):Dat D w (.agg #[.int .u64 x.item,.int .u64 x.rep,.int .u64 x.ctr,.string x.val]) (rcp x):=by
 refine .agg _ _ rfl (λi hi=>?_) λi p j=>?_
 .match i,hi with
  |0,_=>rfl
  |1,_=>rfl
  |2,_=>rfl
  |3,_=>rfl
 .match i,j with
  |0,j=>cases j;exact .v _
  |1,j=>cases j;exact .v _
  |2,j=>cases j;exact .v _
  |3,j=>cases j;exact .v _
def zv2{D:Qk}{t b m:Nat}{w:World}{l:List Rc}{x:Rc}(hG:Gd D w)(hb:w.cell? ⟨b,1,none⟩=some (.map (some m)))(hm:MR t m w l)(ha:zr8 l)(ht:t<1000000)(hx:x.item<zk)(an:∀o,¬D m o):
 Calls xT 52 #[.pointer (some ⟨b,0,none⟩),rcv x] w λe w'=>(∃u,e=.returned u)/\MR (t+1) m w' (zse l x)/\Keep (λk=>k=m) w w':=by
 have Y:=tq w _ hb;have ab:=hm.lt;obtain⟨B,K⟩:=xm (w.alloc (.cells #[.int .u64 x.item,.int .u64 x.rep,.int .u64 x.ctr,.string x.val] 60));have O:Below w.heap.size w B:=by rw[K];exact(tu _ w).alloc (Zp _) _
 have ag:B.heap.size=w.heap.size+1:=by rw[K];exact tw _ _
 have F:B.heap[w.heap.size]?=some (.cells #[.int .u64 x.item,.int .u64 x.rep,.int .u64 x.ctr,.string x.val] 60 (0,0)):=by rw[K];exact tp w _
 have Q:MR t m B l:=hm.keep (O.block m ab);have q1:=ztH (w:=B.drew) Q hx;have q2:=ztH (w:=(B.alloc (.cells #[.int .u64 0,.int .u64 0,.int .u64 0,.string ⟨#[]⟩] 60)).drew) (Q.keep (tv _ _ _ (by show m<B.heap.size;omega))) hx;have b1:B.cell? ⟨b,1,none⟩=some (.map (some m)):=(tn (a:=⟨b,1,none⟩) (O.block b Y)).trans hb;obtain⟨y,hy⟩:=xm ((zrZ l x.item).getD zRc);obtain⟨ok,ac⟩:=xm ((zrZ l x.item).isSome);rw[<-hy,<-ac]at q1 q2;dsimp only[rcv]at q1 q2⊢;have x0:B.cell? ⟨w.heap.size,0,none⟩=some (.int .u64 x.item):=(zW F 0 _ rfl).1;have x1:B.cell? ⟨w.heap.size,1,none⟩=some (.int .u64 x.rep):=(zW F 1 _ rfl).1;have x2:B.cell? ⟨w.heap.size,2,none⟩=some (.int .u64 x.ctr):=(zW F 2 _ rfl).1;have x3:B.cell? ⟨w.heap.size,3,none⟩=some (.string x.val):=(zW F 3 _ rfl).1;have HY:=qL hy;have af:=qL ac;have ah:=qL Q;have ai:=qL F;have U:=qL O;have HG:=qL hG;have HA:=qL ha;have am:xT.follows .mixedOrders=true:=dK
 clear hy ac Q F O hG ha hm hb;go_enter Tryz.func52,Tryz.ntmps52
 go_wp2_with fail
 rw [<-K];clear K;go_region;all_goals
  obtain⟨C,E⟩:=xm ((B.alloc (.cells #[.int .u64 y.item,.int .u64 y.rep,.int .u64 y.ctr,.string y.val] 60)).drew);have P:Below w.heap.size w C:=(by rw[E];exact(U.o.alloc a8 _).drew);have ao:C.heap.size=w.heap.size+2:=(by rw[E];show (B.alloc _).heap.size=_;rw[tw,ag]);have M:C.heap[w.heap.size+1]?=some (.cells #[.int .u64 y.item,.int .u64 y.rep,.int .u64 y.ctr,.string y.val] 60 (0,0)):=(by rw[E,<-ag];exact tp B _);have G:C.heap[w.heap.size]?=some (.cells #[.int .u64 x.item,.int .u64 x.rep,.int .u64 x.ctr,.string x.val] 60 (0,0)):=(by rw[E];exact(tv _ _ _ a8).trans ai.o);rw[<-E];have H:=qL P;have aj:=qL G;have I:=qL (ah.o.keep ((P.block m ab).trans (U.o.block m ab).symm));have ak:C.cell? ⟨b,1,none⟩=some (.map (some m)):=(tn (a:=⟨b,1,none⟩) ((P.block b Y).trans (U.o.block b Y).symm)).trans b1;have z0:C.cell? ⟨w.heap.size,0,none⟩=some (.int .u64 x.item):=(zW G 0 _ rfl).1;have z1:C.cell? ⟨w.heap.size,1,none⟩=some (.int .u64 x.rep):=(zW G 1 _ rfl).1;have z2:C.cell? ⟨w.heap.size,2,none⟩=some (.int .u64 x.ctr):=(zW G 2 _ rfl).1;have z3:C.cell? ⟨w.heap.size,3,none⟩=some (.string x.val):=(zW G 3 _ rfl).1;have y0:C.cell? ⟨w.heap.size+1,0,none⟩=some (.int .u64 y.item):=(zW M 0 _ rfl).1;have y1:C.cell? ⟨w.heap.size+1,1,none⟩=some (.int .u64 y.rep):=(zW M 1 _ rfl).1;have y2:C.cell? ⟨w.heap.size+1,2,none⟩=some (.int .u64 y.ctr):=(zW M 2 _ rfl).1;have y3:C.cell? ⟨w.heap.size+1,3,none⟩=some (.string y.val):=(zW M 3 _ rfl).1;clear E P M G x0 x1 x2 x3 q1 q2 b1;cases ok with
  | false=>
    have hn:zrZ l x.item=none:=by
     have:=af.o;cases hg:zrZ l x.item with
     |none=>rfl
     |some z=>rw[hg]at this;cases this
    obtain⟨T,r1,r2,r3⟩:=zuc (w:=C.drew) I.o HA.o c8 (y:=x) hx;dsimp only[rcv]at r1;have V:=qL r2;have X:=qL r3;clear r2 r3
    go_wp2_with fail
    go_region;all_goals
     go_wp2_with fail
     go_end0
     refine⟨⟨_,rfl⟩,?_,(Keep.of_below' H.o (Zp _)).drew.grown X.o λk e _=>dJ e.symm⟩;unfold zse;rw[hn];exact V.o
  | true=>
    have hn:zrZ l x.item=some y:=by
     have h1:=af.o;have h2:=HY.o;cases hg:zrZ l x.item with
     |none=>rw[hg]at h1;cases h1
     |some z=>rw[hg]at h2;rw[h2];rfl
    have J:=cn_bool (zvf x y) (vs:=#[.agg #[.int .u64 x.item,.int .u64 x.rep,.int .u64 x.ctr,.string x.val],.agg #[.int .u64 y.item,.int .u64 y.rep,.int .u64 y.ctr,.string y.val]]) (HG.o.keep (Keep.of_below' (S:=qe) H.o (Zp _)) λ_ _ _=>id).1 (HG.o.keep (Keep.of_below' (S:=qe) H.o (Zp _)) λ_ _ _=>id).2 rfl λj p hp=>by
     match j,hp with
     |0,hp=>cases hp;exact ztb x
     |1,hp=>cases hp;exact ztb y
     |j+2,hp=>simp at hp
    obtain⟨la,Z⟩:=xm (zs7 x y);rw[<-Z]at J;have ae:=qL J;have ad:=qL Z;clear J Z;cases la with
    | false=>
      go_wp2_with (go_at_call 87;refine ae.o.mono ?_;rintro e T ⟨rfl,A⟩;have N:=qL A;clear A)
      go_end0
      have hk:=(Keep.of_below' (S:=λk=>k=m) H.o (Zp _)).trans (Keep.of_below' N.o (Zp _));refine⟨⟨_,rfl⟩,?_,hk⟩;unfold zse;rw[hn];dsimp only;rw[<-ad.o,Vm b6];exact(I.o.keep (N.o.block m I.o.lt)).mono a8
    | true=>
      go_wp2_with (go_at_call 87;refine ae.o.mono ?_;rintro e T ⟨rfl,A⟩
                   obtain⟨w4,r1,r2,r3⟩:=zuc (w:=T.drew) (I.o.keep (A.block m I.o.lt)) HA.o c8 (y:=x) hx;dsimp only[rcv]at r1;have L:=(A.block _ a8).trans aj.o;have b3:T.cell? ⟨b,1,none⟩=some (.map (some m)):=(tn (a:=⟨b,1,none⟩) (A.block b a8)).trans ak;have v0:T.cell? ⟨w.heap.size,0,none⟩=some (.int .u64 x.item):=(zW L 0 _ rfl).1;have v1:T.cell? ⟨w.heap.size,1,none⟩=some (.int .u64 x.rep):=(zW L 1 _ rfl).1;have v2:T.cell? ⟨w.heap.size,2,none⟩=some (.int .u64 x.ctr):=(zW L 2 _ rfl).1;have v3:T.cell? ⟨w.heap.size,3,none⟩=some (.string x.val):=(zW L 3 _ rfl).1;have V:=qL r2;have X:=qL r3;have N:=qL A;clear r2 r3 A L)
      go_region;all_goals
       go_wp2_with fail
       go_end0
       have hk:=(Keep.of_below' (S:=λk=>k=m) H.o (Zp _)).trans (Keep.of_below' N.o (Zp _));refine⟨⟨_,rfl⟩,?_,hk.drew.grown X.o λk e _=>dJ e.symm⟩;unfold zse;rw[hn];dsimp only;rw[<-ad.o,vj rfl];exact V.o
end
section
open Go.RowKit
attribute [go_sem] lp
def rfc(s:Rs):List PV:=[.v (.int .u64 s.id),lp s.recs,kp s.known,.v (.int .u64 s.next),.v (.bool false)]
attribute [go_sem] rfc
def zuQ(s:Rs)(i:Nat)(w:s.recs.length<=1000000):Cn xT 18 [.cp (rfc s) 0,.v (.int .u64 i)] (.v (.int .i64 (ixR s.recs i 0))):=by
 refine zt Tryz.func18 2 ?_;refine pw ?_;refine pLoop.go (λk=>k<=s.recs.length/\ixR s.recs i 0=ixR (s.recs.drop k) i k) (λk=>[(5,.v (.int .i64 (k:Nat)))]) (λ_=>[]) (λk=>s.recs.length-k) 0 [5] ?_ ?_ ?_
 .exact⟨X3 _,rfl⟩
 .exact pd
 .rintro k ⟨hk,j⟩;refine pw ?_;refine .i ?_ ?_<;>intro h<;>(try simp only[zb]at h)<;>first|refine pw ?_|exact pd
  .rw[vD h,ixR]at j;refine pw ?_;refine .i ?_ ?_<;>intro u<;>(try simp only[zb]at u)<;>first|refine pw ?_|exact pd
   .rw[vj u]at j;rw[j]
   .rw[Vm u]at j;exact⟨k+1,⟨h,j⟩,a8,rfl⟩
  .rw[j,wA a8];rfl
def ztX(x y:Rc):Cn xT 57 [rcp x,rcp y] (.v (.bool (zs7 x y))):=by
 unfold zs7;refine zt Tryz.func57 2 ?_;refine pw ?_;refine .i ?_ ?_<;>intro h<;>(try simp only[zb]at h)<;>first|refine pw ?_|exact pd
 .simp[h]
 .refine .i ?_ ?_<;>intro j<;>(try simp only[zb]at j)<;>first|refine pw ?_|exact pd
  .simp[h,j]
  .simp[h,j]
def ztz(s:Rs)(k:List Fg)(items:List Iv)(G:s.recs.length<=1000000)(F:∀x∈s.recs,x.ctr<zk)(hi:Nrm items)(B:items.length<=1000000)(E:RightK k)(hz:QW k):Cn xT 15 [.cp (rfc s) 0,kp k,rg items] (lp (zs0 s k items)):=by
 unfold zs0;refine zt Tryz.func15 3 ?_;refine pw ?_;refine pLoop.go (λj=>j<=s.recs.length) (λj=>[(7,.sl (((s.recs.take j).filter λx=>mem items x.item && !hasK k x.item x.rep x.ctr).map rcc) (.r 44 4)),(8,.v (.int .i64 (j:Nat)))]) (λ_=>[]) (λk=>s.recs.length-k) 0 [7,8] ?_ ?_ ?_
 .exact X3 _
 .exact pd
 .rintro j hk;have C:((s.recs.take j).filter λx=>mem items x.item && !hasK k x.item x.rep x.ctr).length<=j:=V0 (WA _ _) a9;refine pw ?_;refine .i ?_ ?_<;>intro h<;>(try simp only[zb]at h)<;>first|refine pw ?_|exact pd
  .have u:s.recs.take (j+1)=s.recs.take j++[s.recs[j]]:=X4 h;have A:=F _ (Yf h);refine pw ?_;refine .c (kU items s.recs[j].item a8) ?_;refine .i ?_ ?_<;>intro w<;>(try simp only[zb]at w)<;>first|refine pw ?_|exact pd
   .refine .c (zid k s.recs[j].item s.recs[j].rep s.recs[j].ctr E A hz) ?_;refine .i ?_ ?_<;>intro y<;>(try simp only[zb]at y)<;>first|refine pw ?_|exact pd
    .refine⟨j+1,h,a8,?_,rfl⟩;rw[u,um,uA,w,y];simp;rfl
    .refine⟨j+1,h,a8,?_,rfl⟩;rw[u,um,uA,w,y];simp
   .refine⟨j+1,h,a8,?_,rfl⟩;rw[u,um,uA,w];simp
  .rw[wm a8]
def ztR(l:List Opn):Bool:=decide (l.length<=25) && l.all λo=>decide (o.val.size<=100) && decide (o.items.length<=10)
attribute [go_sem] opc
end
section
open Go.RowKit
attribute [-go_sem] z7
def zs1:∀(l:List Rc),(l.flatMap rcs).length=l.length*4
 |[]=>rfl
 |x::l=>by rw[Wg,wk,zs1 l];simp[rcs];omega
def zsZ{D:Qk}{w:World}{v:Value}{l:List Rc}(h:Dat D w v (lp l)):
 ∃a c,v=.slice a l.length c/\l.length<=c/\c<=maxLen/\(l≠[]->∃g A,a=some ⟨g,A,none⟩/\∀i u,(l.flatMap rcs)[i]?=some u->D g (A+i)/\w.cell? ⟨g,A+i,none⟩=some u):=by
 unfold lp at h;generalize L:l.map rcc=es at h;cases h with
 | sl a cap sz es o b A u hc hz hm ha hsz hd hx=>
   have M:es.length=l.length:=(by rw[<-L];simp);have g:∀i (h:i<l.length),es[i]?=some (rcc l[i]):=λi h=>(by rw[<-L];exact xo h);refine⟨a,cap,by rw[M],a8,hm,λI=>?_⟩;have F:0<l.length:=wW.2 I;obtain rfl:4=sz:=hsz 0 _ (g 0 F);have H:es≠[]:=(by intro e;subst e;simp at M;omega);refine⟨b,A,ha H,λi v B=>?_⟩;have E:=zs1 l;have hi:=(Zw.1 B).1;rw[E]at hi;have J:i/4<l.length:=a8;have e1:i=i/4*4+i%4:=a8;have K:i%4<4:=a8;rw[e1,zsD J K]at B;have C:=hd i a8;rw[e1]at C⊢;refine⟨C.1,?_⟩;rw[C.2.1];have y:∀j p,j=i%4->(rcc l[i/4])[j]?=some (.v p)->u (i/4*4+j)=p:=λj p _ N=>(hx _ _ _ _ (g _ J) N).v_inv;match G:i%4,K with
   |0,_=>rw[G]at B y;rw[y 0 _ rfl rfl];exact B
   |1,_=>rw[G]at B y;rw[y 1 _ rfl rfl];exact B
   |2,_=>rw[G]at B y;rw[y 2 _ rfl rfl];exact B
   |3,_=>rw[G]at B y;rw[y 3 _ rfl rfl];exact B
def ztV{D:Qk}{w:World}{v:Value}{l:List Opn}(h:Dat D w v (opp l)):
 ∃a c,v=.slice a l.length c/\l.length<=c/\∀j (A:j<l.length),∃g y ia B,a=some ⟨g,y,none⟩/\D g y/\w.cell? ⟨g,y+j*5,none⟩=some (.int .i64 l[j].who)/\w.cell? ⟨g,y+(j*5+1),none⟩=some (.int .i64 l[j].from_)/\w.cell? ⟨g,y+(j*5+2),none⟩=some (.int .u64 l[j].item) /\
  w.cell? ⟨g,y+(j*5+3),none⟩=some (.string l[j].val)/\w.cell? ⟨g,y+(j*5+4),none⟩=some (.slice ia l[j].items.length B)/\Dat D w (.slice ia l[j].items.length B) (rg l[j].items):=by
 unfold opp at h;generalize F:l.map opc=es at h;cases h with
 |sl a cap sz es o b y u hc hz hm ha hsz hd hx=>have G:es.length=l.length:=(by rw[<-F];simp);have g:∀i (h:i<l.length),es[i]?=some (opc l[i]):=λi h=>(by rw[<-F];exact xo h);refine⟨a,cap,by rw[G],a8,λj A=>?_⟩;obtain rfl:5=sz:=hsz 0 _ (g 0 a8);have E:es≠[]:=(by intro e;subst e;simp at G;omega);have d0:=(hx _ _ 0 _ (g j A) rfl).v_inv;have M:=(hx _ _ 1 _ (g j A) rfl).v_inv;have N:=(hx _ _ 2 _ (g j A) rfl).v_inv;have O:=(hx _ _ 3 _ (g j A) rfl).v_inv;have C:Dat D w (u (j*5+4)) (rg l[j].items):=hx _ _ 4 _ (g j A) rfl;have H:=(hd (j*5+0) a8).2.1;have I:=(hd (j*5+1) a8).2.1;have J:=(hd (j*5+2) a8).2.1;have K:=(hd (j*5+3) a8).2.1;have L:=(hd (j*5+4) a8).2.1;rw[d0]at H;rw[M]at I;rw[N]at J;rw[O]at K;obtain⟨ia,B,e4⟩:=zK C;rw[e4]at L C;exact⟨b,y,ia,B,ha E,by simpa using (hd 0 a8).1,H,I,J,K,L,C⟩
def zup{e:TypeId}{z:Value}{size A:Nat}(H:(xT.info? e).map (λi=>(i.zero,i.size,i.bytes))=some (some z,size,A))(hzs:z.cells.size=size)(O:0<size)(M:A<=40)(w:World)(t U:TypeId)(ht:xT.underlying t=some (.slice e))(base:Nat)(v:Value)(n:Nat)(V:List Value)(B:w.ownsRow base e size v n V)(J:Option Addr)(m c:Nat)(y:List Value)(hl:y.length=m*size)
 (E:(m=0/\J=none)\/∃a,J=some a/\∀j u,y[j]?=some u->w.cell? (a.add j)=some u) (h1:∀u∈y,u.oneCell'=true) (L:n+m<=17179869) (C:base<=w.heap.size) :
 ∃F I,(Builtin.append_ #[t,t] U #[v,.slice J m c]).run xT w=.ok F I/\I.ownsRow base e size F (n+m) (V++y)/\w.grownBy I v.ownBlock/\(F.ownBlock=v.ownBlock\/F.ownBlock=some w.heap.size):=by
 obtain⟨X,G,Q,S,T⟩:=tQ H;rcases E with⟨rfl,rfl⟩|⟨a,rfl,hn⟩
 .obtain rfl:y=[]:=wX.1 a8;obtain⟨K,cp,rfl,N⟩:∃K cp,v=.slice K n cp/\n<=cp:=by
   rcases B.2 with⟨rfl,rfl⟩|⟨g,Y,Z,rfl,_,_,h,_⟩
   .exact⟨none,0,rfl,Zp _⟩
   .exact⟨_,_,rfl,h⟩
  exact⟨_,w,ve w t U _ X ht G K n cp c N,dJ B,jW _ _,.inl rfl⟩
 .obtain⟨F,I,r1,r2,r3,_,r5⟩:=Ti (P:=xT) w base t U e X _ size A ht G Q S T hzs O v n V B a m c y hl hn h1 c8 (V0 (UP (V0 L (Zp 17179869)) M) a8) C;exact⟨F,I,r1,r2,r3,r5⟩
def zvQ:(xT.info? 64).map (λi=>(i.zero,i.size,i.bytes))=some (some zR,4,40):=dK
def ztc{G:Array Oper}{o:Oper}{a:Act}{w:World}{K:Act->World->Prop}{Q:Exit->Act->World->Prop}{E:Prop}(s x:Operand)(t:TypeId)(L:o.guard=none)
 (ho:o.op=.call { callee:=.builtin .append,args:=#[s,x],argTypes:=#[t,t] }) (ht:xT.underlying t=some (.slice 64)) (base:Nat) (v:Value) (n:Nat) (M:List Value) (hs:a.eval s=v) (F:w.ownsRow base 64 4 v n M)
 (I:Option Addr) (m c:Nat) (y:List Value) (X:a.eval x=.slice I m c) (T:y.length=m*4) (B:(m=0/\I=none)\/∃a,I=some a/\∀j u,y[j]?=some u->w.cell? (a.add j)=some u) (N:∀u∈y,u.oneCell'=true) (J:n+m<=17179869) (A:base<=w.heap.size)
 (h:∀C H,H.ownsRow base 64 4 C (n+m) (M++y)->w.grownBy H v.ownBlock->(C.ownBlock=v.ownBlock\/C.ownBlock=some w.heap.size)->K (a.put o.dst C) H):if Region.wanted o (yielded G a.tmps)=true then Oper.wp xT o a w K Q else E:=by
 have V:Region.wanted o (yielded G a.tmps)=true:=by simp[Region.wanted,L]
 rw[vj V];obtain⟨C,H,U,O,P,S⟩:=zup zvQ rfl b8 (Zp _) w t o.type ht base v n M F I m c y T B N J A;unfold Oper.wp execOp;simp only[ho,resolve,invoke,builtin,tG,tI,tA,ug,Wz,W7,hs,X,U];exact h C H O P S
def zvY{w:World}{base A:Nat}(j:base<=A)(h:w.heap[A]?=some (.cells #[] 64 (0,0))):w.ownsRow base 64 4 (.slice (some ⟨A,0,none⟩) 0 0) 0 []:=⟨rfl,.inr ⟨A,0,#[],rfl,j,h,Zp _,X3 _,rfl,rfl⟩⟩
def bc1{w u:World}{a:Addr}{v:Value}(h:Below w.heap.size w u)(j:w.cell? a=some v):u.cell? a=some v:=(tn (h.block _ (tq w a j))).trans j
def zvj{w:World}{base size n:Nat}{e:TypeId}{v:Value}{y:List Value}(h:w.ownsRow base e size v n y):∃a n c,v=.slice a n c:=by
 rcases h.2 with⟨h,_⟩|⟨g,j,u,h,_⟩
 .exact⟨none,0,0,h⟩
 .exact⟨_,_,_,h⟩
def ztq:∀(l:List Rc)(q:Nat),(l.drop q).flatMap rcs=(l.flatMap rcs).drop (q*4)
 |l,0=>b6
 |[],q+1=>b6
 |x::l,q+1=>by rw[wN,ztq l q,Wg,show (q+1)*4=(rcs x).length+q*4 by simp[rcs];omega,List.drop_length_add_append]
def ztr:∀(l:List Rc)(q:Nat),(l.take q).flatMap rcs=(l.flatMap rcs).take (q*4)
 |l,0=>b6
 |[],q+1=>b6
 |x::l,q+1=>by rw[wP,Wg,ztr l q,Wg,show (q+1)*4=(rcs x).length+q*4 by simp[rcs];omega,List.take_length_add_append]
def ztU{w:World}{y:Nat}{vt:TypeId}{l:List Value}(h:w.heap[y]?=some (.cells l.toArray vt (0,0))):∀j u,l[j]?=some u->w.cell? ((⟨y,0,none⟩:Addr).add j)=some u:=λj u A=>by rw[zh,wn];exact(zW h j u (dJ A)).1
def ztl:∀{l:List Rc}{x:Rc}{k:Nat}(hk:k<=l.length),(∀j (h:j<l.length),j<k->l[j].item<x.item)->(∀h:k<l.length,¬l[k].item<x.item)->zr4 l x=l.take k++([x]++if h:k<l.length then (if l[k].item=x.item then l.drop (k+1) else l.drop k) else [])
 |[],x,k,hk,_,_=>by obtain rfl:k=0:=(dJ hk);rfl
 | y::l,x,0,_,_,h2=>by
   have:=h2 b6;simp only[ux]at this;rw[zr4,Vm this];by_cases e:y.item=x.item<;>simp[e]
 |y::l,x,k+1,hk,h1,h2=>by have u:=h1 0 b6 a8;simp only[ux]at u;rw[zr4,vj u,ztl (l:=l) (x:=x) (k:=k) (dJ hk) (λj w A=>h1 (j+1) (dJ w) a8) (λh=>h2 (dJ h))];simp
end
section
open Go.RowKit
def zp1(s:ByteArray)(c k:Int)(w:World)(E:HG w):Calls xT 36 #[.iface 127 (.agg #[.string s,.iface 96 (.agg #[.int .i64 c,.int .i64 k])]),.iface 154 (.pointer (some ⟨w.heap.size+1,0,none⟩))] ((w.alloc z2).alloc z2)
 λev j=>ev=.returned (.bool true)/\Below (w.heap.size+1) (w.alloc z2) j/\j.cell? ⟨w.heap.size+1,0,none⟩=some (.int .i64 c)/\j.cell? ⟨w.heap.size+1,1,none⟩=some (.int .i64 k):=by
 have y:∀o,o<2->((w.alloc z2).alloc z2).cell? ⟨w.heap.size+1,o,none⟩=some (.int .i64 0):=λo ho=>by
  have:w.heap.size+1=(w.alloc z2).heap.size:=b6;rw[this];unfold z2;match o,ho with
  |0,_=>simp
  |1,_=>simp
 have A:∀o,o<2->((w.alloc z2).alloc z2).frozen? ⟨w.heap.size+1,o,none⟩=false:=λo ho=>by
  have:w.heap.size+1=(w.alloc z2).heap.size:=b6;rw[this];unfold z2;match o,ho with
  |0,_=>simp
  |1,_=>simp
 refine(zqg s c k (w.heap.size+1) _ ((E.alloc _).alloc _) (y 0 a8) (y 1 a8) (A 0 a8) (A 1 a8)).mono ?_;rintro ev j ⟨rfl,hk,B,C⟩;refine⟨rfl,?_,B,C⟩;have u:Keep (λb=>b=w.heap.size+1) (w.alloc z2) j:=((Keep.refl _ (w.alloc z2)).alloc z2).trans hk;exact u.below b6 λq F e=>a8
def zqT(s:ByteArray)(c k:Int)(w:World)(H:HG w):Calls xT 37 #[.iface 127 (.agg #[.string s,.iface 96 (.agg #[.int .i64 c,.int .i64 k])])] w λe I=>e=.returned (.tuple #[.agg #[.int .i64 c,.int .i64 k],.bool true])/\Below w.heap.size w I:=by
 go_enter Tryz.func37,Tryz.ntmps37
 go_wp2_with (go_at_call 36;refine(zp1 s c k w H).mono ?_;rintro e j ⟨rfl,hb,C,E⟩;have y:j.cell? ⟨w.heap.size,0,none⟩=some (.int .i64 0):=(hb.cell (p:=⟨w.heap.size,0,none⟩) b6).trans (by unfold z2;simp);have A:j.cell? ⟨w.heap.size,1,none⟩=some (.int .i64 0):=(hb.cell (p:=⟨w.heap.size,1,none⟩) b6).trans (by unfold z2;simp);have F:j.frozen? ⟨w.heap.size,0,none⟩=false:=(hb.frozen (p:=⟨w.heap.size,0,none⟩) b6).trans (by unfold z2;simp);have G:j.frozen? ⟨w.heap.size,1,none⟩=false:=(hb.frozen (p:=⟨w.heap.size,1,none⟩) b6).trans (by unfold z2;simp);have u:Below w.heap.size w j:=((tu _ w).alloc (Zp _) _).trans (hb.mono a8))
 have B:(j.setCell ⟨w.heap.size,0,none⟩ (.int .i64 c)).cell? ⟨w.heap.size,0,none⟩=some (.int .i64 c):=tV _ _ _ y;have e1:((j.setCell ⟨w.heap.size,0,none⟩ (.int .i64 c)).setCell ⟨w.heap.size,1,none⟩ (.int .i64 k)).cell? ⟨w.heap.size,1,none⟩=some (.int .i64 k):=World.cell?_setCell_same' _ _ _ (by rw[Tz _ _ _ _ b6,A];rfl);refine tz (v:=.tuple #[.agg #[.int .i64 c,.int .i64 k],.bool true]) (by simp[results,Tryz.results37,go_sem,B,e1,Result.andThen]) rfl ⟨rfl,?_⟩;exact tX (tX u b6 _) b6 _
def zpW(s:ByteArray)(x:Nat×Int)(u:x.1≠0):Cn xT 11 [zou s x] (.v (.int .i64 x.1)):=by unfold zou;rw[zmb u];refine KK rfl (enters_of Tryz.func11 dK rfl) λD w C A B j y=>?_;have d0:=zo1 (y 0 _ rfl);rw[zjw j,d0];refine(zqS s x.1 x.2 w A).mono ?_;rintro e E ⟨rfl,hb⟩;exact⟨_,rfl,hb,.v _⟩
def zqA(s:ByteArray)(x:Nat×Int)(A:x.1≠0):Cn xT 37 [zou s x] (.tup [.agg [.v (.int .i64 x.1),.v (.int .i64 x.2)],.v (.bool true)]):=by
 unfold zou;rw[zmb A];refine KK rfl (enters_of Tryz.func37 dK rfl) λD w F C E y B=>?_;have d0:=zo1 (B 0 _ rfl);rw[zjw y,d0];refine(zqT s x.1 x.2 w C).mono ?_;rintro e G ⟨rfl,hb⟩;refine⟨_,rfl,hb,.tup _ _ rfl λj p u=>?_⟩;match j,u with
 |0,u=>cases u;exact znT (.v _) (.v _) rfl rfl
 |1,u=>cases u;exact .v _
 |j+2,u=>simp at u
def zrc(s:ByteArray)(x:Nat×Int)(j:x.1≠0):Cn xT 12 [zou s x] (.v (.int .i64 x.2)):=by refine zt Tryz.func12 1 ?_;refine pw ?_;exact .d (zqA s x j)
def zqK(s:ByteArray)(x:Nat×Int)(j:x.1≠0):Cn xT 28 [.v (.string s),jS x.1 x.2] (zou s x):=by
 unfold zou;rw[zmb j];refine zt Tryz.func28 2 ?_;refine pw ?_;first|trivial|rfl|(unfold qv;rfl)|(simp[qv];done)
def ztT(k:List Fg)(items:List Iv)(x:Rc)(hi:Nrm items)(j:items.length<=1152921504606846976)(w:RightK k)(u:x.ctr<zk)(hz:QW k):Cn xT 32 [rcp x,.cp [rg items] 0,.cp [kp k] 0] (.v (.bool (mem items x.item && !hasK k x.item x.rep x.ctr))):=by
 refine zt Tryz.func32 3 ?_;refine pw ?_;refine .c (ziQ items x.item hi j) ?_;refine .i ?_ ?_<;>intro h<;>(try simp only[zb]at h)<;>first|refine pw ?_|exact pd
 .refine .c (zoW k x.item x.rep x.ctr w u hz) ?_;simp[h]
 .simp[h]
def zur(s:Iv)(x:Nat)(j:s.lo<=s.hi)(u:s.hi<zk)(w:x<zk):Cn xT 47 [Je s,.v (.int .u64 x)] (.v (.bool (decide (s.lo<=x) && decide (x<=s.hi)))):=by refine zt Tryz.func47 2 ?_;refine pw ?_;have:=zw;rw[WC];simp only[Vq,wG];omega
def zvM(s:Iv)(x:Rc)(j:s.lo<=s.hi)(u:s.hi<zk)(w:x.item<zk):Cn xT 46 [Je s,.cp (rcc x) 0] (.v (.bool (decide (s.lo<=x.item) && decide (x.item<=s.hi)))):=by refine zt Tryz.func46 2 ?_;refine pw ?_;exact .d (zur s x.item j u w)
def ixH(x:Nat):Nat->List Iv->Int
 |_,[] =>-1
 |n,s::l=>if (decide (s.lo<=x) && decide (x<=s.hi))=true then n else ixH x (n+1) l
def zt5(x:Nat):∀(n:Nat)(l:List Iv),(0<=ixH x n l)↔mem l x=true
 |n,[]=>by simp[ixH,mem]
 | n,s::l=>by
   unfold ixH;have:=zt5 x (n+1) l;by_cases h:(decide (s.lo<=x) && decide (x<=s.hi))=true
   .rw[vj h];simp only[mem,uq,h,Bool.true_or,iff_true];omega
   .rw[Vm h,this];simp only[mem,uq];rw[UA]at h;rw[h,uz]
def zvc(l:List Iv)(x:Rc)(hb:∀s∈l,s.lo<=s.hi/\s.hi<zk)(w:x.item<zk)(y:l.length<=1152921504606846976):Cn xT 78 [rg l,.fn (.func 46) [] [.cp (rcc x) 0]] (.v (.int .i64 (ixH x.item 0 l))):=by
 refine zt Tryz.func78 2 ?_;refine pw ?_;refine pLoop.go (λk=>k<=l.length/\ixH x.item 0 l=ixH x.item k (l.drop k)) (λk=>[(8,.v (.int .i64 (k:Nat)))]) (λ_=>[]) (λk=>l.length-k) 0 [8] ?_ ?_ ?_
 .exact⟨X3 _,rfl⟩
 .exact pd
 .rintro k ⟨hk,j⟩;refine pw ?_;refine .i ?_ ?_<;>intro h<;>(try simp only[zb]at h)<;>first|refine pw ?_|exact pd
  .rw[vD h,ixH]at j;refine pw ?_;have hs:=hb _ (Yf h);refine .rd (zvM l[k] x hs.1 hs.2 w) rfl ?_;by_cases u:(decide (l[k].lo<=x.item) && decide (x.item<=l[k].hi))=true
   .rw[vj u]at j;rw[u,j];exact pd
   .rw[Vm u]at j;simp only[UA]at u;rw[u];refine pw ?_;exact⟨k+1,⟨h,j⟩,a8,rfl⟩
  .rw[j,wA a8];rfl
def ztQ(l:List Iv)(x:Rc)(hb:∀s∈l,s.lo<=s.hi/\s.hi<zk)(u:x.item<zk)(j:l.length<=1152921504606846976):Cn xT 45 [rg l,.fn (.func 46) [] [.cp (rcc x) 0]] (.v (.bool (mem l x.item))):=by refine zt Tryz.func45 2 ?_;refine pw ?_;refine .c (zvc l x hb u j) ?_;rw[WC,wG,zt5]
def ztW(l:List Iv)(x:Rc)(hb:∀s∈l,s.lo<=s.hi/\s.hi<zk)(u:x.item<zk)(j:l.length<=1152921504606846976):Cn xT 44 [rcp x,.cp [rg l] 0] (.v (.bool (mem l x.item))):=by refine zt Tryz.func44 2 ?_;refine pw ?_;exact .d (ztQ l x hb u j)
end
section
open Go.RowKit
attribute [-go_sem] z7
def zsI{f:FuncId}{A:List PV}{x:Value}(E:Cn xT f A (.v x)){D:Qk}{w:World}{vs:Array Value}(B:Gd D w)(y:vs.size=A.length)(j:∀(i:Nat) p,A[i]?=some p->Dat D w (vs.getD i undef) p):Calls xT f vs w λe C=>e=.returned x/\Below w.heap.size w C:=by refine(jP E B.1 B.2 y j).mono ?_;rintro e C ⟨u,rfl,hb,j⟩;rw[(Rel.dat (ρ:=λ_=>0) (nb:=0) j).v_inv];exact⟨rfl,hb⟩
def ztx{D:Qk}{w:World}{b:Nat}{v:Value}{p:PV}{t:TypeId}(h:w.heap[b]?=some (.cells #[v] t (0,0)))(A:D b 0)(y:v.oneCell'=true)(B:Dat D w v p):Dat D w (.pointer (some ⟨b,0,none⟩)) (.cp [p] 0):=
 .cp b 0 [p] 0 (λ_=>v) (λj C=>by
  obtain rfl:j=0:=(dJ C);exact⟨A,(zW h 0 _ rfl).1,y⟩) λj q u=>by
  match j,u with
  |0,u=>cases u;exact B
def zum{C:Nat->List Nat}{R E I:List Nat}{n t b m:Nat}{D:Qk}{w:World}{s:Rs}{items:List Iv}{ia:Option Addr}{O:Nat}(e:Env25 C R E I)(h:Ok25 C R E I n s)(Z:Rpl D t w b m s)(Y:Gd D w)(hi:∀s∈items,s.lo<=s.hi/\s.hi<zk)(ab:items.length<=1000000)(d:Dat D w (.slice ia items.length O) (rg items)):
 Calls xT 16 #[.pointer (some ⟨b,0,none⟩),.slice ia items.length O] w λe X=>∃a c,e=.returned (.slice a (s.recs.filter λx=>mem items x.item).length c)/\Below w.heap.size w X/\Dat (Nw D w X) X (.slice a (s.recs.filter λx=>mem items x.item).length c) (lp (s.recs.filter λx=>mem items x.item)):=by
 obtain⟨y,u⟩:=xm (w.alloc (.cells #[.slice ia items.length O] 26));have A:Below w.heap.size w y:=by rw[u];exact(tu _ w).alloc (Zp _) _
 have ac:y.heap.size=w.heap.size+1:=by rw[u];exact tw _ _
 have N:y.heap[w.heap.size]?=some (.cells #[.slice ia items.length O] 26 (0,0)):=by rw[u];exact tp w _
 have B:Keep qe w y:=Keep.of_below' A (Zp _);have H:Rpl D t y b m s:=Z.keep B id id λb o h=>⟨h,id⟩;have L:=ztO (q:=λx=>mem items x.item) (f := 44) (cap:=#[.pointer (some ⟨w.heap.size,0,none⟩)]) H h.a (by have:=h.len e;omega) (λx M=>(e.m _ (h.x x M).1).1) (enters_of Tryz.func44 dK rfl) λx M W T=>by
  have J:Keep qe w W:=B.trans (Keep.of_below' T (Zp _));have G:Gd (Nw D w y) W:=(by have S:=Y.keep J λ_ _ _=>id;refine⟨S.1.mono (λ_ _ h=>.inl h) λ_ _ _ _ h=>h,λb o h=>h.elim (S.2 b o) λh=>vw h.2 T.size⟩);have V:Dat (Nw D w y) W (.slice ia items.length O) (rg items):=d.mono (λ_ _ h=>.inl h) λb o x hd M=>J.cell_some M id;refine cn_bool (ztW items x hi (e.m _ (h.x x M).1).1 a8) G.1 G.2 rfl λj p F=>?_;match j,F with
  |0,F=>cases F;exact ztb x
  |1,F=>cases F;exact ztx ((T.block _ a8).trans N) (.inr ⟨Zp _,a8⟩) rfl V
  |j+2,F=>simp at F
 have Q:=qL L;have P:=qL A;clear L H N A Z Y d B;go_enter Tryz.func16,Tryz.ntmps16
 go_wp2_with (go_at_call 31;rw[<-u];refine Q.o.mono ?_;rintro e w2 ⟨v,rfl,U,K⟩;obtain⟨a2,c2,rfl⟩:=K.val)
 go_ret;exact⟨_,_,rfl,P.o.trans (U.mono a8),K.dat λb o S h2=>.inr ⟨a8,h2⟩⟩
def bc0{w u:World}{a:Addr}{v:Value}(h:Below w.heap.size w u)(j:w.cell? a=some v):u.cell? a=some v:=(tn (h.block _ (tq w a j))).trans j
def zt3{D:Qk}{w:World}{v:Value}{c k:Int}(h:Dat D w v (.ifc 96 (.agg [.v (.int .i64 c),.v (.int .i64 k)]))):v=.iface 96 (.agg #[.int .i64 c,.int .i64 k]):=by
 cases h with
 | ifc t x p h=>
   cases h with
   | agg vs cs hs h1 h=>
     have j:=(Rel.dat (ρ:=λ_=>0) (nb:=0) (h 0 _ rfl)).v_inv;have u:=(Rel.dat (ρ:=λ_=>0) (nb:=0) (h 1 _ rfl)).v_inv;obtain⟨l⟩:=vs;match l,hs with
     |[p,q],_=>simp at j u;rw[j,u]
def Ke.zz{C:Nat->List Nat}{R E I:List Nat}{k:List Fg}(h:Ke C R E k)(e:Env25 C R E I):QW k:=h.kn.z (by have:=e.e;omega)
def ztv{k:List Fg}(u:RightK k)(hz:QW k):Cn xT 27 [kp k] (.v .nilIface):=by have j:BdK k:=BdK.of u hz;have:=Vh k j hz;rw[yk ((ZN j).2 u)]at this;exact this
def OwnL.base{e:TypeId}{b j:Nat}{w:World}{v:Value}{l:List Rc}(h:OwnL e b w v l)(hb:j<=b):OwnL e j w v l:=⟨h.1,h.2.imp id λ⟨g,cap,cur,q1,q2,q3⟩=>⟨g,cap,cur,q1,V0 hb q2,q3⟩⟩
def zul{C:Nat->List Nat}{R E I:List Nat}{n t b m:Nat}{D:Qk}{w:World}{s:Rs}{k:List Fg}{items:List Iv}{ka ia:Option Addr}{T S:Nat}(e:Env25 C R E I)(h:Ok25 C R E I n s)(hn:n<=26)(hR:Rpl D t w b m s)(hG:Gd D w)(hr:RightK k)(hz:QW k)(dk:Dat D w (.slice ka k.length T) (kp k))(hi:Nrm items)(ah:items.length<=1000)(d:Dat D w (.slice ia items.length S) (rg items)):
 Calls xT 9 #[.pointer (some ⟨b,0,none⟩),.slice ka k.length T,.slice ia items.length S] w λe U=>∃a c,e=.returned (.tuple #[.slice a (zs0 s k items).length c,.nilIface])/\Below w.heap.size w U/\OwnL 60 w.heap.size U (.slice a (zs0 s k items).length c) (zs0 s k items):=by
 obtain⟨y,G⟩:=xm ((w.alloc (.cells #[.slice ka k.length T] 24)).alloc (.cells #[.slice ia items.length S] 26));have M:Below w.heap.size w y:=by rw[G];exact((tu _ w).alloc (Zp _) _).alloc b6 _
 have ai:y.heap.size=w.heap.size+2:=by rw[G];simp
 have Q:y.heap[w.heap.size]?=some (.cells #[.slice ka k.length T] 24 (0,0)):=by rw[G];exact Te _ _ _
 have K:y.heap[w.heap.size+1]?=some (.cells #[.slice ia items.length S] 26 (0,0)):=by rw[G];exact TB _ _ _
 have A:∀W,Below y.heap.size y W->Gd (Nw D w y) W/\Dat (Nw D w y) W (.slice ka k.length T) (kp k)/\Dat (Nw D w y) W (.slice ia items.length S) (rg items)/\Rpl D t W b m s:=λW H=>by have J:Keep qe w W:=(Keep.of_below' M (Zp _)).trans (Keep.of_below' H (Zp _));have h1:=hG.keep J λ_ _ _=>id;exact⟨⟨h1.1.mono (λ_ _ h=>.inl h) λ_ _ _ _ h=>h,λb o h=>h.elim (h1.2 b o) λh=>vw h.2 H.size⟩,dk.mono (λ_ _ h=>.inl h) λb o x hd P=>J.cell_some P id,d.mono (λ_ _ h=>.inl h) λb o x hd P=>J.cell_some P id,hR.keep J id id λb o h=>⟨h,id⟩⟩
 have hM:=zw;have V:=λW H=>zsI (ztv hr hz) (A W H).1 (vs:=#[.slice ka k.length T]) rfl λj p u=>by
  match j,u with
  |0,u=>cases u;exact(A W H).2.1
  |j+1,u=>simp at u
 have Y:=λW H=>zsI (zpJ items hi a8) (A W H).1 (vs:=#[.slice ia items.length S]) rfl λj p u=>by
  match j,u with
  |0,u=>cases u;exact(A W H).2.2.1
  |j+1,u=>simp at u
 have Z:∀L,Below y.heap.size y L->Calls xT 31 #[.pointer (some ⟨b,0,none⟩),.func (.func 32) #[] #[.pointer (some ⟨w.heap.size+1,0,none⟩),.pointer (some ⟨w.heap.size,0,none⟩)]] L λe U=>∃v,e=.returned v/\Below L.heap.size L U/\OwnL 60 L.heap.size U v (zs0 s k items):=λL O=>
  ztO (q:=λx=>mem items x.item && !hasK k x.item x.rep x.ctr) (A L O).2.2.2 h.a (by have:=h.len e;omega) (λx P=>(e.m _ (h.x x P).1).1) (enters_of Tryz.func32 dK rfl) λx P W H=>by
   have N:=O.trans (H.mono O.size);obtain⟨g1,g2,g3,_⟩:=A W N;refine cn_bool (ztT k items x hi a8 hr (by have:=h.x x P;omega) hz) g1.1 g1.2 rfl λj p u=>?_;match j,u with
   |0,u=>cases u;exact ztb x
   |1,u=>cases u;exact ztx ((N.block _ a8).trans K) (.inr ⟨a8,a8⟩) rfl g3
   |2,u=>cases u;exact ztx ((N.block _ a8).trans Q) (.inr ⟨a8,a8⟩) rfl g2
   |j+3,u=>simp at u
 have c0:y.cell? ⟨w.heap.size,0,none⟩=some (.slice ka k.length T):=(zW Q 0 _ rfl).1;have c1:y.cell? ⟨w.heap.size+1,0,none⟩=some (.slice ia items.length S):=(zW K 0 _ rfl).1;have HX:=qL K;have ac:=qL V;have ad:=qL Y;have ae:=qL Z;have ab:=qL M;clear A V Y Z Q K M hR hG dk d h hr hz;go_enter Tryz.func9,Tryz.ntmps9
 go_wp2_with (first
  |(go_at_call 27;rw[<-G];refine(ac.o y (tu _ _)).mono ?_;rintro e w2 ⟨rfl,F⟩;have d0:=bc0 F c0;have d1:=bc0 F c1)
  |(go_at_call 29;refine(ad.o _ F).mono ?_;rintro e w3 ⟨rfl,af⟩;have B:=F.trans (af.mono F.size);have d3:=bc0 B c0;have d4:=bc0 B c1)
  |(go_at_call 30;refine(As.Is_nil _ _).mono ?_;rintro e U ⟨rfl,rfl⟩)
  |(go_at_call 31;refine(ae.o _ B).mono ?_;rintro e w5 ⟨v,rfl,ag,X⟩;obtain⟨a5,c5,rfl⟩:=X.val))
 refine tz (Tj rfl _ _ _) rfl ?_;exact⟨_,_,rfl,ab.o.trans ((B.mono a8).trans (ag.mono (by have:=B.size;omega))),X.base (by have:=B.size;omega)⟩
def zvu{c d:Prop}[Decidable c][Decidable d]{x:Nat×Int}{i:Int}(ih:x.1≠0->x.1=2\/x.1=3)(h:(if c then (if d then x else (3,i)) else (2,i)).1≠0):(if c then (if d then x else (3,i)) else (2,i)).1=2\/(if c then (if d then x else (3,i)) else (2,i)).1=3:=by
 by_cases j:c
 .rw[vj j]at h⊢;by_cases u:d
  .rw[vj u]at h⊢;exact ih h
  .rw[Vm u];exact .inr rfl
 .rw[Vm j];exact .inl rfl
def zth:∀(l:List Iv)(p:Option Iv)(i:Nat),(QZ p l i).1≠0->(QZ p l i).1=2\/(QZ p l i).1=3
 |[],p,i,h=>absurd (by simp[QZ]) h
 |s::l,p,i,h=>zvu (zth l (some s) (i+1)) h
def zvL{f:FuncId}{A:List PV}{c k:Int}(E:Cn xT f A (.ifc 96 (.agg [.v (.int .i64 c),.v (.int .i64 k)]))){D:Qk}{w:World}{vs:Array Value}(B:Gd D w)(y:vs.size=A.length)(j:∀(i:Nat) p,A[i]?=some p->Dat D w (vs.getD i undef) p):Calls xT f vs w λe C=>e=.returned (.iface 96 (.agg #[.int .i64 c,.int .i64 k]))/\Below w.heap.size w C:=by refine(jP E B.1 B.2 y j).mono ?_;rintro e C ⟨u,rfl,hb,j⟩;rw[zt3 j];exact⟨rfl,hb⟩
def sRp:ByteArray:=⟨#[114,101,112,108,105,99,97]⟩
def erV(x:Nat×Int):Value:=.iface 127 (.agg #[.string sRp,.iface 96 (.agg #[.int .i64 x.1,.int .i64 x.2])])
def zu7{D:Qk}{w:World}{v:Value}{x:Nat×Int}(y:x.1≠0)(h:Dat D w v (zou sRp x)):v=erV x:=by
 unfold zou at h;rw[zmb y]at h;cases h with
 | ifc t x p h=>
   cases h with
   | agg vs cs hs h1 h=>
     have j:=(Rel.dat (ρ:=λ_=>0) (nb:=0) (h 0 _ rfl)).v_inv;have u:=zt3 (h 1 _ rfl);obtain⟨l⟩:=vs;match l,hs with
     |[p,q],_=>simp at j u;rw[j,u];rfl
def ztI{D:Qk}{w:World}{b:Nat}{k:List Fg}{items:List Iv}{ka ia:Option Addr}{Q P:Nat}(hG:Gd D w)(hr:RightK k)(hz:QW k)(dk:Dat D w (.slice ka k.length Q) (kp k))(hi:∀s∈items,s.lo<zk/\s.hi<zk)(U:(Zl items).1≠0)(ag:items.length<=1000000)(d:Dat D w (.slice ia items.length P) (rg items)):
 Calls xT 9 #[.pointer (some ⟨b,0,none⟩),.slice ka k.length Q,.slice ia items.length P] w λe Z=>e=.returned (.tuple #[.slice none 0 0,erV (Zl items)])/\Below w.heap.size w Z:=by
 obtain⟨C,F⟩:=xm ((w.alloc (.cells #[.slice ka k.length Q] 24)).alloc (.cells #[.slice ia items.length P] 26));have J:Below w.heap.size w C:=by rw[F];exact((tu _ w).alloc (Zp _) _).alloc b6 _
 have ah:C.heap.size=w.heap.size+2:=by rw[F];simp
 have X:C.heap[w.heap.size]?=some (.cells #[.slice ka k.length Q] 24 (0,0)):=by rw[F];exact Te _ _ _
 have Y:C.heap[w.heap.size+1]?=some (.cells #[.slice ia items.length P] 26 (0,0)):=by rw[F];exact TB _ _ _
 have A:∀W,Below C.heap.size C W->Gd D W/\Dat D W (.slice ka k.length Q) (kp k)/\Dat D W (.slice ia items.length P) (rg items):=λW G=>by have K:Keep qe w W:=(Keep.of_below' J (Zp _)).trans (Keep.of_below' G (Zp _));exact⟨hG.keep K λ_ _ _=>id,dk.mono (λ_ _ h=>h) λb o x hd I=>K.cell_some I id,d.mono (λ_ _ h=>h) λb o x hd I=>K.cell_some I id⟩
 have V:=λW G=>zsI (ztv hr hz) (A W G).1 (vs:=#[.slice ka k.length Q]) rfl λj p y=>by
  match j,y with
  |0,y=>cases y;exact(A W G).2.1
  |j+1,y=>simp at y
 have L:=rcheck_c items hi a8 (.inr (KL 2));have N:=zqK sRp (Zl items) U;rw[zmb U]at L N;have M:=λW G=>zvL L (A W G).1 (vs:=#[.slice ia items.length P]) rfl λj p y=>by
  match j,y with
  |0,y=>cases y;exact(A W G).2.2
  |j+1,y=>simp at y
 have O:∀W,Below C.heap.size C W->Calls xT 28 #[.string sRp,.iface 96 (.agg #[.int .i64 (Zl items).1,.int .i64 (Zl items).2])] W λe Z=>e=.returned (erV (Zl items))/\Below W.heap.size W Z:=λW G=>by
  refine(jP N (A W G).1.1 (A W G).1.2 rfl λj p y=>?_).mono ?_
  .match j,y with
   |0,y=>cases y;exact .v _
   |1,y=>cases y;exact .ifc _ _ _ (znT (.v _) (.v _) rfl rfl)
   |j+2,y=>simp at y
  .rintro e Z ⟨u,rfl,hb,hd⟩;rw[zu7 U hd];exact⟨rfl,hb⟩
 have c0:C.cell? ⟨w.heap.size,0,none⟩=some (.slice ka k.length Q):=(zW X 0 _ rfl).1;have c1:C.cell? ⟨w.heap.size+1,0,none⟩=some (.slice ia items.length P):=(zW Y 0 _ rfl).1;have H:=zth items none 0 U;obtain⟨x,I⟩:=xm (Zl items);rw[<-I]at M O;rw[<-I];replace H:x.1=2\/x.1=3:=by rw[I];exact H
 have ac:=qL V;have S:=qL M;have T:=qL O;have ab:=qL J;clear A V M O X Y J hG dk d hr hz L N hi U I;obtain⟨c,p⟩:=x;dsimp only at H S T;rcases H with rfl|rfl;all_goals
  go_enter Tryz.func9,Tryz.ntmps9
  go_wp2_with (first
   |(go_at_call 27;rw[<-F];refine(ac.o C (tu _ _)).mono ?_;rintro e w2 ⟨rfl,E⟩;have d0:=bc0 E c0;have d1:=bc0 E c1)
   |(go_at_call 29;refine(S.o _ E).mono ?_;rintro e w3 ⟨rfl,ad⟩;have B:=E.trans (ad.mono E.size))
   |(go_at_call 30;refine(As.Is_FN _ _ _ _).mono ?_;rintro e Z ⟨rfl,ae⟩;replace B:=B.trans (ae.mono B.size))
   |(go_at_call 28;refine(T.o _ B).mono ?_;rintro e w6 ⟨rfl,af⟩))
  refine tz (Tj rfl _ _ _) rfl ?_;exact⟨rfl,ab.o.trans ((B.mono a8).trans (af.mono (by have:=B.size;omega)))⟩
end
section
open Go.RowKit
def zsV(x:Int):Nat:=((x%18446744073709551616)%3).toNat
def zs5(x:Int):zsV x<3:=by unfold zsV;omega
def ztC(S:Nat->Rs)(i:Nat)(s:Rs):Nat->Rs:=λk=>if k=i then s else S k
noncomputable def zsY (S:Nat->Rs) (o:Opn):Nat->Rs:=
 if o.items.length=0 then ztC S (zsV o.who) (ztM (S (zsV o.who)) o.item o.val)
 else if (Zl o.items).1=0 then ztC S (zsV o.who) (ztt (S (zsV o.who)) (S (zsV o.from_)) o.items) else S
def S0:Nat->Rs:=λi=>⟨10*i,[],[],0⟩
def OkS(C:Nat->List Nat)(R E I:List Nat)(n:Nat)(S:Nat->Rs):Prop:=∀i,i<3->Ok25 C R E I n (S i)
def OpE(E I:List Nat)(o:Opn):Prop:=(∀s∈o.items,s.lo<zk/\s.hi<zk)/\o.val.size<=100/\o.items.length<=10/\o.item∈I/\∀x∈z6 o.items,x∈E
section
variable {C:Nat->List Nat}{R E I:List Nat}{n:Nat}{S:Nat->Rs}{o:Opn}
def OpE.ed(h:OpE E I o)(u:(Zl o.items).1=0):Nrm o.items/\∀x,Ed o.items x->x∈E:=by have j:Nrm o.items:=(YT λs hs=>(h.1 s hs).2).1 u;refine⟨j,λx w=>?_⟩;exact h.2.2.2.2 x (Y3 (j.ivs2) w)
def OkS.mono{m:Nat}(h:OkS C R E I n S)(j:n<=m):OkS C R E I m S:=λi hi=>(h i hi).mono j
def OkS.upd{m:Nat}{j:Nat}{s:Rs}(h:OkS C R E I n S)(u:n<=m)(hs:Ok25 C R E I m s):OkS C R E I m (ztC S j s):=λi hi=>by
 unfold ztC;split
 .exact hs
 .exact(h i hi).mono u
def OkS.step(h:OkS C R E I n S)(e:Env25 C R E I)(ho:OpE E I o)(w:n<=25):OkS C R E I (n+1) (zsY S o):=by
 have j:=h _ (zs5 o.who);have u:=h _ (zs5 o.from_);unfold zsY;split
 .exact h.upd a8 (j.put e ho.2.2.2.1 ho.2.1 w)
 .split
  .rename_i hc;exact h.upd a8 ((j.pull u e (ho.ed hc).1 (ho.ed hc).2 ho.2.2.1).mono a8)
  .exact h.mono a8
end
def zwf{C:Nat->List Nat}{R E I:List Nat}(j:∀i,i<3->10*i∈R):OkS C R E I 0 S0:=λi hi=>
 ⟨Ke.nil,List.Pairwise.nil,λx u=>by simp[S0]at u,Zp _,by unfold S0;have:=zw;dsimp only;omega,j i hi⟩
def edO(l:List Opn):List Nat:=0::l.flatMap λo=>o.item::(o.item+1)::z6 o.items
def zt4:∀(l:List Opn),(∀o∈l,o.items.length<=10)->(edO l).length<=1+l.length*22
 |[],_=>by simp[edO]
 |o::l,h=>by have j:=zt4 l λx u=>h x (by simp[u]);have w:=h o b6;have y:=vq o.items;simp only[edO,wy,Wg,wk]at j⊢;omega
def ztG{l:List Opn}(h:ztR l=true):l.length<=25/\∀o∈l,o.val.size<=100/\o.items.length<=10:=by simp[ztR]at h;exact h
def zu9{l:List Opn}(h:ztR l=true)(hb:∀o∈l,BdO o):Env25 (λ_=>List.range 27) [0,10,20] (edO l) (l.map Opn.item)/\∀o∈l,OpE (edO l) (l.map Opn.item) o:=by obtain⟨y,w⟩:=ztG h;have A:=zt4 l λo ho=>(w o ho).2;have j:∀o∈l,∀x∈o.item::(o.item+1)::z6 o.items,x∈edO l:=λo ho x u=>Wo _ (uk.2 ⟨o,ho,u⟩);refine⟨⟨⟨λr=>b6,b6⟩,λr x u=>a9,by simp[edO],a8,dJ y,λi hi=>?_⟩,λo ho=>⟨(hb o ho).2.2.2.1,(w o ho).1,(w o ho).2,List.mem_map_of_mem ho,λx u=>j o ho x (by simp[u])⟩⟩;obtain⟨o,ho,rfl⟩:=wC.1 hi;exact⟨(hb o ho).2.1,j o ho _ b6,λ_=>j o ho _ b6⟩
end
section
open Go.RowKit
attribute [-go_sem] z7
def smO(o:Opn):Bool:=decide (o.val.size<=100) && decide (o.items.length<=10)
def zwj{D:Qk}{w:World}{l:List Opn}{ia:Option Addr}{ic:Nat}(hd:Dat D w (.slice ia l.length ic) (opp l))(ac:l.length<=9223372036854775807)(O:∀o∈l,o.val.size<=maxLen/\o.items.length<=9223372036854775807):
 Calls xT 5 #[.slice ia l.length ic] w λe w'=>e=.returned (.bool (ztR l))/\Below w.heap.size w w':=by
 obtain⟨a,c,ev,hc,B⟩:=ztV hd;obtain⟨rfl,rfl⟩:ia=a/\ic=c:=dJ ev
 obtain⟨n,Q⟩:=xm (l.length);have M:∀W,Below w.heap.size w W->∀j,j<n->∃o∈l,o=l.getD j default/\∃g u S T,ia=some ⟨g,u,none⟩/\W.cell? ⟨g,u+j*5,none⟩=some (.int .i64 o.who)/\W.cell? ⟨g,u+j*5+1,none⟩=some (.int .i64 o.from_)/\W.cell? ⟨g,u+j*5+2,none⟩=some (.int .u64 o.item) /\
  W.cell? ⟨g,u+j*5+3,none⟩=some (.string o.val)/\W.cell? ⟨g,u+j*5+4,none⟩=some (.slice S o.items.length T):=λW L j hj=>by
  have A:j<l.length:=a8;obtain⟨g,u,S,T,h1,_,h2,h3,h4,h5,h6,_⟩:=B j A;refine⟨l[j],Yf A,by rw[Q9,Zv A];rfl,g,u,S,T,h1,bc0 L h2,?_,?_,?_,?_⟩
  .rw[Wr];exact bc0 L h3
  .rw[Wr];exact bc0 L h4
  .rw[Wr];exact bc0 L h5
  .rw[Wr];exact bc0 L h6
 have N:ztR l=(decide (n<=25) && l.all smO):=by rw[Q];rfl
 have V:=qL N;have U:=qL M;have X:=qL O;have HN:=qL Q;rw[<-Q]at hc ac⊢;clear N M O B hd Q ev;go_enter Tryz.func5,Tryz.ntmps5
 by_cases ad:25<n
 .have K:(25:Int)<n:=a8
  go_wp2;go_ret;refine⟨?_,tu _ _⟩;rw[V.o,Wy a8];rfl
 .have K:¬(25:Int)<n:=a8
  go_wp2_with fail
  go_loopg [10] n (λg x wr=>∃j,j<=n/\g=n-j/\x=.int .i64 j/\Below w.heap.size w wr/\(l.take j).all smO=true)
  case atStart=>exact⟨0,X3 _,rfl,rfl,tu _ _,rfl⟩
  case round=>
   obtain⟨j,hj,rfl,rfl,H,F⟩:=hrel;have y:=qL H;have C:=qL F;by_cases I:j<n
   .obtain⟨o,ho,P,g,u,S,T,rfl,c0,c1,c2,c3,c4⟩:=U.o wr H j I;have ab:=X.o o ho;have Y:=qL P;have HO:=qL ho;unfold maxLen at ab;clear H F P ho;have G:smO o=false->ztR l=false:=λh=>by
     rw[V.o];have:l.all smO=false:=by rw[List.all_eq_false];exact⟨o,HO.o,by rw[h];decide⟩
     rw[this,Bool.and_false]
    have E:=qL G;clear G;by_cases h1:100<o.val.size
    .have J:(100:Int)<o.val.size:=a8
     go_wp2_with fail
     go_ret;exact⟨by rw[E.o (by unfold smO;rw[Wy a8];rfl)];rfl,y.o.alloc y.o.size _⟩
    .by_cases h2:10<o.items.length
     .have J:¬(100:Int)<o.val.size:=a8;have Z:(10:Int)<o.items.length:=a8
      go_wp2_with fail
      go_ret;exact⟨by rw[E.o (by unfold smO;rw[Wy (p:=o.items.length<=10) a8,Bool.and_false])];rfl,y.o.alloc y.o.size _⟩
     .have J:¬(100:Int)<o.val.size:=a8;have Z:¬(10:Int)<o.items.length:=a8
      go_wp2_with fail
      go_roundg (n-(j+1));case measure=>omega
      case rel=>refine⟨j+1,I,rfl,rfl,y.o.alloc y.o.size _,?_⟩;have A:j<l.length:=(by rw[<-HN.o];exact I);have e:l[j]=o:=(by rw[Y.o,Q9,Zv A];rfl);rw[X4 A,List.all_append,C.o,e];simp[smO];omega
   .obtain rfl:j=n:=a8
    go_wp2_with fail
    go_ret;refine⟨?_,y.o⟩;have h:=C.o;rw[wm (by rw[HN.o];exact Zp _)]at h;rw[V.o,h,uu a8];rfl
end
section
open Go.RowKit
def zqB(z:Value)(n:Nat):(madeCells #[z,z] (n*2)).toList=List.replicate (n*2) z:=by
 apply Un;intro j;by_cases w:j<n*2
 .have u:j%2=0\/j%2=1:=a8;rcases u with u|u<;>simp[madeCells,w,u]
 .simp[madeCells,w]
def OutG.zeros{C:Qk}{mb base g n:Nat}{w:World}(ho:w.ownsRow base 72 2 (.slice (some ⟨g,0,none⟩) n n) n (List.replicate (n*2) (.slice none 0 0))):OutG C mb base w (.slice (some ⟨g,0,none⟩) n n) (List.replicate n ⟨[],[]⟩):=by
 refine⟨List.replicate (n*2) (.slice none 0 0),⟨by rw[ta];exact ho,b6,λu y=>by rw[List.eq_of_mem_replicate y];rfl⟩,λi hi=>?_⟩;have j:i<n:=dJ hi
 refine⟨.slice none 0 0,.slice none 0 0,by rw[U0,vj a8],by rw[U0,vj a8],?_,?_⟩
 .rw[U5];exact zog
 .rw[U5];exact zog
def OutG.setW{C:Qk}{G base g:Nat}{w:World}{y:Nat}{o:List Fg}{l:List En}{a0:Value}{i n:Nat}(T:o.length=n)(h:OutG C G base w (.slice (some ⟨g,0,none⟩) n y) o)(hi:i<o.length)(M:Dat (DX C G w (.slice (some ⟨g,0,none⟩) n y)) w a0 (vp l))(N:0<y):
 OutG C G base (w.setCell ⟨g,i*2+1,none⟩ a0) (.slice (some ⟨g,0,none⟩) n y) (o.take i++⟨o[i].items,l⟩::o.drop (i+1)):=by
 subst T;obtain⟨X,H,P⟩:=h;have A:(o.take i++(⟨o[i].items,l⟩:Fg)::o.drop (i+1)).length=o.length:=a9
 obtain⟨V,Y⟩:=H.1.stored (i*2+1) a0;have I:(Value.slice (some ⟨g,0,none⟩) o.length y).ownBlock=some g:=by
  cases y with
  |zero=>omega
  |succ c=>rfl
 have B:∀{x:Value}{p:PV},Dat (DX C G w (.slice (some ⟨g,0,none⟩) o.length y)) w x p->Dat (DX C G (w.setCell ⟨g,i*2+1,none⟩ a0) (.slice (some ⟨g,0,none⟩) o.length y)) (w.setCell ⟨g,i*2+1,none⟩ a0) x p:=λh=>
  DX.keep h b6 λk hk K=>tx _ _ _ _ λe=>K (by rw[I];exact ud some e.symm)
 refine⟨X.set (i*2+1) a0,⟨by rw[A];exact V,by rw[A,Uf];exact H.2.1,λu L=>?_⟩,λj O=>?_⟩
 .rcases Ub L with L|rfl
  .exact H.2.2 u L
  .exact zeu M
 .have J:j<o.length:=(by rw[A]at O;exact O);obtain⟨a,b,c,d,e,k⟩:=P j J;have U:=H.2.1;by_cases F:j=i
  .subst F;have E:(o.take j++(⟨o[j].items,l⟩:Fg)::o.drop (j+1))[j]=⟨o[j].items,l⟩:=by rw[Wv (by rw[Wd];exact UG _ _)];simp[W5 (uy hi)]
   rw[E];refine⟨a,a0,?_,?_,B e,B M⟩
   .rw[wV a8];exact c
   .rw[WL a8]
  .have E:(o.take i++(⟨o[i].items,l⟩:Fg)::o.drop (i+1))[j]=o[j]:=by
    rcases Nat.lt_or_gt_of_ne F with S|Q
    .rw[up a9,uW]
    .rw[Wv a9];obtain⟨m,rfl⟩:∃m,j=i+1+m:=⟨j-(i+1),a8⟩;simp only[Wd,W5 (uy hi),show i+1+m-i=m+1 by omega,WM,Us]
   rw[E];refine⟨a,b,?_,?_,B e,B k⟩
   .rw[wV a8];exact c
   .rw[wV a8];exact d
def OutG.put{C:Qk}{A base g n:Nat}{w:World}{j:Nat}{o:List Fg}{f:Fg}{B E:Value}{i:Nat}(M:o.length=n)(h:OutG C A base w (.slice (some ⟨g,0,none⟩) n j) o)(hi:i<n)(L:Dat (DX C A w (.slice (some ⟨g,0,none⟩) n j)) w B (rg f.items))(hb:Dat (DX C A w (.slice (some ⟨g,0,none⟩) n j)) w E (vp f.vec))(u:0<j):
 OutG C A base ((w.setCell ⟨g,i*2,none⟩ B).setCell ⟨g,i*2+1,none⟩ E) (.slice (some ⟨g,0,none⟩) n j) (o.take i++f::o.drop (i+1)):=by
 subst M;have G:(Value.slice (some ⟨g,0,none⟩) o.length j).ownBlock=some g:=by
  cases j with
  |zero=>omega
  |succ c=>rfl
 have F:Dat (DX C A (w.setCell ⟨g,i*2,none⟩ B) (.slice (some ⟨g,0,none⟩) o.length j)) (w.setCell ⟨g,i*2,none⟩ B) E (vp f.vec):=
  DX.keep hb b6 λk hk H=>tx _ _ _ _ λe=>H (by rw[G];exact ud some e.symm)
 have K:=h.set hi L u;have y:(o.take i++(⟨f.items,o[i].vec⟩:Fg)::o.drop (i+1)).length=o.length:=a9
 have I:=OutG.setW (i:=i) (l:=f.vec) (a0:=E) y K (by rw[y];exact hi) F u;have ht:(o.take i).length=i:=a9
 have e1:(o.take i++(⟨f.items,o[i].vec⟩:Fg)::o.drop (i+1)).take i=o.take i:=by rw[Wq a8,wm a8]
 have e2:(o.take i++(⟨f.items,o[i].vec⟩:Fg)::o.drop (i+1)).drop (i+1)=o.drop (i+1):=by rw[Uy,ht,wA a8,show i+1-i=1 by omega];rfl
 have J:(o.take i++(⟨f.items,o[i].vec⟩:Fg)::o.drop (i+1))[i]'(by rw[y];exact hi)=⟨f.items,o[i].vec⟩:=by rw[Wv a8];simp[ht]
 rw[e1,e2,J]at I;exact I
def zoL(k:List Fg)(items:List Iv)(j:Nat):List Fg:=(zl5 k items).take j++List.replicate (k.length-j) ⟨[],[]⟩
def zqq{k:List Fg}{items:List Iv}{j:Nat}(u:j<=k.length):(zoL k items j).length=k.length:=by have:(zl5 k items).length=k.length:=wu _;unfold zoL;rw[wk,Wd,ta];omega
def zp6(k:List Fg)(items:List Iv):zoL k items 0=List.replicate k.length ⟨[],[]⟩:=rfl
def zqp(k:List Fg)(items:List Iv):zoL k items k.length=zl5 k items:=by have:(zl5 k items).length=k.length:=wu _;unfold zoL;rw[wm a8,UM];simp
def zp5{k:List Fg}{items:List Iv}{j:Nat}(w:j<k.length):zoL k items (j+1)=(zoL k items j).take j++⟨qy fMeet k[j].items items,k[j].vec⟩::(zoL k items j).drop (j+1):=by
 have y:(zl5 k items).length=k.length:=wu _;have ht:((zl5 k items).take j).length=j:=by rw[Wd];omega
 have u:(zl5 k items)[j]'a8=⟨qy fMeet k[j].items items,k[j].vec⟩:=Uz _;unfold zoL;rw[X4 a8,u,wR,Wq a8,wm (l:=(zl5 k items).take j) a8];congr 1;rw[Uy,wA a8,ht,List.drop_replicate,show k.length-j-(j+1-j)=k.length-(j+1) by omega];rfl
end
end Go.Proofs.YtbhngpjkakcgfaaGreatDoor
