import Derived.Deep.RegionWith
import Derived.Test.YtmpnbdhadjfbhaaGreatDoorB24
set_option maxHeartbeats 16000000
set_option linter.all false
set_option maxRecDepth 100000
namespace Go.Proofs.YtmpnbdhadjfbhaaGreatDoor
open Go.RowKit
open Go.Proofs.Tryz
open Go.Proofs.Tryz renaming prog->xt
section
attribute [-go_sem] z7
def zti{D:xT}{w:World}{v:Value}{k:List Fg}(h:Dat D w v (.tup [kp k,.v .nilIface])):∃a c,v=.tuple #[.slice a k.length c,.nilIface]/\Dat D w (.slice a k.length c) (kp k):=by
 cases h with
 | tup vs cs hs h=>
   have d0:=h 0 _ rfl;have o:=(h 1 _ rfl).v_inv;obtain⟨⟨a,n,c⟩,e,j⟩:=kH d0;obtain⟨l⟩:=vs;match l,hs with
   |[x,y],_=>simp at d0 o e;subst e;subst o;rw[wB]at j;simp only at j;subst j;exact⟨a,c,rfl,d0⟩
def zuD{C:Qk}{R E I:List Nat}{D:xT}{w:World}{x:Value}{k:List Fg}(e:Env25 C R E I)(hk:Ke C R E k){i r c:Nat}(hi:i<zk/\i∈E/\(i+1<zk->i+1∈E))(F:r<zk)(G:r∈R)(H:c<=25)(B:Gd D w)(d:Dat D w x (kp k)):
 Calls xt 37 #[x,.int .u64 (i:Nat),.int .u64 (r:Nat),.int .u64 (c:Nat)] w λe A=>∃a u,e=.returned (.tuple #[.slice a (vh zn k (znP i r c)).length u,.nilIface])/\Below w.heap.size w A/\Dat (Nw D w A) A (.slice a (vh zn k (znP i r c)).length u) (kp (vh zn k (znP i r c))):=by
 refine(jP (znJ k i r c F (by have:=zw;omega) hk.kn (ztd e hi F G H).kn e.ok (by have:=e.e;omega)) B.1 B.2 rfl λj p o=>?_).mono ?_
 .match j,o with
  |0,o=>cases o;exact d
  |1,o=>cases o;exact .v _
  |2,o=>cases o;exact .v _
  |3,o=>cases o;exact .v _
  |j+4,o=>simp at o
 .rintro e A ⟨v,rfl,hb,J⟩;obtain⟨a,u,rfl,h⟩:=zti J;exact⟨a,u,rfl,hb,h⟩
def zt8{x c:Nat}(h:c=x+1)(o:c<zk)(w:World):Calls xt 36 #[.int .u64 (x:Nat)] w λe j=>e=.returned (.tuple #[.int .u64 (c:Nat),.bool true])/\j=w:=by have:=zw;refine(zdr x a8 w).mono ?_;rintro e j ⟨rfl,rfl⟩;rw[h];exact⟨rfl,rfl⟩
def SlK(D:xT)(j:World)(k:List Fg)(u:Value)(W:World):Prop:=∃a c,u=.slice a k.length c/\Dat (Nw D j W) W (.slice a k.length c) (kp k)
def TuK(D:xT)(j:World)(k:List Fg)(u:Value)(W:World):Prop:=∃a c,u=.tuple #[.slice a k.length c,.nilIface]/\Dat (Nw D j W) W (.slice a k.length c) (kp k)
def Nw.dat{D:xT}{j A B:World}{x:Value}{p:PV}(h:Dat (Nw D j A) A x p)(hk:Keep qe A B):Dat (Nw D j B) B x p:=h.mono (λb o h=>h.imp id λh=>⟨h.1,vw h.2 hk.size⟩) λb o x _ u=>hk.cell_some u id
def SlK.stab{D:xT}{j:World}{k:List Fg}(u:Value)(A B:World)(h:SlK D j k u A)(hk:Keep qe A B):SlK D j k u B:=by obtain⟨a,c,e,h⟩:=h;exact⟨a,c,e,Nw.dat h hk⟩
def TuK.stab{D:xT}{j:World}{k:List Fg}(u:Value)(A B:World)(h:TuK D j k u A)(hk:Keep qe A B):TuK D j k u B:=by obtain⟨a,c,e,h⟩:=h;exact⟨a,c,e,Nw.dat h hk⟩
def zvG{C:Qk}{R E I:List Nat}{n t b m i:Nat}{D:xT}{w:World}{s:Rs}{v:ByteArray}(e:Env25 C R E I)(h:Ok25 C R E I n s)(hn:n<=25)(hi:i<zk/\i∈E/\(i+1<zk->i+1∈E))(hR:Rpl D t w b m s)(hG:Gd D w)(bI:∀o,¬D b o)(bK:∀o,¬D m o)(aA:b≠m)(ht:t<1000000):
 Calls xt 14 #[.pointer (some ⟨b,0,none⟩),.int .u64 (i:Nat),.string v] w λe w'=>e=.returned (.tuple #[rcv (ztL s i v),.nilIface])/\Keep (λk=>k=b\/k=m) w w'/\Rpl (Nw D w w') (t+1) w' b m (ztM s i v):=by
 have hM:=zw;have an:=hi.1;obtain⟨ka,kc,h1,h2,h3⟩:=hR;have T:=(Yf.1 h1).1;have au:=h2.lt;obtain⟨c,G⟩:=xm (zsq s i);have bS:c<=n:=by rw[G];exact h.ctr i
 obtain⟨nx,aG⟩:=xm (s.next);obtain⟨kl,aq⟩:=xm (s.known.length);have aC:(zrZ s.recs i=none/\c=nx)\/(∃y,zrZ s.recs i=some y/\y.ctr<nx/\c=nx)\/(∃y,zrZ s.recs i=some y/\nx<=y.ctr/\c=y.ctr+1):=by
  rw[G,aG];unfold zsq;cases hg:zrZ s.recs i with
  |none=>exact .inl ⟨rfl,rfl⟩
  | some y=>
    dsimp only;by_cases ar:s.next<=y.ctr
    .exact .inr (.inr ⟨y,rfl,ar,by rw[Vm ar]⟩)
    .exact .inr (.inl ⟨y,rfl,a8,by rw[Vq ar]⟩)
 have ag:=λW (hW:Below w.heap.size w W)=>zuD (w:=W) (c:=c) e h.k hi h.i.1 h.i.2 a8 (hG.keep (Keep.of_below' (S:=qe) hW (Zp _)) λ_ _ _=>id) (h3.mono (λ_ _ h=>h) λb o x J hx=>(tp (a:=⟨b,o,none⟩) (hW.block b (hG.2 b o J))).trans hx);obtain⟨kr,aE⟩:=xm (vh zn s.known (znP i s.id c));have bp:=qL aE;have bn:=qL aq;rw[<-aq,<-aE]at ag;have aF:ztL s i v=⟨i,s.id,c,v⟩:=by unfold ztL;rw[<-G]
 have aV:ztM s i v=⟨s.id,zr4 s.recs ⟨i,s.id,c,v⟩,vh zn s.known (znP i s.id c),c+1⟩:=by unfold ztM;rw[aF,<-G]
 have c0:w.cell? ⟨b,0,none⟩=some (.int .u64 s.id):=(zW h1 0 _ rfl).1;have c1:w.cell? ⟨b,1,none⟩=some (.map (some m)):=(zW h1 1 _ rfl).1;have c2:w.cell? ⟨b,2,none⟩=some (.slice ka kl kc):=by rw[aq];exact(zW h1 2 _ rfl).1
 have c3:w.cell? ⟨b,3,none⟩=some (.int .u64 nx):=by rw[aG];exact(zW h1 3 _ rfl).1
 have c4:w.cell? ⟨b,4,none⟩=some (.bool false):=(zW h1 4 _ rfl).1;have H1:=qL h1;have HM:=qL h2;have bj:=qL ag;have bt:=qL h;have br:=qL aF;have bu:=qL aV;have HG:=qL hG;obtain⟨F,af⟩:∃q,q=s.id:=⟨_,rfl⟩;have ab:=qL af;rw[<-af]at c0;have bN:xt.follows .mixedOrders=true:=dL
 clear h1 h2 h3 ag h aF aV hG G aG aq af aE;go_enter func14,ntmps14
 go_wp2_with fail
 go_region;obtain⟨w1,ah⟩:=xm ((w.alloc (.cells #[.int .u64 0,.int .u64 0,.int .u64 0,.string ⟨#[]⟩] 47)).drew);have ay:Below w.heap.size w w1:=by rw[ah];exact((tv _ w).alloc (Zp _) _).drew
 have bL:w1.heap.size=w.heap.size+1:=by rw[ah];exact tx _ _
 have aX:w1.heap[w.heap.size]?=some (.cells #[.int .u64 0,.int .u64 0,.int .u64 0,.string ⟨#[]⟩] 47 (0,0)):=by rw[ah];exact tq w _
 have d1:w1.cell? ⟨b,1,none⟩=some (.map (some m)):=(tp (a:=⟨b,1,none⟩) (ay.block b T)).trans c1;have ai:=qL ay;have bA:=qL aX;rw[<-ah];clear ah ay aX;have aw:∀(o:Obj)(W:World),W=w1.alloc o->Below w.heap.size w W/\W.heap.size=w.heap.size+2/\W.heap[w.heap.size]?=some (.cells #[.int .u64 0,.int .u64 0,.int .u64 0,.string ⟨#[]⟩] 47 (0,0)):=λo W hW=>by rw[hW];exact⟨ai.o.alloc a8 _,by rw[tx,bL],(tw _ _ _ a8).trans bA.o⟩
 have aN:=qL aw;clear aw;rcases aC with⟨hq,U⟩|⟨y,hq,ar,U⟩|⟨y,hq,bT,U⟩;case' inl=>
  subst U
  go_wp2_with (at_lookup;refine zsX rfl _ _ rfl rfl (HM.o.keep (ai.o.block m au)) an rfl (λ_=>?_) λy P=>by rw[hq]at P;cases P)
 case' inr.inl=>
  subst U
  go_wp2_with (at_lookup;refine zsX rfl _ _ rfl rfl (HM.o.keep (ai.o.block m au)) an rfl (λP=>by rw[hq]at P;cases P) λy' P=>?_;rw[hq]at P;cases P)
 case' inr.inr=>
  have bh:=qL U;clear U
  go_wp2_with (first
   |(at_lookup;refine zsX rfl _ _ rfl rfl (HM.o.keep (ai.o.block m au)) an rfl (λP=>by rw[hq]at P;cases P) λy' P=>?_;rw[hq]at P;cases P)
   |(go_at_call 36;refine(zt8 bh.o a8 _).mono ?_;rintro e w3 ⟨rfl,rfl⟩))
 all_goals
  refine wp_some (R:=λW=>Below w.heap.size w W/\W.heap.size=w.heap.size+2/\W.heap[w.heap.size]?=some (.cells #[.int .u64 0,.int .u64 0,.int .u64 0,.string ⟨#[]⟩] 47 (0,0))) (aN.o _ _ rfl) ?_;rintro A ⟨ak,bU,aY⟩;have e0:A.cell? ⟨b,0,none⟩=some (.int .u64 F):=(tp (a:=⟨b,0,none⟩) (ak.block b T)).trans c0;have e2:A.cell? ⟨b,2,none⟩=some (.slice ka kl kc):=(tp (a:=⟨b,2,none⟩) (ak.block b T)).trans c2;have aO:=qL λW (hW:Below w.heap.size w W)=>bj.o W hW;rw[<-ab.o]at aO;have aj:=qL ak;have bB:=qL aY;have aT:Below A.heap.size A A.drew:=(tv _ _).drew;clear ak aY;refine Kg (Sw:=qe) 16 109 (λw9=>Below A.heap.size A w9/\w9.cell? ⟨b,0,none⟩=some (.int .u64 F)/\w9.cell? ⟨b,2,none⟩=some (.slice ka kl kc)) dL dL rfl ⟨aT,e0,e2⟩ ?_;simp only[wP,Wb];refine Jz ?_;refine V7 (TuK D A kr) TuK.stab rfl ?_ ?_
  .intro a5 j G hk X K M;have HK:=qL M;clear M;simp[Rds,zA,lk,Op.operands,Call.operands,RdEq]at X;go_simp;refine(aO.o j (aj.o.trans (G.1.mono aj.o.size))).mono ?_;rintro e w3 ⟨H,Z,rfl,aS,am⟩;have aD:Keep qe j w3:=Keep.of_below' aS (Zp _);exact HK.o _ _ aD ⟨G.1.trans (aS.mono G.1.size),aD.cell_some G.2.1 id,aD.cell_some G.2.2 id⟩ ⟨H,Z,rfl,am.mono (λb o h=>h.imp id λh=>⟨V0 G.1.size h.1,h.2⟩) λ_ _ _ _ h=>h⟩
  simp only[Y1,yb];refine Jz ?_;refine V7 (TuK D A kr) TuK.stab rfl ?_ ?_
  .intro a5 j G hk X K M;have HK:=qL M;clear M;simp[Rds,zA,lk,Op.operands,Call.operands,RdEq]at X;obtain⟨_,⟨e1,e2⟩,H,Z,rfl,J⟩:=X;go_simp;exact HK.o _ _ (Keep.refl _ _) G ⟨H,Z,rfl,J⟩
  simp only[Y1,yb];refine Jz ?_;refine V7 (SlK D A kr) SlK.stab rfl ?_ ?_
  .intro a5 j G hk X K M;have HK:=qL M;clear M;simp[Rds,zA,lk,Op.operands,Call.operands,RdEq]at X;obtain⟨_,⟨e1,e2⟩,H,Z,rfl,J⟩:=X;go_simp;exact HK.o _ _ (Keep.refl _ _) G ⟨H,Z,rfl,J⟩
  simp only[Y1,yb];refine Jz ?_;refine V7 (λu _=>u=.nilIface) (yj _) rfl ?_ ?_
  .intro a5 j G hk X K M;have HK:=qL M;clear M;simp[Rds,zA,lk,Op.operands,Call.operands,RdEq]at X;obtain⟨_,⟨e1,e2⟩,H,Z,rfl,J⟩:=X;go_simp;exact HK.o _ _ (Keep.refl _ _) G rfl
  simp only[Y1,yb];refine Jz ?_;refine V7 (SlK D A kr) SlK.stab rfl ?_ ?_
  .intro a5 j G hk X K M;have HK:=qL M;clear M;simp[Rds,zA,lk,Op.operands,Call.operands,RdEq]at X;obtain⟨_,⟨e1,e2⟩,H,Z,rfl,J⟩:=X;go_simp;exact HK.o _ _ (Keep.refl _ _) G ⟨H,Z,rfl,J⟩
  simp only[Y1,yb];refine Jz ?_;intro A ae bJ;simp only[finG,WM,Y1,yb,wM,Wh,WO];simp only[Act.put,wu,wR,wS];rintro cb bG bZ bF cc bH _ ⟨H,Z,rfl,am⟩;clear bG bF bH;have aB:Below w.heap.size w A:=aj.o.trans (ae.1.mono aj.o.size);have bc:=(ae.1.block _ a8).trans bB.o;have bW:=ae.1.size;have e1:A.cell? ⟨b,1,none⟩=some (.map (some m)):=(tp (a:=⟨b,1,none⟩) (aB.block b T)).trans c1;have bi:=qL am;have aM:=qL aB;have bD:=qL bc;have bQ:=ae.2.1;clear am ae bJ aB bc aT e0 e2
  go_wp2_with fail
  refine wp_some (R:=λW=>Below A.heap.size A W/\W.heap[A.heap.size]?=some (.cells #[.int .u64 i,.int .u64 F,.int .u64 c,.string v] 47 (0,0))/\W.heap.size=A.heap.size+1) ⟨(tv _ _).alloc (Zp _) _,tq _ _,b6⟩ ?_;rintro w4 ⟨az,av,bX⟩;have ac:Below w.heap.size w w4.drew:=(aM.o.trans (az.mono aM.o.size)).drew;obtain⟨v0,st,we,wf,q1,q2,q3,q4,q5⟩:=zu8 (w:=w4.drew) (t:=t) (B:=m) (l:=s.recs) (HM.o.keep (ac.block m au)) bt.o.a c8 (y:=⟨i,F,c,v⟩) an;dsimp only[rcv]at q1 q2;have aZ:we.heap[A.heap.size]?=some (.cells #[.int .u64 i,.int .u64 F,.int .u64 c,.string v] 47 (0,0)):=(q5 _ a8).trans av;have aI:∀k,k<w4.heap.size->k≠m->wf.heap[k]?=w4.heap[k]?:=λk hk V=>q4.block k hk λe=>V (dK e);have N:wf.heap[b]?=some (.cells #[.int .u64 F,.map (some m),.slice ka kl kc,.int .u64 s.next,.bool false] 84 (0,0)):=(aI b a8 aA).trans ((ac.block b T).trans (by rw[ab.o,bn.o];exact H1.o));have f1:w4.cell? ⟨b,1,none⟩=some (.map (some m)):=(tp (a:=⟨b,1,none⟩) (ac.block b T)).trans c1;obtain⟨⟨x0,x1,x2,x3⟩,-⟩:=c4s av;obtain⟨⟨y0,y1,y2,y3⟩,-⟩:=c4s aZ;have g2:wf.cell? ⟨b,2,none⟩=some (.slice ka kl kc):=(zW N 2 _ rfl).1;have z2:wf.frozen? ⟨b,2,none⟩=false:=(zW N 2 _ rfl).2;have bw:=qL q3;have aQ:=qL q4;have bz:=qL aI;have bg:=qL N;have bC:=qL av;have aL:=qL ac;have aK:=qL az;clear q3 q4 q5 aI N av aZ ac az;go_region;obtain⟨j,L⟩:=xm (wf.setCell ⟨b,2,none⟩ (.slice H kr.length Z));have Q:j.heap[b]?=some (.cells #[.int .u64 F,.map (some m),.slice H kr.length Z,.int .u64 s.next,.bool false] 84 (0,0)):=(by rw[L];exact zsw bg.o 2 _)
  have ao:∀k,k<w4.heap.size->k≠m->k≠b->j.heap[k]?=w4.heap[k]?:=λk h1 h2 h3=>(by rw[L];exact(tz _ _ _ _ h3).trans (bz.o k h1 h2));have bR:=aL.o.size;have bY:w4.heap.size<=j.heap.size:=(by rw[L];simp;exact aQ.o.size);have aJ:j.heap[w.heap.size]?=some (.cells #[.int .u64 0,.int .u64 0,.int .u64 0,.string ⟨#[]⟩] 47 (0,0)):=(ao _ a8 a8 a8).trans ((aK.o.block _ a8).trans bD.o);have ba:j.heap[A.heap.size]?=some (.cells #[.int .u64 i,.int .u64 F,.int .u64 c,.string v] 47 (0,0)):=(ao _ a8 a8 a8).trans bC.o;have aP:qA (Keep (λk=>k=b\/k=m) w j):=qL (by
   rw[L];exact(((Keep.of_below' (S:=λk=>k=b\/k=m) aL.o (Zp _)).grown aQ.o λk e _=>.inr (dK e.symm)).setCell (p:=⟨b,2,none⟩) (λ_=>.inl rfl) _))
  have bq:qA (MR (t+1) m j (zr4 s.recs ⟨i,F,c,v⟩)):=qL (bw.o.keep (by rw[L];exact tz _ _ _ _ (Ug aA)));rw[<-L];have b3:j.cell? ⟨b,3,none⟩=some (.int .u64 s.next):=(zW Q 3 _ rfl).1;have r3:j.frozen? ⟨b,3,none⟩=false:=(zW Q 3 _ rfl).2;have b4:j.cell? ⟨b,4,none⟩=some (.bool false):=(zW Q 4 _ rfl).1;have r4:j.frozen? ⟨b,4,none⟩=false:=(zW Q 4 _ rfl).2;have hz:=λk x h=>zW aJ k x h;have n0:j.cell? ⟨w.heap.size,0,none⟩=some (.int .u64 0):=(hz 0 _ rfl).1;have n1:j.cell? ⟨w.heap.size,1,none⟩=some (.int .u64 0):=(hz 1 _ rfl).1;have n2:j.cell? ⟨w.heap.size,2,none⟩=some (.int .u64 0):=(hz 2 _ rfl).1;have n3:j.cell? ⟨w.heap.size,3,none⟩=some (.string ⟨#[]⟩):=(hz 3 _ rfl).1;have m0:j.frozen? ⟨w.heap.size,0,none⟩=false:=(hz 0 _ rfl).2;have m1:j.frozen? ⟨w.heap.size,1,none⟩=false:=(hz 1 _ rfl).2;have m2:j.frozen? ⟨w.heap.size,2,none⟩=false:=(hz 2 _ rfl).2;have m3:j.frozen? ⟨w.heap.size,3,none⟩=false:=(hz 3 _ rfl).2;obtain⟨⟨p0,p1,p2,p3⟩,-⟩:=c4s ba;have bP:A.heap.size≠w.heap.size:=a8;have ad:b≠w.heap.size:=a8;have bO:b≠A.heap.size:=a8;have be:=qL Q;have bE:=qL aJ;have bl:=qL ao;clear L Q ao aJ ba hz q1 q2 x0 x1 x2 x3 y0 y1 y2 y3 f1 g2 z2
  go_wp2_with (go_at_call 36;refine(zt8 (x:=c) (c:=c+1) rfl a8 _).mono ?_;rintro e w6 ⟨rfl,rfl⟩)
  have bM:∀x y:Value,((w6.setCell ⟨b,3,none⟩ x).setCell ⟨b,4,none⟩ y).heap[w.heap.size]?=some (.cells #[.int .u64 0,.int .u64 0,.int .u64 0,.string ⟨#[]⟩] 47 (0,0)):=λx y=>(tz _ _ _ _ (Ug ad)).trans ((tz _ _ _ _ (Ug ad)).trans bE.o);refine tA (zs4 (cs:=#[.int .u64 i,.int .u64 F,.int .u64 c,.string v]) rfl rfl (by simpa using zsw (zsw (zsw (zsw (bM _ _) 0 _) 1 _) 2 _) 3 _) underlying47 dL) rfl ?_;have O:¬(w.heap.size<w.heap.size):=tj _;have aU:∀x y a1 a2 H a4:Value,Keep (λk=>k=b\/k=m) w ((((((w6.setCell ⟨b,3,none⟩ x).setCell ⟨b,4,none⟩ y).setCell ⟨w.heap.size,0,none⟩ a1).setCell ⟨w.heap.size,1,none⟩ a2).setCell ⟨w.heap.size,2,none⟩ H).setCell ⟨w.heap.size,3,none⟩ a4):=λx y a1 a2 H a4=>
   (((((aP.o.setCell (p:=⟨b,3,none⟩) (λ_=>.inl rfl) x).setCell (p:=⟨b,4,none⟩) (λ_=>.inl rfl) y).setCell (p:=⟨w.heap.size,0,none⟩) (λh=>absurd h O) a1).setCell (p:=⟨w.heap.size,1,none⟩) (λh=>absurd h O) a2).setCell (p:=⟨w.heap.size,2,none⟩) (λh=>absurd h O) H).setCell (p:=⟨w.heap.size,3,none⟩) (λh=>absurd h O) a4
  refine⟨by rw[br.o,<-ab.o];rfl,aU _ _ _ _ _ _,?_⟩;rw[bu.o,<-bp.o];have aH:∀(W:World)(k:Nat),k≠w.heap.size->∀a1 a2 H a4:Value,((((W.setCell ⟨w.heap.size,0,none⟩ a1).setCell ⟨w.heap.size,1,none⟩ a2).setCell ⟨w.heap.size,2,none⟩ H).setCell ⟨w.heap.size,3,none⟩ a4).heap[k]?=W.heap[k]?:=λW k hk _ _ _ _=>(tz _ _ _ _ hk).trans ((tz _ _ _ _ hk).trans ((tz _ _ _ _ hk).trans (tz _ _ _ _ hk)));have aW:∀k,k≠b->∀x y:Value,((w6.setCell ⟨b,3,none⟩ x).setCell ⟨b,4,none⟩ y).heap[k]?=w6.heap[k]?:=λk hk _ _=>(tz _ _ _ _ hk).trans (tz _ _ _ _ hk);have aR:=bq.o;rw[ab.o]at aR;refine⟨H,Z,?_,aR.keep ((aH _ m a8 _ _ _ _).trans (aW m (Ug aA) _ _)),bi.o.mono (λY o h=>h.imp id λh=>⟨a8,?_⟩) λY o x J hx=>?_⟩
  .refine(aH _ b ad _ _ _ _).trans ?_;have:=zsw (zsw be.o 3 (.int .u64 ((c+1:Nat):Int))) 4 (.bool false);rw[ab.o]at this;simpa using this
  .have:=(aU (.int .u64 (c+1)) (.bool false) (.int .u64 i) (.int .u64 F) (.int .u64 c) (.string v)).size;have h5:=aP.o.size;simp;omega
  .have ax:=tr A ⟨Y,o,none⟩ hx;have V:Y≠b/\Y≠m/\Y≠w.heap.size:=by
    rcases J with J|J
    .have:=HG.o.2 Y o J;exact⟨λe=>bI o (e▸J),λe=>bK o (e▸J),a8⟩
    .exact⟨a8,a8,a8⟩
   exact(tp (a:=⟨Y,o,none⟩) ((aH _ Y V.2.2 _ _ _ _).trans ((aW Y V.1 _ _).trans ((bl.o Y (by have:Y<A.heap.size:=ax;omega) V.2.1 V.1).trans (aK.o.block Y ax))))).trans hx
end
section
open Go.Maps
attribute [go_sem] rcp rcc
def zvf(x y:Rc):Cn xt 66 [rcp x,rcp y] (.v (.bool (zs7 x y))):=by
 unfold zs7;refine zt func66 2 ?_;refine pw ?_;refine .i ?_ ?_<;>intro h<;>first|refine pw ?_|exact pd
 .simp[h]
 .refine .i ?_ ?_<;>intro j<;>first|refine pw ?_|exact pd
  .simp[h,j]
  .simp[h,j]
attribute [-go_sem] z7
def ztH{t B:Nat}{w:World}{l:List Rc}(h:MR t B w l){r:Nat}(E:r<zk):(Instr.lookup 82 (.map (some B)) (.int .u64 (r:Nat)) true).run xt w=.ok (.tuple #[rcv ((zrZ l r).getD zRc),.bool (zrZ l r).isSome]) w:=by obtain⟨D,u,F,A,C⟩:=h;obtain⟨v,G,j,o⟩:=u.look_ok vF underlying82 (zsv w) (zd:=.held zR) (zp:=[]) rfl (Zq E);rw[C r]at o;unfold rV at o;cases o;rw[A r]at j;exact j
def zuc{t B:Nat}{w:World}{l:List Rc}(h:MR t B w l)(F:zr8 l)(G:t<maxLen){y:Rc}(H:y.item<zk):∃o,(Instr.mapUpdate 82 (.map (some B)) (.int .u64 (y.item:Nat)) (rcv y)).run xt w=.ok () o/\MR (t+1) B o (zr4 l y)/\w.grownBy o (some B):=by obtain⟨D,u,A,C,E⟩:=h;obtain⟨o,j,I,J⟩:=u.update vF underlying82 G (Zq H) (val:=rcv y) rfl;exact⟨o,j,MR.put A C E F I,J⟩
def ztb{D:xT}{w:World}(x:Rc):Dat D w (.agg #[.int .u64 x.item,.int .u64 x.rep,.int .u64 x.ctr,.string x.val]) (rcp x):=by
 refine .agg _ _ rfl (λi hi=>?_) λi p j=>?_
 .match i,hi with
  |0,_=>rfl
  |1,_=>rfl
  |2,_=>rfl
  |3,_=>rfl
 .match i,j with
  |0,j=>cases j;exact .v _
  |1,j=>cases j;exact .v _
  |2,j=>cases j;exact .v _
  |3,j=>cases j;exact .v _
def zv2{D:xT}{t b m:Nat}{w:World}{l:List Rc}{x:Rc}(hG:Gd D w)(hb:w.cell? ⟨b,1,none⟩=some (.map (some m)))(hm:MR t m w l)(ha:zr8 l)(ht:t<1000000)(hx:x.item<zk)(an:∀o,¬D m o):
 Calls xt 28 #[.pointer (some ⟨b,0,none⟩),rcv x] w λe w'=>(∃u,e=.returned u)/\MR (t+1) m w' (zse l x)/\Keep (λk=>k=m) w w':=by
 have Q:=tr w _ hb;have U:=hm.lt;obtain⟨C,H⟩:=xm (w.alloc (.cells #[.int .u64 x.item,.int .u64 x.rep,.int .u64 x.ctr,.string x.val] 47));have J:Below w.heap.size w C:=by rw[H];exact(tv _ w).alloc (Zp _) _
 have ae:C.heap.size=w.heap.size+1:=by rw[H];exact tx _ _
 have Y:C.heap[w.heap.size]?=some (.cells #[.int .u64 x.item,.int .u64 x.rep,.int .u64 x.ctr,.string x.val] 47 (0,0)):=by rw[H];exact tq w _
 have L:MR t m C l:=hm.keep (J.block m U);have q1:=ztH (w:=C.drew) L hx;have q2:=ztH (w:=(C.alloc (.cells #[.int .u64 0,.int .u64 0,.int .u64 0,.string ⟨#[]⟩] 47)).drew) (L.keep (tw _ _ _ (by show m<C.heap.size;omega))) hx;have b1:C.cell? ⟨b,1,none⟩=some (.map (some m)):=(tp (a:=⟨b,1,none⟩) (J.block b Q)).trans hb;obtain⟨y,hy⟩:=xm ((zrZ l x.item).getD zRc);obtain⟨ok,V⟩:=xm ((zrZ l x.item).isSome);rw[<-hy,<-V]at q1 q2;dsimp only[rcv]at q1 q2⊢;obtain⟨⟨x0,x1,x2,x3⟩,-⟩:=c4s Y;have HY:=qL hy;have ad:=qL V;have ah:=qL L;have ai:=qL Y;have N:=qL J;have HG:=qL hG;have HA:=qL ha;have am:xt.follows .mixedOrders=true:=dL
 clear hy V L Y J hG ha hm hb;go_enter func28,ntmps28
 go_wp2_with fail
 rw [<-H];clear H;go_region;all_goals
  obtain⟨M,B⟩:=xm ((C.alloc (.cells #[.int .u64 y.item,.int .u64 y.rep,.int .u64 y.ctr,.string y.val] 47)).drew);have K:Below w.heap.size w M:=(by rw[B];exact(N.o.alloc a8 _).drew);have ao:M.heap.size=w.heap.size+2:=(by rw[B];show (C.alloc _).heap.size=_;rw[tx,ae]);have ag:M.heap[w.heap.size+1]?=some (.cells #[.int .u64 y.item,.int .u64 y.rep,.int .u64 y.ctr,.string y.val] 47 (0,0)):=(by rw[B,<-ae];exact tq C _);have Z:M.heap[w.heap.size]?=some (.cells #[.int .u64 x.item,.int .u64 x.rep,.int .u64 x.ctr,.string x.val] 47 (0,0)):=(by rw[B];exact(tw _ _ _ a8).trans ai.o);rw[<-B];have E:=qL K;have aj:=qL Z;have F:=qL (ah.o.keep ((K.block m U).trans (N.o.block m U).symm));have ak:M.cell? ⟨b,1,none⟩=some (.map (some m)):=(tp (a:=⟨b,1,none⟩) ((K.block b Q).trans (N.o.block b Q).symm)).trans b1;obtain⟨⟨z0,z1,z2,z3⟩,-⟩:=c4s Z;obtain⟨⟨y0,y1,y2,y3⟩,-⟩:=c4s ag;clear B K ag Z x0 x1 x2 x3 q1 q2 b1;cases ok with
  | false=>
    have hn:zrZ l x.item=none:=by
     have:=ad.o;cases hg:zrZ l x.item with
     |none=>rfl
     |some z=>rw[hg]at this;cases this
    obtain⟨w3,r1,r2,r3⟩:=zuc (w:=M.drew) F.o HA.o c8 (y:=x) hx;dsimp only[rcv]at r1;have O:=qL r2;have P:=qL r3;clear r2 r3
    go_wp2_with fail
    go_region;all_goals
     go_wp2_with fail
     go_end0
     refine⟨⟨_,rfl⟩,?_,(Keep.of_below' E.o (Zp _)).drew.grown P.o λk e _=>dK e.symm⟩;unfold zse;rw[hn];exact O.o
  | true=>
    have hn:zrZ l x.item=some y:=by
     have h1:=ad.o;have h2:=HY.o;cases hg:zrZ l x.item with
     |none=>rw[hg]at h1;cases h1
     |some z=>rw[hg]at h2;rw[h2];rfl
    have G:=cn_bool (zvf x y) (vs:=#[.agg #[.int .u64 x.item,.int .u64 x.rep,.int .u64 x.ctr,.string x.val],.agg #[.int .u64 y.item,.int .u64 y.rep,.int .u64 y.ctr,.string y.val]]) (HG.o.keep (Keep.of_below' (S:=qe) E.o (Zp _)) λ_ _ _=>id).1 (HG.o.keep (Keep.of_below' (S:=qe) E.o (Zp _)) λ_ _ _=>id).2 rfl λj p X=>by
     match j,X with
     |0,X=>cases X;exact ztb x
     |1,X=>cases X;exact ztb y
     |j+2,X=>simp at X
    obtain⟨la,T⟩:=xm (zs7 x y);rw[<-T]at G;have ac:=qL G;have ab:=qL T;clear G T;cases la with
    | false=>
      go_wp2_with (go_at_call 66;refine ac.o.mono ?_;rintro e w3 ⟨rfl,A⟩;have I:=qL A;clear A)
      go_end0
      have hk:=(Keep.of_below' (S:=λk=>k=m) E.o (Zp _)).trans (Keep.of_below' I.o (Zp _));refine⟨⟨_,rfl⟩,?_,hk⟩;unfold zse;rw[hn];dsimp only;rw[<-ab.o,Vq b6];exact(F.o.keep (I.o.block m F.o.lt)).mono a8
    | true=>
      go_wp2_with (go_at_call 66;refine ac.o.mono ?_;rintro e w3 ⟨rfl,A⟩
                   obtain⟨w4,r1,r2,r3⟩:=zuc (w:=w3.drew) (F.o.keep (A.block m F.o.lt)) HA.o c8 (y:=x) hx;dsimp only[rcv]at r1;have af:=(A.block _ a8).trans aj.o;have b3:w3.cell? ⟨b,1,none⟩=some (.map (some m)):=(tp (a:=⟨b,1,none⟩) (A.block b a8)).trans ak;obtain⟨⟨v0,v1,v2,v3⟩,-⟩:=c4s af;have O:=qL r2;have P:=qL r3;have I:=qL A;clear r2 r3 A af)
      go_region;all_goals
       go_wp2_with fail
       go_end0
       have hk:=(Keep.of_below' (S:=λk=>k=m) E.o (Zp _)).trans (Keep.of_below' I.o (Zp _));refine⟨⟨_,rfl⟩,?_,hk.drew.grown P.o λk e _=>dK e.symm⟩;unfold zse;rw[hn];dsimp only;rw[<-ab.o,Vm rfl];exact O.o
end
section
attribute [go_sem] lp
def rfc(s:Rs):List PV:=[.v (.int .u64 s.id),lp s.recs,kp s.known,.v (.int .u64 s.next),.v (.bool false)]
attribute [go_sem] rfc
def zuQ(s:Rs)(i:Nat)(u:s.recs.length<=1000000):Cn xt 50 [.cp (rfc s) 0,.v (.int .u64 i)] (.v (.int .i64 (ixR s.recs i 0))):=by
 refine zt func50 2 ?_;refine pw ?_;refine pLoop.go (λk=>k<=s.recs.length/\ixR s.recs i 0=ixR (s.recs.drop k) i k) (λk=>[(5,.v (.int .i64 (k:Nat)))]) (λ_=>[]) (λk=>s.recs.length-k) 0 [5] ?_ ?_ ?_
 .exact⟨X3 _,rfl⟩
 .exact pd
 .rintro k ⟨hk,j⟩;refine pw ?_;refine .i ?_ ?_<;>intro h<;>first|refine pw ?_|exact pd
  .rw[vD h,ixR]at j;refine pw ?_;refine .i ?_ ?_<;>intro o<;>first|refine pw ?_|exact pd
   .rw[Vm o]at j;rw[j]
   .rw[Vq o]at j;exact⟨k+1,⟨h,j⟩,a8,rfl⟩
  .rw[j,wA a8];rfl
def ztX(x y:Rc):Cn xt 56 [rcp x,rcp y] (.v (.bool (zs7 x y))):=by
 unfold zs7;refine zt func56 2 ?_;refine pw ?_;refine .i ?_ ?_<;>intro h<;>first|refine pw ?_|exact pd
 .simp[h]
 .refine .i ?_ ?_<;>intro j<;>first|refine pw ?_|exact pd
  .simp[h,j]
  .simp[h,j]
def ztz(s:Rs)(k:List Fg)(items:List Iv)(G:s.recs.length<=1000000)(F:∀x∈s.recs,x.ctr<zk)(hi:Nrm items)(B:items.length<=1000000)(E:RightK k)(hz:QW k):Cn xt 55 [.cp (rfc s) 0,kp k,rg items] (lp (zs0 s k items)):=by
 unfold zs0;refine zt func55 3 ?_;refine pw ?_;refine pLoop.go (λj=>j<=s.recs.length) (λj=>[(7,.sl (((s.recs.take j).filter λx=>mem items x.item && !hasK k x.item x.rep x.ctr).map rcc) (.r 44 4)),(8,.v (.int .i64 (j:Nat)))]) (λ_=>[]) (λk=>s.recs.length-k) 0 [7,8] ?_ ?_ ?_
 .exact X3 _
 .exact pd
 .rintro j hk;have C:((s.recs.take j).filter λx=>mem items x.item && !hasK k x.item x.rep x.ctr).length<=j:=V0 (WF _ _) a9;refine pw ?_;refine .i ?_ ?_<;>intro h<;>first|refine pw ?_|exact pd
  .have o:s.recs.take (j+1)=s.recs.take j++[s.recs[j]]:=X4 h;have w:=F _ (XE h);refine pw ?_;refine .c (kU items s.recs[j].item a8) ?_;refine .i ?_ ?_<;>intro u<;>first|refine pw ?_|exact pd
   .refine .c (zid k s.recs[j].item s.recs[j].rep s.recs[j].ctr E w hz) ?_;refine .i ?_ ?_<;>intro A<;>first|refine pw ?_|exact pd
    .refine⟨j+1,h,a8,?_,rfl⟩;rw[o,up,uB,u,A];simp;rfl
    .refine⟨j+1,h,a8,?_,rfl⟩;rw[o,up,uB,u,A];simp
   .refine⟨j+1,h,a8,?_,rfl⟩;rw[o,up,uB,u];simp
  .rw[wm a8]
def ztR(l:List Opn):Bool:=decide (l.length<=25) && l.all λo=>decide (o.val.size<=100) && decide (o.items.length<=10)
attribute [go_sem] opc
end
section
attribute [-go_sem] z7
def zs1:∀(l:List Rc),(l.flatMap rcs).length=l.length*4
 |[]=>rfl
 |x::l=>by rw[Wk,wi,zs1 l];simp[rcs];omega
def zsZ{D:xT}{w:World}{v:Value}{l:List Rc}(h:Dat D w v (lp l)):
 ∃a c,v=.slice a l.length c/\l.length<=c/\c<=maxLen/\(l≠[]->∃g B,a=some ⟨g,B,none⟩/\∀i u,(l.flatMap rcs)[i]?=some u->D g (B+i)/\w.cell? ⟨g,B+i,none⟩=some u):=by
 unfold lp at h;generalize M:l.map rcc=es at h;cases h with
 | sl a cap sz es o b B u hc hz hm ha hsz hd hx=>
   have N:es.length=l.length:=(by rw[<-M];simp);have g:∀i (h:i<l.length),es[i]?=some (rcc l[i]):=λi h=>(by rw[<-M];exact xo h);refine⟨a,cap,by rw[N],a8,hm,λJ=>?_⟩;have G:0<l.length:=wX.2 J;obtain rfl:4=sz:=hsz 0 _ (g 0 G);have I:es≠[]:=(by intro e;subst e;simp at N;omega);refine⟨b,B,ha I,λi v C=>?_⟩;have F:=zs1 l;have hi:=(Zw.1 C).1;rw[F]at hi;have K:i/4<l.length:=a8;have e1:i=i/4*4+i%4:=a8;have L:i%4<4:=a8;rw[e1,zsD K L]at C;have E:=hd i a8;rw[e1]at E⊢;refine⟨E.1,?_⟩;rw[E.2.1];have A:∀j p,j=i%4->(rcc l[i/4])[j]?=some (.v p)->u (i/4*4+j)=p:=λj p _ O=>(hx _ _ _ _ (g _ K) O).v_inv;match H:i%4,L with
   |0,_=>rw[H]at C A;rw[A 0 _ rfl rfl];exact C
   |1,_=>rw[H]at C A;rw[A 1 _ rfl rfl];exact C
   |2,_=>rw[H]at C A;rw[A 2 _ rfl rfl];exact C
   |3,_=>rw[H]at C A;rw[A 3 _ rfl rfl];exact C
def ztV{D:xT}{w:World}{v:Value}{l:List Opn}(h:Dat D w v (opp l)):
 ∃a c,v=.slice a l.length c/\l.length<=c/\∀j (B:j<l.length),∃g A ia C,a=some ⟨g,A,none⟩/\D g A/\w.cell? ⟨g,A+j*5,none⟩=some (.int .i64 l[j].who)/\w.cell? ⟨g,A+(j*5+1),none⟩=some (.int .i64 l[j].from_)/\w.cell? ⟨g,A+(j*5+2),none⟩=some (.int .u64 l[j].item) /\
  w.cell? ⟨g,A+(j*5+3),none⟩=some (.string l[j].val)/\w.cell? ⟨g,A+(j*5+4),none⟩=some (.slice ia l[j].items.length C)/\Dat D w (.slice ia l[j].items.length C) (rg l[j].items):=by
 unfold opp at h;generalize G:l.map opc=es at h;cases h with
 |sl a cap sz es o b A u hc hz hm ha hsz hd hx=>have H:es.length=l.length:=(by rw[<-G];simp);have g:∀i (h:i<l.length),es[i]?=some (opc l[i]):=λi h=>(by rw[<-G];exact xo h);refine⟨a,cap,by rw[H],a8,λj B=>?_⟩;obtain rfl:5=sz:=hsz 0 _ (g 0 a8);have F:es≠[]:=(by intro e;subst e;simp at H;omega);have d0:=(hx _ _ 0 _ (g j B) rfl).v_inv;have N:=(hx _ _ 1 _ (g j B) rfl).v_inv;have O:=(hx _ _ 2 _ (g j B) rfl).v_inv;have P:=(hx _ _ 3 _ (g j B) rfl).v_inv;have E:Dat D w (u (j*5+4)) (rg l[j].items):=hx _ _ 4 _ (g j B) rfl;have I:=(hd (j*5+0) a8).2.1;have J:=(hd (j*5+1) a8).2.1;have K:=(hd (j*5+2) a8).2.1;have L:=(hd (j*5+3) a8).2.1;have M:=(hd (j*5+4) a8).2.1;rw[d0]at I;rw[N]at J;rw[O]at K;rw[P]at L;obtain⟨ia,C,e4⟩:=zK E;rw[e4]at M E;exact⟨b,A,ia,C,ha F,by simpa using (hd 0 a8).1,I,J,K,L,M,E⟩
def zup{e:TypeId}{z:Value}{size A:Nat}(H:(xt.info? e).map (λi=>(i.zero,i.size,i.bytes))=some (some z,size,A))(hzs:z.cells.size=size)(O:0<size)(M:A<=40)(w:World)(t U:TypeId)(ht:xt.underlying t=some (.slice e))(base:Nat)(v:Value)(n:Nat)(V:List Value)(B:w.ownsRow base e size v n V)(J:Option Addr)(m c:Nat)(o:List Value)(hl:o.length=m*size)
 (E:(m=0/\J=none)\/∃a,J=some a/\∀j u,o[j]?=some u->w.cell? (a.add j)=some u) (h1:∀u∈o,u.oneCell'=true) (L:n+m<=17179869) (C:base<=w.heap.size) :
 ∃F I,(Builtin.append_ #[t,t] U #[v,.slice J m c]).run xt w=.ok F I/\I.ownsRow base e size F (n+m) (V++o)/\w.grownBy I v.ownBlock/\(F.ownBlock=v.ownBlock\/F.ownBlock=some w.heap.size):=by
 obtain⟨X,G,Q,S,T⟩:=tR H;rcases E with⟨rfl,rfl⟩|⟨a,rfl,hn⟩
 .obtain rfl:o=[]:=wY.1 a8;obtain⟨K,cp,rfl,N⟩:∃K cp,v=.slice K n cp/\n<=cp:=by
   rcases B.2 with⟨rfl,rfl⟩|⟨g,Y,Z,rfl,_,_,h,_⟩
   .exact⟨none,0,rfl,Zp _⟩
   .exact⟨_,_,rfl,h⟩
  exact⟨_,w,ve w t U _ X ht G K n cp c N,dK B,jW _ _,.inl rfl⟩
 .obtain⟨F,I,r1,r2,r3,_,r5⟩:=Tk (P:=xt) w base t U e X _ size A ht G Q S T hzs O v n V B a m c o hl hn h1 c8 (V0 (UR (V0 L (Zp 17179869)) M) a8) C;exact⟨F,I,r1,r2,r3,r5⟩
def zvQ:(xt.info? 76).map (λi=>(i.zero,i.size,i.bytes))=some (some zR,4,40):=dL
def ztc{H:Array Oper}{o:Oper}{a:Act}{w:World}{K:Act->World->Prop}{Q:Exit->Act->World->Prop}{E:Prop}(s x:Operand)(t:TypeId)(M:o.guard=none)
 (ho:o.op=.call { callee:=.builtin .append,args:=#[s,x],argTypes:=#[t,t] }) (ht:xt.underlying t=some (.slice 76)) (base:Nat) (v:Value) (n:Nat) (N:List Value) (hs:a.eval s=v) (G:w.ownsRow base 76 4 v n N)
 (J:Option Addr) (m c:Nat) (A:List Value) (Y:a.eval x=.slice J m c) (U:A.length=m*4) (C:(m=0/\J=none)\/∃a,J=some a/\∀j u,A[j]?=some u->w.cell? (a.add j)=some u) (O:∀u∈A,u.oneCell'=true) (L:n+m<=17179869) (B:base<=w.heap.size)
 (h:∀F I,I.ownsRow base 76 4 F (n+m) (N++A)->w.grownBy I v.ownBlock->(F.ownBlock=v.ownBlock\/F.ownBlock=some w.heap.size)->K (a.put o.dst F) I):if Region.wanted o (yielded H a.tmps)=true then Oper.wp xt o a w K Q else E:=by
 have X:Region.wanted o (yielded H a.tmps)=true:=by simp[Region.wanted,M]
 rw[Vm X];obtain⟨F,I,V,P,S,T⟩:=zup zvQ rfl b8 (Zp _) w t o.type ht base v n N G J m c A U C O L B;unfold Oper.wp execOp;simp only[ho,resolve,invoke,builtin,tH,tJ,tB,ui,WA,ub,hs,Y,V];exact h F I P S T
def zvY{w:World}{base A:Nat}(j:base<=A)(h:w.heap[A]?=some (.cells #[] 76 (0,0))):w.ownsRow base 76 4 (.slice (some ⟨A,0,none⟩) 0 0) 0 []:=⟨rfl,.inr ⟨A,0,#[],rfl,j,h,Zp _,X3 _,rfl,rfl⟩⟩
def bc1{w o:World}{a:Addr}{v:Value}(h:Below w.heap.size w o)(j:w.cell? a=some v):o.cell? a=some v:=(tp (h.block _ (tr w a j))).trans j
def zvj{w:World}{base size n:Nat}{e:TypeId}{v:Value}{u:List Value}(h:w.ownsRow base e size v n u):∃a n c,v=.slice a n c:=by
 rcases h.2 with⟨h,_⟩|⟨g,j,o,h,_⟩
 .exact⟨none,0,0,h⟩
 .exact⟨_,_,_,h⟩
def ztq:∀(l:List Rc)(q:Nat),(l.drop q).flatMap rcs=(l.flatMap rcs).drop (q*4)
 |l,0=>b6
 |[],q+1=>b6
 |x::l,q+1=>by rw[wM,ztq l q,Wk,show (q+1)*4=(rcs x).length+q*4 by simp[rcs];omega,List.drop_length_add_append]
def ztr:∀(l:List Rc)(q:Nat),(l.take q).flatMap rcs=(l.flatMap rcs).take (q*4)
 |l,0=>b6
 |[],q+1=>b6
 |x::l,q+1=>by rw[wP,Wk,ztr l q,Wk,show (q+1)*4=(rcs x).length+q*4 by simp[rcs];omega,List.take_length_add_append]
def ztU{w:World}{o:Nat}{vt:TypeId}{l:List Value}(h:w.heap[o]?=some (.cells l.toArray vt (0,0))):∀j u,l[j]?=some u->w.cell? ((⟨o,0,none⟩:Addr).add j)=some u:=λj u A=>by rw[zh,wn];exact(zW h j u (dK A)).1
def ztl:∀{l:List Rc}{x:Rc}{k:Nat}(hk:k<=l.length),(∀j (h:j<l.length),j<k->l[j].item<x.item)->(∀h:k<l.length,¬l[k].item<x.item)->zr4 l x=l.take k++([x]++if h:k<l.length then (if l[k].item=x.item then l.drop (k+1) else l.drop k) else [])
 |[],x,k,hk,_,_=>by obtain rfl:k=0:=(dK hk);rfl
 | y::l,x,0,_,_,h2=>by
   have:=h2 b6;simp only[uy]at this;rw[zr4,Vq this];by_cases e:y.item=x.item<;>simp[e]
 |y::l,x,k+1,hk,h1,h2=>by have o:=h1 0 b6 a8;simp only[uy]at o;rw[zr4,Vm o,ztl (l:=l) (x:=x) (k:=k) (dK hk) (λj u w=>h1 (j+1) (dK u) a8) (λh=>h2 (dK h))];simp
end
def zp1(s:ByteArray)(c k:Int)(w:World)(F:HG w):Calls xt 47 #[.iface 145 (.agg #[.string s,.iface 115 (.agg #[.int .i64 c,.int .i64 k])]),.iface 167 (.pointer (some ⟨w.heap.size+1,0,none⟩))] ((w.alloc z2).alloc z2)
 λev j=>ev=.returned (.bool true)/\Below (w.heap.size+1) (w.alloc z2) j/\j.cell? ⟨w.heap.size+1,0,none⟩=some (.int .i64 c)/\j.cell? ⟨w.heap.size+1,1,none⟩=some (.int .i64 k):=by
 have A:∀o,o<2->((w.alloc z2).alloc z2).cell? ⟨w.heap.size+1,o,none⟩=some (.int .i64 0):=λo ho=>by
  have:w.heap.size+1=(w.alloc z2).heap.size:=b6;rw[this];unfold z2;match o,ho with
  |0,_=>simp
  |1,_=>simp
 have B:∀o,o<2->((w.alloc z2).alloc z2).frozen? ⟨w.heap.size+1,o,none⟩=false:=λo ho=>by
  have:w.heap.size+1=(w.alloc z2).heap.size:=b6;rw[this];unfold z2;match o,ho with
  |0,_=>simp
  |1,_=>simp
 refine(zqg s c k (w.heap.size+1) _ ((F.alloc _).alloc _) (A 0 a8) (A 1 a8) (B 0 a8) (B 1 a8)).mono ?_;rintro ev j ⟨rfl,hk,C,E⟩;refine⟨rfl,?_,C,E⟩;have u:Keep (λb=>b=w.heap.size+1) (w.alloc z2) j:=((Keep.refl _ (w.alloc z2)).alloc z2).trans hk;exact u.below b6 λq G e=>a8
def zqT(s:ByteArray)(c k:Int)(w:World)(H:HG w):Calls xt 54 #[.iface 145 (.agg #[.string s,.iface 115 (.agg #[.int .i64 c,.int .i64 k])])] w λe I=>e=.returned (.tuple #[.agg #[.int .i64 c,.int .i64 k],.bool true])/\Below w.heap.size w I:=by
 go_enter func54,ntmps54
 go_wp2_with (go_at_call 47;refine(zp1 s c k w H).mono ?_;rintro e j ⟨rfl,hb,C,E⟩;have u:j.cell? ⟨w.heap.size,0,none⟩=some (.int .i64 0):=(hb.cell (p:=⟨w.heap.size,0,none⟩) b6).trans (by unfold z2;simp);have A:j.cell? ⟨w.heap.size,1,none⟩=some (.int .i64 0):=(hb.cell (p:=⟨w.heap.size,1,none⟩) b6).trans (by unfold z2;simp);have F:j.frozen? ⟨w.heap.size,0,none⟩=false:=(hb.frozen (p:=⟨w.heap.size,0,none⟩) b6).trans (by unfold z2;simp);have G:j.frozen? ⟨w.heap.size,1,none⟩=false:=(hb.frozen (p:=⟨w.heap.size,1,none⟩) b6).trans (by unfold z2;simp);have o:Below w.heap.size w j:=((tv _ w).alloc (Zp _) _).trans (hb.mono a8))
 have B:(j.setCell ⟨w.heap.size,0,none⟩ (.int .i64 c)).cell? ⟨w.heap.size,0,none⟩=some (.int .i64 c):=tT _ _ _ u;have e1:((j.setCell ⟨w.heap.size,0,none⟩ (.int .i64 c)).setCell ⟨w.heap.size,1,none⟩ (.int .i64 k)).cell? ⟨w.heap.size,1,none⟩=some (.int .i64 k):=World.cell?_setCell_same' _ _ _ (by rw[Th _ _ _ _ b6,A];rfl);refine tA (v:=.tuple #[.agg #[.int .i64 c,.int .i64 k],.bool true]) (by simp[results,Tryz.results54,go_sem,B,e1,Result.andThen]) rfl ⟨rfl,?_⟩;exact tZ (tZ o b6 _) b6 _
def zpW(s:ByteArray)(x:Nat×Int)(o:x.1≠0):Cn xt 19 [zou s x] (.v (.int .i64 x.1)):=by unfold zou;rw[zmb o];refine KK rfl (enters_of func19 dL rfl) λD w C A B j u=>?_;have d0:=zo1 (u 0 _ rfl);rw[zjw j,d0];refine(zqS s x.1 x.2 w A).mono ?_;rintro e E ⟨rfl,hb⟩;exact⟨_,rfl,hb,.v _⟩
def zqA(s:ByteArray)(x:Nat×Int)(A:x.1≠0):Cn xt 54 [zou s x] (.tup [.agg [.v (.int .i64 x.1),.v (.int .i64 x.2)],.v (.bool true)]):=by
 unfold zou;rw[zmb A];refine KK rfl (enters_of func54 dL rfl) λD w F C E u B=>?_;have d0:=zo1 (B 0 _ rfl);rw[zjw u,d0];refine(zqT s x.1 x.2 w C).mono ?_;rintro e G ⟨rfl,hb⟩;refine⟨_,rfl,hb,.tup _ _ rfl λj p o=>?_⟩;match j,o with
 |0,o=>cases o;exact znT (.v _) (.v _) rfl rfl
 |1,o=>cases o;exact .v _
 |j+2,o=>simp at o
def zrc(s:ByteArray)(x:Nat×Int)(j:x.1≠0):Cn xt 23 [zou s x] (.v (.int .i64 x.2)):=by refine zt func23 1 ?_;refine pw ?_;exact .d (zqA s x j)
def zqK(s:ByteArray)(x:Nat×Int)(j:x.1≠0):Cn xt 41 [.v (.string s),jS x.1 x.2] (zou s x):=by
 unfold zou;rw[zmb j];refine zt func41 2 ?_;refine pw ?_;first|trivial|rfl|(unfold qv;rfl)|(simp[qv];done)
def ztT(k:List Fg)(items:List Iv)(x:Rc)(hi:Nrm items)(j:items.length<=1152921504606846976)(u:RightK k)(o:x.ctr<zk)(hz:QW k):Cn xt 44 [rcp x,.cp [rg items] 0,.cp [kp k] 0] (.v (.bool (mem items x.item && !hasK k x.item x.rep x.ctr))):=by
 refine zt func44 3 ?_;refine pw ?_;refine .c (ziQ items x.item hi j) ?_;refine .i ?_ ?_<;>intro h<;>first|refine pw ?_|exact pd
 .refine .c (zoW k x.item x.rep x.ctr u o hz) ?_;simp[h]
 .simp[h]
def zur(s:Iv)(x:Nat)(j:s.lo<=s.hi)(o:s.hi<zk)(u:x<zk):Cn xt 33 [Je s,.v (.int .u64 x)] (.v (.bool (decide (s.lo<=x) && decide (x<=s.hi)))):=by refine zt func33 2 ?_;refine pw ?_;have:=zw;rw[WD];simp only[VS,wG];omega
def zvM(s:Iv)(x:Rc)(j:s.lo<=s.hi)(o:s.hi<zk)(u:x.item<zk):Cn xt 32 [Je s,.cp (rcc x) 0] (.v (.bool (decide (s.lo<=x.item) && decide (x.item<=s.hi)))):=by refine zt func32 2 ?_;refine pw ?_;exact .d (zur s x.item j o u)
def ixH(x:Nat):Nat->List Iv->Int
 |_,[] =>-1
 |n,s::l=>if (decide (s.lo<=x) && decide (x<=s.hi))=true then n else ixH x (n+1) l
def zt5(x:Nat):∀(n:Nat)(l:List Iv),(0<=ixH x n l)↔mem l x=true
 |n,[]=>by simp[ixH,mem]
 | n,s::l=>by
   unfold ixH;have:=zt5 x (n+1) l;by_cases h:(decide (s.lo<=x) && decide (x<=s.hi))=true
   .rw[Vm h];simp only[mem,ut,h,Bool.true_or,iff_true];omega
   .rw[Vq h,this];simp only[mem,ut];rw[UD]at h;rw[h,uA]
def zvc(l:List Iv)(x:Rc)(hb:∀s∈l,s.lo<=s.hi/\s.hi<zk)(u:x.item<zk)(w:l.length<=1152921504606846976):Cn xt 69 [rg l,.fn (.func 32) [] [.cp (rcc x) 0]] (.v (.int .i64 (ixH x.item 0 l))):=by
 refine zt func69 2 ?_;refine pw ?_;refine pLoop.go (λk=>k<=l.length/\ixH x.item 0 l=ixH x.item k (l.drop k)) (λk=>[(8,.v (.int .i64 (k:Nat)))]) (λ_=>[]) (λk=>l.length-k) 0 [8] ?_ ?_ ?_
 .exact⟨X3 _,rfl⟩
 .exact pd
 .rintro k ⟨hk,j⟩;refine pw ?_;refine .i ?_ ?_<;>intro h<;>first|refine pw ?_|exact pd
  .rw[vD h,ixH]at j;refine pw ?_;have hs:=hb _ (XE h);refine .rd (zvM l[k] x hs.1 hs.2 u) rfl ?_;by_cases o:(decide (l[k].lo<=x.item) && decide (x.item<=l[k].hi))=true
   .rw[Vm o]at j;rw[o,j];exact pd
   .rw[Vq o]at j;simp only[UD]at o;rw[o];refine pw ?_;exact⟨k+1,⟨h,j⟩,a8,rfl⟩
  .rw[j,wA a8];rfl
def ztQ(l:List Iv)(x:Rc)(hb:∀s∈l,s.lo<=s.hi/\s.hi<zk)(o:x.item<zk)(j:l.length<=1152921504606846976):Cn xt 31 [rg l,.fn (.func 32) [] [.cp (rcc x) 0]] (.v (.bool (mem l x.item))):=by refine zt func31 2 ?_;refine pw ?_;refine .c (zvc l x hb o j) ?_;rw[WD,wG,zt5]
def ztW(l:List Iv)(x:Rc)(hb:∀s∈l,s.lo<=s.hi/\s.hi<zk)(o:x.item<zk)(j:l.length<=1152921504606846976):Cn xt 30 [rcp x,.cp [rg l] 0] (.v (.bool (mem l x.item))):=by refine zt func30 2 ?_;refine pw ?_;exact .d (ztQ l x hb o j)
section
attribute [-go_sem] z7
def zsI{f:FuncId}{A:List PV}{x:Value}(E:Cn xt f A (.v x)){D:xT}{w:World}{vs:Array Value}(B:Gd D w)(o:vs.size=A.length)(j:∀(i:Nat) p,A[i]?=some p->Dat D w (vs.getD i undef) p):Calls xt f vs w λe C=>e=.returned x/\Below w.heap.size w C:=by refine(jP E B.1 B.2 o j).mono ?_;rintro e C ⟨u,rfl,hb,j⟩;rw[(Rel.dat (ρ:=λ_=>0) (nb:=0) j).v_inv];exact⟨rfl,hb⟩
def ztx{D:xT}{w:World}{b:Nat}{v:Value}{p:PV}{t:TypeId}(h:w.heap[b]?=some (.cells #[v] t (0,0)))(A:D b 0)(u:v.oneCell'=true)(B:Dat D w v p):Dat D w (.pointer (some ⟨b,0,none⟩)) (.cp [p] 0):=
 .cp b 0 [p] 0 (λ_=>v) (λj C=>by
  obtain rfl:j=0:=(dK C);exact⟨A,(zW h 0 _ rfl).1,u⟩) λj q o=>by
  match j,o with
  |0,o=>cases o;exact B
def zum{C:Qk}{R E I:List Nat}{n t b m:Nat}{D:xT}{w:World}{s:Rs}{items:List Iv}{ia:Option Addr}{ic:Nat}(e:Env25 C R E I)(h:Ok25 C R E I n s)(Z:Rpl D t w b m s)(Y:Gd D w)(hi:∀s∈items,s.lo<=s.hi/\s.hi<zk)(ab:items.length<=1000000)(d:Dat D w (.slice ia items.length ic) (rg items)):
 Calls xt 12 #[.pointer (some ⟨b,0,none⟩),.slice ia items.length ic] w λe X=>∃a c,e=.returned (.slice a (s.recs.filter λx=>mem items x.item).length c)/\Below w.heap.size w X/\Dat (Nw D w X) X (.slice a (s.recs.filter λx=>mem items x.item).length c) (lp (s.recs.filter λx=>mem items x.item)):=by
 obtain⟨A,u⟩:=xm (w.alloc (.cells #[.slice ia items.length ic] 24));have B:Below w.heap.size w A:=by rw[u];exact(tv _ w).alloc (Zp _) _
 have ac:A.heap.size=w.heap.size+1:=by rw[u];exact tx _ _
 have O:A.heap[w.heap.size]?=some (.cells #[.slice ia items.length ic] 24 (0,0)):=by rw[u];exact tq w _
 have F:Keep qe w A:=Keep.of_below' B (Zp _);have J:Rpl D t A b m s:=Z.keep F id id λb o h=>⟨h,id⟩;have M:=ztO (q:=λx=>mem items x.item) (f := 30) (cap:=#[.pointer (some ⟨w.heap.size,0,none⟩)]) J h.a (by have:=h.len e;omega) (λx N=>(e.m _ (h.x x N).1).1) (enters_of func30 dL rfl) λx N W T=>by
  have K:Keep qe w W:=F.trans (Keep.of_below' T (Zp _));have H:Gd (Nw D w A) W:=(by have S:=Y.keep K λ_ _ _=>id;refine⟨S.1.mono (λ_ _ h=>.inl h) λ_ _ _ _ h=>h,λb o h=>h.elim (S.2 b o) λh=>vw h.2 T.size⟩);have V:Dat (Nw D w A) W (.slice ia items.length ic) (rg items):=d.mono (λ_ _ h=>.inl h) λb o x hd N=>K.cell_some N id;refine cn_bool (ztW items x hi (e.m _ (h.x x N).1).1 a8) H.1 H.2 rfl λj p G=>?_;match j,G with
  |0,G=>cases G;exact ztb x
  |1,G=>cases G;exact ztx ((T.block _ a8).trans O) (.inr ⟨Zp _,a8⟩) rfl V
  |j+2,G=>simp at G
 have Q:=qL M;have P:=qL B;clear M J O B Z Y d F;go_enter func12,ntmps12
 go_wp2_with (go_at_call 29;rw[<-u];refine Q.o.mono ?_;rintro e w2 ⟨v,rfl,U,L⟩;obtain⟨a2,c2,rfl⟩:=L.val)
 go_ret;exact⟨_,_,rfl,P.o.trans (U.mono a8),L.dat λb o S h2=>.inr ⟨a8,h2⟩⟩
def bc0{w o:World}{a:Addr}{v:Value}(h:Below w.heap.size w o)(j:w.cell? a=some v):o.cell? a=some v:=(tp (h.block _ (tr w a j))).trans j
def zt3{D:xT}{w:World}{v:Value}{c k:Int}(h:Dat D w v (.ifc 115 (.agg [.v (.int .i64 c),.v (.int .i64 k)]))):v=.iface 115 (.agg #[.int .i64 c,.int .i64 k]):=by
 cases h with
 | ifc t x p h=>
   cases h with
   | agg vs cs hs h1 h=>
     have j:=(Rel.dat (ρ:=λ_=>0) (nb:=0) (h 0 _ rfl)).v_inv;have o:=(Rel.dat (ρ:=λ_=>0) (nb:=0) (h 1 _ rfl)).v_inv;obtain⟨l⟩:=vs;match l,hs with
     |[p,q],_=>simp at j o;rw[j,o]
def Ke.zz{C:Qk}{R E I:List Nat}{k:List Fg}(h:Ke C R E k)(e:Env25 C R E I):QW k:=h.kn.z (by have:=e.e;omega)
def ztv{k:List Fg}(o:RightK k)(hz:QW k):Cn xt 40 [kp k] (.v .nilIface):=by have j:BdK k:=BdK.of o hz;have:=Vh k j hz;rw[yk ((ZN j).2 o)]at this;exact this
def OwnL.base{e:TypeId}{b j:Nat}{w:World}{v:Value}{l:List Rc}(h:OwnL e b w v l)(hb:j<=b):OwnL e j w v l:=⟨h.1,h.2.imp id λ⟨g,cap,cur,q1,q2,q3⟩=>⟨g,cap,cur,q1,V0 hb q2,q3⟩⟩
def zul{C:Qk}{R E I:List Nat}{n t b m:Nat}{D:xT}{w:World}{s:Rs}{k:List Fg}{items:List Iv}{ka ia:Option Addr}{U T:Nat}(e:Env25 C R E I)(h:Ok25 C R E I n s)(hn:n<=26)(hR:Rpl D t w b m s)(hG:Gd D w)(hr:RightK k)(hz:QW k)(dk:Dat D w (.slice ka k.length U) (kp k))(hi:Nrm items)(ai:items.length<=1000)(d:Dat D w (.slice ia items.length T) (rg items)):
 Calls xt 17 #[.pointer (some ⟨b,0,none⟩),.slice ka k.length U,.slice ia items.length T] w λe V=>∃a c,e=.returned (.tuple #[.slice a (zs0 s k items).length c,.nilIface])/\Below w.heap.size w V/\OwnL 47 w.heap.size V (.slice a (zs0 s k items).length c) (zs0 s k items):=by
 obtain⟨A,H⟩:=xm ((w.alloc (.cells #[.slice ka k.length U] 54)).alloc (.cells #[.slice ia items.length T] 24));have N:Below w.heap.size w A:=by rw[H];exact((tv _ w).alloc (Zp _) _).alloc b6 _
 have aj:A.heap.size=w.heap.size+2:=by rw[H];simp
 have S:A.heap[w.heap.size]?=some (.cells #[.slice ka k.length U] 54 (0,0)):=by rw[H];exact Tu _ _ _
 have L:A.heap[w.heap.size+1]?=some (.cells #[.slice ia items.length T] 24 (0,0)):=by rw[H];exact TC _ _ _
 have B:∀W,Below A.heap.size A W->Gd (Nw D w A) W/\Dat (Nw D w A) W (.slice ka k.length U) (kp k)/\Dat (Nw D w A) W (.slice ia items.length T) (rg items)/\Rpl D t W b m s:=λW J=>by have K:Keep qe w W:=(Keep.of_below' N (Zp _)).trans (Keep.of_below' J (Zp _));have h1:=hG.keep K λ_ _ _=>id;exact⟨⟨h1.1.mono (λ_ _ h=>.inl h) λ_ _ _ _ h=>h,λb o h=>h.elim (h1.2 b o) λh=>vw h.2 J.size⟩,dk.mono (λ_ _ h=>.inl h) λb o x hd Q=>K.cell_some Q id,d.mono (λ_ _ h=>.inl h) λb o x hd Q=>K.cell_some Q id,hR.keep K id id λb o h=>⟨h,id⟩⟩
 have hM:=zw;have X:=λW J=>zsI (ztv hr hz) (B W J).1 (vs:=#[.slice ka k.length U]) rfl λj p u=>by
  match j,u with
  |0,u=>cases u;exact(B W J).2.1
  |j+1,u=>simp at u
 have Z:=λW J=>zsI (zpJ items hi a8) (B W J).1 (vs:=#[.slice ia items.length T]) rfl λj p u=>by
  match j,u with
  |0,u=>cases u;exact(B W J).2.2.1
  |j+1,u=>simp at u
 have ab:∀M,Below A.heap.size A M->Calls xt 29 #[.pointer (some ⟨b,0,none⟩),.func (.func 44) #[] #[.pointer (some ⟨w.heap.size+1,0,none⟩),.pointer (some ⟨w.heap.size,0,none⟩)]] M λe V=>∃v,e=.returned v/\Below M.heap.size M V/\OwnL 47 M.heap.size V v (zs0 s k items):=λM P=>
  ztO (q:=λx=>mem items x.item && !hasK k x.item x.rep x.ctr) (B M P).2.2.2 h.a (by have:=h.len e;omega) (λx Q=>(e.m _ (h.x x Q).1).1) (enters_of func44 dL rfl) λx Q W J=>by
   have O:=P.trans (J.mono P.size);obtain⟨g1,g2,g3,_⟩:=B W O;refine cn_bool (ztT k items x hi a8 hr (by have:=h.x x Q;omega) hz) g1.1 g1.2 rfl λj p u=>?_;match j,u with
   |0,u=>cases u;exact ztb x
   |1,u=>cases u;exact ztx ((O.block _ a8).trans L) (.inr ⟨a8,a8⟩) rfl g3
   |2,u=>cases u;exact ztx ((O.block _ a8).trans S) (.inr ⟨a8,a8⟩) rfl g2
   |j+3,u=>simp at u
 have c0:A.cell? ⟨w.heap.size,0,none⟩=some (.slice ka k.length U):=(zW S 0 _ rfl).1;have c1:A.cell? ⟨w.heap.size+1,0,none⟩=some (.slice ia items.length T):=(zW L 0 _ rfl).1;have HX:=qL L;have ad:=qL X;have ae:=qL Z;have af:=qL ab;have ac:=qL N;clear B X Z ab S L N hR hG dk d h hr hz;go_enter func17,ntmps17
 go_wp2_with (first
  |(go_at_call 40;rw[<-H];refine(ad.o A (tv _ _)).mono ?_;rintro e w2 ⟨rfl,G⟩;have d0:=bc0 G c0;have d1:=bc0 G c1)
  |(go_at_call 42;refine(ae.o _ G).mono ?_;rintro e w3 ⟨rfl,ag⟩;have F:=G.trans (ag.mono G.size);have d3:=bc0 F c0;have d4:=bc0 F c1)
  |(go_at_call 43;refine(As.Is_nil _ _).mono ?_;rintro e V ⟨rfl,rfl⟩)
  |(go_at_call 29;refine(af.o _ F).mono ?_;rintro e w5 ⟨v,rfl,ah,Y⟩;obtain⟨a5,c5,rfl⟩:=Y.val))
 refine tA (t9 rfl _ _ _) rfl ?_;exact⟨_,_,rfl,ac.o.trans ((F.mono a8).trans (ah.mono (by have:=F.size;omega))),Y.base (by have:=F.size;omega)⟩
def zvu{c d:Prop}[Decidable c][Decidable d]{x:Nat×Int}{i:Int}(ih:x.1≠0->x.1=2\/x.1=3)(h:(if c then (if d then x else (3,i)) else (2,i)).1≠0):(if c then (if d then x else (3,i)) else (2,i)).1=2\/(if c then (if d then x else (3,i)) else (2,i)).1=3:=by
 by_cases j:c
 .rw[Vm j]at h⊢;by_cases o:d
  .rw[Vm o]at h⊢;exact ih h
  .rw[Vq o];exact .inr rfl
 .rw[Vq j];exact .inl rfl
def zth:∀(l:List Iv)(p:Option Iv)(i:Nat),(QZ p l i).1≠0->(QZ p l i).1=2\/(QZ p l i).1=3
 |[],p,i,h=>absurd (by simp[QZ]) h
 |s::l,p,i,h=>zvu (zth l (some s) (i+1)) h
def zvL{f:FuncId}{A:List PV}{c k:Int}(E:Cn xt f A (.ifc 115 (.agg [.v (.int .i64 c),.v (.int .i64 k)]))){D:xT}{w:World}{vs:Array Value}(B:Gd D w)(o:vs.size=A.length)(j:∀(i:Nat) p,A[i]?=some p->Dat D w (vs.getD i undef) p):Calls xt f vs w λe C=>e=.returned (.iface 115 (.agg #[.int .i64 c,.int .i64 k]))/\Below w.heap.size w C:=by refine(jP E B.1 B.2 o j).mono ?_;rintro e C ⟨u,rfl,hb,j⟩;rw[zt3 j];exact⟨rfl,hb⟩
def sRp:ByteArray:=⟨#[114,101,112,108,105,99,97]⟩
def erV(x:Nat×Int):Value:=.iface 145 (.agg #[.string sRp,.iface 115 (.agg #[.int .i64 x.1,.int .i64 x.2])])
def zu7{D:xT}{w:World}{v:Value}{x:Nat×Int}(u:x.1≠0)(h:Dat D w v (zou sRp x)):v=erV x:=by
 unfold zou at h;rw[zmb u]at h;cases h with
 | ifc t x p h=>
   cases h with
   | agg vs cs hs h1 h=>
     have j:=(Rel.dat (ρ:=λ_=>0) (nb:=0) (h 0 _ rfl)).v_inv;have o:=zt3 (h 1 _ rfl);obtain⟨l⟩:=vs;match l,hs with
     |[p,q],_=>simp at j o;rw[j,o];rfl
def ztI{D:xT}{w:World}{b:Nat}{k:List Fg}{items:List Iv}{ka ia:Option Addr}{S Q:Nat}(hG:Gd D w)(hr:RightK k)(hz:QW k)(dk:Dat D w (.slice ka k.length S) (kp k))(hi:∀s∈items,s.lo<zk/\s.hi<zk)(V:(Zl items).1≠0)(ag:items.length<=1000000)(d:Dat D w (.slice ia items.length Q) (rg items)):
 Calls xt 17 #[.pointer (some ⟨b,0,none⟩),.slice ka k.length S,.slice ia items.length Q] w λe w'=>e=.returned (.tuple #[.slice none 0 0,erV (Zl items)])/\Below w.heap.size w w':=by
 obtain⟨E,G⟩:=xm ((w.alloc (.cells #[.slice ka k.length S] 54)).alloc (.cells #[.slice ia items.length Q] 24));have K:Below w.heap.size w E:=by rw[G];exact((tv _ w).alloc (Zp _) _).alloc b6 _
 have ah:E.heap.size=w.heap.size+2:=by rw[G];simp
 have Y:E.heap[w.heap.size]?=some (.cells #[.slice ka k.length S] 54 (0,0)):=by rw[G];exact Tu _ _ _
 have Z:E.heap[w.heap.size+1]?=some (.cells #[.slice ia items.length Q] 24 (0,0)):=by rw[G];exact TC _ _ _
 have B:∀W,Below E.heap.size E W->Gd D W/\Dat D W (.slice ka k.length S) (kp k)/\Dat D W (.slice ia items.length Q) (rg items):=λW H=>by have L:Keep qe w W:=(Keep.of_below' K (Zp _)).trans (Keep.of_below' H (Zp _));exact⟨hG.keep L λ_ _ _=>id,dk.mono (λ_ _ h=>h) λb o x hd J=>L.cell_some J id,d.mono (λ_ _ h=>h) λb o x hd J=>L.cell_some J id⟩
 have X:=λW H=>zsI (ztv hr hz) (B W H).1 (vs:=#[.slice ka k.length S]) rfl λj p A=>by
  match j,A with
  |0,A=>cases A;exact(B W H).2.1
  |j+1,A=>simp at A
 have M:=rcheck_c items hi a8 (.inr (KL 2));have O:=zqK sRp (Zl items) V;rw[zmb V]at M O;have N:=λW H=>zvL M (B W H).1 (vs:=#[.slice ia items.length Q]) rfl λj p A=>by
  match j,A with
  |0,A=>cases A;exact(B W H).2.2
  |j+1,A=>simp at A
 have P:∀W,Below E.heap.size E W->Calls xt 41 #[.string sRp,.iface 115 (.agg #[.int .i64 (Zl items).1,.int .i64 (Zl items).2])] W λe w'=>e=.returned (erV (Zl items))/\Below W.heap.size W w':=λW H=>by
  refine(jP O (B W H).1.1 (B W H).1.2 rfl λj p A=>?_).mono ?_
  .match j,A with
   |0,A=>cases A;exact .v _
   |1,A=>cases A;exact .ifc _ _ _ (znT (.v _) (.v _) rfl rfl)
   |j+2,A=>simp at A
  .rintro e w' ⟨u,rfl,hb,hd⟩;rw[zu7 V hd];exact⟨rfl,hb⟩
 have c0:E.cell? ⟨w.heap.size,0,none⟩=some (.slice ka k.length S):=(zW Y 0 _ rfl).1;have c1:E.cell? ⟨w.heap.size+1,0,none⟩=some (.slice ia items.length Q):=(zW Z 0 _ rfl).1;have I:=zth items none 0 V;obtain⟨x,J⟩:=xm (Zl items);rw[<-J]at N P;rw[<-J];replace I:x.1=2\/x.1=3:=by rw[J];exact I
 have ac:=qL X;have T:=qL N;have U:=qL P;have ab:=qL K;clear B X N P Y Z K hG dk d hr hz M O hi V J;obtain⟨c,p⟩:=x;dsimp only at I T U;rcases I with rfl|rfl;all_goals
  go_enter func17,ntmps17
  go_wp2_with (first
   |(go_at_call 40;rw[<-G];refine(ac.o E (tv _ _)).mono ?_;rintro e w2 ⟨rfl,F⟩;have d0:=bc0 F c0;have d1:=bc0 F c1)
   |(go_at_call 42;refine(T.o _ F).mono ?_;rintro e w3 ⟨rfl,ad⟩;have C:=F.trans (ad.mono F.size))
   |(go_at_call 43;refine(As.Is_FN _ _ _ _).mono ?_;rintro e w' ⟨rfl,ae⟩;replace C:=C.trans (ae.mono C.size))
   |(go_at_call 41;refine(U.o _ C).mono ?_;rintro e w6 ⟨rfl,af⟩))
  refine tA (t9 rfl _ _ _) rfl ?_;exact⟨rfl,ab.o.trans ((C.mono a8).trans (af.mono (by have:=C.size;omega)))⟩
end
section
def zsV(x:Int):Nat:=((x%18446744073709551616)%3).toNat
def zs5(x:Int):zsV x<3:=by unfold zsV;omega
def ztC(S:Nat->Rs)(i:Nat)(s:Rs):Nat->Rs:=λk=>if k=i then s else S k
noncomputable def zsY (S:Nat->Rs) (o:Opn):Nat->Rs:=
 if o.items.length=0 then ztC S (zsV o.who) (ztM (S (zsV o.who)) o.item o.val)
 else if (Zl o.items).1=0 then ztC S (zsV o.who) (ztt (S (zsV o.who)) (S (zsV o.from_)) o.items) else S
def S0:Nat->Rs:=λi=>⟨10*i,[],[],0⟩
def OkS(C:Qk)(R E I:List Nat)(n:Nat)(S:Nat->Rs):Prop:=∀i,i<3->Ok25 C R E I n (S i)
def OpE(E I:List Nat)(o:Opn):Prop:=(∀s∈o.items,s.lo<zk/\s.hi<zk)/\o.val.size<=100/\o.items.length<=10/\o.item∈I/\∀x∈z6 o.items,x∈E
section
variable {C:Qk}{R E I:List Nat}{n:Nat}{S:Nat->Rs}{o:Opn}
def OpE.ed(h:OpE E I o)(u:(Zl o.items).1=0):Nrm o.items/\∀x,Ed o.items x->x∈E:=by have j:Nrm o.items:=(YT λs hs=>(h.1 s hs).2).1 u;refine⟨j,λx w=>?_⟩;exact h.2.2.2.2 x (Y3 (j.ivs2) w)
def OkS.mono{m:Nat}(h:OkS C R E I n S)(j:n<=m):OkS C R E I m S:=λi hi=>(h i hi).mono j
def OkS.upd{m:Nat}{j:Nat}{s:Rs}(h:OkS C R E I n S)(o:n<=m)(hs:Ok25 C R E I m s):OkS C R E I m (ztC S j s):=λi hi=>by
 unfold ztC;split
 .exact hs
 .exact(h i hi).mono o
def OkS.step(h:OkS C R E I n S)(e:Env25 C R E I)(ho:OpE E I o)(w:n<=25):OkS C R E I (n+1) (zsY S o):=by
 have j:=h _ (zs5 o.who);have u:=h _ (zs5 o.from_);unfold zsY;split
 .exact h.upd a8 (j.put e ho.2.2.2.1 ho.2.1 w)
 .split
  .rename_i hc;exact h.upd a8 ((j.pull u e (ho.ed hc).1 (ho.ed hc).2 ho.2.2.1).mono a8)
  .exact h.mono a8
end
def zwf{C:Qk}{R E I:List Nat}(j:∀i,i<3->10*i∈R):OkS C R E I 0 S0:=λi hi=>
 ⟨Ke.nil,List.Pairwise.nil,λx o=>by simp[S0]at o,Zp _,by unfold S0;have:=zw;dsimp only;omega,j i hi⟩
def edO(l:List Opn):List Nat:=0::l.flatMap λo=>o.item::(o.item+1)::z6 o.items
def zt4:∀(l:List Opn),(∀o∈l,o.items.length<=10)->(edO l).length<=1+l.length*22
 |[],_=>by simp[edO]
 |o::l,h=>by have j:=zt4 l λx u=>h x (by simp[u]);have w:=h o b6;have A:=vq o.items;simp only[edO,ww,Wk,wi]at j⊢;omega
def ztG{l:List Opn}(h:ztR l=true):l.length<=25/\∀o∈l,o.val.size<=100/\o.items.length<=10:=by simp[ztR]at h;exact h
def zu9{l:List Opn}(h:ztR l=true)(hb:∀o∈l,BdO o):Env25 (λ_=>List.range 27) [0,10,20] (edO l) (l.map Opn.item)/\∀o∈l,OpE (edO l) (l.map Opn.item) o:=by obtain⟨A,w⟩:=ztG h;have B:=zt4 l λo ho=>(w o ho).2;have j:∀o∈l,∀x∈o.item::(o.item+1)::z6 o.items,x∈edO l:=λo ho x u=>Wj _ (um.2 ⟨o,ho,u⟩);refine⟨⟨⟨λr=>b6,b6⟩,λr x u=>a9,by simp[edO],a8,dK A,λi hi=>?_⟩,λo ho=>⟨(hb o ho).2.2.2.1,(w o ho).1,(w o ho).2,List.mem_map_of_mem ho,λx u=>j o ho x (by simp[u])⟩⟩;obtain⟨o,ho,rfl⟩:=wD.1 hi;exact⟨(hb o ho).2.1,j o ho _ b6,λ_=>j o ho _ b6⟩
end
section
attribute [-go_sem] z7
def smO(o:Opn):Bool:=decide (o.val.size<=100) && decide (o.items.length<=10)
def zwj{D:xT}{w:World}{l:List Opn}{ia:Option Addr}{ic:Nat}(hd:Dat D w (.slice ia l.length ic) (opp l))(ad:l.length<=9223372036854775807)(P:∀o∈l,o.val.size<=maxLen/\o.items.length<=9223372036854775807):
 Calls xt 6 #[.slice ia l.length ic] w λe w'=>e=.returned (.bool (ztR l))/\Below w.heap.size w w':=by
 obtain⟨a,c,ev,hc,C⟩:=ztV hd;obtain⟨rfl,rfl⟩:ia=a/\ic=c:=dK ev
 obtain⟨n,S⟩:=xm (l.length);have N:∀W,Below w.heap.size w W->∀j,j<n->∃o∈l,o=l.getD j default/\∃g u T U,ia=some ⟨g,u,none⟩/\W.cell? ⟨g,u+j*5,none⟩=some (.int .i64 o.who)/\W.cell? ⟨g,u+j*5+1,none⟩=some (.int .i64 o.from_)/\W.cell? ⟨g,u+j*5+2,none⟩=some (.int .u64 o.item) /\
  W.cell? ⟨g,u+j*5+3,none⟩=some (.string o.val)/\W.cell? ⟨g,u+j*5+4,none⟩=some (.slice T o.items.length U):=λW M j hj=>by
  have B:j<l.length:=a8;obtain⟨g,u,T,U,h1,_,h2,h3,h4,h5,h6,_⟩:=C j B;refine⟨l[j],XE B,by rw[vj,Zv B];rfl,g,u,T,U,h1,bc0 M h2,?_,?_,?_,?_⟩
  .rw[Ww];exact bc0 M h3
  .rw[Ww];exact bc0 M h4
  .rw[Ww];exact bc0 M h5
  .rw[Ww];exact bc0 M h6
 have O:ztR l=(decide (n<=25) && l.all smO):=by rw[S];rfl
 have X:=qL O;have V:=qL N;have Y:=qL P;have HN:=qL S;rw[<-S]at hc ad⊢;clear O N P C hd S ev;go_enter func6,ntmps6
 by_cases ae:25<n
 .have L:(25:Int)<n:=a8
  go_wp2;go_ret;refine⟨?_,tv _ _⟩;rw[X.o,WE a8];rfl
 .have L:¬(25:Int)<n:=a8
  go_wp2_with fail
  go_loopg [10] n (λg x wr=>∃j,j<=n/\g=n-j/\x=.int .i64 j/\Below w.heap.size w wr/\(l.take j).all smO=true)
  case atStart=>exact⟨0,X3 _,rfl,rfl,tv _ _,rfl⟩
  case round=>
   obtain⟨j,hj,rfl,rfl,I,G⟩:=hrel;have A:=qL I;have E:=qL G;by_cases J:j<n
   .obtain⟨o,ho,Q,g,u,T,U,rfl,c0,c1,c2,c3,c4⟩:=V.o wr I j J;have ac:=Y.o o ho;have Z:=qL Q;have HO:=qL ho;unfold maxLen at ac;clear I G Q ho;have H:smO o=false->ztR l=false:=λh=>by
     rw[X.o];have:l.all smO=false:=by rw[List.all_eq_false];exact⟨o,HO.o,by rw[h];decide⟩
     rw[this,Bool.and_false]
    have F:=qL H;clear H;by_cases h1:100<o.val.size
    .have K:(100:Int)<o.val.size:=a8
     go_wp2_with fail
     go_ret;exact⟨by rw[F.o (by unfold smO;rw[WE a8];rfl)];rfl,A.o.alloc A.o.size _⟩
    .by_cases h2:10<o.items.length
     .have K:¬(100:Int)<o.val.size:=a8;have ab:(10:Int)<o.items.length:=a8
      go_wp2_with fail
      go_ret;exact⟨by rw[F.o (by unfold smO;rw[WE (p:=o.items.length<=10) a8,Bool.and_false])];rfl,A.o.alloc A.o.size _⟩
     .have K:¬(100:Int)<o.val.size:=a8;have ab:¬(10:Int)<o.items.length:=a8
      go_wp2_with fail
      go_roundg (n-(j+1));case measure=>omega
      case rel=>refine⟨j+1,J,rfl,rfl,A.o.alloc A.o.size _,?_⟩;have B:j<l.length:=(by rw[<-HN.o];exact J);have e:l[j]=o:=(by rw[Z.o,vj,Zv B];rfl);rw[X4 B,List.all_append,E.o,e];simp[smO];omega
   .obtain rfl:j=n:=a8
    go_wp2_with fail
    go_ret;refine⟨?_,A.o⟩;have h:=E.o;rw[wm (by rw[HN.o];exact Zp _)]at h;rw[X.o,h,uF a8];rfl
end
def zqB(z:Value)(n:Nat):(madeCells #[z,z] (n*2)).toList=List.replicate (n*2) z:=by
 apply Uq;intro j;by_cases u:j<n*2
 .have o:j%2=0\/j%2=1:=a8;rcases o with o|o<;>simp[madeCells,u,o]
 .simp[madeCells,u]
def OutG.zeros{C:xT}{mb base g n:Nat}{w:World}(ho:w.ownsRow base 59 2 (.slice (some ⟨g,0,none⟩) n n) n (List.replicate (n*2) (.slice none 0 0))):OutG C mb base w (.slice (some ⟨g,0,none⟩) n n) (List.replicate n ⟨[],[]⟩):=by
 refine⟨List.replicate (n*2) (.slice none 0 0),⟨by rw[ta];exact ho,b6,λu o=>by rw[List.eq_of_mem_replicate o];rfl⟩,λi hi=>?_⟩;have j:i<n:=dK hi
 refine⟨.slice none 0 0,.slice none 0 0,by rw[U1,Vm a8],by rw[U1,Vm a8],?_,?_⟩
 .rw[U5];exact zog
 .rw[U5];exact zog
def OutG.setW{C:xT}{H base g:Nat}{w:World}{A:Nat}{o:List Fg}{l:List En}{a0:Value}{i n:Nat}(U:o.length=n)(h:OutG C H base w (.slice (some ⟨g,0,none⟩) n A) o)(hi:i<o.length)(N:Dat (DX C H w (.slice (some ⟨g,0,none⟩) n A)) w a0 (vp l))(O:0<A):
 OutG C H base (w.setCell ⟨g,i*2+1,none⟩ a0) (.slice (some ⟨g,0,none⟩) n A) (o.take i++⟨o[i].items,l⟩::o.drop (i+1)):=by
 subst U;obtain⟨Y,I,Q⟩:=h;have B:(o.take i++(⟨o[i].items,l⟩:Fg)::o.drop (i+1)).length=o.length:=a9
 obtain⟨X,Z⟩:=I.1.stored (i*2+1) a0;have J:(Value.slice (some ⟨g,0,none⟩) o.length A).ownBlock=some g:=by
  cases A with
  |zero=>omega
  |succ c=>rfl
 have E:∀{x:Value}{p:PV},Dat (DX C H w (.slice (some ⟨g,0,none⟩) o.length A)) w x p->Dat (DX C H (w.setCell ⟨g,i*2+1,none⟩ a0) (.slice (some ⟨g,0,none⟩) o.length A)) (w.setCell ⟨g,i*2+1,none⟩ a0) x p:=λh=>
  DX.keep h b6 λk hk L=>tz _ _ _ _ λe=>L (by rw[J];exact WR some e.symm)
 refine⟨Y.set (i*2+1) a0,⟨by rw[B];exact X,by rw[B,Ui];exact I.2.1,λu M=>?_⟩,λj P=>?_⟩
 .rcases Ud M with M|rfl
  .exact I.2.2 u M
  .exact zeu N
 .have K:j<o.length:=(by rw[B]at P;exact P);obtain⟨a,b,c,d,e,k⟩:=Q j K;have V:=I.2.1;by_cases G:j=i
  .subst G;have F:(o.take j++(⟨o[j].items,l⟩:Fg)::o.drop (j+1))[j]=⟨o[j].items,l⟩:=by rw[Wy (by rw[We];exact UJ _ _)];simp[W8 (uz hi)]
   rw[F];refine⟨a,a0,?_,?_,E e,E N⟩
   .rw[wW a8];exact c
   .rw[WP a8]
  .have F:(o.take i++(⟨o[i].items,l⟩:Fg)::o.drop (i+1))[j]=o[j]:=by
    rcases Nat.lt_or_gt_of_ne G with T|S
    .rw[ur a9,uX]
    .rw[Wy a9];obtain⟨m,rfl⟩:∃m,j=i+1+m:=⟨j-(i+1),a8⟩;simp only[We,W8 (uz hi),show i+1+m-i=m+1 by omega,WQ,Uu]
   rw[F];refine⟨a,b,?_,?_,E e,E k⟩
   .rw[wW a8];exact c
   .rw[wW a8];exact d
def OutG.put{C:xT}{B base g n:Nat}{w:World}{j:Nat}{o:List Fg}{f:Fg}{E F:Value}{i:Nat}(N:o.length=n)(h:OutG C B base w (.slice (some ⟨g,0,none⟩) n j) o)(hi:i<n)(M:Dat (DX C B w (.slice (some ⟨g,0,none⟩) n j)) w E (rg f.items))(hb:Dat (DX C B w (.slice (some ⟨g,0,none⟩) n j)) w F (vp f.vec))(u:0<j):
 OutG C B base ((w.setCell ⟨g,i*2,none⟩ E).setCell ⟨g,i*2+1,none⟩ F) (.slice (some ⟨g,0,none⟩) n j) (o.take i++f::o.drop (i+1)):=by
 subst N;have H:(Value.slice (some ⟨g,0,none⟩) o.length j).ownBlock=some g:=by
  cases j with
  |zero=>omega
  |succ c=>rfl
 have G:Dat (DX C B (w.setCell ⟨g,i*2,none⟩ E) (.slice (some ⟨g,0,none⟩) o.length j)) (w.setCell ⟨g,i*2,none⟩ E) F (vp f.vec):=
  DX.keep hb b6 λk hk I=>tz _ _ _ _ λe=>I (by rw[H];exact WR some e.symm)
 have L:=h.set hi M u;have A:(o.take i++(⟨f.items,o[i].vec⟩:Fg)::o.drop (i+1)).length=o.length:=a9
 have J:=OutG.setW (i:=i) (l:=f.vec) (a0:=F) A L (by rw[A];exact hi) G u;have ht:(o.take i).length=i:=a9
 have e1:(o.take i++(⟨f.items,o[i].vec⟩:Fg)::o.drop (i+1)).take i=o.take i:=by rw[Ws a8,wm a8]
 have e2:(o.take i++(⟨f.items,o[i].vec⟩:Fg)::o.drop (i+1)).drop (i+1)=o.drop (i+1):=by rw[UB,ht,wA a8,show i+1-i=1 by omega];rfl
 have K:(o.take i++(⟨f.items,o[i].vec⟩:Fg)::o.drop (i+1))[i]'(by rw[A];exact hi)=⟨f.items,o[i].vec⟩:=by rw[Wy a8];simp[ht]
 rw[e1,e2,K]at J;exact J
def zoL(k:List Fg)(items:List Iv)(j:Nat):List Fg:=(zl5 k items).take j++List.replicate (k.length-j) ⟨[],[]⟩
def zqq{k:List Fg}{items:List Iv}{j:Nat}(o:j<=k.length):(zoL k items j).length=k.length:=by have:(zl5 k items).length=k.length:=wB _;unfold zoL;rw[wi,We,ta];omega
def zp6(k:List Fg)(items:List Iv):zoL k items 0=List.replicate k.length ⟨[],[]⟩:=rfl
def zqp(k:List Fg)(items:List Iv):zoL k items k.length=zl5 k items:=by have:(zl5 k items).length=k.length:=wB _;unfold zoL;rw[wm a8,UP];simp
def zp5{k:List Fg}{items:List Iv}{j:Nat}(u:j<k.length):zoL k items (j+1)=(zoL k items j).take j++⟨qy fMeet k[j].items items,k[j].vec⟩::(zoL k items j).drop (j+1):=by
 have w:(zl5 k items).length=k.length:=wB _;have ht:((zl5 k items).take j).length=j:=by rw[We];omega
 have o:(zl5 k items)[j]'a8=⟨qy fMeet k[j].items items,k[j].vec⟩:=UC _;unfold zoL;rw[X4 a8,o,wU,Ws a8,wm (l:=(zl5 k items).take j) a8];congr 1;rw[UB,wA a8,ht,List.drop_replicate,show k.length-j-(j+1-j)=k.length-(j+1) by omega];rfl
section
attribute [-go_sem] z7 zae zaf Vr
def zqr{C:xT}{w0 w:World}{l:List Iv}{v:Value}(K:Nrm l)(J:l.length<=1152921504606846976)(I:Dat C w0 v (rg l))(E:∀b o,C b o->b<w0.heap.size)(H:GL C w0)(hb:Below w0.heap.size w0 w):
 Calls xt 42 #[v] w λe G=>e=.returned .nilIface/\Below w.heap.size w G:=by
 have F:∀b o x,C b o->w0.cell? ⟨b,o,none⟩=some x->w.cell? ⟨b,o,none⟩=some x:=λb o x h L=>(tp (a:=⟨b,o,none⟩) (hb.block b (E b o h))).trans L;refine(jP (D:=C) (zpJ l K J) (H.mono (λ_ _ h=>h) F) (λb o h=>vw (E b o h) hb.size) rfl (λi p j=>?_)).mono ?_
 .match i,j with
  |0,j=>cases j;exact I.mono (λ_ _ h=>h) F
  |i+1,j=>simp at j
 .rintro e G ⟨u,rfl,A,B⟩;have e:=(Rel.dat (ρ:=λ_=>0) (nb:=0) B).v_inv;rw[e];exact⟨rfl,A⟩
def zoa{B:Qk}{R:List Nat}{n m:Nat}(k:List Fg)(items:List Iv)(hk:Kn B R n k)(hi:Nrm items)(cn:items.length<=400000)(A:Kn B R m (zl5 k items))(ok:OkX B R)(hn:n<=400000)(hm:m<=40000):Cn xt 26 [kp k,rg items] (.tup [kp (znF k items),.v .nilIface]):=by
 refine yZ rfl (enters_of func26 dL rfl) λD w vs hG hD br V=>?_;have d0:Dat D w (vs.getD 0 undef) (kp k):=V 0 _ rfl;have U:Dat D w (vs.getD 1 undef) (rg items):=V 1 _ rfl;obtain⟨v0,ad⟩:=xm (vs.getD 0 undef);obtain⟨v1,ae⟩:=xm (vs.getD 1 undef);rw[<-ad]at d0;rw[<-ae]at U;obtain rfl:vs=#[v0,v1]:=by
  obtain⟨l⟩:=vs;match l,br with
  |[p,q],_=>simp at ad ae;rw[ad,ae]
 clear ad ae br V;obtain⟨aa,ca,fs,rfl,bQ,L,bh⟩:=kX d0 hD;obtain⟨ai,ci,rfl⟩:=zK U;have co:=hk.l;have bM:=L.1;have aZ:=L.2.1;unfold maxLen at aZ;rw[bQ]at bM;have bB:=qL (λW (N:Below w.heap.size w W)=>KH hk.r (hk.z a8) d0 hD hG N);have bC:=qL (λW (N:Below w.heap.size w W)=>zqr hi a8 U hD hG N);have aT:=qL L;have aR:=qL bh;have aQ:=qL U;have aS:=qL hG;have E:=qL hD;have HK:=qL hk;have HP:=qL A;have bI:=qL hi;obtain⟨i0,bi,bt,bu,bw⟩:=tR Z9;have HI:=qL (And.intro bi (And.intro bt (And.intro bu bw)));clear d0 U L bh hG hD hk hi A bi bt bu bw;have aq:True:=trivial;have ar:True:=trivial;have aw:True:=trivial;have bX:xt.follows .mixedOrders=true:=dL
 go_enter_defers func26,ntmps26
 go_wp2_with (first
  | (go_at_call 40;have _t:=aq;refine(bB.o _ ((tv _ _).alloc (Zp _) _)).mono ?_;rintro e w1 ⟨rfl,aB⟩
     have aM:Boxed w1 w.heap.size 41 .nilIface:=(aB.block _ b6).trans (tq w _);have az:=qL aM;have X:=qL (((tv _ w).alloc (Zp _) _).trans (aB.mono b6));have bR:=aM.lt;clear aB aM aq)
  |(go_at_call 60;refine(zdp _ _).mono ?_;rintro e S ⟨⟨u,rfl⟩,rfl⟩)
  | (go_at_call 42;have _t:=ar;refine(bC.o _ X.o).mono ?_;rintro e T ⟨rfl,aC⟩
     have aN:Boxed T w.heap.size 41 .nilIface:=(aC.block _ az.o.lt).trans az.o;have aU:=qL aN;have ax:=qL (X.o.trans (aC.mono X.o.size));have bq:=aN.lt;clear aC aN ar)
  |(at_make;have _t:=aw;refine wpList_make_full _ rfl _ _ 54 rfl (w.heap.size+1) 59 i0 _ 2 underlying54 HI.o.1 HI.o.2.1 HI.o.2.2.1 .i64 .i64 _ _ k.length rfl rfl rfl rfl (by rw[HI.o.2.2.2];omega) c8 a8 ?_;intro w3 aL aI;rw[show (Value.agg #[.slice none 0 0,.slice none 0 0]).cells=#[.slice none 0 0,.slice none 0 0] from rfl,zqB]at aL;have ay:=qL (OutG.zeros (C:=D) (mb:=w.heap.size) aL);have aO:=qL (ax.o.grown aI ax.o.size λj hj=>by cases hj);have aA:=qL (aU.o.kept aI b6);have bS:=aA.o.lt;clear aL aI aw;dsimp only[Act.put])
  |go_in)
 have bP:=bq;generalize S.heap.size=gb at ay bP⊢;go_loopg [20] k.length (λg x wr=>∃j,j<=k.length/\g=k.length-j/\x=.int .i64 j/\Boxed wr w.heap.size 41 .nilIface/\OutG D w.heap.size (w.heap.size+1) wr (.slice (some ⟨gb,0,none⟩) k.length k.length) (zoL k items j)/\Below w.heap.size w wr);case atStart=>exact⟨0,X3 _,rfl,rfl,aA.o,by rw[zp6];exact ay.o,aO.o⟩
 case round=>
  obtain⟨j,hj,rfl,rfl,aF,an,aX⟩:=hrel;have aP:=qL aF;have J:=qL an;have H:=qL aX;have bp:=aF.lt;clear aF an aX ay aA aO aU az X ax bS bq bR;by_cases ac:j<k.length
  .have P:j<fs.length:=a8;obtain⟨bb,bz,rfl,aW,ak⟩:=aT.o.2.2 (by intro e;subst e;simp at P);obtain⟨c0,c1⟩:=ak j P;obtain⟨d0,U⟩:=aR.o j P;replace c0:=(H.o.cell (p:=⟨bb,bz+j*2,none⟩) aW).trans c0;replace c1:=(H.o.cell (p:=⟨bb,bz+j*2+1,none⟩) aW).trans c1;have aH:=XE ac;have bO:=HK.o.r _ aH;have ck:k[j].items.length<=400000:=(by have:=yv aH;have:=HK.o.m;omega);have bK:=qL (zp5 (items:=items) ac);generalize k[j]=f at *;generalize fs[j]=q at *;obtain⟨af,cf,e0⟩:=zK d0;obtain⟨av,cv,e1⟩:=xL U;rw[e0]at c0 d0;rw[e1]at c1 U;have bn:=J.o.owns;have cm:gb<wr.heap.size:=by
    cases hk0:k.length with
    |zero=>omega
    |succ c=>exact(bn gb (by rw[hk0];rfl)).2
   obtain⟨M,Q⟩:=xm (wr.alloc (.cells #[.slice af f.items.length cf,.slice av f.vec.length cv] 59));have ah:M.heap[wr.heap.size]?=some (.cells #[.slice af f.items.length cf,.slice av f.vec.length cv] 59 (0,0)):=(by rw[Q];exact tq wr _);have aE:Below wr.heap.size wr M:=(by rw[Q];exact(tv _ wr).alloc (Zp _) _);have bU:M.heap.size=wr.heap.size+1:=(by rw[Q];simp);have bl:∀W,Below M.heap.size M W->Calls xt 61 #[.slice af f.items.length cf,.slice ai items.length ci] W λe S=>∃F G,e=.returned (.slice F (qy fMeet f.items items).length G)/\Below W.heap.size W S/\Dat (DX D w.heap.size S (.slice (some ⟨gb,0,none⟩) k.length k.length)) S (.slice F (qy fMeet f.items items).length G) (rg (qy fMeet f.items items)):=λW N=>by
    have ab:Below w.heap.size w W:=H.o.trans ((aE.mono a8).trans (N.mono a8));have hw:∀b o x,D b o->w.cell? ⟨b,o,none⟩=some x->W.cell? ⟨b,o,none⟩=some x:=λb o x h hx=>(tp (a:=⟨b,o,none⟩) (ab.block b (E.o b o h))).trans hx;refine(jP (D:=D) (zif f.items items bO.1 bI.o a8) (aS.o.mono (λ_ _ h=>h) hw) (λb o h=>vw (E.o b o h) ab.size) rfl (λi p A=>?_)).mono ?_
    .match i,A with
     |0,A=>cases A;exact d0.mono (λ_ _ h=>h) hw
     |1,A=>cases A;exact aQ.o.mono (λ_ _ h=>h) hw
     |i+2,A=>simp at A
    .rintro e S ⟨v,rfl,hb,V⟩;obtain⟨F,G,rfl⟩:=zK V;have bT:=N.size;refine⟨F,G,rfl,hb,V.mono (λb o h=>⟨h.imp id λh=>⟨a8,h.2⟩,λe=>?_⟩) λ_ _ _ _ h=>h⟩;have cj:b=gb:=by
      cases hk0:k.length with
      |zero=>omega
      |succ c=>rw[hk0]at e;cases e;rfl
     rcases h with h|h
     .have:=E.o b o h;omega
     .omega
   have bH:=qL bl;have bZ:=qL ah;have Y:=qL aE;have g0:=(zW ah 0 _ rfl).1;have g1:=(zW ah 1 _ rfl).1;have bE:=qL U;clear d0 U ak aH e0 e1 bl ah aE
   go_wp2_with fail
   rw[<-Q];have aY:Below M.heap.size M M.drew:=(tv _ _).drew;clear Q;refine Kg (Sw:=qe) 9 38 (λw9=>Below M.heap.size M w9/\w9.cell? ⟨wr.heap.size,0,none⟩=some (.slice af f.items.length cf)/\w9.cell? ⟨wr.heap.size,1,none⟩=some (.slice av f.vec.length cv)) dL dL rfl ⟨aY,g0,g1⟩ ?_;simp only[wP,Wb];refine Jz ?_;refine V7 (λu w9=>∃F G,u=.slice F (qy fMeet f.items items).length G/\Dat (DX D w.heap.size w9 (.slice (some ⟨gb,0,none⟩) k.length k.length)) w9 u (rg (qy fMeet f.items items))) (λu wa M h hk=>by obtain⟨F,G,e,h⟩:=h;exact⟨F,G,e,DX.keep h hk.size λk O _=>hk.block k O id⟩) rfl ?_ ?_
   .intro a2 T hc hk hr K hK;have HK:=qL hK;clear hK;simp[Rds,zA,lk,Op.operands,Call.operands,RdEq]at hr;go_simp;refine(bH.o _ hc.1).mono ?_;rintro e w3 ⟨F,G,rfl,hb,V⟩;have aK:Keep qe _ w3:=Keep.of_below' hb (Zp _);exact HK.o _ _ aK ⟨hc.1.trans (hb.mono hc.1.size),aK.cell_some hc.2.1 id,aK.cell_some hc.2.2 id⟩ ⟨F,G,rfl,V⟩
   simp only[Y1,yb];refine Jz ?_;refine V7 (λu w9=>∃F G,u=.agg #[.slice F (qy fMeet f.items items).length G,.slice av f.vec.length cv]/\Dat (DX D w.heap.size w9 (.slice (some ⟨gb,0,none⟩) k.length k.length)) w9 (.slice F (qy fMeet f.items items).length G) (rg (qy fMeet f.items items))) (λu wa M h hk=>by obtain⟨F,G,e,h⟩:=h;exact⟨F,G,e,DX.keep h hk.size λk O _=>hk.block k O id⟩) rfl ?_ ?_
   .intro a2 T hc hk hr K hK;have HK:=qL hK;clear hK;simp[Rds,zA,lk,Op.operands,Call.operands,RdEq]at hr;obtain⟨⟨_,⟨e1,e2⟩,⟨F,G,rfl⟩,ho⟩,e3,e4⟩:=hr;go_simp;exact HK.o _ _ (Keep.refl _ _) hc ⟨F,G,rfl,ho⟩
   simp only[Y1,yb];intro T aG O;simp only[finG,WM,Y1,yb,wM,Wh,WO];simp only[Act.put,wu,wR,wS];rintro _ ⟨_,_,rfl,_⟩ _ ⟨F,G,rfl,hu⟩;have HU:=qL hu;have Z:=qL aG.1;have bY:=aG.1.size;have I:=J.o.keep (w':=T) a8 λb hb=>(Z.o.block b a8).trans (Y.o.block b hb);have am:=zqq (items:=items) hj;have bG:=qL am;have bJ:=qL I;obtain⟨xs,aj,bg⟩:=id I;obtain⟨xa,xb,ea,eb,-,-⟩:=bg j a8;obtain⟨g,aV,ce,ev,-,-,aJ,-,-,-,-⟩:=aj.cases.resolve_left (λh=>a8);obtain⟨rfl,-,rfl⟩:gb=g/\k.length=(zoL k items j).length/\k.length=aV:=(dK ev);have cb:T.cell? ⟨gb,j*2,none⟩=some xa:=by have:=tK aj.1 (g:=gb) rfl (j*2) xa ea;rw[zh,wn]at this;exact this
   have cc:T.cell? ⟨gb,j*2+1,none⟩=some xb:=(by have:=tK aj.1 (g:=gb) rfl (j*2+1) xb eb;rw[zh,wn]at this;exact this);have cg:T.frozen? ⟨gb,j*2,none⟩=false:=(by simp[World.frozen?,aJ]);have ch:T.frozen? ⟨gb,j*2+1,none⟩=false:=(by simp[World.frozen?,aJ]);clear hu aG O aY I aj bg ea eb ev aJ g0 g1 c0 c1 am
   go_wp2_with fail
   have bN:Dat (DX D w.heap.size T (.slice (some ⟨gb,0,none⟩) k.length k.length)) T (.slice av f.vec.length cv) (vp f.vec):=bE.o.mono (λb o h=>⟨.inl h,λe=>by have:=(bn b e).1;have:=E.o b o h;omega⟩) λb o x h hx=>(tp (a:=⟨b,o,none⟩) ((Z.o.block b (by have:=E.o b o h;omega)).trans ((Y.o.block b (by have:=E.o b o h;omega)).trans (H.o.block b (E.o b o h))))).trans hx;have ao:=OutG.put (f:=⟨qy fMeet f.items items,f.vec⟩) bG.o bJ.o ac HU.o bN a8;rw[<-bK.o]at ao;go_roundg (k.length-(j+1));case measure=>omega
   case rel=>
    refine⟨j+1,ac,rfl,b6,?_,ao,?_⟩
    .exact(tz _ _ _ _ (by show w.heap.size≠gb;omega)).trans ((tz _ _ _ _ (by show w.heap.size≠gb;omega)).trans ((Z.o.block _ a8).trans ((Y.o.block _ bp).trans aP.o)))
    .exact tZ (tZ (H.o.trans ((Y.o.mono a8).trans (Z.o.mono a8))) (by show w.heap.size<=gb;omega) _) (by show w.heap.size<=gb;omega) _
  .obtain rfl:j=k.length:=a8;have ba:∀W,Below wr.heap.size wr W->Calls xt 62 #[.slice (some ⟨gb,0,none⟩) k.length k.length] W λe S=>∃u,e=.returned u/\Below W.heap.size W S/\Dat (DL D w.heap.size S) S u (kp (znF k items)):=λW N=>by
    have be:=J.o.dat (UA _);rw[zqp]at be;have ab:Below w.heap.size w W:=H.o.trans (N.mono a8);have bj:∀b o,DL D w.heap.size wr b o->b<wr.heap.size:=λb o h=>h.elim (λh=>by have:=E.o b o h;omega) uf;refine(jP (D:=DL D w.heap.size wr) (zds (zl5 k items) HP.o ok hm) (aS.o.mono (λ_ _ h=>.inl h) λb o x h hx=>(tp (a:=⟨b,o,none⟩) (ab.block b (E.o b o h))).trans hx) (λb o h=>vw (bj b o h) N.size) rfl (λi p A=>?_)).mono ?_
    .match i,A with
     |0,A=>cases A;exact be.mono (λ_ _ h=>h) λb o x h hx=>(tp (a:=⟨b,o,none⟩) (N.block b (bj b o h))).trans hx
     |i+1,A=>simp at A
    .rintro e S ⟨u,rfl,hb,V⟩;have bT:=N.size;have bU:=hb.size;refine⟨u,rfl,hb,V.mono (λb o h=>?_) λ_ _ _ _ h=>h⟩;rcases h with(h|h)|h
     .exact .inl h
     .exact .inr ⟨h.1,a8⟩
     .exact .inr ⟨a8,h.2⟩
   have bD:=qL ba;clear ba aR J aQ HP
   go_wp2_with (first
    | (go_at_call 62;refine(bD.o _ (tv _ _)).mono ?_;rintro e w5 ⟨u5,rfl,aD,bc⟩
       have ag:Boxed w5 w.heap.size 41 .nilIface:=(aD.block _ bp).trans aP.o;have c5:=ag.cell;have f5:=ag.frozen;have bL:=qL ag;have bA:=qL (H.o.trans (aD.mono a8));have bF:=qL bc;clear aD ag bc)
    |go_in)
   refine leaves_cons (f := 59) (args:=#[.pointer (some ⟨w.heap.size,0,none⟩)]) b6 (by simp[go_sem]) ?_;refine(JI ⟨w.heap.size,0,none⟩ _).mono ?_;rintro e u' cq ⟨rfl,rfl,rfl⟩;have bW:=(bL.o.set .nilIface).cell;simp[Leaves,settle,results,Tryz.results26,go_sem,bW];refine⟨bA.o.setCell (Zp _) _,.tup _ _ rfl λj p A=>?_⟩;match j,A with
   |0,A=>
     cases A;exact bF.o.mono (λb o h=>h.imp id λh=>⟨uz h.1,dK h.2⟩) λb o x h hx=>(tp (a:=⟨b,o,none⟩) (tz _ _ _ _ (by
      show b≠w.heap.size;rcases h with h|h
      .have:=E.o b o h;omega
      .omega))).trans hx
   |1,A=>cases A;exact .v _
   |j+2,A=>simp at A
end
end Go.Proofs.YtmpnbdhadjfbhaaGreatDoor
