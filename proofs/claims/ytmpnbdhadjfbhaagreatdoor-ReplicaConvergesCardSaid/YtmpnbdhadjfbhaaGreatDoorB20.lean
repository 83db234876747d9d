import Derived.Test.YtmpnbdhadjfbhaaGreatDoorB19
set_option maxHeartbeats 16000000
set_option linter.all false
set_option maxRecDepth 100000
namespace Go.Proofs.YtmpnbdhadjfbhaaGreatDoor
def dF{p:Prop}(h:p:=by simp [Value.ownBlock]<;>omega):p:=h
def Tf:=@Go.run_append_own_at
def TC:=@Go.wpList_next_ranges
def TH:=@Go.wpList_range_own
open Go.RowKit
open Go.Proofs.Tryz
open Go.Proofs.Tryz renaming prog->xT
section
open Go.Maps
attribute [-go_sem] z7
def jL{n:Nat}{A B C:World}{S:Nat->Prop}(h:Below n A B)(hk:Keep S B C)(hs:∀k,k<n->¬S k)(o:n<=A.heap.size):Below n A C:=
 ⟨hk.os.trans h.os,hk.tape.trans h.tape,hk.output.trans h.output,V1 h.size hk.size,λk j=>(hk.block k (by have:=h.size;omega) (hs k j)).trans (h.block k j)⟩
def yD{w y:World}{b r n YV:Nat}{D:DV}{left:Lit->Bool}(h:w.ranges xT 36 rV b r n D left YV)(hb:y.heap[b]?=w.heap[b]?)(H:y.heap[r]?=w.heap[r]?):y.ranges xT 36 rV b r n D left YV:=by obtain⟨B,j,o,u,A,C,F,hs,G,E,rest⟩:=h;exact⟨B,j,o,u,A,hb.trans C,F,hs,G,H.trans E,rest⟩
def zhV:∀(j:Value)(kl:Lit),keyOf xT 36 j=some kl->∃x:{r:Nat // r<zk},j=Value.int .u64 (x.1:Nat):=λj kl h=>by obtain⟨x,rfl,_,o⟩:=Maps.keyOf_int_inv underlying36 h;simp[Lit.wf,IntKind.min,IntKind.max,IntKind.signed,IntKind.bits]at o;refine⟨⟨x.toNat,by rw[zw];omega⟩,?_⟩;rw[tg a8]
def QM{left:Lit->Bool}{r x:Nat}:(left (kR r) && !(kR r).sameKey (kR x))=false↔left (kR r)=false\/r=x:=by
 have h:(kR r).sameKey (kR x)=decide (r=x):=by simp[kR,Lit.sameKey];omega
 rw[h];cases left (kR r)<;>simp
def zeK:∀(r j:List Nat),YN r->(∀y∈r,y∈j)->r.length<=j.length:=by
 intro r;induction r with
 |nil=>intro j _ _;exact X4 _
 | cons x r ih=>
   intro j h u;have o:=V3.1 h;have:=ih (j.erase x) o.2 λy A=>by have B:=o.1 y A;exact(WX a8).2 (u y (by simp[A]))
   have w:x∈j:=u x b6;rw[WF w]at this;have:=ug w;simp;omega
def zkr(j y:Option Addr)(u B o A:Nat)(w:World):(Instr.index 234 (.agg #[.slice j u o,.slice y B A]) (.int .i64 0)).run xT w=.ok (.slice j u o) w:=dK
def zks(y j:Option Addr)(B u A o:Nat)(w:World):(Instr.index 234 (.agg #[.slice y B A,.slice j u o]) (.int .i64 1)).run xT w=.ok (.slice j u o) w:=dK
def zkk:(xT.info? 181).map (λi=>(i.zero,i.size,i.bytes))=some (some (.agg #[.int .u64 0,.int .u64 0,.slice none 0 0]),3,40):=dK
def OwnU.shape{base:Nat}{w:World}{v:Value}{l:List Nat}(h:OwnU base w v l):∃u o,v=.slice u l.length o/\l.length<=o/\o<=maxLen/\(l≠[]->∃g,u=some ⟨g,0,none⟩/\g<w.heap.size/\∀j (y:j<l.length),w.cell? ⟨g,j,none⟩=some (.int .u64 (l[j]:Nat))):=by
 rcases h.cases with⟨rfl,rfl⟩|⟨g,o,A,rfl,F,B,G,C,E,H,I⟩
 .exact⟨none,0,rfl,Zp _,X4 _,λh=>absurd rfl h⟩
 .refine⟨_,o,rfl,C,E,λ_=>⟨g,rfl,B,λj y=>?_⟩⟩;have:=tI h (g:=g) rfl j (uV l[j]) (by rw[wk,Zv y];rfl);rw[zh,wn]at this;exact this
def zac{f:XE}{a b:List En}{r:Nat}{e:En}{ok:Bool}(h:Qi r (qy f (zT a r) (zT b r))=(e,ok)):vE f a b r=if ok=true then some e else none:=by unfold vE Xd;rw[h]
def KZ{f:XE}{a b:List En}{L:List Nat}{k:Nat}(hk:k<L.length):(L.take (k+1)).filterMap (vE f a b)=(L.take k).filterMap (vE f a b)++(vE f a b L[k]).toList:=by
 rw[vj hk,U6,uJ,UR];cases vE f a b L[k]<;>rfl
def Ja{P:Program}{f:FuncId}{t:Tmp}{xs:List Operand}{c:Call}{o:Oper}{a:Act}{w:World}{K:Act->World->Prop}{Q:Exit->Act->World->Prop}(ho:o.op=.call c)(A:c.callee=.value (.tmp t))(E:a.eval (.tmp t)=.func (.func f) #[] #[])(y:c.args.toList=xs)
 (B:∀j w,(callFunc f j).run P w=.ok (.enter f j) w)
 (h:Calls P f (xs.map a.eval).toArray w λe u=>match e with|.returned v=>K (a.put o.dst v) u|.panicked chain=>Q (.panic chain) a u|.outgrown=>LetsOut Q):o.wp P a w K Q:=by
 have C:(execOp a.eval o).run P w=.ok (.enter f (xs.map a.eval).toArray) w:=by have e:c.args.map a.eval=(xs.map a.eval).toArray:=WD.1 (by rw[WS,y]);simp only[execOp,ho,resolve,A,e,E,Deferred.ofValue,tE,tH,tx,invoke];rw[show (#[]++(xs.map a.eval).toArray++#[]:Array Value)=(xs.map a.eval).toArray from by simp];exact B _ _
 unfold Oper.wp;rw[C,t8];exact h.mono (λe F h=>by cases e<;>exact h)
def Zi{P:Program}{w:World}{o:Oper}{a:Act}{K:Act->World->Prop}{Q:Exit->Act->World->Prop}(s x:Operand)(t:TypeId)
 (ho:o.op=.call { callee:=.builtin .append,args:=#[s,x],argTypes:=#[t,t] })
 (base:Nat) (e:TypeId) (i:TypeInfo) (z:Value) (size A:Nat) (ht:P.underlying t=some (.slice e)) (hi:P.info? e=some i) (hz:i.zero=some z)
 (F:i.size=size) (M:i.bytes=A) (hzs:z.cells.size=size) (N:0<size)
 (v:Value) (n:Nat) (O:List Value) (hs:a.eval s=v) (H:w.ownsRow base e size v n O)
 (J:Addr) (m c:Nat) (y:List Value) (hx:a.eval x=.slice (some J) m c) (Y:y.length=m*size) (E:∀j u,y[j]?=some u->w.cell? (J.add j)=some u) (S:∀u∈y,u.oneCell'=true)
 (L:n+m<=maxLen) (B:(n+m)*A<=140737488355328) (C:base<=w.heap.size)
 (h:∀G I,I.ownsRow base e size G (n+m) (O++y)->w.grownBy I v.ownBlock->(G=.slice none 0 0↔v=.slice none 0 0/\m=0)->(G.ownBlock=v.ownBlock\/G.ownBlock=some w.heap.size)->K (a.put o.dst G) I) :
 o.wp P a w K Q:=by
 obtain⟨G,I,Z,T,U,V,X⟩:=Tf (P:=P) w base t o.type e i z size A ht hi hz F M hzs N v n O H J m c y Y E S L B C;unfold Oper.wp execOp;simp only[ho,resolve,invoke,builtin,tE,tH,tx,uf,Wx,W6,hs,hx,Z];exact h G I T U V X
def zcD(C:Qk)(a b:List En)(va vb:Value)(w:World)(f:XE)(op:FuncId)(aT:∀r,Cn xT op [rg (zT a r),rg (zT b r)] (rg (qy f (zT a r) (zT b r))))
 (ha:SmV a) (hb:SmV b) (ra:RdF C w.heap.size w va a) (rb:RdF C w.heap.size w vb b) (hC:∀b o,C b o->b<w.heap.size) (hG:GL C w) :
 Calls xT 107 #[va,vb,.func (.func op) #[] #[]] w λe w'=>∃v,e=.returned v/\Below w.heap.size w w'/\Dat (DL C w.heap.size w') w' v (vp (ks f a b)):=by
 have ch:=qL (J4 C a b va vb w ha hb ra rb hC hG);have bX:=qL hG;have aw:=(aT 0).1;have cg:=qL aT;have HM:=qL (Xr ha.1 hb.1);obtain⟨I,K⟩:=xm (zM a++zM b);have cr:I.length<=2097152:=by have h1:=ha.2.1;have h2:=hb.2.1;rw[K];simp[zM];omega
 have ax:ks f a b=(srt I).filterMap (vE f a b):=by rw[K];rfl
 rw[<-K]at HM;have bh:=qL ax;have cH:=qL K;clear hG ra rb aT ax;have aA:True:=trivial;have aB:True:=trivial;go_enter func107,ntmps107
 go_wp2_with (first
  | (go_at_call 146;have _t:=aA;refine ch.o.mono ?_;rintro e J ⟨rfl,bt,D,A,ab⟩
     rw[<-K]at ab;have cW:w.heap.size<J.heap.size:=A.lt;have cc:=qL A;have bi:=qL ab;have bR:=qL bt;clear A ab bt aA)
  |(at_range;have _t:=aB;refine TH _ rfl _ 229 rfl 36 234 vF underlying229 rV w.heap.size (a.length+b.length) D rfl (cc.o.alloc _) ?_;intro w2 ak Q cC;clear aB)
  |go_in)
 go_frame
 simp only[tv]at ak cC⊢;clear K;have cP:=qL Q;have au:Boxed w2 J.heap.size 232 (.slice none 0 0):=(tT J _ _).kept Q b6;have bc:qA (∀k,k<J.heap.size->w2.heap[k]?=J.heap[k]?):=qL λk hk=>(Q.block k a9 b6).trans (tu _ _ _ hk);have bS:=qL (jL bR.o (S:=λ_=>False) ⟨Q.os,Q.tape,Q.output,V1 b6 Q.size,λk hk _=>bc.o k hk⟩ (λ_ _ h=>h) (Zp _));clear Q;go_loopg [9] (Maps.size D) (λg x wr=>∃left xs v,wr.ranges xT 36 rV w.heap.size (J.heap.size+1) (a.length+b.length) D left g/\(∀r,r∈xs↔r∈I/\left (kR r)=false)/\(∀r,left (kR r)=true->r∈I) /\
  OwnU (J.heap.size+2) wr v (srt xs)/\Boxed wr J.heap.size 232 v/\Keep (λk=>J.heap.size<=k) w2 wr)
 case atStart=>
  have ab:=bi.o;refine⟨Maps.has D,[],.slice none 0 0,ak,λr=>?_,λr h=>?_,?_,au,Keep.refl _ _⟩
  .rw[(ab.2 r).1];simp
  .rw[(ab.2 r).1]at h;simpa using h
  .rw[XB];exact tR _ _ _ _
 case round=>
  obtain⟨left,xs,v,bM,aV,bF,A,bw,hK⟩:=hrel;obtain⟨wl,cE⟩:∃x,x=wr:=⟨_,rfl⟩;subst cE;have bj:=qL bM;have ao:=qL aV;have aF:=qL bF;have af:=qL A;have aD:=qL bw;have bZ:=qL hK;have bN:(srt xs).length<=2097152:=V1 (zeK _ I (yi xs) λy hy=>((aV y).1 (qr.1 hy)).1) cr;have cJ:w2.heap.size<=wl.heap.size:=hK.size;have cb:qA (∀k,k<J.heap.size->wl.heap[k]?=J.heap[k]?):=qL λk hk=>(hK.block k a8 a8).trans (bc.o k hk);have aW:=qL (jL bS.o hK (λk hk=>a8) (Zp _));have aZ:qA (GL C wl):=qL (bX.o.mono (λ_ _ h=>h) λj o x B V=>(tl (a:=⟨j,o,none⟩) (aW.o.block j (hC j o B))).trans V);clear ak au bM aV bF A bw hK
  go_wp2_with (first
   |(at_next;refine TC _ rfl _ rfl 36 vF rV (λr:{r:Nat // r<zk}=>Value.int .u64 (r.1:Nat)) (λc:Value=>c) zhV (λv y _=>⟨v,rfl⟩) w.heap.size (J.heap.size+1) (a.length+b.length) D left gk rfl bj.o ?_ ?_)
   |go_in)
  ·intro cS bE;have hL:srt xs=srt I:=XA (yi I) λy=>(by rw[qr,ao.o y,bE];simp);have Y:=af.o;rw[hL]at Y bN;have c0:=aD.o.cell;have A:=bj.o.owns;have HO:=qL A;clear A bE hL af ao aF;obtain⟨L,aJ⟩:=xm (srt I);rw[<-aJ]at Y bN;obtain⟨ad,cR,rfl,cI,cq,bz⟩:=Y.shape;unfold maxLen at cq;have bU:=qL bz;have bg:=qL aJ;clear bz aJ Y
   go_wp2_with fail
   go_loopg [10,29] L.length (λg y x wr=>∃k,k<=L.length/\g=L.length-k/\x=.int .i64 k/\OutE C w.heap.size wl.heap.size wr y ((L.take k).filterMap (vE f a b))/\Keep (λk=>wl.heap.size<=k) wl wr)
   case atStart=>exact⟨0,X4 _,rfl,rfl,OutE.start _ _ _ _,Keep.refl _ _⟩
   case round=>
    obtain⟨k,hk,rfl,rfl,ay,br⟩:=hrel;have ac:=qL br;have F:=qL ay;clear br ay;have cK:=ac.o.size;have am:qA (∀j,j<wl.heap.size->wr.heap[j]?=wl.heap[j]?):=qL λj B=>ac.o.block j B a8;have bT:=qL (jL aW.o ac.o (λk hk=>a8) (Zp _));by_cases M:k<L.length
    .obtain⟨g,cn,ct,Z⟩:=bU.o (λe=>by rw[e]at M;simp at M);subst cn;obtain⟨r,hr⟩:=xm (L[k]);have cB:r<zk:=HM.o r (by rw[hr,<-bg.o];exact Y1 M);have ck:wr.cell? ⟨g,k,none⟩=some (.int .u64 (r:Nat)):=(by rw[hr];exact(tl (a:=⟨g,k,none⟩) (am.o g ct)).trans (Z k M));obtain⟨s0,s1,aq,aL,aM⟩:=(bi.o.2 r).2;obtain⟨a0,n0,rfl⟩:=zK aL;obtain⟨a1,n1,rfl⟩:=zK aM;have aQ:=Qf (yg HO.o (am.o _ a8)) cB aq;have aR:∀j o x,DL C w.heap.size J j o->J.cell? ⟨j,o,none⟩=some x->wr.cell? ⟨j,o,none⟩=some x:=λj o x B V=>(by have bB:=tp J ⟨j,o,none⟩ V;exact(tl (a:=⟨j,o,none⟩) ((am.o j (Vm bB a8)).trans (cb.o j bB))).trans V);have aN:∀j o,DL C w.heap.size J j o->DX C w.heap.size wr u10 j o:=λj o B=>⟨B.imp id λh=>⟨h.1,a8⟩,λe=>by
      have h5:=(F.o.owns j e).1;rcases B with B|B
      .have:=hC j o B;omega
      .omega⟩
     have ag:∀j o,DX C w.heap.size wr u10 j o->j<wr.heap.size:=λj o h=>h.1.elim (λh=>by have:=hC j o h;omega) ub;have aI:GL (DX C w.heap.size wr u10) wr:=aZ.o.mono (λj o h=>⟨.inl h,λe=>by have h5:=(F.o.owns j e).1;have:=hC j o h;omega⟩) λj o x B V=>(tl (a:=⟨j,o,none⟩) (am.o j (by have:=hC j o B;omega))).trans V;have an:=qL ag;have ba:=qL aI;have ae:=qL (jP (cg.o r) aI ag (vs:=#[.slice a0 (zT a r).length n0,.slice a1 (zT b r).length n1]) rfl (λi p H=>by
      match i,H with
      |0,H=>cases H;exact aL.mono aN aR
      |1,H=>cases H;exact aM.mono aN aR
      |i+2,H=>simp at H))
     have bJ:Nrm (qy f (zT a r) (zT b r)):=qH (qi ha.1 r) (qi hb.1 r);have cA:(qy f (zT a r) (zT b r)).length<=80100:=(by have h1:=xR f (zT a r) (zT b r);have h2:=ji (n:=1048576) (h:=10000) ha r;have h3:=ji (n:=1048576) (h:=10000) hb r;omega);have aS:=zjT r (qy f (zT a r) (zT b r)) bJ a8;obtain⟨e,ok,hE⟩:∃e ok,Qi r (qy f (zT a r) (zT b r))=(e,ok):=⟨_,_,rfl⟩;rw[hE]at aS;have aG:=qL aS;have bG:=zac (f:=f) (a:=a) (b:=b) hE;have aU:=KZ (f:=f) (a:=a) (b:=b) M;rw[<-hr,bG]at aU;have bn:=qL aU;have cV:e.holes.length<=1000000:=(by have:=J0 r (qy f (zT a r) (zT b r));rw[hE]at this;simp only at this;omega);have cy:(zT a r).length<=maxLen:=(by have:=ji (n:=1048576) (h:=10000) ha r;unfold maxLen;omega);have cz:(zT b r).length<=maxLen:=(by have:=ji (n:=1048576) (h:=10000) hb r;unfold maxLen;omega);unfold maxLen at cy cz;have i0:=zkr a0 a1 (zT a r).length (zT b r).length n0 n1;have i1:=zks a0 a1 (zT a r).length (zT b r).length n0 n1;obtain⟨ls,bH⟩:=xm (qy f (zT a r) (zT b r));rw[<-bH]at aG ae cA;clear aS hE bG aU aq aL aM aR aN Z ag aI bJ hr bH;have cL:True:=trivial;have cM:True:=trivial;have cN:True:=trivial;cases ok with
     | false=>
       go_wp2_with fail
       refine Ja (t:=35) (f:=op) (xs:=[.tmp 39,.tmp 43]) rfl rfl rfl rfl aw ?_;refine ae.o.mono ?_;rintro e' w3 ⟨v3,rfl,G,U⟩;obtain⟨a3,n3,rfl⟩:=zK U;have E:=qL G;have aE:=qL U;clear G U;dsimp only
       go_wp2_with fail
       refine(jP aG.o (D:=λj o=>DX C w.heap.size wr u10 j o\/(wr.heap.size<=j/\j<w3.heap.size)) (ba.o.mono (λ_ _ h=>.inl h) λj o x B V=>(tl (a:=⟨j,o,none⟩) (E.o.block j (an.o j o B))).trans V) (λj o h=>h.elim (λh=>Vm (an.o j o h) E.o.size) ub) rfl (λi p H=>?_)).mono ?_
       .match i,H with
        |0,H=>cases H;exact .v _
        |1,H=>cases H;exact aE.o
        |i+2,H=>simp at H
       rintro e' X ⟨v4,rfl,ah,ai⟩;obtain⟨N,O,rfl,P⟩:=Yk ai;have T:=qL ah;have aY:=qL P;clear ah ai P;dsimp only
       go_wp2_with fail
       go_roundg (L.length-(k+1));case measure=>omega
       case rel=>
        have cj:=E.o.size;have cm:=T.o.size;refine⟨k+1,M,rfl,b6,?_,ac.o.trans (((Keep.of_below' E.o (Zp _)).trans (Keep.of_below' T.o (Zp _))).alloc _)⟩;rw[bn.o];simp only[uA,UX,Option.toList_none,wY];exact F.o.keep a9 λj B=>by rw[tu _ _ _ a8,T.o.block j a8,E.o.block j B]
     | true=>
       go_wp2_with fail
       refine Ja (t:=35) (f:=op) (xs:=[.tmp 39,.tmp 43]) rfl rfl rfl rfl aw ?_;refine ae.o.mono ?_;rintro e' w3 ⟨v3,rfl,G,U⟩;obtain⟨a3,n3,rfl⟩:=zK U;have E:=qL G;have aE:=qL U;clear G U;dsimp only
       go_wp2_with fail
       refine(jP aG.o (D:=λj o=>DX C w.heap.size wr u10 j o\/(wr.heap.size<=j/\j<w3.heap.size)) (ba.o.mono (λ_ _ h=>.inl h) λj o x B V=>(tl (a:=⟨j,o,none⟩) (E.o.block j (an.o j o B))).trans V) (λj o h=>h.elim (λh=>Vm (an.o j o h) E.o.size) ub) rfl (λi p H=>?_)).mono ?_
       .match i,H with
        |0,H=>cases H;exact .v _
        |1,H=>cases H;exact aE.o
        |i+2,H=>simp at H
       rintro e' X ⟨v4,rfl,ah,ai⟩;obtain⟨N,O,rfl,P⟩:=Yk ai;have T:=qL ah;have aY:=qL P;clear ah ai P;dsimp only
       go_wp2_with fail
       have bO:((X.alloc (.cells #[.int .u64 e.rep,.int .u64 e.max,.slice N e.holes.length O] 181)).alloc (.cells #[.int .u64 e.rep,.int .u64 e.max,.slice N e.holes.length O] 181)).heap.size=X.heap.size+2:=b6;have cj:=E.o.size;have cm:=T.o.size;have aK:∀j,j<wr.heap.size->((X.alloc (.cells #[.int .u64 e.rep,.int .u64 e.max,.slice N e.holes.length O] 181)).alloc (.cells #[.int .u64 e.rep,.int .u64 e.max,.slice N e.holes.length O] 181)).heap[j]?=wr.heap[j]?:=λj B=>(by rw[tu _ _ _ a9,tu _ _ _ a8,T.o.block j a8,E.o.block j B]);obtain⟨cG,aH,bq⟩:=F.o.keep a8 aK;have bI:((X.alloc (.cells #[.int .u64 e.rep,.int .u64 e.max,.slice N e.holes.length O] 181)).alloc (.cells #[.int .u64 e.rep,.int .u64 e.max,.slice N e.holes.length O] 181)).heap[X.heap.size+1]?=some (.cells #[.int .u64 e.rep,.int .u64 e.max,.slice N e.holes.length O] 181 (0,0)):=by
        have:=tn (X.alloc (.cells #[.int .u64 e.rep,.int .u64 e.max,.slice N e.holes.length O] 181)) (.cells #[.int .u64 e.rep,.int .u64 e.max,.slice N e.holes.length O] 181)
        rwa[tv]at this
       have bA:Dat (DX C w.heap.size ((X.alloc (.cells #[.int .u64 e.rep,.int .u64 e.max,.slice N e.holes.length O] 181)).alloc (.cells #[.int .u64 e.rep,.int .u64 e.max,.slice N e.holes.length O] 181)) u10) ((X.alloc (.cells #[.int .u64 e.rep,.int .u64 e.max,.slice N e.holes.length O] 181)).alloc (.cells #[.int .u64 e.rep,.int .u64 e.max,.slice N e.holes.length O] 181)) (.slice N e.holes.length O) (rg e.holes):=by
        refine aY.o.mono (λj o h=>?_) λj o x h V=>?_
        .have bP:wr.heap.size<=j->j<X.heap.size->DX C w.heap.size ((X.alloc (.cells #[.int .u64 e.rep,.int .u64 e.max,.slice N e.holes.length O] 181)).alloc (.cells #[.int .u64 e.rep,.int .u64 e.max,.slice N e.holes.length O] 181)) u10 j o:=λh1 h2=>⟨.inr ⟨a8,a8⟩,λh=>by have:=(F.o.owns j h).2;omega⟩;rcases h with(h|h)|h
         .exact⟨h.1.imp id λh=>⟨h.1,a8⟩,h.2⟩
         .exact bP h.1 a8
         .exact bP a8 h.2
        .have bC:=tp X ⟨j,o,none⟩ V;exact(tl (a:=⟨j,o,none⟩) (by rw[tu _ _ _ (by simp;exact uh bC),tu _ _ _ bC])).trans V
       have cU:((L.take k).filterMap (vE f a b)).length<=k:=V1 (Ug _ _) a9;obtain⟨ie,cu,cF,cD,co⟩:=tP zkk;refine Zi _ _ 57 rfl wl.heap.size 181 ie _ 3 40 underlying57 cu cF cD co rfl b8 _ _ cG rfl aH ⟨X.heap.size+1,0,none⟩ 1 1 [.int .u64 e.rep,.int .u64 e.max,.slice N e.holes.length O] rfl rfl (λj u B=>by
        rw[zh,wn];exact(zW bI j u (dJ B)).1) (λu hu=>by simp at hu;rcases hu with rfl|rfl|rfl<;>rfl) c8 a8 a8 ?_
       intro v6 w6 bL aP _ ar;have ci:=qL (OutE.push (mb:=w.heap.size) bq aH bA hC a8 bL aP ar);have bW:=qL aP;have cO:=qL aK;have cQ:=qL bO;have cf:=qL (λj (h:u10.ownBlock=some j)=>(F.o.owns j h).1);clear bL aP ar aH bq bA bI aK bO
       go_wp2_with fail
       go_roundg (L.length-(k+1));case measure=>omega
       case rel=>refine⟨k+1,M,rfl,b6,?_,ac.o.trans ((((((Keep.of_below' E.o (Zp _)).trans (Keep.of_below' T.o (Zp _))).alloc _).alloc _).grown bW.o λj B _=>cf.o j B))⟩;rw[bn.o];simp only[UJ,Option.toList_some];exact ci.o
    .obtain rfl:k=L.length:=a8
     go_wp2_with fail
     refine tz (tJ rfl _ _ _) rfl ?_;have h:=F.o.dat a8;rw[Wo,bg.o,<-bh.o]at h;exact⟨_,rfl,bT.o,h⟩
  .intro x V c kl y ys w3 bp aj aQ hv aq az M aO cX cs;try dsimp only at aj cs⊢
   obtain rfl:kl=kR x:=(by have:=(Zq V).symm.trans aj;simpa using this.symm);have bl:=qL az;have bY:=qL ((bZ.o.grown aO (λk hk _=>by cases hk;omega)));have G:∀k,k≠J.heap.size+1->k<wl.heap.size->w3.heap[k]?=wl.heap[k]?:=λk hk cx=>aO.block k cx (λe=>hk (by cases e;rfl));have E:=qL G;have bu:=aD.o.lt;have bQ:=qL (zaD (C:=C) (base:=J.heap.size+2) (rb:=J.heap.size) (w:=w3) (v:=v) (xs:=xs) x (af.o.keep λg hg=>G g (by have:=(af.o.lt g hg).1;omega) (af.o.lt g hg).2) ((G _ a8 bu).trans aD.o) a8 (λh=>by have:=((ao.o x).1 h).2;rw[aQ]at this;cases this) a8 a8
    (λb o h=>by have:=hC b o h;omega) (aZ.o.mono (λ_ _ h=>h) λj o y B hy=>(tl (a:=⟨j,o,none⟩) (G j (by have:=hC j o B;omega) (by have:=hC j o B;omega))).trans hy))
   clear aj hv aq az aO G;have aC:True:=trivial
   go_wp2_with (first
    |(go_at_call 147;have _t:=aC;refine bQ.o.mono ?_;rintro e X ⟨⟨u,rfl⟩,v',av,bK,bD⟩;have aX:=qL av;have ce:=qL bK;have be:=qL bD;clear av bK bD aC)
    |go_in)
   go_roundg bp;case measure=>exact M
   case rel=>
    have hm:∀k,k<w3.heap.size->k≠J.heap.size->k<J.heap.size+2->X.heap[k]?=w3.heap[k]?:=λk hk h1 h2=>be.o.block k hk a8;refine⟨_,xs++[x],v',yD bl.o (hm _ a8 a8 a8) (hm _ a8 a8 a8),λr=>?_,λr h=>?_,ce.o,aX.o,bY.o.trans (be.o.mono λk _ h=>a8)⟩
    .rw[QM,wC,ao.o r,wD];constructor
     .rintro(⟨h1,h2⟩|rfl)
      .exact⟨h1,.inl h2⟩
      .exact⟨aF.o _ aQ,.inr rfl⟩
     .rintro⟨h1,h2|h2⟩
      .exact .inl ⟨h1,h2⟩
      .exact .inr h2
    .exact aF.o r (by cases h0:left (kR r)with|true=>rfl|false=>rw[h0]at h;simp at h)
def yZ{f:FuncId}{C:List PV}{r:PV}(H:r.own=none)(u:∀j w,(callFunc f j).run xT w=.ok (.enter f j) w)
 (h:∀(D:Qk)(w:World)(y:Array Value),GL D w->(∀b o,D b o->b<w.heap.size)->y.size=C.length->(∀(i:Nat) p,C[i]?=some p->Dat D w (y.getD i undef) p) ->
   Calls xT f y w λe A=>∃v,e=.returned v/\Below w.heap.size w A/\Dat (λb o=>D b o\/(w.heap.size<=b/\b<A.heap.size)) A v r):Cn xT f C r:=by
 refine⟨u,λD w y F E B G=>(h D w y F E B G).mono ?_⟩;rintro e A ⟨v,rfl,hb,I⟩;exact⟨v,_,rfl,hb,λb o h=>.inl h,λb o h=>h.imp id UQ,λb o h=>h.elim (λh=>Vm (E b o h) hb.size) ub,I,zr H⟩
def zjx{j:Array Value}(h:j.size=3):j=#[j.getD 0 undef,j.getD 1 undef,j.getD 2 undef]:=by
 obtain⟨l⟩:=j;match l,h with
 |[x,y,z],_=>rfl
def zcA{D:Qk}{w:World}{x:Value}{f:Fn}(h:Dat D w x (.fn f [] [])):x=.func f #[] #[]:=by
 cases h with
 |fn f va vb fs cs h1 h2 _ _=>rw[Ur.1 h1,Ur.1 h2]
def SmV.bd{v:List En}(h:SmV v):∀e∈v,ZL e:=λe j=>Jg (h.1.1 e j)
def zde(a b:List En)(f:XE)(op:FuncId)(A:∀r,Cn xT op [rg (zT a r),rg (zT b r)] (rg (qy f (zT a r) (zT b r))))(C:SmV a)(hb:SmV b):
 Cn xT 107 [vp a,vp b,.fn (.func op) [] []] (vp (ks f a b)):=by
 refine yZ rfl (enters_of func107 dK rfl) λD w F E u B j=>?_;rw[zjx B,zcA (j 2 _ rfl)];refine(zcD D a b _ _ w f op A C hb (dat_rdf (j 0 _ rfl) u C.bd) (dat_rdf (j 1 _ rfl) u hb.bd) u E).mono ?_;rintro e G ⟨v,rfl,y,j⟩;exact⟨v,rfl,y,j.mono (λb o h=>h.imp id λh=>⟨a8,h.2⟩) λ_ _ _ _ h=>h⟩
def qS{v:List En}(h:SmV v)(r:Nat):Nrm (zT v r)/\(zT v r).length<=20003:=⟨qi h.1 r,ji (n:=1048576) (h:=10000) h r⟩
def zdc(a b:List En)(j:SmV a)(hb:SmV b):Cn xT 65 [vp a,vp b] (vp (ks zn a b)):=by
 have h:=zde a b zn 108 (λr=>zaz _ _ (qS j r).1 (qS hb r).1 (by have:=(qS j r).2;have:=(qS hb r).2;omega)) j hb;refine zt func65 2 ?_;refine pw ?_
 (first|exact .d (h)|exact .q (h))
def zim{D:Qk}{w:World}{v:Value}{l:List Nat}(h:Dat D w v (ns l)):∃G y,v=.slice G l.length y/\l.length<=y/\y<=maxLen/\(l≠[]->∃b A,G=some ⟨b,A,none⟩/\∀j (J:j<l.length),D b (A+j)/\w.cell? ⟨b,A+j,none⟩=some (.int .u64 (l[j]:Nat))):=by
 unfold ns at h;generalize I:l.map yN=es at h;cases h with
 |sl a y sz es o b A u hc hz hm ha hsz hd hx=>have K:es.length=l.length:=(by rw[<-I];simp);refine⟨a,y,by rw[K],a8,hm,λF=>?_⟩;have B:0<l.length:=wV.2 F;have g:∀i (h:i<l.length),es[i]?=some (yN l[i]):=λi h=>(by rw[<-I];exact xo h);obtain rfl:1=sz:=hsz 0 _ (g 0 B);have E:es≠[]:=(by intro e;subst e;simp at K;omega);refine⟨b,A,ha E,λj J=>?_⟩;have L:=(hx j _ 0 _ (g j J) rfl).v_inv;obtain⟨H,C,_⟩:=hd (j*1+0) a8;rw[L]at C;simp only[Uj,ud]at H C;exact⟨H,C⟩
def ve{P:Program}(w:World)(t u e:TypeId)(i:TypeInfo)(ht:P.underlying t=some (.slice e))(hi:P.info? e=some i)(j:Option Addr)(n cp c:Nat)(o:n<=cp):
 (Builtin.append_ #[t,t] u #[.slice j n cp,.slice none 0 c]).run P w=.ok (.slice j n cp) w:=by
 cases j<;>simp[Builtin.append_,tG ht,sizeOf,typeInfo,hi,Builtin.lenOf,Builtin.firstCells,o,storeCells]
def zbE(w:World)(t M:TypeId)(ht:xT.underlying t=some (.slice 36))(base:Nat)(v:Value)(n:Nat)(N:List Value)(y:w.ownsRow base 36 1 v n N)(G:Option Addr)(m c:Nat)(o:List Value)(O:o.length=m)
 (B:(m=0/\G=none)\/∃a,G=some a/\∀j u,o[j]?=some u->w.cell? (a.add j)=some u) (U:∀u∈o,u.oneCell'=true) (V:n+m<=17179869184) (A:base<=w.heap.size) :
 ∃C F,(Builtin.append_ #[t,t] M #[v,.slice G m c]).run xT w=.ok C F/\F.ownsRow base 36 1 C (n+m) (N++o)/\w.grownBy F v.ownBlock/\(C.ownBlock=v.ownBlock\/C.ownBlock=some w.heap.size):=by
 obtain⟨Q,E,J,K,L⟩:=tP Vf;rcases B with⟨rfl,rfl⟩|⟨a,rfl,X⟩
 .obtain rfl:o=[]:=wW.1 O;obtain⟨H,cp,rfl,I⟩:∃H cp,v=.slice H n cp/\n<=cp:=by
   rcases y.2 with⟨rfl,rfl⟩|⟨g,S,T,rfl,_,_,h,_⟩
   .exact⟨none,0,rfl,Zp _⟩
   .exact⟨_,_,rfl,h⟩
  exact⟨_,w,ve w t M _ Q ht E H n cp c I,dJ y,jW _ _,.inl rfl⟩
 .obtain⟨C,F,Y,Z,r3,_,r5⟩:=Tf (P:=xT) w base t M 36 Q _ 1 8 ht E J K L rfl b8 v n N y a m c o (dJ O) X U c8 a8 A;exact⟨C,F,Y,Z,r3,r5⟩
def xK{G:Array Oper}{o:Oper}{a:Act}{w:World}{K:Act->World->Prop}{Q:Exit->Act->World->Prop}{E:Prop}(s x:Operand)(t:TypeId)(L:o.guard=none)
 (ho:o.op=.call { callee:=.builtin .append,args:=#[s,x],argTypes:=#[t,t] }) (ht:xT.underlying t=some (.slice 36)) (base:Nat) (v:Value) (n:Nat) (M:List Value) (hs:a.eval s=v) (F:w.ownsRow base 36 1 v n M)
 (I:Option Addr) (m c:Nat) (y:List Value) (X:a.eval x=.slice I m c) (T:y.length=m) (B:(m=0/\I=none)\/∃a,I=some a/\∀j u,y[j]?=some u->w.cell? (a.add j)=some u) (N:∀u∈y,u.oneCell'=true) (J:n+m<=17179869184) (A:base<=w.heap.size)
 (h:∀C H,H.ownsRow base 36 1 C (n+m) (M++y)->w.grownBy H v.ownBlock->(C.ownBlock=v.ownBlock\/C.ownBlock=some w.heap.size)->K (a.put o.dst C) H):if Region.wanted o (yielded G a.tmps)=true then Oper.wp xT o a w K Q else E:=by
 have V:Region.wanted o (yielded G a.tmps)=true:=by simp[Region.wanted,L]
 rw[vD V];obtain⟨C,H,U,O,P,S⟩:=zbE w t o.type ht base v n M F I m c y T B N J A;unfold Oper.wp execOp;simp only[ho,resolve,invoke,builtin,tE,tH,tx,uf,Wx,W6,hs,X,U];exact h C H O P S
def zdy{w:World}{base A:Nat}(j:base<=A)(h:w.heap[A]?=some (.cells #[] 36 (0,0))):w.ownsRow base 36 1 (.slice (some ⟨A,0,none⟩) 0 0) 0 []:=⟨rfl,.inr ⟨A,0,#[],rfl,j,h,Zp _,X4 _,rfl,rfl⟩⟩
def yw(w:World)(o j:Obj):((w.alloc o).alloc j).heap[w.heap.size]?=some o:=(tu _ _ _ b6).trans (tn w o)
def yx(w:World)(o j:Obj):((w.alloc o).alloc j).heap[w.heap.size+1]?=some j:=by
 have:=tn (w.alloc o) j
 rwa[tv]at this
def YR(w:World)(o:Obj):Below w.heap.size w (w.drew.alloc o):=⟨rfl,rfl,rfl,b6,λk hk=>tu w.drew _ _ hk⟩
def XM(w:World)(o j:Obj):Below w.heap.size w ((w.drew.alloc o).alloc j):=(YR w o).alloc b6 _
def zbw(C:Qk)(N:List Nat)(x:Nat)(va:Value)(w:World)(hl:(srt N).length<=4194304)(hd:Dat C w va (ns (srt N)))(hC:∀b o,C b o->b<w.heap.size):
 Calls xT 131 #[va,.int .u64 (x:Nat)] w λe w'=>∃v,e=.returned v/\Below w.heap.size w w'/\Dat (λb o=>C b o\/(w.heap.size<=b/\b<w'.heap.size)) w' v (ns (srt (N++[x]))):=by
 obtain⟨l,ac⟩:=xm (srt N);have HD:=qL hd;rw[<-ac]at hl hd;have F:=qL ac;obtain⟨Y,O,rfl,aI,aD,au⟩:=zim hd;have ai:=qL au;clear hd ac au;unfold maxLen at aD;go_enter func131,ntmps131
 go_wp2_with fail
 go_loopg [5] l.length (λg y wr=>wr=w/\∃k,k<=l.length/\g=l.length-k/\y=.int .i64 k/\∀j,(h:j<l.length)->j<k->l[j]<x)
 case atStart=>exact⟨rfl,0,X4 _,rfl,rfl,λj _ h=>absurd h a8⟩
 case round=>
  obtain⟨rfl,k,hk,rfl,rfl,B⟩:=hrel;have HJ:=qL B;clear B;by_cases S:k<l.length
  .obtain⟨b,G,rfl,H⟩:=ai.o (λe=>by rw[e]at S;simp at S);have ar:=(H k S).2;obtain⟨y,Z⟩:=xm (l[k]);rw[<-Z]at ar;have HY:=qL Z;have aj:=qL H;clear Z H;by_cases h2:y<x
   .go_wp2_with fail
    go_roundg (l.length-(k+1));case measure=>omega
    case rel=>
     refine⟨rfl,k+1,S,rfl,b6,λj aE aJ=>?_⟩;rcases wJ j k with h3|h3
     .exact HJ.o j aE h3
     .obtain rfl:j=k:=a8;rw[<-HY.o];exact h2
   .by_cases h3:y=x
    .go_wp2_with fail
     refine tz (tJ rfl _ _ _) rfl ?_;have av:x∈srt N:=(by rw[<-F.o,<-h3,HY.o];exact Y1 S);rw[zaw av];exact⟨_,rfl,tr _ _,HD.o.mono (λ_ _ h=>.inl h) λ_ _ _ _ h=>h⟩
    .go_wp2_with fail
     have af:xT.follows .mixedOrders=true:=dK;have V:∀u∈(l.take k).map uV,u.oneCell'=true:=QN;have ae:∀u∈(l.drop k).map uV,u.oneCell'=true:=QN;have M:∀u∈[uV x],u.oneCell'=true:=λu hu=>(by simp at hu;subst hu;rfl);have L:∀W:World,Below wr.heap.size wr W->∀j (B:j<l.length),W.cell? ⟨b,G+j,none⟩=some (uV l[j]):=λW hB j B=>(tl (a:=⟨b,G+j,none⟩) (hB.block b (hC _ _ (aj.o j B).1))).trans (aj.o j B).2;have aw:∀W:World,Below wr.heap.size wr W->(k=0/\(some (⟨b,G,none⟩:Addr))=none)\/∃a,some (⟨b,G,none⟩:Addr)=some a/\∀j u,((l.take k).map uV)[j]?=some u->W.cell? (a.add j)=some u:=λW hB=>.inr ⟨_,rfl,λj u h=>by
      rw[wk]at h;obtain⟨y,Z,rfl⟩:=ZZ.1 h;obtain⟨B,rfl⟩:=Zw.1 Z;rw[zh,uZ];exact L W hB j (by simp at B;omega)⟩
     have ax:∀W:World,Below wr.heap.size wr W->(l.length-k=0/\(some (⟨b,G+k,none⟩:Addr))=none)\/∃a,some (⟨b,G+k,none⟩:Addr)=some a/\∀j u,((l.drop k).map uV)[j]?=some u->W.cell? (a.add j)=some u:=λW hB=>.inr ⟨_,rfl,λj u h=>by
      rw[wk]at h;obtain⟨y,Z,rfl⟩:=ZZ.1 h;obtain⟨B,rfl⟩:=Zw.1 Z;rw[zh,Us,show G+k+j=G+(k+j) by omega];exact L W hB (k+j) (by simp at B;omega)⟩
     have az:=qL aw;have aA:=qL ax;have ar:¬(O=k):=a8;have aK:k<=O:=a8;have aL:k<=l.length:=a8;have I:∀v w,w.ownsRow wr.heap.size 36 1 v (k+1+(l.length-k)) ((l.take k).map uV++([uV x]++(l.drop k).map uV))->OwnN wr.heap.size w v (srt (N++[x])):=λv w h=>by
      have hi:=kJ (xs:=N) (x:=x) (at_:=k) (by rw[<-F.o];omega) (λj h5 h6=>by
       have h7:l[k]<=(srt N)[j]:=by
        rcases uC h6 with h8|h8
        .subst h8;simp only[F.o];exact Zp _
        .have:=jJ (yi N) h5 h8;simp only[F.o];omega
       have:=HY.o;omega) (by
       rcases WC k with h5|h5
       .exact .inl h5
       .refine .inr ⟨by rw[<-F.o];omega,?_⟩;have h6:=HJ.o (k-1) a8 a8;simpa only[F.o]using h6)
      rw[hi,<-F.o];unfold OwnN;have e:(l.take k++x::l.drop k).length=k+1+(l.length-k):=a9;rw[e];show w.ownsRow wr.heap.size 36 1 v _ (List.map uV _);rw[WJ,Wx];exact h
     have P:=qL I;clear I aw ax L;go_region_law_o (first
      | (refine xK (.tmp 33) (.tmp 36) 128 rfl rfl underlying128 wr.heap.size (.slice (some ⟨_,0,none⟩) 0 0) 0 [] rfl (zdy a8 (by first|exact tn _ _|exact tn wr _|exact yw _ _ _|exact yx _ _ _|exact yw wr _ _|exact yx wr _ _)) _ k _ ((l.take k).map uV) rfl dE (az.o _ (by first|exact YR _ _|exact XM _ _ _)) V a8 dE ?_
         intro aF X E A an;have b1:Below wr.heap.size wr X:=by first|exact(YR wr _).grown A dE (λj B=>by simp[Value.ownBlock]at B;omega)|exact(XM wr _ _).grown A dE (λj B=>by simp[Value.ownBlock]at B;omega))
      | (refine xK (.tmp 37) (.tmp 39) 128 rfl rfl underlying128 wr.heap.size _ (0+k) ([]++(l.take k).map uV) rfl (by first|exact E|exact E.alloc _) _ 1 _ [uV x] rfl rfl (.inr ⟨_,rfl,vH (vt := 36) (by first|exact tn X _|exact(A.block _ dE dF).trans (yw wr _ _)|exact(A.block _ dE dF).trans (yx wr _ _))⟩) M a8 (by have:=A.size;simp at this⊢<;>omega) ?_
         intro aG ah K J ao;have b2:Below wr.heap.size wr ah:=by first|exact b1.grown J b1.size (λj B=>(E.lt j B).1)|exact(b1.alloc b1.size _).grown J (by have:=b1.size;simp<;>omega) (λj B=>(E.lt j B).1))
      | (refine xK (.tmp 40) (.tmp 43) 128 rfl rfl underlying128 wr.heap.size _ (0+k+1) ([]++(l.take k).map uV++[uV x]) rfl K _ (l.length-k) _ ((l.drop k).map uV) rfl dE (aA.o _ b2) ae a8 b2.size ?_
         intro ag aH U Q aq;have b3:=b2.grown Q b2.size λj B=>(K.lt j B).1))
     all_goals (go_wp2;all_goals (refine tz (tJ rfl _ _ _) rfl ?_;exact⟨ag,rfl,b3,vL (base:=wr.heap.size) (P.o _ _ (dJ U)) λb o h1 h2=>.inr ⟨h1,h2⟩⟩))
  .obtain rfl:k=l.length:=a8
   go_wp2_with fail
   have af:xT.follows .mixedOrders=true:=dK;obtain⟨ak,ab,am⟩:∃ak ab,(ak,ab)=(if O=l.length then Y else Option.map (λx=>x.add l.length) Y,O-l.length):=⟨_,_,rfl⟩;have aM:l.length+1<=17179869184:=a8;have V:∀u∈l.map uV,u.oneCell'=true:=QN;have M:∀u∈[uV x],u.oneCell'=true:=λu hu=>(by simp at hu;subst hu;rfl);have ay:∀W:World,Below wr.heap.size wr W->(l.length=0/\Y=none)\/∃a,Y=some a/\∀j u,(l.map uV)[j]?=some u->W.cell? (a.add j)=some u:=λW hB=>by
    by_cases h0:l=[]
    .subst h0;cases Y with
     |none=>exact .inl ⟨rfl,rfl⟩
     |some a=>exact .inr ⟨a,rfl,λj u h=>by simp at h⟩
    .obtain⟨b,G,rfl,hc⟩:=ai.o h0;refine .inr ⟨_,rfl,λj u h=>?_⟩;rw[wk]at h;obtain⟨y,Z,rfl⟩:=ZZ.1 h;obtain⟨B,rfl⟩:=Zw.1 Z;rw[zh];exact(tl (a:=⟨b,G+j,none⟩) (hB.block b (hC _ _ (hc j B).1))).trans (hc j B).2
   have T:(0=0/\(if O=l.length then Y else Option.map (λx=>x.add l.length) Y)=none)\/∃a,(if O=l.length then Y else Option.map (λx=>x.add l.length) Y)=some a:=by
    cases Y<;>simp;split<;>simp
   have aB:=qL ay;have aC:=qL T;clear ay T am;have I:∀v w,w.ownsRow wr.heap.size 36 1 v (l.length+1) (l.map uV++[uV x])->OwnN wr.heap.size w v (srt (N++[x])):=λv w h=>by
    have hi:=kJ (xs:=N) (x:=x) (at_:=(srt N).length) (Zp _) (λj h1 h2=>a8) (by
     rcases WC (srt N).length with h5|h5
     .exact .inl h5
     .refine .inr ⟨a8,?_⟩;have h6:=HJ.o ((srt N).length-1) (by rw[F.o];omega) (by rw[F.o];omega);simpa only[F.o]using h6)
    rw[hi,<-F.o,Wo,uL];unfold OwnN;rw[wj,uW];show w.ownsRow wr.heap.size 36 1 v _ (List.map uV _);rw[WJ];exact h
   have P:=qL I;clear I;go_region_law_o (first
    | (refine xK (.tmp 33) (.tmp 36) 128 rfl rfl underlying128 wr.heap.size (.slice (some ⟨_,0,none⟩) 0 0) 0 [] rfl (zdy a8 (by first|exact tn _ _|exact tn wr _|exact yw _ _ _|exact yx _ _ _|exact yw wr _ _|exact yx wr _ _)) _ l.length _ (l.map uV) rfl dE (aB.o _ (by first|exact YR _ _|exact XM _ _ _)) V a8 dE ?_
       intro aF X E A an;have b1:Below wr.heap.size wr X:=by first|exact(YR wr _).grown A dE (λj B=>by simp[Value.ownBlock]at B;omega)|exact(XM wr _ _).grown A dE (λj B=>by simp[Value.ownBlock]at B;omega))
    | (refine xK (.tmp 37) (.tmp 39) 128 rfl rfl underlying128 wr.heap.size _ (0+l.length) ([]++l.map uV) rfl (by first|exact E|exact E.alloc _) _ 1 _ [uV x] rfl rfl (.inr ⟨_,rfl,vH (vt := 36) (by first|exact tn X _|exact(A.block _ dE dF).trans (yw wr _ _)|exact(A.block _ dE dF).trans (yx wr _ _))⟩) M a8 (by have:=A.size;simp at this⊢<;>omega) ?_
       intro aG ah K J ao;have b2:Below wr.heap.size wr ah:=by first|exact b1.grown J b1.size (λj B=>(E.lt j B).1)|exact(b1.alloc b1.size _).grown J (by have:=b1.size;simp<;>omega) (λj B=>(E.lt j B).1))
    | (refine xK (.tmp 40) (.tmp 43) 128 rfl rfl underlying128 wr.heap.size _ (0+l.length+1) ([]++l.map uV++[uV x]) rfl K _ 0 _ ([]) rfl dE (by rcases aC.o with h|⟨a,h⟩;exact .inl h;exact .inr ⟨a,h,λj u B=>by simp at B⟩) b6 a8 b2.size ?_
       intro ag aH U Q aq;have b3:=b2.grown Q b2.size λj B=>(K.lt j B).1))
   all_goals (go_wp2;all_goals (refine tz (tJ rfl _ _ _) rfl ?_;exact⟨ag,rfl,b3,vL (base:=wr.heap.size) (P.o _ _ (dJ U)) λb o h1 h2=>.inr ⟨h1,h2⟩⟩))
end
section
def cp2(a b:Nat):PV:=.agg [.v (.int .u64 a),.v (.int .u64 b)]
def cw(n:Nat):PV:=cp2 (n/zk) (n%zk)
attribute [go_sem] cp2 cw
def kD(v:List En)(r:Nat)(j:SmV v):Cn xT 134 [vp v,.v (.int .u64 r)] (rg (zT v r)):=by
 have w:=j.2.1;refine zt func134 2 ?_;refine pw ?_;refine .rd (zbB v r a8) rfl ?_;rcases X2 r v 0 with⟨e1,e2⟩|⟨i,hi,e1,e2⟩
 .rw[e1,qC e2];exact pd
 .have u:=j.2.2 _ (Y1 hi);rw[e1,zh8 j.1 hi e2,wn];refine pw ?_;refine .i ?_ ?_<;>intro o<;>first|refine pw ?_|exact pd
  .exact absurd o a8
  .exact .d (Vl v[i] (j.1.1 _ (Y1 hi)) a8)
def zoF{r c:Nat}(u:r<zk)(j:c<zk):SmV (zl9 r c):=by have h:=zoD u j;exact⟨h.1,by have:=h.2.1;omega,λe o=>by have:=h.2.2 e o;omega⟩
def zoX(v:List En)(r c:Nat)(u:SmV v)(o:r<zk)(j:c<zk):Cn xT 74 [vp v,.v (.int .u64 r),.v (.int .u64 c)] (vp (ks zn v (zl9 r c))):=by
 have h:=zdc v (zl9 r c) u (zoF o j);refine zt func74 3 ?_;refine pw ?_;refine .c (zjT r [⟨c,c⟩] (zmc j) b6) ?_
 (first|exact .d (h)|exact .q (h))
def vps(j:List (List En)):PV:=.sl (j.map λv=>[vp v]) .sh
attribute [go_sem] vps
def b10:List En:=[⟨2,3,[]⟩]
def u10:List En:=[⟨1,4,[]⟩,⟨2,3,[]⟩]
def c10:List En:=[⟨3,0,[]⟩]
def zap(j:List Nat)(x:Nat)(A:(srt j).length<=4194304):Cn xT 131 [ns (srt j),.v (.int .u64 x)] (ns (srt (j++[x]))):=by refine yZ rfl (enters_of func131 dK rfl) λD w E C y o u=>?_;rw[zeJ o,(u 1 _ rfl).v_inv];refine(zbw D j x _ w A (u 0 _ rfl) y).mono ?_;rintro e F ⟨v,rfl,hb,B⟩;exact⟨v,rfl,hb,B⟩
def VW{v:List En}{xs:List Nat}{k:Nat}(u:v.length<=1048576)(w:xs.length<=1048576):(srt (xs++zM (v.take k))).length<=4194304:=by have j:=ju (xs++zM (v.take k));have o:(v.take k).length<=1048576:=V1 (td _ _) u;simp only[zM,wj,ww]at j o;simp only[zM];omega
def YH{v:List En}{k:Nat}(h:k<v.length):zM (v.take (k+1))=zM (v.take k)++[v[k].rep]:=by unfold zM;rw[vj h,WJ];rfl
def zcC(a b:List En)(op:Nat)(ho:op<3)(A:SmV a)(hb:SmV b):Cn xT 96 [vp a,vp b,.v (.int .i64 op)] (vp (ks (Qj op) a b)):=by
 have K:=A.2.1;have M:=hb.2.1;have N:Qj op false false=false:=by
  match op,ho with
  |0,_=>rfl
  |1,_=>rfl
  |2,_=>rfl
 refine zhs func96 [] 3 dK rfl (by simp[go_sem,seval]) 14 (.dr [⟨(some 47),none,(.mv (.t 7))⟩,⟨(some 48),none,(.mv (.t 11))⟩,⟨(some 49),none,(.ia (.t 47) (.t 48) 1)⟩,⟨(some 50),none,(.ld (.t 49) false 1)⟩,⟨(some 51),none,(.mv (.t 0))⟩,⟨(some 52),none,(.mv (.t 7))⟩,⟨(some 53),none,(.mv (.t 11))⟩,⟨(some 54),none,(.ia (.t 52) (.t 53) 1)⟩,⟨(some 55),none,(.ld (.t 54) false 1)⟩,⟨(some 56),none,(.ca 134 [(.t 51),(.t 55)])⟩,⟨(some 57),none,(.mv (.t 1))⟩,⟨(some 58),none,(.mv (.t 7))⟩,⟨(some 59),none,(.mv (.t 11))⟩,⟨(some 60),none,(.ia (.t 58) (.t 59) 1)⟩,⟨(some 61),none,(.ld (.t 60) false 1)⟩,⟨(some 62),none,(.ca 134 [(.t 57),(.t 61)])⟩,⟨(some 63),none,(.mv (.t 2))⟩,⟨(some 64),none,(.ca 133 [(.t 56),(.t 62),(.t 63)])⟩,⟨(some 65),none,(.ca 132 [(.t 50),(.t 64)])⟩,⟨(some 46),none,(.mv (.t 65))⟩,⟨(some 66),none,(.ex (.t 46) 0)⟩,⟨(some 67),none,(.ex (.t 46) 1)⟩] [⟨(some 12),none,(.al [(.v (.int .u64 0)),(.v (.int .u64 0)),(.sl [] .sh)])⟩,⟨none,none,(.st (.t 12) (.t 66) 3)⟩,⟨(some 13),none,(.mv (.t 67))⟩]) rfl dK ?_
 conv=>enter [4,6];(unfold xN;simp only[Tryz.f96])
 simp only[pcT,Nat.reduceEqDiff,UX,UJ,reduceIte];repeat (conv in (zgV _ _ _ _ _ _)=>cbv)
 repeat (conv in (zgW _)=>cbv)
 conv=>enter [5,1];cbv
 refine pw ?_;refine pLoop.go (λk=>k<=a.length) (λk=>[(7,ns (srt ([]++zM (a.take k)))),(8,.v (.int .i64 (k:Nat)))]) (λ_=>[]) (λk=>a.length-k) 0 [7,8] ?_ ?_ ?_
 .exact X4 _
 .simp only[wZ,zM,W6,wY,XB];exact pd
 ·rintro k hk;refine pw ?_;refine .i ?_ ?_<;>intro h<;>first|refine pw ?_|exact pd
  .refine .c (zap ([]++zM (a.take k)) a[k].rep (VW (xs:=[]) K b6)) ?_;refine⟨k+1,h,a8,?_,rfl⟩;rw[YH h]
  ·rw [show k=a.length by omega,Wo];refine pLoop.go (λk=>k<=b.length) (λk=>[(7,ns (srt (zM a++zM (b.take k)))),(9,.v (.int .i64 (k:Nat)))]) (λ_=>[]) (λk=>b.length-k) 0 [7,9] ?_ ?_ ?_
   .exact X4 _
   .simp only[wZ,zM,W6,wY];exact pd
   .rintro k hk;refine pw ?_;refine .i ?_ ?_<;>intro E<;>first|refine pw ?_|exact pd
    .refine .c (zap (zM a++zM (b.take k)) b[k].rep (VW (xs:=zM a) M (by simp[zM];omega))) ?_;refine⟨k+1,E,a8,?_,rfl⟩;rw[YH E,wQ]
    .rw[show k=b.length by omega,Wo];obtain⟨L,y⟩:=xm (srt (zM a++zM b));have H:L.length<=2097152:=by have C:=ju (zM a++zM b);simp only[zM,wj,ww]at C;rw[y];simp only[zM];omega
     have I:∀r∈L,r<zk:=(by rw[y];exact Xr A.1 hb.1);have u:ks (Qj op) a b=L.filterMap (vE (Qj op) a b):=(by rw[y];rfl);rw[<-y,u];clear u y;refine pLoop.go (λk=>k<=L.length) (λk=>[(10,.sl (((L.take k).filterMap (vE (Qj op) a b)).map ec) (.r 72 3)),(11,.v (.int .i64 (k:Nat)))]) (λ_=>[]) (λk=>L.length-k) 0 [10,11,72] ?_ ?_ ?_
     .exact X4 _
     .simp only[wZ,UR,W6];exact pd
     .rintro k hk;have G:((L.take k).filterMap (vE (Qj op) a b)).length<=k:=V1 (Ug _ _) a9;refine pw ?_;refine .i ?_ ?_<;>intro B<;>first|refine pw ?_|exact pd
      .have ka:=qS A L[k];have kb:=qS hb L[k];have J:(qy (Qj op) (zT a L[k]) (zT b L[k])).length<=80100:=(by have C:=xR (Qj op) (zT a L[k]) (zT b L[k]);omega);have j:=zg1 L[k] (qy (Qj op) (zT a L[k]) (zT b L[k])) (qH ka.1 kb.1) a8;have w:=KZ (f:=Qj op) (a:=a) (b:=b) B;obtain⟨e,ok,F⟩:∃e ok,Qi L[k] (qy (Qj op) (zT a L[k]) (zT b L[k]))=(e,ok):=⟨_,_,rfl⟩;rw[zac F]at w;rw[F]at j;refine .c (kD a L[k] A) ?_;refine .c (kD b L[k] hb) ?_;refine .c (zhw (zT a L[k]) (zT b L[k]) op ka.1 kb.1 ho a8 a8) ?_;cases ok with
       | true=>
         (first|refine .c (j) ?_|refine .o (j) ?_)
         refine⟨k+1,B,a8,?_,rfl⟩;rw[w];simp;rfl
       | false=>
         (first|refine .c (j) ?_|refine .o (j) ?_)
         refine⟨k+1,B,a8,?_,rfl⟩;rw[w];simp
      .rw[show k=L.length by omega,Wo]
def zq7(r c:Nat)(j:c<zk):Cn xT 125 [.v (.int .u64 r),.v (.int .u64 c)] (vp (zl9 r c)):=by refine zt func125 2 ?_;refine pw ?_;refine .c (zg1 r [⟨c,c⟩] (zmc j) b6) ?_;rfl
def WV.smv{C:Q9}{R:List Nat}{v:List En}(h:WV C R v)(ok:OkC C R):SmV v:=(h.bv ok.1 ok.2).mono (Zp _) a8
def kH{D:Qk}{w:World}{x:Value}{u:List (List PV)}{o:Ow}(h:Dat D w x (.sl u o)):∃s:Sv,x=sv s/\s.2.1=u.length:=by obtain⟨y,j,B,b,A,f,e1,_⟩:=(Rel.dat (ρ:=λ_=>0) (nb:=0) h).inv_sl;exact⟨(y,u.length,j),e1,rfl⟩
def kX{D:Qk}{O:Nat}{w:World}{v:Value}{k:List Fg}(h:Dat D w v (kp k))(P:∀b o,D b o->b<O):
 ∃a y C,v=.slice a k.length y/\∃E:C.length=k.length,zeF O w a y C/\∀i (h:i<C.length),Dat D w (sv C[i].1) (rg (k[i]'(E▸h)).items)/\Dat D w (sv C[i].2) (vp (k[i]'(E▸h)).vec):=by
 unfold kp at h;generalize N:k.map fc=es at h;cases h with
 | sl a y sz es o b off u hc hz hm ha hsz hd hx=>
   have E:es.length=k.length:=(by rw[<-N];simp);have g:∀i (h:i<k.length),es[i]?=some (fc k[i]):=λi h=>(by rw[<-N];exact xo h);have B:∀i,i<k.length->∃f:Fv,∀h:i<k.length,(sz=2/\u (i*2)=sv f.1/\u (i*2+1)=sv f.2)/\Dat D w (sv f.1) (rg k[i].items)/\Dat D w (sv f.2) (vp k[i].vec):=λi hi=>(by obtain rfl:2=sz:=hsz i _ (g i hi);have d0:Dat D w (u (i*2+0)) (rg k[i].items):=hx i _ 0 _ (g i hi) rfl;have I:Dat D w (u (i*2+1)) (vp k[i].vec):=hx i _ 1 _ (g i hi) rfl;obtain⟨Q,H,_⟩:=kH d0;obtain⟨S,e1,_⟩:=kH I;rw[H]at d0;rw[e1]at I;exact⟨(Q,S),λ_=>⟨⟨rfl,H,e1⟩,d0,I⟩⟩);obtain⟨F,hF⟩:=Go.Deep.choose_lt B;refine⟨a,y,(List.range k.length).map F,by rw[E],b6,⟨a9,hm,λG=>?_⟩,λi hi=>?_⟩
   .have A:0<k.length:=by
     rcases WC k.length with J|J
     .rw[J]at G;simp at G
     .exact J
    obtain⟨⟨rfl,_⟩,_⟩:=hF 0 A A;have K:es≠[]:=(by intro e;subst e;simp at E;omega);refine⟨b,off,ha K,P _ _ (hd 0 a8).1,λi hi=>?_⟩;have j:i<k.length:=(dJ hi);obtain⟨⟨_,H,e1⟩,_⟩:=hF i j j;have L:=(hd (i*2) a8).2.1;have M:=(hd (i*2+1) a8).2.1;rw[H]at L;rw[e1]at M;simp only[UB,US];exact⟨L,M⟩
   .have j:i<k.length:=(dJ hi);simp only[UB,US];exact(hF i j j).2
def zez{j:Nat->Bool}{p:Nat×Fv}:∀{l:List Fv}{n:Nat},p∈wl j n l->∃h:p.1-n<l.length,n<=p.1/\p.2=l[p.1-n]/\j p.1=true
 |[],n,h=>by cases h
 | f::l,n,h=>by
   unfold wl at h;have o:p∈wl j (n+1) l->∃h:p.1-n<(f::l).length,n<=p.1/\p.2=(f::l)[p.1-n]/\j p.1=true:=λh=>by obtain⟨y,A,u,w⟩:=zez h;refine⟨a9,a8,?_,w⟩;rw[u];have e:p.1-n=(p.1-(n+1))+1:=a8;simp only[e,WN]
   split at h
   .rename_i hh;rcases wi.1 h with rfl|h
    .exact⟨b6,Zp _,b6,hh⟩
    .exact o h
   .exact o h
def Yp{α:Type}{k:List Fg}{u:List Fv}(y:u.length=k.length)(item:Nat)(step:α->Nat->Fg->α)(o:α):
 (wl (λj=>mem (k.getD j default).items item) 0 u).foldl (λa p=>step a p.1 (k.getD p.1 default)) o=(withF item 0 k).foldl (λa p=>step a p.1 p.2) o:=by
 have w:∀j,j<=k.length->(wl (λj=>mem (k.getD j default).items item) 0 (u.take j)).foldl (λa p=>step a p.1 (k.getD p.1 default)) o=(withF item 0 (k.take j)).foldl (λa p=>step a p.1 p.2) o:=by
  intro j;induction j with
  |zero=>intro _;rfl
  | succ j ih=>
    intro A;rw[XF a8,j9 item a8,WW,WW,ih a8];have e:k.getD j default=k[j]:=(by simp[vw,Zv (show j<k.length by omega)]);simp only[e];split
    .show step _ j (k.getD j default)=step _ j k[j];rw[e]
    .rfl
 have:=w k.length (Zp _)
 rwa[<-y,Wo,y,Wo]at this
def V8(k:List Fg)(i:Nat):PV:=.fn (.func 120) [] [.cp [kp k] 0,.cp [.v (.int .u64 i)] 0]
attribute [go_sem] V8
def zfB(k:List Fg)(i:Nat):Cn xT 86 [kp k,.v (.int .u64 i)] (V8 k i):=by refine zt func86 2 ?_;exact pd
def zjy(v:List En)(i:Nat)(f:Fg)(o:SmV v)(j:SmV f.vec):Cn xT 145 [vp v,.v (.int .i64 i),fp f] (vp (ks zn v f.vec)):=by refine zt func145 3 ?_;refine pw ?_;exact .d (zdc v f.vec o j)
def InvD{α:Type}(D0:Qk)(n:Nat)(pv:α->PV)(P:α->Prop)(W:World)(u:Value)(a:α):Prop:=
 P a/\∃D:Nat->Nat->Prop,GL D W/\(∀b o,D b o->b<W.heap.size/\b≠n/\b≠n+2/\b≠n+3)/\(∀b o,D b o->D0 b o\/n<=b)/\(∀b o,D0 b o->D b o)/\Dat D W u (pv a)
section
variable {α:Type}{D0:Qk}{pv:α->PV}{P:α->Prop}{w W A B:World}{u:Value}{a:α}
def InvD.start{y:Value}(A:Dat D0 w y (.sl [] .sh))(B:GL D0 w)(j:∀b o,D0 b o->b<w.heap.size)(hb:Below w.heap.size w W)(C:P a)(F:pv a=.sl [] .sh):InvD D0 w.heap.size pv P W y a:=by
 have u:∀b o x,D0 b o->w.cell? ⟨b,o,none⟩=some x->W.cell? ⟨b,o,none⟩=some x:=λb o x E G=>(hb.cell (p:=⟨b,o,none⟩) (j b o E)).trans G;refine⟨C,D0,B.mono (λ_ _ h=>h) u,λb o h=>?_,λ_ _ h=>.inl h,λ_ _ h=>h,?_⟩
 .have:=j b o h;have:=hb.size;exact⟨a8,a8,a8,a8⟩
 .rw[F];exact A.mono (λ_ _ h=>h) u
def InvD.shape{n:Nat}(h:InvD D0 n pv P W u a)(y:∃j,pv a=.sl j .sh):∃w n c,u=.slice w n c:=by obtain⟨_,D,_,_,_,_,o⟩:=h;obtain⟨j,e⟩:=y;rw[e]at o;obtain⟨s,rfl,_⟩:=kH o;exact⟨_,_,_,rfl⟩
def InvD.keep{n:Nat}(h:InvD D0 n pv P A u a)(hk:Keep (λk=>k=n\/k=n+2\/k=n+3) A B):InvD D0 n pv P B u a:=by
 obtain⟨H,D,C,w,E,F,G⟩:=h;have y:∀b o x,D b o->A.cell? ⟨b,o,none⟩=some x->B.cell? ⟨b,o,none⟩=some x:=λb o x j I=>
  (tl (a:=⟨b,o,none⟩) (hk.block b (w b o j).1 (by have:=w b o j;omega))).trans I
 exact⟨H,D,C.mono (λ_ _ h=>h) y,λb o j=>⟨Vm (w b o j).1 hk.size,(w b o j).2⟩,E,F,G.mono (λ_ _ h=>h) y⟩
def zhD{D:Qk}{f:Fv}{g:Fg}(o:Dat D w (sv f.1) (rg g.items))(u:Dat D w (sv f.2) (vp g.vec)):Dat D w (.agg #[sv f.1,sv f.2]) (fp g):=by
 refine .agg _ _ rfl (λi hi=>?_) λi p j=>?_
 .match i,hi with
  |0,_=>rfl
  |1,_=>rfl
 .match i,j with
  |0,j=>cases j;exact o
  |1,j=>cases j;exact u
  |i+2,j=>simp[fc]at j
def InvD.step{H:FuncId}{i:Nat}{f:Fv}{g:Fg}{F:α}(h:InvD D0 w.heap.size pv P W u a)(Q:∀b o,D0 b o->b<w.heap.size)(hb:Below w.heap.size w W)(hs:w.heap.size+4<=W.heap.size)(N:Dat D0 w (sv f.1) (rg g.items))(O:Dat D0 w (sv f.2) (vp g.vec))
 (T:Cn xT H [pv a,.v (.int .i64 i),fp g] (pv F)) (S:P F) :
 Calls xT H #[u,.int .i64 (i:Nat),.agg #[sv f.1,sv f.2]] W λe E=>∃K,e=.returned K/\InvD D0 w.heap.size pv P E K F/\Keep (zaB (w.heap.size+4) W) W E:=by
 obtain⟨_,D,I,C,L,J,M⟩:=h;have U:∀b o x,D0 b o->w.cell? ⟨b,o,none⟩=some x->W.cell? ⟨b,o,none⟩=some x:=λb o x B G=>(hb.cell (p:=⟨b,o,none⟩) (Q b o B)).trans G;refine(jP T I (λb o h=>(C b o h).1) rfl (λj p y=>?_)).mono ?_
 .match j,y with
  |0,y=>cases y;exact M
  |1,y=>cases y;exact .v _
  |2,y=>cases y;exact(zhD N O).mono J U
  |j+3,y=>simp at y
 .rintro e E ⟨v,rfl,A,B⟩;refine⟨v,rfl,⟨S,_,I.mono (λ_ _ h=>.inl h) λb o x B G=>(A.cell (p:=⟨b,o,none⟩) (C b o B).1).trans G,λb o h=>?_,λb o h=>?_,λb o h=>.inl (J b o h),B⟩,Keep.of_below' A (Zp _)⟩
  .rcases h with h|h
   .exact⟨Vm (C b o h).1 A.size,(C b o h).2⟩
   .exact⟨h.2,a8,a8,a8⟩
  .rcases h with h|h
   .exact L b o h
   .exact .inr a8
def InvD.done(h:InvD D0 w.heap.size pv P W u a):Dat (λb o=>D0 b o\/(w.heap.size<=b/\b<W.heap.size)) W u (pv a):=by obtain⟨_,D,C,j,y,E,A⟩:=h;exact A.mono (λb o h=>(y b o h).imp id λB=>⟨B,(j b o h).1⟩) λ_ _ _ _ h=>h
end
def zcx{D:Qk}{w:World}{x:Value}{p:PV}(h:Dat D w x (.cp [p] 0)):∃b o y,x=.pointer (some ⟨b,o,none⟩)/\D b o/\w.cell? ⟨b,o,none⟩=some y/\Dat D w y p:=by obtain⟨b,j,f,e,u,A⟩:=(Rel.dat (ρ:=λ_=>0) (nb:=0) h).inv_cp;have:=u 0 b6;exact⟨b,j,f 0,e,dJ this.1,dJ this.2.1,A 0 p rfl⟩
def zbU{D:Qk}{w:World}{x:Value}{k:List Fg}{i:Nat}(h:Dat D w x (V8 k i)):∃bk ok j oi v,x=.func (.func 120) #[] #[.pointer (some ⟨bk,ok,none⟩),.pointer (some ⟨j,oi,none⟩)]/\D bk ok/\D j oi/\w.cell? ⟨bk,ok,none⟩=some v/\w.cell? ⟨j,oi,none⟩=some (.int .u64 (i:Nat))/\Dat D w v (kp k):=by
 unfold V8 at h;cases h with
 | fn f va vb fs cs h1 h2 h3 h4=>
   rw[Ur.1 h1];obtain⟨l⟩:=vb;match l,h2 with
   |[y,z],_=>obtain⟨bk,ok,v,e1,B,A,E⟩:=zcx (h4 0 _ rfl);obtain⟨j,oi,u,e2,C,o,F⟩:=zcx (h4 1 _ rfl);rw[F.v_inv]at o;simp at e1 e2;subst e1 e2;exact⟨bk,ok,j,oi,v,rfl,B,C,A,o,E⟩
def zfQ{D:Qk}{w:World}{x:Value}(h:Dat D w x (.sl [] .sh)):∃j c,x=.slice j 0 c:=by obtain⟨⟨a,n,c⟩,rfl,e⟩:=kH h;simp only[Ww]at e;subst e;exact⟨a,c,rfl⟩
def QW(k:List Fg):Prop:=k.length<=1152921504606846976/\∀f∈k,f.items.length<=1152921504606846976/\f.vec.length<=1152921504606846976/\∀e∈f.vec,e.holes.length<=1152921504606846976
def YM{D:Qk}{w:World}{k:List Fg}{i bk ok B oi:Nat}{a:Option Addr}{cap:Nat}{fs:List Fv}(hr:RightK k)(hz:QW k)(hG:GL D w)(J:∀b o,D b o->b<w.heap.size)(V:D bk ok)(X:D B oi)(T:w.cell? ⟨bk,ok,none⟩=some (.slice a k.length cap))(U:w.cell? ⟨B,oi,none⟩=some (.int .u64 (i:Nat)))
 (I:fs.length=k.length) (G:zeF w.heap.size w a cap fs) (L:∀j (h:j<fs.length),Dat D w (sv fs[j].1) (rg (k[j]'(I▸h)).items)/\Dat D w (sv fs[j].2) (vp (k[j]'(I▸h)).vec)) {W:World} (hb:Below w.heap.size w W) :
 v7 xT 120 #[.pointer (some ⟨bk,ok,none⟩),.pointer (some ⟨B,oi,none⟩)] Y4 (λ_=>False) (PtF w.heap.size bk B) (wl (λj=>mem (k.getD j default).items i) 0 fs) W:=by
 have O:∀b o x,D b o->w.cell? ⟨b,o,none⟩=some x->W.cell? ⟨b,o,none⟩=some x:=λb o x A P=>(hb.cell (p:=⟨b,o,none⟩) (J b o A)).trans P;refine zew fs _ a cap bk ok B oi w.heap.size i W ?_ (by rw[I];exact O _ _ _ V T) (O _ _ _ X U) hb.size λw' j C F N=>?_
 .obtain⟨Y,Z,h3⟩:=G;refine⟨Y,Z,λM=>?_⟩;obtain⟨b,y,e1,e2,Q⟩:=h3 M;exact⟨b,y,e1,e2,λj C=>⟨(hb.cell (p:=⟨b,y+j*2,none⟩) e2).trans (Q j C).1,(hb.cell (p:=⟨b,y+j*2+1,none⟩) e2).trans (Q j C).2⟩⟩
 .have H:∀b o x,D b o->w.cell? ⟨b,o,none⟩=some x->w'.cell? ⟨b,o,none⟩=some x:=λb o x A P=>(tl (a:=⟨b,o,none⟩) (F b (J b o A))).trans (O b o x A P);have E:j<k.length:=I▸C;have S:=Y1 E;have e:k.getD j default=k[j]:=(by rw[vw,Zv E];rfl);simp only[e];refine(jP (ziQ k[j].items i (hr _ S).1 (hz.2 _ S).1) (hG.mono (λ_ _ h=>h) H) (λb o h=>Vm (J b o h) N) rfl (λt p u=>?_)).mono ?_
  .match t,u with
   |0,u=>cases u;exact(L j C).1.mono (λ_ _ h=>h) H
   |1,u=>cases u;exact .v _
   |t+2,u=>simp at u
  .rintro e W' ⟨v,rfl,K,A⟩;rw[A.v_inv];exact⟨rfl,K⟩
def is(l:List Nat):PV:=.sl (l.map λx=>[.v (.int .i64 (x:Nat))]) .sh
attribute [go_sem] is
def zfl{k:List Fg}{j:Nat}(h:j<k.length):k.getD j default=k[j]:=by rw[vw,Zv h];rfl
def zf9{α:Type}{pre j:List α}{p:α}(h:pre++[p] <+: j):p∈j:=h.subset b6
def zfk{C:Q9}{R:List Nat}(k:List Fg)(i:Nat)(hk:IK C R k)(ok:OkC C R)(hr:RightK k)(hs:∀f∈k,SmV f.vec)(hz:QW k):
 Cn xT 144 [V8 k i,.sl [] .sh,.fn (.func 145) [] []] (vp (qc k i)):=by
 refine yZ rfl (enters_of func144 dK rfl) λD w vs V y Q K=>?_;obtain⟨bk,ac,Z,oi,v,e0,S,T,c1,c2,L⟩:=zbU (K 0 _ rfl);obtain⟨a,ab,U,rfl,M,H,E⟩:=kX L y;have j:=K 1 _ rfl;obtain⟨I,J,e1⟩:=zfQ j;rw[e1]at j;rw[zjx Q,e0,e1,zcA (K 2 _ rfl)];refine(X8 120 _ bk Z _ w I J (enters_of func120 dK rfl) (λW hb=>YM hr hz V y S T c1 c2 M H E hb) (y _ _ S) (y _ _ T)
  (InvD D w.heap.size vp (WV C R)) (λo p=>ks zn o (k.getD p.1 default).vec) [] (λW hb=>InvD.start j V y hb WV.nil rfl) (λW u a h=>h.shape ⟨_,rfl⟩) (λA B u a h hk=>h.keep hk) λW u pre p G P hb h=>?_).mono ?_
 .obtain⟨N,_,O,_⟩:=zez (zf9 G);have X:p.1<U.length:=(dJ N);have F:p.1<k.length:=M▸X;have Y:=Y1 F;have q:=E p.1 X;have e:p.2=U[p.1]:=(by rw[O];simp);rw[zfl F,e];exact h.step y hb P q.1 q.2 (zjy _ p.1 k[p.1] (h.1.smv ok) (hs _ Y)) (h.1.iv.lat fU0 (hk _ Y))
 .rintro e w' ⟨u,rfl,hI,hb⟩;have h:=hI.done;rw[Yp M i (λo _ f=>ks zn o f.vec) []]at h;exact⟨u,rfl,hb,h⟩
def zdx{D:Qk}{base:Nat}{w:World}{v:Value}{l:List Nat}(h:OwnI base w v l)(G:∀b o,base<=b->b<w.heap.size->D b o):Dat D w v (is l):=by
 unfold is;have u:(l.map λx=>[PV.v (.int .i64 (x:Nat))]).length=l.length:=b6
 rcases id h.2 with⟨rfl,F⟩|⟨g,A,E,rfl,I,J,K,H,_⟩
 .obtain rfl:l=[]:=wW.1 F;exact .sl none 0 1 [] .sh 0 0 (λ_=>undef) b6 (λh=>by cases h) c8 (λh=>absurd rfl h) (λi e h=>by simp at h) (λj h=>by simp at h) (λi e j p h=>by simp at h)
 .rw[<-u];refine .sl _ A 1 _ .sh g 0 (λj=>.int .i64 (l.getD j 0:Nat)) (dJ K) (λh=>by cases h) H (λ_=>rfl) (λi e h=>?_) (λj C=>?_) (λi e j p B y=>?_)
  .simp only[wk,ZZ]at h;obtain⟨s,_,rfl⟩:=h;rfl
  .simp only[ww,Uj]at C;refine⟨G _ _ I (XV.1 J).1,?_,rfl⟩;rw[wn,h.cellAt _ (dJ C)];simp[C]
  .have hi:i<l.length:=(by have:=(Zw.1 B).1;simpa using this);rw[wk,Zv hi]at B;cases B;match j,y with
   |0,y=>cases y;simp[hi];exact .v _
   |j+1,y=>simp at y
def zbj(l:List (Nat×Fv)):∀a:List Nat,l.foldl (λo p=>o++[p.1]) a=a++l.map Prod.fst:=by
 induction l with
 |nil=>intro a;simp
 |cons p l ih=>intro a;rw[WI,ih];simp
def JV(l:List (Nat×Fg)):∀a:List Nat,l.foldl (λo p=>o++[p.1]) a=a++l.map Prod.fst:=by
 induction l with
 |nil=>intro a;simp
 |cons p l ih=>intro a;rw[WI,ih];simp
def zey(j:Nat->Bool):∀(n:Nat)(l:List Fv),(wl j n l).length<=l.length
 |_,[]=>Zp _
 | n,f::l=>by
   have:=zey j (n+1) l;unfold wl;split<;>simp<;>omega
def K9(k:List Fg)(i:Nat)(hr:RightK k)(hz:QW k)(ab:k.length<=1073741824):Cn xT 143 [kp k,.v (.int .u64 i)] (is (zU k i)):=by
 refine yZ rfl (enters_of func143 dK rfl) λD w vs hG S Y N=>?_;obtain⟨a,G,fs,e0,hl,I,K⟩:=kX (N 0 _ rfl) S;rw[zeJ Y,e0,(N 1 _ rfl).v_inv];obtain⟨y,F⟩:=xt ((w.alloc (.cells #[.slice a k.length G] 54)).alloc (.cells #[.int .u64 (i:Nat)] 36));have ad:y.heap.size=w.heap.size+2:=by rw[<-F];simp
 have b1:Below w.heap.size w y:=by rw[<-F];exact((tr _ _).alloc (Zp _) _).alloc b6 _
 have x1:Boxed y w.heap.size 54 (.slice a k.length G):=by rw[<-F];exact(tT w _ _).alloc _
 have x2:Boxed y (w.heap.size+1) 36 (.int .u64 (i:Nat)):=by rw[<-F];have:=tT (w.alloc (.cells #[.slice a k.length G] 54)) 36 (.int .u64 (i:Nat));rw[tv]at this;exact this
 have H:∀b o x,D b o->w.cell? ⟨b,o,none⟩=some x->y.cell? ⟨b,o,none⟩=some x:=λb o x N hx=>(b1.cell (p:=⟨b,o,none⟩) (S b o N)).trans hx;obtain⟨E,J⟩:∃E:Nat->Nat->Prop,E=λb o=>D b o\/(w.heap.size<=b/\b<y.heap.size):=⟨_,rfl⟩;have M:∀b o,E b o->b<y.heap.size:=λb o h=>by rw[J]at h;exact h.elim (λh=>by have:=S b o h;omega) ub
 have C:Calls xT 178 #[.func (.func 120) #[] #[.pointer (some ⟨w.heap.size,0,none⟩),.pointer (some ⟨w.heap.size+1,0,none⟩)],.slice none 0 0,.func (.func 179) #[] #[]] y λe T=>∃u,e=.returned u/\OwnI (y.heap.size+4) T u (zU k i)/\Below y.heap.size y T:=by
  refine(X7 120 _ w.heap.size (w.heap.size+1) _ y none 0 (enters_of func120 dK rfl) (λW hb=>YM (D:=E) (a:=a) (cap:=G) (fs:=fs) hr hz (hG.mono (λb o h=>by rw[J];exact .inl h) H) M (by rw[J];exact .inr a8) (by rw[J];exact .inr a8) x1.cell x2.cell hl ?_ (λj O=>⟨(K j O).1.mono (λb o h=>by rw[J];exact .inl h) H,(K j O).2.mono (λb o h=>by rw[J];exact .inl h) H⟩) hb) a8 a8
   (λW u l=>OwnI (y.heap.size+4) W u l) (λo p=>o++[p.1]) [] (λW _=>OwnI.nil _ _) (λW u a h=>h.shape) (λA B u a h hk=>h.keep hk λg hg _=>a8) λW u pre p P ae hb h=>?_).mono ?_
  .obtain⟨Q,U,h3⟩:=I;refine⟨Q,U,λX=>?_⟩;obtain⟨b,L,e1,e2,Z⟩:=h3 X;exact⟨b,L,e1,a8,λj O=>⟨(b1.cell (p:=⟨b,L+j*2,none⟩) e2).trans (Z j O).1,(b1.cell (p:=⟨b,L+j*2+1,none⟩) e2).trans (Z j O).2⟩⟩
  .have ac:pre.length<=k.length:=(by have Q:=P.length_le;have U:=zey (λj=>mem (k.getD j default).items i) 0 fs;simp only[wj,wv,Ww]at Q;omega);refine JY (y.heap.size+4) W u _ p.1 _ _ h a8 ?_;rw[zbj];simp;omega
  .rintro e T ⟨u,rfl,hI,hb⟩;rw[Yp hl i (λo j _=>o++[j]) [],JV,Yf]at hI;exact⟨u,rfl,hI,hb⟩
 have HF:=qL C;have HB:=qL b1;clear C b1 x1 x2 H J M I K N hG S;go_enter func143,ntmps143
 go_wp2_with (first
  |(go_at_call 86;refine(zex _ _ _ _ _).mono ?_;rintro e T ⟨rfl,rfl⟩;rw[F])
  |(go_at_call 178;refine HF.o.mono ?_;rintro e w2 ⟨u,rfl,ho,V⟩;obtain⟨au,nu,cu,rfl⟩:=ho.shape))
 go_ret;exact⟨_,rfl,HB.o.trans (V.mono a8),zdx ho λb o Q U=>.inr a8⟩
def zl6{β:Type}(q:β->Bool):∀(l:List β)(b:Bool),l.foldl (λb x=>b || q x) b=(b || l.any q)
 |[],b=>b6
 |x::l,b=>by rw[WI,zl6 q l,ur,UD]
def zo7{k:List Fg}{o:List Fv}(y:o.length=k.length)(item:Nat)(q:Fg->Bool):
 (wl (λj=>mem (k.getD j default).items item) 0 o).any (λp=>q (k.getD p.1 default))=(withF item 0 k).any λp=>q p.2:=by
 have h:=Yp y item (λb _ f=>b || q f) false;have u:=zl6 (λp:Nat×Fv=>q (k.getD p.1 default)) (wl (λj=>mem (k.getD j default).items item) 0 o) false;have w:=zl6 (λp:Nat×Fg=>q p.2) (withF item 0 k) false;rw[uz]at u w;rw[<-u,<-w];exact h
def zoW(k:List Fg)(i r c:Nat)(hr:RightK k)(hc:c<zk)(hz:QW k):Cn xT 46 [kp k,.v (.int .u64 i),.v (.int .u64 r),.v (.int .u64 c)] (.v (.bool (hasK k i r c))):=by
 refine yZ rfl (enters_of func46 dK rfl) λD w vs hG K Z A=>?_;obtain⟨a,G,S,e0,T,N,M⟩:=kX (A 0 _ rfl) K;have ab:vs=#[.slice a k.length G,.int .u64 (i:Nat),.int .u64 (r:Nat),.int .u64 (c:Nat)]:=by
  have q1:=(A 1 _ rfl).v_inv;have q2:=(A 2 _ rfl).v_inv;have q3:=(A 3 _ rfl).v_inv;obtain⟨l⟩:=vs;match l,Z with
  |[x,y,z,t],_=>simp at e0 q1 q2 q3;rw[e0,q1,q2,q3]
 rw[ab];refine(zn5 a k.length G i r c (wl (λj=>mem (k.getD j default).items i) 0 S) (λp=>mem (zT (k.getD p.1 default).vec r) c) w (λW C ac c3 c4=>?_) λW p E hb=>?_).mono ?_
 .have U:∀b o x,D b o->w.cell? ⟨b,o,none⟩=some x->W.cell? ⟨b,o,none⟩=some x:=λb o x A Q=>(tl (a:=⟨b,o,none⟩) (C b (K b o A))).trans Q;refine zew S _ a G _ 0 _ 0 w.heap.size i W ?_ (by rw[T];exact c3) c4 a8 λw' j F I O=>?_
  .obtain⟨h1,h2,h3⟩:=N;refine⟨h1,h2,λV=>?_⟩;obtain⟨b,J,e1,e2,e3⟩:=h3 V;exact⟨b,J,e1,e2,λj F=>⟨(tl (a:=⟨b,J+j*2,none⟩) (C b e2)).trans (e3 j F).1,(tl (a:=⟨b,J+j*2+1,none⟩) (C b e2)).trans (e3 j F).2⟩⟩
  .have P:∀b o x,D b o->w.cell? ⟨b,o,none⟩=some x->w'.cell? ⟨b,o,none⟩=some x:=λb o x A Q=>(tl (a:=⟨b,o,none⟩) (I b (K b o A))).trans (U b o x A Q);have B:j<k.length:=T▸F;have L:=Y1 B;simp only[zfl B];refine(jP (ziQ k[j].items i (hr _ L).1 (hz.2 _ L).1) (hG.mono (λ_ _ h=>h) P) (λb o h=>Vm (K b o h) O) rfl (λt p E=>?_)).mono ?_
   .match t,E with
    |0,E=>cases E;exact(M j F).1.mono (λ_ _ h=>h) P
    |1,E=>cases E;exact .v _
    |t+2,E=>simp at E
   .rintro e W' ⟨v,rfl,H,A⟩;rw[A.v_inv];exact⟨rfl,H⟩
 .have U:∀b o x,D b o->w.cell? ⟨b,o,none⟩=some x->W.cell? ⟨b,o,none⟩=some x:=λb o x A Q=>(hb.cell (p:=⟨b,o,none⟩) (K b o A)).trans Q;obtain⟨X,_,Y,_⟩:=zez E;have F:p.1<S.length:=(dJ X);have B:p.1<k.length:=T▸F;have L:=Y1 B;have e:p.2=S[p.1]:=(by rw[Y];simp);simp only[zfl B,e];refine(jP (zo6 k[p.1].vec r c (hr _ L).2 hc (hz.2 _ L).2.1 (hz.2 _ L).2.2) (hG.mono (λ_ _ h=>h) U) (λb o h=>Vm (K b o h) hb.size) rfl (λt p' u=>?_)).mono ?_
  .match t,u with
   |0,u=>cases u;exact(M p.1 F).2.mono (λ_ _ h=>h) U
   |1,u=>cases u;exact .v _
   |2,u=>cases u;exact .v _
   |t+3,u=>simp at u
  .rintro e W' ⟨v,rfl,H,A⟩;rw[A.v_inv];exact⟨rfl,H⟩
 .rintro e w' ⟨rfl,hb⟩;rw[zo7 T i (λf=>mem (zT f.vec r) c),jh];exact⟨_,rfl,hb,.v _⟩
def zgU{C:Q9}{R:List Nat}(k:List Fg)(i:Nat)(hk:IK C R k)(ok:OkC C R)(j:RightK k)(hs:∀f∈k,SmV f.vec)(hz:QW k):Cn xT 106 [kp k,.v (.int .u64 i)] (vp (qc k i)):=by refine zt func106 2 ?_;refine pw ?_;refine .c (zfB k i) ?_;exact .d (zfk k i hk ok j hs hz)
def zid(k:List Fg)(i r c:Nat)(E:RightK k)(C:c<zk)(hz:QW k):Cn xT 94 [kp k,.v (.int .u64 i),.v (.int .u64 r),.v (.int .u64 c)] (.v (.bool (hasK k i r c))):=by
 have G:=hz.1;refine zt func94 4 ?_;refine pw ?_;refine pLoop.go (λj=>j<=k.length/\hasK k i r c=hasK (k.drop j) i r c) (λj=>[(9,.v (.int .i64 (j:Nat)))]) (λ_=>[]) (λj=>k.length-j) 0 [9] ?_ ?_ ?_
 .exact⟨X4 _,rfl⟩
 .exact pd
 .rintro j ⟨F,w⟩;refine pw ?_;refine .i ?_ ?_<;>intro h<;>first|refine pw ?_|exact pd
  .rw[VS h]at w;have o:hasK k i r c=((mem k[j].items i && mem (zT k[j].vec r) c) || hasK (k.drop (j+1)) i r c):=w;have u:=hz.2 _ (Y1 h);have y:=E _ (Y1 h);refine pw ?_;refine .c (kU k[j].items i u.1) ?_;refine .i ?_ ?_<;>intro A<;>first|refine pw ?_|exact pd
   .refine .c (zl8 k[j].vec r c y.2 C u.2.1 u.2.2) ?_;rw[A,Bool.true_and]at o;refine .i ?_ ?_<;>intro B<;>first|refine pw ?_|exact pd
    .rw[o,B];rfl
    .rw[B,uz]at o;exact⟨j+1,⟨h,o⟩,a8,rfl⟩
   .rw[A,tc,uz]at o;exact⟨j+1,⟨h,o⟩,a8,rfl⟩
  .rw[w,wE a8];rfl
def VR{C:Q9}{R:List Nat}(k:List Fg)(i:Nat)(hk:IK C R k)(ok:OkC C R)(E:RightK k)(hs:∀f∈k,SmV f.vec)(hz:QW k):Cn xT 97 [kp k,.v (.int .u64 i)] (vp (qc k i)):=by
 have B:=hz.1;refine zt func97 2 ?_;refine pw ?_;refine pLoop.go (λj=>j<=k.length) (λj=>[(5,vp (qc (k.take j) i)),(6,.v (.int .i64 (j:Nat)))]) (λ_=>[]) (λj=>k.length-j) 0 [5,6] ?_ ?_ ?_
 .exact X4 _
 .simp only[wZ,zbT];exact pd
 .rintro j A;refine pw ?_;refine .i ?_ ?_<;>intro h<;>first|refine pw ?_|exact pd
  .have o:=Ku i h;have w:=hz.2 _ (Y1 h);have u:=((hk.take j).at i).1.smv ok;refine pw ?_;refine .c (kU k[j].items i w.1) ?_;refine .i ?_ ?_<;>intro y<;>first|refine pw ?_|exact pd
   .rw[vD y]at o;refine .c (zcC (qc (k.take j) i) k[j].vec 0 a8 u (hs _ (Y1 h))) ?_;rw[znf];exact⟨j+1,h,a8,by rw[o],rfl⟩
   .rw[Vq (by rw[y];simp)]at o;exact⟨j+1,h,a8,by rw[o],rfl⟩
  .rw[show k.take j=k from wm a8]
def refKMemb_c(k:List Fg)(i:Nat)(hz:QW k)(B:k.length<=1073741824):Cn xT 129 [kp k,.v (.int .u64 i)] (is (zU k i)):=by
 have E:=hz.1;refine zt func129 2 ?_;refine pw ?_;refine pLoop.go (λj=>j<=k.length) (λj=>[(5,.sl ((zU (k.take j) i).map λx=>[.v (.int .i64 (x:Nat))]) (.r 23 1)),(6,.v (.int .i64 (j:Nat)))]) (λ_=>[]) (λj=>k.length-j) 0 [5,6,23] ?_ ?_ ?_
 .exact X4 _
 .simp only[wZ,zU,withF,W6];exact pd
 .rintro j C;have u:=zbk (k.take j) i;have A:(zU (k.take j) i).length<=j:=(by simp at u;omega);refine pw ?_;refine .i ?_ ?_<;>intro h<;>first|refine pw ?_|exact pd
  .have o:=JX i h;have w:=hz.2 _ (Y1 h);refine pw ?_;refine .c (kU k[j].items i w.1) ?_;refine .i ?_ ?_<;>intro y<;>first|refine pw ?_|exact pd
   .rw[vD y]at o;refine⟨j+1,h,a8,?_,rfl⟩;rw[o];simp
   .rw[Vq (by rw[y];simp),wY]at o;exact⟨j+1,h,a8,by rw[o],rfl⟩
  .rw[show k.take j=k from wm a8]
end
end Go.Proofs.YtmpnbdhadjfbhaaGreatDoor
