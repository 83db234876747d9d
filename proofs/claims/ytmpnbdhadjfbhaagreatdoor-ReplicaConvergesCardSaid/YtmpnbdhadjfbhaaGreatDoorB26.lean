import Derived.Test.YtmpnbdhadjfbhaaGreatDoorB25
set_option maxHeartbeats 16000000
set_option linter.all false
set_option maxRecDepth 100000
namespace Go.Proofs.YtmpnbdhadjfbhaaGreatDoor
open Go.RowKit
open Go.Proofs.Tryz
open Go.Proofs.Tryz renaming prog->xT
section
attribute [-go_sem] z7 zae zaf Vr
def zqr{C:Qk}{w0 w:World}{l:List Iv}{v:Value}(J:Nrm l)(I:l.length<=1152921504606846976)(H:Dat C w0 v (rg l))(B:∀b o,C b o->b<w0.heap.size)(G:GL C w0)(hb:Below w0.heap.size w0 w):
 Calls xT 42 #[v] w λe F=>e=.returned .nilIface/\Below w.heap.size w F:=by
 have E:∀b o x,C b o->w0.cell? ⟨b,o,none⟩=some x->w.cell? ⟨b,o,none⟩=some x:=λb o x h K=>(tl (a:=⟨b,o,none⟩) (hb.block b (B b o h))).trans K;refine(jP (D:=C) (zpJ l J I) (G.mono (λ_ _ h=>h) E) (λb o h=>Vm (B b o h) hb.size) rfl (λi p j=>?_)).mono ?_
 .match i,j with
  |0,j=>cases j;exact H.mono (λ_ _ h=>h) E
  |i+1,j=>simp at j
 .rintro e F ⟨u,rfl,y,A⟩;have e:=(Rel.dat (ρ:=λ_=>0) (nb:=0) A).v_inv;rw[e];exact⟨rfl,y⟩
def zoa{B:Q9}{R:List Nat}{n m:Nat}(k:List Fg)(items:List Iv)(hk:Kn B R n k)(hi:Nrm items)(cm:items.length<=400000)(y:Kn B R m (zl5 k items))(ok:OkX B R)(hn:n<=400000)(hm:m<=40000):Cn xT 26 [kp k,rg items] (.tup [kp (znF k items),.v .nilIface]):=by
 refine yZ rfl (enters_of func26 dK rfl) λD w vs hG hD bq U=>?_;have d0:Dat D w (vs.getD 0 undef) (kp k):=U 0 _ rfl;have T:Dat D w (vs.getD 1 undef) (rg items):=U 1 _ rfl;obtain⟨v0,ac⟩:=xm (vs.getD 0 undef);obtain⟨v1,ad⟩:=xm (vs.getD 1 undef);rw[<-ac]at d0;rw[<-ad]at T;obtain rfl:vs=#[v0,v1]:=by
  obtain⟨l⟩:=vs;match l,bq with
  |[p,q],_=>simp at ac ad;rw[ac,ad]
 clear ac ad bq U;obtain⟨aa,ca,fs,rfl,bP,J,bg⟩:=kX d0 hD;obtain⟨ai,ci,rfl⟩:=zK T;have cn:=hk.l;have bL:=J.1;have aY:=J.2.1;unfold maxLen at aY;rw[bP]at bL;have bA:=qL (λW (M:Below w.heap.size w W)=>KH hk.r (hk.z a8) d0 hD hG M);have bB:=qL (λW (M:Below w.heap.size w W)=>zqr hi a8 T hD hG M);have aS:=qL J;have aQ:=qL bg;have aP:=qL T;have aR:=qL hG;have A:=qL hD;have HK:=qL hk;have HP:=qL y;have bH:=qL hi;obtain⟨i0,bh,br,bt,bu⟩:=tP Z9;have HI:=qL (And.intro bh (And.intro br (And.intro bt bu)));clear d0 T J bg hG hD hk hi y bh br bt bu;have ao:True:=trivial;have aq:True:=trivial;have ar:True:=trivial;have bW:xT.follows .mixedOrders=true:=dK
 go_enter_defers func26,ntmps26
 go_wp2_with (first
  | (go_at_call 40;have _t:=ao;refine(bA.o _ ((tr _ _).alloc (Zp _) _)).mono ?_;rintro e w1 ⟨rfl,aA⟩
     have aL:Boxed w1 w.heap.size 41 .nilIface:=(aA.block _ b6).trans (tn w _);have ay:=qL aL;have V:=qL (((tr _ w).alloc (Zp _) _).trans (aA.mono b6));have bQ:=aL.lt;clear aA aL ao)
  |(go_at_call 60;refine(zdp _ _).mono ?_;rintro e Q ⟨⟨u,rfl⟩,rfl⟩)
  | (go_at_call 42;have _t:=aq;refine(bB.o _ V.o).mono ?_;rintro e S ⟨rfl,aB⟩
     have aM:Boxed S w.heap.size 41 .nilIface:=(aB.block _ ay.o.lt).trans ay.o;have aT:=qL aM;have aw:=qL (V.o.trans (aB.mono V.o.size));have bp:=aM.lt;clear aB aM aq)
  |(at_make;have _t:=ar;refine wpList_make_full _ rfl _ _ 54 rfl (w.heap.size+1) 59 i0 _ 2 underlying54 HI.o.1 HI.o.2.1 HI.o.2.2.1 .i64 .i64 _ _ k.length rfl rfl rfl rfl (by rw[HI.o.2.2.2];omega) c8 a8 ?_;intro w3 aK aH;rw[show (Value.agg #[.slice none 0 0,.slice none 0 0]).cells=#[.slice none 0 0,.slice none 0 0] from rfl,zqB]at aK;have ax:=qL (OutG.zeros (C:=D) (mb:=w.heap.size) aK);have aN:=qL (aw.o.grown aH aw.o.size λj hj=>by cases hj);have az:=qL (aT.o.kept aH b6);have bR:=az.o.lt;clear aK aH ar;dsimp only[Act.put])
  |go_in)
 have bO:=bp;generalize Q.heap.size=gb at ax bO⊢;go_loopg [20] k.length (λg x wr=>∃j,j<=k.length/\g=k.length-j/\x=.int .i64 j/\Boxed wr w.heap.size 41 .nilIface/\OutG D w.heap.size (w.heap.size+1) wr (.slice (some ⟨gb,0,none⟩) k.length k.length) (zoL k items j)/\Below w.heap.size w wr);case atStart=>exact⟨0,X4 _,rfl,rfl,az.o,by rw[zp6];exact ax.o,aN.o⟩
 case round=>
  obtain⟨j,hj,rfl,rfl,aE,am,aW⟩:=hrel;have aO:=qL aE;have I:=qL am;have G:=qL aW;have bn:=aE.lt;clear aE am aW ax az aN aT ay V aw bR bp bQ;by_cases ab:j<k.length
  .have O:j<fs.length:=a8;obtain⟨bb,bw,rfl,aV,aj⟩:=aS.o.2.2 (by intro e;subst e;simp at O);obtain⟨c0,c1⟩:=aj j O;obtain⟨d0,T⟩:=aQ.o j O;replace c0:=(G.o.cell (p:=⟨bb,bw+j*2,none⟩) aV).trans c0;replace c1:=(G.o.cell (p:=⟨bb,bw+j*2+1,none⟩) aV).trans c1;have aG:=Y1 ab;have bN:=HK.o.r _ aG;have cj:k[j].items.length<=400000:=(by have:=yv aG;have:=HK.o.m;omega);have bJ:=qL (zp5 (items:=items) ab);generalize k[j]=f at *;generalize fs[j]=q at *;obtain⟨af,cf,e0⟩:=zK d0;obtain⟨av,cv,e1⟩:=xL T;rw[e0]at c0 d0;rw[e1]at c1 T;have bl:=I.o.owns;have ck:gb<wr.heap.size:=by
    cases hk0:k.length with
    |zero=>omega
    |succ c=>exact(bl gb (by rw[hk0];rfl)).2
   obtain⟨L,P⟩:=xm (wr.alloc (.cells #[.slice af f.items.length cf,.slice av f.vec.length cv] 59));have ag:L.heap[wr.heap.size]?=some (.cells #[.slice af f.items.length cf,.slice av f.vec.length cv] 59 (0,0)):=(by rw[P];exact tn wr _);have aD:Below wr.heap.size wr L:=(by rw[P];exact(tr _ wr).alloc (Zp _) _);have bT:L.heap.size=wr.heap.size+1:=(by rw[P];simp);have bj:∀W,Below L.heap.size L W->Calls xT 61 #[.slice af f.items.length cf,.slice ai items.length ci] W λe Q=>∃E F,e=.returned (.slice E (qy fMeet f.items items).length F)/\Below W.heap.size W Q/\Dat (DX D w.heap.size Q (.slice (some ⟨gb,0,none⟩) k.length k.length)) Q (.slice E (qy fMeet f.items items).length F) (rg (qy fMeet f.items items)):=λW M=>by
    have Z:Below w.heap.size w W:=G.o.trans ((aD.mono a8).trans (M.mono a8));have hw:∀b o x,D b o->w.cell? ⟨b,o,none⟩=some x->W.cell? ⟨b,o,none⟩=some x:=λb o x h hx=>(tl (a:=⟨b,o,none⟩) (Z.block b (A.o b o h))).trans hx;refine(jP (D:=D) (zif f.items items bN.1 bH.o a8) (aR.o.mono (λ_ _ h=>h) hw) (λb o h=>Vm (A.o b o h) Z.size) rfl (λi p y=>?_)).mono ?_
    .match i,y with
     |0,y=>cases y;exact d0.mono (λ_ _ h=>h) hw
     |1,y=>cases y;exact aP.o.mono (λ_ _ h=>h) hw
     |i+2,y=>simp at y
    .rintro e Q ⟨v,rfl,hb,U⟩;obtain⟨E,F,rfl⟩:=zK U;have bS:=M.size;refine⟨E,F,rfl,hb,U.mono (λb o h=>⟨h.imp id λh=>⟨a8,h.2⟩,λe=>?_⟩) λ_ _ _ _ h=>h⟩;have ch:b=gb:=by
      cases hk0:k.length with
      |zero=>omega
      |succ c=>rw[hk0]at e;cases e;rfl
     rcases h with h|h
     .have:=A.o b o h;omega
     .omega
   have bG:=qL bj;have bY:=qL ag;have X:=qL aD;have g0:=(zW ag 0 _ rfl).1;have g1:=(zW ag 1 _ rfl).1;have bD:=qL T;clear d0 T aj aG e0 e1 bj ag aD
   go_wp2_with fail
   rw[<-P];have aX:Below L.heap.size L L.drew:=(tr _ _).drew;clear P;refine Kg (Sw:=qe) 9 38 (λw9=>Below L.heap.size L w9/\w9.cell? ⟨wr.heap.size,0,none⟩=some (.slice af f.items.length cf)/\w9.cell? ⟨wr.heap.size,1,none⟩=some (.slice av f.vec.length cv)) dK dK rfl ⟨aX,g0,g1⟩ ?_;simp only[wO,wZ];refine Jz ?_;refine V7 (λu w9=>∃E F,u=.slice E (qy fMeet f.items items).length F/\Dat (DX D w.heap.size w9 (.slice (some ⟨gb,0,none⟩) k.length k.length)) w9 u (rg (qy fMeet f.items items))) (λu wa L h hk=>by obtain⟨E,F,e,h⟩:=h;exact⟨E,F,e,DX.keep h hk.size λk N _=>hk.block k N id⟩) rfl ?_ ?_
   .intro a2 S hc hk hr K hK;have HK:=qL hK;clear hK;simp[Rds,zA,lk,Op.operands,Call.operands,RdEq]at hr;go_simp;refine(bG.o _ hc.1).mono ?_;rintro e w3 ⟨E,F,rfl,hb,U⟩;have aJ:Keep qe _ w3:=Keep.of_below' hb (Zp _);exact HK.o _ _ aJ ⟨hc.1.trans (hb.mono hc.1.size),aJ.cell_some hc.2.1 id,aJ.cell_some hc.2.2 id⟩ ⟨E,F,rfl,U⟩
   simp only[Yf,yb];refine Jz ?_;refine V7 (λu w9=>∃E F,u=.agg #[.slice E (qy fMeet f.items items).length F,.slice av f.vec.length cv]/\Dat (DX D w.heap.size w9 (.slice (some ⟨gb,0,none⟩) k.length k.length)) w9 (.slice E (qy fMeet f.items items).length F) (rg (qy fMeet f.items items))) (λu wa L h hk=>by obtain⟨E,F,e,h⟩:=h;exact⟨E,F,e,DX.keep h hk.size λk N _=>hk.block k N id⟩) rfl ?_ ?_
   .intro a2 S hc hk hr K hK;have HK:=qL hK;clear hK;simp[Rds,zA,lk,Op.operands,Call.operands,RdEq]at hr;obtain⟨⟨_,⟨e1,e2⟩,⟨E,F,rfl⟩,ho⟩,e3,e4⟩:=hr;go_simp;exact HK.o _ _ (Keep.refl _ _) hc ⟨E,F,rfl,ho⟩
   simp only[Yf,yb];intro S aF N;simp only[finG,WQ,Yf,yb,wM,Wg,WR];simp only[Act.put,wy,wR,wS];rintro _ ⟨_,_,rfl,_⟩ _ ⟨E,F,rfl,hu⟩;have HU:=qL hu;have Y:=qL aF.1;have bX:=aF.1.size;have H:=I.o.keep (w':=S) a8 λb hb=>(Y.o.block b a8).trans (X.o.block b hb);have ak:=zqq (items:=items) hj;have bF:=qL ak;have bI:=qL H;obtain⟨xs,ah,be⟩:=id H;obtain⟨xa,xb,ea,eb,-,-⟩:=be j a8;obtain⟨g,aU,cc,ev,-,-,aI,-,-,-,-⟩:=ah.cases.resolve_left (λh=>a8);obtain⟨rfl,-,rfl⟩:gb=g/\k.length=(zoL k items j).length/\k.length=aU:=(dJ ev);have bZ:S.cell? ⟨gb,j*2,none⟩=some xa:=by have:=tI ah.1 (g:=gb) rfl (j*2) xa ea;rw[zh,wn]at this;exact this
   have cb:S.cell? ⟨gb,j*2+1,none⟩=some xb:=(by have:=tI ah.1 (g:=gb) rfl (j*2+1) xb eb;rw[zh,wn]at this;exact this);have ce:S.frozen? ⟨gb,j*2,none⟩=false:=(by simp[World.frozen?,aI]);have cg:S.frozen? ⟨gb,j*2+1,none⟩=false:=(by simp[World.frozen?,aI]);clear hu aF N aX H ah be ea eb ev aI g0 g1 c0 c1 ak
   go_wp2_with fail
   have bM:Dat (DX D w.heap.size S (.slice (some ⟨gb,0,none⟩) k.length k.length)) S (.slice av f.vec.length cv) (vp f.vec):=bD.o.mono (λb o h=>⟨.inl h,λe=>by have:=(bl b e).1;have:=A.o b o h;omega⟩) λb o x h hx=>(tl (a:=⟨b,o,none⟩) ((Y.o.block b (by have:=A.o b o h;omega)).trans ((X.o.block b (by have:=A.o b o h;omega)).trans (G.o.block b (A.o b o h))))).trans hx;have an:=OutG.put (f:=⟨qy fMeet f.items items,f.vec⟩) bF.o bI.o ab HU.o bM a8;rw[<-bJ.o]at an;go_roundg (k.length-(j+1));case measure=>omega
   case rel=>
    refine⟨j+1,ab,rfl,b6,?_,an,?_⟩
    .exact(tw _ _ _ _ (by show w.heap.size≠gb;omega)).trans ((tw _ _ _ _ (by show w.heap.size≠gb;omega)).trans ((Y.o.block _ a8).trans ((X.o.block _ bn).trans aO.o)))
    .exact tW (tW (G.o.trans ((X.o.mono a8).trans (Y.o.mono a8))) (by show w.heap.size<=gb;omega) _) (by show w.heap.size<=gb;omega) _
  .obtain rfl:j=k.length:=a8;have aZ:∀W,Below wr.heap.size wr W->Calls xT 62 #[.slice (some ⟨gb,0,none⟩) k.length k.length] W λe Q=>∃u,e=.returned u/\Below W.heap.size W Q/\Dat (DL D w.heap.size Q) Q u (kp (znF k items)):=λW M=>by
    have bc:=I.o.dat (Uy _);rw[zqp]at bc;have Z:Below w.heap.size w W:=G.o.trans (M.mono a8);have bi:∀b o,DL D w.heap.size wr b o->b<wr.heap.size:=λb o h=>h.elim (λh=>by have:=A.o b o h;omega) ub;refine(jP (D:=DL D w.heap.size wr) (zds (zl5 k items) HP.o ok hm) (aR.o.mono (λ_ _ h=>.inl h) λb o x h hx=>(tl (a:=⟨b,o,none⟩) (Z.block b (A.o b o h))).trans hx) (λb o h=>Vm (bi b o h) M.size) rfl (λi p y=>?_)).mono ?_
    .match i,y with
     |0,y=>cases y;exact bc.mono (λ_ _ h=>h) λb o x h hx=>(tl (a:=⟨b,o,none⟩) (M.block b (bi b o h))).trans hx
     |i+1,y=>simp at y
    .rintro e Q ⟨u,rfl,hb,U⟩;have bS:=M.size;have bT:=hb.size;refine⟨u,rfl,hb,U.mono (λb o h=>?_) λ_ _ _ _ h=>h⟩;rcases h with(h|h)|h
     .exact .inl h
     .exact .inr ⟨h.1,a8⟩
     .exact .inr ⟨a8,h.2⟩
   have bC:=qL aZ;clear aZ aQ I aP HP
   go_wp2_with (first
    | (go_at_call 62;refine(bC.o _ (tr _ _)).mono ?_;rintro e w5 ⟨u5,rfl,aC,ba⟩
       have ae:Boxed w5 w.heap.size 41 .nilIface:=(aC.block _ bn).trans aO.o;have c5:=ae.cell;have f5:=ae.frozen;have bK:=qL ae;have bz:=qL (G.o.trans (aC.mono a8));have bE:=qL ba;clear aC ae ba)
    |go_in)
   refine leaves_cons (f := 59) (args:=#[.pointer (some ⟨w.heap.size,0,none⟩)]) b6 (by simp[go_sem]) ?_;refine(JI ⟨w.heap.size,0,none⟩ _).mono ?_;rintro e u' co ⟨rfl,rfl,rfl⟩;have bU:=(bK.o.set .nilIface).cell;simp[Leaves,settle,results,Tryz.results26,go_sem,bU];refine⟨bz.o.setCell (Zp _) _,.tup _ _ rfl λj p y=>?_⟩;match j,y with
   |0,y=>
     cases y;exact bE.o.mono (λb o h=>h.imp id λh=>⟨uy h.1,dJ h.2⟩) λb o x h hx=>(tl (a:=⟨b,o,none⟩) (tw _ _ _ _ (by
      show b≠w.heap.size;rcases h with h|h
      .have:=A.o b o h;omega
      .omega))).trans hx
   |1,y=>cases y;exact .v _
   |j+2,y=>simp at y
end
section
attribute [-go_sem] z7
def zuV{P:Program}{f:FuncId}{t:Tmp}{p:Value}{xs:List Operand}{c:Call}{o:Oper}{a:Act}{w:World}{K:Act->World->Prop}{Q:Exit->Act->World->Prop}(ho:o.op=.call c)(A:c.callee=.value (.tmp t))(E:a.eval (.tmp t)=.func (.func f) #[p] #[])(y:c.args.toList=xs)
 (B:∀j w,(callFunc f j).run P w=.ok (.enter f j) w)
 (h:Calls P f (p::xs.map a.eval).toArray w λe u=>match e with|.returned v=>K (a.put o.dst v) u|.panicked chain=>Q (.panic chain) a u|.outgrown=>LetsOut Q):o.wp P a w K Q:=by
 have C:(execOp a.eval o).run P w=.ok (.enter f (p::xs.map a.eval).toArray) w:=by have e:c.args.map a.eval=(xs.map a.eval).toArray:=WD.1 (by rw[WS,y]);simp only[execOp,ho,resolve,A,e,E,Deferred.ofValue,tE,tH,tx,invoke];rw[show (#[p]++(xs.map a.eval).toArray++#[]:Array Value)=(p::xs.map a.eval).toArray from by simp];exact B _ _
 unfold Oper.wp;rw[C,t8];exact h.mono (λe F h=>by cases e<;>exact h)
def zuw{D:Qk}{w:World}{u v:Value}{p q:PV}(y:Dat D w u p)(A:Dat D w v q):∀(i:Nat) r,[p,q][i]?=some r->Dat D w (#[u,v].getD i undef) r:=λj r o=>by
 match j,o with
 |0,o=>cases o;exact y
 |1,o=>cases o;exact A
 |j+2,o=>simp at o
def zvZ{C:Q9}{R E I:List Nat}{D:Qk}{w:World}{x y:Value}{k:List Fg}{items:List Iv}(e:Env25 C R E I)(hk:Ke C R E k)(hi:Nrm items)(B:∀x,Ed items x->x∈E)(G:items.length<=10)(u:Gd D w)(d:Dat D w x (kp k))(A:Dat D w y (rg items)):
 Calls xT 26 #[x,y] w λe o=>∃a j,e=.returned (.tuple #[.slice a (znF k items).length j,.nilIface])/\Below w.heap.size w o/\Dat (Nw D w o) o (.slice a (znF k items).length j) (kp (znF k items)):=by
 refine(jP (zoa k items hk.kn hi a8 (zsR hk e hi B G).2 e.ok (by have:=e.e;omega) a8) u.1 u.2 rfl (zuw d A)).mono ?_;rintro e o ⟨v,rfl,hb,F⟩;obtain⟨a,j,rfl,h⟩:=zti F;exact⟨a,j,rfl,hb,h⟩
def zvw{C:Q9}{R E I:List Nat}{D:Qk}{w:World}{x y:Value}{a b:List Fg}(e:Env25 C R E I)(B:Ke C R E a)(hb:Ke C R E b)(u:Gd D w)(d:Dat D w x (kp a))(A:Dat D w y (kp b)):
 Calls xT 27 #[x,y] w λe o=>∃p j,e=.returned (.tuple #[.slice p (vh zn a b).length j,.nilIface])/\Below w.heap.size w o/\Dat (Nw D w o) o (.slice p (vh zn a b).length j) (kp (vh zn a b)):=by
 refine(jP (knowUnion_c a b B.kn hb.kn e.ok (by have:=e.e;omega)) u.1 u.2 rfl (zuw d A)).mono ?_;rintro e o ⟨v,rfl,hb,F⟩;obtain⟨a,j,rfl,h⟩:=zti F;exact⟨a,j,rfl,hb,h⟩
def zuO{C:Q9}{R E I:List Nat}{D:Qk}{n t b m c:Nat}{w:World}{s:Rs}{items:List Iv}{ia:Option Addr}{H:Nat}(e:Env25 C R E I)(h:Ok25 C R E I n s)(K:Rpl D t w b m s)(B:Gd D w)(hi:∀s∈items,s.lo<zk/\s.hi<zk)(F:(Zl items).1≠0)(u:items.length<=1000000)(d:Dat D w (.slice ia items.length H) (rg items)):
 Calls xT 10 #[.pointer (some ⟨b,0,none⟩),.pointer (some ⟨c,0,none⟩),.slice ia items.length H] w λe M=>e=.returned (.tuple #[.int .i64 0,erV (Zl items)])/\Below w.heap.size w M:=by
 obtain⟨ka,L,y,J,A⟩:=K;have N:w.cell? ⟨b,2,none⟩=some (.slice ka s.known.length L):=(zW y 2 _ rfl).1;have j:=qL (ztI (b:=c) B h.k.r (h.k.zz e) A hi F u d);obtain⟨x,G⟩:=xm (Zl items);rw[<-G]at j⊢;obtain⟨P,Q⟩:=x;unfold erV at j⊢;clear y J A h B hi F d G;go_enter func10,ntmps10
 go_wp2_with (go_at_call 17;refine j.o.mono ?_;rintro e O ⟨rfl,o⟩)
 refine tz (To rfl _ _ _) rfl ?_;exact⟨rfl,o⟩
def zuP{C:Q9}{R E I:List Nat}{n t t' b m c m':Nat}{D:Qk}{w:World}{s f:Rs}{items:List Iv}{ia:Option Addr}{ic:Nat}(e:Env25 C R E I)(h:Ok25 C R E I n s)(hf:Ok25 C R E I n f)(hn:n<=26)(hR:Rpl D t w b m s)(hF:Rpl D t' w c m' f)(hG:Gd D w)(be:∀o,¬D b o)(an:∀o,¬D m o)(ag:b≠m)(ht:t<900000)(hi:Nrm items)(hE:∀x,Ed items x->x∈E)(aE:items.length<=10)(d:Dat D w (.slice ia items.length ic) (rg items)):
 Calls xT 10 #[.pointer (some ⟨b,0,none⟩),.pointer (some ⟨c,0,none⟩),.slice ia items.length ic] w λe Z=>e=.returned (.tuple #[.int .i64 (zs0 f s.known items).length,.nilIface])/\Keep (λk=>k=b\/k=m) w Z/\Rpl (Nw D w Z) (t+25) Z b m (ztt s f items):=by
 have hM:=zw;obtain⟨ka,kc,h1,h2,h3⟩:=hR;obtain⟨fa,fc,f1,f2,f3⟩:=id hF;have bg:=(XV.1 h1).1;have bi:=(XV.1 f1).1;have bp:=h2.lt;have O:=qL (zul e hf hn hF hG h.k.r (h.k.zz e) h3 hi a8 d);have F:∀{W:World}{x:Value}{p:PV},Below w.heap.size w W->Dat D w x p->Dat D W x p:=λH L=>L.mono (λ_ _ h=>h) λb o x L N=>(tl (a:=⟨b,o,none⟩) (H.block b (hG.2 b o L))).trans N;have aj:∀{W:World},Below w.heap.size w W->Gd D W:=λH=>hG.keep (Keep.of_below' (S:=qe) H (Zp _)) λ_ _ _=>id;have V:=λW (H:Below w.heap.size w W)=>zvZ (w:=W) e hf.k hi hE aE (aj H) (F H f3) (F H d);have aG:Ke C R E (znF f.known items):=(zsR hf.k e hi hE aE).1;have M:∀W W':World,Below w.heap.size w W->Below W.heap.size W W'->∀v,Dat (Nw D W W') W' v (kp (znF f.known items))->Calls xT 27 #[.slice ka s.known.length kc,v] W' λe Z=>∃p c',e=.returned (.tuple #[.slice p (vh zn s.known (znF f.known items)).length c',.nilIface])/\Below W'.heap.size W' Z/\Dat (Nw D w Z) Z (.slice p (vh zn s.known (znF f.known items)).length c') (kp (vh zn s.known (znF f.known items))):=λW W' H ad v hv=>by
  have az:=H.trans (ad.mono H.size);refine(zvw e h.k aG (Gd.new (w:=W) (w0:=W) (aj az) ad.size) ((F az h3).mono (λ_ _ h=>.inl h) λ_ _ _ _ h=>h) hv).mono ?_;rintro e Z ⟨p,c',rfl,hb,L⟩;have bq:=H.size;have bF:=ad.size;have bG:=hb.size;exact⟨p,c',rfl,hb,L.mono (λb o h=>by
   rcases h with(h|h)|h
   .exact .inl h
   .exact .inr ⟨a8,a8⟩
   .exact .inr ⟨a8,h.2⟩) λ_ _ _ _ h=>h⟩
 have aN:(zs0 f s.known items).length<=25:=V1 (Wy _ _) (hf.len e);have ar:∀x∈zs0 f s.known items,x.item<zk:=λx N=>(e.m _ (hf.x x (Wh.1 N).1).1).1;obtain⟨B,aq⟩:=xm (zs0 f s.known items);obtain⟨kr,y⟩:=xm (vh zn s.known (znF f.known items));have aM:ztt s f items=⟨s.id,B.foldl zse s.recs,kr,s.next⟩:=by rw[aq,y];rfl
 rw[<-aq]at O aN ar⊢;rw[<-y]at M;have aY:=qL aM;obtain⟨bI,Y⟩:∃q,q=znF f.known items:=⟨_,rfl⟩;rw[<-Y]at V M;obtain⟨l,hl⟩:=xm (B.length);obtain⟨kl,U⟩:=xm (s.known.length);obtain⟨fl,ai⟩:=xm (f.known.length);rw[<-hl]at O aN⊢;rw[<-U]at O M;rw[<-ai]at V;have b2:w.cell? ⟨b,2,none⟩=some (.slice ka kl kc):=by rw[U];exact(zW h1 2 _ rfl).1
 have b1:w.cell? ⟨b,1,none⟩=some (.map (some m)):=(zW h1 1 _ rfl).1;have q2:w.cell? ⟨c,2,none⟩=some (.slice fa fl fc):=by rw[ai];exact(zW f1 2 _ rfl).1
 have aZ:=qL V;have bc:=qL M;have ba:=qL ar;have H1:=qL h1;have aX:=qL h2;have HG:=qL hG;have HA:=qL h.a;have HL:=qL hl;have bA:=qL U;have bE:∀(fn:Fn)(first P:Array Value)(w:World),(Instr.makeFunc fn first P).run xT w=.ok (.func fn first P) w:=λ_ _ _ _=>rfl;clear h1 h2 h3 f1 f2 f3 F aj V M ar aM aq y Y hl U ai h hf hF hG d hi hE aG;go_enter func10,ntmps10
 go_wp2_with (first
  | (go_at_call 17;refine O.o.mono ?_;rintro e w1 ⟨a1,c1,rfl,A,aL⟩
     have bJ:=(tl (a:=⟨c,2,none⟩) (A.block c bi)).trans q2;have ax:=qL aL;clear aL)
  | (go_at_call 26;refine(aZ.o _ A).mono ?_;rintro e w2 ⟨a2,k2,rfl,K,aB⟩
     have Q:=A.trans (K.mono A.size);have bB:=(tl (a:=⟨b,2,none⟩) (Q.block b bg)).trans b2;have aQ:=qL aB;clear aB)
  | (go_at_call 27;refine(bc.o _ _ A K _ aQ.o).mono ?_;rintro e w3 ⟨a3,k3,rfl,ae,aC⟩
     have aR:=qL aC;clear aC))
 have ay:=Q.trans (ae.mono Q.size);have J:Below w1.heap.size w1 w3:=K.trans (ae.mono K.size);have ab:=qL ay;have av:=qL J;have bq:=A.size;have bz:=J.size;have aD:∀j,j<B.length->(B.take (j+1)).foldl zse s.recs=zse ((B.take j).foldl zse s.recs) (B.getD j zRc):=λj hj=>by rw[vj hj,WW,WI,List.foldl_nil,vw,Zv hj];rfl
 have aS:=qL aD;clear ay J aD A K ae Q;go_loopg [63] l (λg x wr=>∃j,j<=l/\g=l-j/\x=.int .i64 j/\Keep (λk=>k=m) w3 wr/\MR (t+j) m wr ((B.take j).foldl zse s.recs));case atStart=>exact⟨0,X4 _,rfl,rfl,Keep.refl _ _,aX.o.keep (ab.o.block m bp)⟩
 case round=>
  obtain⟨j,hj,rfl,rfl,y,ao⟩:=hrel;have aw:=qL y;have ac:=qL ao;have bH:=y.size;by_cases aH:j<l
  .have G:j<B.length:=(by rw[<-HL.o];exact aH);obtain⟨x,N⟩:=xm (B.getD j zRc);have au:x=B[j]:=(by rw[N,vw,Zv G];rfl);have bt:x.item<zk:=(by rw[au];exact ba.o _ (Y1 G));have ah:=aS.o j G;rw[<-N]at ah;have aA:zr8 ((B.take j).foldl zse s.recs):=(zsa HA.o).1;obtain⟨g,rfl,hg,bD,cg⟩:∃g,a1=some ⟨g,0,none⟩/\g<w3.heap.size/\g≠m/\∀i u,(rcs x)[i]?=some u->wr.cell? ⟨g,j*4+i,none⟩=some u:=by
    rcases ax.o.2 with⟨_,h0⟩|⟨g,P,bC,h,hg,hc,bu,_,_,_⟩
    .omega
    .obtain⟨rfl,_,rfl⟩:a1=some ⟨g,0,none⟩/\l=B.length/\c1=P:=(dJ h);have bj:=(XV.1 hc).1;refine⟨g,rfl,a8,a8,λi u hu=>?_⟩;have bl:i<4:=(by have:=(Zw.1 hu).1;simpa[rcs]using this);have:=tI ax.o (g:=g) (by cases c1 with|zero=>omega|succ c=>rfl) (j*4+i) u (by rw[zsD G bl,<-au];exact hu);rw[zh,wn]at this;exact y.cell_some ((tl (a:=⟨g,j*4+i,none⟩) (av.o.block g bj)).trans this) (by show ¬g=m;omega)
   have g0:wr.cell? ⟨g,j*4,none⟩=some (.int .u64 x.item):=cg 0 _ rfl;have g1:wr.cell? ⟨g,j*4+1,none⟩=some (.int .u64 x.rep):=cg 1 _ rfl;have g2:wr.cell? ⟨g,j*4+2,none⟩=some (.int .u64 x.ctr):=cg 2 _ rfl;have g3:wr.cell? ⟨g,j*4+3,none⟩=some (.string x.val):=cg 3 _ rfl;have aT:=qL ah;have aO:=qL aA;clear ah N au y ao cg aA;obtain⟨wz,br⟩:∃wz,wz=wr:=⟨wr,rfl⟩;subst br
   go_wp2_with fail
   obtain⟨wa,X⟩:=xm (wz.alloc (.cells #[.int .u64 x.item,.int .u64 x.rep,.int .u64 x.ctr,.string x.val] 47));rw[<-X];have ak:Keep (λk=>k=m) w3 wa:=(by rw[X];exact aw.o.alloc _);have af:Keep (λk=>k=m) w wa:=(Keep.of_below' ab.o (Zp _)).trans ak;have aJ:MR (t+j) m wa ((B.take j).foldl zse s.recs):=(by rw[X];exact ac.o.keep (tu _ _ _ ac.o.lt));clear X;refine zuV (t:=67) (xs:=[.tmp 68]) rfl rfl rfl rfl (enters_of func28 dK rfl) ?_;refine(zv2 (D:=D) (b:=b) (HG.o.keep af λb o h e=>an o (e▸h)) (af.cell_some b1 ag) aJ aO.o a8 bt an).mono ?_;rintro e w5 ⟨⟨u,rfl⟩,aI,aF⟩;dsimp only;have aW:=qL aI;have aU:=qL (ak.trans aF);clear aI aF ak af aJ
   go_wp2_with fail
   go_roundg (l-(j+1));case measure=>omega
   case rel=>exact⟨j+1,aH,rfl,b6,aU.o,by rw[aT.o];exact aW.o⟩
  .obtain rfl:j=l:=a8;have am:Keep (λk=>k=m) w wr:=(Keep.of_below' ab.o (Zp _)).trans y;have T:wr.heap[b]?=some (.cells #[.int .u64 s.id,.map (some m),.slice ka s.known.length kc,.int .u64 s.next,.bool false] 84 (0,0)):=am.obj H1.o ag;have z2:wr.cell? ⟨b,2,none⟩=some (.slice ka s.known.length kc):=(zW T 2 _ rfl).1;have y2:wr.frozen? ⟨b,2,none⟩=false:=(zW T 2 _ rfl).2;have aP:=qL T;have aV:=qL am;clear T y ao am
   go_wp2_with fail
   refine tz (To rfl _ _ _) rfl ?_;have bh:=aP.o;have bn:Keep (λk=>k=b\/k=m) w (wr.setCell ⟨b,2,none⟩ (.slice a3 kr.length k3)):=(aV.o.mono λk _ h=>.inr h).setCell (p:=⟨b,2,none⟩) (λ_=>.inl rfl) _;refine⟨rfl,bn,?_⟩;rw[aY.o];have hm:=ac.o;rw[wm (by rw[HL.o];exact Zp _)]at hm;refine⟨a3,k3,zsw bh 2 _,(hm.keep (tw _ _ _ _ (uP ag))).mono a8,aR.o.mono (λb o h=>h.imp id λh=>⟨h.1,a9⟩) λb' o x L N=>?_⟩;have bw:=tp w3 ⟨b',o,none⟩ N;have aK:b'≠b/\b'≠m:=by
    rcases L with L|L
    .exact⟨λe=>be o (e▸L),λe=>an o (e▸L)⟩
    .exact⟨a8,a8⟩
   exact(tl (a:=⟨b',o,none⟩) (tw _ _ _ _ aK.1)).trans (aw.o.cell_some N aK.2)
def sq2:Code->Code
 |.seq _ b=>b
 |c=>c
noncomputable def zuU:Code:=sq2 (sq2 (sq2 (sq2 (sq2 (xN Tryz.f52)))))
def zwS{o:World}{b L k n V M c2:Nat}{ra C:Option Addr}{v0 v2 v3 v4:Value}{t2:TypeId}{x:Rc}{xs1 xs2:List Value}{post:Ending->World->Prop}(E:o.heap[b]?=some (.cells #[v0,.slice ra n V,v2,v3,v4] t2 (0,0)))(A:o.heap[L]?=some (.cells #[.int .u64 x.item,.int .u64 x.rep,.int .u64 x.ctr,.string x.val] 76 (0,0)))(hk:k<=n)(hn:n<=V)(hl:n<=1000000)(hm:M<=1000000)
 (ad:xs1.length=k*4) (ae:xs2.length=M*4) (U:∀u∈xs1,u.oneCell'=true) (K:∀u∈xs2,u.oneCell'=true)
 (S:∀W:World,Below o.heap.size o W->(k=0/\ra=none)\/∃N,ra=some N/\∀j u,xs1[j]?=some u->W.cell? (N.add j)=some u)
 (T:∀W:World,Below o.heap.size o W->(M=0/\C=none)\/∃N,C=some N/\∀j u,xs2[j]?=some u->W.cell? (N.add j)=some u)
 (O:∀tm v W,W.ownsRow o.heap.size 76 4 v (0+k+1+M) ([]++xs1++rcs x++xs2)->Below o.heap.size o W->bodyPost xT Tryz.f52 post .normal ⟨tm,[]⟩ (W.setCell ⟨b,1,none⟩ v)) (u1 u2 u6 u7 u8 u9 u10 u11 ag ah ai aj ak am an ao aq ar au av aw ax ay az aA aB aC aD aE aF aG aH aI aJ aK aL aM aN aO aP aQ aR aS aT aU aV aW aX aY aZ ba bc be bg bh bi bj bl bn bp:Value) :
 Code.wp xT zuU (bodyPost xT Tryz.f52 post) ⟨#[.pointer (some ⟨b,0,none⟩),u1,u2,.pointer (some ⟨L,0,none⟩),.int .i64 k,.slice C M c2,u6,u7,u8,u9,u10,u11,ag,ah,ai,aj,ak,am,an,ao,aq,ar,au,av,aw,ax,ay,az,aA,aB,aC,aD,aE,aF,aG,aH,aI,aJ,aK,aL,aM,aN,aO,aP,aQ,aR,aS,aT,aU,aV,aW,aX,aY,aZ,ba,bc,be,bg,bh,bi,bj,bl,bn,bp],[]⟩ o:=by
 have af:xT.follows .mixedOrders=true:=dK
 have z1:o.cell? ⟨b,1,none⟩=some (.slice ra n V):=(zW E 1 _ rfl).1;have e0:o.cell? ⟨L,0,none⟩=some (.int .u64 x.item):=(zW A 0 _ rfl).1;have e1:o.cell? ⟨L,1,none⟩=some (.int .u64 x.rep):=(zW A 1 _ rfl).1;have e2:o.cell? ⟨L,2,none⟩=some (.int .u64 x.ctr):=(zW A 2 _ rfl).1;have e3:o.cell? ⟨L,3,none⟩=some (.string x.val):=(zW A 3 _ rfl).1;have bw:b<o.heap.size:=(XV.1 E).1;have bz:L<o.heap.size:=(XV.1 A).1;have bC:k<=V:=a8
 have Z:=qL E;have ab:=qL S;have ac:=qL T;have HQ:=qL O;have J:∀u∈rcs x,u.oneCell'=true:=λu hu=>zs3 (l:=[x]) u (dJ hu);clear E A S T O;obtain⟨Q,O⟩:=xm (bodyPost xT Tryz.f52 post);rw[<-O];simp only[zuU,sq2,xN,Tryz.f52];subst O;go_region_law_o (first
  | (refine ztc (.tmp 49) (.tmp 55) 70 rfl rfl underlying70 o.heap.size (.slice (some ⟨_,0,none⟩) 0 0) 0 [] rfl (zvY a8 (by first|exact tn _ _|exact tn o _|exact yw _ _ _|exact yx _ _ _|exact yw o _ _|exact yx o _ _)) _ k _ xs1 rfl ad (ab.o _ (by first|exact YR _ _|exact XM _ _ _)) U a8 dE ?_
     intro bG X y w bt;have b1:Below o.heap.size o X:=by first|exact(YR o _).grown w dE (λj F=>by simp[Value.ownBlock]at F;omega)|exact(XM o _ _).grown w dE (λj F=>by simp[Value.ownBlock]at F;omega)
     have f0:=bc1 b1 e0;have f1:=bc1 b1 e1;have f2:=bc1 b1 e2;have f3:=bc1 b1 e3)
  | (refine ztc (.tmp 56) (.tmp 58) 70 rfl rfl underlying70 o.heap.size _ (0+k) ([]++xs1) rfl (by first|exact y|exact y.alloc _) _ 1 _ (rcs x) rfl rfl (.inr ⟨_,rfl,ztU (vt := 76) (by first|exact tn X _|exact(w.block _ dE dF).trans (yw o _ _)|exact(w.block _ dE dF).trans (yx o _ _))⟩) J a8 (by have:=w.size;simp at this⊢<;>omega) ?_
     intro bH br H G bu;have b2:Below o.heap.size o br:=by first|exact b1.grown G b1.size (λj F=>(y.lt j F).1)|exact(b1.alloc b1.size _).grown G (by have:=b1.size;simp<;>omega) (λj F=>(y.lt j F).1))
  | (refine ztc (.tmp 59) (.tmp 60) 70 rfl rfl underlying70 o.heap.size _ (0+k+1) ([]++xs1++rcs x) rfl H C M c2 xs2 rfl ae (ac.o _ b2) K a8 b2.size ?_
     intro bq Y I P B;obtain⟨bA,bE,bD,rfl⟩:∃a n c,bq=.slice a n c:=zvj I;have b3:=b2.grown P b2.size λj F=>(H.lt j F).1;have B:=(b3.block b a8).trans Z.o;have bB:Y.cell? ⟨b,1,none⟩=some (.slice ra n V):=(zW B 1 _ rfl).1;have bF:Y.frozen? ⟨b,1,none⟩=false:=(zW B 1 _ rfl).2))
 all_goals exact HQ.o _ _ _ I b3
def Rpf(D:Qk)(w:World)(b:Nat)(s:Rs):Prop:=
 ∃ra o ka j,w.heap[b]?=some (.cells #[.int .u64 s.id,.slice ra s.recs.length o,.slice ka s.known.length j,.int .u64 s.next,.bool false] 72 (0,0))/\Dat D w (.slice ra s.recs.length o) (lp s.recs)/\Dat D w (.slice ka s.known.length j) (kp s.known)
def Rpf.keep{D D':Qk}{S:Nat->Prop}{b:Nat}{w w':World}{s:Rs}(h:Rpf D w b s)(hk:Keep S w w')(hb:¬S b)(j:∀b o,D b o->D' b o/\¬S b):Rpf D' w' b s:=by obtain⟨ra,G,ka,F,y,A,B⟩:=h;have u:∀{x:Value}{p:PV},Dat D w x p->Dat D' w' x p:=λh=>h.mono (λb o h=>(j b o h).1) λb o x C E=>hk.cell_some E (j b o C).2;exact⟨ra,G,ka,F,hk.obj y hb,u A,u B⟩
def ztK{D:Qk}{w:World}{b:Nat}{s:Rs}{x:Rc}(hR:Rpf D w b s)(hG:Gd D w)(bJ:∀o,¬D b o)(hl:s.recs.length<=1000000):
 Calls xT 52 #[.pointer (some ⟨b,0,none⟩),rcv x] w λe w'=>(∃u,e=.returned u)/\Keep (λk=>k=b) w w'/\Rpf (Nw D w w') w' b ⟨s.id,zr4 s.recs x,s.known,s.next⟩:=by
 obtain⟨ra,rc,ka,kc,h1,h2,h3⟩:=hR;obtain⟨bR,bS,bD,bn,cf,aX⟩:=zsZ h2;obtain⟨rfl,rfl⟩:ra=bR/\rc=bS:=dJ bD
 have bt:=(XV.1 h1).1;obtain⟨G,aY⟩:=xm (w.alloc (.cells #[.int .u64 x.item,.int .u64 x.rep,.int .u64 x.ctr,.string x.val] 76));have bi:Below w.heap.size w G:=by rw[aY];exact(tr _ w).alloc (Zp _) _
 have cg:G.heap.size=w.heap.size+1:=by rw[aY];exact tv _ _
 have bq:G.heap[w.heap.size]?=some (.cells #[.int .u64 x.item,.int .u64 x.rep,.int .u64 x.ctr,.string x.val] 76 (0,0)):=by rw[aY];exact tn w _
 obtain⟨l,bA⟩:=xm (s.recs);rw[<-bA]at hl bn aX h1 h2⊢;obtain⟨n,hn⟩:=xm (l.length);have bc:=(bi.block b bt).trans h1;rw[<-hn]at bc;have x0:G.cell? ⟨w.heap.size,0,none⟩=some (.int .u64 x.item):=(zW bq 0 _ rfl).1;have c1:G.cell? ⟨b,1,none⟩=some (.slice ra n rc):=(zW bc 1 _ rfl).1;have be:=qL aX;have H1:=qL h1;have H2:=qL h2;have H3:=qL h3;have HG:=qL hG;have bh:=qL bi;have bI:=qL bq;have HN:=qL hn;have bG:=qL bc;rw[<-hn]at hl bn;clear aX h1 h2 h3 hG bi bq hn bc bD bA;dsimp only[rcv];go_enter func52,ntmps52
 go_wp2_with fail
 rw [<-aY];clear aY;rename_i Kx hKx;have hX:∀(k:Nat)(u1 u2 u5 u6 u7 u8 u9 u10 u11 N O P Q T U V X Y Z ab ac ad ae af ag ah ai aj ak am an ao aq ar au av aw ax ay az aA aB aC aD aE aF aG aH aI aJ aK aL aM aN aO aP aQ aR aS aT aU:Value)(wr:World),Below G.heap.size G wr->k<=n->(∀j,(h:j<l.length)->j<k->l[j].item<x.item)->(∀h:k<l.length,¬l[k].item<x.item)->Kx ⟨#[.pointer (some ⟨b,0,none⟩),u1,u2,.pointer (some ⟨w.heap.size,0,none⟩),.int .i64 k,u5,u6,u7,u8,u9,u10,u11,N,O,P,Q,T,U,V,X,Y,Z,ab,ac,ad,ae,af,ag,ah,ai,aj,ak,am,an,ao,aq,ar,au,av,aw,ax,ay,az,aA,aB,aC,aD,aE,aF,aG,aH,aI,aJ,aK,aL,aM,aN,aO,aP,aQ,aR,aS,aT,aU],[]⟩ wr:=by
  intro k u1 u2 u5 u6 u7 u8 u9 u10 u11 N O P Q T U V X Y Z ab ac ad ae af ag ah ai aj ak am an ao aq ar au av aw ax ay az aA aB aC aD aE aF aG aH aI aJ aK aL aM aN aO aP aQ aR aS aT aU wr H hk hj bl;refine hKx _ _ ?_;clear hKx;have HJ:=qL hj;have E:=qL H;have F:=ztl (l:=l) (x:=x) (k:=k) (by rw[<-HN.o];exact hk) hj bl;have cc:k<=rc:=a8;have aV:∀W:World,Below G.heap.size G W->l=[]\/∃g B,ra=some ⟨g,B,none⟩/\∀i u,(l.flatMap rcs)[i]?=some u->W.cell? ⟨g,B+i,none⟩=some u:=λW I=>by
   by_cases h0:l=[]
   .exact .inl h0
   .obtain⟨g,B,rfl,C⟩:=be.o h0;refine .inr ⟨g,B,rfl,λj u h=>?_⟩;obtain⟨q1,q2⟩:=C j u h;have bj:=HG.o.2 g _ q1;exact(tl (a:=⟨g,B+j,none⟩) ((I.block g a8).trans (bh.o.block g bj))).trans q2
  have K:=qL aV;have bH:qA (∀W:World,Below G.heap.size G W->(k=0/\ra=none)\/∃a',ra=some a'/\∀j u,((l.take k).flatMap rcs)[j]?=some u->W.cell? (a'.add j)=some u):=qL λW I=>by
   rcases K.o W I with h0|⟨g,B,bN,hc⟩
   .subst h0;obtain rfl:k=0:=(by have:=HN.o;simp at this;omega);cases ra with
    |none=>exact .inl ⟨rfl,rfl⟩
    |some a=>exact .inr ⟨a,rfl,λj u h=>by simp at h⟩
   .refine .inr ⟨_,bN,λj u h=>?_⟩;rw[zh];rw[ztr,wt]at h;split at h
    .exact hc j u h
    .cases h
  have bg:∀(tail:List Rc)(ba:Option Addr)(m2 c2:Nat)(wz:World),zr4 l x=l.take k++([x]++tail)->Below G.heap.size G wz->m2=tail.length->m2<=1000000->(∀W:World,Below G.heap.size G W->(m2=0/\ba=none)\/∃a',ba=some a'/\∀j u,(tail.flatMap rcs)[j]?=some u->W.cell? (a'.add j)=some u)->∀(u1 u2 u6 u7 u8 u9 u10 u11 N O P Q T U V X Y Z ab ac ad ae af ag ah ai aj ak am an ao aq ar au av aw ax ay az aA aB aC aD aE aF aG aH aI aJ aK aL aM aN aO aP aQ aR aS aT aU:Value),
   Code.wp xT zuU (bodyPost xT Tryz.f52 λe w'=>(∃u,e=.returned u)/\Keep (λk=>k=b) w w'/\Rpf (Nw D w w') w' b ⟨s.id,zr4 l x,s.known,s.next⟩) ⟨#[.pointer (some ⟨b,0,none⟩),u1,u2,.pointer (some ⟨w.heap.size,0,none⟩),.int .i64 k,.slice ba m2 c2,u6,u7,u8,u9,u10,u11,N,O,P,Q,T,U,V,X,Y,Z,ab,ac,ad,ae,af,ag,ah,ai,aj,ak,am,an,ao,aq,ar,au,av,aw,ax,ay,az,aA,aB,aC,aD,aE,aF,aG,aH,aI,aJ,aK,aL,aM,aN,aO,aP,aQ,aR,aS,aT,aU],[]⟩ wz:=by
   intro tail ba m2 c2 wz bO M bB hm bM u1 u2 u6 u7 u8 u9 u10 u11 N O P Q T U V X Y Z ab ac ad ae af ag ah ai aj ak am an ao aq ar au av aw ax ay az aA aB aC aD aE aF aG aH aI aJ aK aL aM aN aO aP aQ aR aS aT aU;have hzs:=M.size;have bP:=(M.block w.heap.size a8).trans bI.o;have bK:=(M.block b a8).trans bG.o;refine zwS (x:=x) (xs1:=(l.take k).flatMap rcs) (xs2:=tail.flatMap rcs) bK bP hk bn hl hm (by rw[zs1,Wc,<-HN.o];omega) (by rw[zs1,bB]) zs3 zs3 (λW I=>bH.o W (M.trans (I.mono hzs))) (λW I=>bM W (M.trans (I.mono hzs))) ?_ u1 u2 u6 u7 u8 u9 u10 u11 N O P Q T U V X Y Z ab ac ad ae af ag ah ai aj ak am an ao aq ar au av aw ax ay az aA aB aC aD aE aF aG aH aI aJ aK aL aM aN aO aP aQ aR aS aT aU;intro a v W ho I;refine bodyPost_end (tK rfl _ _ _) rfl ?_;have bE:=bh.o.trans ((M.trans (I.mono hzs)).mono a8);have bz:Keep (λk=>k=b) w (W.setCell ⟨b,1,none⟩ v):=(Keep.of_below' (S:=λk=>k=b) bE (Zp _)).setCell (p:=⟨b,1,none⟩) (λ_=>rfl) _;have bC:OwnL 76 wz.heap.size W v (zr4 l x):=by rw[bO];unfold OwnL;have e1:(l.take k++([x]++tail)).length=0+k+1+m2:=(by simp only[wj,Wc,uW];rw[bB,<-HN.o];omega);have e2:(l.take k++([x]++tail)).flatMap rcs=[]++(l.take k).flatMap rcs++rcs x++tail.flatMap rcs:=(by simp[Wl,We]);rw[e1,e2];exact ho
   obtain⟨a2,c3,rfl⟩:=bC.val;have hD:∀{v:Value}{p:PV},Dat D w v p->Dat (Nw D w (W.setCell ⟨b,1,none⟩ (.slice a2 (zr4 l x).length c3))) (W.setCell ⟨b,1,none⟩ (.slice a2 (zr4 l x).length c3)) v p:=λh=>h.mono (λ_ _ h=>.inl h) λb' o x' hd bp=>bz.cell_some bp λe=>bJ o (e▸hd);refine⟨⟨_,rfl⟩,bz,a2,c3,ka,kc,?_,?_,hD H3.o⟩
   .refine zsw ((bE.block b bt).trans H1.o) 1 _
   .refine(bC.dat (D:=λb' o=>wz.heap.size<=b'/\b'<W.heap.size) λb' o h1 h2=>⟨h1,h2⟩).mono (λb' o h=>.inr ⟨a8,dJ h.2⟩) λb' o x' hd bp=>?_;exact(tl (a:=⟨b',o,none⟩) (tw _ _ _ _ (by show b'≠b;omega))).trans bp
  have J:=qL bg;have d1:wr.cell? ⟨b,1,none⟩=some (.slice ra n rc):=(tl (a:=⟨b,1,none⟩) (H.block b a8)).trans c1;have y0:wr.cell? ⟨w.heap.size,0,none⟩=some (.int .u64 x.item):=(tl (a:=⟨w.heap.size,0,none⟩) (H.block w.heap.size a8)).trans x0;have bW:=qL bl;clear aV hj H bg bl;by_cases aW:k<n
  .have A:k<l.length:=(by rw[<-HN.o];exact aW);rw[uj A]at F;obtain⟨g,B,rfl,hc⟩:=(K.o wr E.o).resolve_left (λe=>by rw[e]at A;simp at A);obtain⟨y,hy⟩:=xm (l[k]);have bQ:wr.cell? ⟨g,B+k*4,none⟩=some (.int .u64 y.item):=hc (k*4) _ (by rw[show k*4=k*4+0 by omega,zsD A a8,<-hy];rfl);have bY:¬(rc=k):=a8;have ce:0<n-k:=a8;have bT:1<=n-k:=a8;have bU:n-k<=rc-k:=a8;have bw:∀q,(l.drop q).length=n-q:=λq=>(by rw[W7,<-HN.o]);have bu:∀(q:Nat)(W:World),Below G.heap.size G W->∀j u,((l.drop q).flatMap rcs)[j]?=some u->W.cell? ⟨g,B+q*4+j,none⟩=some u:=λq W I j u hu=>(by obtain⟨g',bF,e,hc⟩:=(K.o W I).resolve_left (λe=>by rw[e]at A;simp at A);obtain⟨rfl,rfl⟩:g=g'/\B=bF:=(dJ e);rw[ztq,Wi]at hu;rw[Wt];exact hc _ u hu);rw[<-hy]at F;have br:=qL bu;have aZ:=qL bw;clear hc hy bu bw;by_cases h3:y.item=x.item
   .rw[vD h3]at F;have L:=qL F;clear F;by_cases bX:rc-k=1
    .go_wp2_with fail
     go_region
     go_wp2_with fail
     refine J.o (l.drop (k+1)) _ _ _ _ L.o E.o.drew (by rw[aZ.o];omega) a8 (λW I=>.inr ⟨_,rfl,λj u h=>?_⟩) _ _ _ _ _ _ _ _ _ _ _ _ _ _ _ _ _ _ _ _ _ _ _ _ _ _ _ _ _ _ _ _ _ _ _ _ _ _ _ _ _ _ _ _ _ _ _ _ _ _ _ _ _ _ _ _ _ _ _ _;have h0:l.drop (k+1)=[]:=wW.1 (by rw[aZ.o];omega);rw[h0]at h;simp at h
    .go_wp2_with fail
     go_region
     go_wp2_with fail
     refine J.o (l.drop (k+1)) _ _ _ _ L.o E.o.drew (by rw[aZ.o];omega) a8 (λW I=>.inr ⟨_,rfl,λj u h=>?_⟩) _ _ _ _ _ _ _ _ _ _ _ _ _ _ _ _ _ _ _ _ _ _ _ _ _ _ _ _ _ _ _ _ _ _ _ _ _ _ _ _ _ _ _ _ _ _ _ _ _ _ _ _ _ _ _ _ _ _ _ _;rw[zh,show B+k*4+4+j=B+(k+1)*4+j by omega];exact br.o _ W I j u h
   .rw[Vq h3]at F;have L:=qL F;clear F
    go_wp2_with fail
    go_region
    go_wp2_with fail
    refine J.o (l.drop k) _ _ _ _ L.o E.o.drew (by rw[aZ.o]) a8 (λW I=>.inr ⟨_,rfl,λj u h=>?_⟩) _ _ _ _ _ _ _ _ _ _ _ _ _ _ _ _ _ _ _ _ _ _ _ _ _ _ _ _ _ _ _ _ _ _ _ _ _ _ _ _ _ _ _ _ _ _ _ _ _ _ _ _ _ _ _ _ _ _ _ _;rw[zh];exact br.o _ W I j u h
  .obtain rfl:k=n:=a8;rw[UL (by rw[<-HN.o];omega)]at F;have L:=qL F;clear F;by_cases bZ:rc=k
   .go_wp2_with fail
    go_region
    go_wp2_with fail
    refine J.o [] _ _ _ _ L.o E.o.drew rfl b6 (λW I=>?_) _ _ _ _ _ _ _ _ _ _ _ _ _ _ _ _ _ _ _ _ _ _ _ _ _ _ _ _ _ _ _ _ _ _ _ _ _ _ _ _ _ _ _ _ _ _ _ _ _ _ _ _ _ _ _ _ _ _ _ _;cases ra with
    |none=>exact .inl ⟨rfl,rfl⟩
    |some a=>exact .inr ⟨a,rfl,λj u h=>by simp at h⟩
   .go_wp2_with fail
    go_region
    go_wp2_with fail
    refine J.o [] _ _ _ _ L.o E.o.drew rfl b6 (λW I=>?_) _ _ _ _ _ _ _ _ _ _ _ _ _ _ _ _ _ _ _ _ _ _ _ _ _ _ _ _ _ _ _ _ _ _ _ _ _ _ _ _ _ _ _ _ _ _ _ _ _ _ _ _ _ _ _ _ _ _ _ _;cases ra with
    |none=>exact .inl ⟨rfl,rfl⟩
    |some a=>exact .inr ⟨_,rfl,λj u h=>by simp at h⟩
 clear hKx;go_loopg [4] n (λg y wr=>Below G.heap.size G wr/\∃k,k<=n/\g=n-k/\y=.int .i64 k/\∀j,(h:j<l.length)->j<k->l[j].item<x.item);case atStart=>exact⟨tr _ _,0,X4 _,rfl,rfl,λj _ h=>absurd h a8⟩
 case round=>
  obtain⟨H,k,hk,rfl,rfl,hj⟩:=hrel;have HX:=qL hX;have HJ:=qL hj;have E:=qL H;have d1:wr.cell? ⟨b,1,none⟩=some (.slice ra n rc):=(tl (a:=⟨b,1,none⟩) (H.block b a8)).trans c1;have y0:wr.cell? ⟨w.heap.size,0,none⟩=some (.int .u64 x.item):=(tl (a:=⟨w.heap.size,0,none⟩) (H.block w.heap.size a8)).trans x0;clear hj H hX;by_cases aW:k<n
  .have A:k<l.length:=(by rw[<-HN.o];exact aW);obtain⟨g,B,rfl,C⟩:=be.o (λe=>by rw[e]at A;simp at A);obtain⟨y,hy⟩:=xm (l[k]);have hg:=C (k*4) _ (by rw[show k*4=k*4+0 by omega,zsD A a8];rfl);have bQ:wr.cell? ⟨g,B+k*4,none⟩=some (.int .u64 y.item):=(by have bj:=HG.o.2 g _ hg.1;rw[hy];exact(tl (a:=⟨g,B+k*4,none⟩) ((E.o.block g a8).trans (bh.o.block g bj))).trans hg.2);have HY:=qL hy;clear hy hg C;by_cases h2:y.item<x.item
   .go_wp2_with fail
    go_region
    go_wp2_with fail
    go_roundg (n-(k+1));case measure=>omega
    case rel=>
     refine⟨E.o.drew,k+1,aW,rfl,b6,λj bL cb=>?_⟩;rcases wJ j k with h3|h3
     .exact HJ.o j bL h3
     .obtain rfl:j=k:=a8;rw[<-HY.o];exact h2
   .go_wp2_with fail
    go_region
    go_wp2_with fail
    exact HX.o k _ _ _ _ _ _ _ _ _ _ _ _ _ _ _ _ _ _ _ _ _ _ _ _ _ _ _ _ _ _ _ _ _ _ _ _ _ _ _ _ _ _ _ _ _ _ _ _ _ _ _ _ _ _ _ _ _ _ _ _ _ _ E.o.drew hk HJ.o λh=>by rw[<-HY.o];exact h2
  .go_wp2_with fail
   go_region
   go_wp2_with fail
   exact HX.o k _ _ _ _ _ _ _ _ _ _ _ _ _ _ _ _ _ _ _ _ _ _ _ _ _ _ _ _ _ _ _ _ _ _ _ _ _ _ _ _ _ _ _ _ _ _ _ _ _ _ _ _ _ _ _ _ _ _ _ _ _ _ E.o.drew hk HJ.o λh=>absurd (by rw[HN.o];exact h) aW
def Db(D:Qk)(b:Nat):Nat->Nat->Prop:=λj o=>D j o\/j=b
def Gd.db{D:Qk}{w:World}{b:Nat}(h:Gd D w)(hb:b<w.heap.size):Gd (Db D b) w:=⟨h.1.mono (λ_ _ h=>.inl h) λ_ _ _ _ h=>h,λj o u=>u.elim (h.2 j o) λe=>e▸hb⟩
def Rpf.cp{D:Qk}{w:World}{b:Nat}{s:Rs}(h:Rpf D w b s):Dat (Db D b) w (.pointer (some ⟨b,0,none⟩)) (.cp (rfc s) 0):=by
 obtain⟨ra,F,ka,E,u,y,A⟩:=h;refine .cp b 0 (rfc s) 0 (λj=>#[.int .u64 s.id,.slice ra s.recs.length F,.slice ka s.known.length E,.int .u64 s.next,.bool false].getD j undef) (λj B=>?_) λj q o=>?_
 .have hb:=λj x C=>(zW u j x C).1;rw[wn];match j,B with
  |0,_=>exact⟨.inr rfl,hb 0 _ rfl,rfl⟩
  |1,_=>exact⟨.inr rfl,hb 1 _ rfl,rfl⟩
  |2,_=>exact⟨.inr rfl,hb 2 _ rfl,rfl⟩
  |3,_=>exact⟨.inr rfl,hb 3 _ rfl,rfl⟩
  |4,_=>exact⟨.inr rfl,hb 4 _ rfl,rfl⟩
 .match j,o with
  |0,o=>cases o;exact .v _
  |1,o=>cases o;exact y.mono (λ_ _ h=>.inl h) λ_ _ _ _ h=>h
  |2,o=>cases o;exact A.mono (λ_ _ h=>.inl h) λ_ _ _ _ h=>h
  |3,o=>cases o;exact .v _
  |4,o=>cases o;exact .v _
def Rpf.lt{D:Qk}{w:World}{b:Nat}{s:Rs}(h:Rpf D w b s):b<w.heap.size:=(XV.1 h.choose_spec.choose_spec.choose_spec.choose_spec.1).1
def ztJ{D:Qk}{w:World}{b:Nat}{s:Rs}{i:Nat}(u:Rpf D w b s)(y:Gd D w)(A:s.recs.length<=1000000):Calls xT 50 #[.pointer (some ⟨b,0,none⟩),.int .u64 (i:Nat)] w λe B=>e=.returned (.int .i64 (ixR s.recs i 0))/\Below w.heap.size w B:=
 zsI (zuQ s i A) (y.db u.lt) rfl λj p o=>by
  match j,o with
  |0,o=>cases o;exact u.cp
  |1,o=>cases o;exact .v _
  |j+2,o=>simp at o
def zvD(w:World):Calls xT 51 #[] w λe j=>e=.returned (.int .u64 18446744073709551615)/\j=w:=by
 go_enter func51,ntmps51
 go_wp2;go_ret;exact⟨rfl,rfl⟩
def ztj:∀(l:List Rc)(i:Nat)(n:Int),(zrZ l i=none/\ixR l i n=-1)\/∃j,∃h:j<l.length,zrZ l i=some l[j]/\ixR l i n=n+(j:Nat)
 |[],i,n=>.inl ⟨rfl,rfl⟩
 | x::l,i,n=>by
   rw[zrf];unfold ixR;by_cases h:x.item=i
   .exact .inr ⟨0,b6,by simp[h],by simp[h]⟩
   .rw[Vq h,Vq h];rcases ztj l i (n+1)with o|⟨j,w,o,u⟩
    .exact .inl o
    .exact .inr ⟨j+1,dJ w,o,by rw[u];omega⟩
def zsM{D:Qk}{w:World}{v:Value}{k:List Fg}(h:Dat D w v (kp k)):∃a c,v=.slice a k.length c:=by obtain⟨⟨a,n,c⟩,e,j⟩:=kH h;rw[ww]at j;simp only at j;subst j;exact⟨a,c,e⟩
def zuR{C:Q9}{R E I:List Nat}{D:Qk}{w:World}{x:Value}{k:List Fg}(e:Env25 C R E I)(hk:Ke C R E k){i r c:Nat}(hi:i∈I)(H:r<zk)(F:r∈R)(G:c<=25)(A:Gd D w)(d:Dat D w x (kp k)):
 Calls xT 53 #[x,.int .u64 (i:Nat),.int .u64 (r:Nat),.int .u64 (c:Nat)] w λe y=>∃a u,e=.returned (.slice a (vh zn k (znP i r c)).length u)/\Below w.heap.size w y/\Dat (Nw D w y) y (.slice a (vh zn k (znP i r c)).length u) (kp (vh zn k (znP i r c))):=by
 refine(jP (zqd k i r c (by have:=zw;omega) hk.kn (ztd e hi H F G).kn e.ok (by have:=e.e;omega)) A.1 A.2 rfl λj p o=>?_).mono ?_
 .match j,o with
  |0,o=>cases o;exact d
  |1,o=>cases o;exact .v _
  |2,o=>cases o;exact .v _
  |3,o=>cases o;exact .v _
  |j+4,o=>simp at o
 .rintro e y ⟨v,rfl,hb,B⟩;obtain⟨a,u,rfl⟩:=zsM B;exact⟨a,u,rfl,hb,B⟩
def zuS{C:Q9}{R E I:List Nat}{n b i:Nat}{D:Qk}{w:World}{s:Rs}{v:ByteArray}(e:Env25 C R E I)(h:Ok25 C R E I n s)(hn:n<=25)(hi:i∈I)(hR:Rpf D w b s)(hG:Gd D w)(aA:∀o,¬D b o):
 Calls xT 22 #[.pointer (some ⟨b,0,none⟩),.int .u64 (i:Nat),.string v] w λe w'=>e=.returned (.tuple #[rcv (ztL s i v),.bool true])/\Keep (λk=>k=b) w w'/\Rpf (Nw D w w') w' b (ztM s i v):=by
 have hM:=zw;have cc:=(e.m i hi).1;have aX:s.recs.length<=25:=h.len e;obtain⟨ra,rc,ka,kc,J,V,h3⟩:=id hR;obtain⟨bQ,bR,aY,bK,cf,aw⟩:=zsZ V;obtain⟨rfl,rfl⟩:ra=bQ/\rc=bR:=dJ aY
 have bW:=(XV.1 J).1;obtain⟨c,O⟩:=xm (zsq s i);have bY:c<=n:=by rw[O];exact h.ctr i
 have H:∀W,Below w.heap.size w W->Rpf D W b s/\Gd D W:=λW hW=>⟨hR.keep (Keep.of_below' (S:=qe) hW (Zp _)) id λb o h=>⟨h,id⟩,hG.keep (Keep.of_below' (S:=qe) hW (Zp _)) λ_ _ _=>id⟩;have af:=λW (hW:Below w.heap.size w W)=>ztJ (i:=i) (H W hW).1 (H W hW).2 a8;have T:=λW (hW:Below w.heap.size w W)=>ztK (x:=ztL s i v) (H W hW).1 (H W hW).2 aA a8;obtain⟨nx,aI⟩:=xm (s.next);obtain⟨l,hl⟩:=xm (s.recs.length);obtain⟨ix,aC⟩:=xm (ixR s.recs i 0);have aB:(ix=-1/\c=nx)\/∃(j:Nat) (y:Rc) (g L:Nat),ix=(j:Nat)/\j<l/\ra=some ⟨g,L,none⟩/\D g (L+(j*4+2))/\w.cell? ⟨g,L+j*4+2,none⟩=some (.int .u64 y.ctr)/\y.ctr<25/\((y.ctr<nx/\c=nx)\/(nx<=y.ctr/\c=y.ctr+1)):=by
  rw[O,aI,aC,hl];unfold zsq;rcases ztj s.recs i 0 with⟨J,V⟩|⟨j,hj,J,V⟩
  .rw[J,V];exact .inl ⟨rfl,rfl⟩
  .rw[J,V];obtain⟨g,L,bJ,bH⟩:=aw (λe=>by rw[e]at hj;simp at hj);obtain⟨q1,q2⟩:=bH (j*4+2) (.int .u64 s.recs[j].ctr) (by rw[zsD hj a8];rfl);refine .inr ⟨j,s.recs[j],g,L,a8,hj,bJ,q1,by rw[Wt];exact q2,by have:=(h.x _ (Y1 hj)).2.2.1;omega,?_⟩;dsimp only;by_cases an:s.next<=s.recs[j].ctr
   .exact .inr ⟨an,by rw[vD an]⟩
   .exact .inl ⟨a8,by rw[Vq an]⟩
 have ah:ztL s i v=⟨i,s.id,c,v⟩:=by unfold ztL;rw[<-O]
 have ao:ztM s i v=⟨s.id,zr4 s.recs ⟨i,s.id,c,v⟩,vh zn s.known (znP i s.id c),c+1⟩:=by unfold ztM;rw[ah,<-O]
 obtain⟨kr,aF⟩:=xm (vh zn s.known (znP i s.id c));obtain⟨sr,aJ⟩:=xm (zr4 s.recs ⟨i,s.id,c,v⟩);rw[<-aF,<-aJ]at ao;rw[ah,<-aJ]at T;rw[<-aC]at af;obtain⟨F,P⟩:∃q,q=s.id:=⟨_,rfl⟩;have av:∀w0 W' x,Gd (Nw D w0 W') W'->Dat (Nw D w0 W') W' x (kp s.known)->Calls xT 53 #[x,.int .u64 (i:Nat),.int .u64 (F:Nat),.int .u64 (c:Nat)] W' λe w'=>∃a c',e=.returned (.slice a kr.length c')/\Below W'.heap.size W' w'/\Dat (Nw (Nw D w0 W') W' w') w' (.slice a kr.length c') (kp kr):=λw0 W' x hg hd=>by have:=zuR e h.k hi h.i.1 h.i.2 (c:=c) a8 hg hd;rw[P,aF];exact this
 have c0:w.cell? ⟨b,0,none⟩=some (.int .u64 F):=by rw[P];exact(zW J 0 _ rfl).1
 have c1:w.cell? ⟨b,1,none⟩=some (.slice ra l rc):=by rw[hl];exact(zW J 1 _ rfl).1
 have c3:w.cell? ⟨b,3,none⟩=some (.int .u64 nx):=by rw[aI];exact(zW J 3 _ rfl).1
 have c4:w.cell? ⟨b,4,none⟩=some (.bool false):=(zW J 4 _ rfl).1;rw[<-P]at ah ao T;have ar:=qL af;have aQ:=qL T;have aP:=qL av;have bz:=qL ah;have bA:=qL ao;have HG:=qL hG;have bU:=qL hG.2;rw[<-hl]at bK;have bP:xT.follows .mixedOrders=true:=dK
 clear J V h3 aw aY H af T av ah ao hG hR O aI hl aC h e aF aJ P aX;go_enter func22,ntmps22
 go_wp2_with fail
 obtain⟨w1,ai⟩:=xm (w.alloc (.cells #[.int .u64 0,.int .u64 0,.int .u64 0,.string ⟨#[]⟩] 76));have ax:Below w.heap.size w w1:=by rw[ai];exact(tr _ w).alloc (Zp _) _
 have cg:w1.heap.size=w.heap.size+1:=by rw[ai];exact tv _ _
 have bc:w1.heap[w.heap.size]?=some (.cells #[.int .u64 0,.int .u64 0,.int .u64 0,.string ⟨#[]⟩] 76 (0,0)):=by rw[ai];exact tn w _
 rw[<-ai];clear ai;refine(ar.o w1 ax).mono ?_;rintro e A ⟨rfl,M⟩;have X:=ax.trans (M.mono a8);have ch:=M.size;have be:=(M.block _ a8).trans bc;have d0:A.cell? ⟨b,0,none⟩=some (.int .u64 F):=bc0 X c0;have d1:A.cell? ⟨b,1,none⟩=some (.slice ra l rc):=bc0 X c1;have d3:A.cell? ⟨b,3,none⟩=some (.int .u64 nx):=bc0 X c3;have d4:A.cell? ⟨b,4,none⟩=some (.bool false):=bc0 X c4;have ac:=qL X;have aR:=qL be;clear ax M X bc be ar;have HF:qA (Below w.heap.size w A/\A.heap[w.heap.size]?=some (.cells #[.int .u64 0,.int .u64 0,.int .u64 0,.string ⟨#[]⟩] 76 (0,0))):=qL ⟨ac.o,aR.o⟩;rcases aB with⟨rfl,rfl⟩|⟨j,y,g,L,rfl,hj,rfl,cb,aV,hy,⟨an,rfl⟩|⟨ce,aT⟩⟩;case' inl=>
  go_wp2_with fail
 case' inr.inl=>
  have dy:A.cell? ⟨g,L+j*4+2,none⟩=some (.int .u64 y.ctr):=bc0 ac.o aV;have bI:j<=rc:=a8
  go_wp2_with fail
 case' inr.inr=>
  have bp:=qL aT;clear aT;have dy:A.cell? ⟨g,L+j*4+2,none⟩=some (.int .u64 y.ctr):=bc0 ac.o aV;have bI:j<=rc:=a8
  go_wp2_with fail
 case' inr.inr=>
  have ae:Below A.heap.size A A.drew:=(tr _ _).drew;have aH:¬(y.ctr=18446744073709551615):=a8;refine Kg (Sw:=qe) 11 100 (λw9=>Below A.heap.size A w9/\w9.cell? ⟨b,1,none⟩=some (.slice (some ⟨g,L,none⟩) l rc)/\w9.cell? ⟨g,L+j*4+2,none⟩=some (.int .u64 y.ctr)) dK dK rfl ⟨ae,d1,dy⟩ ?_;simp only[wO,wZ];refine Jz ?_;refine V7 (λu _=>u=.int .u64 18446744073709551615) (yj _) rfl ?_ ?_
  .intro a5 B O hk hr K hK;have HK:=qL hK;clear hK;simp[Rds,zA,lk,Op.operands,Call.operands,RdEq]at hr;go_simp;refine(zvD B).mono ?_;rintro e w3 ⟨rfl,rfl⟩;exact HK.o _ _ (Keep.refl _ _) O rfl
  simp only[Yf,yb];refine Jz ?_;intro A G aD;simp only[finG,WQ,Yf,yb,wM,Wg,WR];simp only[Act.put,wy,wR,wS];have HF:qA (Below w.heap.size w A/\A.heap[w.heap.size]?=some (.cells #[.int .u64 0,.int .u64 0,.int .u64 0,.string ⟨#[]⟩] 76 (0,0))):=qL ⟨ac.o.trans (G.1.mono ac.o.size),(G.1.block _ a8).trans aR.o⟩;have d0:A.cell? ⟨b,0,none⟩=some (.int .u64 F):=bc0 HF.o.1 c0;have d1:=G.2.1;have dy:=G.2.2;clear ae G aD
  go_wp2_with fail
  rw[show ((y.ctr:Int)+1)%18446744073709551616=(c:Nat) from by rw[bp.o];omega]
 all_goals
  obtain⟨wq,bO⟩:∃wq,wq=A:=⟨A,rfl⟩;subst bO;obtain⟨wa,ab⟩:=xm (wq.alloc (.cells #[.int .u64 i,.int .u64 F,.int .u64 c,.string v] 76));rw[<-ab];have cj:wa.heap.size=wq.heap.size+1:=(by rw[ab];exact tv _ _);have bg:wa.heap[wq.heap.size]?=some (.cells #[.int .u64 i,.int .u64 F,.int .u64 c,.string v] 76 (0,0)):=(by rw[ab];exact tn wq _);have bM:w.heap.size<wq.heap.size:=(XV.1 HF.o.2).1;have bi:wa.heap[w.heap.size]?=some (.cells #[.int .u64 0,.int .u64 0,.int .u64 0,.string ⟨#[]⟩] 76 (0,0)):=(by rw[ab];exact(tu _ _ _ bM).trans HF.o.2);have ay:Below w.heap.size w wa:=(by rw[ab];exact HF.o.1.alloc HF.o.1.size _);clear ab;refine(aQ.o wa ay).mono ?_;rintro e w3 ⟨⟨u3,rfl⟩,ag,bG⟩;obtain⟨bj,bl,aL,aM,q1,q2,q3⟩:=bG;have aZ:=ag.size;have e0:w3.cell? ⟨b,0,none⟩=some (.int .u64 F):=(zW q1 0 _ rfl).1;have e2:w3.cell? ⟨b,2,none⟩=some (.slice aL s.known.length aM):=(zW q1 2 _ rfl).1;have bB:=qL q1;have bD:=qL (ag.obj bg (by show ¬(wq.heap.size=b);omega));have bF:=qL (ag.obj bi (by show ¬(w.heap.size=b);omega));have aG:Keep (λk=>k=b) w w3:=(Keep.of_below' ay (Zp _)).trans ag;have bC:=qL q2;have aU:=HG.o.keep aG λN o h e=>aA o (e▸h);have br:=qL (λW (hW:Below w3.heap.size w3 W)=>aP.o wa W _ (Gd.new (w:=w) (aU.keep (Keep.of_below' (S:=qe) hW (Zp _)) λ_ _ _=>id) (V1 aZ hW.size)) (Nw.dat q3 (Keep.of_below' hW (Zp _))));have bw:=qL aG;have ae:Below w3.heap.size w3 w3.drew:=(tr _ _).drew;clear q1 q2 q3 bg bi ag aG aU ay
  go_wp2_with fail
  refine Kg (Sw:=qe) 14 100 (λw9=>Below w3.heap.size w3 w9/\w9.cell? ⟨b,2,none⟩=some (.slice aL s.known.length aM)/\w9.cell? ⟨b,0,none⟩=some (.int .u64 F)) dK dK rfl ⟨ae,e2,e0⟩ ?_;simp only[wO,wZ];refine Jz ?_;refine V7 (SlK D wa kr) SlK.stab rfl ?_ ?_
  .intro a5 B O hk hr K hK;have HK:=qL hK;clear hK;simp[Rds,zA,lk,Op.operands,Call.operands,RdEq]at hr;go_simp;refine(br.o B O.1).mono ?_;rintro e w6 ⟨U,k3,rfl,az,ak⟩;have aE:Keep qe B w6:=Keep.of_below' az (Zp _);exact HK.o _ _ aE ⟨O.1.trans (az.mono O.1.size),aE.cell_some O.2.1 id,aE.cell_some O.2.2 id⟩ ⟨U,k3,rfl,ak.mono (λb o h=>by
    have J:=O.1.size;have h3:=az.size;rcases h with(h|h)|h
    .exact .inl h
    .exact .inr ⟨h.1,a8⟩
    .exact .inr ⟨a8,h.2⟩) λ_ _ _ _ h=>h⟩
  simp only[Yf,yb];refine Jz ?_;intro A G aD;simp only[finG,WQ,Yf,yb,wM,Wg,WR];simp only[Act.put,wy,wR,wS];rintro _ ⟨U,k3,rfl,ak⟩;have M:=(G.1.block b a8).trans bB.o;have f2:A.cell? ⟨b,2,none⟩=some (.slice aL s.known.length aM):=(zW M 2 _ rfl).1;have g2:A.frozen? ⟨b,2,none⟩=false:=(zW M 2 _ rfl).2;have aN:=qL M;have bq:=qL ak;have aO:=qL G.1;have aq:=(G.1.block wq.heap.size a8).trans bD.o;have bh:=(G.1.block w.heap.size a8).trans bF.o;have bL:=G.1.size;clear M ak G aD ae e0 e2
  go_wp2_with fail
  obtain⟨B,Z⟩:=xm (A.setCell ⟨b,2,none⟩ (.slice U kr.length k3));have Y:B.heap[b]?=some (.cells #[.int .u64 F,.slice bj sr.length bl,.slice U kr.length k3,.int .u64 s.next,.bool false] 72 (0,0)):=(by rw[Z];exact zsw aN.o 2 _);have am:∀k,k≠b->B.heap[k]?=A.heap[k]?:=λk J=>(by rw[Z];exact tw _ _ _ _ J);have ci:B.heap.size=A.heap.size:=(by rw[Z];simp);have aK:B.heap[w.heap.size]?=some (.cells #[.int .u64 0,.int .u64 0,.int .u64 0,.string ⟨#[]⟩] 76 (0,0)):=(am _ a8).trans bh;have aj:B.heap[wq.heap.size]?=some (.cells #[.int .u64 i,.int .u64 F,.int .u64 c,.string v] 76 (0,0)):=(am _ a8).trans aq;have bu:qA (Keep (λk=>k=b) w B):=qL (by
   rw[Z];exact(bw.o.trans (Keep.of_below' aO.o (Zp _))).setCell (p:=⟨b,2,none⟩) (λ_=>rfl) _)
  rw[<-Z];have b3:B.cell? ⟨b,3,none⟩=some (.int .u64 s.next):=(zW Y 3 _ rfl).1;have r3:B.frozen? ⟨b,3,none⟩=false:=(zW Y 3 _ rfl).2;have b4:B.cell? ⟨b,4,none⟩=some (.bool false):=(zW Y 4 _ rfl).1;have r4:B.frozen? ⟨b,4,none⟩=false:=(zW Y 4 _ rfl).2;have hz:=λk x h=>zW aK k x h;have n0:B.cell? ⟨w.heap.size,0,none⟩=some (.int .u64 0):=(hz 0 _ rfl).1;have n1:B.cell? ⟨w.heap.size,1,none⟩=some (.int .u64 0):=(hz 1 _ rfl).1;have n2:B.cell? ⟨w.heap.size,2,none⟩=some (.int .u64 0):=(hz 2 _ rfl).1;have n3:B.cell? ⟨w.heap.size,3,none⟩=some (.string ⟨#[]⟩):=(hz 3 _ rfl).1;have m0:B.frozen? ⟨w.heap.size,0,none⟩=false:=(hz 0 _ rfl).2;have m1:B.frozen? ⟨w.heap.size,1,none⟩=false:=(hz 1 _ rfl).2;have m2:B.frozen? ⟨w.heap.size,2,none⟩=false:=(hz 2 _ rfl).2;have m3:B.frozen? ⟨w.heap.size,3,none⟩=false:=(hz 3 _ rfl).2;have p0:B.cell? ⟨wq.heap.size,0,none⟩=some (.int .u64 i):=(zW aj 0 _ rfl).1;have p1:B.cell? ⟨wq.heap.size,1,none⟩=some (.int .u64 F):=(zW aj 1 _ rfl).1;have p2:B.cell? ⟨wq.heap.size,2,none⟩=some (.int .u64 c):=(zW aj 2 _ rfl).1;have p3:B.cell? ⟨wq.heap.size,3,none⟩=some (.string v):=(zW aj 3 _ rfl).1;have bT:wq.heap.size≠w.heap.size:=a8;have ad:b≠w.heap.size:=a8;have bS:b≠wq.heap.size:=a8;have bX:((c:Int) == 18446744073709551615)=false:=a9;have bn:=qL Y;have bE:=qL aK;have bt:=qL am;clear Z Y am aK aj hz f2 g2 aq bh
  go_wp2_with (go_at_call 51;refine(zvD _).mono ?_;rintro e w6 ⟨rfl,rfl⟩)
  have aq:∀x y:Value,((w6.setCell ⟨b,4,none⟩ x).setCell ⟨b,3,none⟩ y).heap[w.heap.size]?=some (.cells #[.int .u64 0,.int .u64 0,.int .u64 0,.string ⟨#[]⟩] 76 (0,0)):=λx y=>(tw _ _ _ _ (uP ad)).trans ((tw _ _ _ _ (uP ad)).trans bE.o);refine tz (zs4 (cs:=#[.int .u64 i,.int .u64 F,.int .u64 c,.string v]) rfl rfl (by simpa using zsw (zsw (zsw (zsw (aq _ _) 0 _) 1 _) 2 _) 3 _) underlying76 dK) rfl ?_;have Q:¬(w.heap.size<w.heap.size):=th _;have aW:∀x y a1 a2 U a4:Value,Keep (λk=>k=b) w ((((((w6.setCell ⟨b,4,none⟩ x).setCell ⟨b,3,none⟩ y).setCell ⟨w.heap.size,0,none⟩ a1).setCell ⟨w.heap.size,1,none⟩ a2).setCell ⟨w.heap.size,2,none⟩ U).setCell ⟨w.heap.size,3,none⟩ a4):=λx y a1 a2 U a4=>
   (((((bu.o.setCell (p:=⟨b,4,none⟩) (λ_=>rfl) x).setCell (p:=⟨b,3,none⟩) (λ_=>rfl) y).setCell (p:=⟨w.heap.size,0,none⟩) (λh=>absurd h Q) a1).setCell (p:=⟨w.heap.size,1,none⟩) (λh=>absurd h Q) a2).setCell (p:=⟨w.heap.size,2,none⟩) (λh=>absurd h Q) U).setCell (p:=⟨w.heap.size,3,none⟩) (λh=>absurd h Q) a4
  have bZ:=(aW (.bool false) (.int .u64 ((c+1)%18446744073709551616)) (.int .u64 i) (.int .u64 F) (.int .u64 c) (.string v)).size;refine⟨by rw[bz.o];rfl,aW _ _ _ _ _ _,?_⟩;rw[bA.o];have ba:∀(W:World)(k:Nat),k≠w.heap.size->∀a1 a2 U a4:Value,((((W.setCell ⟨w.heap.size,0,none⟩ a1).setCell ⟨w.heap.size,1,none⟩ a2).setCell ⟨w.heap.size,2,none⟩ U).setCell ⟨w.heap.size,3,none⟩ a4).heap[k]?=W.heap[k]?:=λW k hk _ _ _ _=>(tw _ _ _ _ hk).trans ((tw _ _ _ _ hk).trans ((tw _ _ _ _ hk).trans (tw _ _ _ _ hk)));have bN:∀k,k≠b->∀x y:Value,((w6.setCell ⟨b,4,none⟩ x).setCell ⟨b,3,none⟩ y).heap[k]?=w6.heap[k]?:=λk hk _ _=>(tw _ _ _ _ hk).trans (tw _ _ _ _ hk);have au:∀{u:Value}{p:PV}{k:World},wa.heap.size<=k.heap.size->k.heap.size<=A.heap.size->(∀N o x,Nw D wa k N o->k.cell? ⟨N,o,none⟩=some x->A.cell? ⟨N,o,none⟩=some x)->Dat (Nw D wa k) k u p->∀Wf:World,A.heap.size<=Wf.heap.size->(∀q,q≠b->q≠w.heap.size->Wf.heap[q]?=A.heap[q]?)->Dat (Nw D w Wf) Wf u p:=λJ V h3 hd Wf hf hq=>hd.mono (λN o h=>h.imp id λh=>⟨a8,a8⟩) λN o x h hx=>by
   have aH:N≠b/\N≠w.heap.size:=by
    rcases h with h|h
    .have:=HG.o.2 N o h;exact⟨λe=>aA o (e▸h),a8⟩
    .exact⟨a8,a8⟩
   exact(tl (a:=⟨N,o,none⟩) (hq N aH.1 aH.2)).trans (h3 N o x h hx)
  have aS:∀(q:Nat),q≠b->q≠w.heap.size->∀x y a1 a2 U a4:Value,((((((w6.setCell ⟨b,4,none⟩ x).setCell ⟨b,3,none⟩ y).setCell ⟨w.heap.size,0,none⟩ a1).setCell ⟨w.heap.size,1,none⟩ a2).setCell ⟨w.heap.size,2,none⟩ U).setCell ⟨w.heap.size,3,none⟩ a4).heap[q]?=A.heap[q]?:=λq J V _ _ _ _ _ _=>(ba _ q V _ _ _ _).trans ((bN q J _ _).trans (bt.o q J));refine⟨bj,bl,U,k3,?_,au aZ bL (λN o x h hx=>(tl (a:=⟨N,o,none⟩) (aO.o.block N (tp w3 ⟨N,o,none⟩ hx))).trans hx) bC.o _ a9 λq J V=>aS q J V _ _ _ _ _ _,au a8 (Zp _) (λ_ _ _ _ h=>h) bq.o _ a9 λq J V=>aS q J V _ _ _ _ _ _⟩;refine(ba _ b ad _ _ _ _).trans ?_;have:=zsw (zsw bn.o 4 (.bool false)) 3 (.int .u64 ((c+1:Nat):Int));rw[show (((c:Nat):Int)+1)%18446744073709551616=((c+1:Nat):Int) from by omega];simpa using this
def zv0{w:World}{c g o:Nat}{l:List Rc}{C G:Int}{E F:Value}{t:TypeId}(B:l≠[])(y:w.heap[c]?=some (.cells #[.int .u64 C,E,F,.int .u64 G,.bool false] t (0,0)))(A:∀i u,(l.flatMap rcs)[i]?=some u->w.cell? ⟨g,o+i,none⟩=some u):g≠c:=by
 rintro rfl;match l,B with
 | x::l,_=>
   have j:=A 3 (.string x.val) rfl;match o,j with
   |0,j=>have:=(zW y 3 _ rfl).1;rw[wn,this]at j;cases j
   |1,j=>have:=(zW y 4 _ rfl).1;rw[this]at j;cases j
   |o+2,j=>simp[World.cell?,y]at j
def ztA{C:Q9}{R E I:List Nat}{n b:Nat}{D:Qk}{w:World}{s:Rs}{k:List Fg}{items:List Iv}{x y:Value}(e:Env25 C R E I)(h:Ok25 C R E I n s)(N:n<=26)(A:Rpf D w b s)(B:Gd D w)(J:RightK k)(hz:QW k)(G:Dat D w x (kp k))(hi:Nrm items)(H:items.length<=1000)(d:Dat D w y (rg items)):
 Calls xT 55 #[.pointer (some ⟨b,0,none⟩),x,y] w λe u=>∃a c,e=.returned (.slice a (zs0 s k items).length c)/\Below w.heap.size w u/\Dat (Nw (Db D b) w u) u (.slice a (zs0 s k items).length c) (lp (zs0 s k items)):=by
 have L:=zw;have M:=h.len e;refine(jP (ztz s k items a8 (λx K=>by have:=(h.x x K).2.2.1;omega) hi a8 J hz) (B.db A.lt).1 (B.db A.lt).2 rfl λj p o=>?_).mono ?_
 .match j,o with
  |0,o=>cases o;exact A.cp
  |1,o=>cases o;exact G.mono (λ_ _ h=>.inl h) λ_ _ _ _ h=>h
  |2,o=>cases o;exact d.mono (λ_ _ h=>.inl h) λ_ _ _ _ h=>h
  |j+3,o=>simp at o
 .rintro e u ⟨v,rfl,hb,F⟩;obtain⟨a,c,rfl,_⟩:=zsZ F;exact⟨a,c,rfl,hb,F⟩
def zun{C:Q9}{R E I:List Nat}{D:Qk}{w:World}{x y:Value}{k:List Fg}{items:List Iv}(e:Env25 C R E I)(hk:Ke C R E k)(hi:Nrm items)(F:∀x,Ed items x->x∈E)(G:items.length<=10)(u:Gd D w)(d:Dat D w x (kp k))(B:Dat D w y (rg items)):
 Calls xT 58 #[x,y] w λe o=>∃a j,e=.returned (.slice a (znF k items).length j)/\Below w.heap.size w o/\Dat (Nw D w o) o (.slice a (znF k items).length j) (kp (znF k items)):=by
 refine(jP (zqQ k items hk.kn hi a8 (zsR hk e hi F G).2 e.ok (by have:=e.e;omega) a8) u.1 u.2 rfl (zuw d B)).mono ?_;rintro e o ⟨v,rfl,hb,A⟩;obtain⟨a,j,rfl⟩:=zsM A;exact⟨a,j,rfl,hb,A⟩
def zvn{C:Q9}{R E I:List Nat}{D:Qk}{w:World}{x y:Value}{a b:List Fg}(e:Env25 C R E I)(H:Ke C R E a)(hb:Ke C R E b)(B:Gd D w)(d:Dat D w x (kp a))(G:Dat D w y (kp b)):
 Calls xT 57 #[x,y,.int .i64 0] w λe A=>∃p u,e=.returned (.slice p (vh zn a b).length u)/\Below w.heap.size w A/\Dat (Nw D w A) A (.slice p (vh zn a b).length u) (kp (vh zn a b)):=by
 refine(jP (YG a b 0 a8 H.kn hb.kn e.ok (by have:=e.e;omega)) B.1 B.2 rfl λj p o=>?_).mono ?_
 .match j,o with
  |0,o=>cases o;exact d
  |1,o=>cases o;exact G
  |2,o=>cases o;exact .v _
  |j+3,o=>simp at o
 .rintro e A ⟨v,rfl,hb,F⟩;obtain⟨a,u,rfl⟩:=zsM F;exact⟨a,u,rfl,hb,F⟩
def ztY(x y:Rc){D:Qk}{w:World}(j:Gd D w):Calls xT 56 #[rcv x,rcv y] w λe o=>e=.returned (.bool (zs7 x y))/\Below w.heap.size w o:=
 zsI (ztX x y) j rfl (zuw (ztb x) (ztb y))
def zus(l:List Rc)(x:Rc):(zse l x).length<=l.length+1:=by
 have:=ztN l x;unfold zse;split
 .split
  .exact this
  .omega
 .exact this
def zts:∀(m l:List Rc),(m.foldl zse l).length<=l.length+m.length
 |[],l=>Zp _
 |x::m,l=>by have j:=zts m (zse l x);have o:=zus l x;simp only[WI,wv];omega
def Rpf.sub{D j:Qk}{w:World}{b:Nat}{s:Rs}(h:Rpf D w b s)(u:∀b o,D b o->j b o):Rpf j w b s:=h.keep (Keep.refl qe w) id λb o h=>⟨u b o h,id⟩
def zuo{C:Q9}{R E I:List Nat}{n b c:Nat}{D:Qk}{w:World}{s f:Rs}{items:List Iv}{ia:Option Addr}{ic:Nat}(e:Env25 C R E I)(h:Ok25 C R E I n s)(hf:Ok25 C R E I n f)(hn:n<=26)(hR:Rpf D w b s)(hF:Rpf D w c f)(bu:c=b->f=s)(hG:Gd D w)(O:∀o,¬D b o)(hi:Nrm items)(hE:∀x,Ed items x->x∈E)(bB:items.length<=10)(d:Dat D w (.slice ia items.length ic) (rg items)):
 Calls xT 25 #[.pointer (some ⟨b,0,none⟩),.pointer (some ⟨c,0,none⟩),.slice ia items.length ic] w λe Y=>e=.returned (.int .i64 (zs0 f s.known items).length)/\Keep (λk=>k=b) w Y/\Rpf (Nw D w Y) Y b (ztt s f items):=by
 have hM:=zw;obtain⟨ra,rc,ka,kc,h1,h2,h3⟩:=id hR;have cr:=(XV.1 h1).1;have bW:=hF.lt;have b2:w.cell? ⟨b,2,none⟩=some (.slice ka s.known.length kc):=(zW h1 2 _ rfl).1;have aC:=qL (ztA e hf hn hF hG h.k.r (h.k.zz e) h3 hi a8 d);have bG:(zs0 f s.known items).length<=25:=V1 (Wy _ _) (hf.len e);have be:∀x∈zs0 f s.known items,x.item<zk:=λx Q=>(e.m _ (hf.x x (Wh.1 Q).1).1).1;have bD:Ke C R E (znF f.known items):=(zsR hf.k e hi hE bB).1;have ac:∀(w1:World)(a1:Option Addr)(c1:Nat),Below w.heap.size w w1->Dat (Nw (Db D c) w w1) w1 (.slice a1 (zs0 f s.known items).length c1) (lp (zs0 f s.known items))->zs0 f s.known items≠[]->∃g G,a1=some ⟨g,G,none⟩/\g≠b/\∀i u,((zs0 f s.known items).flatMap rcs)[i]?=some u->w1.cell? ⟨g,G+i,none⟩=some u:=λw1 a1 c1 hb hd av=>by
  obtain⟨a,c',ev,_,_,hr⟩:=zsZ hd;obtain⟨rfl,_⟩:a1=a/\c1=c':=(dJ ev);obtain⟨g,G,rfl,F⟩:=hr av;refine⟨g,G,rfl,?_,λi u hu=>(F i u hu).2⟩;obtain⟨fa,fc,ga,gc,f1,_,_⟩:=hF;have bZ:g≠c:=zv0 av ((hb.block c bW).trans f1) λi u hu=>(F i u hu).2;obtain⟨u,hu⟩:∃u,((zs0 f s.known items).flatMap rcs)[0]?=some u:=by
   match hm:zs0 f s.known items,av with
   |x::l,_=>exact⟨_,rfl⟩
  rcases (F 0 u hu).1 with(h|h)|h
  .exact λe=>O _ (e▸h)
  .exact absurd h bZ
  .omega
 have bA:∀wr,Keep (λk=>k=b) w wr->∀l,Rpf (Nw D w wr) wr b ⟨s.id,l,s.known,s.next⟩->∃fa fc,wr.cell? ⟨c,2,none⟩=some (.slice fa f.known.length fc)/\Dat (Nw D w wr) wr (.slice fa f.known.length fc) (kp f.known):=λwr hk l hr=>by
  by_cases F:c=b
  .obtain⟨_,_,ga,gc,q1,_,q3⟩:=hr;rw[bu F,F];exact⟨ga,gc,(zW q1 2 _ rfl).1,q3⟩
  .obtain⟨_,_,ga,gc,q1,_,q3⟩:=hF;exact⟨ga,gc,hk.cell_some (zW q1 2 _ rfl).1 F,q3.mono (λ_ _ h=>.inl h) λH o x h Q=>hk.cell_some Q λe=>O o (e▸h)⟩
 have aZ:∀W,Keep (λk=>k=b) w W->∀x,Dat (Nw D w W) W x (kp f.known)->Calls xT 58 #[x,.slice ia items.length ic] W λe Y=>∃a c',e=.returned (.slice a (znF f.known items).length c')/\Below W.heap.size W Y/\Dat (Nw (Nw D w W) W Y) Y (.slice a (znF f.known items).length c') (kp (znF f.known items)):=λW hk x Q=>
  zun e hf.k hi hE bB (Gd.new (w:=w) (hG.keep hk λH o h e=>O o (e▸h)) hk.size) Q (d.mono (λ_ _ h=>.inl h) λH o x h Q=>hk.cell_some Q λe=>O o (e▸h))
 have aF:∀W,Keep (λk=>k=b) w W->∀x y,Dat (Nw D w W) W x (kp s.known)->Dat (Nw D w W) W y (kp (znF f.known items))->Calls xT 57 #[x,y,.int .i64 0] W λe Y=>∃a c',e=.returned (.slice a (vh zn s.known (znF f.known items)).length c')/\Below W.heap.size W Y/\Dat (Nw (Nw D w W) W Y) Y (.slice a (vh zn s.known (znF f.known items)).length c') (kp (vh zn s.known (znF f.known items))):=λW hk x y Q hy=>
  zvn e h.k bD (Gd.new (w:=w) (hG.keep hk λH o h e=>O o (e▸h)) hk.size) Q hy
 obtain⟨X,bc⟩:=xm (zs0 f s.known items);obtain⟨kr,P⟩:=xm (vh zn s.known (znF f.known items));obtain⟨ch,aK⟩:∃q,q=znF f.known items:=⟨_,rfl⟩;have bF:ztt s f items=⟨s.id,X.foldl zse s.recs,kr,s.next⟩:=by rw[bc,P];rfl
 rw[<-bc]at aC bG be ac⊢;rw[<-P]at aF;rw[<-aK]at aZ aF;obtain⟨l,hl⟩:=xm (X.length);rw[<-hl]at aC bG ac⊢;have aq:∀j,((X.take j).foldl zse s.recs).length<=1000000:=λj=>by have h1:=zts (X.take j) s.recs;have h2:=h.len e;have h3:(X.take j).length<=l:=(by rw[hl,Wc];omega);omega
 have bz:∀j,j<X.length->(X.take (j+1)).foldl zse s.recs=zse ((X.take j).foldl zse s.recs) (X.getD j zRc):=λj hj=>by rw[vj hj,WW,WI,List.foldl_nil,vw,Zv hj];rfl
 have bJ:=qL bz;have bL:=qL aq;have bQ:=qL aZ;have bI:=qL aF;have bK:=qL bA;have aH:=qL ac;have bT:=qL be;have bP:=qL bF;have HR:=qL (show Rpf D w b ⟨s.id,s.recs,s.known,s.next⟩ from hR);have HG:=qL hG;have HL:=qL hl;have ci:xT.follows .mixedOrders=true:=dK
 clear h1 h2 h3 bz aq aZ aF bA ac be bF hR hF hG hl bc P aK bD h hf hi hE d bu e;go_enter func25,ntmps25
 go_wp2_with (go_at_call 55;refine aC.o.mono ?_;rintro e w1 ⟨a1,c1,rfl,af,bw⟩)
 have aR:=qL (aH.o w1 a1 c1 af bw);have bC:Keep (λk=>k=b) w w1:=Keep.of_below' af (Zp _);have bM:=qL bC;have bS:=qL (HR.o.keep (D':=Nw D w w1) (S:=qe) (Keep.of_below' af (Zp _)) id λb o h=>⟨.inl h,id⟩);clear af bw bC aH aC;go_loopg [8] l (λg x wr=>∃j,j<=l/\g=l-j/\x=.int .i64 j/\Keep (λk=>k=b) w1 wr/\Rpf (Nw D w wr) wr b ⟨s.id,(X.take j).foldl zse s.recs,s.known,s.next⟩);case atStart=>exact⟨0,X4 _,rfl,rfl,Keep.refl _ _,bS.o⟩
 case round=>
  obtain⟨j,hj,rfl,rfl,P,ba⟩:=hrel;have ai:=bM.o.trans P;have aB:=qL P;have ad:=qL ai;have ae:=qL ba;have bn:=qL (Gd.new (w:=w) (w0:=w) (HG.o.keep ai λH o h e=>O o (e▸h)) ai.size);have ct:=P.size;by_cases aG:j<l
  .have M:j<X.length:=(by rw[<-HL.o];exact aG);obtain⟨x,Q⟩:=xm (X.getD j zRc);have bg:x=X[j]:=(by rw[Q,vw,Zv M];rfl);have cu:x.item<zk:=(by rw[bg];exact bT.o _ (Y1 M));have aU:=bJ.o j M;rw[<-Q]at aU;obtain⟨g,G,rfl,bY,F⟩:=aR.o (λe=>by rw[e]at M;simp at M);have aT:∀W,Keep (λk=>k=b) wr W->∀i u,(rcs x)[i]?=some u->W.cell? ⟨g,G+j*4+i,none⟩=some u:=λW hW i u hu=>(by have aV:i<4:=(by have:=(Zw.1 hu).1;simpa[rcs]using this);have h1:=F (j*4+i) u (by rw[zsD M aV,<-bg];exact hu);rw[Wt];exact(aB.o.trans hW).cell_some h1 bY);have g0:wr.cell? ⟨g,G+j*4,none⟩=some (.int .u64 x.item):=aT wr (Keep.refl _ _) 0 _ rfl;have az:=qL aT;have aA:=qL aU;clear aU Q bg P ba ai F aT;obtain⟨l0,aY⟩:=xm ((X.take j).foldl zse s.recs);rw[<-aY]at ae aA;have aM:l0.length<=1000000:=(by rw[aY];exact bL.o j);clear aY;have aN:∀W,Below wr.heap.size wr W->Calls xT 52 #[.pointer (some ⟨b,0,none⟩),rcv x] W λe Y=>(∃u,e=.returned u)/\Keep (λk=>k=b) W Y/\Rpf (Nw D w Y) Y b ⟨s.id,zr4 l0 x,s.known,s.next⟩:=λW hW=>by
    have B:Keep qe wr W:=Keep.of_below' hW (Zp _);refine(ztK (D:=Nw D w W) (s:=⟨s.id,l0,s.known,s.next⟩) (ae.o.keep B id λH o h=>⟨h.imp id λh=>⟨h.1,Vm h.2 hW.size⟩,id⟩) (Gd.new (w:=w) (HG.o.keep (ad.o.trans (Keep.of_below' hW (Zp _))) λH o h e=>O o (e▸h)) (V1 ad.o.size hW.size)) (λo h=>h.elim (O o) λh=>a8) aM).mono ?_;rintro e Y ⟨h1,h2,h3⟩;refine⟨h1,h2,h3.sub λH o h=>?_⟩;have:=h2.size;have:=hW.size;have:=ad.o.size;rcases h with(h|h)|h
    .exact .inl h
    .exact .inr ⟨h.1,a8⟩
    .exact .inr ⟨a8,h.2⟩
   have aI:=qL aN;clear aN;obtain⟨ix,aW⟩:=xm (ixR l0 x.item 0);have aS:(ix=-1/\zse l0 x=zr4 l0 x)\/∃(T:Nat) (y:Rc) (n2 U V A:Nat),ix=(T:Nat)/\T<n2/\n2<=U/\zse l0 x=(if zs7 x y=true then zr4 l0 x else l0)/\wr.cell? ⟨b,1,none⟩=some (.slice (some ⟨V,A,none⟩) n2 U)/\∀i u,(rcs y)[i]?=some u->wr.cell? ⟨V,A+T*4+i,none⟩=some u:=by
    rw[aW];unfold zse;rcases ztj l0 x.item 0 with⟨h1,h2⟩|⟨T,ar,h1,h2⟩
    .rw[h1,h2];exact .inl ⟨rfl,rfl⟩
    .rw[h1,h2];obtain⟨ck,U,_,_,q1,q2,_⟩:=ae.o;obtain⟨cj,cn,ev,cc,_,ce⟩:=zsZ q2;obtain⟨rfl,rfl⟩:ck=cj/\U=cn:=(dJ ev);obtain⟨V,A,rfl,bX⟩:=ce (λe=>by simp only at e;rw[e]at ar;simp at ar);refine .inr ⟨T,l0[T],l0.length,U,V,A,a8,ar,cc,rfl,(zW q1 1 _ rfl).1,λi u hu=>?_⟩;have aV:i<4:=by have:=(Zw.1 hu).1;simpa[rcs]using this
     rw[Wt];exact(bX (T*4+i) u (by rw[zsD ar aV];exact hu)).2
   have ab:=ztJ (i:=x.item) ae.o bn.o aM;simp only at ab;rw[<-aW]at ab;have bl:=qL ab;clear ab aW
   go_wp2_with (go_at_call 50;refine bl.o.mono ?_;rintro e L ⟨rfl,N⟩)
   have ah:Keep (λk=>k=b) wr L:=Keep.of_below' N (Zp _);have x0:L.cell? ⟨g,G+j*4,none⟩=some (.int .u64 x.item):=az.o L ah 0 _ rfl;have x1:L.cell? ⟨g,G+j*4+1,none⟩=some (.int .u64 x.rep):=az.o L ah 1 _ rfl;have x2:L.cell? ⟨g,G+j*4+2,none⟩=some (.int .u64 x.ctr):=az.o L ah 2 _ rfl;have x3:L.cell? ⟨g,G+j*4+3,none⟩=some (.string x.val):=az.o L ah 3 _ rfl;have aj:=qL N;rcases aS with⟨rfl,ay⟩|⟨T,y,n2,U,V,A,rfl,ar,cs,ay,af,ao⟩
   .have am:=qL ay;clear ay ah N;go_region
    go_wp2_with (go_at_call 52;refine(aI.o _ aj.o.drew).mono ?_
                 rintro e w5 ⟨⟨u,rfl⟩,au,aw⟩;have aP:=qL ((aB.o.trans (Keep.of_below' aj.o.drew (Zp _))).trans au);have aD:=qL aw;clear au aw)
    go_roundg (l-(j+1));case measure=>omega
    case rel=>exact⟨j+1,aG,rfl,b6,aP.o,by rw[aA.o,am.o];exact aD.o⟩
   .have e1:L.cell? ⟨b,1,none⟩=some (.slice (some ⟨V,A,none⟩) n2 U):=bc0 N af;have y0:L.cell? ⟨V,A+T*4,none⟩=some (.int .u64 y.item):=bc0 N (ao 0 _ rfl);have y1:L.cell? ⟨V,A+T*4+1,none⟩=some (.int .u64 y.rep):=bc0 N (ao 1 _ rfl);have y2:L.cell? ⟨V,A+T*4+2,none⟩=some (.int .u64 y.ctr):=bc0 N (ao 2 _ rfl);have y3:L.cell? ⟨V,A+T*4+3,none⟩=some (.string y.val):=bc0 N (ao 3 _ rfl);have am:=qL ay;have an:Below L.heap.size L L.drew:=(tr _ _).drew;obtain⟨la,bE⟩:=xm (zs7 x y);have bp:=qL (λW (hW:Below L.heap.size L W)=>ztY x y (bn.o.keep ((Keep.of_below' (S:=qe) aj.o (Zp _)).trans (Keep.of_below' hW (Zp _))) λ_ _ _=>id));rw[<-bE]at bp am;clear ay ah N ao bE;refine Kg (Sw:=qe) 16 68 (λw9=>Below L.heap.size L w9/\w9.cell? ⟨b,1,none⟩=some (.slice (some ⟨V,A,none⟩) n2 U)/\w9.cell? ⟨g,G+j*4,none⟩=some (.int .u64 x.item)/\w9.cell? ⟨g,G+j*4+1,none⟩=some (.int .u64 x.rep)/\w9.cell? ⟨g,G+j*4+2,none⟩=some (.int .u64 x.ctr)/\w9.cell? ⟨g,G+j*4+3,none⟩=some (.string x.val)/\w9.cell? ⟨V,A+T*4,none⟩=some (.int .u64 y.item)/\w9.cell? ⟨V,A+T*4+1,none⟩=some (.int .u64 y.rep)/\w9.cell? ⟨V,A+T*4+2,none⟩=some (.int .u64 y.ctr)/\w9.cell? ⟨V,A+T*4+3,none⟩=some (.string y.val)) dK dK rfl ⟨an,e1,x0,x1,x2,x3,y0,y1,y2,y3⟩ ?_;simp only[wO,wZ];refine Jz ?_;refine zhg (λu _=>u=.bool la) (yj _) rfl (zG rfl rfl) ?_ ?_
    .intro a5 w5 F hk hr K hK;have HK:=qL hK;clear hK;simp[Rds,zA,lk,Op.operands,Call.operands,RdEq]at hr;go_simp;refine(bp.o w5 F.1).mono ?_;rintro e w6 ⟨rfl,br⟩;have B:Keep qe w5 w6:=Keep.of_below' br (Zp _);exact HK.o _ _ B ⟨F.1.trans (br.mono F.1.size),B.cell_some F.2.1 id,B.cell_some F.2.2.1 id,B.cell_some F.2.2.2.1 id,B.cell_some F.2.2.2.2.1 id,B.cell_some F.2.2.2.2.2.1 id,B.cell_some F.2.2.2.2.2.2.1 id,B.cell_some F.2.2.2.2.2.2.2.1 id,B.cell_some F.2.2.2.2.2.2.2.2.1 id,B.cell_some F.2.2.2.2.2.2.2.2.2 id⟩ rfl
    simp only[Yf,yb];refine Jz ?_;intro w2 J aX;simp only[finG,WQ,Yf,yb,wM,Wg,WR];simp only[Act.put,wy,wR,wS];have bt:Below wr.heap.size wr w2:=aj.o.trans (J.1.mono aj.o.size);have z0:=J.2.2.1;have z1:=J.2.2.2.1;have z2:=J.2.2.2.2.1;have z3:=J.2.2.2.2.2.1;have ak:=qL bt;clear an aX J bt x0 x1 x2 x3 y0 y1 y2 y3 e1;rw[show decide ((T:Int)<0)=false from WB a8,uz];cases la with
    | true=>
      go_wp2_with (go_at_call 52;refine(aI.o _ ak.o).mono ?_
                   rintro e w5 ⟨⟨u,rfl⟩,au,aw⟩;have aP:=qL ((aB.o.trans (Keep.of_below' ak.o (Zp _))).trans au);have aD:=qL aw;clear au aw)
      go_roundg (l-(j+1));case measure=>omega
      case rel=>exact⟨j+1,aG,rfl,b6,aP.o,by rw[aA.o,am.o];first|(rw[vD rfl];exact aD.o)|(rw[vD trivial];exact aD.o)⟩
    | false=>
      go_wp2_with fail
      go_roundg (l-(j+1));case measure=>omega
      case rel=>exact⟨j+1,aG,rfl,b6,aB.o.trans (Keep.of_below' ak.o (Zp _)),by rw[aA.o,am.o,Vq b6];exact ae.o.keep (Keep.of_below' (S:=qe) ak.o (Zp _)) id λH o h=>⟨h.imp id λh=>⟨h.1,Vm h.2 ak.o.size⟩,id⟩⟩
  .obtain rfl:j=l:=a8;have ax:=ae.o;rw[wm (by rw[HL.o];exact Zp _)]at ax;obtain⟨fa,fc,q2,qd⟩:=bK.o wr ai _ ax;obtain⟨cm,co,bh,bi,p1,p2,p3⟩:=ax;dsimp only at p1 p2 p3;have e2:wr.cell? ⟨b,2,none⟩=some (.slice bh s.known.length bi):=(zW p1 2 _ rfl).1;have bR:=qL qd;have bq:=qL p1;have bN:=qL p2;have bO:=qL p3;have an:Below wr.heap.size wr wr.drew:=(tr _ _).drew;have aL:∀W,Below wr.heap.size wr W->Keep (λk=>k=b) w W:=λW hW=>ad.o.trans (Keep.of_below' hW (Zp _));have aQ:=qL aL;clear P ba ai qd p1 p2 p3 aL
   go_wp2_with fail
   refine Kg (Sw:=qe) 14 68 (λw9=>Below wr.heap.size wr w9/\w9.cell? ⟨b,2,none⟩=some (.slice bh s.known.length bi)/\w9.cell? ⟨c,2,none⟩=some (.slice fa f.known.length fc)) dK dK rfl ⟨an,e2,q2⟩ ?_;simp only[wO,wZ];refine Jz ?_;refine V7 (SlK D w ch) SlK.stab rfl ?_ ?_
   .intro a5 w5 F hk hr K hK;have HK:=qL hK;clear hK;simp[Rds,zA,lk,Op.operands,Call.operands,RdEq]at hr;go_simp;refine(bQ.o w5 (aQ.o w5 F.1) _ (Nw.dat bR.o (Keep.of_below' F.1 (Zp _)))).mono ?_;rintro e w6 ⟨a3,k3,rfl,Z,ag⟩;have B:Keep qe w5 w6:=Keep.of_below' Z (Zp _);exact HK.o _ _ B ⟨F.1.trans (Z.mono F.1.size),B.cell_some F.2.1 id,B.cell_some F.2.2 id⟩ ⟨a3,k3,rfl,ag.mono (λb o h=>by
     have h1:=F.1.size;have h3:=Z.size;have h4:=ad.o.size;rcases h with(h|h)|h
     .exact .inl h
     .exact .inr ⟨h.1,a8⟩
     .exact .inr ⟨a8,h.2⟩) λ_ _ _ _ h=>h⟩
   simp only[Yf,yb];refine Jz ?_;refine V7 (SlK D w kr) SlK.stab rfl ?_ ?_
   .intro a5 w5 F hk hr K hK;have HK:=qL hK;clear hK;simp[Rds,zA,lk,Op.operands,Call.operands,RdEq]at hr;obtain⟨⟨r0,r1⟩,cq,⟨r2,r3⟩,a3,k3,rfl,hd⟩:=hr;go_simp;refine(bI.o w5 (aQ.o w5 F.1) _ _ (Nw.dat bO.o (Keep.of_below' F.1 (Zp _))) hd).mono ?_;rintro e w6 ⟨a3,k3,rfl,Z,ag⟩;have B:Keep qe w5 w6:=Keep.of_below' Z (Zp _);exact HK.o _ _ B ⟨F.1.trans (Z.mono F.1.size),B.cell_some F.2.1 id,B.cell_some F.2.2 id⟩ ⟨a3,k3,rfl,ag.mono (λb o h=>by
     have h1:=F.1.size;have h3:=Z.size;have h4:=ad.o.size;rcases h with(h|h)|h
     .exact .inl h
     .exact .inr ⟨h.1,a8⟩
     .exact .inr ⟨a8,h.2⟩) λ_ _ _ _ h=>h⟩
   simp only[Yf,yb];refine Jz ?_;intro w2 J aX;simp only[finG,WQ,Yf,yb,wM,Wg,WR];simp only[Act.put,wy,wR,wS];rintro cq bU _ ⟨a3,k3,rfl,ag⟩;clear bU;have cg:b<wr.heap.size:=(XV.1 bq.o).1;have aE:=(J.1.block b cg).trans bq.o;have f2:w2.cell? ⟨b,2,none⟩=some (.slice bh s.known.length bi):=(zW aE 2 _ rfl).1;have V:w2.frozen? ⟨b,2,none⟩=false:=(zW aE 2 _ rfl).2;have bj:=qL aE;have bH:=qL ag;have aO:=qL J.1;clear aE ag J aX an e2 q2
   go_wp2_with fail
   refine tz (tJ rfl _ _ _) rfl ?_;have cb:Keep (λk=>k=b) w (w2.setCell ⟨b,2,none⟩ (.slice a3 kr.length k3)):=(aQ.o w2 aO.o).setCell (p:=⟨b,2,none⟩) (λ_=>rfl) _;refine⟨rfl,cb,?_⟩;rw[bP.o];have cf:=aO.o.size;have aJ:∀{u:Value}{p:PV}{k:World},k.heap.size<=w2.heap.size->(∀H o x,Nw D w k H o->k.cell? ⟨H,o,none⟩=some x->w2.cell? ⟨H,o,none⟩=some x)->Dat (Nw D w k) k u p->Dat (Nw D w (w2.setCell ⟨b,2,none⟩ (.slice a3 kr.length k3))) (w2.setCell ⟨b,2,none⟩ (.slice a3 kr.length k3)) u p:=λh2 h3 hd=>hd.mono (λH o h=>h.imp id λh=>⟨h.1,a9⟩) λH o x h Q=>by
    have av:H≠b:=by
     rcases h with h|h
     .exact λe=>O o (e▸h)
     .omega
    exact(tl (a:=⟨H,o,none⟩) (tw _ _ _ _ av)).trans (h3 H o x h Q)
   exact⟨cm,co,a3,k3,zsw bj.o 2 _,aJ cf (λH o x h Q=>(tl (a:=⟨H,o,none⟩) (aO.o.block H (tp wr ⟨H,o,none⟩ Q))).trans Q) bN.o,aJ (Zp _) (λ_ _ _ _ h=>h) bH.o⟩
end
end Go.Proofs.YtmpnbdhadjfbhaaGreatDoor
