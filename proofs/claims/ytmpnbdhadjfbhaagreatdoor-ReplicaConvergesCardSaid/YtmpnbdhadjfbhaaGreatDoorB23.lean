import Derived.Tactics2
import Derived.Defers
import Derived.Recover
import Derived.Laws.Pointers
import Derived.WalkLawsBesides
import Derived.Test.YtmpnbdhadjfbhaaGreatDoorB22
set_option maxHeartbeats 16000000
set_option linter.all false
set_option maxRecDepth 100000
namespace Go.Proofs.YtmpnbdhadjfbhaaGreatDoor
open Go.RowKit
open Go.Proofs.Tryz
open Go.Proofs.Tryz renaming prog->xT
section
open Go.Maps
attribute [-go_sem] z7
def MemV(C:Qk)(l:List Nat)(u:Value)(w:World):Prop:=∃D:Nat->Nat->Prop,(∀b o,C b o->D b o)/\(∀b o,D b o->b<w.heap.size)/\Dat D w u (is l)
def MemV.stab{C:Qk}{l:List Nat}(u:Value)(w A:World)(h:MemV C l u w)(hk:Keep qe w A):MemV C l u A:=by obtain⟨D,B,y,E⟩:=h;exact⟨D,B,λb o j=>Vm (y b o j) hk.size,E.mono (λ_ _ h=>h) λb o x j F=>(tl (a:=⟨b,o,none⟩) (hk.block b (y b o j) id)).trans F⟩
def Xg{C:Qk}{w0 w:World}{k:List Fg}{v:Value}(x:Nat)(M:RightK k)(hz:QW k)(F:k.length<=1073741824)(L:Dat C w0 v (kp k))(H:∀b o,C b o->b<w0.heap.size)(J:GL C w0)(hb:Below w0.heap.size w0 w):
 Calls xT 143 #[v,.int .u64 (x:Nat)] w λe G=>∃u,e=.returned u/\Below w.heap.size w G/\MemV C (zU k x) u G:=by
 have I:∀b o y,C b o->w0.cell? ⟨b,o,none⟩=some y->w.cell? ⟨b,o,none⟩=some y:=λb o y K N=>(tl (a:=⟨b,o,none⟩) (hb.block b (H b o K))).trans N;have A:∀b o,C b o->b<w.heap.size:=λb o h=>Vm (H b o h) hb.size;refine(jP (K9 k x M hz F) (J.mono (λ_ _ h=>h) I) A (vs:=#[v,.int .u64 (x:Nat)]) rfl (λi p j=>by
  match i,j with
  |0,j=>cases j;exact L.mono (λ_ _ h=>h) I
  |1,j=>cases j;exact .v _
  |i+2,j=>simp at j)).mono ?_
 rintro e G ⟨u,rfl,B,E⟩;exact⟨u,rfl,B,_,λb o h=>.inl h,λb o h=>h.elim (λh=>Vm (A b o h) B.size) ub,E⟩
def zgP{C:Qk}{w0 w:World}{a b:List Nat}{u v:Value}(r:Bool)(L:decide (a=b)=r)(J:a.length<=1152921504606846976)(H:∀b o,C b o->b<w0.heap.size)(I:GL C w0)(hb:Below w0.heap.size w0 w)(M:MemV C a u w)(N:MemV C b v w):
 Calls xT 177 #[u,v] w λe E=>e=.returned (.bool r)/\Below w.heap.size w E:=by
 subst L;obtain⟨F,Q,S,T⟩:=M;obtain⟨G,X,U,V⟩:=N;have O:∀b o y,C b o->w0.cell? ⟨b,o,none⟩=some y->w.cell? ⟨b,o,none⟩=some y:=λb o y K P=>(tl (a:=⟨b,o,none⟩) (hb.block b (H b o K))).trans P;refine(jP (D:=λb o=>F b o\/G b o) (zjX a b J) (I.mono (λb o h=>.inl (Q b o h)) O) (λb o h=>h.elim (S b o) (U b o)) (vs:=#[u,v]) rfl (λi p j=>by
  match i,j with
  |0,j=>cases j;exact T.mono (λ_ _ h=>.inl h) λ_ _ _ _ h=>h
  |1,j=>cases j;exact V.mono (λ_ _ h=>.inr h) λ_ _ _ _ h=>h
  |i+2,j=>simp at j)).mono ?_
 rintro e E ⟨r,rfl,A,B⟩;rw[B.v_inv];exact⟨rfl,A⟩
def XJ{k:List Fg}(i:Nat):(CI (k.take i)).length<=(CI k).length:=by
 have:CI k=CI (k.take i)++CI (k.drop i):=by unfold CI;rw[<-Wl,Wb]
 rw[this,wj];omega
def Q0{l:List Iv}(j:Nat):(z6 (l.take j)).length<=(z6 l).length:=by
 have:z6 l=z6 (l.take j)++z6 (l.drop j):=by unfold z6;rw[<-Wl,Wb]
 rw[this,wj];omega
def XD(C:Qk)(k:List Fg)(vk:Value)(w:World)(hr:RightK k)(hz:QW k)(aT:k.length<=1073741824)(hT:(CI k).length<=1000000)(rk:Dat C w vk (kp k))(hC:∀b o,C b o->b<w.heap.size)(hG:GL C w):
 Calls xT 142 #[vk] w λe w'=>∃v,e=.returned v/\Below w.heap.size w w'/\OwnU w.heap.size w' v (zq k):=by
 have dl:=@run_makeMap xT
 have rg:=ze3 rk hC hr;have RK:=qL rk;have RG:=qL rg;have HR:=qL hr;have ah:=qL hG;obtain⟨aa,ca,rfl,dh,cL,_⟩:=rg;unfold maxLen at cL;clear rk hG;have bj:True:=trivial;go_enter func142,ntmps142
 go_wp2_with (first
  |(have _t:=bj;refine xe rfl _ _ _ (.inr rfl) rfl (MI.made w) b8 (r:=0) xM rfl ?_;clear bj;intro w1 am cc;dsimp only[Act.put])
  |go_in)
 have cS:w.heap.size<w1.heap.size:=am.lt;have bI:qA (Below w.heap.size w w1):=qL (((tr _ w).alloc (Zp _) (.map #[] 0)).grown cc b6 λj G=>by cases G;exact Zp _);have bM:=qL am;clear am cc
 go_wp2_with fail
 go_loopg [19] k.length (λg x wr=>∃i,i<=k.length/\g=k.length-i/\x=.int .i64 i/\MI w.heap.size wr (0::CI (k.take i))/\Below w.heap.size w wr)
 case atStart=>exact⟨0,X4 _,rfl,rfl,by simpa[CI]using bM.o,bI.o⟩
 case round=>
  obtain⟨i,hi,rfl,rfl,am,hB⟩:=hrel;clear bM bI cS;have Y:=qL am;have HB:=qL hB;clear am hB;by_cases P:i<k.length
  ·obtain⟨a',aw,ay,_,_,aA⟩:=id RG.o;obtain⟨bb,cy,bC,_,bE,U⟩:=aA (by intro e;subst e;simp at P);obtain⟨rfl,_,rfl⟩:aa=a'/\k.length=k.length/\ca=aw:=(dJ ay);subst bC;obtain⟨⟨hv,c0,aU⟩,av,nv,cv,c1⟩:=U i P;replace c0:=(HB.o.cell (p:=⟨bb,cy+i*2,none⟩) bE).trans c0;replace c1:=(HB.o.cell (p:=⟨bb,cy+i*2+1,none⟩) bE).trans c1;have HE:qA (∃f,f=k[i]):=⟨_,rfl⟩;obtain⟨f,hf⟩:=HE.o;rw[<-hf]at aU;have HF:=qL hf;have cb:ZS f:=(by rw[hf];exact hr _ (Y1 P));have cB:=qL cb;obtain⟨ai,ci,rfl,di,cO,_⟩:=id aU;have cJ:=qL aU;have cZ:(CI (k.take i)).length+(z6 f.items).length<=1000000:=(by have:=XJ (k:=k) (i+1);rw[Ky P,<-hf,wj]at this;omega);clear aA U ay aU hf HE cb;unfold maxLen at cO;obtain⟨wo,bH⟩:=xm (wr);subst bH
   go_wp2_with fail
   go_loopg [26] f.items.length (λg x wq=>∃j,j<=f.items.length/\g=f.items.length-j/\x=.int .i64 j/\MI w.heap.size wq (0::CI (k.take i)++z6 (f.items.take j))/\Below w.heap.size w wq)
   case atStart=>exact⟨0,X4 _,rfl,rfl,by simpa[z6]using Y.o.keep (tu _ _ _ Y.o.lt),HB.o.alloc HB.o.size _⟩
   case round=>
    obtain⟨j,G,rfl,rfl,cn,bZ⟩:=hrel;have T:=qL cn;have O:=qL bZ;clear Y cn bZ;by_cases ab:j<f.items.length
    .obtain⟨a',aw,ay,_,_,aA⟩:=cJ.o.keep (w':=wr) (Zp _) (Zp _) λb _ h=>O.o.block b h;obtain⟨bi,oi,bC,_,bE,U⟩:=aA (by intro e;rw[e]at ab;simp at ab);obtain⟨rfl,_,rfl⟩:ai=a'/\f.items.length=f.items.length/\ci=aw:=(dJ ay);subst bC;obtain⟨d0,d1,l0,l1⟩:=U j ab;obtain⟨s,hs⟩:=xm (f.items[j]);have cP:s.lo<=s.hi/\s.hi<zk:=(by rw[hs];exact cB.o.1.ivs2 _ (Y1 ab));have aS:=zaV ab;have aB:=Q0 (l:=f.items) (j+1);rw[<-hs]at d0 d1 l0 l1 aS;rw[aS,wj]at aB;have bK:=qL aS;clear aA U ay hs aS;have L:True:=trivial;have M:True:=trivial;by_cases J:s.hi=zk-1
     .have Z:=ze0 J;have hh:((s.hi:Nat):Int)=18446744073709551615:=(by rw[J,zw];rfl);rw[hh]at d1;have bp:=qL Z;clear Z J hh;have aQ:=T.o.lt
      go_wp2_with (first
       | (at_mapUpdate;have _t:=L;refine xe rfl _ _ _ (.inl rfl) rfl (T.o.keep (tu _ _ _ T.o.lt)) (by simp;unfold maxLen;omega) (r:=s.lo) l0 rfl ?_;clear L;intro w2 aG N
          have aK:w2.heap[wr.heap.size]?=some (.cells #[.int .u64 s.lo,.int .u64 18446744073709551615] 61 (0,0)):=(N.block _ b6 a9).trans (tn _ _);have f2:=(zW aK 1 _ rfl).1;have aj:=qL aG;have aN:=qL N;clear aG N aK;dsimp only[Act.put])
       |(go_at_call 36;refine(zfO _).mono ?_;rintro e w' ⟨rfl,rfl⟩)
       |go_in)
      go_roundg (f.items.length-(j+1));case measure=>omega
      case rel=>refine⟨j+1,ab,rfl,b6,?_,((O.o.alloc O.o.size _).grown aN.o (by simp;have:=O.o.size;omega) λj G=>by cases G;exact Zp _)⟩;rw[bK.o,bp.o,<-wQ];exact aj.o
     .obtain⟨y,hy⟩:∃y,s.hi=y:=⟨_,rfl⟩;have hM:=zw;have Z:=zcz (s:=s) a8;rw[hy]at d1 Z J cP l1;have bp:=qL Z;have cu:y<18446744073709551615:=a8;have cx:y+1<zk:=a8;rw[Z,wj]at aB;simp at aB;clear Z J hy hM;have aQ:=T.o.lt
      go_wp2_with (first
       | (at_mapUpdate;have _t:=L;refine xe rfl _ _ _ (.inl rfl) rfl (T.o.keep (tu _ _ _ T.o.lt)) (by simp;unfold maxLen;omega) (r:=s.lo) l0 rfl ?_;clear L;intro w2 aG N
          have aK:w2.heap[wr.heap.size]?=some (.cells #[.int .u64 s.lo,.int .u64 y] 61 (0,0)):=(N.block _ b6 a9).trans (tn _ _);have f2:=(zW aK 1 _ rfl).1;have aj:=qL aG;have aN:=qL N;clear aG N aK;dsimp only[Act.put])
       |(go_at_call 36;refine(zdr y cu _).mono ?_;rintro e w' ⟨rfl,rfl⟩)
       |(at_mapUpdate;have _t:=M;refine xe rfl _ _ _ (.inl rfl) rfl aj.o (by simp;unfold maxLen;omega) (r:=y+1) cx rfl ?_;clear M;intro w3 ck aC;have cE:=qL ck;have cC:=qL aC;clear ck aC;dsimp only[Act.put])
       |go_in)
      go_roundg (f.items.length-(j+1));case measure=>omega
      case rel=>refine⟨j+1,ab,rfl,b6,?_,((O.o.alloc O.o.size _).grown aN.o (by simp;have:=O.o.size;omega) λj G=>by cases G;exact Zp _).grown cC.o (by have:=O.o.size;have:=aN.o.size;simp at this;omega) λj G=>by cases G;exact Zp _⟩;have:=cE.o;rw[bK.o,bp.o];simpa using this
    .obtain rfl:j=f.items.length:=a8;rw[Wo]at T
     go_wp2_with fail
     go_roundg (k.length-(i+1));case measure=>omega
     case rel=>refine⟨i+1,P,rfl,b6,?_,O.o⟩;rw[Ky P,<-HF.o];exact T.o
  .obtain rfl:i=k.length:=a8;rw[Wo]at Y;obtain⟨S,hS⟩:=xm (0::CI k);rw[<-hS]at Y;have dg:S.length<=1000001:=(by rw[hS];simp;omega);have HS:=qL hS;clear hS;obtain⟨D,B,co⟩:=Y.o;have aQ:=B.lt;have HO:=qL B;have aP:=qL co;clear B co;obtain⟨wo,bH⟩:=xm (wr);subst bH;have L:True:=trivial
   go_wp2_with (first
    |(at_range;have _t:=L;refine TG _ rfl _ 258 rfl 36 4 vF underlying258 rV w.heap.size S.length D rfl HO.o ?_;intro w2 bc N dm;clear L)
    |go_in)
   go_frame
   have bN:qA (RgS w.heap.size wo.heap.size S.length S (kpB k) (Maps.size D) (Maps.has D) w2):=qL ⟨D,bc,aP.o.1,λx=>by rw[aP.o.2 x];simp;exact .inl,λx h=>by rw[aP.o.2 x]at h;simpa using h⟩;have bJ:qA (Below w.heap.size w w2):=qL (HB.o.grown N HB.o.size λj G=>by cases G);clear bc N HO Y aP;go_loopg [] (Maps.size D) (λg wr=>∃left,RgS w.heap.size wo.heap.size S.length S (kpB k) g left wr/\Below w.heap.size w wr);case atStart=>exact⟨_,bN.o,bJ.o⟩
   case round=>
    obtain⟨left,cR,bU⟩:=hrel;obtain⟨D3,an,bX,aY,aE⟩:=cR;have bP:=qL an;have br:=qL bX;have aO:=qL aY;have bu:=qL aE;have aM:=qL bU;clear an bX aY aE bU bN bJ
    go_wp2_with (first
     |(at_next;refine TB _ rfl _ rfl 36 vF rV (λr:{r:Nat // r<zk}=>Value.int .u64 (r.1:Nat)) (λc:Value=>c) zhV (λv y _=>⟨v,rfl⟩) w.heap.size wo.heap.size S.length D3 left gk rfl bP.o ?_ ?_)
     |go_in)
    .intro bF aD;obtain⟨wl,cU⟩:=xm (wr);subst cU;obtain⟨S2,aR⟩:=xm (S.filter (kpB k));have ba:∀y,has D3 (kR y)=decide (y∈S2):=λy=>(by rw[aO.o y,aD,aR,uz];simp[Wh]);have bY:S2.length<=1000001:=(by have:=Wy (kpB k) S;rw[<-aR]at this;omega);have aj:=qL ba;have bR:=qL aR;have B:=bP.o.owns;have HO:=qL B;have de:w.heap.size<wl.heap.size:=B.lt;clear ba aR B aD bF;have bn:True:=trivial
     go_wp2_with (first
      |(at_range;have _t:=bn;refine TG _ rfl _ 258 rfl 36 4 vF underlying258 rV w.heap.size S.length D3 rfl HO.o ?_;intro w5 bg ce dp;clear bn)
      |go_in)
     go_frame
     have bO:=qL bg;have E:qA (Below w.heap.size w w5):=qL (aM.o.grown ce aM.o.size λj G=>by cases G);have dc:wl.heap.size+1<=w5.heap.size:=a8;clear bg ce;go_loopg [13] (Maps.size D3) (λg v wr=>∃left l,wr.ranges xT 36 rV w.heap.size wl.heap.size S.length D3 left g/\GotS S2 left l/\(∀y,left (kR y)=true->y∈S2)/\OwnU (wl.heap.size+1) wr v l/\Below w.heap.size w wr);case atStart=>exact⟨_,[],bO.o,GotS.nil λy=>by rw[aj.o y,decide_eq_true_iff],λy h=>by rw[aj.o y]at h;simpa using h,tR _ _ _ _,E.o⟩
     case round=>
      obtain⟨aL,l,an,ae,aE,B,bW⟩:=hrel;have bQ:=qL an;have bq:=qL ae;have aV:=qL aE;have ar:=qL B;have F:=qL bW;have dk:l.length<=1000001:=V1 (qM l S2 ae.1 λy hy=>((ae.2 y).1 hy).1) bY;have da:=an.lt;obtain⟨ad,bA,rfl,dj,cM,_⟩:=B.shape;unfold maxLen at cM;clear an ae aE B bW bO E
      go_wp2_with (first
       |(at_next;refine TB _ rfl _ rfl 36 vF rV (λr:{r:Nat // r<zk}=>Value.int .u64 (r.1:Nat)) (λc:Value=>c) zhV (λv y _=>⟨v,rfl⟩) w.heap.size wl.heap.size S.length D3 aL gk rfl bQ.o ?_ ?_)
       |go_in)
      .intro bF aD;have aH:∀y,y∈l↔y∈S2:=λy=>(by rw[bq.o.2 y,aD];simp);have bB:0∈l:=(aH 0).2 (by rw[bR.o,Wh,HS.o];exact⟨b6,by simp[kpB]⟩);have aZ:l≠[]:=λe=>(by rw[e]at bB;cases bB);obtain⟨l',ac,cr,az⟩:=zeb ar.o aZ a8;have aX:l'=zq k:=Yd hr cr (ac.nodup_iff.2 bq.o.1) λy=>by rw[ac.mem_iff,aH,bR.o,HS.o,Wh];refine uT λ_=>?_;simp[kpB]
       have aI:∀j,(Value.slice ad l.length bA).ownBlock=some j->wl.heap.size+1<=j:=λj G=>(ar.o.lt j G).1;have cA:=qL aX;have cz:=qL az;have cI:=qL aI;clear aH bB aZ ac cr aX az aD bF aI;have X:True:=trivial
       go_wp2_with (first
        |(go_at_call 110;have _t:=X;refine cz.o.mono ?_;rintro e w9 ⟨rfl,cq,cg⟩;have cH:=qL cq;have cD:=qL cg;clear cq cg X)
        |go_in)
       refine tz (tJ rfl _ _ _) rfl ?_;exact⟨_,rfl,F.o.grown cD.o F.o.size λj G=>by have:=cI.o j G;omega,by rw[<-cA.o];exact cH.o.base a8⟩
      .intro x hx c kl y ys w7 bT I aF hv bD V cj cf ct bG;try dsimp only at I bG⊢
       obtain rfl:kl=kR x:=(by have:=(Zq hx).symm.trans I;simpa using this.symm);have au:=qL V;have ao:=qL cf;have cK:=qL ct;have dd:wl.heap.size+1<=w7.heap.size:=a8;have aq:=qL aF;obtain⟨i0,cN,cV,cW,cX⟩:=tP Vf;have cF:qA (OwnU (wl.heap.size+1) (w7.alloc (.cells #[.int .u64 (x:Nat)] 36)) (.slice ad l.length bA) l):=qL (ar.o.keep λg hg=>by
        have h1:=ar.o.lt g hg;rw[tu _ _ _ (by rw[cK.o];exact h1.2),ao.o.block g h1.2 (λe=>by cases e;omega)])
       have cQ:=tn w7 (.cells #[.int .u64 (x:Nat)] 36 (0,0));clear I hv bD V cf aF ct;have X:True:=trivial
       go_wp2_with (first
        |(at_builtin;have _t:=X;refine Td _ rfl _ _ 128 rfl (wl.heap.size+1) 36 i0 (.int .u64 0) 1 8 underlying128 cN cV cW cX rfl b8 _ _ _ rfl cF.o ⟨w7.heap.size,0,none⟩ 1 1 [.int .u64 (x:Nat)] rfl rfl (kw (cs:=#[.int .u64 (x:Nat)]) (t := 36) (fr:=(0,0)) cQ) dG c8 a8 a9 ?_;intro v' w8 ho ch _ _;clear X;have cG:=qL ho;have bL:=qL ch;clear ho ch)
        |go_in)
       have aI:∀j,(Value.slice ad l.length bA).ownBlock=some j->wl.heap.size+1<=j:=λj G=>(ar.o.lt j G).1;have aW:∀j,j<wl.heap.size+1->w8.heap[j]?=w7.heap[j]?:=λj G=>(by rw[bL.o.block j a9 (λe=>by have:=aI j e.symm;omega),tu _ _ _ a8]);go_roundg bT;case measure=>exact cj
       case rel=>
        refine⟨_,l++[x],yD au.o (aW _ a8) (aW _ a8),bq.o.push aq.o (aV.o _ aq.o),λr h=>?_,?_,?_⟩
        .exact aV.o r (by cases h0:aL (kR r)with|true=>rfl|false=>rw[h0]at h;simp at h)
        .have:=cG.o;unfold OwnU;simpa[uV]using this
        .exact((F.o.grown ao.o F.o.size λj G=>by cases G;omega).alloc (by have:=ao.o.size;have:=F.o.size;omega) _).grown bL.o (by simp;have:=F.o.size;omega) λj G=>by have:=aI j G;omega
    .intro x hx c kl y ys w3 ax I aF hv bD be P aC dn bG;try dsimp only at I bG⊢
     obtain rfl:kl=kR x:=(by have:=(Zq hx).symm.trans I;simpa using this.symm);have H:=qL be;have u:qA (Below w.heap.size w w3):=qL (aM.o.grown aC aM.o.size λj G=>by cases G;exact HB.o.size);have aq:=qL aF;clear I hv bD be aC aF;cases x with
     | zero=>
       go_wp2_with (first|(go_at_call 176;refine(zgc _).mono ?_;rintro e w' ⟨rfl,rfl⟩)|go_in)
       go_roundg ax;case measure=>exact P
       case rel=>exact⟨_,RgS.next br.o aO.o bu.o aq.o (by simp[kpB]) H.o,u.o⟩
     | succ x=>
       have bh:x<18446744073709551615:=(by have:=zw;omega);have cm:(zU k x).length<=1152921504606846976:=(by have h1:=Zg x 0 k;unfold zU;rw[ww];omega);have M:True:=trivial;have af:True:=trivial;have ag:True:=trivial;have bl:True:=trivial;by_cases ak:zU k x=zU k (x+1)
       .have HQ:=qL (show decide (zU k x=zU k (x+1))=true from uO ak);have bt:=qL (show kpB k (x+1)=false by simp[kpB,ak]);clear ak
        go_wp2_with (first
         |(go_at_call 176;refine(VH x bh _).mono ?_;rintro e w' ⟨rfl,rfl⟩)
         |(go_at_call 143;have _t:=M;refine(Xg x hr hz aT RK.o hC ah.o u.o).mono ?_;rintro e w4 ⟨u1,rfl,A,K⟩;have E:=qL A;have bw:=qL K;clear A K M)
         |(go_at_call 143;have _t:=af;refine(Xg (x+1) hr hz aT RK.o hC ah.o (u.o.trans (E.o.mono u.o.size))).mono ?_;rintro e w5 ⟨u2,rfl,A,K⟩;have F:=qL A;have bz:=qL K;clear A K af)
         |(go_at_call 177;have _t:=ag;refine(zgP true HQ.o cm hC ah.o ((u.o.trans (E.o.mono u.o.size)).trans (F.o.mono ((u.o.trans (E.o.mono u.o.size)).size))) (bw.o.stab _ _ _ (Keep.of_below' F.o (Zp _))) bz.o).mono ?_;rintro e w6 ⟨rfl,A⟩;have Q:=qL (((tr _ _).trans E.o).trans ((F.o.mono E.o.size).trans (A.mono (V1 E.o.size F.o.size))));clear A ag)
         |(at_delete;have _t:=bl;refine wpList_delete_ranges _ rfl _ _ 258 36 rfl 4 vF underlying258 rV w.heap.size wo.heap.size S.length D3 _ ax rfl (yD H.o (Q.o.block _ (UK aQ H.o.lt)) (Q.o.block _ H.o.lt)) _ (kR (x+1)) rfl (Zq hx) ?_;intro w7 bS V cY aJ;clear bl;have au:=qL V;have ao:=qL aJ.grown;clear V aJ;dsimp only[Act.put])
         |go_in)
        go_roundg bS;case measure=>omega
        case rel=>exact⟨_,RgS.del br.o aO.o bu.o bt.o au.o,(u.o.trans (Q.o.mono u.o.size)).grown ao.o (u.o.trans (Q.o.mono u.o.size)).size λj G=>by cases G;exact Zp _⟩
       .have HQ:=qL (show decide (zU k x=zU k (x+1))=false from WB ak);have bt:=qL (show kpB k (x+1)=true by simp[kpB,ak]);clear ak
        go_wp2_with (first
         |(go_at_call 176;refine(VH x bh _).mono ?_;rintro e w' ⟨rfl,rfl⟩)
         |(go_at_call 143;have _t:=M;refine(Xg x hr hz aT RK.o hC ah.o u.o).mono ?_;rintro e w4 ⟨u1,rfl,A,K⟩;have E:=qL A;have bw:=qL K;clear A K M)
         |(go_at_call 143;have _t:=af;refine(Xg (x+1) hr hz aT RK.o hC ah.o (u.o.trans (E.o.mono u.o.size))).mono ?_;rintro e w5 ⟨u2,rfl,A,K⟩;have F:=qL A;have bz:=qL K;clear A K af)
         |(go_at_call 177;have _t:=ag;refine(zgP false HQ.o cm hC ah.o ((u.o.trans (E.o.mono u.o.size)).trans (F.o.mono ((u.o.trans (E.o.mono u.o.size)).size))) (bw.o.stab _ _ _ (Keep.of_below' F.o (Zp _))) bz.o).mono ?_;rintro e w6 ⟨rfl,A⟩;have Q:=qL (((tr _ _).trans E.o).trans ((F.o.mono E.o.size).trans (A.mono (V1 E.o.size F.o.size))));clear A ag)
         |go_in)
        go_roundg ax;case measure=>exact P
        case rel=>exact⟨_,(RgS.next br.o aO.o bu.o aq.o bt.o H.o).keep (Q.o.block _ (UK aQ H.o.lt)) (Q.o.block _ H.o.lt),u.o.trans (Q.o.mono u.o.size)⟩
end
def zaG(k:List Fg)(G:RightK k)(hz:QW k)(j:k.length<=1073741824)(E:(CI k).length<=1000000):Cn xT 142 [kp k] (ns (zq k)):=by refine yZ rfl (enters_of func142 dK rfl) λD w H C B u F=>?_;rw[KB u];refine(XD D k _ w G hz j E (F 0 _ rfl) B C).mono ?_;rintro e I ⟨v,rfl,hb,ho⟩;exact⟨v,rfl,hb,vL ho λb o y A=>.inr ⟨y,A⟩⟩
noncomputable def Vy (k:List Fg) (j:Nat):List Iv:=((cutsK k).take j).filter λs=>decide (0<(zU k s.lo).length)
def Vz(k:List Fg){j:Nat}(h:(zq k).length<=j):Vy k j=zu k:=by unfold Vy zu;rw[wm (by unfold cutsK;rw[vO];exact h)]
def VB(k:List Fg)(j:Nat):(Vy k j).length<=j:=V1 (Wy _ _) (uK _ _)
def YE{k:List Fg}{j:Nat}(h:j<(zq k).length):Vy k (j+1)=Vy k j++if zU k (zq k)[j]=[] then [] else [⟨(zq k)[j],if h:j+1<(zq k).length then (zq k)[j+1]-1 else zk-1⟩]:=by
 have u:j<(cutsK k).length:=by unfold cutsK;rw[vO];exact h
 unfold Vy;rw[vj u,uo];congr 1;have w:(cutsK k)[j]=⟨(zq k)[j],if h:j+1<(zq k).length then (zq k)[j+1]-1 else zk-1⟩:=Vx _ _ h;rw[w];by_cases o:zU k (zq k)[j]=[]
 .rw[vD o];simp[o]
 .rw[Vq o];simp[wV.2 o]
def ZE{k:List Fg}(o:RightK k){j:Nat}(h:j+1<(zq k).length):1<=(zq k)[j+1]/\(zq k)[j+1]<zk:=by refine⟨?_,x7 o _ (Y1 h)⟩;have:=wP.1 (startsK_asc k) j (j+1) a8 h a8;omega
def zdF(k:List Fg)(w:RightK k)(hz:QW k)(u:k.length<=1073741824)(C:(CI k).length<=1000000):Cn xT 105 [kp k] (rg (zu k)):=by
 have G:=vY k;have B:=zw;refine zt func105 1 ?_;refine pw ?_;refine .c (zaG k w hz u C) ?_;refine pLoop.go (λj=>j<=(zq k).length) (λj=>[(3,.sl ((Vy k j).map Q2) (.r 38 2)),(12,.v (.int .i64 (j:Nat)))]) (λ_=>[]) (λj=>(zq k).length-j) 0 [3,12] ?_ ?_ ?_
 .exact X4 _
 .refine pw ?_;rfl
 .rintro j H;have F:=VB k j;refine pw ?_;refine .i ?_ ?_<;>intro h<;>first|refine pw ?_|exact pd
  .have o:=YE h;have E:=x7 w _ (Y1 h);refine pw ?_;refine .c (K9 k (zq k)[j] w hz u) ?_;refine .i ?_ ?_<;>intro y<;>first|refine pw ?_|exact pd
   .rw[vD y,wY]at o;exact⟨j+1,h,a8,by rw[o],rfl⟩
   .rw[Vq y]at o;refine .i ?_ ?_<;>intro A<;>first|refine pw ?_|exact pd
    .obtain⟨I,J⟩:=ZE w A;rw[uj A]at o;refine pw ?_;refine⟨j+1,h,a8,?_,rfl⟩;rw[o];simp[Q2]
    .rw[UL a8]at o;refine pw ?_;refine⟨j+1,h,a8,?_,rfl⟩;rw[o];simp[Q2,B]
  .rw[Vz k a8]
def QG(f:Fg)(r:List Fg)(x y:Nat):qX (f::r) x y=((mem f.items x == mem f.items y) && qX r x y):=rfl
def refSameM_c(k:List Fg)(x y:Nat)(hz:QW k):Cn xT 162 [kp k,.v (.int .u64 x),.v (.int .u64 y)] (.v (.bool (qX k x y))):=by
 have B:=hz.1;refine zt func162 3 ?_;refine pw ?_;refine pLoop.go (λj=>j<=k.length/\qX k x y=qX (k.drop j) x y) (λj=>[(7,.v (.int .i64 (j:Nat)))]) (λ_=>[]) (λj=>k.length-j) 0 [7] ?_ ?_ ?_
 .exact⟨X4 _,rfl⟩
 .exact pd
 .rintro j ⟨A,u⟩;refine pw ?_;refine .i ?_ ?_<;>intro h<;>first|refine pw ?_|exact pd
  .rw[VS h]at u;have o:=hz.2 _ (Y1 h);refine pw ?_;refine .c (kU k[j].items x o.1) ?_;refine .c (kU k[j].items y o.1) ?_;refine .i ?_ ?_<;>intro w<;>first|refine pw ?_|exact pd
   .rw[u,QG,w,tc]
   .refine⟨j+1,⟨h,?_⟩,a8,rfl⟩;rw[u,QG,w,Bool.true_and]
  .rw[u,wE a8];rfl
def zbb(k:List Fg)(l:List Nat):List Nat:=l.filter λx=>decide (x=0) || !qX k (x-1) x
def zbc(k:List Fg){l:List Nat}{j:Nat}(h:j<l.length):zbb k (l.take (j+1))=zbb k (l.take j)++if (decide (l[j]=0) || !qX k (l[j]-1) l[j])=true then [l[j]] else []:=by
 unfold zbb;rw[vj h,uo];congr 1;by_cases o:(decide (l[j]=0) || !qX k (l[j]-1) l[j])=true
 .rw[vD o];simp only[up,UH];exact vD o
 .rw[Vq o];simp only[up,UH];exact Vq o
def zc7(k:List Fg)(l:List Nat)(j:Nat):(zbb k (l.take j)).length<=j:=V1 (Wy _ _) (uK _ _)
def Ya(k:List Fg)(H:RightK k)(hz:QW k)(L:k.length<=1048576)(J:(CI k).length<=1000000)(hi:∀f∈k,f.items.length<=1048576):Cn xT 128 [kp k] (ns (zq k)):=by
 have N:=zw;have E:(zH (k.map Fg.items)).length<=1048576:=by have C:(zH (k.map Fg.items)).length<=(yU (k.map Fg.items)).length:=ju _;have M:(yU (k.map Fg.items)).length=1+(CI k).length:=(by unfold yU CI;rw[wv,Uc];omega);omega
 have B:∀x∈zH (k.map Fg.items),x<zk:=λx I=>Ze (λl u s hs=>by
  obtain⟨f,y,rfl⟩:=wB.1 u;have:=NF.lo_ge (H f y).1 s hs;omega) x I
 have w:=VX (k.map Fg.items) a9 (λl u=>by
  obtain⟨f,y,rfl⟩:=wB.1 u;exact hi f y) (by unfold yU;rw[wv,Uc];unfold CI at J;omega) (λl u=>by
  obtain⟨f,y,rfl⟩:=wB.1 u;exact(H f y).1.lt)
 rw[show rgs (k.map Fg.items)=.sl (k.map λf=>[rg f.items]) .sh by unfold rgs;rw[Ud];rfl]at w;refine zt func128 1 ?_;refine pw ?_;refine pLoop.go (λj=>j<=k.length) (λj=>[(3,.sl ((k.take j).map λf=>[rg f.items]) (.r 21 1)),(4,.v (.int .i64 (j:Nat)))]) (λ_=>[]) (λj=>k.length-j) 0 [3,4] ?_ ?_ ?_
 .exact X4 _
 .exact pd
 .rintro j K;refine pw ?_;refine .i ?_ ?_<;>intro h<;>first|refine pw ?_|exact pd
  .refine⟨j+1,h,a8,?_,rfl⟩;rw[vj h,WJ];rfl
  ·rw [show k.take j=k from wm a8]
   (first|refine .rd (w) rfl ?_|refine .mk (w) rfl ?_)
   obtain⟨l,u⟩:=xm (zH (k.map Fg.items));rw[<-u]at E B⊢;have A:zbb k l=zq k:=(by rw[u];rfl);refine pw ?_;refine pLoop.go (λj=>j<=l.length) (λj=>[(6,.sl ((zbb k (l.take j)).map yN) (.r 55 1)),(7,.v (.int .i64 (j:Nat)))]) (λ_=>[]) (λj=>l.length-j) 0 [6,7] ?_ ?_ ?_
   .exact X4 _
   .refine pw ?_;rfl
   .rintro j K;have G:=zc7 k l j;refine pw ?_;refine .i ?_ ?_<;>intro h<;>first|refine pw ?_|exact pd
    .have o:=zbc k h;have I:=B _ (Y1 h);refine .i ?_ ?_<;>intro F<;>first|refine pw ?_|exact pd
     .rw[vD (by simp[F])]at o;refine⟨j+1,h,a8,?_,rfl⟩;rw[o];simp[yN]
     .refine .c (refSameM_c k (l[j]-1) l[j] hz) ?_;refine .i ?_ ?_<;>intro C<;>first|refine pw ?_|exact pd
      .rw[vD (by rw[C];simp)]at o;refine⟨j+1,h,a8,?_,rfl⟩;rw[o];simp[yN]
      .rw[Vq (by rw[C];simpa using F),wY]at o;exact⟨j+1,h,a8,by rw[o],rfl⟩
    .rw[show l.take j=l from wm a8,A]
def VT(k:List Fg)(y:RightK k)(hz:QW k)(A:k.length<=1048576)(G:(CI k).length<=1000000)(u:Cn xT 128 [kp k] (ns (zq k))):Cn xT 95 [kp k] (rg (zu k)):=by
 have E:=vY k;have F:=zw;refine zt func95 1 ?_;refine pw ?_
 (first|refine .c (u) ?_|refine .o (u) ?_)
 refine pLoop.go (λj=>j<=(zq k).length) (λj=>[(4,.sl ((Vy k j).map Q2) (.r 27 2)),(5,.v (.int .i64 (j:Nat)))]) (λ_=>[]) (λj=>(zq k).length-j) 0 [4,5] ?_ ?_ ?_
 .exact X4 _
 .refine pw ?_;rfl
 .rintro j H;have C:=VB k j;refine pw ?_;refine .i ?_ ?_<;>intro h<;>first|refine pw ?_|exact pd
  .have u:=YE h;have B:=x7 y _ (Y1 h);refine pw ?_;refine .c (refKMemb_c k (zq k)[j] hz a8) ?_;refine .i ?_ ?_<;>intro w<;>first|refine pw ?_|exact pd
   .refine .c (zan (zq k) j h a8 (λh=>ZE y h)) ?_;rw[Vq (by intro e;rw[e]at w;simp at w)]at u;refine⟨j+1,h,a8,?_,rfl⟩;rw[u];simp[Q2]
   .rw[vD (dJ w),wY]at u;exact⟨j+1,h,a8,by rw[u],rfl⟩
  .rw[Vz k a8]
structure Ok12(C:Q9)(R:List Nat)(k:List Fg):Prop where
 r:RightK k
 z:QW k
 l:k.length<=1048576
 t:(CI k).length<=1000000
 i:∀f∈k,f.items.length<=1048576
 ik:IK C R k
 ok:OkC C R
 s:∀f∈k,SmV f.vec
noncomputable def zij (k:List Fg) (s:Iv):Fg:=⟨[s],qc k s.lo⟩
def zil(k:List Fg){j:Nat}(h:j<(zu k).length):((zu k).take (j+1)).map (λs=>fc (zij k s))=((zu k).take j).map (λs=>fc (zij k s))++[fc (zij k (zu k)[j])]:=by rw[vj h,WJ];rfl
def zjf(k:List Fg){j:Nat}(h:(zu k).length<=j):((zu k).take j).map (λs=>fc (zij k s))=(jq k).map fc:=by rw[wm h];unfold jq;rw[Ud];rfl
def ziJ{C:Q9}{R:List Nat}(k:List Fg)(o:Ok12 C R k):Cn xT 104 [kp k] (kp (jq k)):=by
 have y:=xW k;have w:=o.t;refine zt func104 1 ?_;refine pw ?_;refine .c (zdF k o.r o.z (by have:=o.l;omega) o.t) ?_;refine pLoop.go (λj=>j<=(zu k).length) (λj=>[(3,.sl (((zu k).take j).map (λs=>fc (zij k s))) (.r 22 2)),(9,.v (.int .i64 (j:Nat)))]) (λ_=>[]) (λj=>(zu k).length-j) 0 [3,9] ?_ ?_ ?_
 .exact X4 _
 .exact pd
 .rintro j A;refine pw ?_;refine .i ?_ ?_<;>intro h<;>first|refine pw ?_|exact pd
  .have u:=zil k h;refine .c (zgU k (zu k)[j].lo o.ik o.ok o.r o.s o.z) ?_;refine cutP.full rfl ?_ rfl ?_ ?_
   .exact pd
   .exact pd
   .refine pw ?_;exact⟨j+1,h,a8,u.symm,rfl⟩
  .exact zjf k a8
def zqR{C:Q9}{R:List Nat}(k:List Fg)(o:Ok12 C R k):Cn xT 138 [kp k] (kp (jq k)):=by
 have y:=xW k;have w:=o.t;refine zt func138 1 ?_;refine pw ?_;refine .c (VT k o.r o.z o.l o.t (Ya k o.r o.z o.l o.t o.i)) ?_;refine pLoop.go (λj=>j<=(zu k).length) (λj=>[(4,.sl (((zu k).take j).map (λs=>fc (zij k s))) (.r 29 2)),(5,.v (.int .i64 (j:Nat)))]) (λ_=>[]) (λj=>(zu k).length-j) 0 [4,5] ?_ ?_ ?_
 .exact X4 _
 .exact pd
 .rintro j A;refine pw ?_;refine .i ?_ ?_<;>intro h<;>first|refine pw ?_|exact pd
  .have u:=zil k h;refine .c (VR k (zu k)[j].lo o.ik o.ok o.r o.s o.z) ?_;refine cutP.full rfl ?_ rfl ?_ ?_
   .exact pd
   .exact pd
   .refine pw ?_;exact⟨j+1,h,a8,u.symm,rfl⟩
  .exact zjf k a8
def OkX(C:Q9)(R:List Nat):Prop:=(∀r,(C r).length<=9000)/\R.length<=1000
def OkX.c{C:Q9}{R:List Nat}(h:OkX C R):OkC C R:=⟨h.1,by have:=h.2;omega⟩
structure Kn(C:Q9)(R:List Nat)(n:Nat)(k:List Fg):Prop where
 r:RightK k
 ik:IK C R k
 s:∀f∈k,SmV f.vec
 m:qE k<=n
 l:k.length<=n
def Kn.z{C:Q9}{R:List Nat}{n:Nat}{k:List Fg}(h:Kn C R n k)(u:n<=400000):QW k:=
 ⟨by have:=h.l;omega,λf j=>⟨by have:=yv j;have:=h.m;omega,by have:=(h.s f j).2.1;omega,λe o=>by have:=(h.s f j).2.2 e o;omega⟩⟩
def Kn.ok12{C:Q9}{R:List Nat}{n:Nat}{k:List Fg}(h:Kn C R n k)(ok:OkX C R)(o:n<=400000):Ok12 C R k:=
 ⟨h.r,h.z o,by have:=h.l;omega,by have:=YO k;have:=h.m;omega,λf j=>by have:=yv j;have:=h.m;omega,h.ik,ok.c,h.s⟩
def Kn.refine{C:Q9}{R:List Nat}{n:Nat}{k:List Fg}(h:Kn C R n k)(ok:OkX C R):Kn C R (1+2*n) (jq k):=by
 have u:=xW k;have w:=YO k;have y:=h.m;have o:=h.ik.refine;refine⟨Yb h.r,λf j=>(o f j).iv,λf j=>(o f j).smv ok.c,?_,?_⟩
 .unfold jq;rw[Zf];omega
 .unfold jq;rw[ww];omega
def Kn.group{C:Q9}{R:List Nat}{n:Nat}{k:List Fg}(h:Kn C R n k)(ok:OkX C R):Kn C R n (zL k):=by
 have u:=jU h.r;have o:∀g∈zL k,WV C R g.vec:=λg j=>by obtain⟨f,w,e⟩:=u.2.2 g j;rw[e];exact(h.ik f w).canVec
 exact⟨(vB h.r).right,λg j=>(o g j).iv,λg j=>(o g j).smv ok.c,by have:=h.m;omega,by have:=h.l;omega⟩
def Kn.take{C:Q9}{R:List Nat}{n:Nat}{k:List Fg}(h:Kn C R n k)(j:Nat):Kn C R n (k.take j):=by
 refine⟨h.r.take j,h.ik.take j,λf u=>h.s f (WE u),?_,?_⟩
 .have o:=kK (k.take j) (k.drop j);rw[Wb]at o;have:=h.m;omega
 .have:=h.l;have:=uK j k;have:=td j k;omega
section
attribute [-go_sem] z7
def XK{C:Q9}{R:List Nat}{n j:Nat}{k:List Fg}(h:Kn C R n k)(ok:OkX C R)(G:n<=400000)(E:j<k.length)(y:¬(zi k[j].vec=[]\/k[j].items=[])):AddOk (zL (k.take j)) ⟨k[j].items,zi k[j].vec⟩:=by
 have ht:=h.take j;have u:=ht.group ok;have gi:=vB ht.r;have w:=Y1 E;have A:=(h.ik _ w).canVec;have hs:=jU ht.r;have F:∀g∈zL (k.take j),WV C R g.vec:=λg u=>by obtain⟨f,B,e⟩:=hs.2.2 g u;rw[e];exact(ht.ik f B).canVec
 exact⟨gi,Yi (h.r _ w) y,by have:=u.l;omega,by have:=yv w;have:=h.m;show k[j].items.length<=_;omega,λg o=>by have:=yv o;have:=u.m;omega,A.can.bd,λg o=>(gi.ok g o).1.bd,A.nlen ok.1 (by have:=ok.2;omega),λg o=>(F g o).nlen ok.1 (by have:=ok.2;omega)⟩
def zeA{P:Program}{f:FuncId}{t:Tmp}{p:Value}{xs:List Operand}{c:Call}{o:Oper}{a:Act}{w:World}{K:Act->World->Prop}{Q:Exit->Act->World->Prop}(ho:o.op=.call c)(A:c.callee=.value (.tmp t))(E:a.eval (.tmp t)=.func (.func f) #[p] #[])(y:c.args.toList=xs)
 (B:∀j w,(callFunc f j).run P w=.ok (.enter f j) w)
 (h:Calls P f (p::xs.map a.eval).toArray w λe u=>match e with|.returned v=>K (a.put o.dst v) u|.panicked chain=>Q (.panic chain) a u|.outgrown=>LetsOut Q):o.wp P a w K Q:=by
 have C:(execOp a.eval o).run P w=.ok (.enter f (p::xs.map a.eval).toArray) w:=by have e:c.args.map a.eval=(xs.map a.eval).toArray:=WD.1 (by rw[WS,y]);simp only[execOp,ho,resolve,A,e,E,Deferred.ofValue,tE,tH,tx,invoke];rw[show (#[p]++(xs.map a.eval).toArray++#[]:Array Value)=(p::xs.map a.eval).toArray from by simp];exact B _ _
 unfold Oper.wp;rw[C,t8];exact h.mono (λe F h=>by cases e<;>exact h)
def Vb{B:Q9}{R:List Nat}{n:Nat}(C:Qk)(k:List Fg)(vk:Value)(w:World)(hk:Kn B R n k)(ok:OkX B R)(hn:n<=400000)(rk:Dat C w vk (kp k))(hC:∀b o,C b o->b<w.heap.size)(hG:GL C w):
 Calls xT 103 #[vk] w λe w'=>∃v,e=.returned v/\Keep (λb=>w.heap.size<=b) w w'/\Dat (DL C w.heap.size w') w' v (kp (zL k)):=by
 have aO:∀(fn:Fn)(first ao:Array Value)(w:World),(Instr.makeFunc fn first ao).run xT w=.ok (.func fn first ao) w:=λ_ _ _ _=>rfl;obtain⟨aa,ca,fs,rfl,hl,H,au⟩:=kX rk hC;have aN:=hk.l;have HK:=qL hk;have an:=qL H;have aE:=qL au;have aF:=qL hG;have aI:=H.1;have aJ:=H.2.1;unfold maxLen at aJ;rw[hl]at aI;have Z:∀U w,(callFunc 140 U).run xT w=.ok (.enter 140 U) w:=enters_of func140 dK rfl;have aD:=qL Z;clear rk H au hG Z hk;go_enter func103,ntmps103
 go_wp2_with fail
 go_loopg [11] k.length (λg x wr=>∃j u,j<=k.length/\g=k.length-j/\x=.int .i64 j/\Boxed wr w.heap.size 224 u/\OutG C (w.heap.size+1) (w.heap.size+2) wr u (zL (k.take j))/\Keep (λb=>w.heap.size<=b) w wr)
 case atStart=>exact⟨0,_,X4 _,rfl,rfl,tn w _,OutG.start _ _ _ _,(Keep.refl _ w).alloc _⟩
 case round=>
  obtain⟨j,u,hj,rfl,rfl,Q,ab,ax⟩:=hrel;have ac:=qL Q;have G:=qL ab;have F:=qL ax;have ah:=Q.lt;have cb:=Q.cell;clear Q ab ax;by_cases J:j<k.length
  ·have M:j<fs.length:=a8;obtain⟨bb,ay,rfl,aL,Y⟩:=an.o.2.2 (by intro e;subst e;simp at M);obtain⟨c0,c1⟩:=Y j M;obtain⟨d0,d1⟩:=aE.o j M;replace c0:=(F.o.cell (p:=⟨bb,ay+j*2,none⟩) (by show bb<_;omega) (by show ¬w.heap.size<=bb;omega)).trans c0;replace c1:=(F.o.cell (p:=⟨bb,ay+j*2+1,none⟩) (by show bb<_;omega) (by show ¬w.heap.size<=bb;omega)).trans c1;have az:=qL (λT=>XK HK.o ok hn J T);have ad:=qL (Zo J);have S:=Y1 J;have aj:=HK.o.s _ S;have ar:=HK.o.r _ S;have aM:k[j].items.length<=400000:=(by have:=yv S;have:=HK.o.m;omega);generalize k[j]=f at *;generalize fs[j]=q at *;obtain⟨ai,ci,e0⟩:=zK d0;obtain⟨av,cv,e1⟩:=xL d1;rw[e0]at c0 d0;rw[e1]at c1 d1;have L:∀b o,C b o->b<wr.heap.size:=λb o h=>(by have:=hC b o h;omega);have aq:GL C wr:=aF.o.mono (λ_ _ h=>h) λb o x hc hx=>F.o.cell_some hx (by have:=hC b o hc;show ¬w.heap.size<=b;omega);have ag:∀(x:Value)(p:PV),Dat C w x p->∀W,Below wr.heap.size wr W->Dat C W x p:=λx p h W hW=>h.mono (λ_ _ h=>h) λb o x hc hx=>(tl (a:=⟨b,o,none⟩) (hW.block b (L b o hc))).trans (F.o.cell_some hx (by have:=hC b o hc;show ¬w.heap.size<=b;omega));have af:∀W,Below wr.heap.size wr W->GL C W:=λW hW=>aq.mono (λ_ _ h=>h) λb o x hc hx=>(tl (a:=⟨b,o,none⟩) (hW.block b (L b o hc))).trans hx;have X:∀W,Below wr.heap.size wr W->Calls xT 141 #[.slice av f.vec.length cv] W λe w'=>∃a c,e=.returned (.slice a (zi f.vec).length c)/\Below W.heap.size W w'/\Dat (λb o=>C b o\/(W.heap.size<=b/\b<w'.heap.size)) w' (.slice a (zi f.vec).length c) (vp (zi f.vec)):=λW hW=>by
    refine(jP (D:=C) (zer f.vec ar.2 aj.2.1 aj.2.2) (af W hW) (λb o h=>Vm (L b o h) hW.size) rfl (λi p hp=>?_)).mono ?_
    .match i,hp with
     |0,hp=>cases hp;exact ag _ _ d1 W hW
     |i+1,hp=>simp at hp
    .rintro e w' ⟨v,rfl,hb,hd⟩;obtain⟨a,c,rfl⟩:=xL hd;exact⟨a,c,rfl,hb,hd⟩
   have K:=qL X;have aA:=qL d0;have aC:=qL ag;have aG:=qL af;have aK:=qL L;clear X d0 d1 ag af L aq Y S aj ar e0 e1;have E:True:=trivial;by_cases h1:0<(zi f.vec).length
   .by_cases h2:0<f.items.length
    .go_wp2_with (first
      | (go_at_call 141;have _t:=E;refine(K.o _ ((tr _ _).alloc (Zp _) _)).mono ?_;rintro e w3 ⟨a3,n3,rfl,A,I⟩
         have P:w3.heap[wr.heap.size]?=some (.cells #[.slice ai f.items.length ci,.slice av f.vec.length cv] 59 (0,0)):=(A.block _ b6).trans (tn wr _);have f0:=(zW P 0 _ rfl).1;have y:=qL (((tr _ wr).alloc (Zp _) _).trans (A.mono b6));have O:=A.size;simp only[tv]at O;have aB:=qL I;clear A I P E)
      |go_in)
     refine zeA (t:=27) (xs:=[.tmp 31]) rfl rfl rfl rfl aD.o ?_;have T:¬(zi f.vec=[]\/f.items=[]):=λe=>by
      rcases e with e|e
      .rw[e]at h1;simp at h1
      .rw[e]at h2;simp at h2
     have ak:=G.o.owns;refine(Jh (C:=C) (base:=w.heap.size+2) (rb:=w.heap.size) (v:=u) (o:=zL (k.take j)) (f:=⟨f.items,zi f.vec⟩) (va:=.slice ai f.items.length ci) (vv:=.slice a3 (zi f.vec).length n3) (az.o T) (G.o.keep a8 λb hb=>y.o.block b hb) ((y.o.block _ ah).trans ac.o) a8 a8 hC (aG.o _ y.o) ?_ ?_).mono ?_
     .exact(aC.o _ _ aA.o _ y.o).mono (λb o h=>⟨.inl h,λe=>by have:=(ak b e).1;have:=hC b o h;omega⟩) λ_ _ _ _ h=>h
     .refine aB.o.mono (λb o h=>?_) λ_ _ _ _ h=>h;rcases h with h|h
      .exact⟨.inl h,λe=>by have:=(ak b e).1;have:=hC b o h;omega⟩
      .simp only[tv]at h;exact⟨.inr ⟨a8,h.2⟩,λe=>by have:=(ak b e).2;omega⟩
     rintro e w4 ⟨⟨u',rfl⟩,v',V,N,aw⟩;have am:=qL V;have ae:=qL N;have aH:=qL aw;clear V N aw;dsimp only
     go_wp2_with fail
     go_roundg (k.length-(j+1));case measure=>omega
     case rel=>refine⟨j+1,v',J,rfl,b6,am.o,?_,(F.o.trans (Keep.of_below' y.o (Zp _))).trans (aH.o.mono λb _ h=>a8)⟩;rw[ad.o,yo,Vq T];exact ae.o
    .have h0:f.items=[]:=by cases hf:f.items with|nil=>rfl|cons a l=>rw[hf]at h2;simp at h2
     have H0:=qL h0;clear h0
     go_wp2_with (first
      | (go_at_call 141;have _t:=E;refine(K.o _ ((tr _ _).alloc (Zp _) _)).mono ?_;rintro e w3 ⟨a3,n3,rfl,A,I⟩
         have P:w3.heap[wr.heap.size]?=some (.cells #[.slice ai f.items.length ci,.slice av f.vec.length cv] 59 (0,0)):=(A.block _ b6).trans (tn wr _);have f0:=(zW P 0 _ rfl).1;have y:=qL (((tr _ wr).alloc (Zp _) _).trans (A.mono b6));have O:=A.size;simp only[tv]at O;clear A I P E)
      |go_in)
     go_roundg (k.length-(j+1));case measure=>omega
     case rel=>refine⟨j+1,u,J,rfl,b6,(y.o.block _ ah).trans ac.o,?_,F.o.trans (Keep.of_below' y.o (Zp _))⟩;rw[ad.o,yo,vD (.inr H0.o)];exact G.o.keep a8 λb hb=>y.o.block b hb
   .have h0:zi f.vec=[]:=by cases hf:zi f.vec with|nil=>rfl|cons a l=>rw[hf]at h1;simp at h1
    have H0:=qL h0;clear h0
    go_wp2_with (first
     | (go_at_call 141;have _t:=E;refine(K.o _ ((tr _ _).alloc (Zp _) _)).mono ?_;rintro e w3 ⟨a3,n3,rfl,A,I⟩
        have y:=qL (((tr _ wr).alloc (Zp _) _).trans (A.mono b6));have O:=A.size;simp only[tv]at O;clear A I E)
     |go_in)
    go_roundg (k.length-(j+1));case measure=>omega
    case rel=>refine⟨j+1,u,J,rfl,b6,(y.o.block _ ah).trans ac.o,?_,F.o.trans (Keep.of_below' y.o (Zp _))⟩;rw[ad.o,yo,vD (.inl H0.o)];exact G.o.keep a8 λb hb=>y.o.block b hb
  .obtain rfl:j=k.length:=a8
   go_wp2_with fail
   refine tz (tJ rfl _ _ _) rfl ?_;have h:=G.o.dat a8;rw[Wo]at h;exact⟨_,rfl,F.o,h.mono (λb o h=>h.imp id λh=>⟨a8,h.2⟩) λ_ _ _ _ h=>h⟩
def zfn{B:Q9}{R:List Nat}{n:Nat}(k:List Fg)(hk:Kn B R n k)(ok:OkX B R)(A:n<=400000):Cn xT 103 [kp k] (kp (zL k)):=by refine yZ rfl (enters_of func103 dK rfl) λD w F u o j y=>?_;rw[KB j];refine(Vb D k _ w hk ok A (y 0 _ rfl) o u).mono ?_;rintro e G ⟨v,rfl,hb,C⟩;exact⟨v,rfl,hb.below (Zp _) λ_ h E=>a8,C.mono (λ_ _ h=>h.imp id λh=>⟨uy h.1,h.2⟩) λ_ _ _ _ h=>h⟩
def YI(w:World)(t M:TypeId)(ht:xT.underlying t=some (.slice 59))(base:Nat)(v:Value)(n:Nat)(N:List Value)(y:w.ownsRow base 59 2 v n N)(G:Option Addr)(m c:Nat)(o:List Value)(O:o.length=m*2)
 (B:(m=0/\G=none)\/∃a,G=some a/\∀j u,o[j]?=some u->w.cell? (a.add j)=some u) (U:∀u∈o,u.oneCell'=true) (V:n+m<=1073741824) (A:base<=w.heap.size) :
 ∃C F,(Builtin.append_ #[t,t] M #[v,.slice G m c]).run xT w=.ok C F/\F.ownsRow base 59 2 C (n+m) (N++o)/\w.grownBy F v.ownBlock/\(C.ownBlock=v.ownBlock\/C.ownBlock=some w.heap.size):=by
 obtain⟨Q,E,J,K,L⟩:=tP Z9;rcases B with⟨rfl,rfl⟩|⟨a,rfl,X⟩
 .obtain rfl:o=[]:=wW.1 O;obtain⟨H,cp,rfl,I⟩:∃H cp,v=.slice H n cp/\n<=cp:=by
   rcases y.2 with⟨rfl,rfl⟩|⟨g,S,T,rfl,_,_,h,_⟩
   .exact⟨none,0,rfl,Zp _⟩
   .exact⟨_,_,rfl,h⟩
  exact⟨_,w,ve w t M _ Q ht E H n cp c I,dJ y,jW _ _,.inl rfl⟩
 .obtain⟨C,F,Y,Z,r3,_,r5⟩:=Tf (P:=xT) w base t M 59 Q _ 2 48 ht E J K L rfl b8 v n N y a m c o (dJ O) X U c8 a8 A;exact⟨C,F,Y,Z,r3,r5⟩
def yH{G:Array Oper}{o:Oper}{a:Act}{w:World}{K:Act->World->Prop}{Q:Exit->Act->World->Prop}{E:Prop}(s x:Operand)(t:TypeId)(L:o.guard=none)
 (ho:o.op=.call { callee:=.builtin .append,args:=#[s,x],argTypes:=#[t,t] }) (ht:xT.underlying t=some (.slice 59)) (base:Nat) (v:Value) (n:Nat) (M:List Value) (hs:a.eval s=v) (F:w.ownsRow base 59 2 v n M)
 (I:Option Addr) (m c:Nat) (y:List Value) (X:a.eval x=.slice I m c) (T:y.length=m*2) (B:(m=0/\I=none)\/∃a,I=some a/\∀j u,y[j]?=some u->w.cell? (a.add j)=some u) (N:∀u∈y,u.oneCell'=true) (J:n+m<=1073741824) (A:base<=w.heap.size)
 (h:∀C H,H.ownsRow base 59 2 C (n+m) (M++y)->w.grownBy H v.ownBlock->(C.ownBlock=v.ownBlock\/C.ownBlock=some w.heap.size)->K (a.put o.dst C) H):if Region.wanted o (yielded G a.tmps)=true then Oper.wp xT o a w K Q else E:=by
 have V:Region.wanted o (yielded G a.tmps)=true:=by simp[Region.wanted,L]
 rw[vD V];obtain⟨C,H,U,O,P,S⟩:=YI w t o.type ht base v n M F I m c y T B N J A;unfold Oper.wp execOp;simp only[ho,resolve,invoke,builtin,tE,tH,tx,uf,Wx,W6,hs,X,U];exact h C H O P S
def zdz{w:World}{base A:Nat}(j:base<=A)(h:w.heap[A]?=some (.cells #[] 59 (0,0))):w.ownsRow base 59 2 (.slice (some ⟨A,0,none⟩) 0 0) 0 []:=⟨rfl,.inr ⟨A,0,#[],rfl,j,h,Zp _,X4 _,rfl,rfl⟩⟩
def OutG.at{C:Qk}{L base:Nat}{w:World}{A:Option Addr}{u:Nat}{o:List Fg}(h:OutG C L base w (.slice A o.length u) o){i:Nat}(hi:i<o.length):
 ∃g F H G cv y,A=some ⟨g,0,none⟩/\base<=g/\w.heap[g]?=some (.cells y 59 (0,0))/\w.cell? ⟨g,i*2,none⟩=some (.slice F o[i].items.length H)/\w.cell? ⟨g,i*2+1,none⟩=some (.slice G o[i].vec.length cv) /\
  Dat (DX C L w (.slice A o.length u)) w (.slice F o[i].items.length H) (rg o[i].items)/\Dat (DX C L w (.slice A o.length u)) w (.slice G o[i].vec.length cv) (vp o[i].vec):=by
 obtain⟨Q,E,I⟩:=h;obtain⟨a,b,ea,eb,M,db⟩:=I i hi;obtain⟨g,B,y,ev,J,O,K,_⟩:=E.cases.resolve_left (λh=>a8);obtain⟨rfl,_,rfl⟩:A=some ⟨g,0,none⟩/\o.length=o.length/\u=B:=dJ ev
 have N:∀j x,Q[j]?=some x->w.cell? ⟨g,j,none⟩=some x:=λj x P=>by have:=tI E.1 (g:=g) rfl j x P;rw[zh,wn]at this;exact this
 obtain⟨F,H,rfl⟩:=zK M;obtain⟨G,cv,rfl⟩:=xL db;exact⟨g,F,H,G,cv,y,rfl,J,K,N _ _ ea,N _ _ eb,M,db⟩
def zep{C:Qk}{rb:Nat}{w:World}{v a b:Value}{l m:List Iv}(K:Nrm l)(L:Nrm m)(F:l.length<=131072)(G:m.length<=131072)(E:Dat (DX C rb w v) w a (rg l))(db:Dat (DX C rb w v) w b (rg m))(N:∀k,v.ownBlock=some k->k<w.heap.size)(B:∀b o,C b o->v.ownBlock≠some b)(H:∀b o,C b o->b<w.heap.size)(M:rb<w.heap.size)(I:GL C w):
 Calls xT 137 #[a,b] w λe A=>∃u,e=.returned u/\Below w.heap.size w A/\Dat (DX C rb A v) A u (rg (qy zn l m)):=by
 refine(jP (D:=DX C rb w v) (Kf l m K L F G) (I.mono (λb o h=>⟨.inl h,B b o h⟩) λ_ _ _ _ h=>h) (λb o h=>h.1.elim (H b o) ub) rfl (λj p y=>?_)).mono ?_
 .match j,y with
  |0,y=>cases y;exact E
  |1,y=>cases y;exact db
  |j+2,y=>simp at y
 .rintro e A ⟨u,rfl,hb,J⟩;exact⟨u,rfl,hb,J.mono (λb o h=>by
   rcases h with h|h
   .exact⟨h.1.imp id λh=>⟨h.1,Vm h.2 hb.size⟩,h.2⟩
   .exact⟨.inr ⟨a8,h.2⟩,λe=>by have:=N b e;omega⟩) λ_ _ _ _ h=>h⟩
def zhr{C:Qk}{rb:Nat}{w:World}{v a b:Value}{l m:List En}(c:Int)(J:zZ (zv l) (zv m)=c)(B:l.length<=1024/\∀e∈l,e.holes.length<=1048576)(E:m.length<=1024/\∀e∈m,e.holes.length<=1048576)(G:Dat (DX C rb w v) w a (vp l))(db:Dat (DX C rb w v) w b (vp m))(A:∀b o,C b o->v.ownBlock≠some b)(H:∀b o,C b o->b<w.heap.size)(I:GL C w):
 Calls xT 136 #[a,b] w λe F=>e=.returned (.int .i64 c)/\Below w.heap.size w F:=by
 subst J;refine(jP (D:=DX C rb w v) (Xp l m B.2 E.2 B.1 E.1) (I.mono (λb o h=>⟨.inl h,A b o h⟩) λ_ _ _ _ h=>h) (λb o h=>h.1.elim (H b o) ub) rfl (λj p y=>?_)).mono ?_
 .match j,y with
  |0,y=>cases y;exact G
  |1,y=>cases y;exact db
  |j+2,y=>simp at y
 .rintro e F ⟨u,rfl,hb,K⟩;have e:=(Rel.dat (ρ:=λ_=>0) (nb:=0) K).v_inv;rw[e];exact⟨rfl,hb⟩
def zfP{D:Qk}{w:World}{u:Option Addr}{o:Nat}(h:o<=maxLen):Dat D w (.slice u 0 o) (kp []):=
 .sl u o 2 [] .sh 0 0 (λ_=>undef) b6 (λh=>by cases h) h (λh=>absurd rfl h) (λi e h=>by simp at h) (λj h=>by simp at h) (λi e j p h=>by simp at h)
def Vw{w:World}{base j size n:Nat}{e:TypeId}{v:Value}{o:List Value}(h:w.ownsRow base e size v n o)(hb:j<=base):w.ownsRow j e size v n o:=⟨h.1,h.2.imp id λ⟨g,cap,cur,e1,hg,r⟩=>⟨g,cap,cur,e1,V1 hb hg,r⟩⟩
def QD{B:Q9}{R:List Nat}{n:Nat}(C:Qk)(k:List Fg)(vk:Value)(w:World)(hk:Kn B R n k)(ok:OkX B R)(hn:n<=100000)(rk:Dat C w vk (kp k))(hC:∀b o,C b o->b<w.heap.size)(hG:GL C w):
 Calls xT 98 #[vk] w λe w'=>∃v,e=.returned v/\Keep (λb=>w.heap.size<=b) w w'/\Dat (λb o=>C b o\/(w.heap.size<=b/\b<w'.heap.size)) w' v (kp (zL k)):=by
 obtain⟨aa,ca,fs,rfl,hl,aF,cr⟩:=kX rk hC;have dy:=hk.l;have HK:=qL hk;have bq:=qL aF;have cL:=qL cr;have cN:=qL hG;have de:=aF.1;have dh:=aF.2.1;unfold maxLen at dh;rw[hl]at de;clear rk aF cr hG hk;obtain⟨mb,dA⟩:=xm (w.heap.size-1);go_enter func98,ntmps98
 go_wp2_with fail
 go_loopg [3,4] k.length (λg xv xi wr=>∃j,j<=k.length/\g=k.length-j/\xi=.int .i64 j/\OutG C mb w.heap.size wr xv (zL (k.take j))/\Keep (λb=>w.heap.size<=b) w wr)
 case atStart=>exact⟨0,X4 _,rfl,rfl,OutG.start _ _ _ _,Keep.refl _ w⟩
 case round=>
  obtain⟨j,Q,rfl,rfl,aE,bR⟩:=hrel;obtain⟨o,ho⟩:=xm (zL (k.take j));rw[<-ho]at aE;obtain⟨ad,A,rfl,dz,co⟩:=aE.shape;unfold maxLen at co;have M:=qL aE;have U:=qL bR;have HO:=qL ho;have dD:=bR.size;by_cases aj:j<k.length
  ·have aX:j<fs.length:=a8;obtain⟨bb,O,rfl,dc,bu⟩:=bq.o.2.2 (by intro e;subst e;simp at aX);obtain⟨c0,c1⟩:=bu j aX;obtain⟨d0,d1⟩:=cL.o j aX;replace c0:=(U.o.cell (p:=⟨bb,O+j*2,none⟩) (by show bb<_;omega) (by show ¬w.heap.size<=bb;omega)).trans c0;replace c1:=(U.o.cell (p:=⟨bb,O+j*2+1,none⟩) (by show bb<_;omega) (by show ¬w.heap.size<=bb;omega)).trans c1;have cY:¬(zi k[j].vec=[]\/k[j].items=[])->AddOk o ⟨k[j].items,zi k[j].vec⟩:=λaK=>ho▸XK HK.o ok a8 aj aK;have cs:zL (k.take (j+1))=yo o k[j]:=ho▸Zo aj;have aW:=Y1 aj;have bW:=HK.o.s _ aW;have bN:=HK.o.r _ aW;have X:k[j].items.length<=100000:=(by have:=yv aW;have:=HK.o.m;omega);have bl:=(HK.o.take j).group ok;rw[<-ho]at bl;have dB:o.length<=100000:=(by have:=bl.l;omega);have cA:∀g∈o,g.items.length<=100000:=λg hg=>(by have:=yv hg;have:=bl.m;omega);have cG:∀g∈o,g.vec.length<=1024/\∀e∈g.vec,e.holes.length<=1048576:=λg hg=>(by obtain⟨x,hx,e⟩:=(jU (HK.o.take j).r).2.2 g (ho▸hg);have:=((HK.o.take j).ik x hx).canVec.bv ok.1 ok.2;rw[<-e]at this;exact⟨by have:=this.2.1;omega,λe he=>by have:=this.2.2 e he;omega⟩);have cF:(zi k[j].vec).length<=1024/\∀e∈zi k[j].vec,e.holes.length<=1048576:=(by have:=(HK.o.ik _ aW).canVec.bv ok.1 ok.2;exact⟨by have:=this.2.1;omega,λe he=>by have:=this.2.2 e he;omega⟩)
   have bz:o.Pairwise λf g=>ZH f.vec g.vec:=ho▸(vB (HK.o.take j).r).srt;have cz:∀g∈o,Nrm g.items:=λg hg=>((vB (HK.o.take j).r).ok g (ho▸hg)).2.2.1;generalize k[j]=f at *;generalize fs[j]=q at *;obtain⟨ai,ci,e0⟩:=zK d0;obtain⟨av,cv,e1⟩:=xL d1;rw[e0]at c0 d0;rw[e1]at c1 d1;have aT:∀b o,C b o->b<wr.heap.size:=λb o h=>(by have:=hC b o h;omega);have ch:GL C wr:=cN.o.mono (λ_ _ h=>h) λb o x J hx=>U.o.cell_some hx (by have:=hC b o J;show ¬w.heap.size<=b;omega);have bM:∀(x:Value)(p:PV),Dat C w x p->∀W,Below wr.heap.size wr W->Dat C W x p:=λx p h W P=>h.mono (λ_ _ h=>h) λb o x J hx=>(tl (a:=⟨b,o,none⟩) (P.block b (aT b o J))).trans (U.o.cell_some hx (by have:=hC b o J;show ¬w.heap.size<=b;omega));have bL:∀W,Below wr.heap.size wr W->GL C W:=λW P=>ch.mono (λ_ _ h=>h) λb o x J hx=>(tl (a:=⟨b,o,none⟩) (P.block b (aT b o J))).trans hx;have br:Calls xT 135 #[.slice av f.vec.length cv] wr λe w'=>∃a c,e=.returned (.slice a (zi f.vec).length c)/\Below wr.heap.size wr w'/\Dat (DX C mb w' (.slice ad o.length A)) w' (.slice a (zi f.vec).length c) (vp (zi f.vec)):=by
    refine(jP (D:=C) (Ka f.vec bN.2 bW.2.1 bW.2.2) (bL wr (tr _ _)) aT rfl (λi p hp=>?_)).mono ?_
    .match i,hp with
     |0,hp=>cases hp;exact bM _ _ d1 wr (tr _ _)
     |i+1,hp=>simp at hp
    .rintro e w' ⟨v,rfl,hb,hd⟩;obtain⟨a,c,rfl⟩:=xL hd;have cB:=M.o.owns;refine⟨a,c,rfl,hb,hd.mono (λb o h=>?_) λ_ _ _ _ h=>h⟩;rcases h with h|h
     .exact⟨.inl h,λe=>by have:=(cB b e).1;have:=hC b o h;omega⟩
     .exact⟨.inr ⟨a8,h.2⟩,λe=>by have:=(cB b e).2;omega⟩
   have aM:=qL br;have cc:=qL bL;have bB:=qL bM;have bA:=qL d0;have aP:=qL cs;have cX:=qL cG;have cW:=qL cF;have cO:=qL cz;have cP:=qL cA;have cK:=qL bN.1;have bh:=qL aT;have cQ:=qL M.o.owns;have cU:=qL bz;have cg:∀b o',C b o'->(Value.slice ad o.length A).ownBlock≠some b:=λb _ h e=>(by have:=(M.o.owns b e).1;have:=hC b _ h;omega);have aN:=qL cg;have HC:=qL hC;clear br bL bM d0 d1 cs cG cF cz cA bN bW aT bz cY aW bl ch e0 e1 bu cg hC ho aE bR;have Z:True:=trivial;obtain⟨wo,dp⟩:=xm (wr);subst dp;by_cases h1:0<(zi f.vec).length
   ·have b1:(((zi f.vec).length:Int) == 0)=false:=W9.2 a8;by_cases h2:0<f.items.length
    ·have b2:((f.items.length:Int) == 0)=false:=W9.2 a8;have aK:¬(zi f.vec=[]\/f.items=[]):=λe=>by
      rcases e with e|e
      .rw[e]at h1;simp at h1
      .rw[e]at h2;simp at h2
     have bG:=qL aK;obtain⟨i,hi,q1,q2⟩:=Qo (zi f.vec) cU.o;have cR:=qL q1;have cS:=qL q2;have bD:=qL (Y8 (f:=⟨f.items,zi f.vec⟩) hi q1 q2);clear q1 q2 aK
     go_wp2_with (first
      | (go_at_call 135;have _t:=Z;refine aM.o.mono ?_;rintro e w3 ⟨a3,n3,rfl,N,aJ⟩
         have c3:=(N.cell (p:=⟨bb,O+j*2,none⟩) (by show bb<_;omega)).trans c0;have ab:=qL N;have cJ:=qL aJ;have dm:=N.size;clear N aJ Z)
      |go_in)
     go_loopg [6] i (λg x w2=>∃a,a<=i/\g=i-a/\x=.int .i64 a/\Below w3.heap.size w3 w2)
     case atStart=>exact⟨0,X4 _,rfl,rfl,tr _ _⟩
     case round=>
      obtain⟨a,ha,rfl,rfl,ax⟩:=hrel;have bj:=ab.o.trans (ax.mono dm);have ah:=M.o.keep (w':=wr) bj.size λb hb=>bj.block b hb;have cq:=DX.keep cJ.o ax.size λb hb _=>ax.block b hb;have c4:=(ax.cell (p:=⟨bb,O+j*2,none⟩) (by show bb<_;omega)).trans c3;have cH:=qL ax;have L:=qL bj;have aQ:=qL ah;have bi:=qL cq;have dn:=ax.size;have bw:∀(a:Nat)(aH:a<o.length)(c:Int),zZ (zv o[a].vec) (zv (zi f.vec))=c->∀(ar:Option Addr)(aw:Nat),Dat (DX C mb wr (.slice ad o.length A)) wr (.slice ar o[a].vec.length aw) (vp o[a].vec)->∀W,Below wr.heap.size wr W->Calls xT 136 #[.slice ar o[a].vec.length aw,.slice a3 (zi f.vec).length n3] W λe w'=>e=.returned (.int .i64 c)/\Below W.heap.size W w':=λa aH c J ar aw hd W P=>
       zhr c J (cX.o _ (Y1 aH)) cW.o (DX.keep hd P.size λb hb _=>P.block b hb) (DX.keep bi.o P.size λb hb _=>P.block b hb) aN.o (λb o h=>by have:=bh.o b o h;have:=P.size;omega) (cc.o W (L.o.trans (P.mono L.o.size)))
      have bp:=qL bw;clear ax bj ah cq bw;by_cases cj:a<i
      .have aH:a<o.length:=a8;obtain⟨g,bH,bI,ar,aw,bJ,rfl,bO,ag,x0,x1,da,db⟩:=aQ.o.at aH;obtain⟨c,J⟩:=xt (zZ (zv o[a].vec) (zv (zi f.vec)));have dg:c<0:=(by rw[<-J];exact cR.o a aH cj);have aq:=qL (bp.o a aH c J ar aw db);clear da db J ag x0;generalize o[a]=oa at *
       go_wp2_with (first
        |(go_at_call 136;refine(aq.o _ (tr _ _)).mono ?_;rintro e w5 ⟨rfl,F⟩;have ac:=qL F;clear F)
        |go_in)
       go_roundg (i-(a+1));case measure=>omega
       case rel=>exact⟨a+1,cj,rfl,b6,cH.o.trans (ac.o.mono dn)⟩
      .obtain rfl:a=i:=a8;by_cases X:a<o.length
       .obtain⟨g,bH,bI,ar,aw,bJ,rfl,bO,ag,x0,x1,da,db⟩:=aQ.o.at X;obtain⟨c,J⟩:=xt (zZ (zv o[a].vec) (zv (zi f.vec)));have dg:¬c<0:=(by rw[<-J];exact cS.o a X (Zp _));have aq:=qL (bp.o a X c J ar aw db);have bg:=qL J;have cb:=qL da;have cM:=qL ag;have ce:=qL x0;clear da db J ag x0;have ao:True:=trivial;have aG:True:=trivial;obtain⟨oa,bS⟩:=xm (o[a]);rw[<-bS]at x1 aq bg cb ce;have aR:=qL bS;clear bS;by_cases hz:c=0
        .go_wp2_with (first
          | (go_at_call 136;have _t:=ao;refine(aq.o _ (tr _ _)).mono ?_;rintro e w5 ⟨rfl,F⟩
             have y1:=(F.cell (p:=⟨g,a*2+1,none⟩) (tp wr ⟨g,a*2+1,none⟩ x1)).trans x1;have ac:=qL F;clear F ao)
          |(go_at_call 136;have _t:=aG;refine(aq.o _ ac.o).mono ?_;rintro e w6 ⟨rfl,F⟩;have T:=qL (ac.o.trans (F.mono ac.o.size));clear F aG)
          |go_in)
         have dd:Below w6.heap.size w6 w6.drew:=(tr _ _).drew;have bP:g<wr.heap.size:=tp wr ⟨g,a*2+1,none⟩ x1;have z0:=(T.o.cell (p:=⟨g,a*2,none⟩) bP).trans ce.o;have z1:=(T.o.cell (p:=⟨g,a*2+1,none⟩) bP).trans x1;have z4:=(T.o.cell (p:=⟨bb,O+j*2,none⟩) (by show bb<_;omega)).trans c4;have bn:=T.o.size;have cD:∀W,Below w6.heap.size w6 W->Calls xT 137 #[.slice bH oa.items.length bI,.slice ai f.items.length ci] W λe w'=>∃u,e=.returned u/\Below W.heap.size W w'/\Dat (DX C mb w' (.slice (some ⟨g,0,none⟩) o.length A)) w' u (rg (qy zn oa.items f.items)):=λW P=>(by have bK:=T.o.trans (P.mono bn);have aS:=L.o.trans (bK.mono L.o.size);have cy:oa∈o:=(by rw[aR.o];exact Y1 X);refine zep (cO.o _ cy) cK.o (by have:=cP.o _ cy;omega) a8 (DX.keep cb.o bK.size λb hb _=>bK.block b hb) ((bB.o _ _ bA.o W aS).mono (λb o' h=>⟨.inl h,aN.o b o' h⟩) λ_ _ _ _ h=>h) (λb hb=>by have:=(cQ.o b hb).2;have:=aS.size;omega) aN.o (λb o h=>by have:=bh.o b o h;have:=aS.size;omega) (by have:=aS.size;omega) (cc.o W aS));have cV:=qL cD;clear cD;have bc:xT.follows .mixedOrders=true:=dK;obtain⟨y,ba⟩:=xm (w6);subst ba;refine Kg (Sw:=qe) 16 96 (λw9=>Below y.heap.size y w9/\w9.cell? ⟨g,a*2,none⟩=some (.slice bH oa.items.length bI)/\w9.cell? ⟨bb,O+j*2,none⟩=some (.slice ai f.items.length ci)) dK dK rfl ⟨dd,z0,z4⟩ ?_;simp only[wO,wZ];refine Jz ?_;refine V7 (λu w9=>Dat (DX C mb w9 (.slice (some ⟨g,0,none⟩) o.length A)) w9 u (rg (qy zn oa.items f.items))) (λu wa wb h hk=>DX.keep h hk.size λk ah _=>hk.block k ah id) rfl ?_ ?_
         .intro a2 w2 J hk hr K hK;have HK:=qL hK;clear hK;simp[Rds,zA,lk,Op.operands,Call.operands,RdEq]at hr;go_simp;refine(cV.o _ J.1).mono ?_;rintro e w3 ⟨u,rfl,hb,hd⟩;have bQ:Keep qe _ w3:=Keep.of_below' hb (Zp _);exact HK.o _ _ bQ ⟨J.1.trans (hb.mono J.1.size),bQ.cell_some J.2.1 id,bQ.cell_some J.2.2 id⟩ hd
         simp only[Yf,yb];refine Jz ?_;refine V7 (λu w9=>∃au cu,u=.agg #[.slice au (qy zn oa.items f.items).length cu,.slice a3 (zi f.vec).length n3]/\Dat (DX C mb w9 (.slice (some ⟨g,0,none⟩) o.length A)) w9 (.slice au (qy zn oa.items f.items).length cu) (rg (qy zn oa.items f.items))) (λu wa wb h hk=>by obtain⟨au,cu,e,h⟩:=h;exact⟨au,cu,e,DX.keep h hk.size λk ah _=>hk.block k ah id⟩) rfl ?_ ?_
         .intro a2 w2 J hk hr K hK;have HK:=qL hK;clear hK;simp[Rds,zA,lk,Op.operands,Call.operands,RdEq]at hr;obtain⟨⟨u,⟨e1,e2⟩,G⟩,e3,e4⟩:=hr;obtain⟨au,cu,rfl⟩:=zK G;go_simp;exact HK.o _ _ (Keep.refl _ _) J ⟨au,cu,rfl,G⟩
         simp only[Yf,yb];refine Jz ?_;intro w2 aI ah;simp only[finG,WQ,Yf,yb,wM,Wg,WR];simp only[Act.put,wy,wR,wS];rintro _ _ _ ⟨au,cu,rfl,G⟩;have cI:=qL aI.1;have HU:=qL G;have dC:=aI.1.size;have r0:=aI.2.1;have r1:=(aI.1.cell (p:=⟨g,a*2+1,none⟩) (by show g<_;omega)).trans z1;have ag:w2.heap[g]?=some (.cells bJ 59 (0,0)):=(aI.1.block g a8).trans ((T.o.block g bP).trans cM.o);have s0:w2.frozen? ⟨g,a*2,none⟩=false:=(by simp[World.frozen?,ag]);have s1:w2.frozen? ⟨g,a*2+1,none⟩=false:=(by simp[World.frozen?,ag]);have bt:0<A:=a8;clear G aI ah ag
         go_wp2_with fail
         go_roundg (k.length-(j+1));case measure=>omega
         case rel=>
          have az:=T.o.trans (cI.o.mono T.o.size);have dk:=(aQ.o.keep az.size λb hb=>az.block b hb).set X HU.o bt;have cE:o[a].vec=zi f.vec:=(by have:=bg.o;rw[aR.o,hz]at this;exact YU this);have cx:(o.take a++(⟨qy zn oa.items f.items,o[a].vec⟩:Fg)::o.drop (a+1)).length=o.length:=a9;have dj:(o.take a++(⟨qy zn oa.items f.items,o[a].vec⟩:Fg)::o.drop (a+1))[a]'a8=⟨qy zn oa.items f.items,o[a].vec⟩:=(by rw[Wu (by rw[Wc];exact UG _ _)];simp[WZ (uy X)]);have cZ:(Value.slice (some ⟨g,0,none⟩) o.length A).ownBlock=some g:=by
           cases A with
           |zero=>omega
           |succ c=>rfl
          refine⟨j+1,aj,rfl,b6,?_,?_⟩
          .have I:=dk.setV (i:=a) (a0:=.slice a3 (zi f.vec).length n3) cx a8 (by
            rw[dj];show Dat _ _ _ (vp o[a].vec);rw[cE];refine DX.keep bi.o (by simp;exact az.size) λb hb aK=>?_;rw[tw _ _ _ _ (λe=>aK (by rw[cZ];exact W8 some e.symm))];exact az.block b hb) bt
           rw[aP.o,yo,Vq bG.o,bD.o,uj X,vD (by have:=bg.o;rw[aR.o,hz]at this;exact this)];rw[<-aR.o];rw[cE]at I;exact I
          .exact(((U.o.trans (Keep.of_below' L.o (Zp _))).trans (Keep.of_below' az (Zp _))).setCell (λ_=>bO) _).setCell (λ_=>bO) _
        .have di:¬(c=0):=hz
         go_wp2_with (first
          | (go_at_call 136;have _t:=ao;refine(aq.o _ (tr _ _)).mono ?_;rintro e w5 ⟨rfl,F⟩
             have y1:=(F.cell (p:=⟨g,a*2+1,none⟩) (tp wr ⟨g,a*2+1,none⟩ x1)).trans x1;have ac:=qL F;clear F ao)
          |(go_at_call 136;have _t:=aG;refine(aq.o _ ac.o).mono ?_;rintro e w6 ⟨rfl,F⟩;have T:=qL (ac.o.trans (F.mono ac.o.size));clear F aG)
          |go_in)
         obtain⟨y,ba⟩:=xm (w6);subst ba;have ay:Below wr.heap.size wr y:=T.o;have bn:=ay.size;have cC:=L.o.size;obtain⟨S,Y,aV⟩:=aQ.o.keep ay.size λb hb=>ay.block b hb;have aL:=Y.2.1;have V:=qL Y;have bC:=qL aV;have bc:xT.follows .mixedOrders=true:=dK;have aD:∀u∈S.take (a*2),u.oneCell'=true:=λu G=>Y.2.2 u (WE G);have bU:∀u∈S.drop (a*2),u.oneCell'=true:=λu G=>Y.2.2 u (Wr G);have aA:∀u∈[(.slice ai f.items.length ci:Value),.slice a3 (zi f.vec).length n3],u.oneCell'=true:=yF rfl rfl;have aC:∀g0,(some (⟨g,0,none⟩:Addr))=some ⟨g0,0,none⟩->∀W,Below y.heap.size y W->∀j u,S[j]?=some u->W.cell? ⟨g0,j,none⟩=some u:=λg0 hg W P j u hx=>(by have h9:=tI V.o.1 (g:=g0) (by rw[hg];rfl) j u hx;rw[zh,wn]at h9;exact(P.cell (p:=⟨g0,j,none⟩) (tp y ⟨g0,j,none⟩ h9)).trans h9);have aB:=qL aC;have z4:=(ay.cell (p:=⟨bb,O+j*2,none⟩) (by show bb<_;omega)).trans c4;have I:∀(v:Value)(W:World),Below y.heap.size y W->W.ownsRow y.heap.size 59 2 v (0+a+1+(o.length-a)) ([]++S.take (a*2)++[Value.slice ai f.items.length ci,Value.slice a3 (zi f.vec).length n3]++S.drop (a*2)) ->
          OutG C mb w.heap.size W v (zL (k.take (j+1)))/\Keep (λb=>w.heap.size<=b) w W:=λv W P ho=>by
          have az:=ay.trans (P.mono bn);have hi:zL (k.take (j+1))=o.take a++⟨f.items,zi f.vec⟩::o.drop a:=(by rw[aP.o,yo,Vq bG.o,bD.o];rw[uj X,Vq (by have:=bg.o;rw[aR.o]at this;rw[this];exact di)]);refine⟨?_,((U.o.trans (Keep.of_below' L.o (Zp _))).trans (Keep.of_below' az (Zp _)))⟩;rw[hi];have hp:Dat (DX C mb y (.slice (some ⟨g,0,none⟩) o.length A)) y (.slice ai f.items.length ci) (rg f.items):=(bB.o _ _ bA.o y (L.o.trans (ay.mono cC))).mono (λb o' h=>⟨.inl h,aN.o b o' h⟩) λ_ _ _ _ h=>h;have hq:Dat (DX C mb y (.slice (some ⟨g,0,none⟩) o.length A)) y (.slice a3 (zi f.vec).length n3) (vp (zi f.vec)):=DX.keep bi.o bn λb hb _=>ay.block b hb;have an:W.ownsRow y.heap.size 59 2 v (o.length+1) (S.take (a*2)++[Value.slice ai f.items.length ci,Value.slice a3 (zi f.vec).length n3]++S.drop (a*2)):=(by have e1:0+a+1+(o.length-a)=o.length+1:=a8;rw[e1,Yf]at ho;exact ho);refine OutG.insK (f:=⟨f.items,zi f.vec⟩) (uy X) V.o.2.1 bC.o hp hq (λh=>DX.new h (λb o h=>by have:=bh.o b o h;omega) P λk hk=>(an.lt k hk).1) ⟨Vw an a8,?_,?_⟩
          .simp[aL];omega
          .intro u G;rcases wC.1 G with G|G
           .rcases wC.1 G with G|G
            .exact V.o.2.2 u (WE G)
            .exact yF rfl rfl u G
           .exact V.o.2.2 u (Wr G)
         have aO:=qL I;have du:=qL aD;clear I aC Y aV;have aY:∀W:World,Below y.heap.size y W->(a=0/\(some (⟨g,0,none⟩:Addr))=none)\/∃a',some (⟨g,0,none⟩:Addr)=some a'/\∀j u,(S.take (a*2))[j]?=some u->W.cell? (a'.add j)=some u:=λW hB=>.inr ⟨_,rfl,λj u h=>by
          rw[zh,wn];rw[wt]at h;split at h
          .exact aB.o g rfl W hB j u h
          .cases h⟩
         have aZ:∀W:World,Below y.heap.size y W->(o.length-a=0/\(some (⟨g,a*2,none⟩:Addr))=none)\/∃a',some (⟨g,a*2,none⟩:Addr)=some a'/\∀j u,(S.drop (a*2))[j]?=some u->W.cell? (a'.add j)=some u:=λW hB=>.inr ⟨_,rfl,λj u h=>by
          rw[zh];rw[Wi]at h;exact aB.o g rfl W hB _ u h⟩
         have bE:=qL aY;have bF:=qL aZ;have dw:¬(A=a):=a8;have cn:bb<y.heap.size:=a8;have dx:a<=A:=a8;have dv:a<=o.length:=a8;clear aY aZ;go_region_law_o (first
          | (refine yH (.tmp 77) (.tmp 80) 54 rfl rfl underlying54 y.heap.size (.slice (some ⟨_,0,none⟩) 0 0) 0 [] rfl (zdz a8 (by first|exact tn _ _|exact tn y _|exact yw _ _ _|exact yx _ _ _|exact yw y _ _|exact yx y _ _)) _ a _ (S.take (a*2)) rfl (by simp[aL]<;>omega) (bE.o _ (by first|exact YR _ _|exact XM _ _ _)) aD a8 dE ?_
             intro dq be H E ck;have b1:Below y.heap.size y be:=by first|exact(YR y _).grown E dE (λj Q=>by simp[Value.ownBlock]at Q;omega)|exact(XM y _ _).grown E dE (λj Q=>by simp[Value.ownBlock]at Q;omega)
             have dt:=(b1.cell (p:=⟨bb,O+j*2,none⟩) (by show bb<_;omega)).trans z4)
          | (refine yH (.tmp 81) (.tmp 89) 54 rfl rfl underlying54 y.heap.size _ (0+a) ([]++S.take (a*2)) rfl (by first|exact H|exact H.alloc _) _ 1 _ [Value.slice ai f.items.length ci,Value.slice a3 (zi f.vec).length n3] rfl rfl (.inr ⟨_,rfl,vI (vt := 59) (by first|exact tn be _|exact(E.block _ dE dF).trans (yw y _ _)|exact(E.block _ dE dF).trans (yx y _ _))⟩) aA a8 (by have:=E.size;simp at this⊢<;>omega) ?_
             intro ds bY ak ae cm;have b2:Below y.heap.size y bY:=by first|exact b1.grown ae b1.size (λj Q=>(H.lt j Q).1)|exact(b1.alloc b1.size _).grown ae (by have:=b1.size;simp<;>omega) (λj Q=>(H.lt j Q).1))
          | (refine yH (.tmp 90) (.tmp 93) 54 rfl rfl underlying54 y.heap.size _ (0+a+1) ([]++S.take (a*2)++[Value.slice ai f.items.length ci,Value.slice a3 (zi f.vec).length n3]) rfl ak _ ((o.length-a)) _ (S.drop (a*2)) rfl (by simp[aL]<;>omega) (bF.o _ b2) bU a8 b2.size ?_
             intro bX bZ am af aU;have HR:=qL (aO.o bX bZ (b2.grown af b2.size λj Q=>(ak.lt j Q).1) am);clear am af aU))
         all_goals (go_wp2_with fail;all_goals (go_roundg (k.length-(j+1));(case measure=>omega);(case rel=>exact⟨j+1,aj,rfl,b6,HR.o.1,HR.o.2⟩)))
       .obtain rfl:a=o.length:=a8;have ao:True:=trivial
        go_wp2_with fail
        obtain⟨y,ba⟩:=xm (wr);subst ba;have cC:=L.o.size;obtain⟨S,Y,aV⟩:=aQ.o;have aL:=Y.2.1;have V:=qL Y;have bC:=qL aV;have bc:xT.follows .mixedOrders=true:=dK;have aD:∀u∈S,u.oneCell'=true:=Y.2.2;have bT:∀u∈([]:List Value),u.oneCell'=true:=λu G=>(by cases G);have aA:∀u∈[(.slice ai f.items.length ci:Value),.slice a3 (zi f.vec).length n3],u.oneCell'=true:=yF rfl rfl;have aY:∀W:World,Below y.heap.size y W->(o.length=0/\ad=none)\/∃a',ad=some a'/\∀j u,S[j]?=some u->W.cell? (a'.add j)=some u:=λW P=>by
         rcases V.o.cases with⟨e,e2,rfl⟩|⟨g,cf,bJ,e,_⟩
         .cases ad with
          |none=>exact .inl ⟨e2,rfl⟩
          |some a=>exact .inr ⟨a,rfl,λj u h=>by simp at h⟩
         .obtain⟨rfl,_,rfl⟩:ad=some ⟨g,0,none⟩/\o.length=o.length/\A=cf:=(dJ e);refine .inr ⟨_,rfl,λj u hx=>?_⟩;have h9:=tI V.o.1 (g:=g) rfl j u hx;rw[zh,wn]at h9⊢;exact(P.cell (p:=⟨g,j,none⟩) (tp y ⟨g,j,none⟩ h9)).trans h9
        have aZ:(0=0/\(if A=o.length then ad else Option.map (λx=>x.add (o.length*2)) ad)=none)\/∃a',(if A=o.length then ad else Option.map (λx=>x.add (o.length*2)) ad)=some a':=by
         cases ad<;>simp;split<;>simp
        have bE:=qL aY;have bF:=qL aZ;have I:∀(v:Value)(W:World),Below y.heap.size y W->W.ownsRow y.heap.size 59 2 v (0+o.length+1+0) ([]++S++[Value.slice ai f.items.length ci,Value.slice a3 (zi f.vec).length n3]++[]) ->
         OutG C mb w.heap.size W v (zL (k.take (j+1)))/\Keep (λb=>w.heap.size<=b) w W:=λv W P ho=>by
         have hi:zL (k.take (j+1))=o.take o.length++⟨f.items,zi f.vec⟩::o.drop o.length:=(by rw[aP.o,yo,Vq bG.o,bD.o,UL (th _),Wo,uL]);refine⟨?_,((U.o.trans (Keep.of_below' L.o (Zp _))).trans (Keep.of_below' P (Zp _)))⟩;rw[hi];have hp:Dat (DX C mb y (.slice ad o.length A)) y (.slice ai f.items.length ci) (rg f.items):=(bB.o _ _ bA.o y L.o).mono (λb o' h=>⟨.inl h,aN.o b o' h⟩) λ_ _ _ _ h=>h;have an:W.ownsRow y.heap.size 59 2 v (o.length+1) (S.take (o.length*2)++[Value.slice ai f.items.length ci,Value.slice a3 (zi f.vec).length n3]++S.drop (o.length*2)):=(by have e1:0+o.length+1+0=o.length+1:=a8;rw[e1,Yf]at ho;rw[wm a8,wE a8];exact ho);refine OutG.insK (f:=⟨f.items,zi f.vec⟩) (Zp _) V.o.2.1 bC.o hp bi.o (λh=>DX.new h (λb o h=>by have:=bh.o b o h;omega) P λk hk=>(an.lt k hk).1) ⟨Vw an a8,?_,?_⟩
         .simp[aL];omega
         .intro u G;rcases wC.1 G with G|G
          .rcases wC.1 G with G|G
           .exact V.o.2.2 u (WE G)
           .exact yF rfl rfl u G
          .exact V.o.2.2 u (Wr G)
        have aO:=qL I;have cn:bb<y.heap.size:=a8;have z4:=c4;clear I Y aV aY aZ;go_region_law_o (first
         | (refine yH (.tmp 77) (.tmp 80) 54 rfl rfl underlying54 y.heap.size (.slice (some ⟨_,0,none⟩) 0 0) 0 [] rfl (zdz a8 (by first|exact tn _ _|exact tn y _|exact yw _ _ _|exact yx _ _ _|exact yw y _ _|exact yx y _ _)) _ o.length _ S rfl (by simp[aL]<;>omega) (bE.o _ (by first|exact YR _ _|exact XM _ _ _)) aD a8 dE ?_
            intro dq be H E ck;have b1:Below y.heap.size y be:=by first|exact(YR y _).grown E dE (λj Q=>by simp[Value.ownBlock]at Q;omega)|exact(XM y _ _).grown E dE (λj Q=>by simp[Value.ownBlock]at Q;omega)
            have dt:=(b1.cell (p:=⟨bb,O+j*2,none⟩) (by show bb<_;omega)).trans z4)
         | (refine yH (.tmp 81) (.tmp 89) 54 rfl rfl underlying54 y.heap.size _ (0+o.length) ([]++S) rfl (by first|exact H|exact H.alloc _) _ 1 _ [Value.slice ai f.items.length ci,Value.slice a3 (zi f.vec).length n3] rfl rfl (.inr ⟨_,rfl,vI (vt := 59) (by first|exact tn be _|exact(E.block _ dE dF).trans (yw y _ _)|exact(E.block _ dE dF).trans (yx y _ _))⟩) aA a8 (by have:=E.size;simp at this⊢<;>omega) ?_
            intro ds bY ak ae cm;have b2:Below y.heap.size y bY:=by first|exact b1.grown ae b1.size (λj Q=>(H.lt j Q).1)|exact(b1.alloc b1.size _).grown ae (by have:=b1.size;simp<;>omega) (λj Q=>(H.lt j Q).1))
         | (refine yH (.tmp 90) (.tmp 93) 54 rfl rfl underlying54 y.heap.size _ (0+o.length+1) ([]++S++[Value.slice ai f.items.length ci,Value.slice a3 (zi f.vec).length n3]) rfl ak _ 0 _ ([]) rfl b6 (by rcases bF.o with h|⟨a,h⟩;exact .inl h;exact .inr ⟨a,h,λj u Q=>by simp at Q⟩) bT a8 b2.size ?_
            intro bX bZ am af aU;have HR:=qL (aO.o bX bZ (b2.grown af b2.size λj Q=>(ak.lt j Q).1) am);clear am af aU))
        all_goals (go_wp2_with fail;all_goals (go_roundg (k.length-(j+1));(case measure=>omega);(case rel=>exact⟨j+1,aj,rfl,b6,HR.o.1,HR.o.2⟩)))
    .have h0:f.items=[]:=by cases hf:f.items with|nil=>rfl|cons a l=>rw[hf]at h2;simp at h2
     have b2:((f.items.length:Int) == 0)=true:=(by rw[h0];rfl);have H0:=qL h0;clear h0
     go_wp2_with (first
      | (go_at_call 135;have _t:=Z;refine aM.o.mono ?_;rintro e w3 ⟨a3,n3,rfl,N,aJ⟩
         have c3:=(N.cell (p:=⟨bb,O+j*2,none⟩) (by show bb<_;omega)).trans c0;have ab:=qL N;clear N aJ Z)
      |go_in)
     go_roundg (k.length-(j+1));case measure=>omega
     case rel=>refine⟨j+1,aj,rfl,b6,?_,U.o.trans (Keep.of_below' ab.o (Zp _))⟩;rw[aP.o,yo,vD (.inr H0.o)];exact M.o.keep ab.o.size λb hb=>ab.o.block b hb
   .have h0:zi f.vec=[]:=by cases hf:zi f.vec with|nil=>rfl|cons a l=>rw[hf]at h1;simp at h1
    have b1:(((zi f.vec).length:Int) == 0)=true:=(by rw[h0];rfl);have H0:=qL h0;clear h0
    go_wp2_with (first
     | (go_at_call 135;have _t:=Z;refine aM.o.mono ?_;rintro e w3 ⟨a3,n3,rfl,N,aJ⟩
        have ab:=qL N;clear N aJ Z)
     |go_in)
    go_roundg (k.length-(j+1));case measure=>omega
    case rel=>refine⟨j+1,aj,rfl,b6,?_,U.o.trans (Keep.of_below' ab.o (Zp _))⟩;rw[aP.o,yo,vD (.inl H0.o)];exact M.o.keep ab.o.size λb hb=>ab.o.block b hb
  .obtain rfl:j=k.length:=a8
   go_wp2_with fail
   refine tz (tJ rfl _ _ _) rfl ?_;refine⟨_,rfl,U.o,?_⟩;by_cases h0:1<=w.heap.size
   .have h:=M.o.dat a8;rw[HO.o,Wo]at h;refine(show Dat (DL C mb wr) wr _ (kp (zL k)) from by rw[HO.o,Wo];exact h).mono (λb o h=>h.imp id λh=>⟨a8,h.2⟩) λ_ _ _ _ h=>h
   .have ct:k=[]:=by
     cases k with
     |nil=>rfl
     |cons f l=>obtain⟨bb,O,_,dc,_⟩:=bq.o.2.2 (by intro e;subst e;simp at hl);omega
    have dl:o=[]:=(by rw[HO.o,ct];rfl);subst dl;subst ct;exact zfP c8
def Kc{B:Q9}{R:List Nat}{n:Nat}(k:List Fg)(hk:Kn B R n k)(ok:OkX B R)(A:n<=100000):Cn xT 98 [kp k] (kp (zL k)):=by refine yZ rfl (enters_of func98 dK rfl) λD w F u o j y=>?_;rw[KB j];refine(QD D k _ w hk ok A (y 0 _ rfl) o u).mono ?_;rintro e G ⟨v,rfl,hb,C⟩;exact⟨v,rfl,hb.below (Zp _) λ_ h E=>a8,C⟩
def zdp(s:ByteArray)(w:World):Calls xT 60 #[.string s,.nilIface] w λe j=>(∃u,e=.returned u)/\j=w:=by
 go_enter func60,ntmps60
 go_wp2
 go_end0
 exact⟨⟨_,rfl⟩,rfl⟩
def JI(p:Addr)(w:World):
 CallsD xT 59 #[.pointer (some p)] .returning w λe u y=>e=.returned (.tuple #[])/\u=.returning/\y=w:=by
 refine callsD_of_wpS func59 rfl λj A o=>?_;apply wpS_seq;apply wpS_region;simp[wpOpsS,go_sem,recoverD,o,ntmps59,Exit.thenS];refine wpS_of_wp ?_
 go_wp2;cases j;simp_all[bodyPostS,results,Tryz.results59]
end
section
attribute [-go_sem] z7
def BdK.of{k:List Fg}(h:RightK k)(hz:QW k):BdK k:=by refine⟨λf j=>⟨?_,λe o=>Jg ((h f j).2.1 e o),by have:=(hz.2 f j).1;omega,by have:=(hz.2 f j).2.1;omega⟩,by have:=hz.1;omega⟩;intro s hs;have:=NF.lo_ge (h f j).1 s hs;omega
def KH{C:Qk}{w0 w:World}{k:List Fg}{v:Value}(G:RightK k)(hz:QW k)(K:Dat C w0 v (kp k))(E:∀b o,C b o->b<w0.heap.size)(J:GL C w0)(hb:Below w0.heap.size w0 w):
 Calls xT 40 #[v] w λe I=>e=.returned .nilIface/\Below w.heap.size w I:=by
 have j:=BdK.of G hz;have F:=Vh k j hz;rw[yk ((ZN j).2 G)]at F;have H:∀b o x,C b o->w0.cell? ⟨b,o,none⟩=some x->w.cell? ⟨b,o,none⟩=some x:=λb o x h L=>(tl (a:=⟨b,o,none⟩) (hb.block b (E b o h))).trans L;refine(jP (D:=C) F (J.mono (λ_ _ h=>h) H) (λb o h=>Vm (E b o h) hb.size) rfl (λi p y=>?_)).mono ?_
 .match i,y with
  |0,y=>cases y;exact K.mono (λ_ _ h=>h) H
  |i+1,y=>simp at y
 .rintro e I ⟨u,rfl,A,B⟩;have e:=(Rel.dat (ρ:=λ_=>0) (nb:=0) B).v_inv;rw[e];exact⟨rfl,A⟩
end
end Go.Proofs.YtmpnbdhadjfbhaaGreatDoor
