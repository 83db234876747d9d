import Derived.Shelf.Spec.SlicesInsertGrow
import Derived.Test.YtmpnbdhadjfbhaaGreatDoorB18
set_option maxHeartbeats 16000000
set_option linter.all false
set_option maxRecDepth 100000
namespace Go.Proofs.YtmpnbdhadjfbhaaGreatDoor
def dJ{p:Prop}(h:p:=by simp [Act.eval,Act.put]):p:=h
def tK:=@Go.World.ownsRow.cells
def Tk:=@Go.run_append_own_at
def Tm:=@Go.World.cell?_setCells_out
def Ts:=@Go.World.cell?_alloc_past
def Tt:=@Go.World.frozen?_setCells
def TA:=@Go.IntKind.wrap_i64
def TF:=@Go.wpList_next_ranges
def TK:=@Go.wpList_range_own
def TQ:=@Go.World.ownsMap_made
def TR:=@Go.run_copy_cells
def TS:=@Go.Lib.run_append_grow_zeros
def TZ:=@Go.World.frozen?_alloc_at
def T0:=@Go.Lib.run_overlaps_apart
open Go.RowKit
open Go.Proofs.Tryz
open Go.Proofs.Tryz renaming prog->xt
section
open Go.Maps
attribute [-go_sem] z7
def zkt(j A:Option Addr)(u C o B:Nat)(w:World):(Instr.index 262 (.agg #[.slice j u o,.slice A C B]) (.int .i64 0)).run xt w=.ok (.slice j u o) w:=dL
def zku(A j:Option Addr)(C u B o:Nat)(w:World):(Instr.index 262 (.agg #[.slice A C B,.slice j u o]) (.int .i64 1)).run xt w=.ok (.slice j u o) w:=dL
def zK{D:xT}{w:World}{v:Value}{l:List Iv}(h:Dat D w v (rg l)):∃o j,v=.slice o l.length j:=by have u:Dat D w v (.sl (l.map Q2) .sh):=h;obtain⟨o,j,sz,b,A,f,e1,_⟩:=(Rel.dat (ρ:=λ_=>0) (nb:=0) u).inv_sl;rw[wB]at e1;exact⟨o,j,e1⟩
def yg{w o:World}{b n:Nat}{D:DV}(h:w.ownsMap xt 36 rV b n D)(hb:o.heap[b]?=w.heap[b]?):o.ownsMap xt 36 rV b n D:=by obtain⟨u,j,A,r⟩:=h;exact⟨u,j,hb.trans A,r⟩
def Qf{w:World}{b n:Nat}{D:DV}(h:w.ownsMap xt 36 rV b n D){r:Nat}(C:r<zk){o u:Value}(B:D.atKey (kR r) (.held zP)=.held (.agg #[o,u])):
 (Instr.lookup 229 (.map (some b)) (.int .u64 (r:Nat)) false).run xt w=.ok (.agg #[o,u]) w:=by
 obtain⟨v,E,A,j⟩:=h.lookup vF underlying229 (zeC w) (zd:=.held zP) (zp:=[]) rfl (Zq C);rw[B]at j;unfold rV at j;cases j;exact A
def zeI{D:xT}{w:World}{e:En}{o:Option Addr}{u:Nat}(A:Dat D w (.slice o e.holes.length u) (rg e.holes)):Dat D w (.agg #[.int .u64 e.rep,.int .u64 e.max,.slice o e.holes.length u]) (ep e):=by
 refine .agg _ _ rfl (λi hi=>?_) λi p j=>?_
 .match i,hi with
  |0,_=>rfl
  |1,_=>rfl
  |2,_=>rfl
 .match i,j with
  |0,j=>cases j;exact .v _
  |1,j=>cases j;exact .v _
  |2,j=>cases j;exact A
def zaa{C:xT}{w:World}{J:Nat}{e:En}{F:Option Addr}{G:Nat}(N:zO e)(V:e.holes.length<=10000)(Q:Dat C w (.slice F e.holes.length G) (rg e.holes))(M:∀b o,C b o->b<J)(P:J<=w.heap.size)(O:GL C w):
 Calls xt 180 #[.agg #[.int .u64 e.rep,.int .u64 e.max,.slice F e.holes.length G]] w λH A=>∃B j,H=.returned (.slice B (kn e).length j)/\Below w.heap.size w A/\Dat (λb o=>C b o\/(w.heap.size<=b/\b<A.heap.size)) A (.slice B (kn e).length j) (rg (kn e)):=by
 refine((XZ e N a8).2 C w _ O (λb o h=>vw (M b o h) P) rfl (λi p u=>?_)).mono ?_
 .match i,u with
  |0,u=>cases u;exact zeI Q
  |i+1,u=>simp at u
 .rintro H A ⟨v,K,rfl,hb,X,T,U,I,_⟩;have E:Dat K A v (.sl ((kn e).map Q2) .sh):=I;obtain⟨B,j,sz,b,S,f,e1,_⟩:=(Rel.dat (ρ:=λ_=>0) (nb:=0) E).inv_sl;rw[wB]at e1;subst e1;exact⟨B,j,rfl,hb,I.mono (λb o h=>(T b o h).imp id λL=>⟨L,U b o h⟩) λ_ _ _ _ h=>h⟩
def zW{w:World}{g:Nat}{j:Array Value}{t:TypeId}(h:w.heap[g]?=some (.cells j t (0,0)))(i:Nat)(v:Value)(o:j[i]?=some v):w.cell? ⟨g,i,none⟩=some v/\w.frozen? ⟨g,i,none⟩=false:=by
 constructor
 .simp[World.cell?,h,o]
 .simp[World.frozen?,h]
def zmT:(λr=>zT [] r)=λ_=>[]:=rfl
def Qm{C:xT}{w wr A J:World}{D:DV}{u:List Nat}{B E:Nat->List Iv}{e:En}{V X v:Value}{H I:Obj}(K:∀b o,C b o->b<w.heap.size)(N:PairD C wr w.heap.size D u B E)(S:D.atKey (kR e.rep) (.held zP)=.held (.agg #[V,X]))
 (Q:Below w.heap.size w wr) (ab:w.heap.size<wr.heap.size) (F:Below ((wr.alloc H).alloc I).heap.size ((wr.alloc H).alloc I) A) (Y:Dat (λb o=>C b o\/(((wr.alloc H).alloc I).heap.size<=b/\b<A.heap.size)) A v (rg (kn e))) (j:Nat)
 (L:(A.setCell ⟨wr.heap.size+1,j,none⟩ v).grownBy J (some w.heap.size)) :
 PairD C J w.heap.size (D.put (kR e.rep) (.held (.agg #[v,X]))) (u++[e.rep]) (λr=>if r=e.rep then kn e else B r) E /\
 PairD C J w.heap.size (D.put (kR e.rep) (.held (.agg #[V,v]))) (u++[e.rep]) B (λr=>if r=e.rep then kn e else E r)/\Below w.heap.size w J:=by
 have hs:((wr.alloc H).alloc I).heap.size=wr.heap.size+2:=b6
 have h3:wr.heap.size+2<=A.heap.size:=hs▸F.size;have G:∀k,k<wr.heap.size->(A.setCell ⟨wr.heap.size+1,j,none⟩ v).heap[k]?=wr.heap[k]?:=λk hk=>by rw[tz _ _ _ _ (by show k≠wr.heap.size+1;omega),F.block k a8,tw _ _ _ a9,tw _ _ _ hk]
 have U:PairD C (A.setCell ⟨wr.heap.size+1,j,none⟩ v) w.heap.size D u B E:=N.mono K a9 λk hk _=>G k hk;have P:Dat (DL C w.heap.size (A.setCell ⟨wr.heap.size+1,j,none⟩ v)) (A.setCell ⟨wr.heap.size+1,j,none⟩ v) v (rg (kn e)):=by
  refine Y.mono (λb o h=>h.imp id λh=>⟨a8,?_⟩) λb o x h hx=>?_
  .show b<(A.setCell ⟨wr.heap.size+1,j,none⟩ v).heap.size;simp;omega
  .refine(tp (a:=⟨b,o,none⟩) (tz _ _ _ _ ?_)).trans hx;show b≠wr.heap.size+1;rcases h with h|h
   .have:=K b o h;omega
   .omega
 have T:∀{D:DV}{u:List Nat}{B E:Nat->List Iv},PairD C (A.setCell ⟨wr.heap.size+1,j,none⟩ v) w.heap.size D u B E->PairD C J w.heap.size D u B E:=λh=>h.mono K L.size λk hk M=>L.block k hk (dK M);refine⟨T (U.put0 P S),T (U.put1 P S),?_⟩;have O:Below w.heap.size w (A.setCell ⟨wr.heap.size+1,j,none⟩ v):=by refine tZ ?_ (by show w.heap.size<=wr.heap.size+1;omega) _;refine Below.trans ((Q.alloc Q.size H).alloc a9 I) (F.mono a8)
 exact O.grown L O.size λj Z=>by cases Z;exact Zp _
def J4(C:xT)(a b:List En)(va vb:Value)(w:World)(ha:SmV a)(hb:SmV b)(ra:RdF C w.heap.size w va a)(rb:RdF C w.heap.size w vb b)(V:∀b o,C b o->b<w.heap.size)(hG:GL C w):
 Calls xt 146 #[va,vb] w λe w'=>e=.returned (.map (some w.heap.size))/\Below w.heap.size w w'/\∃D,w'.ownsMap xt 36 rV w.heap.size (a.length+b.length) D/\PairD C w' w.heap.size D (zM a++zM b) (zT a) (zT b):=by
 have aK:=@run_makeMap xt
 have RA:=qL ra;have RB:=qL rb;obtain⟨aa,ca,rfl,aI,aB,_⟩:=ra;obtain⟨ab,cb,rfl,aJ,aC,_⟩:=rb;unfold maxLen at aB aC;have i0:=zkt aa ab a.length b.length ca cb;have i1:=zku aa ab a.length b.length ca cb;go_enter func146,ntmps146
 go_wp2_with fail
 go_loopg [15] 2 (λg x wr=>∃D,((g=2/\x=.int .i64 0/\wr.ownsMap xt 36 rV w.heap.size 0 D/\PairD C wr w.heap.size D [] (λ_=>[]) (λ_=>[])) \/
  (g=1/\x=.int .i64 1/\wr.ownsMap xt 36 rV w.heap.size a.length D/\PairD C wr w.heap.size D (zM a) (zT a) (λ_=>[])) \/
  (g=0/\x=.int .i64 2/\wr.ownsMap xt 36 rV w.heap.size (a.length+b.length) D/\PairD C wr w.heap.size D (zM a++zM b) (zT a) (zT b)))/\Below w.heap.size w wr)
 case atStart=>exact⟨.map [],.inl ⟨rfl,rfl,TQ _ _ _ _,PairD.start _ _ _⟩,(tv _ _).alloc (Zp _) _⟩
 case round=>
  obtain⟨D,ax,hB⟩:=hrel;obtain⟨wo,aG⟩:=xm (wr);subst aG;have S:=qL hB;clear hB;rcases ax with⟨rfl,rfl,F,O⟩|⟨rfl,rfl,F,O⟩|⟨rfl,rfl,F,O⟩
  .have K:=qL F;have M:=qL O;clear F O
   go_wp2_with fail
   go_loopg [21] a.length (λg x wr=>∃k D,k<=a.length/\g=a.length-k/\x=.int .i64 k/\wr.ownsMap xt 36 rV w.heap.size (0+k) D/\PairD C wr w.heap.size D (zM (a.take k)) (zT (a.take k)) (λ_=>[])/\Below w.heap.size w wr/\w.heap.size<wr.heap.size)
   case atStart=>exact⟨0,D,X3 _,rfl,rfl,K.o,M.o,S.o,K.o.lt⟩
   case round=>
    obtain⟨k,D',hk,rfl,rfl,u,J,G,ak⟩:=hrel;clear K M S;by_cases A:k<a.length
    .have K:=qL u;have M:=qL J;have S:=qL G;obtain⟨a',Y,ac,_,_,ae⟩:=RdF.keep V RA.o λj U=>G.block j U;obtain⟨bb,aH,aw,_,aD,N⟩:=ae (by intro e;subst e;simp at A);obtain⟨rfl,_,rfl⟩:aa=a'/\a.length=a.length/\ca=Y:=(dK ac);subst aw;obtain⟨c0,c1,⟨hv,c2,L⟩,T,aA⟩:=N k A;have HE:qA (∃e,e=a[k]):=⟨_,rfl⟩;obtain⟨e,he⟩:=HE.o;have hE:zO e/\e.holes.length<=10000:=(by rw[he];exact⟨ha.1.1 _ (XE A),ha.2.2 _ (XE A)⟩);have hT:=Vj ha.1 A;have hR:zM (a.take (k+1))=zM (a.take k)++[e.rep]:=(by unfold zM;rw[X4 A,he,WK];rfl);rw[<-he]at c0 c1 L T aA hT;have HT:=qL hT;have HR:=qL hR;clear ae N he HE ac u J G hT hR;obtain⟨s0,s1,Z,af,ag⟩:=(M.o.2 e.rep).2;obtain⟨a0,n0,rfl⟩:=zK af;obtain⟨a1,n1,rfl⟩:=zK ag;clear af ag;have HA:=qL Z;have aE:e.holes.length<=maxLen:=(by have:=hE.2;unfold maxLen;omega);obtain⟨ah,ch,rfl⟩:=zK L;have HH:=qL L;clear L;have aF:=Qf (K.o.alloc (.cells #[.int .u64 e.rep,.int .u64 e.max,.slice ah e.holes.length ch] 181)) T HA.o;have aj:=zaa (w:=(wr.alloc (.cells #[.int .u64 e.rep,.int .u64 e.max,.slice ah e.holes.length ch] 181)).alloc (.cells #[.slice a0 (zT (a.take k) e.rep).length n0,.slice a1 ([]:List Iv).length n1] 234)) hE.1 hE.2
      (HH.o.mono (λ_ _ h=>h) λj o x U hx=>(tp (a:=⟨j,o,none⟩) (by have ay:=V j o U;rw[tw _ _ _ a9,tw _ _ _ (by show j<_;omega)])).trans hx) V a9
      (hG.mono (λ_ _ h=>h) λj o x U hx=>(tp (a:=⟨j,o,none⟩) (by have ay:=V j o U;rw[tw _ _ _ a9,tw _ _ _ (by show j<_;omega),S.o.block j (V j o U)])).trans hx)
     have HK:=qL aj;clear Z aj;have HG:=qL hG;clear hG;have P:True:=trivial;have Q:True:=trivial
     go_wp2_with (first
      | (go_at_call 180;have _t:=P;refine HK.o.mono ?_;rintro e' w3 ⟨ad,av,rfl,H,ai⟩
         have an:w3.heap[wr.heap.size]?=some (.cells #[.int .u64 e.rep,.int .u64 e.max,.slice ah e.holes.length ch] 181 (0,0)):=(by rw[H.block _ a9,tw _ _ _ b6];exact tq wr _);have E:w3.heap[wr.heap.size+1]?=some (.cells #[.slice a0 (zT (a.take k) e.rep).length n0,.slice a1 ([]:List Iv).length n1] 234 (0,0)):=by rw[H.block _ b6];have:=tq (wr.alloc (.cells #[.int .u64 e.rep,.int .u64 e.max,.slice ah e.holes.length ch] 181)) (.cells #[.slice a0 (zT (a.take k) e.rep).length n0,.slice a1 ([]:List Iv).length n1] 234);rwa[tx]at this
         have am:w3.heap[w.heap.size]?=wr.heap[w.heap.size]?:=(by rw[H.block _ a9,tw _ _ _ a9,tw _ _ _ a8]);have f1:=(zW an 0 _ rfl).1;have f2:=(zW E 0 _ rfl).1;have f3:=(zW E 0 _ rfl).2;have f4:=(zW E 1 _ rfl).1;have au:=qL (((yg K.o am).setCell (a:=⟨wr.heap.size+1,0,none⟩) (by show w.heap.size≠wr.heap.size+1;omega) (.slice ad (kn e).length av)));have ao:=qL H;have aq:=qL ai;clear an E am H ai P)
      |(at_mapUpdate;have _t:=Q;refine wpList_mapUpdate_own _ rfl _ _ _ 229 rfl 36 234 vF underlying229 rV w.heap.size (0+k) D' rfl au.o (by have:=ha.2.1;unfold maxLen;omega) _ _ (kR e.rep) rfl rfl (Zq T) _ [] rfl ?_;intro w5 I B;clear Q;have X:=qL I;have ar:=qL B;clear I B;dsimp only[Act.put])
      |go_in)
     obtain⟨p1,p2,p3⟩:=Qm V M.o HA.o S.o ak ao.o aq.o 0 ar.o;have h5:w.heap.size<w5.heap.size:=X.o.lt;go_roundg (a.length-(k+1));case measure=>omega
     case rel=>exact⟨k+1,_,A,rfl,b6,X.o,by rw[HR.o,HT.o];exact p1,p3,h5⟩
    .have az:k=a.length:=a8;subst az;rw[Wr]at J;have K:=qL u;have M:=qL J;have S:=qL G;clear u J G
     go_wp2_with fail
     go_roundg 1;case measure=>omega
     case rel=>exact⟨D',.inr (.inl ⟨rfl,rfl,by have:=K.o;simpa using this,M.o⟩),S.o⟩
  .have K:=qL F;have M:=qL O;clear F O
   go_wp2_with fail
   go_loopg [21] b.length (λg x wr=>∃k D,k<=b.length/\g=b.length-k/\x=.int .i64 k/\wr.ownsMap xt 36 rV w.heap.size (a.length+k) D/\PairD C wr w.heap.size D (zM a++zM (b.take k)) (zT a) (zT (b.take k))/\Below w.heap.size w wr/\w.heap.size<wr.heap.size)
   case atStart=>exact⟨0,D,X3 _,rfl,rfl,K.o.mono a8,(by have:=M.o;simpa[zM,zmT]using this),S.o,K.o.lt⟩
   case round=>
    obtain⟨k,D',hk,rfl,rfl,u,J,G,ak⟩:=hrel;clear K M S;by_cases A:k<b.length
    .have K:=qL u;have M:=qL J;have S:=qL G;obtain⟨a',Y,ac,_,_,ae⟩:=RdF.keep V RB.o λj U=>G.block j U;obtain⟨bb,aH,aw,_,aD,N⟩:=ae (by intro e;subst e;simp at A);obtain⟨rfl,_,rfl⟩:ab=a'/\b.length=b.length/\cb=Y:=(dK ac);subst aw;obtain⟨c0,c1,⟨hv,c2,L⟩,T,aA⟩:=N k A;have HE:qA (∃e,e=b[k]):=⟨_,rfl⟩;obtain⟨e,he⟩:=HE.o;have hE:zO e/\e.holes.length<=10000:=(by rw[he];exact⟨hb.1.1 _ (XE A),hb.2.2 _ (XE A)⟩);have hT:=Vj hb.1 A;have hR:zM (b.take (k+1))=zM (b.take k)++[e.rep]:=(by unfold zM;rw[X4 A,he,WK];rfl);rw[<-he]at c0 c1 L T aA hT;have HT:=qL hT;have HR:=qL hR;clear ae N he HE ac u J G hT hR;obtain⟨s0,s1,Z,af,ag⟩:=(M.o.2 e.rep).2;obtain⟨a0,n0,rfl⟩:=zK af;obtain⟨a1,n1,rfl⟩:=zK ag;clear af ag;have HA:=qL Z;have aE:e.holes.length<=maxLen:=(by have:=hE.2;unfold maxLen;omega);obtain⟨ah,ch,rfl⟩:=zK L;have HH:=qL L;clear L;have aF:=Qf (K.o.alloc (.cells #[.int .u64 e.rep,.int .u64 e.max,.slice ah e.holes.length ch] 181)) T HA.o;have aj:=zaa (w:=(wr.alloc (.cells #[.int .u64 e.rep,.int .u64 e.max,.slice ah e.holes.length ch] 181)).alloc (.cells #[.slice a0 (zT a e.rep).length n0,.slice a1 (zT (b.take k) e.rep).length n1] 234)) hE.1 hE.2
      (HH.o.mono (λ_ _ h=>h) λj o x U hx=>(tp (a:=⟨j,o,none⟩) (by have ay:=V j o U;rw[tw _ _ _ a9,tw _ _ _ (by show j<_;omega)])).trans hx) V a9
      (hG.mono (λ_ _ h=>h) λj o x U hx=>(tp (a:=⟨j,o,none⟩) (by have ay:=V j o U;rw[tw _ _ _ a9,tw _ _ _ (by show j<_;omega),S.o.block j (V j o U)])).trans hx)
     have HK:=qL aj;clear Z aj;have HG:=qL hG;clear hG;have P:True:=trivial;have Q:True:=trivial
     go_wp2_with (first
      | (go_at_call 180;have _t:=P;refine HK.o.mono ?_;rintro e' w3 ⟨ad,av,rfl,H,ai⟩
         have an:w3.heap[wr.heap.size]?=some (.cells #[.int .u64 e.rep,.int .u64 e.max,.slice ah e.holes.length ch] 181 (0,0)):=(by rw[H.block _ a9,tw _ _ _ b6];exact tq wr _);have E:w3.heap[wr.heap.size+1]?=some (.cells #[.slice a0 (zT a e.rep).length n0,.slice a1 (zT (b.take k) e.rep).length n1] 234 (0,0)):=by rw[H.block _ b6];have:=tq (wr.alloc (.cells #[.int .u64 e.rep,.int .u64 e.max,.slice ah e.holes.length ch] 181)) (.cells #[.slice a0 (zT a e.rep).length n0,.slice a1 (zT (b.take k) e.rep).length n1] 234);rwa[tx]at this
         have am:w3.heap[w.heap.size]?=wr.heap[w.heap.size]?:=(by rw[H.block _ a9,tw _ _ _ a9,tw _ _ _ a8]);have f1:=(zW an 0 _ rfl).1;have f2:=(zW E 0 _ rfl).1;have f3:=(zW E 1 _ rfl).2;have f4:=(zW E 1 _ rfl).1;have au:=qL (((yg K.o am).setCell (a:=⟨wr.heap.size+1,1,none⟩) (by show w.heap.size≠wr.heap.size+1;omega) (.slice ad (kn e).length av)));have ao:=qL H;have aq:=qL ai;clear an E am H ai P)
      |(at_mapUpdate;have _t:=Q;refine wpList_mapUpdate_own _ rfl _ _ _ 229 rfl 36 234 vF underlying229 rV w.heap.size (a.length+k) D' rfl au.o (by have:=hb.2.1;have:=ha.2.1;unfold maxLen;omega) _ _ (kR e.rep) rfl rfl (Zq T) _ [] rfl ?_;intro w5 I B;clear Q;have X:=qL I;have ar:=qL B;clear I B;dsimp only[Act.put])
      |go_in)
     obtain⟨p1,p2,p3⟩:=Qm V M.o HA.o S.o ak ao.o aq.o 1 ar.o;have h5:w.heap.size<w5.heap.size:=X.o.lt;go_roundg (b.length-(k+1));case measure=>omega
     case rel=>exact⟨k+1,_,A,rfl,b6,X.o,by rw[HR.o,HT.o];rw[<-wU];exact p2,p3,h5⟩
    .have az:k=b.length:=a8;subst az;rw[Wr]at J;have K:=qL u;have M:=qL J;have S:=qL G;clear u J G
     go_wp2_with fail
     go_roundg 0;case measure=>omega
     case rel=>exact⟨D',.inr (.inr ⟨rfl,rfl,K.o,M.o⟩),S.o⟩
  .have K:=qL F;have M:=qL O;clear F O
   go_wp2_with fail
   refine tA (tL rfl _ _ _) rfl ?_;exact⟨rfl,S.o,D,K.o,M.o⟩
end
section
open Go.Lib
attribute [-go_sem] z7
def uV(r:Nat):Value:=.int .u64 (r:Nat)
def OwnU(base:Nat)(w:World)(v:Value)(l:List Nat):Prop:=w.ownsRow base 36 1 v l.length (l.map uV)
def kF{α:Type}:List α->Nat->List α->List α
 |xs,_,[]=>xs
 |xs,o,v::r=>kF (xs.set o v) (o+1) r
def jt{α:Type}:∀(u j:List α)(o:Nat),o+u.length<=j.length->kF j o u=j.take o++u++j.drop (o+u.length)
 |[],j,o,h=>by simp[kF]
 |v::r,j,o,h=>by simp only[ww]at h;rw[kF,jt r (j.set o v) (o+1) (by rw[Ui];omega)];rw[List.drop_set_of_lt a8,X4 (by rw[Ui];omega),List.take_set_of_le (Zp _),List.getElem_set_self];simp only[wU,ww,yb,Y1];rw[show o+1+r.length=o+(r.length+1) by omega]
def jW(w:World)(r:Option Nat):w.grownBy w r:=⟨rfl,rfl,rfl,Zp _,λ_ _ _=>rfl⟩
def yn{a b c:World}{r:Option Nat}(h:a.grownBy b r)(k:b.grownBy c r):a.grownBy c r:=
 ⟨k.os.trans h.os,k.tape.trans h.tape,k.output.trans h.output,V0 h.size k.size,λi hi hs=>(k.block i (vw hi h.size) hs).trans (h.block i hi hs)⟩
def z9{base:Nat}{e:TypeId}{size g n j:Nat}:∀(A:List Value)(o:Nat)(w:World)(u:List Value),w.ownsRow base e size (.slice (some ⟨g,0,none⟩) n j) n u ->
 (w.setCells g o A).ownsRow base e size (.slice (some ⟨g,0,none⟩) n j) n (kF u o A)/\w.grownBy (w.setCells g o A) (some g)
 |[],_,w,u,h=>⟨h,jW _ _⟩
 |v::r,o,w,u,h=>by obtain⟨B,C⟩:=h.stored o v;obtain⟨E,F⟩:=z9 r (o+1) _ _ B;exact⟨E,yn C F⟩
def Vf:(xt.info? 36).map (λi=>(i.zero,i.size,i.bytes))=some (some (.int .u64 0),1,8):=dL
def QN{l:List Nat}:∀v∈l.map uV,v.oneCell'=true:=λv j=>by obtain⟨r,_,rfl⟩:=wD.1 j;rfl
def OwnU.cases{base:Nat}{w:World}{v:Value}{l:List Nat}(h:OwnU base w v l):(v=.slice none 0 0/\l=[]) \/
 ∃g j o,v=.slice (some ⟨g,0,none⟩) l.length j/\base<=g/\g<w.heap.size/\w.heap[g]?=some (.cells o 36 (0,0))/\l.length<=j/\j<=maxLen/\o.size=j/\o.toList.take l.length=l.map uV:=by
 rcases h.2 with⟨u,A⟩|⟨g,j,o,u,A,B,C,E,G,F⟩
 .exact .inl ⟨u,wY.1 A⟩
 .exact .inr ⟨g,j,o,u,A,(Yf.1 B).1,B,C,E,a8,by rwa[Uk]at F⟩
def zc5{j:List Value}{u x:Value}{i:Nat}(hi:i<=j.length):kF (kF (j++[u]) (i+1) (j.drop i)) i [x]=j.take i++x::j.drop i:=by
 rw[jt (j.drop i) _ _ a9];have w:i+1+(j.drop i).length=j.length+1:=a9
 rw[w,show j.length+1=(j++[u]).length by simp,uO,Wc];rw[jt [x] _ _ a9];rw[Ws a9,List.take_take,W8 a8,Ws hi];have o:((j++[u]).take (i+1)).length=i+1:=a9
 rw[show i+[x].length=i+1 from rfl,UB,o,UP,Wh,show ((j++[u]).take (i+1)).drop (i+1)=[] from U2 a8];simp
def kG{α:Type}(a b c v:List α)(h:b.length=v.length){i:Nat}(hi:i=a.length):kF (a++b++c) i v=a++v++c:=by subst hi;rw[jt _ _ _ a9,wU a b c,List.take_left' rfl,<-List.drop_drop,List.drop_left' rfl,<-h,List.drop_left' rfl]
def zc4{j:List Value}{u x:Value}{i:Nat}(hi:i<=j.length):kF (kF (j.take i++List.replicate (j.length+1-i) u) i [x]) (i+1) (j.drop i)=j.take i++x::j.drop i:=by
 have o:(j.take i).length=i:=a9
 have e1:=kG (j.take i) [u] (List.replicate (j.length-i) u) [x] rfl o.symm;have e2:=kG (j.take i++[x]) (List.replicate (j.length-i) u) [] (j.drop i) b6 (i:=i+1) a9;rw[show j.length+1-i=(j.length-i)+1 by omega,List.replicate_succ,show j.take i++u::List.replicate (j.length-i) u=j.take i++[u]++List.replicate (j.length-i) u by simp,e1];rw[Wc,Wc]at e2;rw[e2];simp
def vH{w:World}{B:Nat}{vt:TypeId}{x:Nat}(A:w.heap[B]?=some (.cells #[uV x] vt (0,0))):∀j u,[uV x][j]?=some u->w.cell? ((⟨B,0,none⟩:Addr).add j)=some u:=λj u o=>by
 match j,o with
 |0,o=>cases o;simp[World.cell?,Addr.add,A]
 |j+1,o=>simp at o
def zfr(base K:Nat)(vt:TypeId)(w:World)(v:Value)(l:List Nat)(x:Nat)(j:OwnU base w v l)(O:w.heap[K]?=some (.cells #[uV x] vt (0,0)))(hl:l.length<=1099511627776)(A:base<=w.heap.size):
 Calls xt 182 #[v,.int .i64 (l.length:Nat),.slice (some ⟨K,0,none⟩) 1 1] w λe B=>∃o,e=.returned o/\OwnU base B o (l++[x])/\w.grownBy B v.ownBlock/\(o.ownBlock=v.ownBlock\/o.ownBlock=some w.heap.size):=by
 obtain⟨U,G,H,I,J⟩:=tR Vf;have S:=vH O;have C:∀u∈[uV x],u.oneCell'=true:=λu T=>by simp at T;subst T;rfl
 have P:=qL j;have fin:∀o B,B.ownsRow base 36 1 o (l.length+1) (l.map uV++[uV x])->OwnU base B o (l++[x]):=λo B h=>by unfold OwnU;simpa using h
 rcases j.cases with⟨rfl,rfl⟩|⟨g,L,V,rfl,X,Y,Z,ab,M,ac,N⟩
 .clear j;go_enter func182,ntmps182
  go_wp2_with (at_builtin;refine Ti _ rfl _ _ 128 rfl base 36 U (.int .u64 0) 1 8 underlying128 G H I J rfl b8 _ _ _ rfl P.o ⟨K,0,none⟩ 1 1 [uV x] rfl rfl S C (by simp[maxLen]) b6 A ?_;intro o B ho F _ E)
  go_ret;exact⟨o,rfl,fin o B ho,F,E⟩
 .unfold maxLen at M;have Q:L<=9223372036854775807:=a8;clear j N;go_enter func182,ntmps182
  go_wp2_with (at_builtin;refine Ti _ rfl _ _ 128 rfl base 36 U (.int .u64 0) 1 8 underlying128 G H I J rfl b8 _ _ _ rfl P.o ⟨K,0,none⟩ 1 1 [uV x] rfl rfl S C c8 a8 A ?_;intro o B ho F _ E)
  all_goals (go_ret;exact⟨o,rfl,fin o B ho,F,E⟩)
def zgG(n:Nat):(Builtin.zeroCells (Value.int .u64 0).cells n).toList=List.replicate n (.int .u64 0):=by
 apply List.ext_getElem
 .simp[Builtin.zeroCells,Value.cells]
 .intro i j o;simp[Builtin.zeroCells,Value.cells,Nat.mod_one]
def KX{base:Nat}{w:World}{v:Value}{l:List Nat}{x i:Nat}(hi:i<=l.length)(h:w.ownsRow base 36 1 v (l.length+1) ((l.map uV).take i++uV x::(l.map uV).drop i)):OwnU base w v (l.take i++x::l.drop i):=by unfold OwnU;rw[show (l.take i++x::l.drop i).length=l.length+1 by simp;omega,WK,WA,List.map_take,List.map_drop];exact h
def zfs(base S:Nat)(vt:TypeId)(w:World)(g o:Nat)(l:List Nat)(x i:Nat)(hi:i<l.length)(E:OwnU base w (.slice (some ⟨g,0,none⟩) l.length o) l)(J:o<l.length+1)(af:w.heap[S]?=some (.cells #[uV x] vt (0,0)))(hl:l.length<=1099511627776)(ab:base<=w.heap.size):
 Calls xt 182 #[.slice (some ⟨g,0,none⟩) l.length o,.int .i64 (i:Nat),.slice (some ⟨S,0,none⟩) 1 1] w λe w'=>∃v',e=.returned v'/\OwnU base w' v' (l.take i++x::l.drop i)/\w.grownBy w' none/\v'.ownBlock=some w.heap.size:=by
 obtain⟨i0,am,aC,hzs,au⟩:=tR Vf;obtain⟨n,hn⟩:=xm (l.length);obtain⟨A,I⟩:=xm (l.map uV);have ac:A.length=n:=by rw[I,hn,wB]
 have Q:∀u∈A,u.oneCell'=true:=by rw[I];exact QN
 have aq:=vH af;have aB:S<w.heap.size:=(Yf.1 af).1;have az:g<w.heap.size:=(E.lt g rfl).2;have aL:n<=o:=by
  rcases E.cases with⟨h,_⟩|⟨g',aE,_,h,_,_,_,h4,_⟩
  .cases h
  .cases h;omega
 have hg:∀j v,A[j]?=some v->w.cell? ⟨g,j,none⟩=some v:=λj v F=>by have:=tK E (g:=g) rfl j v (by rw[<-I];exact F);rw[zh,wn]at this;exact this
 rw[<-hn]at hi E J hl⊢;have ao:(n:Int)+1-(i:Int)=((n+1-i:Nat):Int):=a8
 have ad:i+(n+1-i)=n+1:=a8
 have P:(Builtin.firstCells i0.size i (.slice (some ⟨g,0,none⟩) i o)).run xt w.drew=.ok (A.take i).toArray w.drew:=by
  rw[hzs];refine TO w.drew 1 i ⟨g,0,none⟩ i o (A.take i) (by rw[We];omega) (λj v F=>?_);rw[wt]at F;split at F
  .have:=hg j v F;rw[zh,wn];exact this
  .cases F
 have ae:∀L,(Builtin.append_ #[128,3] L #[.slice (some ⟨g,0,none⟩) i o,.int .i64 ((n:Int)+1-(i:Int))]).run xt w =
  .ok (.slice (some ⟨w.heap.size,0,none⟩) (n+1) (grownCap w (n+1) o 36)) (w.drew.alloc (.cells ((A.take i).toArray++Builtin.zeroCells (Value.int .u64 0).cells (n+1-i)++Builtin.zeroCells (Value.int .u64 0).cells (grownCap w (n+1) o 36 - (n+1))) 36)):=λL=>by
  have h:=TS w 128 3 L 36 i0 _ .i64 .i64 underlying128 underlying3 am aC (some ⟨g,0,none⟩) i o (A.take i) P (n+1-i) a8 a8 a8 a8 (by rw[au];omega) (by rw[au,ad];exact T4 J a8);rw[ad]at h;rw[ao];exact h
 obtain⟨G,hG⟩:∃G,G=grownCap w (n+1) o 36 := ⟨_,rfl⟩;have ax:n+1<=G:=by rw[hG];exact TL w _ _ _
 have ag:G<=maxLen:=by rw[hG];exact TD w _ _ _ c8
 obtain⟨R,hR⟩:∃R:Array Value,R=(A.take i).toArray++Builtin.zeroCells (Value.int .u64 0).cells (n+1-i)++Builtin.zeroCells (Value.int .u64 0).cells (G-(n+1)):=⟨_,rfl⟩;rw[<-hG,<-hR]at ae;have aA:(A.take i).length=i:=by rw[We];omega
 have Y:R.toList=(A.take i++List.replicate (A.length+1-i) (.int .u64 0))++List.replicate (G-(n+1)) (.int .u64 0):=by rw[hR];simp only[WY,zgG,ac]
 have ay:R.size=G:=by have:R.toList.length=G:=(by rw[Y];simp;omega);simpa using this
 obtain⟨B,C⟩:=xm (w.drew.alloc (.cells R 36));have o1:B.ownsRow base 36 1 (.slice (some ⟨w.heap.size,0,none⟩) (n+1) G) (n+1) (A.take i++List.replicate (A.length+1-i) (.int .u64 0)):=by
  refine⟨a9,.inr ⟨w.heap.size,G,R,rfl,ab,?_,ax,ag,a8,?_⟩⟩
  .rw[C];exact tq w.drew _
  .rw[Y,Ws a9,wm a9]
 obtain⟨o2,V⟩:=z9 [uV x] i _ _ o1;obtain⟨o3,g3⟩:=z9 (A.drop i) (i+1) ((B.setCells w.heap.size i [uV x]).drew) _ o2;rw[zc4 a8]at o3;have U:w.grownBy B none:=by rw[C];exact⟨rfl,rfl,rfl,b6,λk hk _=>tw w.drew _ _ hk⟩
 have N:w.grownBy (((B.setCells w.heap.size i [uV x]).drew).setCells w.heap.size (i+1) (A.drop i)) none:=by refine⟨g3.os.trans (V.os.trans U.os),g3.tape.trans (V.tape.trans U.tape),g3.output.trans (V.output.trans U.output),V0 U.size (V0 V.size g3.size),λk hk _=>?_⟩;have an:k<B.heap.size:=vw hk U.size;have M:some k≠some w.heap.size:=λe=>(by cases e;omega);rw[g3.block k (vw an V.size) M];show (B.setCells w.heap.size i [uV x]).heap[k]?=_;rw[V.block k an M,U.block k hk b6]
 have OF:=qL (KX (l:=l) (x:=x) (i:=i) a8 (by rw[<-hn,<-I];exact o3));have GA:=qL N;clear o3 N o1 o2;rw[<-C]at ae;have hN:∀j,j<n+1->(B.cell? ⟨w.heap.size,j,none⟩).isSome=true:=λj F=>by rw[C,tY (w:=w.drew) R _ w.heap.size j rfl,Wg a8];rfl
 have X:∀j,B.frozen? ⟨w.heap.size,j,none⟩=false:=λj=>by rw[C];exact TZ (w:=w.drew) R _ w.heap.size j rfl
 have ah:∀j v,w.cell? ⟨g,j,none⟩=some v->B.cell? ⟨g,j,none⟩=some v:=λj v h=>by rw[C,Ts (w:=w.drew) _ g j az];exact h
 have ai:∀j v,w.cell? ⟨S,j,none⟩=some v->B.cell? ⟨S,j,none⟩=some v:=λj v h=>by rw[C,Ts (w:=w.drew) _ S j aB];exact h
 have ar:(xt.info? 36).map (·.size)=some 1:=by rw[am];simp[hzs]
 have K:∀u∈[uV x],u.oneCell'=true:=λu hu=>by simp at hu;subst hu;rfl
 have aj:∀(W:World),(∀y,W.cell? y=B.cell? y)->(∀y,W.frozen? y=B.frozen? y)->∀L T,(Builtin.copy_ #[128,128] L #[.slice (some ⟨w.heap.size,i,none⟩) (n+1-i) T,.slice (some ⟨S,0,none⟩) 1 1]).run xt W=.ok (goInt [uV x].length) (W.setCells w.heap.size i [uV x]):=λW H Z L T=>
  TR W _ _ L 36 w.heap.size i (n+1-i) T ⟨S,0,none⟩ 1 1 [uV x] underlying128 ar (by simp only[uT,Um];split<;>omega)
   (λj v F=>by have:=aq j v F;rw[zh]at this;rw[H,zh];exact ai _ v this)
   (λj F=>by rw[H];simp at F;exact hN _ a8) (λj F=>by rw[Z];exact X _) K
 have ak:(A.drop i).length=n-i:=by rw[ud,ac]
 have M:g≠w.heap.size:=a8
 have O:∀(W:World),(∀y,W.cell? y=(B.setCells w.heap.size i [uV x]).cell? y)->(∀y,W.frozen? y=(B.setCells w.heap.size i [uV x]).frozen? y)->∀L T sc,(Builtin.copy_ #[128,128] L #[.slice (some ⟨w.heap.size,i+1,none⟩) (n-i) T,.slice (some ⟨g,i,none⟩) (n-i) sc]).run xt W=.ok (goInt (A.drop i).length) (W.setCells w.heap.size (i+1) (A.drop i)):=λW H Z L T sc=>
  TR W _ _ L 36 w.heap.size (i+1) (n-i) T ⟨g,i,none⟩ (n-i) sc (A.drop i) underlying128 ar (by rw[ak];simp only[Um];split<;>omega)
   (λj v F=>by
     rw[H,zh,Tm _ _ _ _ _ (λh _=>absurd h M)];exact ah _ v (hg (i+j) v (by rwa[Wn]at F)))
   (λj F=>by rw[H];exact isSome_setCells _ _ _ _ (λt ht=>hN _ (by simp at ht;omega)) _ (hN _ a8))
   (λj F=>by rw[Z,Tt];exact X _) (λv hv=>Q v (Wv hv))
 have av:∀y,((B.setCells w.heap.size i [uV x]).drew).cell? y=(B.setCells w.heap.size i [uV x]).cell? y:=λy=>rfl;have aw:∀y,((B.setCells w.heap.size i [uV x]).drew).frozen? y=(B.setCells w.heap.size i [uV x]).frozen? y:=λy=>rfl;have aO:¬((i:Int)=(n:Int)):=a8
 have aP:(o:Int)<(n:Int)+1:=a8
 unfold maxLen at ag;have aG:¬(G=i):=a8
 have aF:¬(G=i+1):=a8
 have aJ:¬(o=i):=a8
 have aN:IntKind.i64.wrap ((i:Int)+1)=(i:Int)+1:=by rw[TA];omega
 have aH:(0:Int)<=(i:Int)+1:=a8
 have aK:i<=n:=a8
 have aM:((i:Int)+1).toNat=i+1:=a8
 have aI:(i:Int)<=(n:Int):=a8
 clear hn ao ad P hG Y hR ay E hg hN X ah ai Q K ac I aq af aA ak U V g3 C;go_enter func182,ntmps182
 go_wp2_with (first
  |(at_builtin;refine Lib.wpList_append_run _ rfl _ _ _ _ rfl _ _ rfl rfl _ _ (ae _) ?_)
  |(at_builtin;refine wpList_copy_runI _ rfl _ _ 128 128 rfl _ _ rfl rfl (aj _ (λ_=>rfl) (λ_=>rfl) _ _) ?_)
  |(at_builtin;refine wpList_copy_runI _ rfl _ _ 128 128 rfl _ _ rfl rfl (O _ (λ_=>rfl) (λ_=>rfl) _ _ _) ?_))
 have aD:xt.follows .mixedOrders=true:=dL
 go_region_law_o (refine step_copy_runI rfl _ _ 128 128 rfl (.slice (some ⟨w.heap.size,i+1,none⟩) (n-i) (G-(i+1))) (.slice (some ⟨g,i,none⟩) (n-i) (o-i)) dJ dJ (O _ av aw _ (G-(i+1)) (o-i)) ?_)
 go_wp2;refine tA (tL rfl _ _ _) rfl ?_;exact⟨_,rfl,OF.o,GA.o,rfl⟩
def za8(base N:Nat)(vt:TypeId)(w:World)(g o:Nat)(l:List Nat)(x i:Nat)(hi:i<l.length)(E:OwnU base w (.slice (some ⟨g,0,none⟩) l.length o) l)(L:l.length+1<=o)(M:w.heap[N]?=some (.cells #[uV x] vt (0,0)))(ai:N≠g)(hl:l.length<=1099511627776):
 Calls xt 182 #[.slice (some ⟨g,0,none⟩) l.length o,.int .i64 (i:Nat),.slice (some ⟨N,0,none⟩) 1 1] w λe w'=>∃v',e=.returned v'/\OwnU base w' v' (l.take i++x::l.drop i)/\w.grownBy w' (some g)/\v'.ownBlock=some g:=by
 obtain⟨i0,av,aG,hzs,aI⟩:=tR Vf;obtain⟨n,hn⟩:=xm (l.length);obtain⟨F,H⟩:=xm (l.map uV);have ad:F.length=n:=by rw[H,hn,wB]
 have Q:∀u∈F,u.oneCell'=true:=by rw[H];exact QN
 have aj:=vH M;obtain⟨A,ar,J,P,U,Y⟩:∃A,base<=g/\w.heap[g]?=some (.cells A 36 (0,0))/\o<=maxLen/\A.size=o/\A.toList.take l.length=l.map uV:=by
  rcases E.cases with⟨h,_⟩|⟨g',ay,A,h,h1,_,h3,_,h5,h6,h7⟩
  .cases h
  .cases h;exact⟨A,h1,h3,h5,h6,h7⟩
 rw[<-hn,<-H]at Y;rw[<-hn]at hi E L hl⊢;have ah:n<A.toList.length:=a9
 obtain⟨u,hu⟩:=xm (A.toList[n]);have o0:w.drew.ownsRow base 36 1 (.slice (some ⟨g,0,none⟩) (n+1) o) (n+1) (F++[u]):=by refine⟨a9,.inr ⟨g,o,A,rfl,ar,J,L,P,a8,?_⟩⟩;rw[Uk,X4 ah,Y,hu]
 obtain⟨o1,g1⟩:=z9 (F.drop i) (i+1) _ _ o0;obtain⟨o2,g2⟩:=z9 [uV x] i _ _ o1;rw[zc5 a8]at o2;have g0:w.grownBy w.drew (some g):=⟨rfl,rfl,rfl,Zp _,λ_ _ _=>rfl⟩;have OF:=qL (KX (l:=l) (x:=x) (i:=i) a8 (by rw[<-hn,<-H];exact o2));have GA:=qL (yn g0 (yn g1 g2));have B:∀j,j<o->(w.cell? ⟨g,j,none⟩).isSome=true:=λj C=>by simp[World.cell?,J,U,C]
 have X:∀j,w.frozen? ⟨g,j,none⟩=false:=λj=>by simp[World.frozen?,J]
 have hg:∀j v,F[j]?=some v->w.cell? ⟨g,j,none⟩=some v:=λj v C=>by have:=tK E (g:=g) rfl j v (by rw[<-H];exact C);rw[zh,wn]at this;exact this
 have ak:w.shape? N=some (vt,1):=by simp[World.shape?,M]
 have am:w.shape? g=some (36,o):=by simp[World.shape?,J,U]
 have af:w.frozen? ⟨N,0,none⟩=false:=by simp[World.frozen?,M]
 have ag:w.frozen? ⟨N,1,none⟩=false:=by simp[World.frozen?,M]
 have an:(xt.info? 36).map (·.size)=some 1:=by rw[av];simp[hzs]
 have K:∀u∈[uV x],u.oneCell'=true:=λu hu=>by simp at hu;subst hu;rfl
 have aw:∀lb cb,(callFunc 201 #[.slice (some ⟨N,0,none⟩) 1 1,.slice (some ⟨g,i+1,none⟩) lb cb]).run xt w=.ok (.value (.bool false)) w:=λlb cb=>by
  rw[tM func201 dL dL dL (e:=Extern.SlicesOverlaps.overlaps #[128,128] #[4]) dL,
   T0 w 128 4 36 underlying128 1 (λw=>dL) ⟨N,0,none⟩ ⟨g,i+1,none⟩ 1 1 lb cb ai vt 36 1 o ak am a8 af ag]
  rfl
 have V:(F.drop i).length=n-i:=by rw[ud,ad]
 have I:∀O T sc,(Builtin.copy_ #[128,128] O #[.slice (some ⟨g,i+1,none⟩) (n-i) T,.slice (some ⟨g,i,none⟩) (n+1-i) sc]).run xt w.drew=.ok (goInt (F.drop i).length) (w.drew.setCells g (i+1) (F.drop i)):=λO T sc=>
  TR w.drew _ _ O 36 g (i+1) (n-i) T ⟨g,i,none⟩ (n+1-i) sc (F.drop i) underlying128 an (by rw[V];simp only[Um];split<;>omega)
   (λj v C=>by rw[zh];exact hg (i+j) v (by rwa[Wn]at C))
   (λj C=>B _ a8) (λj C=>X _) (λv hv=>Q v (Wv hv))
 obtain⟨W1,G⟩:=xm (w.drew.setCells g (i+1) (F.drop i));have S:∀k,k<o->(W1.cell? ⟨g,k,none⟩).isSome=true:=λk hk=>by rw[G];exact isSome_setCells g (F.drop i) (i+1) w.drew (λj C=>B _ (by rw[V]at C;omega)) k (B k hk)
 have ae:∀(W:World),(∀y,W.cell? y=W1.cell? y)->(∀y,W.frozen? y=W1.frozen? y)->∀O T,(Builtin.copy_ #[128,128] O #[.slice (some ⟨g,i,none⟩) (n+1-i) T,.slice (some ⟨N,0,none⟩) 1 1]).run xt W=.ok (goInt [uV x].length) (W.setCells g i [uV x]):=λW ac aq O T=>
  TR W _ _ O 36 g i (n+1-i) T ⟨N,0,none⟩ 1 1 [uV x] underlying128 an (by simp only[uT,Um];split<;>omega)
   (λj v C=>by
     rw[ac,G,Tm g _ _ _ _ (λh _=>absurd h (by rw[zh];exact ai))];exact aj j v C)
   (λj C=>by rw[ac];simp at C;exact S _ a8) (λj C=>by rw[aq,G,Tt];exact X _) K
 rw[<-G]at I;have ao:=qL G;have aH:¬((i:Int)=(n:Int)):=a8
 unfold maxLen at P;have aF:IntKind.i64.wrap ((i:Int)+1)=(i:Int)+1:=by rw[TA];omega
 have az:(0:Int)<=(i:Int)+1:=a8
 have aD:i<=n:=a8
 have aE:((i:Int)+1).toNat=i+1:=a8
 have aA:¬(o=i+1):=a8
 have aB:(i:Int)<=(n:Int)+1:=a8
 have aC:¬(o=i):=a8
 clear hn o0 o1 o2 g0 g1 g2 E B X hg ak am af ag S G V Q K aj ad H M J U Y ah hu;go_enter func182,ntmps182
 have au:=λO=>I O (o-(i+1)) (o-i);have ax:xt.follows .mixedOrders=true:=dL
 go_wp2_with (simp only[aw])
 go_region_law_o (refine step_copy_runI rfl _ _ 128 128 rfl _ _ dJ dJ (I _ _ _) ?_)
 go_wp2_with (first|(at_builtin;refine wpList_copy_runI _ rfl _ _ 128 128 rfl _ _ rfl rfl (ae _ (λ_=>rfl) (λ_=>rfl) _ _) ?_))
 have ab:=OF.o;have Z:=GA.o;rw[<-ao.o]at ab Z;refine tA (tL rfl _ _ _) rfl ?_;exact⟨_,rfl,ab,Z,rfl⟩
def Y9(base F:Nat)(G:TypeId)(w:World)(v:Value)(l:List Nat)(x i:Nat)(hi:i<=l.length)(j:OwnU base w v l)(E:w.heap[F]?=some (.cells #[uV x] G (0,0)))(L:v.ownBlock≠some F)(K:l.length<=1099511627776)(o:base<=w.heap.size):
 Calls xt 182 #[v,.int .i64 (i:Nat),.slice (some ⟨F,0,none⟩) 1 1] w λe H=>∃u,e=.returned u/\OwnU base H u (l.take i++x::l.drop i)/\w.grownBy H v.ownBlock/\(u.ownBlock=v.ownBlock\/u.ownBlock=some w.heap.size):=by
 by_cases P:i=l.length
 .subst P;rw[Wr,uO];exact zfr base F G w v l x j E K o
 .have C:i<l.length:=a8;rcases j.cases with⟨_,N⟩|⟨g,A,M,rfl,_⟩
  .subst N;simp at C
  .by_cases O:A<l.length+1
   .refine(zfs base F G w g A l x i C j O E K o).mono ?_;rintro e H ⟨u,rfl,I,B,J⟩;exact⟨u,rfl,I,⟨B.os,B.tape,B.output,B.size,λk hk _=>B.block k hk b6⟩,.inr J⟩
   .refine(za8 base F G w g A l x i C j a8 E (λe=>L (by rw[e];rfl)) K).mono ?_;rintro e H ⟨u,rfl,I,B,J⟩;exact⟨u,rfl,I,B,.inl J⟩
end
def DX(C:xT)(j:Nat)(w:World)(v:Value):Nat->Nat->Prop:=λb o=>DL C j w b o/\v.ownBlock≠some b
def OutE(C:xT)(mb base:Nat)(w:World)(v:Value)(j:List En):Prop:=
 ∃o,w.ownsRow base 181 3 v j.length o/\∀i (h:i<j.length),o[i*3]?=some (uV j[i].rep)/\o[i*3+1]?=some (uV j[i].max)/\∃u,o[i*3+2]?=some u/\Dat (DX C mb w v) w u (rg j[i].holes)
def OutE.start(C:xT)(j base:Nat)(w:World):OutE C j base w (.slice none 0 0) []:=⟨[],tV _ _ _ _,λi h=>absurd h b6⟩
def OutE.owns{C:xT}{u base:Nat}{w:World}{v:Value}{j:List En}(h:OutE C u base w v j):∀k,v.ownBlock=some k->base<=k/\k<w.heap.size:=by obtain⟨A,o,_⟩:=h;exact o.lt
def DX.keep{C:xT}{u:Nat}{w w':World}{v:Value}{x:Value}{p:PV}(h:Dat (DX C u w v) w x p)(hs:w.heap.size<=w'.heap.size)(hb:∀k,k<w.heap.size->v.ownBlock≠some k->w'.heap[k]?=w.heap[k]?):Dat (DX C u w' v) w' x p:=
 h.mono (λb o h=>⟨h.1.imp id λh=>⟨h.1,vw h.2 hs⟩,h.2⟩) λb o x h j=>(tp (a:=⟨b,o,none⟩) (hb b (tr w ⟨b,o,none⟩ j) h.2)).trans j
def OutE.keep{C:xT}{E base:Nat}{w w':World}{v:Value}{u:List En}(h:OutE C E base w v u)(hs:w.heap.size<=w'.heap.size)(hb:∀k,k<w.heap.size->w'.heap[k]?=w.heap[k]?):OutE C E base w' v u:=by
 obtain⟨xs,A,F⟩:=h;refine⟨xs,⟨A.1,?_⟩,λi hi=>?_⟩
 .rcases A.2 with h|⟨g,j,o,e,G,B,r⟩
  .exact .inl h
  .exact .inr ⟨g,j,o,e,G,(hb g (Yf.1 B).1).trans B,r⟩
 .obtain⟨a,b,H,c,d⟩:=F i hi;exact⟨a,b,H,c,DX.keep d hs λk hk _=>hb k hk⟩
def OutE.push{C:xT}{mb base:Nat}{w H:World}{v G:Value}{j:List En}{e:En}{B:List Value}{A:Value}(L:∀i (h:i<j.length),B[i*3]?=some (uV j[i].rep)/\B[i*3+1]?=some (uV j[i].max)/\∃A,B[i*3+2]?=some A/\Dat (DX C mb w v) w A (rg j[i].holes))
 (K:w.ownsRow base 181 3 v j.length B) (N:Dat (DX C mb w v) w A (rg e.holes)) (M:∀b o,C b o->b<mb) (O:mb<w.heap.size) (ho:H.ownsRow base 181 3 G (j.length+1) (B++[uV e.rep,uV e.max,A])) (I:w.grownBy H v.ownBlock) (u:G.ownBlock=v.ownBlock\/G.ownBlock=some w.heap.size) :
 OutE C mb base H G (j++[e]):=by
 have F:∀{x:Value}{p:PV},Dat (DX C mb w v) w x p->Dat (DX C mb H G) H x p:=λ{x p} h=>
  h.mono (λb o h=>⟨h.1.imp id λh=>⟨h.1,vw h.2 I.size⟩,λe=>by
   rcases u with u|u
   .exact h.2 (u.symm.trans e)
   .rw[u]at e;cases e;rcases h.1 with h|h
    .have:=M _ _ h;omega
    .omega⟩) λb o x h J=>(tp (a:=⟨b,o,none⟩) (I.block b (tr w ⟨b,o,none⟩ J) λe=>h.2 e.symm)).trans J
 have P:=K.1;refine⟨B++[uV e.rep,uV e.max,A],dK ho,λi hi=>?_⟩;simp only[wi,ww,Wt,wn]at hi;by_cases E:i<j.length
 .obtain⟨a,b,A,c,d⟩:=L i E;rw[ur E];refine⟨?_,?_,A,?_,F d⟩
  .rw[V2 a8];exact a
  .rw[V2 a8];exact b
  .rw[V2 a8];exact c
 .obtain rfl:i=j.length:=a8;rw[Wy (Zp _)];simp only[UP,uy];refine⟨?_,?_,A,?_,F N⟩
  .rw[V1 a8,show j.length*3-B.length=0 by omega];rfl
  .rw[V1 a8,show j.length*3+1-B.length=1 by omega];rfl
  .rw[V1 a8,show j.length*3+2-B.length=2 by omega];rfl
def Ki{D:xT}{w:World}{v:Value}{l:List Iv}(h:Dat D w v (rg l)):v.oneCell'=true:=by obtain⟨o,j,rfl⟩:=zK h;rfl
def OutE.dat{C:xT}{I base:Nat}{w:World}{v:Value}{o:List En}(h:OutE C I base w v o)(hb:I<base):Dat (DL C I w) w v (vp o):=by
 obtain⟨L,M,P⟩:=h;rcases M.2 with⟨rfl,O⟩|⟨g,J,N,rfl,Y,S,X,V,hs,ht⟩
 .obtain rfl:=wY.1 O;exact .sl none 0 3 [] .sh 0 0 (λ_=>undef) b6 (λh=>by cases h) b8 (λh=>absurd rfl h) (λi e h=>by simp at h) (λj h=>by simp at h) (λi e j p h=>by simp at h)
 .have K:=(Yf.1 S).1;have G:∀j x,L[j]?=some x->w.cell? ⟨g,j,none⟩=some x:=λj x E=>(by have:=M.cells (g:=g) rfl j x E;rw[zh,wn]at this;exact this);have u:∀i (h:i<o.length) j p,(ec o[i])[j]?=some p->∃x,L[i*3+j]?=some x/\Dat (DL C I w) w x p/\x.oneCell'=true:=λi h j p B=>by
   obtain⟨a,b,Z,c,d⟩:=P i h;match j,B with
   |0,B=>cases B;exact⟨_,a,.v _,rfl⟩
   |1,B=>cases B;exact⟨_,b,.v _,rfl⟩
   |2,B=>cases B;exact⟨_,c,d.mono (λ_ _ h=>h.1) λ_ _ _ _ h=>h,Ki d⟩
   |j+3,B=>simp[ec]at B
  have F:∀(i:Nat)(e:List PV),(o.map ec)[i]?=some e->∃h:i<o.length,e=ec o[i]:=λi e H=>(by rw[wh]at H;obtain⟨x,E,rfl⟩:=ZZ.1 H;obtain⟨h,rfl⟩:=Zw.1 E;exact⟨h,rfl⟩);have A:(o.map ec).length=o.length:=wB _;unfold vp;rw[<-A];refine .sl (some ⟨g,0,none⟩) J 3 (o.map ec) .sh g 0 (λj=>(L[j]?).getD undef) (by rw[A];exact X) (λh=>by cases h) V (λ_=>rfl) (λi e H=>?_) (λj U=>?_) (λi e j p H B=>?_)
  .obtain⟨h,rfl⟩:=F i e H;rfl
  .rw[A]at U;have hi:j/3<o.length:=a8;have Q:j%3<(ec o[j/3]).length:=U3 _ b8;obtain⟨x,E,_,ho⟩:=u (j/3) hi (j%3) ((ec o[j/3])[j%3]) (Zv Q);rw[show j/3*3+j%3=j by omega]at E;rw[wn];refine⟨.inr ⟨a8,K⟩,?_,?_⟩
   .rw[E];exact G j x E
   .rw[E];exact ho
  .obtain⟨h,rfl⟩:=F i e H;obtain⟨x,E,T,_⟩:=u i h j p B;rw[E];exact T
def us(l:List Nat):PV:=.sl (l.map yN) .sh
attribute [go_sem] us
def zik(x:Nat):Cn xt 200 [.v (.int .u64 x)] (.v (.bool false)):=by refine zt func200 1 ?_;exact pd
def zie(x y:Nat):Cn xt 189 [.v (.int .u64 x),.v (.int .u64 y)] (.v (.bool (decide (x<y)))):=by refine zt func189 2 ?_;refine pw ?_;exact .d (zdn x)
def zaI(l:List Nat)(x i:Nat)(hi:i<=l.length)(E:∀j,(h:j<l.length)->j<i->l[j]<x)(F:∀j,(h:j<l.length)->i<=j->x<=l[j])(G:l.length<=1152921504606846976):
 Cn xt 181 [us l,.v (.int .u64 x)] (.tup [.v (.int .i64 i),.v (.bool (decide (l[i]?=some x)))]):=by
 refine zt func181 2 ?_;refine pw ?_;refine pLoop.go (λp:Nat×Nat=>p.1<=i/\i<=p.2/\p.2<=l.length) (λp=>[(7,.v (.int .i64 (p.1:Nat))),(8,.v (.int .i64 (p.2:Nat)))]) (λ_=>[]) (λp=>p.2-p.1) (0,l.length) [7,8] ?_ ?_ ?_
 .exact⟨X3 _,hi,Zp _⟩
 .exact pd
 .rintro⟨p,q⟩ ⟨A,B,C⟩;simp only at A B C;refine pw ?_;refine .i ?_ ?_<;>intro h<;>first|refine pw ?_|exact pd
  .have w:(p+q)/2<l.length:=a8;refine pw ?_;refine .c (zie l[(p+q)/2] x) ?_;refine .i ?_ ?_<;>intro u<;>first|refine pw ?_|exact pd
   .refine⟨((p+q)/2+1,q),⟨?_,B,C⟩,by simp only;omega,rfl,rfl⟩;simp only;refine Uc λo=>?_;have:=F _ w o;omega
   .refine⟨(p,(p+q)/2),⟨A,?_,by simp only;omega⟩,by simp only;omega,rfl,rfl⟩;simp only;refine uo λo=>?_;have:=E _ w o;omega
  .obtain rfl:p=i:=a8;obtain rfl:q=p:=a8;refine .i ?_ ?_<;>intro u<;>first|refine pw ?_|exact pd
   .rw[show l[q]?=some l[q] from Zv u];refine .i ?_ ?_<;>intro o<;>first|refine pw ?_|exact pd
    .simp[o]
    .refine .c (zik l[q]) ?_;simp[o]
   .rw[show l[q]?=none from WZ a8];simp
section
open Go.Maps
attribute [-go_sem] z7
def XY{D:xT}{w:World}{x a b:Value}(h:Dat D w x (.tup [.v a,.v b])):x=.tuple #[a,b]:=by
 cases h with
 | tup vs cs hs h=>
   obtain⟨l⟩:=vs;match l,hs with
   |[p,q],_=>have j:=(h 0 _ rfl).v_inv;have e1:=(h 1 _ rfl).v_inv;simp at j e1;rw[j,e1]
def zhv{D:xT}{w:World}{x:Value}{e:En}(h:Dat D w x (ep e)):∃j o,x=.agg #[.int .u64 e.rep,.int .u64 e.max,.slice j e.holes.length o]/\Dat D w (.slice j e.holes.length o) (rg e.holes):=by
 have A:Dat D w x (.agg [.v (.int .u64 e.rep),.v (.int .u64 e.max),rg e.holes]):=h;cases A with
 | agg vs cs hs _ h=>
   obtain⟨l⟩:=vs;match l,hs with
   |[p,q,r],_=>have u:=(h 0 _ rfl).v_inv;have e1:=(h 1 _ rfl).v_inv;have e2:=h 2 _ rfl;simp at u e1 e2;obtain⟨j,o,rfl⟩:=zK e2;rw[u,e1];exact⟨j,o,rfl,e2⟩
def Yk{D:xT}{w:World}{x:Value}{e:En}{b:Bool}(h:Dat D w x (.tup [ep e,.v (.bool b)])):∃j o,x=.tuple #[.agg #[.int .u64 e.rep,.int .u64 e.max,.slice j e.holes.length o],.bool b]/\Dat D w (.slice j e.holes.length o) (rg e.holes):=by
 cases h with
 | tup vs cs hs h=>
   obtain⟨l⟩:=vs;match l,hs with
   |[p,q],_=>have u:=h 0 _ rfl;have e1:=(h 1 _ rfl).v_inv;simp at u e1;obtain⟨j,o,rfl,A⟩:=zhv u;rw[e1];exact⟨j,o,rfl,A⟩
def jP{f:FuncId}{B:List PV}{r:PV}(h:Cn xt f B r){D:xT}{w:World}{vs:Array Value}(F:GL D w)(E:∀b o,D b o->b<w.heap.size)(A:vs.size=B.length)(u:∀(i:Nat) p,B[i]?=some p->Dat D w (vs.getD i undef) p):
 Calls xt f vs w λe j=>∃v,e=.returned v/\Below w.heap.size w j/\Dat (λb o=>D b o\/(w.heap.size<=b/\b<j.heap.size)) j v r:=by
 refine(h.2 D w vs F E A u).mono ?_;rintro e j ⟨v,I,rfl,hb,_,G,H,u,_⟩;exact⟨v,rfl,hb,u.mono (λb o h=>(G b o h).imp id λC=>⟨C,H b o h⟩) λ_ _ _ _ h=>h⟩
def OwnU.keep{base:Nat}{w w':World}{v:Value}{l:List Nat}(h:OwnU base w v l)(hb:∀g,v.ownBlock=some g->w'.heap[g]?=w.heap[g]?):OwnU base w' v l:=by
 refine⟨h.1,?_⟩;rcases h.2 with h|⟨g,j,o,e,A,u,r⟩
 .exact .inl h
 .exact .inr ⟨g,j,o,e,A,(hb g (by rw[e];rfl)).trans u,r⟩
def OwnU.lt{base:Nat}{w:World}{v:Value}{l:List Nat}(h:OwnU base w v l):∀g,v.ownBlock=some g->base<=g/\g<w.heap.size:=λg j=>World.ownsRow.lt h g j
def KC(x:Nat):∀{l:List Nat},YN l->∃i,i<=l.length/\(∀j,(h:j<l.length)->j<i->l[j]<x)/\(∀j,(h:j<l.length)->i<=j->x<=l[j])
 |[],_=>⟨0,Zp _,λj h=>absurd h b6,λj h=>absurd h b6⟩
 | y::l,h=>by
   have ⟨h1,h2⟩:=wj.1 h;by_cases B:y<x
   .obtain⟨i,hi,C,E⟩:=KC x h2;refine⟨i+1,a9,λj o A=>?_,λj o w=>?_⟩
    .match j with
     |0=>exact B
     |j+1=>exact C j (dK o) a8
    .match j with
     |0=>omega
     |j+1=>exact E j (dK o) a8
   .refine⟨0,X3 _,λj _ o=>a8,λj o _=>?_⟩;match j with
    |0=>simp;omega
    |j+1=>have u:j<l.length:=(dK o);have:=h1 _ (XE u);simp only[WQ];omega
def zmj{C:xT}{base:Nat}{w:World}{v:Value}{l:List Nat}(x i:Nat)(A:OwnU base w v l)(G:∀b o,C b o->b<w.heap.size)(H:GL C w)(hi:i<=l.length)(B:∀j,(h:j<l.length)->j<i->l[j]<x)(E:∀j,(h:j<l.length)->i<=j->x<=l[j])(J:l.length<=1152921504606846976):
 Calls xt 181 #[v,.int .u64 (x:Nat)] w λe F=>(∃b,e=.returned (.tuple #[.int .i64 (i:Nat),.bool b]))/\Below w.heap.size w F:=by
 refine(jP (zaI l x i hi B E J) (D:=λb o=>C b o\/(base<=b/\b<w.heap.size)) (H.mono (λ_ _ h=>.inl h) λ_ _ _ _ h=>h) (λb o h=>h.elim (G b o) uf) rfl (λj p u=>?_)).mono ?_
 .match j,u with
  |0,u=>cases u;exact vL A λb o B E=>.inr ⟨B,E⟩
  |1,u=>cases u;exact .v _
  |j+2,u=>simp at u
 .rintro e F ⟨v,rfl,hb,I⟩;rw[XY I];exact⟨⟨_,rfl⟩,hb⟩
def zaD{C:xT}{base rb:Nat}{w:World}{v:Value}{xs:List Nat}(x:Nat)(A:OwnU base w v (srt xs))(B:Boxed w rb 232 v)(ad:rb<base)(H:x∉xs)(hl:(srt xs).length<=4194304)(X:base<=w.heap.size)(hC:∀b o,C b o->b<w.heap.size)(hG:GL C w):
 Calls xt 147 #[.pointer (some ⟨rb,0,none⟩),.int .u64 (x:Nat)] w λe w'=>(∃u,e=.returned u)/\∃v',Boxed w' rb 232 v'/\OwnU base w' v' (srt (xs++[x]))/\Keep (λk=>k=rb\/base<=k) w w':=by
 obtain⟨i,hi,Z,q2⟩:=KC x (yi xs);have T:=qL (zmj x i A hC hG hi Z q2 a8);have G:srt (xs++[x])=(srt xs).take i++x::(srt xs).drop i:=kJ hi (λk hk Y=>by
  have h1:=q2 k hk Y;have h2:(srt xs)[k]≠x:=λe=>H (qr.1 (e▸XE hk));omega) (by
  rcases Wl i with h0|h0
  .exact .inl h0
  .exact .inr ⟨a8,Z _ a8 a8⟩)
 have HI:=qL G;have M:=qL A;have HX:=qL B;have c0:=B.cell;have O:=B.lt;clear G A B hC hG Z q2 H;have I:True:=trivial;have J:True:=trivial;go_enter func147,ntmps147
 go_wp2_with (first
  | (go_at_call 181;have _t:=I;refine T.o.mono ?_;rintro e Q ⟨⟨bb,rfl⟩,K⟩
     have c1:Q.cell? ⟨rb,0,none⟩=some v:=(tp (a:=⟨rb,0,none⟩) (K.block rb O)).trans c0;have j:=qL K;clear K I)
  | (go_at_call 182;have _t:=J
     refine(Y9 base Q.heap.size _ _ v (srt xs) x i hi (M.o.keep λg P=>by rw[tw _ _ _ (vw (M.o.lt g P).2 j.o.size),j.o.block g (M.o.lt g P).2]) (tq Q _) (λe=>by have h8:=(M.o.lt _ e).2;have h9:=j.o.size;omega) a8 (by have:=j.o.size;simp;omega)).mono ?_;rintro e w3 ⟨v',rfl,E,L,_⟩;have F:Boxed w3 rb 232 v:=((show Boxed Q rb _ v from (j.o.block rb O).trans HX.o).alloc _).kept L (λe=>by have:=(M.o.lt rb e.symm).1;omega);have c3:=F.cell;have f3:=F.frozen;have V:=qL F;have U:=qL ((((Keep.of_below' (S:=λk=>k=rb\/base<=k) j.o (Zp _)).alloc _).grown L λk hk _=>.inr (M.o.lt k hk).1));rw[<-HI.o]at E;obtain⟨g3,ab,ac,rfl,_⟩:=(show _\/_ from E.cases).resolve_left (λh=>by have:=h.2;rw[HI.o]at this;simp at this);have N:=qL E;clear F L E J)
  |go_in)
 go_end0
 exact⟨⟨_,rfl⟩,_,V.o.set _,N.o.keep λg P=>tz _ _ _ _ (by have:=(N.o.lt g P).1;show g≠rb;omega),U.o.setCell (λ_=>.inl rfl) _⟩
def jL{n:Nat}{A B C:World}{S:Nat->Prop}(h:Below n A B)(hk:Keep S B C)(hs:∀k,k<n->¬S k)(o:n<=A.heap.size):Below n A C:=
 ⟨hk.os.trans h.os,hk.tape.trans h.tape,hk.output.trans h.output,V0 h.size hk.size,λk j=>(hk.block k (by have:=h.size;omega) (hs k j)).trans (h.block k j)⟩
def yD{w A:World}{b r n YV:Nat}{D:DV}{left:Lit->Bool}(h:w.ranges xt 36 rV b r n D left YV)(hb:A.heap[b]?=w.heap[b]?)(I:A.heap[r]?=w.heap[r]?):A.ranges xt 36 rV b r n D left YV:=by obtain⟨C,j,o,u,B,E,F,hs,H,G,rest⟩:=h;exact⟨C,j,o,u,B,hb.trans E,F,hs,H,I.trans G,rest⟩
def zhV:∀(j:Value)(kl:Lit),keyOf xt 36 j=some kl->∃x:{r:Nat // r<zk},j=Value.int .u64 (x.1:Nat):=λj kl h=>by obtain⟨x,rfl,_,o⟩:=Maps.keyOf_int_inv underlying36 h;simp[Lit.wf,IntKind.min,IntKind.max,IntKind.signed,IntKind.bits]at o;refine⟨⟨x.toNat,by rw[zw];omega⟩,?_⟩;rw[th a8]
def QM{left:Lit->Bool}{r x:Nat}:(left (kR r) && !(kR r).sameKey (kR x))=false↔left (kR r)=false\/r=x:=by
 have h:(kR r).sameKey (kR x)=decide (r=x):=by simp[kR,Lit.sameKey];omega
 rw[h];cases left (kR r)<;>simp
def zeK:∀(r j:List Nat),YN r->(∀y∈r,y∈j)->r.length<=j.length:=by
 intro r;induction r with
 |nil=>intro j _ _;exact X3 _
 | cons x r ih=>
   intro j h u;have o:=wj.1 h;have:=ih (j.erase x) o.2 λy A=>by have B:=o.1 y A;exact(W6 a8).2 (u y (by simp[A]))
   have w:x∈j:=u x b6;rw[WI w]at this;have:=uj w;simp;omega
def zkr(j A:Option Addr)(u C o B:Nat)(w:World):(Instr.index 234 (.agg #[.slice j u o,.slice A C B]) (.int .i64 0)).run xt w=.ok (.slice j u o) w:=dL
def zks(A j:Option Addr)(C u B o:Nat)(w:World):(Instr.index 234 (.agg #[.slice A C B,.slice j u o]) (.int .i64 1)).run xt w=.ok (.slice j u o) w:=dL
def zkk:(xt.info? 181).map (λi=>(i.zero,i.size,i.bytes))=some (some (.agg #[.int .u64 0,.int .u64 0,.slice none 0 0]),3,40):=dL
def OwnU.shape{base:Nat}{w:World}{v:Value}{l:List Nat}(h:OwnU base w v l):∃u o,v=.slice u l.length o/\l.length<=o/\o<=maxLen/\(l≠[]->∃g,u=some ⟨g,0,none⟩/\g<w.heap.size/\∀j (A:j<l.length),w.cell? ⟨g,j,none⟩=some (.int .u64 (l[j]:Nat))):=by
 rcases h.cases with⟨rfl,rfl⟩|⟨g,o,B,rfl,G,C,H,E,F,I,J⟩
 .exact⟨none,0,rfl,Zp _,X3 _,λh=>absurd rfl h⟩
 .refine⟨_,o,rfl,E,F,λ_=>⟨g,rfl,C,λj A=>?_⟩⟩;have:=tK h (g:=g) rfl j (uV l[j]) (by rw[wh,Zv A];rfl);rw[zh,wn]at this;exact this
def zac{f:Q9}{a b:List En}{r:Nat}{e:En}{ok:Bool}(h:Qi r (qy f (zT a r) (zT b r))=(e,ok)):vE f a b r=if ok=true then some e else none:=by unfold vE Xd;rw[h]
def KZ{f:Q9}{a b:List En}{L:List Nat}{k:Nat}(hk:k<L.length):(L.take (k+1)).filterMap (vE f a b)=(L.take k).filterMap (vE f a b)++(vE f a b L[k]).toList:=by
 rw[X4 hk,U8,uL,UU];cases vE f a b L[k]<;>rfl
def Ja{P:Program}{f:FuncId}{t:Tmp}{xs:List Operand}{c:Call}{o:Oper}{a:Act}{w:World}{K:Act->World->Prop}{Q:Exit->Act->World->Prop}(ho:o.op=.call c)(B:c.callee=.value (.tmp t))(F:a.eval (.tmp t)=.func (.func f) #[] #[])(A:c.args.toList=xs)
 (C:∀j w,(callFunc f j).run P w=.ok (.enter f j) w)
 (h:Calls P f (xs.map a.eval).toArray w λe u=>match e with|.returned v=>K (a.put o.dst v) u|.panicked chain=>Q (.panic chain) a u|.outgrown=>LetsOut Q):o.wp P a w K Q:=by
 have E:(execOp a.eval o).run P w=.ok (.enter f (xs.map a.eval).toArray) w:=by have e:c.args.map a.eval=(xs.map a.eval).toArray:=WG.1 (by rw[WX,A]);simp only[execOp,ho,resolve,B,e,F,Deferred.ofValue,tH,tJ,tB,invoke];rw[show (#[]++(xs.map a.eval).toArray++#[]:Array Value)=(xs.map a.eval).toArray from by simp];exact C _ _
 unfold Oper.wp;rw[E,Tc];exact h.mono (λe G h=>by cases e<;>exact h)
def Zi{P:Program}{w:World}{o:Oper}{a:Act}{K:Act->World->Prop}{Q:Exit->Act->World->Prop}(s x:Operand)(t:TypeId)
 (ho:o.op=.call { callee:=.builtin .append,args:=#[s,x],argTypes:=#[t,t] })
 (base:Nat) (e:TypeId) (i:TypeInfo) (z:Value) (size B:Nat) (ht:P.underlying t=some (.slice e)) (hi:P.info? e=some i) (hz:i.zero=some z)
 (G:i.size=size) (N:i.bytes=B) (hzs:z.cells.size=size) (O:0<size)
 (v:Value) (n:Nat) (S:List Value) (hs:a.eval s=v) (I:w.ownsRow base e size v n S)
 (L:Addr) (m c:Nat) (A:List Value) (hx:a.eval x=.slice (some L) m c) (Z:A.length=m*size) (F:∀j u,A[j]?=some u->w.cell? (L.add j)=some u) (T:∀u∈A,u.oneCell'=true)
 (M:n+m<=maxLen) (C:(n+m)*B<=140737488355328) (E:base<=w.heap.size)
 (h:∀H J,J.ownsRow base e size H (n+m) (S++A)->w.grownBy J v.ownBlock->(H=.slice none 0 0↔v=.slice none 0 0/\m=0)->(H.ownBlock=v.ownBlock\/H.ownBlock=some w.heap.size)->K (a.put o.dst H) J) :
 o.wp P a w K Q:=by
 obtain⟨H,J,hr,U,V,X,Y⟩:=Tk (P:=P) w base t o.type e i z size B ht hi hz G N hzs O v n S I L m c A Z F T M C E;unfold Oper.wp execOp;simp only[ho,resolve,invoke,builtin,tH,tJ,tB,ui,WA,ub,hs,hx,hr];exact h H J U V X Y
def zcD(C:xT)(a b:List En)(va vb:Value)(w:World)(f:Q9)(op:FuncId)(aT:∀r,Cn xt op [rg (zT a r),rg (zT b r)] (rg (qy f (zT a r) (zT b r))))
 (ha:SmV a) (hb:SmV b) (ra:RdF C w.heap.size w va a) (rb:RdF C w.heap.size w vb b) (hC:∀b o,C b o->b<w.heap.size) (hG:GL C w) :
 Calls xt 107 #[va,vb,.func (.func op) #[] #[]] w λe w'=>∃v,e=.returned v/\Below w.heap.size w w'/\Dat (DL C w.heap.size w') w' v (vp (ks f a b)):=by
 have ch:=qL (J4 C a b va vb w ha hb ra rb hC hG);have bX:=qL hG;have aw:=(aT 0).1;have cg:=qL aT;have HM:=qL (Xr ha.1 hb.1);obtain⟨I,K⟩:=xm (zM a++zM b);have cr:I.length<=2097152:=by have h1:=ha.2.1;have h2:=hb.2.1;rw[K];simp[zM];omega
 have ax:ks f a b=(srt I).filterMap (vE f a b):=by rw[K];rfl
 rw[<-K]at HM;have bh:=qL ax;have cH:=qL K;clear hG ra rb aT ax;have aA:True:=trivial;have aB:True:=trivial;go_enter func107,ntmps107
 go_wp2_with (first
  | (go_at_call 146;have _t:=aA;refine ch.o.mono ?_;rintro e J ⟨rfl,bt,D,A,ab⟩
     rw[<-K]at ab;have cW:w.heap.size<J.heap.size:=A.lt;have cc:=qL A;have bi:=qL ab;have bR:=qL bt;clear A ab bt aA)
  |(at_range;have _t:=aB;refine TK _ rfl _ 229 rfl 36 234 vF underlying229 rV w.heap.size (a.length+b.length) D rfl (cc.o.alloc _) ?_;intro w2 ak Q cC;clear aB)
  |go_in)
 go_frame
 simp only[tx]at ak cC⊢;clear K;have cP:=qL Q;have au:Boxed w2 J.heap.size 232 (.slice none 0 0):=(tX J _ _).kept Q b6;have bc:qA (∀k,k<J.heap.size->w2.heap[k]?=J.heap[k]?):=qL λk hk=>(Q.block k a9 b6).trans (tw _ _ _ hk);have bS:=qL (jL bR.o (S:=λ_=>False) ⟨Q.os,Q.tape,Q.output,V0 b6 Q.size,λk hk _=>bc.o k hk⟩ (λ_ _ h=>h) (Zp _));clear Q;go_loopg [9] (Maps.size D) (λg x wr=>∃left xs v,wr.ranges xt 36 rV w.heap.size (J.heap.size+1) (a.length+b.length) D left g/\(∀r,r∈xs↔r∈I/\left (kR r)=false)/\(∀r,left (kR r)=true->r∈I) /\
  OwnU (J.heap.size+2) wr v (srt xs)/\Boxed wr J.heap.size 232 v/\Keep (λk=>J.heap.size<=k) w2 wr)
 case atStart=>
  have ab:=bi.o;refine⟨Maps.has D,[],.slice none 0 0,ak,λr=>?_,λr h=>?_,?_,au,Keep.refl _ _⟩
  .rw[(ab.2 r).1];simp
  .rw[(ab.2 r).1]at h;simpa using h
  .rw[XB];exact tV _ _ _ _
 case round=>
  obtain⟨left,xs,v,bM,aV,bF,A,bw,hK⟩:=hrel;obtain⟨wl,cE⟩:∃x,x=wr:=⟨_,rfl⟩;subst cE;have bj:=qL bM;have ao:=qL aV;have aF:=qL bF;have af:=qL A;have aD:=qL bw;have bZ:=qL hK;have bN:(srt xs).length<=2097152:=V0 (zeK _ I (yi xs) λy hy=>((aV y).1 (qr.1 hy)).1) cr;have cJ:w2.heap.size<=wl.heap.size:=hK.size;have cb:qA (∀k,k<J.heap.size->wl.heap[k]?=J.heap[k]?):=qL λk hk=>(hK.block k a8 a8).trans (bc.o k hk);have aW:=qL (jL bS.o hK (λk hk=>a8) (Zp _));have aZ:qA (GL C wl):=qL (bX.o.mono (λ_ _ h=>h) λj o x B V=>(tp (a:=⟨j,o,none⟩) (aW.o.block j (hC j o B))).trans V);clear ak au bM aV bF A bw hK
  go_wp2_with (first
   |(at_next;refine TF _ rfl _ rfl 36 vF rV (λr:{r:Nat // r<zk}=>Value.int .u64 (r.1:Nat)) (λc:Value=>c) zhV (λv y _=>⟨v,rfl⟩) w.heap.size (J.heap.size+1) (a.length+b.length) D left gk rfl bj.o ?_ ?_)
   |go_in)
  ·intro cS bE;have hL:srt xs=srt I:=XA (yi I) λy=>(by rw[qr,ao.o y,bE];simp);have Y:=af.o;rw[hL]at Y bN;have c0:=aD.o.cell;have A:=bj.o.owns;have HO:=qL A;clear A bE hL af ao aF;obtain⟨L,aJ⟩:=xm (srt I);rw[<-aJ]at Y bN;obtain⟨ad,cR,rfl,cI,cq,bz⟩:=Y.shape;unfold maxLen at cq;have bU:=qL bz;have bg:=qL aJ;clear bz aJ Y
   go_wp2_with fail
   go_loopg [10,29] L.length (λg y x wr=>∃k,k<=L.length/\g=L.length-k/\x=.int .i64 k/\OutE C w.heap.size wl.heap.size wr y ((L.take k).filterMap (vE f a b))/\Keep (λk=>wl.heap.size<=k) wl wr)
   case atStart=>exact⟨0,X3 _,rfl,rfl,OutE.start _ _ _ _,Keep.refl _ _⟩
   case round=>
    obtain⟨k,hk,rfl,rfl,ay,br⟩:=hrel;have ac:=qL br;have F:=qL ay;clear br ay;have cK:=ac.o.size;have am:qA (∀j,j<wl.heap.size->wr.heap[j]?=wl.heap[j]?):=qL λj B=>ac.o.block j B a8;have bT:=qL (jL aW.o ac.o (λk hk=>a8) (Zp _));by_cases M:k<L.length
    .obtain⟨g,cn,ct,Z⟩:=bU.o (λe=>by rw[e]at M;simp at M);subst cn;obtain⟨r,hr⟩:=xm (L[k]);have cB:r<zk:=HM.o r (by rw[hr,<-bg.o];exact XE M);have ck:wr.cell? ⟨g,k,none⟩=some (.int .u64 (r:Nat)):=(by rw[hr];exact(tp (a:=⟨g,k,none⟩) (am.o g ct)).trans (Z k M));obtain⟨s0,s1,aq,aL,aM⟩:=(bi.o.2 r).2;obtain⟨a0,n0,rfl⟩:=zK aL;obtain⟨a1,n1,rfl⟩:=zK aM;have aQ:=Qf (yg HO.o (am.o _ a8)) cB aq;have aR:∀j o x,DL C w.heap.size J j o->J.cell? ⟨j,o,none⟩=some x->wr.cell? ⟨j,o,none⟩=some x:=λj o x B V=>(by have bB:=tr J ⟨j,o,none⟩ V;exact(tp (a:=⟨j,o,none⟩) ((am.o j (vw bB a8)).trans (cb.o j bB))).trans V);have aN:∀j o,DL C w.heap.size J j o->DX C w.heap.size wr u10 j o:=λj o B=>⟨B.imp id λh=>⟨h.1,a8⟩,λe=>by
      have h5:=(F.o.owns j e).1;rcases B with B|B
      .have:=hC j o B;omega
      .omega⟩
     have ag:∀j o,DX C w.heap.size wr u10 j o->j<wr.heap.size:=λj o h=>h.1.elim (λh=>by have:=hC j o h;omega) uf;have aI:GL (DX C w.heap.size wr u10) wr:=aZ.o.mono (λj o h=>⟨.inl h,λe=>by have h5:=(F.o.owns j e).1;have:=hC j o h;omega⟩) λj o x B V=>(tp (a:=⟨j,o,none⟩) (am.o j (by have:=hC j o B;omega))).trans V;have an:=qL ag;have ba:=qL aI;have ae:=qL (jP (cg.o r) aI ag (vs:=#[.slice a0 (zT a r).length n0,.slice a1 (zT b r).length n1]) rfl (λi p H=>by
      match i,H with
      |0,H=>cases H;exact aL.mono aN aR
      |1,H=>cases H;exact aM.mono aN aR
      |i+2,H=>simp at H))
     have bJ:Nrm (qy f (zT a r) (zT b r)):=qH (qi ha.1 r) (qi hb.1 r);have cA:(qy f (zT a r) (zT b r)).length<=80100:=(by have h1:=xR f (zT a r) (zT b r);have h2:=ji (n:=1048576) (h:=10000) ha r;have h3:=ji (n:=1048576) (h:=10000) hb r;omega);have aS:=zjT r (qy f (zT a r) (zT b r)) bJ a8;obtain⟨e,ok,hE⟩:∃e ok,Qi r (qy f (zT a r) (zT b r))=(e,ok):=⟨_,_,rfl⟩;rw[hE]at aS;have aG:=qL aS;have bG:=zac (f:=f) (a:=a) (b:=b) hE;have aU:=KZ (f:=f) (a:=a) (b:=b) M;rw[<-hr,bG]at aU;have bn:=qL aU;have cV:e.holes.length<=1000000:=(by have:=J0 r (qy f (zT a r) (zT b r));rw[hE]at this;simp only at this;omega);have cy:(zT a r).length<=maxLen:=(by have:=ji (n:=1048576) (h:=10000) ha r;unfold maxLen;omega);have cz:(zT b r).length<=maxLen:=(by have:=ji (n:=1048576) (h:=10000) hb r;unfold maxLen;omega);unfold maxLen at cy cz;have i0:=zkr a0 a1 (zT a r).length (zT b r).length n0 n1;have i1:=zks a0 a1 (zT a r).length (zT b r).length n0 n1;obtain⟨ls,bH⟩:=xm (qy f (zT a r) (zT b r));rw[<-bH]at aG ae cA;clear aS hE bG aU aq aL aM aR aN Z ag aI bJ hr bH;have cL:True:=trivial;have cM:True:=trivial;have cN:True:=trivial;cases ok with
     | false=>
       go_wp2_with fail
       refine Ja (t:=35) (f:=op) (xs:=[.tmp 39,.tmp 43]) rfl rfl rfl rfl aw ?_;refine ae.o.mono ?_;rintro e' w3 ⟨v3,rfl,G,U⟩;obtain⟨a3,n3,rfl⟩:=zK U;have E:=qL G;have aE:=qL U;clear G U;dsimp only
       go_wp2_with fail
       refine(jP aG.o (D:=λj o=>DX C w.heap.size wr u10 j o\/(wr.heap.size<=j/\j<w3.heap.size)) (ba.o.mono (λ_ _ h=>.inl h) λj o x B V=>(tp (a:=⟨j,o,none⟩) (E.o.block j (an.o j o B))).trans V) (λj o h=>h.elim (λh=>vw (an.o j o h) E.o.size) uf) rfl (λi p H=>?_)).mono ?_
       .match i,H with
        |0,H=>cases H;exact .v _
        |1,H=>cases H;exact aE.o
        |i+2,H=>simp at H
       rintro e' X ⟨v4,rfl,ah,ai⟩;obtain⟨N,O,rfl,P⟩:=Yk ai;have T:=qL ah;have aY:=qL P;clear ah ai P;dsimp only
       go_wp2_with fail
       go_roundg (L.length-(k+1));case measure=>omega
       case rel=>
        have cj:=E.o.size;have cm:=T.o.size;refine⟨k+1,M,rfl,b6,?_,ac.o.trans (((Keep.of_below' E.o (Zp _)).trans (Keep.of_below' T.o (Zp _))).alloc _)⟩;rw[bn.o];simp only[uC,U0,Option.toList_none,Wc];exact F.o.keep a9 λj B=>by rw[tw _ _ _ a8,T.o.block j a8,E.o.block j B]
     | true=>
       go_wp2_with fail
       refine Ja (t:=35) (f:=op) (xs:=[.tmp 39,.tmp 43]) rfl rfl rfl rfl aw ?_;refine ae.o.mono ?_;rintro e' w3 ⟨v3,rfl,G,U⟩;obtain⟨a3,n3,rfl⟩:=zK U;have E:=qL G;have aE:=qL U;clear G U;dsimp only
       go_wp2_with fail
       refine(jP aG.o (D:=λj o=>DX C w.heap.size wr u10 j o\/(wr.heap.size<=j/\j<w3.heap.size)) (ba.o.mono (λ_ _ h=>.inl h) λj o x B V=>(tp (a:=⟨j,o,none⟩) (E.o.block j (an.o j o B))).trans V) (λj o h=>h.elim (λh=>vw (an.o j o h) E.o.size) uf) rfl (λi p H=>?_)).mono ?_
       .match i,H with
        |0,H=>cases H;exact .v _
        |1,H=>cases H;exact aE.o
        |i+2,H=>simp at H
       rintro e' X ⟨v4,rfl,ah,ai⟩;obtain⟨N,O,rfl,P⟩:=Yk ai;have T:=qL ah;have aY:=qL P;clear ah ai P;dsimp only
       go_wp2_with fail
       have bO:((X.alloc (.cells #[.int .u64 e.rep,.int .u64 e.max,.slice N e.holes.length O] 181)).alloc (.cells #[.int .u64 e.rep,.int .u64 e.max,.slice N e.holes.length O] 181)).heap.size=X.heap.size+2:=b6;have cj:=E.o.size;have cm:=T.o.size;have aK:∀j,j<wr.heap.size->((X.alloc (.cells #[.int .u64 e.rep,.int .u64 e.max,.slice N e.holes.length O] 181)).alloc (.cells #[.int .u64 e.rep,.int .u64 e.max,.slice N e.holes.length O] 181)).heap[j]?=wr.heap[j]?:=λj B=>(by rw[tw _ _ _ a9,tw _ _ _ a8,T.o.block j a8,E.o.block j B]);obtain⟨cG,aH,bq⟩:=F.o.keep a8 aK;have bI:((X.alloc (.cells #[.int .u64 e.rep,.int .u64 e.max,.slice N e.holes.length O] 181)).alloc (.cells #[.int .u64 e.rep,.int .u64 e.max,.slice N e.holes.length O] 181)).heap[X.heap.size+1]?=some (.cells #[.int .u64 e.rep,.int .u64 e.max,.slice N e.holes.length O] 181 (0,0)):=by
        have:=tq (X.alloc (.cells #[.int .u64 e.rep,.int .u64 e.max,.slice N e.holes.length O] 181)) (.cells #[.int .u64 e.rep,.int .u64 e.max,.slice N e.holes.length O] 181)
        rwa[tx]at this
       have bA:Dat (DX C w.heap.size ((X.alloc (.cells #[.int .u64 e.rep,.int .u64 e.max,.slice N e.holes.length O] 181)).alloc (.cells #[.int .u64 e.rep,.int .u64 e.max,.slice N e.holes.length O] 181)) u10) ((X.alloc (.cells #[.int .u64 e.rep,.int .u64 e.max,.slice N e.holes.length O] 181)).alloc (.cells #[.int .u64 e.rep,.int .u64 e.max,.slice N e.holes.length O] 181)) (.slice N e.holes.length O) (rg e.holes):=by
        refine aY.o.mono (λj o h=>?_) λj o x h V=>?_
        .have bP:wr.heap.size<=j->j<X.heap.size->DX C w.heap.size ((X.alloc (.cells #[.int .u64 e.rep,.int .u64 e.max,.slice N e.holes.length O] 181)).alloc (.cells #[.int .u64 e.rep,.int .u64 e.max,.slice N e.holes.length O] 181)) u10 j o:=λh1 h2=>⟨.inr ⟨a8,a8⟩,λh=>by have:=(F.o.owns j h).2;omega⟩;rcases h with(h|h)|h
         .exact⟨h.1.imp id λh=>⟨h.1,a8⟩,h.2⟩
         .exact bP h.1 a8
         .exact bP a8 h.2
        .have bC:=tr X ⟨j,o,none⟩ V;exact(tp (a:=⟨j,o,none⟩) (by rw[tw _ _ _ (by simp;exact Us bC),tw _ _ _ bC])).trans V
       have cU:((L.take k).filterMap (vE f a b)).length<=k:=V0 (Uf _ _) a9;obtain⟨ie,cu,cF,cD,co⟩:=tR zkk;refine Zi _ _ 57 rfl wl.heap.size 181 ie _ 3 40 underlying57 cu cF cD co rfl b8 _ _ cG rfl aH ⟨X.heap.size+1,0,none⟩ 1 1 [.int .u64 e.rep,.int .u64 e.max,.slice N e.holes.length O] rfl rfl (λj u B=>by
        rw[zh,wn];exact(zW bI j u (dK B)).1) (λu hu=>by simp at hu;rcases hu with rfl|rfl|rfl<;>rfl) c8 a8 a8 ?_
       intro v6 w6 bL aP _ ar;have ci:=qL (OutE.push (mb:=w.heap.size) bq aH bA hC a8 bL aP ar);have bW:=qL aP;have cO:=qL aK;have cQ:=qL bO;have cf:=qL (λj (h:u10.ownBlock=some j)=>(F.o.owns j h).1);clear bL aP ar aH bq bA bI aK bO
       go_wp2_with fail
       go_roundg (L.length-(k+1));case measure=>omega
       case rel=>refine⟨k+1,M,rfl,b6,?_,ac.o.trans ((((((Keep.of_below' E.o (Zp _)).trans (Keep.of_below' T.o (Zp _))).alloc _).alloc _).grown bW.o λj B _=>cf.o j B))⟩;rw[bn.o];simp only[UM,Option.toList_some];exact ci.o
    .obtain rfl:k=L.length:=a8
     go_wp2_with fail
     refine tA (tL rfl _ _ _) rfl ?_;have h:=F.o.dat a8;rw[Wr,bg.o,<-bh.o]at h;exact⟨_,rfl,bT.o,h⟩
  .intro x V c kl y ys w3 bp aj aQ hv aq az M aO cX cs;try dsimp only at aj cs⊢
   obtain rfl:kl=kR x:=(by have:=(Zq V).symm.trans aj;simpa using this.symm);have bl:=qL az;have bY:=qL ((bZ.o.grown aO (λk hk _=>by cases hk;omega)));have G:∀k,k≠J.heap.size+1->k<wl.heap.size->w3.heap[k]?=wl.heap[k]?:=λk hk cx=>aO.block k cx (λe=>hk (by cases e;rfl));have E:=qL G;have bu:=aD.o.lt;have bQ:=qL (zaD (C:=C) (base:=J.heap.size+2) (rb:=J.heap.size) (w:=w3) (v:=v) (xs:=xs) x (af.o.keep λg hg=>G g (by have:=(af.o.lt g hg).1;omega) (af.o.lt g hg).2) ((G _ a8 bu).trans aD.o) a8 (λh=>by have:=((ao.o x).1 h).2;rw[aQ]at this;cases this) a8 a8
    (λb o h=>by have:=hC b o h;omega) (aZ.o.mono (λ_ _ h=>h) λj o y B hy=>(tp (a:=⟨j,o,none⟩) (G j (by have:=hC j o B;omega) (by have:=hC j o B;omega))).trans hy))
   clear aj hv aq az aO G;have aC:True:=trivial
   go_wp2_with (first
    |(go_at_call 147;have _t:=aC;refine bQ.o.mono ?_;rintro e X ⟨⟨u,rfl⟩,v',av,bK,bD⟩;have aX:=qL av;have ce:=qL bK;have be:=qL bD;clear av bK bD aC)
    |go_in)
   go_roundg bp;case measure=>exact M
   case rel=>
    have hm:∀k,k<w3.heap.size->k≠J.heap.size->k<J.heap.size+2->X.heap[k]?=w3.heap[k]?:=λk hk h1 h2=>be.o.block k hk a8;refine⟨_,xs++[x],v',yD bl.o (hm _ a8 a8 a8) (hm _ a8 a8 a8),λr=>?_,λr h=>?_,ce.o,aX.o,bY.o.trans (be.o.mono λk _ h=>a8)⟩
    .rw[QM,wF,ao.o r,wH];constructor
     .rintro(⟨h1,h2⟩|rfl)
      .exact⟨h1,.inl h2⟩
      .exact⟨aF.o _ aQ,.inr rfl⟩
     .rintro⟨h1,h2|h2⟩
      .exact .inl ⟨h1,h2⟩
      .exact .inr h2
    .exact aF.o r (by cases h0:left (kR r)with|true=>rfl|false=>rw[h0]at h;simp at h)
def yZ{f:FuncId}{E:List PV}{r:PV}(I:r.own=none)(u:∀j w,(callFunc f j).run xt w=.ok (.enter f j) w)
 (h:∀(D:xT)(w:World)(A:Array Value),GL D w->(∀b o,D b o->b<w.heap.size)->A.size=E.length->(∀(i:Nat) p,E[i]?=some p->Dat D w (A.getD i undef) p) ->
   Calls xt f A w λe B=>∃v,e=.returned v/\Below w.heap.size w B/\Dat (λb o=>D b o\/(w.heap.size<=b/\b<B.heap.size)) B v r):Cn xt f E r:=by
 refine⟨u,λD w A G F C H=>(h D w A G F C H).mono ?_⟩;rintro e B ⟨v,rfl,hb,J⟩;exact⟨v,_,rfl,hb,λb o h=>.inl h,λb o h=>h.imp id UT,λb o h=>h.elim (λh=>vw (F b o h) hb.size) uf,J,zr I⟩
def zjx{j:Array Value}(h:j.size=3):j=#[j.getD 0 undef,j.getD 1 undef,j.getD 2 undef]:=by
 obtain⟨l⟩:=j;match l,h with
 |[x,y,z],_=>rfl
def zcA{D:xT}{w:World}{x:Value}{f:Fn}(h:Dat D w x (.fn f [] [])):x=.func f #[] #[]:=by
 cases h with
 |fn f va vb fs cs h1 h2 _ _=>rw[Ut.1 h1,Ut.1 h2]
def SmV.bd{v:List En}(h:SmV v):∀e∈v,ZL e:=λe j=>Jg (h.1.1 e j)
def zde(a b:List En)(f:Q9)(op:FuncId)(B:∀r,Cn xt op [rg (zT a r),rg (zT b r)] (rg (qy f (zT a r) (zT b r))))(E:SmV a)(hb:SmV b):
 Cn xt 107 [vp a,vp b,.fn (.func op) [] []] (vp (ks f a b)):=by
 refine yZ rfl (enters_of func107 dL rfl) λD w G F u C j=>?_;rw[zjx C,zcA (j 2 _ rfl)];refine(zcD D a b _ _ w f op B E hb (dat_rdf (j 0 _ rfl) u E.bd) (dat_rdf (j 1 _ rfl) u hb.bd) u F).mono ?_;rintro e H ⟨v,rfl,A,j⟩;exact⟨v,rfl,A,j.mono (λb o h=>h.imp id λh=>⟨a8,h.2⟩) λ_ _ _ _ h=>h⟩
def qS{v:List En}(h:SmV v)(r:Nat):Nrm (zT v r)/\(zT v r).length<=20003:=⟨qi h.1 r,ji (n:=1048576) (h:=10000) h r⟩
def zdc(a b:List En)(j:SmV a)(hb:SmV b):Cn xt 65 [vp a,vp b] (vp (ks zn a b)):=by
 have h:=zde a b zn 108 (λr=>zaz _ _ (qS j r).1 (qS hb r).1 (by have:=(qS j r).2;have:=(qS hb r).2;omega)) j hb;refine zt func65 2 ?_;refine pw ?_
 (first|exact .d (h)|exact .q (h))
end
end Go.Proofs.YtmpnbdhadjfbhaaGreatDoor
